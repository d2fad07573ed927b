/-
  What the walks gather: panes, places, lines.
-/
import Derived.Test.YtflbfmfaccaffaaDoorL3
namespace Go.Proofs.YtflbfmfaccaffaaDoor
open Go Go.RowKit
attribute [local go_sem] extUpon
attribute [local go_sem ↓] eval_put_ne eval_put_none eval_put_same size_put eval_const

/-- A box with a row of the call's own in it. -/
structure BoxAt (w : World) (B g : Nat) (bt e : TypeId) (size : Nat) (v : Value) (n : Nat) (xs : List Value) : Prop where
  blk : w.heap[g]? = some (.cells #[v] bt (0, 0))
  own : w.ownsRow B e size v n xs
  low : B ≤ g
section
variable {w w1 : World} {B g : Nat} {bt e : TypeId} {size : Nat} {v v' : Value} {n n' : Nat} {xs xs' : List Value}
theorem BoxAt.ext (h : BoxAt w B g bt e size v n xs) (he : Ext w w1) : BoxAt w1 B g bt e size v n xs := ⟨he.blk h.blk, own_ext he h.own, h.low⟩
theorem BoxAt.cell (h : BoxAt w B g bt e size v n xs) : w.cell? ⟨g, 0, none⟩ = some v := cell_blk h.blk rfl
theorem BoxAt.here (h : BoxAt w B g bt e size v n xs) : g < w.heap.size := (Array.getElem?_eq_some_iff.1 h.blk).1
theorem BoxAt.frozen (h : BoxAt w B g bt e size v n xs) : w.frozen? ⟨g, 0, none⟩ = false := by simp [World.frozen?, h.blk]
theorem BoxAt.back (h : BoxAt w B g bt e size v n xs) : back w g = v.ownBlock := by
  unfold Proofs.YtflbfmfaccaffaaDoor.back
  rw [h.cell]
  cases v <;> first | rfl | skip
  rename_i a n c
  cases a <;> rfl
theorem BoxAt.far (h : BoxAt w B g bt e size v n xs) : Far B g w := ⟨h.low, h.here, fun k hk => by rw [h.back] at hk; exact h.own.lt k hk⟩
theorem BoxAt.row_ne (h : BoxAt w B g bt e size v n xs) (hne : e ≠ bt) : v.ownBlock ≠ some g := by
  intro hb
  rcases h.own.2 with ⟨rfl, _⟩ | ⟨g', cap, cur, rfl, _, hh, _⟩
  · cases hb
  · simp only [Value.ownBlock, Option.some.injEq] at hb
    subst hb
    rw [h.blk] at hh
    simp only [Option.some.injEq, Obj.cells.injEq] at hh
    exact hne hh.2.1.symm
theorem BoxAt.grown (h : BoxAt w B g bt e size v n xs) (hne : e ≠ bt) (hg : w.grownBy w1 v.ownBlock) : w1.heap[g]? = some (.cells #[v] bt (0, 0)) :=
  (hg.block g h.here (fun h' => h.row_ne hne h'.symm)).trans h.blk
/-- Behind an append, stored. -/
theorem BoxAt.app (h : BoxAt w B g bt e size v n xs) (hne : e ≠ bt) (hg : w.grownBy w1 v.ownBlock) (ho : w1.ownsRow B e size v' n' xs')
    (hv : ∀ k, v'.ownBlock = some k → v.ownBlock = some k ∨ w.heap.size ≤ k) : BoxAt (w1.setCell ⟨g, 0, none⟩ v') B g bt e size v' n' xs' ∧ Mv g w (w1.setCell ⟨g, 0, none⟩ v') := by
  have hb := h.grown hne hg
  have hset : (w1.setCell ⟨g, 0, none⟩ v').heap[g]? = some (.cells #[v'] bt (0, 0)) := by simp [World.setCell, Array.getElem?_modify, hb]
  have hng : v'.ownBlock ≠ some g := by
    intro hb'
    rcases ho.2 with ⟨rfl, _⟩ | ⟨g', cap, cur, rfl, _, hh, _⟩
    · cases hb'
    · simp only [Value.ownBlock, Option.some.injEq] at hb'
      subst hb'
      rw [hb] at hh
      simp only [Option.some.injEq, Obj.cells.injEq] at hh
      exact hne hh.2.1.symm
  have hown : (w1.setCell ⟨g, 0, none⟩ v').ownsRow B e size v' n' xs' := by
    refine ⟨ho.1, ?_⟩
    rcases ho.2 with h2 | ⟨g', cap, cur, rfl, hb2, hh, r⟩
    · exact .inl h2
    · exact .inr ⟨g', cap, cur, rfl, hb2, (Below.heap_setCell w1 ⟨g, 0, none⟩ _ g' (fun e' => hng (by simp only at e'; rw [← e']; rfl))).trans hh, r⟩
  have hB : BoxAt (w1.setCell ⟨g, 0, none⟩ v') B g bt e size v' n' xs' := ⟨hset, hown, h.low⟩
  refine ⟨hB, hg.os, hg.tape, hg.output, by simpa [World.setCell] using hg.size, fun k hk hkg hkb => ?_, fun k hk => ?_⟩
  · rw [h.back] at hkb
    exact (Below.heap_setCell w1 ⟨g, 0, none⟩ v' k hkg).trans (hg.block k hk (fun h' => hkb h'.symm))
  · rw [hB.back] at hk
    rw [h.back]
    exact hv k hk
end

theorem grown_ext {w w1 w2 : World} {row : Option Nat} (h : w.grownBy w1 row) (he : Ext w1 w2) : w.grownBy w2 row :=
  ⟨he.os.trans h.os, he.tape.trans h.tape, he.output.trans h.output, Nat.le_trans h.size he.size, fun k hk hr => (he.block k (Nat.lt_of_lt_of_le hk h.size)).trans (h.block k hk hr)⟩

/-- The panes among what was visited, with their boxes. -/
def leafs (l : List (LT × Bx)) : List (Int × Bx) := l.filterMap fun x => match x.1 with | .leaf _ p => some (p, x.2) | _ => none
/-- The lines. -/
def cuts (l : List (LT × Bx)) : List (Bx × Bool) := l.filterMap fun x => match x.1 with
  | .leaf .. => none
  | .node _ _ _ a k => if 3 ≤ wide a x.2 then some (slc a x.2 (held k (wide a x.2)) 1, a) else none
def Bx.vals (r : Bx) : List Value := [.int .i64 r.row, .int .i64 r.col, .int .i64 r.rows, .int .i64 r.cols]
theorem leafs_len (l : List (LT × Bx)) : (leafs l).length ≤ l.length := List.length_filterMap_le _ _
theorem cuts_len (l : List (LT × Bx)) : (cuts l).length ≤ l.length := List.length_filterMap_le _ _
theorem leafs_snoc (l : List (LT × Bx)) (b p : _) (r : Bx) : leafs (l ++ [(.leaf b p, r)]) = leafs l ++ [(p, r)] := by simp [leafs]
theorem leafs_node (l : List (LT × Bx)) (b x y a k : _) (r : Bx) : leafs (l ++ [(.node b x y a k, r)]) = leafs l := by simp [leafs]
theorem cuts_leaf (l : List (LT × Bx)) (b p : _) (r : Bx) : cuts (l ++ [(.leaf b p, r)]) = cuts l := by simp [cuts]
theorem cuts_node (l : List (LT × Bx)) (b x y a k : _) (r : Bx) : cuts (l ++ [(.node b x y a k, r)]) = cuts l ++ (if 3 ≤ wide a r then [(slc a r (held k (wide a r)) 1, a)] else []) := by
  simp only [cuts, List.filterMap_append, List.filterMap_cons, List.filterMap_nil]
  by_cases h : 3 ≤ wide a r <;> simp [h]
theorem leafs_visit : ∀ (t : LT) (r : Bx), leafs (t.visit r) = t.panes.zip (t.places r)
  | .leaf b p, r => by simp [leafs, LT.visit, LT.panes, LT.places]
  | .node b x y a k, r => by
    have hl : ∀ (t : LT) (r : Bx), t.panes.length = (t.places r).length := by
      intro t; induction t with
      | leaf => intro r; rfl
      | node b x y a k hx hy => intro r; simp [LT.panes, LT.places, ← hx, ← hy]
    have := leafs_visit x (parts a k r).1
    have h2 := leafs_visit y (parts a k r).2
    simp only [leafs] at this h2 ⊢
    simp [LT.visit, LT.panes, LT.places, this, h2, List.zip_append (hl x _)]
theorem cuts_visit : ∀ (t : LT) (r : Bx), cuts (t.visit r) = t.lines r
  | .leaf b p, r => by simp [cuts, LT.visit, LT.lines]
  | .node b x y a k, r => by
    have := cuts_visit x (parts a k r).1
    have h2 := cuts_visit y (parts a k r).2
    simp only [cuts] at this h2 ⊢
    by_cases h : 3 ≤ wide a r <;> simp [LT.visit, LT.lines, this, h2, h]
theorem panes_len : ∀ (t : LT) (r : Bx), t.panes.length = (t.places r).length
  | .leaf .., _ => rfl
  | .node b x y a k, r => by simp [LT.panes, LT.places, panes_len x (parts a k r).1, panes_len y (parts a k r).2]

def PaneI (B g : Nat) (l : List (LT × Bx)) (w : World) : Prop := ∃ v, BoxAt w B g 35 3 1 v (leafs l).length ((leafs l).map fun x => .int .i64 x.1)

set_option maxHeartbeats 2000000 in
set_option maxRecDepth 100000 in
theorem panes_one (B g : Nat) (L : List (LT × Bx)) (hL : L.length ≤ 1000000) : One 38 g B (PaneI B g) L := by
  intro l t r w hpre hi ht hb hr hs hB hf
  obtain ⟨v, hi⟩ := hi
  have hlen : (leafs l).length ≤ 1000000 := by
    have h1 := leafs_len l
    have h2 := hpre.length_le
    simp at h2; omega
  clear hpre hL
  cases t with
  | node b x y a k =>
    have HL := hid (fun w' (hw : LtAt w' (.node b x y a k)) => (leaf_any (.node b x y a k) w' hw : Calls Tryd.prog 37 #[ptr b] w' fun e w'' => e = .returned (.bool false) ∧ w'' = w'))
    have HT := hid ht
    have HI := hid hi
    have HN : Hid (leafs (l ++ [(.node b x y a k, r)]) = leafs l) := hid (leafs_node ..)
    clear ht hi hb hs
    unfold ptr Bx.val LT.b at *
    go_enter Tryd.func38, Tryd.ntmps38
    go_wp2_with fail
    refine (HL.out _ (HT.out.ext (Ext.alloc _ _))).mono ?_
    rintro e w2 ⟨rfl, rfl⟩
    go_wp2_with fail
    simp [bodyPost, results, Tryd.results38, go_sem]
    exact ⟨⟨v, by rw [HN.out]; exact HI.out.ext (Ext.alloc _ _)⟩, Mv.of_ext (Ext.alloc _ _) HI.out.here, HI.out.far.ext (Ext.alloc _ _)⟩
  | leaf b p =>
    have HL := hid (fun w' (hw : LtAt w' (.leaf b p)) => (leaf_any (.leaf b p) w' hw : Calls Tryd.prog 37 #[ptr b] w' fun e w'' => e = .returned (.bool true) ∧ w'' = w'))
    have HT := hid ht
    have HI := hid hi
    have HN : Hid (leafs (l ++ [(.leaf b p, r)]) = leafs l ++ [(p, r)]) := hid (leafs_snoc ..)
    have HC := hid (fun w' (hw : LtAt w' (.leaf b p)) => (node_cells hw 0 _ rfl : w'.cell? ⟨b, 0, none⟩ = some (.int .i64 p)))
    clear ht hi hb hs
    unfold ptr Bx.val LT.b at *
    go_enter Tryd.func38, Tryd.ntmps38
    go_wp2_with fail
    have HE0 := hid (Ext.alloc w (.cells #[.int .i64 r.row, .int .i64 r.col, .int .i64 r.rows, .int .i64 r.cols] 32 (0, 0)))
    generalize World.alloc _ _ = W1 at *
    refine (HL.out _ (HT.out.ext HE0.out)).mono ?_
    rintro e w2 ⟨rfl, rfl⟩
    go_wp2_with fail
    refine reg_begin 6 (by kernel_rfl) ?_
    generalize hW : World.drew _ = W
    have HE := hid (by rw [← hW]; exact HE0.out.trans (Ext.drew _) : Ext w W)
    clear hW
    have HB0 := hid (HI.out.ext HE.out)
    have HC0 := hid (HB0.out.cell)
    have HP := hid (HC.out _ (HT.out.ext HE.out))
    refine reg_quiet 0 rfl (by kernel_rfl) (by kernel_rfl) ?_
    apply Exists.intro
    refine ⟨fun w' hw' => ?_, ?_⟩
    · have q0 := hw'.cell HC0.out
      go_simp
      exact ⟨rfl, Ext.refl _⟩
    refine reg_quiet 1 rfl (by kernel_rfl) (by kernel_rfl) ?_
    apply Exists.intro
    refine ⟨fun w' hw' => ?_, ?_⟩
    · go_simp
      exact ⟨rfl, Ext.refl _⟩
    refine reg_quiet 2 rfl (by kernel_rfl) (by kernel_rfl) ?_
    apply Exists.intro
    refine ⟨fun w' hw' => ?_, ?_⟩
    · go_simp
      exact ⟨rfl, Ext.refl _⟩
    refine reg_quiet 3 rfl (by kernel_rfl) (by kernel_rfl) ?_
    apply Exists.intro
    refine ⟨fun w' hw' => ?_, ?_⟩
    · go_simp
      exact ⟨rfl, Ext.refl _⟩
    refine reg_quiet 4 rfl (by kernel_rfl) (by kernel_rfl) ?_
    apply Exists.intro
    refine ⟨fun w' hw' => ?_, ?_⟩
    · have q0 := hw'.cell HP.out
      go_simp
      exact ⟨rfl, Ext.refl _⟩
    refine reg_one 5 rfl (by kernel_rfl) rfl (fun w' hw' => ?_)
    replace HE := hid (HE.out.trans hw')
    replace HB0 := hid (HB0.out.ext hw')
    clear hw' HC0 HP HC HT HL HE0
    go_simp
    refine ⟨Ext.alloc _ _, ?_⟩
    refine reg_one 6 rfl (by kernel_rfl) rfl (fun w3 hw3 => ?_)
    have hb3 := (Ext.alloc w' _).trans hw3
    have hnw := hw3.blk (blk_new w' _)
    replace HE := hid (HE.out.trans hb3)
    replace HB0 := hid (HB0.out.ext hb3)
    have HNW := hid (World.news_of_block hnw)
    clear hb3 hnw hw3
    generalize w'.heap.size = q at *
    obtain ⟨j0, hi0, hz0, hz1, hz2⟩ := info_parts (show (Tryd.prog.info? 3).map (fun i => (i.zero, i.size, i.bytes)) = some (some (.int .i64 0), 1, 8) by kernel_rfl)
    refine wp_append_lies _ (.tmp 7) (.tmp 12) _ rfl B 3 j0 (.int .i64 0) 1 8 Tryd.underlying35 hi0 hz0 hz1 hz2 rfl (by omega) v (leafs l).length _ (by rfl) HB0.out.own ⟨q, 0, none⟩ 1 1 [.int .i64 p] (by rfl) (by rfl) HNW.out (by intro u hu; simp at hu; subst hu; rfl) (by omega) (by unfold maxLen; omega) (by omega) (by have := HB0.out.low; have := HB0.out.here; omega) w3.heap.size rfl ?_
    intro g1 cap1 w4 hown4 hgrow4 hat4 _
    refine ⟨fun h => absurd h (by decide), ?_⟩
    refine reg_one 7 rfl (by kernel_rfl) rfl (fun w' hw' => ?_)
    replace hgrow4 := grown_ext hgrow4 hw'
    replace hown4 := own_ext hw' hown4
    clear hw'
    have HA := hid (HB0.out.app (by decide) hgrow4 hown4 (by
      intro k hk
      simp only [Value.ownBlock, Option.some.injEq] at hk
      subst hk
      rcases hat4 with h | h
      · exact .inl h
      · exact .inr (by omega)))
    have hb5 := HB0.out.grown (by decide) hgrow4
    have q0 := cell_blk (j := 0) hb5 rfl
    have z0 : ∀ j, w'.frozen? ⟨g, j, none⟩ = false := fun j => by simp [World.frozen?, hb5]
    clear hgrow4 hown4 hat4 hi0 hz0 hz1 hz2 HNW hb5
    go_simp
    clear q0 z0
    generalize World.setCell _ _ _ = w6 at *
    refine reg_done (by kernel_rfl) (fun w7 hw' => ?_) _
    have HM := hid (((Mv.of_ext HE.out HI.out.here).trans HA.out.2).trans (Mv.of_ext hw' HA.out.1.here))
    replace HA := hid (HA.out.1.ext hw')
    clear hw' HB0 HE
    go_simp
    go_wp2_with fail
    simp [bodyPost, results, Tryd.results38, go_sem]
    exact ⟨⟨_, by rw [HN.out]; simpa using HA.out⟩, HM.out, HA.out.far⟩

def PlaceI (B g : Nat) (l : List (LT × Bx)) (w : World) : Prop := ∃ v, BoxAt w B g 29 32 4 v (leafs l).length ((leafs l).flatMap fun x => x.2.vals)

set_option maxHeartbeats 2000000 in
set_option maxRecDepth 100000 in
theorem places_one (B g : Nat) (L : List (LT × Bx)) (hL : L.length ≤ 1000000) : One 36 g B (PlaceI B g) L := by
  intro l t r w hpre hi ht hb hr hs hB hf
  obtain ⟨v, hi⟩ := hi
  have hlen : (leafs l).length ≤ 1000000 := by
    have h1 := leafs_len l
    have h2 := hpre.length_le
    simp at h2; omega
  clear hpre hL
  cases t with
  | node b x y a k =>
    have HL := hid (fun w' (hw : LtAt w' (.node b x y a k)) => (leaf_any (.node b x y a k) w' hw : Calls Tryd.prog 37 #[ptr b] w' fun e w'' => e = .returned (.bool false) ∧ w'' = w'))
    have HT := hid ht
    have HI := hid hi
    have HN : Hid (leafs (l ++ [(.node b x y a k, r)]) = leafs l) := hid (leafs_node ..)
    clear ht hi hb hs
    unfold ptr Bx.val LT.b at *
    go_enter Tryd.func36, Tryd.ntmps36
    go_wp2_with fail
    refine (HL.out _ (HT.out.ext (Ext.alloc _ _))).mono ?_
    rintro e w2 ⟨rfl, rfl⟩
    go_wp2_with fail
    simp [bodyPost, results, Tryd.results36, go_sem]
    exact ⟨⟨v, by rw [HN.out]; exact HI.out.ext (Ext.alloc _ _)⟩, Mv.of_ext (Ext.alloc _ _) HI.out.here, HI.out.far.ext (Ext.alloc _ _)⟩
  | leaf b p =>
    have HL := hid (fun w' (hw : LtAt w' (.leaf b p)) => (leaf_any (.leaf b p) w' hw : Calls Tryd.prog 37 #[ptr b] w' fun e w'' => e = .returned (.bool true) ∧ w'' = w'))
    have HT := hid ht
    have HI := hid hi
    have HN : Hid (leafs (l ++ [(.leaf b p, r)]) = leafs l ++ [(p, r)]) := hid (leafs_snoc ..)
    clear ht hi hb hs
    unfold ptr Bx.val LT.b at *
    go_enter Tryd.func36, Tryd.ntmps36
    go_wp2_with fail
    have HE0 := hid (Ext.alloc w (.cells #[.int .i64 r.row, .int .i64 r.col, .int .i64 r.rows, .int .i64 r.cols] 32 (0, 0)))
    have HR := hid (blk_new w (.cells #[.int .i64 r.row, .int .i64 r.col, .int .i64 r.rows, .int .i64 r.cols] 32 (0, 0)))
    generalize World.alloc _ _ = W1 at *
    refine (HL.out _ (HT.out.ext HE0.out)).mono ?_
    rintro e w2 ⟨rfl, rfl⟩
    have HB0 := hid (HI.out.ext HE0.out)
    have q0 := cell_blk (j := 0) HR.out rfl
    have q1 := cell_blk (j := 1) HR.out rfl
    have q2 := cell_blk (j := 2) HR.out rfl
    have q3 := cell_blk (j := 3) HR.out rfl
    have q4 := HB0.out.cell
    obtain ⟨j0, hi0, hz0, hz1, hz2⟩ := info_parts (show (Tryd.prog.info? 32).map (fun i => (i.zero, i.size, i.bytes)) = some (some (.agg #[.int .i64 0, .int .i64 0, .int .i64 0, .int .i64 0]), 4, 32) by kernel_rfl)
    have HI0 := hid (And.intro hi0 (And.intro hz0 (And.intro hz1 hz2)))
    clear hi0 hz0 hz1 hz2
    go_wp2_with (first | (at_builtin; refine wpList_append_lies _ rfl (.tmp 7) (.tmp 9) _ rfl B 32 j0 (.agg #[.int .i64 0, .int .i64 0, .int .i64 0, .int .i64 0]) 4 32 Tryd.underlying29 HI0.out.1 HI0.out.2.1 HI0.out.2.2.1 HI0.out.2.2.2 rfl (by omega) v (leafs l).length _ (by rfl) (HB0.out.ext (Ext.alloc _ _)).own ⟨w2.heap.size, 0, none⟩ 1 1 r.vals (by rfl) (by rfl) (World.news_of_block (blk_new w2 _)) (by intro u hu; simp [Bx.vals] at hu; rcases hu with rfl | rfl | rfl | rfl <;> rfl) (by omega) (by unfold maxLen; omega) (by omega) (by have := HB0.out.low; have := HB0.out.here; simp; omega) (w2.heap.size + 1) (by simp) ?_; intro g1 cap1 w4 hown4 hgrow4 hat4 _; have hb5 := (HB0.out.ext (Ext.alloc _ _)).grown (by decide) hgrow4; have q5 := cell_blk (j := 0) hb5 rfl; have z0 : ∀ j, w4.frozen? ⟨g, j, none⟩ = false := fun j => by simp [World.frozen?, hb5]))
    have HA := hid ((HB0.out.ext (Ext.alloc w2 (.cells #[.int .i64 r.row, .int .i64 r.col, .int .i64 r.rows, .int .i64 r.cols] 32 (0, 0)))).app (by decide) hgrow4 hown4 (by
      intro k hk
      simp only [Value.ownBlock, Option.some.injEq] at hk
      subst hk
      rcases hat4 with h | h
      · exact .inl h
      · exact .inr (by simp; omega)))
    clear hgrow4 hown4 hat4 hb5 q5 z0 q0 q1 q2 q3 q4
    simp [bodyPost, results, Tryd.results36, go_sem]
    exact ⟨⟨_, by rw [HN.out]; simpa using HA.out.1⟩, (Mv.of_ext (HE0.out.trans (Ext.alloc _ _)) HI.out.here).trans HA.out.2, HA.out.1.far⟩

theorem run_build_border (a b c d : Int) (y : Bool) (w : World) : (Instr.build 67 #[(0, .agg #[.int .i64 a, .int .i64 b, .int .i64 c, .int .i64 d]), (1, .bool y)]).run Tryd.prog w = .ok (.agg #[.int .i64 a, .int .i64 b, .int .i64 c, .int .i64 d, .bool y]) w := by kernel_rfl
def lvals (q : Bx × Bool) : List Value := q.1.vals ++ [.bool q.2]
def LineI (B g : Nat) (l : List (LT × Bx)) (w : World) : Prop := ∃ v, BoxAt w B g 64 67 5 v (cuts l).length ((cuts l).flatMap lvals)

attribute [local go_sem ↓] run_build_border
set_option maxHeartbeats 2000000 in
set_option maxRecDepth 100000 in
theorem lines_one (B g : Nat) (L : List (LT × Bx)) (hL : L.length ≤ 1000000) : One 53 g B (LineI B g) L := by
  intro l t r w hpre hi ht hb hr hs hB hf
  obtain ⟨v, hi⟩ := hi
  have hlen : (cuts l).length ≤ 1000000 := by
    have h1 := cuts_len l
    have h2 := hpre.length_le
    simp at h2; omega
  clear hpre hL
  cases t with
  | leaf b p =>
    have HL := hid (fun w' (hw : LtAt w' (.leaf b p)) => (leaf_any (.leaf b p) w' hw : Calls Tryd.prog 37 #[ptr b] w' fun e w'' => e = .returned (.bool true) ∧ w'' = w'))
    have HW := hid (fun w' (hw : LtAt w' (.leaf b p)) => wide_any b false r w' (node_cells hw 3 _ rfl))
    have HT := hid ht
    have HI := hid hi
    have HN : Hid (cuts (l ++ [(.leaf b p, r)]) = cuts l) := hid (cuts_leaf ..)
    clear ht hi hb hs
    unfold ptr Bx.val LT.b at *
    generalize wide false r = d at *
    go_enter Tryd.func53, Tryd.ntmps53
    go_wp2_with fail
    have HE0 := hid (Ext.alloc w (.cells #[.int .i64 r.row, .int .i64 r.col, .int .i64 r.rows, .int .i64 r.cols] 32 (0, 0)))
    have HR := hid (blk_new w (.cells #[.int .i64 r.row, .int .i64 r.col, .int .i64 r.rows, .int .i64 r.cols] 32 (0, 0)))
    generalize World.alloc _ _ = W1 at *
    have q0 := cell_blk (j := 0) HR.out rfl
    have q1 := cell_blk (j := 1) HR.out rfl
    have q2 := cell_blk (j := 2) HR.out rfl
    have q3 := cell_blk (j := 3) HR.out rfl
    go_wp2_with fail
    refine (HW.out _ (HT.out.ext HE0.out)).mono ?_
    rintro e w2 ⟨rfl, hE⟩
    have HE := hid (HE0.out.trans hE)
    clear hE
    go_wp2_with fail
    refine (HL.out _ (HT.out.ext HE.out)).mono ?_
    rintro e w3 ⟨rfl, rfl⟩
    go_wp2_with fail
    simp [bodyPost, results, Tryd.results53, go_sem]
    exact ⟨⟨v, by rw [HN.out]; exact HI.out.ext HE.out⟩, Mv.of_ext HE.out HI.out.here, HI.out.far.ext HE.out⟩
  | node b x y a k =>
    have HL := hid (fun w' (hw : LtAt w' (.node b x y a k)) => (leaf_any (.node b x y a k) w' hw : Calls Tryd.prog 37 #[ptr b] w' fun e w'' => e = .returned (.bool false) ∧ w'' = w'))
    have HW := hid (fun w' (hw : LtAt w' (.node b x y a k)) => wide_any b a r w' (node_cells hw 3 _ rfl))
    have hd0 : 0 ≤ wide a r ∧ wide a r ≤ 1000000 := by
      obtain ⟨h0, h1, h2, h3, h4, h5⟩ := hr
      unfold wide; split <;> omega
    obtain ⟨hd1, hd2⟩ := hd0
    have hk : k ≤ 1000000 := by simp only [LT.small] at hs; omega
    have HH := hid (fun w' (hw : LtAt w' (.node b x y a k)) => held_any b k (wide a r) w' (node_cells hw 4 _ rfl) (by omega) (by omega) hk)
    have HS := hid (fun f m w' (hf : 0 ≤ f) (hf1 : f ≤ 1000000) (hw : LtAt w' (.node b x y a k)) => slice_any b a r f m w' (node_cells hw 3 _ rfl) hr hf hf1)
    have HC := hid (fun w' (hw : LtAt w' (.node b x y a k)) => (node_cells hw 3 _ rfl : w'.cell? ⟨b, 3, none⟩ = some (.bool a)))
    have hheld : 3 ≤ wide a r → 1 ≤ held k (wide a r) ∧ held k (wide a r) ≤ wide a r - 2 := by unfold held; omega
    have HT := hid ht
    have HI := hid hi
    have HN := hid (cuts_node l b x y a k r)
    clear ht hi hb hs hk
    unfold ptr Bx.val LT.b at *
    generalize wide a r = d at *
    generalize held k d = hh at *
    go_enter Tryd.func53, Tryd.ntmps53
    go_wp2_with fail
    have HE0 := hid (Ext.alloc w (.cells #[.int .i64 r.row, .int .i64 r.col, .int .i64 r.rows, .int .i64 r.cols] 32 (0, 0)))
    have HR := hid (blk_new w (.cells #[.int .i64 r.row, .int .i64 r.col, .int .i64 r.rows, .int .i64 r.cols] 32 (0, 0)))
    generalize World.alloc _ _ = W1 at *
    have q0 := cell_blk (j := 0) HR.out rfl
    have q1 := cell_blk (j := 1) HR.out rfl
    have q2 := cell_blk (j := 2) HR.out rfl
    have q3 := cell_blk (j := 3) HR.out rfl
    go_wp2_with fail
    refine (HW.out _ (HT.out.ext HE0.out)).mono ?_
    rintro e w2 ⟨rfl, hE⟩
    have HE := hid (HE0.out.trans hE)
    replace HR := hid (hE.blk HR.out)
    clear hE q0 q1 q2 q3
    go_wp2_with fail
    refine (HL.out _ (HT.out.ext HE.out)).mono ?_
    rintro e w3 ⟨rfl, rfl⟩
    by_cases h3 : 3 ≤ d
    · obtain ⟨hh1, hh2⟩ := hheld h3
      rw [if_pos h3] at HN
      go_wp2_with fail
      refine reg_begin 13 (by kernel_rfl) ?_
      generalize hW : World.drew _ = W
      replace HE := hid (by rw [← hW]; exact HE.out.trans (Ext.drew _) : Ext w W)
      replace HR := hid (by rw [← hW]; exact (Ext.drew _).blk HR.out : W.heap[w.heap.size]? = some (.cells #[.int .i64 r.row, .int .i64 r.col, .int .i64 r.rows, .int .i64 r.cols] 32 (0, 0)))
      clear hW
      have HB0 := hid (HI.out.ext HE.out)
      have HC0 := hid (HB0.out.cell)
      have HTW := hid (HT.out.ext HE.out)
      have HP := hid (HC.out _ HTW.out)
      have HA0 := hid (cell_blk (j := 0) HR.out rfl)
      have HA1 := hid (cell_blk (j := 1) HR.out rfl)
      have HA2 := hid (cell_blk (j := 2) HR.out rfl)
      have HA3 := hid (cell_blk (j := 3) HR.out rfl)
      refine reg_quiet 0 rfl (by kernel_rfl) (by kernel_rfl) ?_
      apply Exists.intro
      refine ⟨fun w' hw' => ?_, ?_⟩
      · have q0 := hw'.cell HC0.out
        go_simp
        exact ⟨rfl, Ext.refl _⟩
      refine reg_quiet 1 rfl (by kernel_rfl) (by kernel_rfl) ?_
      apply Exists.intro
      refine ⟨fun w' hw' => ?_, ?_⟩
      · go_simp
        exact ⟨rfl, Ext.refl _⟩
      refine reg_quiet 2 rfl (by kernel_rfl) (by kernel_rfl) ?_
      apply Exists.intro
      refine ⟨fun w' hw' => ?_, ?_⟩
      · have q0 := hw'.cell HA0.out; have q1 := hw'.cell HA1.out; have q2 := hw'.cell HA2.out; have q3 := hw'.cell HA3.out
        go_simp
        exact ⟨rfl, Ext.refl _⟩
      refine reg_quiet 3 rfl (by kernel_rfl) (by kernel_rfl) ?_
      apply Exists.intro
      refine ⟨fun w' hw' => ?_, ?_⟩
      · go_simp
        exact ⟨rfl, Ext.refl _⟩
      refine reg_quiet 4 rfl (by kernel_rfl) (by kernel_rfl) ?_
      apply Exists.intro
      refine ⟨fun w' hw' => ?_, ?_⟩
      · go_simp
        exact ⟨rfl, Ext.refl _⟩
      refine reg_quiet 5 rfl (by kernel_rfl) (by kernel_rfl) ?_
      apply Exists.intro
      refine ⟨fun w' hw' => ?_, ?_⟩
      · go_simp
        exact (HH.out w' (HTW.out.ext hw')).mono (fun e w'' h => ⟨h.1, h.2 ▸ Ext.refl _⟩)
      refine reg_quiet 6 rfl (by kernel_rfl) (by kernel_rfl) ?_
      apply Exists.intro
      refine ⟨fun w' hw' => ?_, ?_⟩
      · go_simp
        exact HS.out hh 1 w' (by omega) (by omega) (HTW.out.ext hw')
      refine reg_quiet 7 rfl (by kernel_rfl) (by kernel_rfl) ?_
      apply Exists.intro
      refine ⟨fun w' hw' => ?_, ?_⟩
      · go_simp
        exact ⟨rfl, Ext.refl _⟩
      refine reg_quiet 8 rfl (by kernel_rfl) (by kernel_rfl) ?_
      apply Exists.intro
      refine ⟨fun w' hw' => ?_, ?_⟩
      · go_simp
        exact ⟨rfl, Ext.refl _⟩
      refine reg_quiet 9 rfl (by kernel_rfl) (by kernel_rfl) ?_
      apply Exists.intro
      refine ⟨fun w' hw' => ?_, ?_⟩
      · go_simp
        exact ⟨rfl, Ext.refl _⟩
      refine reg_quiet 10 rfl (by kernel_rfl) (by kernel_rfl) ?_
      apply Exists.intro
      refine ⟨fun w' hw' => ?_, ?_⟩
      · have q0 := hw'.cell HP.out
        go_simp
        exact ⟨rfl, Ext.refl _⟩
      refine reg_quiet 11 rfl (by kernel_rfl) (by kernel_rfl) ?_
      apply Exists.intro
      refine ⟨fun w' hw' => ?_, ?_⟩
      · go_simp
        exact ⟨rfl, Ext.refl _⟩
      refine reg_one 12 rfl (by kernel_rfl) rfl (fun w' hw' => ?_)
      replace HE := hid (HE.out.trans hw')
      replace HB0 := hid (HB0.out.ext hw')
      clear hw' HC0 HP HC HT HL HE0 HTW HA0 HA1 HA2 HA3 HR HW HH HS
      go_simp
      refine ⟨Ext.alloc _ _, ?_⟩
      refine reg_one 13 rfl (by kernel_rfl) rfl (fun w3 hw3 => ?_)
      have hb3 := (Ext.alloc w' _).trans hw3
      have hnw := hw3.blk (blk_new w' _)
      replace HE := hid (HE.out.trans hb3)
      replace HB0 := hid (HB0.out.ext hb3)
      have HNW := hid (World.news_of_block hnw)
      clear hb3 hnw hw3
      generalize w'.heap.size = q at *
      obtain ⟨j0, hi0, hz0, hz1, hz2⟩ := info_parts (show (Tryd.prog.info? 67).map (fun i => (i.zero, i.size, i.bytes)) = some (some (.agg #[.int .i64 0, .int .i64 0, .int .i64 0, .int .i64 0, .bool false]), 5, 40) by kernel_rfl)
      refine wp_append_lies _ (.tmp 16) (.tmp 28) _ rfl B 67 j0 (.agg #[.int .i64 0, .int .i64 0, .int .i64 0, .int .i64 0, .bool false]) 5 40 Tryd.underlying64 hi0 hz0 hz1 hz2 rfl (by omega) v (cuts l).length _ (by rfl) HB0.out.own ⟨q, 0, none⟩ 1 1 (lvals (slc a r hh 1, a)) (by rfl) (by rfl) HNW.out (by intro u hu; simp [lvals, Bx.vals] at hu; rcases hu with rfl | rfl | rfl | rfl | rfl <;> rfl) (by omega) (by unfold maxLen; omega) (by omega) (by have := HB0.out.low; have := HB0.out.here; omega) w3.heap.size rfl ?_
      intro g1 cap1 w4 hown4 hgrow4 hat4 _
      refine ⟨fun h => absurd h (by decide), ?_⟩
      refine reg_one 14 rfl (by kernel_rfl) rfl (fun w' hw' => ?_)
      replace hgrow4 := grown_ext hgrow4 hw'
      replace hown4 := own_ext hw' hown4
      clear hw'
      have HA := hid (HB0.out.app (by decide) hgrow4 hown4 (by
        intro k hk
        simp only [Value.ownBlock, Option.some.injEq] at hk
        subst hk
        rcases hat4 with h | h
        · exact .inl h
        · exact .inr (by omega)))
      have hb5 := HB0.out.grown (by decide) hgrow4
      have q0 := cell_blk (j := 0) hb5 rfl
      have z0 : ∀ j, w'.frozen? ⟨g, j, none⟩ = false := fun j => by simp [World.frozen?, hb5]
      clear hgrow4 hown4 hat4 hi0 hz0 hz1 hz2 HNW hb5
      go_simp
      clear q0 z0
      generalize World.setCell _ _ _ = w6 at *
      refine reg_done (by kernel_rfl) (fun w7 hw' => ?_) _
      have HM := hid (((Mv.of_ext HE.out HI.out.here).trans HA.out.2).trans (Mv.of_ext hw' HA.out.1.here))
      replace HA := hid (HA.out.1.ext hw')
      clear hw' HB0 HE
      go_simp
      go_wp2_with fail
      simp [bodyPost, results, Tryd.results53, go_sem]
      exact ⟨⟨_, by rw [HN.out]; simpa using HA.out⟩, HM.out, HA.out.far⟩
    · rw [if_neg h3] at HN
      go_wp2_with fail
      simp [bodyPost, results, Tryd.results53, go_sem]
      exact ⟨⟨v, by rw [HN.out]; simpa using HI.out.ext HE.out⟩, Mv.of_ext HE.out HI.out.here, HI.out.far.ext HE.out⟩

end Go.Proofs.YtflbfmfaccaffaaDoor
