/-
  The document's tree in memory; its panes, its find, its boxes.
-/
import Derived.Test.YtflbfmfaccaffaaDoorL18
namespace Go.Proofs.YtflbfmfaccaffaaDoor
open Go Go.RowKit
attribute [local go_sem] extUpon
attribute [local go_sem ↓] eval_put_ne eval_put_none eval_put_same size_put eval_const

/-- A node's cells in the document's tree. -/
def LT.rcells : LT → Array Value
  | .leaf _ p => #[.int .i64 p, .bool false, .int .i64 0, .pointer none, .pointer none]
  | .node _ x y a k => #[.int .i64 0, .bool a, .int .i64 k, ptr x.b, ptr y.b]
def RtAt (w : World) : LT → Prop
  | .leaf b p => w.heap[b]? = some (.cells (LT.leaf b p).rcells 48 (0, 0))
  | .node b x y a k => w.heap[b]? = some (.cells (LT.node b x y a k).rcells 48 (0, 0)) ∧ RtAt w x ∧ RtAt w y
theorem RtAt.blk {w : World} : ∀ {t : LT}, RtAt w t → w.heap[t.b]? = some (.cells t.rcells 48 (0, 0))
  | .leaf _ _, h => h
  | .node .., h => h.1
theorem RtAt.of_blocks {w w1 : World} : ∀ {t : LT}, RtAt w t → (∀ k ∈ t.blocks, w1.heap[k]? = w.heap[k]?) → RtAt w1 t
  | .leaf b p, h, hb => (hb b (by simp [LT.blocks])).trans h
  | .node b x y a k, h, hb => ⟨(hb b (by simp [LT.blocks])).trans h.1, h.2.1.of_blocks (fun k hk => hb k (by simp [LT.blocks, hk])), h.2.2.of_blocks (fun k hk => hb k (by simp [LT.blocks, hk]))⟩
theorem RtAt.lt {w : World} : ∀ {t : LT}, RtAt w t → ∀ k ∈ t.blocks, k < w.heap.size
  | .leaf b p, h, k, hk => by
    simp [LT.blocks] at hk; subst hk
    exact (Array.getElem?_eq_some_iff.1 h).1
  | .node b x y a c, h, k, hk => by
    simp only [LT.blocks, List.mem_cons, List.mem_append] at hk
    rcases hk with rfl | hk | hk
    · exact (Array.getElem?_eq_some_iff.1 h.1).1
    · exact h.2.1.lt k hk
    · exact h.2.2.lt k hk
theorem RtAt.ext {w w1 : World} {t : LT} (h : RtAt w t) (he : Ext w w1) : RtAt w1 t := h.of_blocks fun k hk => he.block k (h.lt k hk)
theorem rnode_cells {w : World} {t : LT} (h : RtAt w t) (j : Nat) (v : Value) (hv : t.rcells[j]? = some v) : w.cell? ⟨t.b, j, none⟩ = some v := cell_blk h.blk hv

/-- The leaf of a pane. -/
def LT.seek (p : Int) : LT → Option Nat
  | .leaf b q => if q = p then some b else none
  | .node _ x y _ _ => match x.seek p with
    | some b => some b
    | none => y.seek p
theorem seek_none (p : Int) : ∀ t : LT, p ∉ t.panes → t.seek p = none
  | .leaf b q, h => by simp [LT.panes] at h; simp [LT.seek, Ne.symm h]
  | .node b x y a k, h => by
    simp only [LT.panes, List.mem_append, not_or] at h
    simp [LT.seek, seek_none p x h.1, seek_none p y h.2]
theorem seek_some (p : Int) : ∀ t : LT, p ∈ t.panes → t.seek p = some (t.tip p).b
  | .leaf b q, h => by simp [LT.panes] at h; subst h; simp [LT.seek, LT.tip, LT.b]
  | .node b x y a k, h => by
    by_cases hx : p ∈ x.panes
    · simp [LT.seek, LT.tip, hx, seek_some p x hx]
    · have hy : p ∈ y.panes := by simpa [LT.panes, hx] using h
      simp [LT.seek, LT.tip, hx, seek_none p x hx, seek_some p y hy]
def optr : Option Nat → Value
  | some b => .pointer (some ⟨b, 0, none⟩)
  | none => .pointer none

set_option maxRecDepth 100000 in
theorem rfind_any (p : Int) : ∀ (t : LT) (w : World), RtAt w t → Calls Tryd.prog 42 #[ptr t.b, .int .i64 p] w fun e w' => e = .returned (optr (t.seek p)) ∧ w' = w := by
  intro t
  induction t with
  | leaf b q =>
    intro w h
    have c0 : w.cell? ⟨b, 0, none⟩ = some (.int .i64 q) := rnode_cells h 0 _ rfl
    have c3 : w.cell? ⟨b, 3, none⟩ = some (.pointer none) := rnode_cells h 3 _ rfl
    clear h
    unfold ptr LT.b
    by_cases hq : q = p
    · have HS : Hid (LT.seek p (.leaf b q) = some b) := hid (by simp [LT.seek, hq])
      subst hq
      go_enter Tryd.func42, Tryd.ntmps42
      go_wp2_with fail
      go_ret
      exact ⟨by rw [HS.out]; rfl, rfl⟩
    · have HS : Hid (LT.seek p (.leaf b q) = none) := hid (by simp [LT.seek, hq])
      go_enter Tryd.func42, Tryd.ntmps42
      go_wp2_with fail
      go_ret
      exact ⟨by rw [HS.out]; rfl, rfl⟩
  | node b x y a k ihx ihy =>
    intro w h
    have HX := hid (ihx w h.2.1)
    have HY := hid (ihy w h.2.2)
    have c3 : w.cell? ⟨b, 3, none⟩ = some (ptr x.b) := rnode_cells h 3 _ rfl
    have c4 : w.cell? ⟨b, 4, none⟩ = some (ptr y.b) := rnode_cells h 4 _ rfl
    have HS : Hid (LT.seek p (.node b x y a k) = match x.seek p with | some b => some b | none => y.seek p) := hid rfl
    clear h ihx ihy
    generalize LT.seek p (.node b x y a k) = sn at *
    generalize x.seek p = sx at *
    generalize y.seek p = sy at *
    generalize x.b = bx at *
    generalize y.b = by_ at *
    unfold ptr LT.b at *
    cases sx with
    | some bb =>
      unfold optr at HX
      go_enter Tryd.func42, Tryd.ntmps42
      go_wp2_with fail
      refine HX.out.mono ?_
      rintro e w1 ⟨rfl, rfl⟩
      go_wp2_with fail
      go_ret
      exact ⟨by rw [HS.out]; rfl, rfl⟩
    | none =>
      unfold optr at HX
      go_enter Tryd.func42, Tryd.ntmps42
      go_wp2_with fail
      refine HX.out.mono ?_
      rintro e w1 ⟨rfl, rfl⟩
      go_wp2_with fail
      refine HY.out.mono ?_
      rintro e w1 ⟨rfl, rfl⟩
      go_wp2_with fail
      go_ret
      exact ⟨by rw [HS.out]; rfl, rfl⟩

theorem clip_any (n lo hi : Int) (w : World) : Calls Tryd.prog 44 #[.int .i64 n, .int .i64 lo, .int .i64 hi] w fun e w' => e = .returned (.int .i64 (max lo (min n hi))) ∧ w' = w := by
  go_enter Tryd.func44, Tryd.ntmps44
  go_wp2
  all_goals go_ret
  all_goals (refine ⟨?_, rfl⟩; simp; try omega)
theorem whole_any (rows cols : Int) (w : World) : Calls Tryd.prog 45 #[.int .i64 rows, .int .i64 cols] w fun e w' => e = .returned (allB rows cols).val ∧ Ext w w' := by
  unfold Bx.val allB
  go_enter Tryd.func45, Tryd.ntmps45
  go_wp2
  all_goals simp [bodyPost, results, Tryd.results45, go_sem]
  all_goals exact ⟨⟨by omega, by omega⟩, Ext.alloc _ _⟩

set_option maxHeartbeats 2000000 in
set_option maxRecDepth 100000 in
theorem rpanes_any : ∀ (t : LT) (w : World), RtAt w t → t.size ≤ 1000 →
    Calls Tryd.prog 26 #[ptr t.b] w fun e w' => ∃ v, e = .returned v ∧ w'.ownsRow w.heap.size 3 1 v t.panes.length (t.panes.map (Value.int .i64)) ∧ Ext w w' := by
  intro t
  induction t with
  | leaf b q =>
    intro w h _
    have c0 : w.cell? ⟨b, 0, none⟩ = some (.int .i64 q) := rnode_cells h 0 _ rfl
    have c3 : w.cell? ⟨b, 3, none⟩ = some (.pointer none) := rnode_cells h 3 _ rfl
    clear h
    unfold ptr LT.b
    go_enter Tryd.func26, Tryd.ntmps26
    go_wp2_with fail
    go_ret
    exact ⟨_, rfl, World.ownsRow_lit w #[.int .i64 q] 1 (Nat.le_refl _) (by decide) rfl, Ext.alloc _ _⟩
  | node b x y a k ihx ihy =>
    intro w h hz
    simp only [LT.size] at hz
    have hpx := panes_len_size x
    have hpy := panes_len_size y
    have hpy0 := panes_pos y
    have HX := hid (fun w' (he : Ext w w') => ihx w' (h.ext he).2.1 (by omega))
    have HY := hid (fun w' (he : Ext w w') => ihy w' (h.ext he).2.2 (by omega))
    have c3 : w.cell? ⟨b, 3, none⟩ = some (ptr x.b) := rnode_cells h 3 _ rfl
    have HC3 := hid c3
    have HC4 : Hid (w.cell? ⟨b, 4, none⟩ = some (ptr y.b)) := hid (rnode_cells h 4 _ rfl)
    have HN : Hid (LT.panes (.node b x y a k) = x.panes ++ y.panes) := hid rfl
    clear h ihx ihy
    generalize LT.panes (.node b x y a k) = pn at *
    generalize x.panes = px at *
    generalize y.panes = py at *
    generalize x.b = bx at *
    generalize y.b = by_ at *
    unfold ptr LT.b at *
    go_enter Tryd.func26, Tryd.ntmps26
    go_wp2_with fail
    refine reg_begin 10 (by kernel_rfl) ?_
    generalize hW : World.drew _ = W
    have HE := hid (by rw [← hW]; exact Ext.drew _ : Ext w W)
    clear hW c3
    replace HC3 := hid (HE.out.cell HC3.out)
    replace HC4 := hid (HE.out.cell HC4.out)
    refine reg_quiet 0 rfl (by kernel_rfl) (by kernel_rfl) ?_
    apply Exists.intro
    refine ⟨fun w' hw' => ?_, ?_⟩
    · go_simp
      exact ⟨rfl, Ext.refl _⟩
    refine reg_quiet 1 rfl (by kernel_rfl) (by kernel_rfl) ?_
    apply Exists.intro
    refine ⟨fun w' hw' => ?_, ?_⟩
    · go_simp
      exact ⟨rfl, Ext.refl _⟩
    refine reg_quiet 2 rfl (by kernel_rfl) (by kernel_rfl) ?_
    apply Exists.intro
    refine ⟨fun w' hw' => ?_, ?_⟩
    · go_simp
      exact ⟨rfl, Ext.refl _⟩
    refine reg_quiet 3 rfl (by kernel_rfl) (by kernel_rfl) ?_
    apply Exists.intro
    refine ⟨fun w' hw' => ?_, ?_⟩
    · have q0 := hw'.cell HC3.out
      go_simp
      exact ⟨rfl, Ext.refl _⟩
    refine reg_quiet 5 rfl (by kernel_rfl) (by kernel_rfl) ?_
    apply Exists.intro
    refine ⟨fun w' hw' => ?_, ?_⟩
    · go_simp
      exact ⟨rfl, Ext.refl _⟩
    refine reg_quiet 6 rfl (by kernel_rfl) (by kernel_rfl) ?_
    apply Exists.intro
    refine ⟨fun w' hw' => ?_, ?_⟩
    · go_simp
      exact ⟨rfl, Ext.refl _⟩
    refine reg_quiet 7 rfl (by kernel_rfl) (by kernel_rfl) ?_
    apply Exists.intro
    refine ⟨fun w' hw' => ?_, ?_⟩
    · go_simp
      exact ⟨rfl, Ext.refl _⟩
    refine reg_quiet 8 rfl (by kernel_rfl) (by kernel_rfl) ?_
    apply Exists.intro
    refine ⟨fun w' hw' => ?_, ?_⟩
    · have q0 := hw'.cell HC4.out
      go_simp
      exact ⟨rfl, Ext.refl _⟩
    refine reg_one 4 rfl (by kernel_rfl) rfl (fun w' hw' => ?_)
    go_simp
    refine (HX.out w' (HE.out.trans hw')).mono ?_
    rintro e w1 ⟨v1, rfl, ho1, hE1⟩
    have HE1 := hid ((HE.out.trans hw').trans hE1)
    have HO1 := hid (own_low ho1 (HE.out.trans hw').size)
    refine ⟨hE1, ?_⟩
    clear hw' ho1 HE HC3 HC4
    refine reg_one 9 rfl (by kernel_rfl) rfl (fun w2 hw2 => ?_)
    go_simp
    refine (HY.out w2 (HE1.out.trans hw2)).mono ?_
    rintro e w3 ⟨v2, rfl, ho2, hE3⟩
    have HE3 := hid ((HE1.out.trans hw2).trans hE3)
    replace HO1 := hid (own_ext (hw2.trans hE3) HO1.out)
    obtain ⟨g2, cap2, rfl, hg2, hc2⟩ := panes_row ho2 hpy0
    have HC2 := hid hc2
    have hcap2 : py.length ≤ cap2 := by
      rcases ho2.2 with ⟨h5, _⟩ | ⟨g', c', cur, h5, _, _, h6, _⟩
      · cases h5
      · simp only [Value.slice.injEq] at h5; omega
    refine ⟨hE3, ?_⟩
    clear ho2 hc2 hE3 hw2 HE1
    refine reg_one 10 rfl (by kernel_rfl) rfl (fun w4 hw4 => ?_)
    replace HE3 := hid (HE3.out.trans hw4)
    replace HO1 := hid (own_ext hw4 HO1.out)
    replace HC2 : Hid (∀ j (hj : j < py.length), w4.cell? ⟨g2, j, none⟩ = some (.int .i64 py[j])) := hid (fun j hj => hw4.cell (HC2.out j hj))
    clear hw4
    refine wp_app (.tmp 17) (.tmp 22) rfl rfl w.heap.size v1 px.length _ (by rfl) HO1.out g2 0 py.length cap2 py (by rfl) rfl hcap2 (fun j hj => by simpa using HC2.out j hj) (by omega) HE3.out.size ?_
    intro a5 cap5 w5 hown5 hgrow5 _
    refine ⟨fun h => absurd h (by decide), ?_⟩
    have HE5 : Hid (Ext w w5) := hid (Below.grown HE3.out hgrow5 HE3.out.size (fun k hk => (HO1.out.lt k hk).1))
    have HO5 := hid hown5
    clear hown5 hgrow5 HE3 HO1 HC2
    refine reg_pure 11 rfl (by kernel_rfl) rfl ?_
    apply Exists.intro
    refine ⟨fun w' => ?_, ?_⟩
    · go_simp
      exact rfl
    refine reg_done (by kernel_rfl) (fun w6 hw6 => ?_) _
    replace HE5 := hid (HE5.out.trans hw6)
    replace HO5 := hid (own_ext hw6 HO5.out)
    clear hw6
    go_simp
    go_wp2_with fail
    go_ret
    refine ⟨_, rfl, ?_, HE5.out⟩
    rw [HN.out, List.length_append, List.map_append]
    exact HO5.out

end Go.Proofs.YtflbfmfaccaffaaDoor
