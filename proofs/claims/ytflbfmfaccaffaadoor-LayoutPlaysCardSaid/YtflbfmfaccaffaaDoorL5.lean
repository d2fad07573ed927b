/-
  Panes, Places, Lines, Borders, Has.
-/
import Derived.Test.YtflbfmfaccaffaaDoorL4
namespace Go.Proofs.YtflbfmfaccaffaaDoor
open Go Go.RowKit
attribute [local go_sem] extUpon
attribute [local go_sem ↓] eval_put_ne eval_put_none eval_put_same size_put eval_const

theorem visit_len : ∀ (t : LT) (r : Bx), (t.visit r).length = t.size
  | .leaf .., _ => rfl
  | .node b x y a k, r => by simp [LT.visit, LT.size, visit_len x (parts a k r).1, visit_len y (parts a k r).2]
theorem leafs_panes (t : LT) (r : Bx) : (leafs (t.visit r)).map Prod.fst = t.panes := by
  rw [leafs_visit, List.map_fst_zip]
  rw [panes_len t r]; exact Nat.le_refl _
theorem leafs_places (t : LT) (r : Bx) : (leafs (t.visit r)).map Prod.snd = t.places r := by
  rw [leafs_visit, List.map_snd_zip]
  rw [panes_len t r]; exact Nat.le_refl _
theorem leafs_count (t : LT) (r : Bx) : (leafs (t.visit r)).length = t.panes.length := by rw [← leafs_panes t r, List.length_map]

/-- The tree stands behind the box tb. -/
structure TreeAt (w : World) (tb : Nat) (t : LT) : Prop where
  root : w.cell? ⟨tb, 0, none⟩ = some (ptr t.b)
  at_ : LtAt w t
  small : t.small
  size : t.size ≤ 1000
theorem TreeAt.ext {w w1 : World} {tb : Nat} {t : LT} (h : TreeAt w tb t) (he : Ext w w1) : TreeAt w1 tb t := ⟨he.cell h.root, h.at_.ext he, h.small, h.size⟩
theorem zero_ok : (⟨0, 0, 0, 0⟩ : Bx).ok := by simp [Bx.ok]

theorem mv_ext (w : World) (bt : TypeId) {w2 : World} (hm : Mv w.heap.size (w.alloc (.cells #[.slice none 0 0] bt)) w2) : Ext w w2 :=
  ((Ext.alloc w _).below (Nat.le_refl _)).trans (hm.below (BoxAt.far (v := .slice none 0 0) (bt := bt) (e := 0) (size := 1) (n := 0) (xs := []) ⟨blk_new _ _, World.ownsRow_nil _ _ _ _, Nat.le_refl _⟩) (by simp))

set_option maxRecDepth 100000 in
theorem Panes_any (tb : Nat) (t : LT) (w : World) (h : TreeAt w tb t) :
    Calls Tryd.prog 15 #[ptr tb] w fun e w' => ∃ v, e = .returned v ∧ w'.ownsRow w.heap.size 3 1 v t.panes.length (t.panes.map (Value.int .i64)) ∧ Ext w w' := by
  have eF : ∀ args w, (callFunc 38 args).run Tryd.prog w = .ok (.enter 38 args) w := enters_of Tryd.func38 (by kernel_rfl) rfl
  have hmf : ∀ (fn : Fn) (first cap : Array Value) (w : World), (Instr.makeFunc fn first cap).run Tryd.prog w = .ok (.func fn first cap) w := fun _ _ _ _ => rfl
  have HW := hid (walk_any 38 eF w.heap.size w.heap.size (PaneI w.heap.size w.heap.size) (fun l w w' ⟨v, h⟩ he => ⟨v, h.ext he⟩) (t.visit ⟨0, 0, 0, 0⟩) (panes_one _ _ _ (by rw [visit_len]; have := h.size; omega))
    t ⟨0, 0, 0, 0⟩ [] (w.alloc (.cells #[.slice none 0 0] 35)) (List.prefix_refl _) ⟨_, ⟨blk_new _ _, World.ownsRow_nil _ _ _ _, Nat.le_refl _⟩⟩ (h.at_.ext (Ext.alloc _ _)) h.at_.lt zero_ok h.small (by simp)
    (BoxAt.far (v := .slice none 0 0) (bt := 35) (e := 3) (size := 1) (n := 0) (xs := []) ⟨blk_new _ _, World.ownsRow_nil _ _ _ _, Nat.le_refl _⟩))
  have HR := hid (h.root)
  have hx : (leafs (t.visit ⟨0, 0, 0, 0⟩)).map (fun x => Value.int .i64 x.1) = t.panes.map (Value.int .i64) := by
    rw [← leafs_panes t ⟨0, 0, 0, 0⟩, List.map_map]; rfl
  have HX := hid hx
  have HN := hid (leafs_count t ⟨0, 0, 0, 0⟩)
  clear hx h eF
  unfold PaneI at HW
  simp only [List.nil_append] at HW
  generalize t.visit ⟨0, 0, 0, 0⟩ = vis at *
  generalize t.panes = ps at *
  generalize t.b = b at *
  unfold ptr clo at *
  have q0 := fun o => (Ext.alloc w o).cell HR.out
  go_enter Tryd.func15, Tryd.ntmps15
  go_wp2_with fail
  refine HW.out.mono ?_
  rintro e w2 ⟨rfl, ⟨v, hB⟩, hm, hf⟩
  have q1 := hB.cell
  go_wp2_with fail
  simp [bodyPost, results, Tryd.results15, go_sem]
  have hown := hB.own
  rw [HN.out, HX.out] at hown
  exact ⟨hown, mv_ext w _ hm⟩

def allB (rows cols : Int) : Bx := ⟨0, 0, max rows 0, max cols 0⟩
theorem allB_ok {rows cols : Int} (h1 : rows ≤ 1000000) (h2 : cols ≤ 1000000) : (allB rows cols).ok := by simp only [allB, Bx.ok]; omega

set_option maxHeartbeats 1000000 in
set_option maxRecDepth 100000 in
theorem Places_any (tb : Nat) (t : LT) (rows cols : Int) (w : World) (h : TreeAt w tb t) (h1 : rows ≤ 1000000) (h2 : cols ≤ 1000000) :
    Calls Tryd.prog 14 #[ptr tb, .int .i64 rows, .int .i64 cols] w fun e w' => ∃ v, e = .returned v ∧ w'.ownsRow w.heap.size 32 4 v t.panes.length ((t.places (allB rows cols)).flatMap Bx.vals) ∧ Ext w w' := by
  have eF : ∀ args w, (callFunc 36 args).run Tryd.prog w = .ok (.enter 36 args) w := enters_of Tryd.func36 (by kernel_rfl) rfl
  have hmf : ∀ (fn : Fn) (first cap : Array Value) (w : World), (Instr.makeFunc fn first cap).run Tryd.prog w = .ok (.func fn first cap) w := fun _ _ _ _ => rfl
  have HW := hid (fun (W : World) (hE : Ext (w.alloc (.cells #[.slice none 0 0] 29)) W) => walk_any 36 eF w.heap.size w.heap.size (PlaceI w.heap.size w.heap.size) (fun l w w' ⟨v, h⟩ he => ⟨v, h.ext he⟩) (t.visit (allB rows cols)) (places_one _ _ _ (by rw [visit_len]; have := h.size; omega))
    t (allB rows cols) [] W (List.prefix_refl _) ⟨_, BoxAt.ext ⟨blk_new _ _, World.ownsRow_nil _ _ _ _, Nat.le_refl _⟩ hE⟩ (h.at_.ext ((Ext.alloc _ _).trans hE)) h.at_.lt (allB_ok h1 h2) h.small (by have := hE.size; simp at this; omega)
    ((BoxAt.far (v := .slice none 0 0) (bt := 29) (e := 32) (size := 4) (n := 0) (xs := []) ⟨blk_new _ _, World.ownsRow_nil _ _ _ _, Nat.le_refl _⟩).ext hE))
  have HR := hid (h.root)
  have hx : (leafs (t.visit (allB rows cols))).flatMap (fun x => x.2.vals) = (t.places (allB rows cols)).flatMap Bx.vals := by
    rw [← leafs_places t (allB rows cols), List.flatMap_map]
  have HX := hid hx
  have HN := hid (leafs_count t (allB rows cols))
  have HA := hid (fun w => all_any rows cols w)
  clear hx h eF h1 h2
  unfold PlaceI at HW
  simp only [List.nil_append] at HW
  generalize t.visit (allB rows cols) = vis at *
  generalize t.places (allB rows cols) = pl at *
  generalize t.panes = ps at *
  generalize t.b = b at *
  unfold ptr clo Bx.val allB at *
  generalize max rows 0 = mr at *
  generalize max cols 0 = mc at *
  go_enter Tryd.func14, Tryd.ntmps14
  go_wp2_with fail
  have HQ := hid (World.ownsRow_nil w w.heap.size 32 4)
  have HB1 := hid (blk_new w (.cells #[.slice none 0 0] 29))
  have HE1 := hid (Ext.alloc w (.cells #[.slice none 0 0] 29))
  refine reg_begin 8 (by kernel_rfl) ?_
  generalize hW : World.drew _ = W
  have HE := hid (by rw [← hW]; exact Ext.drew _ : Ext (w.alloc (.cells #[.slice none 0 0] 29)) W)
  clear hW
  have HR0 := hid (HE.out.cell (HE1.out.cell HR.out))
  refine reg_quiet 0 rfl (by kernel_rfl) (by kernel_rfl) ?_
  apply Exists.intro
  refine ⟨fun w' hw' => ?_, ?_⟩
  · go_simp
    exact ⟨rfl, Ext.refl _⟩
  refine reg_quiet 1 rfl (by kernel_rfl) (by kernel_rfl) ?_
  apply Exists.intro
  refine ⟨fun w' hw' => ?_, ?_⟩
  · go_simp
    exact ⟨rfl, Ext.refl _⟩
  refine reg_quiet 2 rfl (by kernel_rfl) (by kernel_rfl) ?_
  apply Exists.intro
  refine ⟨fun w' hw' => ?_, ?_⟩
  · go_simp
    exact ⟨rfl, Ext.refl _⟩
  refine reg_quiet 3 rfl (by kernel_rfl) (by kernel_rfl) ?_
  apply Exists.intro
  refine ⟨fun w' hw' => ?_, ?_⟩
  · have q0 := hw'.cell HR0.out
    go_simp
    exact ⟨rfl, Ext.refl _⟩
  refine reg_quiet 4 rfl (by kernel_rfl) (by kernel_rfl) ?_
  apply Exists.intro
  refine ⟨fun w' hw' => ?_, ?_⟩
  · go_simp
    exact ⟨rfl, Ext.refl _⟩
  refine reg_quiet 5 rfl (by kernel_rfl) (by kernel_rfl) ?_
  apply Exists.intro
  refine ⟨fun w' hw' => ?_, ?_⟩
  · go_simp
    exact ⟨rfl, Ext.refl _⟩
  refine reg_quiet 6 rfl (by kernel_rfl) (by kernel_rfl) ?_
  apply Exists.intro
  refine ⟨fun w' hw' => ?_, ?_⟩
  · go_simp
    exact HA.out w'
  refine reg_quiet 7 rfl (by kernel_rfl) (by kernel_rfl) ?_
  apply Exists.intro
  refine ⟨fun w' hw' => ?_, ?_⟩
  · go_simp
    exact ⟨rfl, Ext.refl _⟩
  refine reg_one 8 rfl (by kernel_rfl) rfl (fun w' hw' => ?_)
  go_simp
  refine (HW.out w' (HE.out.trans hw')).mono ?_
  rintro e w2 ⟨rfl, ⟨v, hB⟩, hm, hf⟩
  have hm2 := (Mv.of_ext (HE.out.trans hw') (by simp)).trans hm
  refine reg_done (by kernel_rfl) (fun w3 hw3 => ?_) _
  have hE := (mv_ext w _ hm2).trans hw3
  have hB3 := hB.ext hw3
  have q1 := hB3.cell
  go_simp
  go_wp2_with fail
  simp [bodyPost, results, Tryd.results14, go_sem]
  have hown := hB3.own
  rw [HN.out, HX.out] at hown
  exact ⟨hown, hE⟩

set_option maxHeartbeats 1000000 in
set_option maxRecDepth 100000 in
theorem Lines_any (tb : Nat) (t : LT) (rows cols : Int) (w : World) (h : TreeAt w tb t) (h1 : rows ≤ 1000000) (h2 : cols ≤ 1000000) :
    Calls Tryd.prog 41 #[ptr tb, .int .i64 rows, .int .i64 cols] w fun e w' => ∃ v, e = .returned v ∧ w'.ownsRow w.heap.size 67 5 v (t.lines (allB rows cols)).length ((t.lines (allB rows cols)).flatMap lvals) ∧ Ext w w' := by
  have eF : ∀ args w, (callFunc 53 args).run Tryd.prog w = .ok (.enter 53 args) w := enters_of Tryd.func53 (by kernel_rfl) rfl
  have hmf : ∀ (fn : Fn) (first cap : Array Value) (w : World), (Instr.makeFunc fn first cap).run Tryd.prog w = .ok (.func fn first cap) w := fun _ _ _ _ => rfl
  have HW := hid (fun (W : World) (hE : Ext (w.alloc (.cells #[.slice none 0 0] 64)) W) => walk_any 53 eF w.heap.size w.heap.size (LineI w.heap.size w.heap.size) (fun l w w' ⟨v, h⟩ he => ⟨v, h.ext he⟩) (t.visit (allB rows cols)) (lines_one _ _ _ (by rw [visit_len]; have := h.size; omega))
    t (allB rows cols) [] W (List.prefix_refl _) ⟨_, BoxAt.ext ⟨blk_new _ _, World.ownsRow_nil _ _ _ _, Nat.le_refl _⟩ hE⟩ (h.at_.ext ((Ext.alloc _ _).trans hE)) h.at_.lt (allB_ok h1 h2) h.small (by have := hE.size; simp at this; omega)
    ((BoxAt.far (v := .slice none 0 0) (bt := 64) (e := 67) (size := 5) (n := 0) (xs := []) ⟨blk_new _ _, World.ownsRow_nil _ _ _ _, Nat.le_refl _⟩).ext hE))
  have HR := hid (h.root)
  have HX := hid (cuts_visit t (allB rows cols))
  have HA := hid (fun w => all_any rows cols w)
  clear h eF h1 h2
  unfold LineI at HW
  simp only [List.nil_append] at HW
  generalize t.visit (allB rows cols) = vis at *
  generalize t.lines (allB rows cols) = pl at *
  generalize t.b = b at *
  unfold ptr clo Bx.val allB at *
  generalize max rows 0 = mr at *
  generalize max cols 0 = mc at *
  go_enter Tryd.func41, Tryd.ntmps41
  go_wp2_with fail
  have HQ := hid (World.ownsRow_nil w w.heap.size 67 5)
  have HB1 := hid (blk_new w (.cells #[.slice none 0 0] 64))
  have HE1 := hid (Ext.alloc w (.cells #[.slice none 0 0] 64))
  refine reg_begin 8 (by kernel_rfl) ?_
  generalize hW : World.drew _ = W
  have HE := hid (by rw [← hW]; exact Ext.drew _ : Ext (w.alloc (.cells #[.slice none 0 0] 64)) W)
  clear hW
  have HR0 := hid (HE.out.cell (HE1.out.cell HR.out))
  refine reg_quiet 0 rfl (by kernel_rfl) (by kernel_rfl) ?_
  apply Exists.intro
  refine ⟨fun w' hw' => ?_, ?_⟩
  · go_simp
    exact ⟨rfl, Ext.refl _⟩
  refine reg_quiet 1 rfl (by kernel_rfl) (by kernel_rfl) ?_
  apply Exists.intro
  refine ⟨fun w' hw' => ?_, ?_⟩
  · go_simp
    exact ⟨rfl, Ext.refl _⟩
  refine reg_quiet 2 rfl (by kernel_rfl) (by kernel_rfl) ?_
  apply Exists.intro
  refine ⟨fun w' hw' => ?_, ?_⟩
  · go_simp
    exact ⟨rfl, Ext.refl _⟩
  refine reg_quiet 3 rfl (by kernel_rfl) (by kernel_rfl) ?_
  apply Exists.intro
  refine ⟨fun w' hw' => ?_, ?_⟩
  · have q0 := hw'.cell HR0.out
    go_simp
    exact ⟨rfl, Ext.refl _⟩
  refine reg_quiet 4 rfl (by kernel_rfl) (by kernel_rfl) ?_
  apply Exists.intro
  refine ⟨fun w' hw' => ?_, ?_⟩
  · go_simp
    exact ⟨rfl, Ext.refl _⟩
  refine reg_quiet 5 rfl (by kernel_rfl) (by kernel_rfl) ?_
  apply Exists.intro
  refine ⟨fun w' hw' => ?_, ?_⟩
  · go_simp
    exact ⟨rfl, Ext.refl _⟩
  refine reg_quiet 6 rfl (by kernel_rfl) (by kernel_rfl) ?_
  apply Exists.intro
  refine ⟨fun w' hw' => ?_, ?_⟩
  · go_simp
    exact HA.out w'
  refine reg_quiet 7 rfl (by kernel_rfl) (by kernel_rfl) ?_
  apply Exists.intro
  refine ⟨fun w' hw' => ?_, ?_⟩
  · go_simp
    exact ⟨rfl, Ext.refl _⟩
  refine reg_one 8 rfl (by kernel_rfl) rfl (fun w' hw' => ?_)
  go_simp
  refine (HW.out w' (HE.out.trans hw')).mono ?_
  rintro e w2 ⟨rfl, ⟨v, hB⟩, hm, hf⟩
  have hm2 := (Mv.of_ext (HE.out.trans hw') (by simp)).trans hm
  refine reg_done (by kernel_rfl) (fun w3 hw3 => ?_) _
  have hE := (mv_ext w _ hm2).trans hw3
  have hB3 := hB.ext hw3
  have q1 := hB3.cell
  go_simp
  go_wp2_with fail
  simp [bodyPost, results, Tryd.results41, go_sem]
  have hown := hB3.own
  rw [HX.out] at hown
  exact ⟨hown, hE⟩

/-- Where a number stands in a list. -/
def idxOf (x : Int) : List Int → Nat → Int
  | [], _ => -1
  | a :: l, n => if a = x then n else idxOf x l (n + 1)
theorem idxOf_lt {x : Int} : ∀ {l : List Int} {n : Nat}, (0 ≤ idxOf x l n ↔ x ∈ l)
  | [], n => by simp [idxOf]
  | a :: l, n => by
    unfold idxOf
    by_cases h : a = x
    · rw [if_pos h]; simp [h]
    · rw [if_neg h, idxOf_lt]; simp [Ne.symm h]

theorem own_form {w : World} {B : Nat} {e : TypeId} {size : Nat} {v : Value} {n : Nat} {xs : List Value} (h : w.ownsRow B e size v n xs) :
    ∃ a cap, v = .slice a n cap ∧ (0 < n → ∃ g, a = some ⟨g, 0, none⟩ ∧ ∀ i u, xs[i]? = some u → w.cell? ⟨g, i, none⟩ = some u) := by
  rcases h.2 with ⟨rfl, rfl⟩ | ⟨g, cap, cur, rfl, _, hh, hn, hc, hs, ht⟩
  · exact ⟨none, 0, rfl, fun h => by omega⟩
  · refine ⟨_, _, rfl, fun _ => ⟨g, rfl, fun i u hu => cell_blk hh ?_⟩⟩
    subst ht
    simp only [List.getElem?_take] at hu
    split at hu
    · simpa using hu
    · cases hu

set_option maxRecDepth 100000 in
theorem Index_any (v : Value) (ps : List Int) (p : Int) (w : World) (B : Nat) (hs : ps.length ≤ 1000000) (ho : w.ownsRow B 3 1 v ps.length (ps.map (Value.int .i64))) :
    Calls Tryd.prog 52 #[v, .int .i64 p] w fun e w' => e = .returned (.int .i64 (idxOf p ps 0)) ∧ Ext w w' := by
  obtain ⟨a, cap, rfl, hcell⟩ := own_form ho
  have HC := hid hcell
  clear hcell ho
  go_enter Tryd.func52, Tryd.ntmps52
  go_wp2_with fail
  go_loopw [8] (fun i wr => ∃ k : Nat, i = .int .i64 k ∧ k ≤ ps.length ∧ Hid (Ext w wr) ∧ Hid (idxOf p ps 0 = idxOf p (ps.drop k) k)) (fun i _ => ps.length - (intOf i).toNat)
  case atStart => exact ⟨0, rfl, by omega, hid (Ext.refl _), hid (by simp)⟩
  case round =>
    obtain ⟨k, rfl, hk, hE, hI⟩ := hrel
    by_cases hlt : k < ps.length
    · obtain ⟨g, rfl, hc⟩ := HC.out (by omega)
      have hck : wr.cell? ⟨g, k, none⟩ = some (.int .i64 ps[k]) := hE.out.cell (hc k _ (by rw [List.getElem?_map, List.getElem?_eq_getElem hlt]; rfl))
      clear hc HC
      have hd : Hid (idxOf p (ps.drop k) k = if ps[k] = p then (k : Int) else idxOf p (ps.drop (k + 1)) (k + 1)) := by
        rw [List.drop_eq_getElem_cons hlt]; rfl
      generalize ps[k] = x at *
      replace hI := hid hI.out
      have hk2 : (k : Int) < (ps.length : Int) := by omega
      by_cases hx : x = p
      · subst hx
        go_wp2_with fail
        go_ret
        exact ⟨by rw [hI.out, hd.out]; simp, hE.out⟩
      · have hx2 : ¬ p = x := fun h => hx h.symm
        go_wp2_with fail
        go_roundw
        case rel => exact ⟨k + 1, by go_num, by omega, hE, hid (by rw [hI.out, hd.out, if_neg hx])⟩
        case measure => simp [intOf]; omega
    · have hk2 : ¬ (k : Int) < (ps.length : Int) := by omega
      have hk3 : Hid (idxOf p (ps.drop k) k = -1) := hid (by rw [List.drop_eq_nil_of_le (by omega)]; rfl)
      go_wp2_with fail
      go_ret
      exact ⟨by rw [hI.out, hk3.out]; rfl, hE.out⟩

theorem Contains_any (v : Value) (ps : List Int) (p : Int) (w : World) (B : Nat) (hs : ps.length ≤ 1000000) (ho : w.ownsRow B 3 1 v ps.length (ps.map (Value.int .i64))) :
    Calls Tryd.prog 40 #[v, .int .i64 p] w fun e w' => e = .returned (.bool (decide (p ∈ ps))) ∧ Ext w w' := by
  have HI := hid (Index_any v ps p w B hs ho)
  have hx := idxOf_lt (x := p) (l := ps) (n := 0)
  generalize idxOf p ps 0 = i at *
  go_enter Tryd.func40, Tryd.ntmps40
  go_wp2_with fail
  refine HI.out.mono ?_
  rintro e w1 ⟨rfl, hE⟩
  have HX := hid hx
  clear hx HI
  go_wp2_with fail
  simp [bodyPost, results, Tryd.results40, go_sem]
  exact ⟨by simp [HX.out], hE⟩

theorem panes_len_size : ∀ (t : LT), t.panes.length ≤ t.size
  | .leaf .. => Nat.le_refl _
  | .node b x y a k => by have := panes_len_size x; have := panes_len_size y; simp [LT.panes, LT.size]; omega

theorem Has_any (tb : Nat) (t : LT) (p : Int) (w : World) (h : TreeAt w tb t) :
    Calls Tryd.prog 19 #[ptr tb, .int .i64 p] w fun e w' => e = .returned (.bool (decide (p ∈ t.panes))) ∧ Ext w w' := by
  have HP := hid (Panes_any tb t w h)
  have hn : t.panes.length ≤ 1000000 := by have := panes_len_size t; have := h.size; omega
  clear h
  generalize t.panes = ps at *
  have HC := hid (fun v w' (ho : World.ownsRow w' w.heap.size 3 1 v ps.length (ps.map (Value.int .i64))) => Contains_any v ps p w' _ hn ho)
  unfold ptr at *
  go_enter Tryd.func19, Tryd.ntmps19
  go_wp2_with fail
  refine HP.out.mono ?_
  rintro e w1 ⟨v, rfl, ho, hE⟩
  go_wp2_with fail
  refine (HC.out v w1 ho).mono ?_
  rintro e w2 ⟨rfl, hE2⟩
  go_wp2_with fail
  simp [bodyPost, results, Tryd.results19, go_sem]
  exact hE.trans hE2

theorem run_build_tree (b : Nat) (w : World) : (Instr.build 54 #[(0, .pointer (some ⟨b, 0, none⟩))]).run Tryd.prog w = .ok (.agg #[.pointer (some ⟨b, 0, none⟩)]) w := by kernel_rfl
attribute [local go_sem ↓] run_build_tree
theorem has_any (t : LT) (p : Int) (w : World) (h : LtAt w t) (hs : t.small) (hz : t.size ≤ 1000) :
    Calls Tryd.prog 32 #[ptr t.b, .int .i64 p] w fun e w' => e = .returned (.bool (decide (p ∈ t.panes))) ∧ Ext w w' := by
  have HH := hid (Has_any w.heap.size t p (w.alloc (.cells #[ptr t.b] 54 (0, 0))) ⟨cell_new rfl, h.ext (Ext.alloc _ _), hs, hz⟩)
  clear h hs hz
  generalize t.b = b at *
  generalize decide (p ∈ t.panes) = d at *
  unfold ptr at *
  go_enter Tryd.func32, Tryd.ntmps32
  go_wp2_with fail
  refine HH.out.mono ?_
  rintro e w2 ⟨rfl, hE2⟩
  go_wp2_with fail
  simp [bodyPost, results, Tryd.results32, go_sem]
  exact (Ext.alloc _ _).trans hE2

end Go.Proofs.YtflbfmfaccaffaaDoor
