/-
  The parts of a box.
-/
import Derived.Test.YtflbfmfaccaffaaDoorL1
namespace Go.Proofs.YtflbfmfaccaffaaDoor
open Go Go.RowKit
attribute [local go_sem] extUpon
attribute [local go_sem ↓] eval_put_ne eval_put_none eval_put_same size_put eval_const

def set4 (W : World) (q : Nat) (a b c d : Value) : World := (((W.setCell ⟨q, 0, none⟩ a).setCell ⟨q, 1, none⟩ b).setCell ⟨q, 2, none⟩ c).setCell ⟨q, 3, none⟩ d
theorem set4_blk {W : World} {q : Nat} {x y z u a b c d : Value} {t : TypeId} {fr : Nat × Nat} (h : W.heap[q]? = some (.cells #[x, y, z, u] t fr)) : (set4 W q a b c d).heap[q]? = some (.cells #[a, b, c, d] t fr) := by
  simp [set4, World.setCell, Array.getElem?_modify, h]
theorem set4_far {W : World} {q k : Nat} {a b c d : Value} (h : k ≠ q) : (set4 W q a b c d).heap[k]? = W.heap[k]? := by
  simp [set4, World.setCell, Array.getElem?_modify, Ne.symm h]
theorem set4_ext {w W : World} {q : Nat} {a b c d : Value} (h : Ext w W) (hq : w.heap.size ≤ q) : Ext w (set4 W q a b c d) :=
  ⟨h.os, h.tape, h.output, by simpa [set4, World.setCell] using h.size, fun k hk => (set4_far (by omega)).trans (h.block k hk)⟩

/-- Three boxes in blocks of their own. -/
def Three (w W : World) (p q s : Nat) (x y z : Array Value) : Prop :=
  Ext w W ∧ (w.heap.size ≤ p ∧ p < q ∧ q < s) ∧ W.heap[p]? = some (.cells x 32 (0, 0)) ∧ W.heap[q]? = some (.cells y 32 (0, 0)) ∧ W.heap[s]? = some (.cells z 32 (0, 0))
theorem Three.later {w W W2 : World} {p q s : Nat} {x y z : Array Value} (h : Three w W p q s x y z) (he : Ext W W2) : Three w W2 p q s x y z :=
  ⟨h.1.trans he, h.2.1, he.blk h.2.2.1, he.blk h.2.2.2.1, he.blk h.2.2.2.2⟩
theorem Three.new (w : World) (x y z : Array Value) : Three w (((w.alloc (.cells x 32 (0, 0))).alloc (.cells y 32 (0, 0))).alloc (.cells z 32 (0, 0))) w.heap.size (w.heap.size + 1) (w.heap.size + 1 + 1) x y z :=
  ⟨((Ext.alloc _ _).trans (Ext.alloc _ _)).trans (Ext.alloc _ _), ⟨by omega, by omega, by omega⟩, (Ext.alloc _ _).blk ((Ext.alloc _ _).blk (blk_new _ _)), (Ext.alloc _ _).blk (blk_at (by simp)), blk_at (by simp)⟩
theorem Three.set2 {w W : World} {p q s : Nat} {x z : Array Value} {y0 y1 y2 y3 a b c d : Value} (h : Three w W p q s x #[y0, y1, y2, y3] z) : Three w (set4 W q a b c d) p q s x #[a, b, c, d] z :=
  ⟨set4_ext h.1 (by have := h.2.1; omega), h.2.1, (set4_far (by have := h.2.1; omega)).trans h.2.2.1, set4_blk h.2.2.2.1, (set4_far (by have := h.2.1; omega)).trans h.2.2.2.2⟩
theorem Three.set3 {w W : World} {p q s : Nat} {x y : Array Value} {y0 y1 y2 y3 a b c d : Value} (h : Three w W p q s x y #[y0, y1, y2, y3]) : Three w (set4 W s a b c d) p q s x y #[a, b, c, d] :=
  ⟨set4_ext h.1 (by have := h.2.1; omega), h.2.1, (set4_far (by have := h.2.1; omega)).trans h.2.2.1, (set4_far (by have := h.2.1; omega)).trans h.2.2.2.1, set4_blk h.2.2.2.2⟩

set_option maxHeartbeats 2000000 in
set_option maxRecDepth 100000 in
theorem parts_small (b : Nat) (a : Bool) (k : Int) (r : Bx) (w : World) (h3 : w.cell? ⟨b, 3, none⟩ = some (.bool a)) (h4 : w.cell? ⟨b, 4, none⟩ = some (.int .i64 k)) (hr : r.ok) (hk : k ≤ 1000000) (hd : wide a r < 3) :
    Calls Tryd.prog 50 #[ptr b, r.val] w fun e w' => e = .returned (.tuple #[(parts a k r).1.val, (parts a k r).2.val]) ∧ Ext w w' := by
  have hd0 : 0 ≤ wide a r ∧ wide a r ≤ 1000000 := by
    obtain ⟨h0, h1, h2, h3, h4, h5⟩ := hr
    unfold wide; split <;> omega
  have H3 := hid h3; have H4 := hid h4
  have HW := hid (fun w' (he : Ext w w') => wide_any b a r w' (he.cell h3))
  have HH := hid (fun w' (he : Ext w w') => held_any b k (wide a r) w' (he.cell h4) (by omega) (by omega) hk)
  have HS := hid (fun f m w' (hf : 0 ≤ f) (hf1 : f ≤ 1000000) (he : Ext w w') => slice_any b a r f m w' (he.cell h3) hr hf hf1)
  have hheld : 3 ≤ wide a r → 1 ≤ held k (wide a r) ∧ held k (wide a r) ≤ wide a r - 2 := by unfold held; omega
  unfold parts
  clear h3 h4
  have hlt : wide a r < 3 := hd
  clear hd
  unfold ptr Bx.val at *
  generalize hwd : wide a r = d at *
  generalize held k d = hh at *
  go_enter Tryd.func50, Tryd.ntmps50
  go_wp2_with fail
  have HT := hid (Three.new w #[.int .i64 r.row, .int .i64 r.col, .int .i64 r.rows, .int .i64 r.cols] #[.int .i64 0, .int .i64 0, .int .i64 0, .int .i64 0] #[.int .i64 0, .int .i64 0, .int .i64 0, .int .i64 0])
  generalize World.alloc _ _ = W1 at *
  generalize w.heap.size + 1 + 1 = p2 at *
  generalize w.heap.size + 1 = p1 at *
  generalize w.heap.size = p0 at *
  refine (HW.out _ HT.out.1).mono ?_
  rintro e w2 ⟨rfl, hE⟩
  replace HT := hid (HT.out.later hE)
  clear hE
  go_wp2_with fail
  refine reg_begin 5 (by kernel_rfl) ?_
  generalize hW : World.drew _ = W
  replace HT := hid (by rw [← hW]; exact HT.out.later (Ext.drew _) : Three w W p0 p1 p2 _ _ _)
  clear hW
  have HA0 := hid (cell_blk (j := 0) HT.out.2.2.1 rfl)
  have HA1 := hid (cell_blk (j := 1) HT.out.2.2.1 rfl)
  have HA2 := hid (cell_blk (j := 2) HT.out.2.2.1 rfl)
  have HA3 := hid (cell_blk (j := 3) HT.out.2.2.1 rfl)
  refine reg_quiet 0 rfl (by kernel_rfl) (by kernel_rfl) ?_
  apply Exists.intro
  refine ⟨fun w' hw' => ?_, ?_⟩
  · have q0 := hw'.cell HA0.out; have q1 := hw'.cell HA1.out; have q2 := hw'.cell HA2.out; have q3 := hw'.cell HA3.out
    go_simp
    exact ⟨rfl, Ext.refl _⟩
  refine reg_quiet 1 rfl (by kernel_rfl) (by kernel_rfl) ?_
  apply Exists.intro
  refine ⟨fun w' hw' => ?_, ?_⟩
  · go_simp
    exact ⟨rfl, Ext.refl _⟩
  refine reg_quiet 2 rfl (by kernel_rfl) (by kernel_rfl) ?_
  apply Exists.intro
  refine ⟨fun w' hw' => ?_, ?_⟩
  · have q0 := hw'.cell HA0.out; have q1 := hw'.cell HA1.out; have q2 := hw'.cell HA2.out; have q3 := hw'.cell HA3.out
    go_simp
    exact ⟨rfl, Ext.refl _⟩
  refine reg_quiet 3 rfl (by kernel_rfl) (by kernel_rfl) ?_
  apply Exists.intro
  refine ⟨fun w' hw' => ?_, ?_⟩
  · go_simp
    exact ⟨rfl, Ext.refl _⟩
  refine reg_quiet 4 rfl (by kernel_rfl) (by kernel_rfl) ?_
  apply Exists.intro
  refine ⟨fun w' hw' => ?_, ?_⟩
  · go_simp
    exact HS.out d 0 w' (by omega) (by omega) (HT.out.1.trans hw')
  refine reg_one 5 rfl (by kernel_rfl) rfl (fun w' hw' => ?_)
  replace HT := hid (HT.out.later hw')
  clear hw'
  have q0 := cell_blk (j := 0) HT.out.2.2.2.1 rfl
  have q1 := cell_blk (j := 1) HT.out.2.2.2.1 rfl
  have q2 := cell_blk (j := 2) HT.out.2.2.2.1 rfl
  have q3 := cell_blk (j := 3) HT.out.2.2.2.1 rfl
  have z0 : ∀ j, w'.frozen? ⟨p1, j, none⟩ = false := fun j => by simp [World.frozen?, HT.out.2.2.2.1]
  go_simp
  clear q0 q1 q2 q3 z0
  replace HT := hid (HT.out.set2 (a := .int .i64 r.row) (b := .int .i64 r.col) (c := .int .i64 r.rows) (d := .int .i64 r.cols))
  unfold set4 at HT
  generalize World.setCell _ _ _ = W5 at *
  refine reg_one 6 rfl (by kernel_rfl) rfl (fun w' hw' => ?_)
  replace HT := hid (HT.out.later hw')
  clear hw'
  have q0 := cell_blk (j := 0) HT.out.2.2.2.2 rfl
  have q1 := cell_blk (j := 1) HT.out.2.2.2.2 rfl
  have q2 := cell_blk (j := 2) HT.out.2.2.2.2 rfl
  have q3 := cell_blk (j := 3) HT.out.2.2.2.2 rfl
  have z0 : ∀ j, w'.frozen? ⟨p2, j, none⟩ = false := fun j => by simp [World.frozen?, HT.out.2.2.2.2]
  go_simp
  clear q0 q1 q2 q3 z0
  replace HT := hid (HT.out.set3 (a := .int .i64 (slc a r d 0).row) (b := .int .i64 (slc a r d 0).col) (c := .int .i64 (slc a r d 0).rows) (d := .int .i64 (slc a r d 0).cols))
  unfold set4 at HT
  generalize World.setCell _ _ _ = W6 at *
  refine reg_done (by kernel_rfl) (fun w' hw' => ?_) _
  replace HT := hid (HT.out.later hw')
  clear hw'
  go_simp
  have q0 := cell_blk (j := 0) HT.out.2.2.2.1 rfl
  have q1 := cell_blk (j := 1) HT.out.2.2.2.1 rfl
  have q2 := cell_blk (j := 2) HT.out.2.2.2.1 rfl
  have q3 := cell_blk (j := 3) HT.out.2.2.2.1 rfl
  have s0 := cell_blk (j := 0) HT.out.2.2.2.2 rfl
  have s1 := cell_blk (j := 1) HT.out.2.2.2.2 rfl
  have s2 := cell_blk (j := 2) HT.out.2.2.2.2 rfl
  have s3 := cell_blk (j := 3) HT.out.2.2.2.2 rfl
  go_wp2
  simp [bodyPost, results, Tryd.results50, go_sem, q0, q1, q2, q3, s0, s1, s2, s3]
  first | exact HT.out.1 | exact ⟨⟨⟨rfl, rfl, rfl, rfl⟩, rfl, rfl, rfl, rfl⟩, HT.out.1⟩ | (trace_state; fail)

set_option profiler true in
set_option profiler.threshold 500 in
set_option maxHeartbeats 4000000 in
set_option maxRecDepth 100000 in
theorem parts_big (b : Nat) (a : Bool) (k : Int) (r : Bx) (w : World) (h3 : w.cell? ⟨b, 3, none⟩ = some (.bool a)) (h4 : w.cell? ⟨b, 4, none⟩ = some (.int .i64 k)) (hr : r.ok) (hk : k ≤ 1000000) (hd : ¬ wide a r < 3) :
    Calls Tryd.prog 50 #[ptr b, r.val] w fun e w' => e = .returned (.tuple #[(parts a k r).1.val, (parts a k r).2.val]) ∧ Ext w w' := by
  have hd0 : 0 ≤ wide a r ∧ wide a r ≤ 1000000 := by
    obtain ⟨h0, h1, h2, h3, h4, h5⟩ := hr
    unfold wide; split <;> omega
  have H3 := hid h3; have H4 := hid h4
  have HW := hid (fun w' (he : Ext w w') => wide_any b a r w' (he.cell h3))
  have HH := hid (fun w' (he : Ext w w') => held_any b k (wide a r) w' (he.cell h4) (by omega) (by omega) hk)
  have HS := hid (fun f m w' (hf : 0 ≤ f) (hf1 : f ≤ 1000000) (he : Ext w w') => slice_any b a r f m w' (he.cell h3) hr hf hf1)
  have hheld : 3 ≤ wide a r → 1 ≤ held k (wide a r) ∧ held k (wide a r) ≤ wide a r - 2 := by unfold held; omega
  unfold parts
  clear h3 h4
  have hlt : ¬ wide a r < 3 := hd
  clear hd
  unfold ptr Bx.val at *
  generalize hwd : wide a r = d at *
  generalize held k d = hh at *
  go_enter Tryd.func50, Tryd.ntmps50
  go_wp2_with fail
  have HT := hid (Three.new w #[.int .i64 r.row, .int .i64 r.col, .int .i64 r.rows, .int .i64 r.cols] #[.int .i64 0, .int .i64 0, .int .i64 0, .int .i64 0] #[.int .i64 0, .int .i64 0, .int .i64 0, .int .i64 0])
  generalize World.alloc _ _ = W1 at *
  generalize w.heap.size + 1 + 1 = p2 at *
  generalize w.heap.size + 1 = p1 at *
  generalize w.heap.size = p0 at *
  refine (HW.out _ HT.out.1).mono ?_
  rintro e w2 ⟨rfl, hE⟩
  replace HT := hid (HT.out.later hE)
  clear hE
  have hge : 3 ≤ d := by omega
  obtain ⟨hh1, hh2⟩ := hheld hge
  obtain ⟨hd1, hd2⟩ := hd0
  have v1 : IntKind.i64.wrap (hh + 1) = hh + 1 := by rw [IntKind.wrap_i64]; omega
  have v2 : IntKind.i64.wrap (d - hh) = d - hh := by rw [IntKind.wrap_i64]; omega
  have v3 : IntKind.i64.wrap (d - hh - 1) = d - hh - 1 := by rw [IntKind.wrap_i64]; omega
  go_wp2_with fail
  refine (HH.out _ HT.out.1).mono ?_
  rintro e w3 ⟨rfl, rfl⟩
  go_wp2_with fail
  refine reg_begin 13 (by kernel_rfl) ?_
  generalize hW : World.drew _ = W
  replace HT := hid (by rw [← hW]; exact HT.out.later (Ext.drew _) : Three w W p0 p1 p2 _ _ _)
  clear hW
  have HA0 := hid (cell_blk (j := 0) HT.out.2.2.1 rfl)
  have HA1 := hid (cell_blk (j := 1) HT.out.2.2.1 rfl)
  have HA2 := hid (cell_blk (j := 2) HT.out.2.2.1 rfl)
  have HA3 := hid (cell_blk (j := 3) HT.out.2.2.1 rfl)
  refine reg_quiet 0 rfl (by kernel_rfl) (by kernel_rfl) ?_
  apply Exists.intro
  refine ⟨fun w' hw' => ?_, ?_⟩
  · go_simp
    exact ⟨rfl, Ext.refl _⟩
  refine reg_quiet 1 rfl (by kernel_rfl) (by kernel_rfl) ?_
  apply Exists.intro
  refine ⟨fun w' hw' => ?_, ?_⟩
  · have q0 := hw'.cell HA0.out; have q1 := hw'.cell HA1.out; have q2 := hw'.cell HA2.out; have q3 := hw'.cell HA3.out
    go_simp
    exact ⟨rfl, Ext.refl _⟩
  refine reg_quiet 2 rfl (by kernel_rfl) (by kernel_rfl) ?_
  apply Exists.intro
  refine ⟨fun w' hw' => ?_, ?_⟩
  · go_simp
    exact ⟨rfl, Ext.refl _⟩
  refine reg_quiet 3 rfl (by kernel_rfl) (by kernel_rfl) ?_
  apply Exists.intro
  refine ⟨fun w' hw' => ?_, ?_⟩
  · go_simp
    exact HS.out 0 hh w' (by omega) (by omega) (HT.out.1.trans hw')
  refine reg_quiet 4 rfl (by kernel_rfl) (by kernel_rfl) ?_
  apply Exists.intro
  refine ⟨fun w' hw' => ?_, ?_⟩
  · go_simp
    exact ⟨rfl, Ext.refl _⟩
  refine reg_quiet 5 rfl (by kernel_rfl) (by kernel_rfl) ?_
  apply Exists.intro
  refine ⟨fun w' hw' => ?_, ?_⟩
  · have q0 := hw'.cell HA0.out; have q1 := hw'.cell HA1.out; have q2 := hw'.cell HA2.out; have q3 := hw'.cell HA3.out
    go_simp
    exact ⟨rfl, Ext.refl _⟩
  refine reg_quiet 6 rfl (by kernel_rfl) (by kernel_rfl) ?_
  apply Exists.intro
  refine ⟨fun w' hw' => ?_, ?_⟩
  · go_simp
    exact ⟨rfl, Ext.refl _⟩
  refine reg_quiet 7 rfl (by kernel_rfl) (by kernel_rfl) ?_
  apply Exists.intro
  refine ⟨fun w' hw' => ?_, ?_⟩
  · go_simp
    exact ⟨rfl, Ext.refl _⟩
  refine reg_quiet 8 rfl (by kernel_rfl) (by kernel_rfl) ?_
  apply Exists.intro
  refine ⟨fun w' hw' => ?_, ?_⟩
  · go_simp
    exact ⟨rfl, Ext.refl _⟩
  refine reg_quiet 9 rfl (by kernel_rfl) (by kernel_rfl) ?_
  apply Exists.intro
  refine ⟨fun w' hw' => ?_, ?_⟩
  · go_simp
    exact ⟨rfl, Ext.refl _⟩
  refine reg_quiet 10 rfl (by kernel_rfl) (by kernel_rfl) ?_
  apply Exists.intro
  refine ⟨fun w' hw' => ?_, ?_⟩
  · go_simp
    exact ⟨rfl, Ext.refl _⟩
  refine reg_quiet 11 rfl (by kernel_rfl) (by kernel_rfl) ?_
  apply Exists.intro
  refine ⟨fun w' hw' => ?_, ?_⟩
  · go_simp
    exact ⟨rfl, Ext.refl _⟩
  refine reg_quiet 12 rfl (by kernel_rfl) (by kernel_rfl) ?_
  apply Exists.intro
  refine ⟨fun w' hw' => ?_, ?_⟩
  · go_simp
    exact HS.out (hh + 1) (d - hh - 1) w' (by omega) (by omega) (HT.out.1.trans hw')
  refine reg_one 13 rfl (by kernel_rfl) rfl (fun w' hw' => ?_)
  replace HT := hid (HT.out.later hw')
  clear hw'
  have q0 := cell_blk (j := 0) HT.out.2.2.2.1 rfl
  have q1 := cell_blk (j := 1) HT.out.2.2.2.1 rfl
  have q2 := cell_blk (j := 2) HT.out.2.2.2.1 rfl
  have q3 := cell_blk (j := 3) HT.out.2.2.2.1 rfl
  have z0 : ∀ j, w'.frozen? ⟨p1, j, none⟩ = false := fun j => by simp [World.frozen?, HT.out.2.2.2.1]
  go_simp
  clear q0 q1 q2 q3 z0
  replace HT := hid (HT.out.set2 (a := .int .i64 (slc a r 0 hh).row) (b := .int .i64 (slc a r 0 hh).col) (c := .int .i64 (slc a r 0 hh).rows) (d := .int .i64 (slc a r 0 hh).cols))
  unfold set4 at HT
  generalize World.setCell _ _ _ = W5 at *
  refine reg_one 14 rfl (by kernel_rfl) rfl (fun w' hw' => ?_)
  replace HT := hid (HT.out.later hw')
  clear hw'
  have q0 := cell_blk (j := 0) HT.out.2.2.2.2 rfl
  have q1 := cell_blk (j := 1) HT.out.2.2.2.2 rfl
  have q2 := cell_blk (j := 2) HT.out.2.2.2.2 rfl
  have q3 := cell_blk (j := 3) HT.out.2.2.2.2 rfl
  have z0 : ∀ j, w'.frozen? ⟨p2, j, none⟩ = false := fun j => by simp [World.frozen?, HT.out.2.2.2.2]
  go_simp
  clear q0 q1 q2 q3 z0
  replace HT := hid (HT.out.set3 (a := .int .i64 (slc a r (hh + 1) (d - hh - 1)).row) (b := .int .i64 (slc a r (hh + 1) (d - hh - 1)).col) (c := .int .i64 (slc a r (hh + 1) (d - hh - 1)).rows) (d := .int .i64 (slc a r (hh + 1) (d - hh - 1)).cols))
  unfold set4 at HT
  generalize World.setCell _ _ _ = W6 at *
  refine reg_done (by kernel_rfl) (fun w' hw' => ?_) _
  replace HT := hid (HT.out.later hw')
  clear hw'
  go_simp
  have q0 := cell_blk (j := 0) HT.out.2.2.2.1 rfl
  have q1 := cell_blk (j := 1) HT.out.2.2.2.1 rfl
  have q2 := cell_blk (j := 2) HT.out.2.2.2.1 rfl
  have q3 := cell_blk (j := 3) HT.out.2.2.2.1 rfl
  have s0 := cell_blk (j := 0) HT.out.2.2.2.2 rfl
  have s1 := cell_blk (j := 1) HT.out.2.2.2.2 rfl
  have s2 := cell_blk (j := 2) HT.out.2.2.2.2 rfl
  have s3 := cell_blk (j := 3) HT.out.2.2.2.2 rfl
  go_wp2
  simp [bodyPost, results, Tryd.results50, go_sem, q0, q1, q2, q3, s0, s1, s2, s3]
  first | exact HT.out.1 | exact ⟨⟨⟨rfl, rfl, rfl, rfl⟩, rfl, rfl, rfl, rfl⟩, HT.out.1⟩ | (trace_state; fail)

theorem parts_any (b : Nat) (a : Bool) (k : Int) (r : Bx) (w : World) (h3 : w.cell? ⟨b, 3, none⟩ = some (.bool a)) (h4 : w.cell? ⟨b, 4, none⟩ = some (.int .i64 k)) (hr : r.ok) (hk : k ≤ 1000000) :
    Calls Tryd.prog 50 #[ptr b, r.val] w fun e w' => e = .returned (.tuple #[(parts a k r).1.val, (parts a k r).2.val]) ∧ Ext w w' := by
  by_cases hd : wide a r < 3
  · exact parts_small b a k r w h3 h4 hr hk hd
  · exact parts_big b a k r w h3 h4 hr hk hd

end Go.Proofs.YtflbfmfaccaffaaDoor
