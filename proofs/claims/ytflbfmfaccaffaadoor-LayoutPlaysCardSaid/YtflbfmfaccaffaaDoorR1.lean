/-
  The document's boxes: the parts of a box.
-/
import Derived.Test.YtflbfmfaccaffaaDoorR0
namespace Go.Proofs.YtflbfmfaccaffaaDoor
open Go Go.RowKit
attribute [local go_sem] extUpon
attribute [local go_sem ↓] eval_put_ne eval_put_none eval_put_same size_put eval_const

def recObj (a b c d : Int) : Obj := .cells #[.int .i64 a, .int .i64 b, .int .i64 c, .int .i64 d] 32 (0, 0)
/-- Two boxes of the call's own. -/
structure Two (w W : World) (q s : Nat) (x y : Bx) : Prop where
  ext : Ext w W
  low : w.heap.size ≤ q ∧ q < s
  bq : W.heap[q]? = some (recObj x.row x.col x.rows x.cols)
  bs : W.heap[s]? = some (recObj y.row y.col y.rows y.cols)
theorem Two.new (w : World) (o : Obj) (x y : Bx) : Two w (((w.alloc o).alloc (recObj x.row x.col x.rows x.cols)).alloc (recObj y.row y.col y.rows y.cols)) (w.heap.size + 1) (w.heap.size + 1 + 1) x y :=
  ⟨((Ext.alloc _ _).alloc' _).alloc' _, ⟨by omega, by omega⟩, (Ext.alloc _ _).blk (blk_at (by simp)), blk_at (by simp)⟩
theorem Two.later {w W W2 : World} {q s : Nat} {x y : Bx} (h : Two w W q s x y) (he : Ext W W2) : Two w W2 q s x y := ⟨h.ext.trans he, h.low, he.blk h.bq, he.blk h.bs⟩
theorem Two.setq {w W : World} {q s : Nat} {x y x' : Bx} (h : Two w W q s x y) : Two w (set4 W q (.int .i64 x'.row) (.int .i64 x'.col) (.int .i64 x'.rows) (.int .i64 x'.cols)) q s x' y :=
  ⟨set4_ext h.ext (by have := h.low; omega), h.low, set4_blk h.bq, (set4_far (by have := h.low; omega)).trans h.bs⟩
theorem Two.sets {w W : World} {q s : Nat} {x y y' : Bx} (h : Two w W q s x y) : Two w (set4 W s (.int .i64 y'.row) (.int .i64 y'.col) (.int .i64 y'.rows) (.int .i64 y'.cols)) q s x y' :=
  ⟨set4_ext h.ext (by have := h.low; omega), h.low, (set4_far (by have := h.low; omega)).trans h.bq, set4_blk h.bs⟩


set_option maxHeartbeats 4000000 in
set_option maxRecDepth 100000 in
theorem rboxes_small_a (b : Nat) (r : Bx) (w : World) (h1 : w.cell? ⟨b, 1, none⟩ = some (.bool true)) (hr : r.ok) (hd : r.cols < 3) :
    Calls Tryd.prog 55 #[ptr b, r.val] w fun e w' => e = .returned (.tuple #[r.val, (slc true r r.cols 0).val, .int .i64 r.cols]) ∧ Ext w w' := by
  obtain ⟨g0, g1, g2, g3, g4, g5⟩ := hr
  have hc : ∀ o o2 o3, (((w.alloc o).alloc o2).alloc o3).cell? ⟨b, 1, none⟩ = some (.bool true) := fun o o2 o3 => (((Ext.alloc w o).alloc' o2).alloc' o3).cell h1
  unfold ptr Bx.val slc
  go_enter Tryd.func55, Tryd.ntmps55
  go_wp2_with fail
  refine reg_begin 3 (by kernel_rfl) ?_
  generalize hW : World.drew _ = W
  obtain ⟨x, hx⟩ : ∃ x : Bx, x = r := ⟨_, rfl⟩
  obtain ⟨y, hy⟩ : ∃ y : Bx, y = ⟨r.row, r.col + r.cols, r.rows, 0⟩ := ⟨_, rfl⟩
  have HT : Hid (Two w W (w.heap.size + 1) (w.heap.size + 1 + 1) x y) := hid (by rw [← hW, hx, hy]; exact (Two.new w _ _ _).later (Ext.drew _))
  have HX := hid hx
  have HY := hid hy
  clear hW hx hy
  generalize w.heap.size + 1 + 1 = s at *
  generalize w.heap.size + 1 = q at *
  have q0 : (W).cell? ⟨q, 0, none⟩ = some (.int .i64 x.row) := cell_blk HT.out.bq rfl
  have q1 : (W).cell? ⟨q, 1, none⟩ = some (.int .i64 x.col) := cell_blk HT.out.bq rfl
  have q2 : (W).cell? ⟨q, 2, none⟩ = some (.int .i64 x.rows) := cell_blk HT.out.bq rfl
  have q3 : (W).cell? ⟨q, 3, none⟩ = some (.int .i64 x.cols) := cell_blk HT.out.bq rfl
  have s0 : (W).cell? ⟨s, 0, none⟩ = some (.int .i64 y.row) := cell_blk HT.out.bs rfl
  have s1 : (W).cell? ⟨s, 1, none⟩ = some (.int .i64 y.col) := cell_blk HT.out.bs rfl
  have s2 : (W).cell? ⟨s, 2, none⟩ = some (.int .i64 y.rows) := cell_blk HT.out.bs rfl
  have s3 : (W).cell? ⟨s, 3, none⟩ = some (.int .i64 y.cols) := cell_blk HT.out.bs rfl
  have zq : ∀ j, (W).frozen? ⟨q, j, none⟩ = false := fun j => by simp [World.frozen?, HT.out.bq, recObj]
  have zs : ∀ j, (W).frozen? ⟨s, j, none⟩ = false := fun j => by simp [World.frozen?, HT.out.bs, recObj]
  have HQ0 := hid q0
  have HQ1 := hid q1
  have HQ2 := hid q2
  have HQ3 := hid q3
  clear q0 q1 q2 q3 s0 s1 s2 s3 zq zs
  refine reg_quiet 0 rfl (by kernel_rfl) (by kernel_rfl) ?_
  apply Exists.intro
  refine ⟨fun w' hw' => ?_, ?_⟩
  · have q0 := hw'.cell HQ0.out; have q1 := hw'.cell HQ1.out; have q2 := hw'.cell HQ2.out; have q3 := hw'.cell HQ3.out
    go_simp
    exact ⟨rfl, Ext.refl _⟩
  refine reg_pure 2 rfl (by kernel_rfl) rfl ?_
  apply Exists.intro
  refine ⟨fun w' => ?_, ?_⟩
  · go_simp
    exact rfl
  clear HQ0 HQ1 HQ2 HQ3
  refine reg_two 1 3 rfl rfl (by kernel_rfl) rfl rfl (fun w' hw' => ?_) (fun w' hw' => ?_)
  · skip
    replace HT := hid (HT.out.later hw')
    clear hw'
    have q0 : (w').cell? ⟨q, 0, none⟩ = some (.int .i64 x.row) := cell_blk HT.out.bq rfl
    have q1 : (w').cell? ⟨q, 1, none⟩ = some (.int .i64 x.col) := cell_blk HT.out.bq rfl
    have q2 : (w').cell? ⟨q, 2, none⟩ = some (.int .i64 x.rows) := cell_blk HT.out.bq rfl
    have q3 : (w').cell? ⟨q, 3, none⟩ = some (.int .i64 x.cols) := cell_blk HT.out.bq rfl
    have s0 : (w').cell? ⟨s, 0, none⟩ = some (.int .i64 y.row) := cell_blk HT.out.bs rfl
    have s1 : (w').cell? ⟨s, 1, none⟩ = some (.int .i64 y.col) := cell_blk HT.out.bs rfl
    have s2 : (w').cell? ⟨s, 2, none⟩ = some (.int .i64 y.rows) := cell_blk HT.out.bs rfl
    have s3 : (w').cell? ⟨s, 3, none⟩ = some (.int .i64 y.cols) := cell_blk HT.out.bs rfl
    have zq : ∀ j, (w').frozen? ⟨q, j, none⟩ = false := fun j => by simp [World.frozen?, HT.out.bq, recObj]
    have zs : ∀ j, (w').frozen? ⟨s, j, none⟩ = false := fun j => by simp [World.frozen?, HT.out.bs, recObj]
    go_simp
    refine ⟨Ext.refl _, ?_⟩
    clear q0 q1 q2 q3 s0 s1 s2 s3 zq zs
    refine reg_one 3 rfl (by kernel_rfl) rfl (fun w' hw' => ?_)
    replace HT := hid (HT.out.later hw')
    clear hw'
    have q0 : (w').cell? ⟨q, 0, none⟩ = some (.int .i64 x.row) := cell_blk HT.out.bq rfl
    have q1 : (w').cell? ⟨q, 1, none⟩ = some (.int .i64 x.col) := cell_blk HT.out.bq rfl
    have q2 : (w').cell? ⟨q, 2, none⟩ = some (.int .i64 x.rows) := cell_blk HT.out.bq rfl
    have q3 : (w').cell? ⟨q, 3, none⟩ = some (.int .i64 x.cols) := cell_blk HT.out.bq rfl
    have s0 : (w').cell? ⟨s, 0, none⟩ = some (.int .i64 y.row) := cell_blk HT.out.bs rfl
    have s1 : (w').cell? ⟨s, 1, none⟩ = some (.int .i64 y.col) := cell_blk HT.out.bs rfl
    have s2 : (w').cell? ⟨s, 2, none⟩ = some (.int .i64 y.rows) := cell_blk HT.out.bs rfl
    have s3 : (w').cell? ⟨s, 3, none⟩ = some (.int .i64 y.cols) := cell_blk HT.out.bs rfl
    have zq : ∀ j, (w').frozen? ⟨q, j, none⟩ = false := fun j => by simp [World.frozen?, HT.out.bq, recObj]
    have zs : ∀ j, (w').frozen? ⟨s, j, none⟩ = false := fun j => by simp [World.frozen?, HT.out.bs, recObj]
    replace HT := hid (HT.out.setq (x' := x))
    go_simp
    clear q0 q1 q2 q3 s0 s1 s2 s3 zq zs
    unfold set4 at HT
    generalize World.setCell _ _ _ = W3 at *
    refine reg_one 4 rfl (by kernel_rfl) rfl (fun w' hw' => ?_)
    replace HT := hid (HT.out.later hw')
    clear hw'
    have q0 : (w').cell? ⟨q, 0, none⟩ = some (.int .i64 x.row) := cell_blk HT.out.bq rfl
    have q1 : (w').cell? ⟨q, 1, none⟩ = some (.int .i64 x.col) := cell_blk HT.out.bq rfl
    have q2 : (w').cell? ⟨q, 2, none⟩ = some (.int .i64 x.rows) := cell_blk HT.out.bq rfl
    have q3 : (w').cell? ⟨q, 3, none⟩ = some (.int .i64 x.cols) := cell_blk HT.out.bq rfl
    have s0 : (w').cell? ⟨s, 0, none⟩ = some (.int .i64 y.row) := cell_blk HT.out.bs rfl
    have s1 : (w').cell? ⟨s, 1, none⟩ = some (.int .i64 y.col) := cell_blk HT.out.bs rfl
    have s2 : (w').cell? ⟨s, 2, none⟩ = some (.int .i64 y.rows) := cell_blk HT.out.bs rfl
    have s3 : (w').cell? ⟨s, 3, none⟩ = some (.int .i64 y.cols) := cell_blk HT.out.bs rfl
    have zq : ∀ j, (w').frozen? ⟨q, j, none⟩ = false := fun j => by simp [World.frozen?, HT.out.bq, recObj]
    have zs : ∀ j, (w').frozen? ⟨s, j, none⟩ = false := fun j => by simp [World.frozen?, HT.out.bs, recObj]
    replace HT := hid (HT.out.sets (y' := y))
    go_simp
    clear q0 q1 q2 q3 s0 s1 s2 s3 zq zs
    unfold set4 at HT
    generalize World.setCell _ _ _ = W4 at *
    refine reg_pure 5 rfl (by kernel_rfl) rfl ?_
    apply Exists.intro
    refine ⟨fun w' => ?_, ?_⟩
    · go_simp
      exact rfl
    refine reg_done (by kernel_rfl) (fun w' hw' => ?_) _
    replace HT := hid (HT.out.later hw')
    clear hw'
    have q0 : (w').cell? ⟨q, 0, none⟩ = some (.int .i64 x.row) := cell_blk HT.out.bq rfl
    have q1 : (w').cell? ⟨q, 1, none⟩ = some (.int .i64 x.col) := cell_blk HT.out.bq rfl
    have q2 : (w').cell? ⟨q, 2, none⟩ = some (.int .i64 x.rows) := cell_blk HT.out.bq rfl
    have q3 : (w').cell? ⟨q, 3, none⟩ = some (.int .i64 x.cols) := cell_blk HT.out.bq rfl
    have s0 : (w').cell? ⟨s, 0, none⟩ = some (.int .i64 y.row) := cell_blk HT.out.bs rfl
    have s1 : (w').cell? ⟨s, 1, none⟩ = some (.int .i64 y.col) := cell_blk HT.out.bs rfl
    have s2 : (w').cell? ⟨s, 2, none⟩ = some (.int .i64 y.rows) := cell_blk HT.out.bs rfl
    have s3 : (w').cell? ⟨s, 3, none⟩ = some (.int .i64 y.cols) := cell_blk HT.out.bs rfl
    have zq : ∀ j, (w').frozen? ⟨q, j, none⟩ = false := fun j => by simp [World.frozen?, HT.out.bq, recObj]
    have zs : ∀ j, (w').frozen? ⟨s, j, none⟩ = false := fun j => by simp [World.frozen?, HT.out.bs, recObj]
    go_simp
    go_wp2
    simp [bodyPost, results, Tryd.results55, go_sem, q0, q1, q2, q3, s0, s1, s2, s3]
    have hx := HX.out
    have hy := HY.out
    subst hx hy
    first | exact HT.out.ext | (refine ⟨?_, HT.out.ext⟩; omega) | (refine ⟨?_, HT.out.ext⟩; simp; done) | (refine ⟨?_, HT.out.ext⟩; simp; omega) | exact ⟨⟨rfl, rfl, rfl, rfl⟩, HT.out.ext⟩ | (trace_state; fail)
  · skip
    replace HT := hid (HT.out.later hw')
    clear hw'
    have q0 : (w').cell? ⟨q, 0, none⟩ = some (.int .i64 x.row) := cell_blk HT.out.bq rfl
    have q1 : (w').cell? ⟨q, 1, none⟩ = some (.int .i64 x.col) := cell_blk HT.out.bq rfl
    have q2 : (w').cell? ⟨q, 2, none⟩ = some (.int .i64 x.rows) := cell_blk HT.out.bq rfl
    have q3 : (w').cell? ⟨q, 3, none⟩ = some (.int .i64 x.cols) := cell_blk HT.out.bq rfl
    have s0 : (w').cell? ⟨s, 0, none⟩ = some (.int .i64 y.row) := cell_blk HT.out.bs rfl
    have s1 : (w').cell? ⟨s, 1, none⟩ = some (.int .i64 y.col) := cell_blk HT.out.bs rfl
    have s2 : (w').cell? ⟨s, 2, none⟩ = some (.int .i64 y.rows) := cell_blk HT.out.bs rfl
    have s3 : (w').cell? ⟨s, 3, none⟩ = some (.int .i64 y.cols) := cell_blk HT.out.bs rfl
    have zq : ∀ j, (w').frozen? ⟨q, j, none⟩ = false := fun j => by simp [World.frozen?, HT.out.bq, recObj]
    have zs : ∀ j, (w').frozen? ⟨s, j, none⟩ = false := fun j => by simp [World.frozen?, HT.out.bs, recObj]
    replace HT := hid (HT.out.setq (x' := x))
    go_simp
    clear q0 q1 q2 q3 s0 s1 s2 s3 zq zs
    unfold set4 at HT
    generalize World.setCell _ _ _ = W3 at *
    refine reg_one 1 rfl (by kernel_rfl) rfl (fun w' hw' => ?_)
    replace HT := hid (HT.out.later hw')
    clear hw'
    have q0 : (w').cell? ⟨q, 0, none⟩ = some (.int .i64 x.row) := cell_blk HT.out.bq rfl
    have q1 : (w').cell? ⟨q, 1, none⟩ = some (.int .i64 x.col) := cell_blk HT.out.bq rfl
    have q2 : (w').cell? ⟨q, 2, none⟩ = some (.int .i64 x.rows) := cell_blk HT.out.bq rfl
    have q3 : (w').cell? ⟨q, 3, none⟩ = some (.int .i64 x.cols) := cell_blk HT.out.bq rfl
    have s0 : (w').cell? ⟨s, 0, none⟩ = some (.int .i64 y.row) := cell_blk HT.out.bs rfl
    have s1 : (w').cell? ⟨s, 1, none⟩ = some (.int .i64 y.col) := cell_blk HT.out.bs rfl
    have s2 : (w').cell? ⟨s, 2, none⟩ = some (.int .i64 y.rows) := cell_blk HT.out.bs rfl
    have s3 : (w').cell? ⟨s, 3, none⟩ = some (.int .i64 y.cols) := cell_blk HT.out.bs rfl
    have zq : ∀ j, (w').frozen? ⟨q, j, none⟩ = false := fun j => by simp [World.frozen?, HT.out.bq, recObj]
    have zs : ∀ j, (w').frozen? ⟨s, j, none⟩ = false := fun j => by simp [World.frozen?, HT.out.bs, recObj]
    go_simp
    refine ⟨Ext.refl _, ?_⟩
    clear q0 q1 q2 q3 s0 s1 s2 s3 zq zs
    refine reg_one 4 rfl (by kernel_rfl) rfl (fun w' hw' => ?_)
    replace HT := hid (HT.out.later hw')
    clear hw'
    have q0 : (w').cell? ⟨q, 0, none⟩ = some (.int .i64 x.row) := cell_blk HT.out.bq rfl
    have q1 : (w').cell? ⟨q, 1, none⟩ = some (.int .i64 x.col) := cell_blk HT.out.bq rfl
    have q2 : (w').cell? ⟨q, 2, none⟩ = some (.int .i64 x.rows) := cell_blk HT.out.bq rfl
    have q3 : (w').cell? ⟨q, 3, none⟩ = some (.int .i64 x.cols) := cell_blk HT.out.bq rfl
    have s0 : (w').cell? ⟨s, 0, none⟩ = some (.int .i64 y.row) := cell_blk HT.out.bs rfl
    have s1 : (w').cell? ⟨s, 1, none⟩ = some (.int .i64 y.col) := cell_blk HT.out.bs rfl
    have s2 : (w').cell? ⟨s, 2, none⟩ = some (.int .i64 y.rows) := cell_blk HT.out.bs rfl
    have s3 : (w').cell? ⟨s, 3, none⟩ = some (.int .i64 y.cols) := cell_blk HT.out.bs rfl
    have zq : ∀ j, (w').frozen? ⟨q, j, none⟩ = false := fun j => by simp [World.frozen?, HT.out.bq, recObj]
    have zs : ∀ j, (w').frozen? ⟨s, j, none⟩ = false := fun j => by simp [World.frozen?, HT.out.bs, recObj]
    replace HT := hid (HT.out.sets (y' := y))
    go_simp
    clear q0 q1 q2 q3 s0 s1 s2 s3 zq zs
    unfold set4 at HT
    generalize World.setCell _ _ _ = W4 at *
    refine reg_pure 5 rfl (by kernel_rfl) rfl ?_
    apply Exists.intro
    refine ⟨fun w' => ?_, ?_⟩
    · go_simp
      exact rfl
    refine reg_done (by kernel_rfl) (fun w' hw' => ?_) _
    replace HT := hid (HT.out.later hw')
    clear hw'
    have q0 : (w').cell? ⟨q, 0, none⟩ = some (.int .i64 x.row) := cell_blk HT.out.bq rfl
    have q1 : (w').cell? ⟨q, 1, none⟩ = some (.int .i64 x.col) := cell_blk HT.out.bq rfl
    have q2 : (w').cell? ⟨q, 2, none⟩ = some (.int .i64 x.rows) := cell_blk HT.out.bq rfl
    have q3 : (w').cell? ⟨q, 3, none⟩ = some (.int .i64 x.cols) := cell_blk HT.out.bq rfl
    have s0 : (w').cell? ⟨s, 0, none⟩ = some (.int .i64 y.row) := cell_blk HT.out.bs rfl
    have s1 : (w').cell? ⟨s, 1, none⟩ = some (.int .i64 y.col) := cell_blk HT.out.bs rfl
    have s2 : (w').cell? ⟨s, 2, none⟩ = some (.int .i64 y.rows) := cell_blk HT.out.bs rfl
    have s3 : (w').cell? ⟨s, 3, none⟩ = some (.int .i64 y.cols) := cell_blk HT.out.bs rfl
    have zq : ∀ j, (w').frozen? ⟨q, j, none⟩ = false := fun j => by simp [World.frozen?, HT.out.bq, recObj]
    have zs : ∀ j, (w').frozen? ⟨s, j, none⟩ = false := fun j => by simp [World.frozen?, HT.out.bs, recObj]
    go_simp
    go_wp2
    simp [bodyPost, results, Tryd.results55, go_sem, q0, q1, q2, q3, s0, s1, s2, s3]
    have hx := HX.out
    have hy := HY.out
    subst hx hy
    first | exact HT.out.ext | (refine ⟨?_, HT.out.ext⟩; omega) | (refine ⟨?_, HT.out.ext⟩; simp; done) | (refine ⟨?_, HT.out.ext⟩; simp; omega) | exact ⟨⟨rfl, rfl, rfl, rfl⟩, HT.out.ext⟩ | (trace_state; fail)

set_option maxHeartbeats 4000000 in
set_option maxRecDepth 100000 in
theorem rboxes_small_u (b : Nat) (r : Bx) (w : World) (h1 : w.cell? ⟨b, 1, none⟩ = some (.bool false)) (hr : r.ok) (hd : r.rows < 3) :
    Calls Tryd.prog 55 #[ptr b, r.val] w fun e w' => e = .returned (.tuple #[r.val, (slc false r r.rows 0).val, .int .i64 r.rows]) ∧ Ext w w' := by
  obtain ⟨g0, g1, g2, g3, g4, g5⟩ := hr
  have hc : ∀ o o2 o3, (((w.alloc o).alloc o2).alloc o3).cell? ⟨b, 1, none⟩ = some (.bool false) := fun o o2 o3 => (((Ext.alloc w o).alloc' o2).alloc' o3).cell h1
  unfold ptr Bx.val slc
  go_enter Tryd.func55, Tryd.ntmps55
  go_wp2_with fail
  refine reg_begin 3 (by kernel_rfl) ?_
  generalize hW : World.drew _ = W
  obtain ⟨x, hx⟩ : ∃ x : Bx, x = r := ⟨_, rfl⟩
  obtain ⟨y, hy⟩ : ∃ y : Bx, y = ⟨r.row + r.rows, r.col, 0, r.cols⟩ := ⟨_, rfl⟩
  have HT : Hid (Two w W (w.heap.size + 1) (w.heap.size + 1 + 1) x y) := hid (by rw [← hW, hx, hy]; exact (Two.new w _ _ _).later (Ext.drew _))
  have HX := hid hx
  have HY := hid hy
  clear hW hx hy
  generalize w.heap.size + 1 + 1 = s at *
  generalize w.heap.size + 1 = q at *
  have q0 : (W).cell? ⟨q, 0, none⟩ = some (.int .i64 x.row) := cell_blk HT.out.bq rfl
  have q1 : (W).cell? ⟨q, 1, none⟩ = some (.int .i64 x.col) := cell_blk HT.out.bq rfl
  have q2 : (W).cell? ⟨q, 2, none⟩ = some (.int .i64 x.rows) := cell_blk HT.out.bq rfl
  have q3 : (W).cell? ⟨q, 3, none⟩ = some (.int .i64 x.cols) := cell_blk HT.out.bq rfl
  have s0 : (W).cell? ⟨s, 0, none⟩ = some (.int .i64 y.row) := cell_blk HT.out.bs rfl
  have s1 : (W).cell? ⟨s, 1, none⟩ = some (.int .i64 y.col) := cell_blk HT.out.bs rfl
  have s2 : (W).cell? ⟨s, 2, none⟩ = some (.int .i64 y.rows) := cell_blk HT.out.bs rfl
  have s3 : (W).cell? ⟨s, 3, none⟩ = some (.int .i64 y.cols) := cell_blk HT.out.bs rfl
  have zq : ∀ j, (W).frozen? ⟨q, j, none⟩ = false := fun j => by simp [World.frozen?, HT.out.bq, recObj]
  have zs : ∀ j, (W).frozen? ⟨s, j, none⟩ = false := fun j => by simp [World.frozen?, HT.out.bs, recObj]
  have HQ0 := hid q0
  have HQ1 := hid q1
  have HQ2 := hid q2
  have HQ3 := hid q3
  clear q0 q1 q2 q3 s0 s1 s2 s3 zq zs
  refine reg_quiet 0 rfl (by kernel_rfl) (by kernel_rfl) ?_
  apply Exists.intro
  refine ⟨fun w' hw' => ?_, ?_⟩
  · have q0 := hw'.cell HQ0.out; have q1 := hw'.cell HQ1.out; have q2 := hw'.cell HQ2.out; have q3 := hw'.cell HQ3.out
    go_simp
    exact ⟨rfl, Ext.refl _⟩
  refine reg_pure 2 rfl (by kernel_rfl) rfl ?_
  apply Exists.intro
  refine ⟨fun w' => ?_, ?_⟩
  · go_simp
    exact rfl
  clear HQ0 HQ1 HQ2 HQ3
  refine reg_two 1 3 rfl rfl (by kernel_rfl) rfl rfl (fun w' hw' => ?_) (fun w' hw' => ?_)
  · skip
    replace HT := hid (HT.out.later hw')
    clear hw'
    have q0 : (w').cell? ⟨q, 0, none⟩ = some (.int .i64 x.row) := cell_blk HT.out.bq rfl
    have q1 : (w').cell? ⟨q, 1, none⟩ = some (.int .i64 x.col) := cell_blk HT.out.bq rfl
    have q2 : (w').cell? ⟨q, 2, none⟩ = some (.int .i64 x.rows) := cell_blk HT.out.bq rfl
    have q3 : (w').cell? ⟨q, 3, none⟩ = some (.int .i64 x.cols) := cell_blk HT.out.bq rfl
    have s0 : (w').cell? ⟨s, 0, none⟩ = some (.int .i64 y.row) := cell_blk HT.out.bs rfl
    have s1 : (w').cell? ⟨s, 1, none⟩ = some (.int .i64 y.col) := cell_blk HT.out.bs rfl
    have s2 : (w').cell? ⟨s, 2, none⟩ = some (.int .i64 y.rows) := cell_blk HT.out.bs rfl
    have s3 : (w').cell? ⟨s, 3, none⟩ = some (.int .i64 y.cols) := cell_blk HT.out.bs rfl
    have zq : ∀ j, (w').frozen? ⟨q, j, none⟩ = false := fun j => by simp [World.frozen?, HT.out.bq, recObj]
    have zs : ∀ j, (w').frozen? ⟨s, j, none⟩ = false := fun j => by simp [World.frozen?, HT.out.bs, recObj]
    go_simp
    refine ⟨Ext.refl _, ?_⟩
    clear q0 q1 q2 q3 s0 s1 s2 s3 zq zs
    refine reg_one 3 rfl (by kernel_rfl) rfl (fun w' hw' => ?_)
    replace HT := hid (HT.out.later hw')
    clear hw'
    have q0 : (w').cell? ⟨q, 0, none⟩ = some (.int .i64 x.row) := cell_blk HT.out.bq rfl
    have q1 : (w').cell? ⟨q, 1, none⟩ = some (.int .i64 x.col) := cell_blk HT.out.bq rfl
    have q2 : (w').cell? ⟨q, 2, none⟩ = some (.int .i64 x.rows) := cell_blk HT.out.bq rfl
    have q3 : (w').cell? ⟨q, 3, none⟩ = some (.int .i64 x.cols) := cell_blk HT.out.bq rfl
    have s0 : (w').cell? ⟨s, 0, none⟩ = some (.int .i64 y.row) := cell_blk HT.out.bs rfl
    have s1 : (w').cell? ⟨s, 1, none⟩ = some (.int .i64 y.col) := cell_blk HT.out.bs rfl
    have s2 : (w').cell? ⟨s, 2, none⟩ = some (.int .i64 y.rows) := cell_blk HT.out.bs rfl
    have s3 : (w').cell? ⟨s, 3, none⟩ = some (.int .i64 y.cols) := cell_blk HT.out.bs rfl
    have zq : ∀ j, (w').frozen? ⟨q, j, none⟩ = false := fun j => by simp [World.frozen?, HT.out.bq, recObj]
    have zs : ∀ j, (w').frozen? ⟨s, j, none⟩ = false := fun j => by simp [World.frozen?, HT.out.bs, recObj]
    replace HT := hid (HT.out.setq (x' := x))
    go_simp
    clear q0 q1 q2 q3 s0 s1 s2 s3 zq zs
    unfold set4 at HT
    generalize World.setCell _ _ _ = W3 at *
    refine reg_one 4 rfl (by kernel_rfl) rfl (fun w' hw' => ?_)
    replace HT := hid (HT.out.later hw')
    clear hw'
    have q0 : (w').cell? ⟨q, 0, none⟩ = some (.int .i64 x.row) := cell_blk HT.out.bq rfl
    have q1 : (w').cell? ⟨q, 1, none⟩ = some (.int .i64 x.col) := cell_blk HT.out.bq rfl
    have q2 : (w').cell? ⟨q, 2, none⟩ = some (.int .i64 x.rows) := cell_blk HT.out.bq rfl
    have q3 : (w').cell? ⟨q, 3, none⟩ = some (.int .i64 x.cols) := cell_blk HT.out.bq rfl
    have s0 : (w').cell? ⟨s, 0, none⟩ = some (.int .i64 y.row) := cell_blk HT.out.bs rfl
    have s1 : (w').cell? ⟨s, 1, none⟩ = some (.int .i64 y.col) := cell_blk HT.out.bs rfl
    have s2 : (w').cell? ⟨s, 2, none⟩ = some (.int .i64 y.rows) := cell_blk HT.out.bs rfl
    have s3 : (w').cell? ⟨s, 3, none⟩ = some (.int .i64 y.cols) := cell_blk HT.out.bs rfl
    have zq : ∀ j, (w').frozen? ⟨q, j, none⟩ = false := fun j => by simp [World.frozen?, HT.out.bq, recObj]
    have zs : ∀ j, (w').frozen? ⟨s, j, none⟩ = false := fun j => by simp [World.frozen?, HT.out.bs, recObj]
    replace HT := hid (HT.out.sets (y' := y))
    go_simp
    clear q0 q1 q2 q3 s0 s1 s2 s3 zq zs
    unfold set4 at HT
    generalize World.setCell _ _ _ = W4 at *
    refine reg_pure 5 rfl (by kernel_rfl) rfl ?_
    apply Exists.intro
    refine ⟨fun w' => ?_, ?_⟩
    · go_simp
      exact rfl
    refine reg_done (by kernel_rfl) (fun w' hw' => ?_) _
    replace HT := hid (HT.out.later hw')
    clear hw'
    have q0 : (w').cell? ⟨q, 0, none⟩ = some (.int .i64 x.row) := cell_blk HT.out.bq rfl
    have q1 : (w').cell? ⟨q, 1, none⟩ = some (.int .i64 x.col) := cell_blk HT.out.bq rfl
    have q2 : (w').cell? ⟨q, 2, none⟩ = some (.int .i64 x.rows) := cell_blk HT.out.bq rfl
    have q3 : (w').cell? ⟨q, 3, none⟩ = some (.int .i64 x.cols) := cell_blk HT.out.bq rfl
    have s0 : (w').cell? ⟨s, 0, none⟩ = some (.int .i64 y.row) := cell_blk HT.out.bs rfl
    have s1 : (w').cell? ⟨s, 1, none⟩ = some (.int .i64 y.col) := cell_blk HT.out.bs rfl
    have s2 : (w').cell? ⟨s, 2, none⟩ = some (.int .i64 y.rows) := cell_blk HT.out.bs rfl
    have s3 : (w').cell? ⟨s, 3, none⟩ = some (.int .i64 y.cols) := cell_blk HT.out.bs rfl
    have zq : ∀ j, (w').frozen? ⟨q, j, none⟩ = false := fun j => by simp [World.frozen?, HT.out.bq, recObj]
    have zs : ∀ j, (w').frozen? ⟨s, j, none⟩ = false := fun j => by simp [World.frozen?, HT.out.bs, recObj]
    go_simp
    go_wp2
    simp [bodyPost, results, Tryd.results55, go_sem, q0, q1, q2, q3, s0, s1, s2, s3]
    have hx := HX.out
    have hy := HY.out
    subst hx hy
    first | exact HT.out.ext | (refine ⟨?_, HT.out.ext⟩; omega) | (refine ⟨?_, HT.out.ext⟩; simp; done) | (refine ⟨?_, HT.out.ext⟩; simp; omega) | exact ⟨⟨rfl, rfl, rfl, rfl⟩, HT.out.ext⟩ | (trace_state; fail)
  · skip
    replace HT := hid (HT.out.later hw')
    clear hw'
    have q0 : (w').cell? ⟨q, 0, none⟩ = some (.int .i64 x.row) := cell_blk HT.out.bq rfl
    have q1 : (w').cell? ⟨q, 1, none⟩ = some (.int .i64 x.col) := cell_blk HT.out.bq rfl
    have q2 : (w').cell? ⟨q, 2, none⟩ = some (.int .i64 x.rows) := cell_blk HT.out.bq rfl
    have q3 : (w').cell? ⟨q, 3, none⟩ = some (.int .i64 x.cols) := cell_blk HT.out.bq rfl
    have s0 : (w').cell? ⟨s, 0, none⟩ = some (.int .i64 y.row) := cell_blk HT.out.bs rfl
    have s1 : (w').cell? ⟨s, 1, none⟩ = some (.int .i64 y.col) := cell_blk HT.out.bs rfl
    have s2 : (w').cell? ⟨s, 2, none⟩ = some (.int .i64 y.rows) := cell_blk HT.out.bs rfl
    have s3 : (w').cell? ⟨s, 3, none⟩ = some (.int .i64 y.cols) := cell_blk HT.out.bs rfl
    have zq : ∀ j, (w').frozen? ⟨q, j, none⟩ = false := fun j => by simp [World.frozen?, HT.out.bq, recObj]
    have zs : ∀ j, (w').frozen? ⟨s, j, none⟩ = false := fun j => by simp [World.frozen?, HT.out.bs, recObj]
    replace HT := hid (HT.out.setq (x' := x))
    go_simp
    clear q0 q1 q2 q3 s0 s1 s2 s3 zq zs
    unfold set4 at HT
    generalize World.setCell _ _ _ = W3 at *
    refine reg_one 1 rfl (by kernel_rfl) rfl (fun w' hw' => ?_)
    replace HT := hid (HT.out.later hw')
    clear hw'
    have q0 : (w').cell? ⟨q, 0, none⟩ = some (.int .i64 x.row) := cell_blk HT.out.bq rfl
    have q1 : (w').cell? ⟨q, 1, none⟩ = some (.int .i64 x.col) := cell_blk HT.out.bq rfl
    have q2 : (w').cell? ⟨q, 2, none⟩ = some (.int .i64 x.rows) := cell_blk HT.out.bq rfl
    have q3 : (w').cell? ⟨q, 3, none⟩ = some (.int .i64 x.cols) := cell_blk HT.out.bq rfl
    have s0 : (w').cell? ⟨s, 0, none⟩ = some (.int .i64 y.row) := cell_blk HT.out.bs rfl
    have s1 : (w').cell? ⟨s, 1, none⟩ = some (.int .i64 y.col) := cell_blk HT.out.bs rfl
    have s2 : (w').cell? ⟨s, 2, none⟩ = some (.int .i64 y.rows) := cell_blk HT.out.bs rfl
    have s3 : (w').cell? ⟨s, 3, none⟩ = some (.int .i64 y.cols) := cell_blk HT.out.bs rfl
    have zq : ∀ j, (w').frozen? ⟨q, j, none⟩ = false := fun j => by simp [World.frozen?, HT.out.bq, recObj]
    have zs : ∀ j, (w').frozen? ⟨s, j, none⟩ = false := fun j => by simp [World.frozen?, HT.out.bs, recObj]
    go_simp
    refine ⟨Ext.refl _, ?_⟩
    clear q0 q1 q2 q3 s0 s1 s2 s3 zq zs
    refine reg_one 4 rfl (by kernel_rfl) rfl (fun w' hw' => ?_)
    replace HT := hid (HT.out.later hw')
    clear hw'
    have q0 : (w').cell? ⟨q, 0, none⟩ = some (.int .i64 x.row) := cell_blk HT.out.bq rfl
    have q1 : (w').cell? ⟨q, 1, none⟩ = some (.int .i64 x.col) := cell_blk HT.out.bq rfl
    have q2 : (w').cell? ⟨q, 2, none⟩ = some (.int .i64 x.rows) := cell_blk HT.out.bq rfl
    have q3 : (w').cell? ⟨q, 3, none⟩ = some (.int .i64 x.cols) := cell_blk HT.out.bq rfl
    have s0 : (w').cell? ⟨s, 0, none⟩ = some (.int .i64 y.row) := cell_blk HT.out.bs rfl
    have s1 : (w').cell? ⟨s, 1, none⟩ = some (.int .i64 y.col) := cell_blk HT.out.bs rfl
    have s2 : (w').cell? ⟨s, 2, none⟩ = some (.int .i64 y.rows) := cell_blk HT.out.bs rfl
    have s3 : (w').cell? ⟨s, 3, none⟩ = some (.int .i64 y.cols) := cell_blk HT.out.bs rfl
    have zq : ∀ j, (w').frozen? ⟨q, j, none⟩ = false := fun j => by simp [World.frozen?, HT.out.bq, recObj]
    have zs : ∀ j, (w').frozen? ⟨s, j, none⟩ = false := fun j => by simp [World.frozen?, HT.out.bs, recObj]
    replace HT := hid (HT.out.sets (y' := y))
    go_simp
    clear q0 q1 q2 q3 s0 s1 s2 s3 zq zs
    unfold set4 at HT
    generalize World.setCell _ _ _ = W4 at *
    refine reg_pure 5 rfl (by kernel_rfl) rfl ?_
    apply Exists.intro
    refine ⟨fun w' => ?_, ?_⟩
    · go_simp
      exact rfl
    refine reg_done (by kernel_rfl) (fun w' hw' => ?_) _
    replace HT := hid (HT.out.later hw')
    clear hw'
    have q0 : (w').cell? ⟨q, 0, none⟩ = some (.int .i64 x.row) := cell_blk HT.out.bq rfl
    have q1 : (w').cell? ⟨q, 1, none⟩ = some (.int .i64 x.col) := cell_blk HT.out.bq rfl
    have q2 : (w').cell? ⟨q, 2, none⟩ = some (.int .i64 x.rows) := cell_blk HT.out.bq rfl
    have q3 : (w').cell? ⟨q, 3, none⟩ = some (.int .i64 x.cols) := cell_blk HT.out.bq rfl
    have s0 : (w').cell? ⟨s, 0, none⟩ = some (.int .i64 y.row) := cell_blk HT.out.bs rfl
    have s1 : (w').cell? ⟨s, 1, none⟩ = some (.int .i64 y.col) := cell_blk HT.out.bs rfl
    have s2 : (w').cell? ⟨s, 2, none⟩ = some (.int .i64 y.rows) := cell_blk HT.out.bs rfl
    have s3 : (w').cell? ⟨s, 3, none⟩ = some (.int .i64 y.cols) := cell_blk HT.out.bs rfl
    have zq : ∀ j, (w').frozen? ⟨q, j, none⟩ = false := fun j => by simp [World.frozen?, HT.out.bq, recObj]
    have zs : ∀ j, (w').frozen? ⟨s, j, none⟩ = false := fun j => by simp [World.frozen?, HT.out.bs, recObj]
    go_simp
    go_wp2
    simp [bodyPost, results, Tryd.results55, go_sem, q0, q1, q2, q3, s0, s1, s2, s3]
    have hx := HX.out
    have hy := HY.out
    subst hx hy
    first | exact HT.out.ext | (refine ⟨?_, HT.out.ext⟩; omega) | (refine ⟨?_, HT.out.ext⟩; simp; done) | (refine ⟨?_, HT.out.ext⟩; simp; omega) | exact ⟨⟨rfl, rfl, rfl, rfl⟩, HT.out.ext⟩ | (trace_state; fail)

set_option maxHeartbeats 4000000 in
set_option maxRecDepth 100000 in
theorem rboxes_big_a (b : Nat) (k : Int) (r : Bx) (w : World) (h1 : w.cell? ⟨b, 1, none⟩ = some (.bool true)) (h2 : w.cell? ⟨b, 2, none⟩ = some (.int .i64 k)) (hr : r.ok) (hd : 3 ≤ r.cols) :
    Calls Tryd.prog 55 #[ptr b, r.val] w fun e w' => e = .returned (.tuple #[(slc true r 0 (held k r.cols)).val, (slc true r (held k r.cols + 1) (r.cols - held k r.cols - 1)).val, .int .i64 r.cols]) ∧ Ext w w' := by
  obtain ⟨g0, g1, g2, g3, g4, g5⟩ := hr
  have hc : ∀ o o2 o3, (((w.alloc o).alloc o2).alloc o3).cell? ⟨b, 1, none⟩ = some (.bool true) := fun o o2 o3 => (((Ext.alloc w o).alloc' o2).alloc' o3).cell h1
  have hc2 : ∀ o o2 o3, (((w.alloc o).alloc o2).alloc o3).cell? ⟨b, 2, none⟩ = some (.int .i64 k) := fun o o2 o3 => (((Ext.alloc w o).alloc' o2).alloc' o3).cell h2
  obtain ⟨hh1, hh2⟩ := held_bd (k := k) hd
  have HH : Hid (max 1 (min k (r.cols - 2)) = held k r.cols) := hid (by unfold held; omega)
  generalize held k r.cols = h at *
  unfold ptr Bx.val slc
  have v0 : IntKind.i64.wrap (r.cols - 2) = r.cols - 2 := by rw [IntKind.wrap_i64]; omega
  go_enter Tryd.func55, Tryd.ntmps55
  go_wp2_with fail
  refine (clip_any _ _ _ _).mono ?_
  rintro e w5 ⟨rfl, rfl⟩
  rw [HH.out]
  go_wp2_with fail
  refine reg_begin 3 (by kernel_rfl) ?_
  generalize hW : World.drew _ = W
  obtain ⟨x, hx⟩ : ∃ x : Bx, x = ⟨r.row, r.col, r.rows, h⟩ := ⟨_, rfl⟩
  obtain ⟨y, hy⟩ : ∃ y : Bx, y = ⟨r.row, r.col + h + 1, r.rows, r.cols - h - 1⟩ := ⟨_, rfl⟩
  have HT : Hid (Two w W (w.heap.size + 1) (w.heap.size + 1 + 1) x y) := hid (by rw [← hW, hx, hy]; exact (Two.new w _ _ _).later (Ext.drew _))
  have HX := hid hx
  have HY := hid hy
  clear hW hx hy
  generalize w.heap.size + 1 + 1 = s at *
  generalize w.heap.size + 1 = q at *
  have q0 : (W).cell? ⟨q, 0, none⟩ = some (.int .i64 x.row) := cell_blk HT.out.bq rfl
  have q1 : (W).cell? ⟨q, 1, none⟩ = some (.int .i64 x.col) := cell_blk HT.out.bq rfl
  have q2 : (W).cell? ⟨q, 2, none⟩ = some (.int .i64 x.rows) := cell_blk HT.out.bq rfl
  have q3 : (W).cell? ⟨q, 3, none⟩ = some (.int .i64 x.cols) := cell_blk HT.out.bq rfl
  have s0 : (W).cell? ⟨s, 0, none⟩ = some (.int .i64 y.row) := cell_blk HT.out.bs rfl
  have s1 : (W).cell? ⟨s, 1, none⟩ = some (.int .i64 y.col) := cell_blk HT.out.bs rfl
  have s2 : (W).cell? ⟨s, 2, none⟩ = some (.int .i64 y.rows) := cell_blk HT.out.bs rfl
  have s3 : (W).cell? ⟨s, 3, none⟩ = some (.int .i64 y.cols) := cell_blk HT.out.bs rfl
  have zq : ∀ j, (W).frozen? ⟨q, j, none⟩ = false := fun j => by simp [World.frozen?, HT.out.bq, recObj]
  have zs : ∀ j, (W).frozen? ⟨s, j, none⟩ = false := fun j => by simp [World.frozen?, HT.out.bs, recObj]
  have HQ0 := hid q0
  have HQ1 := hid q1
  have HQ2 := hid q2
  have HQ3 := hid q3
  clear q0 q1 q2 q3 s0 s1 s2 s3 zq zs
  refine reg_quiet 0 rfl (by kernel_rfl) (by kernel_rfl) ?_
  apply Exists.intro
  refine ⟨fun w' hw' => ?_, ?_⟩
  · have q0 := hw'.cell HQ0.out; have q1 := hw'.cell HQ1.out; have q2 := hw'.cell HQ2.out; have q3 := hw'.cell HQ3.out
    go_simp
    exact ⟨rfl, Ext.refl _⟩
  refine reg_pure 2 rfl (by kernel_rfl) rfl ?_
  apply Exists.intro
  refine ⟨fun w' => ?_, ?_⟩
  · go_simp
    exact rfl
  clear HQ0 HQ1 HQ2 HQ3
  refine reg_two 1 3 rfl rfl (by kernel_rfl) rfl rfl (fun w' hw' => ?_) (fun w' hw' => ?_)
  · skip
    replace HT := hid (HT.out.later hw')
    clear hw'
    have q0 : (w').cell? ⟨q, 0, none⟩ = some (.int .i64 x.row) := cell_blk HT.out.bq rfl
    have q1 : (w').cell? ⟨q, 1, none⟩ = some (.int .i64 x.col) := cell_blk HT.out.bq rfl
    have q2 : (w').cell? ⟨q, 2, none⟩ = some (.int .i64 x.rows) := cell_blk HT.out.bq rfl
    have q3 : (w').cell? ⟨q, 3, none⟩ = some (.int .i64 x.cols) := cell_blk HT.out.bq rfl
    have s0 : (w').cell? ⟨s, 0, none⟩ = some (.int .i64 y.row) := cell_blk HT.out.bs rfl
    have s1 : (w').cell? ⟨s, 1, none⟩ = some (.int .i64 y.col) := cell_blk HT.out.bs rfl
    have s2 : (w').cell? ⟨s, 2, none⟩ = some (.int .i64 y.rows) := cell_blk HT.out.bs rfl
    have s3 : (w').cell? ⟨s, 3, none⟩ = some (.int .i64 y.cols) := cell_blk HT.out.bs rfl
    have zq : ∀ j, (w').frozen? ⟨q, j, none⟩ = false := fun j => by simp [World.frozen?, HT.out.bq, recObj]
    have zs : ∀ j, (w').frozen? ⟨s, j, none⟩ = false := fun j => by simp [World.frozen?, HT.out.bs, recObj]
    go_simp
    refine ⟨Ext.refl _, ?_⟩
    clear q0 q1 q2 q3 s0 s1 s2 s3 zq zs
    refine reg_one 3 rfl (by kernel_rfl) rfl (fun w' hw' => ?_)
    replace HT := hid (HT.out.later hw')
    clear hw'
    have q0 : (w').cell? ⟨q, 0, none⟩ = some (.int .i64 x.row) := cell_blk HT.out.bq rfl
    have q1 : (w').cell? ⟨q, 1, none⟩ = some (.int .i64 x.col) := cell_blk HT.out.bq rfl
    have q2 : (w').cell? ⟨q, 2, none⟩ = some (.int .i64 x.rows) := cell_blk HT.out.bq rfl
    have q3 : (w').cell? ⟨q, 3, none⟩ = some (.int .i64 x.cols) := cell_blk HT.out.bq rfl
    have s0 : (w').cell? ⟨s, 0, none⟩ = some (.int .i64 y.row) := cell_blk HT.out.bs rfl
    have s1 : (w').cell? ⟨s, 1, none⟩ = some (.int .i64 y.col) := cell_blk HT.out.bs rfl
    have s2 : (w').cell? ⟨s, 2, none⟩ = some (.int .i64 y.rows) := cell_blk HT.out.bs rfl
    have s3 : (w').cell? ⟨s, 3, none⟩ = some (.int .i64 y.cols) := cell_blk HT.out.bs rfl
    have zq : ∀ j, (w').frozen? ⟨q, j, none⟩ = false := fun j => by simp [World.frozen?, HT.out.bq, recObj]
    have zs : ∀ j, (w').frozen? ⟨s, j, none⟩ = false := fun j => by simp [World.frozen?, HT.out.bs, recObj]
    replace HT := hid (HT.out.setq (x' := x))
    go_simp
    clear q0 q1 q2 q3 s0 s1 s2 s3 zq zs
    unfold set4 at HT
    generalize World.setCell _ _ _ = W3 at *
    refine reg_one 4 rfl (by kernel_rfl) rfl (fun w' hw' => ?_)
    replace HT := hid (HT.out.later hw')
    clear hw'
    have q0 : (w').cell? ⟨q, 0, none⟩ = some (.int .i64 x.row) := cell_blk HT.out.bq rfl
    have q1 : (w').cell? ⟨q, 1, none⟩ = some (.int .i64 x.col) := cell_blk HT.out.bq rfl
    have q2 : (w').cell? ⟨q, 2, none⟩ = some (.int .i64 x.rows) := cell_blk HT.out.bq rfl
    have q3 : (w').cell? ⟨q, 3, none⟩ = some (.int .i64 x.cols) := cell_blk HT.out.bq rfl
    have s0 : (w').cell? ⟨s, 0, none⟩ = some (.int .i64 y.row) := cell_blk HT.out.bs rfl
    have s1 : (w').cell? ⟨s, 1, none⟩ = some (.int .i64 y.col) := cell_blk HT.out.bs rfl
    have s2 : (w').cell? ⟨s, 2, none⟩ = some (.int .i64 y.rows) := cell_blk HT.out.bs rfl
    have s3 : (w').cell? ⟨s, 3, none⟩ = some (.int .i64 y.cols) := cell_blk HT.out.bs rfl
    have zq : ∀ j, (w').frozen? ⟨q, j, none⟩ = false := fun j => by simp [World.frozen?, HT.out.bq, recObj]
    have zs : ∀ j, (w').frozen? ⟨s, j, none⟩ = false := fun j => by simp [World.frozen?, HT.out.bs, recObj]
    replace HT := hid (HT.out.sets (y' := y))
    go_simp
    clear q0 q1 q2 q3 s0 s1 s2 s3 zq zs
    unfold set4 at HT
    generalize World.setCell _ _ _ = W4 at *
    refine reg_pure 5 rfl (by kernel_rfl) rfl ?_
    apply Exists.intro
    refine ⟨fun w' => ?_, ?_⟩
    · go_simp
      exact rfl
    refine reg_done (by kernel_rfl) (fun w' hw' => ?_) _
    replace HT := hid (HT.out.later hw')
    clear hw'
    have q0 : (w').cell? ⟨q, 0, none⟩ = some (.int .i64 x.row) := cell_blk HT.out.bq rfl
    have q1 : (w').cell? ⟨q, 1, none⟩ = some (.int .i64 x.col) := cell_blk HT.out.bq rfl
    have q2 : (w').cell? ⟨q, 2, none⟩ = some (.int .i64 x.rows) := cell_blk HT.out.bq rfl
    have q3 : (w').cell? ⟨q, 3, none⟩ = some (.int .i64 x.cols) := cell_blk HT.out.bq rfl
    have s0 : (w').cell? ⟨s, 0, none⟩ = some (.int .i64 y.row) := cell_blk HT.out.bs rfl
    have s1 : (w').cell? ⟨s, 1, none⟩ = some (.int .i64 y.col) := cell_blk HT.out.bs rfl
    have s2 : (w').cell? ⟨s, 2, none⟩ = some (.int .i64 y.rows) := cell_blk HT.out.bs rfl
    have s3 : (w').cell? ⟨s, 3, none⟩ = some (.int .i64 y.cols) := cell_blk HT.out.bs rfl
    have zq : ∀ j, (w').frozen? ⟨q, j, none⟩ = false := fun j => by simp [World.frozen?, HT.out.bq, recObj]
    have zs : ∀ j, (w').frozen? ⟨s, j, none⟩ = false := fun j => by simp [World.frozen?, HT.out.bs, recObj]
    go_simp
    go_wp2
    simp [bodyPost, results, Tryd.results55, go_sem, q0, q1, q2, q3, s0, s1, s2, s3]
    have hx := HX.out
    have hy := HY.out
    subst hx hy
    first | exact HT.out.ext | (refine ⟨?_, HT.out.ext⟩; omega) | (refine ⟨?_, HT.out.ext⟩; simp; done) | (refine ⟨?_, HT.out.ext⟩; simp; omega) | exact ⟨⟨rfl, rfl, rfl, rfl⟩, HT.out.ext⟩ | (trace_state; fail)
  · skip
    replace HT := hid (HT.out.later hw')
    clear hw'
    have q0 : (w').cell? ⟨q, 0, none⟩ = some (.int .i64 x.row) := cell_blk HT.out.bq rfl
    have q1 : (w').cell? ⟨q, 1, none⟩ = some (.int .i64 x.col) := cell_blk HT.out.bq rfl
    have q2 : (w').cell? ⟨q, 2, none⟩ = some (.int .i64 x.rows) := cell_blk HT.out.bq rfl
    have q3 : (w').cell? ⟨q, 3, none⟩ = some (.int .i64 x.cols) := cell_blk HT.out.bq rfl
    have s0 : (w').cell? ⟨s, 0, none⟩ = some (.int .i64 y.row) := cell_blk HT.out.bs rfl
    have s1 : (w').cell? ⟨s, 1, none⟩ = some (.int .i64 y.col) := cell_blk HT.out.bs rfl
    have s2 : (w').cell? ⟨s, 2, none⟩ = some (.int .i64 y.rows) := cell_blk HT.out.bs rfl
    have s3 : (w').cell? ⟨s, 3, none⟩ = some (.int .i64 y.cols) := cell_blk HT.out.bs rfl
    have zq : ∀ j, (w').frozen? ⟨q, j, none⟩ = false := fun j => by simp [World.frozen?, HT.out.bq, recObj]
    have zs : ∀ j, (w').frozen? ⟨s, j, none⟩ = false := fun j => by simp [World.frozen?, HT.out.bs, recObj]
    replace HT := hid (HT.out.setq (x' := x))
    go_simp
    clear q0 q1 q2 q3 s0 s1 s2 s3 zq zs
    unfold set4 at HT
    generalize World.setCell _ _ _ = W3 at *
    refine reg_one 1 rfl (by kernel_rfl) rfl (fun w' hw' => ?_)
    replace HT := hid (HT.out.later hw')
    clear hw'
    have q0 : (w').cell? ⟨q, 0, none⟩ = some (.int .i64 x.row) := cell_blk HT.out.bq rfl
    have q1 : (w').cell? ⟨q, 1, none⟩ = some (.int .i64 x.col) := cell_blk HT.out.bq rfl
    have q2 : (w').cell? ⟨q, 2, none⟩ = some (.int .i64 x.rows) := cell_blk HT.out.bq rfl
    have q3 : (w').cell? ⟨q, 3, none⟩ = some (.int .i64 x.cols) := cell_blk HT.out.bq rfl
    have s0 : (w').cell? ⟨s, 0, none⟩ = some (.int .i64 y.row) := cell_blk HT.out.bs rfl
    have s1 : (w').cell? ⟨s, 1, none⟩ = some (.int .i64 y.col) := cell_blk HT.out.bs rfl
    have s2 : (w').cell? ⟨s, 2, none⟩ = some (.int .i64 y.rows) := cell_blk HT.out.bs rfl
    have s3 : (w').cell? ⟨s, 3, none⟩ = some (.int .i64 y.cols) := cell_blk HT.out.bs rfl
    have zq : ∀ j, (w').frozen? ⟨q, j, none⟩ = false := fun j => by simp [World.frozen?, HT.out.bq, recObj]
    have zs : ∀ j, (w').frozen? ⟨s, j, none⟩ = false := fun j => by simp [World.frozen?, HT.out.bs, recObj]
    go_simp
    refine ⟨Ext.refl _, ?_⟩
    clear q0 q1 q2 q3 s0 s1 s2 s3 zq zs
    refine reg_one 4 rfl (by kernel_rfl) rfl (fun w' hw' => ?_)
    replace HT := hid (HT.out.later hw')
    clear hw'
    have q0 : (w').cell? ⟨q, 0, none⟩ = some (.int .i64 x.row) := cell_blk HT.out.bq rfl
    have q1 : (w').cell? ⟨q, 1, none⟩ = some (.int .i64 x.col) := cell_blk HT.out.bq rfl
    have q2 : (w').cell? ⟨q, 2, none⟩ = some (.int .i64 x.rows) := cell_blk HT.out.bq rfl
    have q3 : (w').cell? ⟨q, 3, none⟩ = some (.int .i64 x.cols) := cell_blk HT.out.bq rfl
    have s0 : (w').cell? ⟨s, 0, none⟩ = some (.int .i64 y.row) := cell_blk HT.out.bs rfl
    have s1 : (w').cell? ⟨s, 1, none⟩ = some (.int .i64 y.col) := cell_blk HT.out.bs rfl
    have s2 : (w').cell? ⟨s, 2, none⟩ = some (.int .i64 y.rows) := cell_blk HT.out.bs rfl
    have s3 : (w').cell? ⟨s, 3, none⟩ = some (.int .i64 y.cols) := cell_blk HT.out.bs rfl
    have zq : ∀ j, (w').frozen? ⟨q, j, none⟩ = false := fun j => by simp [World.frozen?, HT.out.bq, recObj]
    have zs : ∀ j, (w').frozen? ⟨s, j, none⟩ = false := fun j => by simp [World.frozen?, HT.out.bs, recObj]
    replace HT := hid (HT.out.sets (y' := y))
    go_simp
    clear q0 q1 q2 q3 s0 s1 s2 s3 zq zs
    unfold set4 at HT
    generalize World.setCell _ _ _ = W4 at *
    refine reg_pure 5 rfl (by kernel_rfl) rfl ?_
    apply Exists.intro
    refine ⟨fun w' => ?_, ?_⟩
    · go_simp
      exact rfl
    refine reg_done (by kernel_rfl) (fun w' hw' => ?_) _
    replace HT := hid (HT.out.later hw')
    clear hw'
    have q0 : (w').cell? ⟨q, 0, none⟩ = some (.int .i64 x.row) := cell_blk HT.out.bq rfl
    have q1 : (w').cell? ⟨q, 1, none⟩ = some (.int .i64 x.col) := cell_blk HT.out.bq rfl
    have q2 : (w').cell? ⟨q, 2, none⟩ = some (.int .i64 x.rows) := cell_blk HT.out.bq rfl
    have q3 : (w').cell? ⟨q, 3, none⟩ = some (.int .i64 x.cols) := cell_blk HT.out.bq rfl
    have s0 : (w').cell? ⟨s, 0, none⟩ = some (.int .i64 y.row) := cell_blk HT.out.bs rfl
    have s1 : (w').cell? ⟨s, 1, none⟩ = some (.int .i64 y.col) := cell_blk HT.out.bs rfl
    have s2 : (w').cell? ⟨s, 2, none⟩ = some (.int .i64 y.rows) := cell_blk HT.out.bs rfl
    have s3 : (w').cell? ⟨s, 3, none⟩ = some (.int .i64 y.cols) := cell_blk HT.out.bs rfl
    have zq : ∀ j, (w').frozen? ⟨q, j, none⟩ = false := fun j => by simp [World.frozen?, HT.out.bq, recObj]
    have zs : ∀ j, (w').frozen? ⟨s, j, none⟩ = false := fun j => by simp [World.frozen?, HT.out.bs, recObj]
    go_simp
    go_wp2
    simp [bodyPost, results, Tryd.results55, go_sem, q0, q1, q2, q3, s0, s1, s2, s3]
    have hx := HX.out
    have hy := HY.out
    subst hx hy
    first | exact HT.out.ext | (refine ⟨?_, HT.out.ext⟩; omega) | (refine ⟨?_, HT.out.ext⟩; simp; done) | (refine ⟨?_, HT.out.ext⟩; simp; omega) | exact ⟨⟨rfl, rfl, rfl, rfl⟩, HT.out.ext⟩ | (trace_state; fail)

set_option maxHeartbeats 4000000 in
set_option maxRecDepth 100000 in
theorem rboxes_big_u (b : Nat) (k : Int) (r : Bx) (w : World) (h1 : w.cell? ⟨b, 1, none⟩ = some (.bool false)) (h2 : w.cell? ⟨b, 2, none⟩ = some (.int .i64 k)) (hr : r.ok) (hd : 3 ≤ r.rows) :
    Calls Tryd.prog 55 #[ptr b, r.val] w fun e w' => e = .returned (.tuple #[(slc false r 0 (held k r.rows)).val, (slc false r (held k r.rows + 1) (r.rows - held k r.rows - 1)).val, .int .i64 r.rows]) ∧ Ext w w' := by
  obtain ⟨g0, g1, g2, g3, g4, g5⟩ := hr
  have hc : ∀ o o2 o3, (((w.alloc o).alloc o2).alloc o3).cell? ⟨b, 1, none⟩ = some (.bool false) := fun o o2 o3 => (((Ext.alloc w o).alloc' o2).alloc' o3).cell h1
  have hc2 : ∀ o o2 o3, (((w.alloc o).alloc o2).alloc o3).cell? ⟨b, 2, none⟩ = some (.int .i64 k) := fun o o2 o3 => (((Ext.alloc w o).alloc' o2).alloc' o3).cell h2
  obtain ⟨hh1, hh2⟩ := held_bd (k := k) hd
  have HH : Hid (max 1 (min k (r.rows - 2)) = held k r.rows) := hid (by unfold held; omega)
  generalize held k r.rows = h at *
  unfold ptr Bx.val slc
  have v0 : IntKind.i64.wrap (r.rows - 2) = r.rows - 2 := by rw [IntKind.wrap_i64]; omega
  go_enter Tryd.func55, Tryd.ntmps55
  go_wp2_with fail
  refine (clip_any _ _ _ _).mono ?_
  rintro e w5 ⟨rfl, rfl⟩
  rw [HH.out]
  go_wp2_with fail
  refine reg_begin 3 (by kernel_rfl) ?_
  generalize hW : World.drew _ = W
  obtain ⟨x, hx⟩ : ∃ x : Bx, x = ⟨r.row, r.col, h, r.cols⟩ := ⟨_, rfl⟩
  obtain ⟨y, hy⟩ : ∃ y : Bx, y = ⟨r.row + h + 1, r.col, r.rows - h - 1, r.cols⟩ := ⟨_, rfl⟩
  have HT : Hid (Two w W (w.heap.size + 1) (w.heap.size + 1 + 1) x y) := hid (by rw [← hW, hx, hy]; exact (Two.new w _ _ _).later (Ext.drew _))
  have HX := hid hx
  have HY := hid hy
  clear hW hx hy
  generalize w.heap.size + 1 + 1 = s at *
  generalize w.heap.size + 1 = q at *
  have q0 : (W).cell? ⟨q, 0, none⟩ = some (.int .i64 x.row) := cell_blk HT.out.bq rfl
  have q1 : (W).cell? ⟨q, 1, none⟩ = some (.int .i64 x.col) := cell_blk HT.out.bq rfl
  have q2 : (W).cell? ⟨q, 2, none⟩ = some (.int .i64 x.rows) := cell_blk HT.out.bq rfl
  have q3 : (W).cell? ⟨q, 3, none⟩ = some (.int .i64 x.cols) := cell_blk HT.out.bq rfl
  have s0 : (W).cell? ⟨s, 0, none⟩ = some (.int .i64 y.row) := cell_blk HT.out.bs rfl
  have s1 : (W).cell? ⟨s, 1, none⟩ = some (.int .i64 y.col) := cell_blk HT.out.bs rfl
  have s2 : (W).cell? ⟨s, 2, none⟩ = some (.int .i64 y.rows) := cell_blk HT.out.bs rfl
  have s3 : (W).cell? ⟨s, 3, none⟩ = some (.int .i64 y.cols) := cell_blk HT.out.bs rfl
  have zq : ∀ j, (W).frozen? ⟨q, j, none⟩ = false := fun j => by simp [World.frozen?, HT.out.bq, recObj]
  have zs : ∀ j, (W).frozen? ⟨s, j, none⟩ = false := fun j => by simp [World.frozen?, HT.out.bs, recObj]
  have HQ0 := hid q0
  have HQ1 := hid q1
  have HQ2 := hid q2
  have HQ3 := hid q3
  clear q0 q1 q2 q3 s0 s1 s2 s3 zq zs
  refine reg_quiet 0 rfl (by kernel_rfl) (by kernel_rfl) ?_
  apply Exists.intro
  refine ⟨fun w' hw' => ?_, ?_⟩
  · have q0 := hw'.cell HQ0.out; have q1 := hw'.cell HQ1.out; have q2 := hw'.cell HQ2.out; have q3 := hw'.cell HQ3.out
    go_simp
    exact ⟨rfl, Ext.refl _⟩
  refine reg_pure 2 rfl (by kernel_rfl) rfl ?_
  apply Exists.intro
  refine ⟨fun w' => ?_, ?_⟩
  · go_simp
    exact rfl
  clear HQ0 HQ1 HQ2 HQ3
  refine reg_two 1 3 rfl rfl (by kernel_rfl) rfl rfl (fun w' hw' => ?_) (fun w' hw' => ?_)
  · skip
    replace HT := hid (HT.out.later hw')
    clear hw'
    have q0 : (w').cell? ⟨q, 0, none⟩ = some (.int .i64 x.row) := cell_blk HT.out.bq rfl
    have q1 : (w').cell? ⟨q, 1, none⟩ = some (.int .i64 x.col) := cell_blk HT.out.bq rfl
    have q2 : (w').cell? ⟨q, 2, none⟩ = some (.int .i64 x.rows) := cell_blk HT.out.bq rfl
    have q3 : (w').cell? ⟨q, 3, none⟩ = some (.int .i64 x.cols) := cell_blk HT.out.bq rfl
    have s0 : (w').cell? ⟨s, 0, none⟩ = some (.int .i64 y.row) := cell_blk HT.out.bs rfl
    have s1 : (w').cell? ⟨s, 1, none⟩ = some (.int .i64 y.col) := cell_blk HT.out.bs rfl
    have s2 : (w').cell? ⟨s, 2, none⟩ = some (.int .i64 y.rows) := cell_blk HT.out.bs rfl
    have s3 : (w').cell? ⟨s, 3, none⟩ = some (.int .i64 y.cols) := cell_blk HT.out.bs rfl
    have zq : ∀ j, (w').frozen? ⟨q, j, none⟩ = false := fun j => by simp [World.frozen?, HT.out.bq, recObj]
    have zs : ∀ j, (w').frozen? ⟨s, j, none⟩ = false := fun j => by simp [World.frozen?, HT.out.bs, recObj]
    go_simp
    refine ⟨Ext.refl _, ?_⟩
    clear q0 q1 q2 q3 s0 s1 s2 s3 zq zs
    refine reg_one 3 rfl (by kernel_rfl) rfl (fun w' hw' => ?_)
    replace HT := hid (HT.out.later hw')
    clear hw'
    have q0 : (w').cell? ⟨q, 0, none⟩ = some (.int .i64 x.row) := cell_blk HT.out.bq rfl
    have q1 : (w').cell? ⟨q, 1, none⟩ = some (.int .i64 x.col) := cell_blk HT.out.bq rfl
    have q2 : (w').cell? ⟨q, 2, none⟩ = some (.int .i64 x.rows) := cell_blk HT.out.bq rfl
    have q3 : (w').cell? ⟨q, 3, none⟩ = some (.int .i64 x.cols) := cell_blk HT.out.bq rfl
    have s0 : (w').cell? ⟨s, 0, none⟩ = some (.int .i64 y.row) := cell_blk HT.out.bs rfl
    have s1 : (w').cell? ⟨s, 1, none⟩ = some (.int .i64 y.col) := cell_blk HT.out.bs rfl
    have s2 : (w').cell? ⟨s, 2, none⟩ = some (.int .i64 y.rows) := cell_blk HT.out.bs rfl
    have s3 : (w').cell? ⟨s, 3, none⟩ = some (.int .i64 y.cols) := cell_blk HT.out.bs rfl
    have zq : ∀ j, (w').frozen? ⟨q, j, none⟩ = false := fun j => by simp [World.frozen?, HT.out.bq, recObj]
    have zs : ∀ j, (w').frozen? ⟨s, j, none⟩ = false := fun j => by simp [World.frozen?, HT.out.bs, recObj]
    replace HT := hid (HT.out.setq (x' := x))
    go_simp
    clear q0 q1 q2 q3 s0 s1 s2 s3 zq zs
    unfold set4 at HT
    generalize World.setCell _ _ _ = W3 at *
    refine reg_one 4 rfl (by kernel_rfl) rfl (fun w' hw' => ?_)
    replace HT := hid (HT.out.later hw')
    clear hw'
    have q0 : (w').cell? ⟨q, 0, none⟩ = some (.int .i64 x.row) := cell_blk HT.out.bq rfl
    have q1 : (w').cell? ⟨q, 1, none⟩ = some (.int .i64 x.col) := cell_blk HT.out.bq rfl
    have q2 : (w').cell? ⟨q, 2, none⟩ = some (.int .i64 x.rows) := cell_blk HT.out.bq rfl
    have q3 : (w').cell? ⟨q, 3, none⟩ = some (.int .i64 x.cols) := cell_blk HT.out.bq rfl
    have s0 : (w').cell? ⟨s, 0, none⟩ = some (.int .i64 y.row) := cell_blk HT.out.bs rfl
    have s1 : (w').cell? ⟨s, 1, none⟩ = some (.int .i64 y.col) := cell_blk HT.out.bs rfl
    have s2 : (w').cell? ⟨s, 2, none⟩ = some (.int .i64 y.rows) := cell_blk HT.out.bs rfl
    have s3 : (w').cell? ⟨s, 3, none⟩ = some (.int .i64 y.cols) := cell_blk HT.out.bs rfl
    have zq : ∀ j, (w').frozen? ⟨q, j, none⟩ = false := fun j => by simp [World.frozen?, HT.out.bq, recObj]
    have zs : ∀ j, (w').frozen? ⟨s, j, none⟩ = false := fun j => by simp [World.frozen?, HT.out.bs, recObj]
    replace HT := hid (HT.out.sets (y' := y))
    go_simp
    clear q0 q1 q2 q3 s0 s1 s2 s3 zq zs
    unfold set4 at HT
    generalize World.setCell _ _ _ = W4 at *
    refine reg_pure 5 rfl (by kernel_rfl) rfl ?_
    apply Exists.intro
    refine ⟨fun w' => ?_, ?_⟩
    · go_simp
      exact rfl
    refine reg_done (by kernel_rfl) (fun w' hw' => ?_) _
    replace HT := hid (HT.out.later hw')
    clear hw'
    have q0 : (w').cell? ⟨q, 0, none⟩ = some (.int .i64 x.row) := cell_blk HT.out.bq rfl
    have q1 : (w').cell? ⟨q, 1, none⟩ = some (.int .i64 x.col) := cell_blk HT.out.bq rfl
    have q2 : (w').cell? ⟨q, 2, none⟩ = some (.int .i64 x.rows) := cell_blk HT.out.bq rfl
    have q3 : (w').cell? ⟨q, 3, none⟩ = some (.int .i64 x.cols) := cell_blk HT.out.bq rfl
    have s0 : (w').cell? ⟨s, 0, none⟩ = some (.int .i64 y.row) := cell_blk HT.out.bs rfl
    have s1 : (w').cell? ⟨s, 1, none⟩ = some (.int .i64 y.col) := cell_blk HT.out.bs rfl
    have s2 : (w').cell? ⟨s, 2, none⟩ = some (.int .i64 y.rows) := cell_blk HT.out.bs rfl
    have s3 : (w').cell? ⟨s, 3, none⟩ = some (.int .i64 y.cols) := cell_blk HT.out.bs rfl
    have zq : ∀ j, (w').frozen? ⟨q, j, none⟩ = false := fun j => by simp [World.frozen?, HT.out.bq, recObj]
    have zs : ∀ j, (w').frozen? ⟨s, j, none⟩ = false := fun j => by simp [World.frozen?, HT.out.bs, recObj]
    go_simp
    go_wp2
    simp [bodyPost, results, Tryd.results55, go_sem, q0, q1, q2, q3, s0, s1, s2, s3]
    have hx := HX.out
    have hy := HY.out
    subst hx hy
    first | exact HT.out.ext | (refine ⟨?_, HT.out.ext⟩; omega) | (refine ⟨?_, HT.out.ext⟩; simp; done) | (refine ⟨?_, HT.out.ext⟩; simp; omega) | exact ⟨⟨rfl, rfl, rfl, rfl⟩, HT.out.ext⟩ | (trace_state; fail)
  · skip
    replace HT := hid (HT.out.later hw')
    clear hw'
    have q0 : (w').cell? ⟨q, 0, none⟩ = some (.int .i64 x.row) := cell_blk HT.out.bq rfl
    have q1 : (w').cell? ⟨q, 1, none⟩ = some (.int .i64 x.col) := cell_blk HT.out.bq rfl
    have q2 : (w').cell? ⟨q, 2, none⟩ = some (.int .i64 x.rows) := cell_blk HT.out.bq rfl
    have q3 : (w').cell? ⟨q, 3, none⟩ = some (.int .i64 x.cols) := cell_blk HT.out.bq rfl
    have s0 : (w').cell? ⟨s, 0, none⟩ = some (.int .i64 y.row) := cell_blk HT.out.bs rfl
    have s1 : (w').cell? ⟨s, 1, none⟩ = some (.int .i64 y.col) := cell_blk HT.out.bs rfl
    have s2 : (w').cell? ⟨s, 2, none⟩ = some (.int .i64 y.rows) := cell_blk HT.out.bs rfl
    have s3 : (w').cell? ⟨s, 3, none⟩ = some (.int .i64 y.cols) := cell_blk HT.out.bs rfl
    have zq : ∀ j, (w').frozen? ⟨q, j, none⟩ = false := fun j => by simp [World.frozen?, HT.out.bq, recObj]
    have zs : ∀ j, (w').frozen? ⟨s, j, none⟩ = false := fun j => by simp [World.frozen?, HT.out.bs, recObj]
    replace HT := hid (HT.out.setq (x' := x))
    go_simp
    clear q0 q1 q2 q3 s0 s1 s2 s3 zq zs
    unfold set4 at HT
    generalize World.setCell _ _ _ = W3 at *
    refine reg_one 1 rfl (by kernel_rfl) rfl (fun w' hw' => ?_)
    replace HT := hid (HT.out.later hw')
    clear hw'
    have q0 : (w').cell? ⟨q, 0, none⟩ = some (.int .i64 x.row) := cell_blk HT.out.bq rfl
    have q1 : (w').cell? ⟨q, 1, none⟩ = some (.int .i64 x.col) := cell_blk HT.out.bq rfl
    have q2 : (w').cell? ⟨q, 2, none⟩ = some (.int .i64 x.rows) := cell_blk HT.out.bq rfl
    have q3 : (w').cell? ⟨q, 3, none⟩ = some (.int .i64 x.cols) := cell_blk HT.out.bq rfl
    have s0 : (w').cell? ⟨s, 0, none⟩ = some (.int .i64 y.row) := cell_blk HT.out.bs rfl
    have s1 : (w').cell? ⟨s, 1, none⟩ = some (.int .i64 y.col) := cell_blk HT.out.bs rfl
    have s2 : (w').cell? ⟨s, 2, none⟩ = some (.int .i64 y.rows) := cell_blk HT.out.bs rfl
    have s3 : (w').cell? ⟨s, 3, none⟩ = some (.int .i64 y.cols) := cell_blk HT.out.bs rfl
    have zq : ∀ j, (w').frozen? ⟨q, j, none⟩ = false := fun j => by simp [World.frozen?, HT.out.bq, recObj]
    have zs : ∀ j, (w').frozen? ⟨s, j, none⟩ = false := fun j => by simp [World.frozen?, HT.out.bs, recObj]
    go_simp
    refine ⟨Ext.refl _, ?_⟩
    clear q0 q1 q2 q3 s0 s1 s2 s3 zq zs
    refine reg_one 4 rfl (by kernel_rfl) rfl (fun w' hw' => ?_)
    replace HT := hid (HT.out.later hw')
    clear hw'
    have q0 : (w').cell? ⟨q, 0, none⟩ = some (.int .i64 x.row) := cell_blk HT.out.bq rfl
    have q1 : (w').cell? ⟨q, 1, none⟩ = some (.int .i64 x.col) := cell_blk HT.out.bq rfl
    have q2 : (w').cell? ⟨q, 2, none⟩ = some (.int .i64 x.rows) := cell_blk HT.out.bq rfl
    have q3 : (w').cell? ⟨q, 3, none⟩ = some (.int .i64 x.cols) := cell_blk HT.out.bq rfl
    have s0 : (w').cell? ⟨s, 0, none⟩ = some (.int .i64 y.row) := cell_blk HT.out.bs rfl
    have s1 : (w').cell? ⟨s, 1, none⟩ = some (.int .i64 y.col) := cell_blk HT.out.bs rfl
    have s2 : (w').cell? ⟨s, 2, none⟩ = some (.int .i64 y.rows) := cell_blk HT.out.bs rfl
    have s3 : (w').cell? ⟨s, 3, none⟩ = some (.int .i64 y.cols) := cell_blk HT.out.bs rfl
    have zq : ∀ j, (w').frozen? ⟨q, j, none⟩ = false := fun j => by simp [World.frozen?, HT.out.bq, recObj]
    have zs : ∀ j, (w').frozen? ⟨s, j, none⟩ = false := fun j => by simp [World.frozen?, HT.out.bs, recObj]
    replace HT := hid (HT.out.sets (y' := y))
    go_simp
    clear q0 q1 q2 q3 s0 s1 s2 s3 zq zs
    unfold set4 at HT
    generalize World.setCell _ _ _ = W4 at *
    refine reg_pure 5 rfl (by kernel_rfl) rfl ?_
    apply Exists.intro
    refine ⟨fun w' => ?_, ?_⟩
    · go_simp
      exact rfl
    refine reg_done (by kernel_rfl) (fun w' hw' => ?_) _
    replace HT := hid (HT.out.later hw')
    clear hw'
    have q0 : (w').cell? ⟨q, 0, none⟩ = some (.int .i64 x.row) := cell_blk HT.out.bq rfl
    have q1 : (w').cell? ⟨q, 1, none⟩ = some (.int .i64 x.col) := cell_blk HT.out.bq rfl
    have q2 : (w').cell? ⟨q, 2, none⟩ = some (.int .i64 x.rows) := cell_blk HT.out.bq rfl
    have q3 : (w').cell? ⟨q, 3, none⟩ = some (.int .i64 x.cols) := cell_blk HT.out.bq rfl
    have s0 : (w').cell? ⟨s, 0, none⟩ = some (.int .i64 y.row) := cell_blk HT.out.bs rfl
    have s1 : (w').cell? ⟨s, 1, none⟩ = some (.int .i64 y.col) := cell_blk HT.out.bs rfl
    have s2 : (w').cell? ⟨s, 2, none⟩ = some (.int .i64 y.rows) := cell_blk HT.out.bs rfl
    have s3 : (w').cell? ⟨s, 3, none⟩ = some (.int .i64 y.cols) := cell_blk HT.out.bs rfl
    have zq : ∀ j, (w').frozen? ⟨q, j, none⟩ = false := fun j => by simp [World.frozen?, HT.out.bq, recObj]
    have zs : ∀ j, (w').frozen? ⟨s, j, none⟩ = false := fun j => by simp [World.frozen?, HT.out.bs, recObj]
    go_simp
    go_wp2
    simp [bodyPost, results, Tryd.results55, go_sem, q0, q1, q2, q3, s0, s1, s2, s3]
    have hx := HX.out
    have hy := HY.out
    subst hx hy
    first | exact HT.out.ext | (refine ⟨?_, HT.out.ext⟩; omega) | (refine ⟨?_, HT.out.ext⟩; simp; done) | (refine ⟨?_, HT.out.ext⟩; simp; omega) | exact ⟨⟨rfl, rfl, rfl, rfl⟩, HT.out.ext⟩ | (trace_state; fail)

theorem rboxes_any (b : Nat) (a : Bool) (k : Int) (r : Bx) (w : World) (h1 : w.cell? ⟨b, 1, none⟩ = some (.bool a)) (h2 : w.cell? ⟨b, 2, none⟩ = some (.int .i64 k)) (hr : r.ok) :
    Calls Tryd.prog 55 #[ptr b, r.val] w fun e w' => e = .returned (.tuple #[(parts a k r).1.val, (parts a k r).2.val, .int .i64 (wide a r)]) ∧ Ext w w' := by
  unfold parts
  cases a
  · simp only [wide, Bool.false_eq_true, if_false]
    by_cases hd : r.rows < 3
    · rw [if_pos hd]; exact rboxes_small_u b r w h1 hr hd
    · rw [if_neg hd]; exact rboxes_big_u b k r w h1 h2 hr (by omega)
  · simp only [wide, if_true]
    by_cases hd : r.cols < 3
    · rw [if_pos hd]; exact rboxes_small_a b r w h1 hr hd
    · rw [if_neg hd]; exact rboxes_big_a b k r w h1 h2 hr (by omega)

end Go.Proofs.YtflbfmfaccaffaaDoor
