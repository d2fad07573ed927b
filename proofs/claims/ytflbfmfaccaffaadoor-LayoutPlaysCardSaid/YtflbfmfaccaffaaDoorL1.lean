/-
  The small functions of a node.
-/
import Derived.Test.YtflbfmfaccaffaaDoorL0
namespace Go.Proofs.YtflbfmfaccaffaaDoor
open Go Go.RowKit
attribute [local go_sem] extUpon
attribute [local go_sem ↓] eval_put_ne eval_put_none eval_put_same size_put eval_const

theorem node_cells {w : World} {t : LT} (h : LtAt w t) (j : Nat) (v : Value) (hv : t.cells[j]? = some v) : w.cell? ⟨t.b, j, none⟩ = some v := cell_blk h.blk hv

theorem leaf_cell (b : Nat) (c : Option Addr) (w : World) (h : w.cell? ⟨b, 1, none⟩ = some (.pointer c)) : Calls Tryd.prog 37 #[ptr b] w fun e w' => e = .returned (.bool c.isNone) ∧ w' = w := by
  unfold ptr
  cases c with
  | none =>
    go_enter Tryd.func37, Tryd.ntmps37
    go_wp2
    go_ret
    exact ⟨rfl, rfl⟩
  | some a =>
    go_enter Tryd.func37, Tryd.ntmps37
    go_wp2
    go_ret
    exact ⟨rfl, rfl⟩

theorem leaf_any (t : LT) (w : World) (h : LtAt w t) : Calls Tryd.prog 37 #[ptr t.b] w fun e w' => e = .returned (.bool t.isLeaf) ∧ w' = w := by
  cases t with
  | leaf b p => exact leaf_cell b none w (node_cells h 1 _ rfl)
  | node b x y a k => exact leaf_cell b _ w (node_cells h 1 _ rfl)

theorem wide_any (b : Nat) (a : Bool) (r : Bx) (w : World) (hc : w.cell? ⟨b, 3, none⟩ = some (.bool a)) :
    Calls Tryd.prog 31 #[ptr b, r.val] w fun e w' => e = .returned (.int .i64 (wide a r)) ∧ Ext w w' := by
  unfold ptr Bx.val
  have hcc : ∀ o, (w.alloc o).cell? ⟨b, 3, none⟩ = some (.bool a) := fun o => (Ext.alloc w o).cell hc
  cases a
  · go_enter Tryd.func31, Tryd.ntmps31
    go_wp2_with fail
    go_ret
    exact ⟨rfl, Ext.alloc _ _⟩
  · go_enter Tryd.func31, Tryd.ntmps31
    go_wp2_with fail
    go_ret
    exact ⟨rfl, Ext.alloc _ _⟩

theorem held_any (b : Nat) (k d : Int) (w : World) (hc : w.cell? ⟨b, 4, none⟩ = some (.int .i64 k)) (h0 : -1000000 ≤ d) (h1 : d ≤ 1000000) (hk : k ≤ 1000000) :
    Calls Tryd.prog 33 #[ptr b, .int .i64 d] w fun e w' => e = .returned (.int .i64 (held k d)) ∧ w' = w := by
  unfold ptr
  go_enter Tryd.func33, Tryd.ntmps33
  go_wp2
  all_goals go_ret
  all_goals (refine ⟨?_, rfl⟩; simp [held]; omega)

theorem slice_any (b : Nat) (a : Bool) (r : Bx) (f m : Int) (w : World) (hc : w.cell? ⟨b, 3, none⟩ = some (.bool a)) (hr : r.ok) (hf : 0 ≤ f) (hf1 : f ≤ 1000000) :
    Calls Tryd.prog 54 #[ptr b, r.val, .int .i64 f, .int .i64 m] w fun e w' => e = .returned (slc a r f m).val ∧ Ext w w' := by
  obtain ⟨h0, h1, h2, h3, h4, h5⟩ := hr
  unfold ptr Bx.val
  have hcc : ∀ o o2, ((w.alloc o).alloc o2).cell? ⟨b, 3, none⟩ = some (.bool a) := fun o o2 => (Ext.alloc _ o2).cell ((Ext.alloc w o).cell hc)
  cases a
  · go_enter Tryd.func54, Tryd.ntmps54
    go_wp2_with fail
    simp [bodyPost, results, Tryd.results54, go_sem]
    exact ⟨⟨rfl, rfl, rfl, rfl⟩, (Ext.alloc _ _).alloc' _⟩
  · go_enter Tryd.func54, Tryd.ntmps54
    go_wp2_with fail
    simp [bodyPost, results, Tryd.results54, go_sem]
    exact ⟨⟨rfl, rfl, rfl, rfl⟩, (Ext.alloc _ _).alloc' _⟩

theorem all_any (rows cols : Int) (w : World) :
    Calls Tryd.prog 35 #[.int .i64 rows, .int .i64 cols] w fun e w' => e = .returned (Bx.val ⟨0, 0, max rows 0, max cols 0⟩) ∧ Ext w w' := by
  unfold Bx.val
  go_enter Tryd.func35, Tryd.ntmps35
  go_wp2
  all_goals simp [bodyPost, results, Tryd.results35, go_sem]
  all_goals exact ⟨⟨by omega, by omega⟩, Ext.alloc _ _⟩

end Go.Proofs.YtflbfmfaccaffaaDoor
