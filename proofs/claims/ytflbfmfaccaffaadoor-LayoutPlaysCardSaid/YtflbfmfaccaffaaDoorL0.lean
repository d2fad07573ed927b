/-
  A tree of panes in the heap, and what its walks come to: plain data.
-/
import Derived.Test.YtflbfmfaccaffaaDoorRows
import Derived.Test.YtflbfmfaccaffaaDoorOwn
import Derived.Shelf.Abstract
namespace Go.Proofs.YtflbfmfaccaffaaDoor
open Go Go.RowKit

/-- A tree: each node's block; a pane's number; else two trees, which way they are parted, and the part. -/
inductive LT where
  | leaf (b : Nat) (pane : Int)
  | node (b : Nat) (x y : LT) (across : Bool) (part : Int)
def LT.b : LT → Nat
  | .leaf b _ => b
  | .node b .. => b
def LT.blocks : LT → List Nat
  | .leaf b _ => [b]
  | .node b x y _ _ => b :: (x.blocks ++ y.blocks)
def LT.isLeaf : LT → Bool
  | .leaf .. => true
  | .node .. => false
def ptr (b : Nat) : Value := .pointer (some ⟨b, 0, none⟩)
/-- A node's cells. -/
def LT.cells : LT → Array Value
  | .leaf _ p => #[.int .i64 p, .pointer none, .pointer none, .bool false, .int .i64 0]
  | .node _ x y a k => #[.int .i64 0, ptr x.b, ptr y.b, .bool a, .int .i64 k]
/-- The tree stands in the heap. -/
def LtAt (w : World) : LT → Prop
  | .leaf b p => w.heap[b]? = some (.cells (LT.leaf b p).cells 52 (0, 0))
  | .node b x y a k => w.heap[b]? = some (.cells (LT.node b x y a k).cells 52 (0, 0)) ∧ LtAt w x ∧ LtAt w y
theorem LtAt.blk {w : World} : ∀ {t : LT}, LtAt w t → w.heap[t.b]? = some (.cells t.cells 52 (0, 0))
  | .leaf _ _, h => h
  | .node .., h => h.1
theorem LtAt.of_blocks {w w1 : World} : ∀ {t : LT}, LtAt w t → (∀ k ∈ t.blocks, w1.heap[k]? = w.heap[k]?) → LtAt w1 t
  | .leaf b p, h, hb => (hb b (by simp [LT.blocks])).trans h
  | .node b x y a k, h, hb => ⟨(hb b (by simp [LT.blocks])).trans h.1, h.2.1.of_blocks (fun k hk => hb k (by simp [LT.blocks, hk])), h.2.2.of_blocks (fun k hk => hb k (by simp [LT.blocks, hk]))⟩
theorem LtAt.lt {w : World} : ∀ {t : LT}, LtAt w t → ∀ k ∈ t.blocks, k < w.heap.size
  | .leaf b p, h, k, hk => by
    simp [LT.blocks] at hk; subst hk
    exact (Array.getElem?_eq_some_iff.1 h).1
  | .node b x y a c, h, k, hk => by
    simp only [LT.blocks, List.mem_cons, List.mem_append] at hk
    rcases hk with rfl | hk | hk
    · exact (Array.getElem?_eq_some_iff.1 h.1).1
    · exact h.2.1.lt k hk
    · exact h.2.2.lt k hk
theorem LtAt.below {w w1 : World} {B : Nat} {t : LT} (h : LtAt w t) (hb : ∀ k ∈ t.blocks, k < B) (he : Below B w w1) : LtAt w1 t :=
  h.of_blocks fun k hk => he.block k (hb k hk)
theorem LtAt.ext {w w1 : World} {t : LT} (h : LtAt w t) (he : Ext w w1) : LtAt w1 t := h.below h.lt he

/-- A box: row, column, rows, columns. -/
structure Bx where
  row : Int
  col : Int
  rows : Int
  cols : Int
deriving DecidableEq
def Bx.val (b : Bx) : Value := .agg #[.int .i64 b.row, .int .i64 b.col, .int .i64 b.rows, .int .i64 b.cols]
/-- Small enough for whatever is counted. -/
def Bx.ok (b : Bx) : Prop := 0 ≤ b.row ∧ 0 ≤ b.col ∧ 0 ≤ b.rows ∧ 0 ≤ b.cols ∧ b.row + b.rows ≤ 1000000 ∧ b.col + b.cols ≤ 1000000
def wide (a : Bool) (b : Bx) : Int := if a then b.cols else b.rows
def held (k d : Int) : Int := min (max k 1) (d - 2)
def slc (a : Bool) (b : Bx) (frm many : Int) : Bx := if a then { b with col := b.col + frm, cols := many } else { b with row := b.row + frm, rows := many }
def parts (a : Bool) (k : Int) (b : Bx) : Bx × Bx :=
  if wide a b < 3 then (b, slc a b (wide a b) 0) else (slc a b 0 (held k (wide a b)), slc a b (held k (wide a b) + 1) (wide a b - held k (wide a b) - 1))
theorem parts_ok {a : Bool} {k : Int} {b : Bx} (h : b.ok) : (parts a k b).1.ok ∧ (parts a k b).2.ok := by
  obtain ⟨h0, h1, h2, h3, h4, h5⟩ := h
  unfold parts Bx.ok
  cases a
  · simp only [wide, slc, held, Bool.false_eq_true, if_false]
    split <;> simp only <;> omega
  · simp only [wide, slc, held, if_true]
    split <;> simp only <;> omega
def LT.size : LT → Nat
  | .leaf .. => 1
  | .node _ x y _ _ => x.size + y.size + 1
/-- All nodes with their boxes: a node ahead of its trees. -/
def LT.visit : LT → Bx → List (LT × Bx)
  | .leaf b p, r => [(.leaf b p, r)]
  | .node b x y a k, r => (.node b x y a k, r) :: (x.visit (parts a k r).1 ++ y.visit (parts a k r).2)
def LT.panes : LT → List Int
  | .leaf _ p => [p]
  | .node _ x y _ _ => x.panes ++ y.panes
def LT.places : LT → Bx → List Bx
  | .leaf _ _, r => [r]
  | .node _ x y a k, r => x.places (parts a k r).1 ++ y.places (parts a k r).2
def LT.lines : LT → Bx → List (Bx × Bool)
  | .leaf _ _, _ => []
  | .node _ x y a k, r => (if 3 ≤ wide a r then [(slc a r (held k (wide a r)) 1, a)] else []) ++ (x.lines (parts a k r).1 ++ y.lines (parts a k r).2)

end Go.Proofs.YtflbfmfaccaffaaDoor
