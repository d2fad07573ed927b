/-
  Texts merged: Ta, Size, Sz.
-/
import Derived.Outline
import Derived.Shelf.Abstract
import Derived.Test.YtjodmedgkmeklaaGreatJ01
/-
  Type assertions on terms, each by the kernel.
-/
namespace Go.Proofs.YtjodmedgkmeklaaGreat
open Go Go.RowKit

theorem ta_Atom_Atom : ∀ v w, (Instr.typeAssert (.iface 47 v) 29 47 true).run Tryz.prog w = .ok (.tuple #[v, .bool true]) w := fun _ _ => by kernel_rfl
theorem ta_Public_Atom : ∀ v w, (Instr.typeAssert (.iface 82 v) 29 47 true).run Tryz.prog w = .ok (.tuple #[.agg #[.int .i64 0], .bool false]) w := fun _ _ => by kernel_rfl
theorem ta_Shared_Atom : ∀ v w, (Instr.typeAssert (.iface 84 v) 29 47 true).run Tryz.prog w = .ok (.tuple #[.agg #[.int .i64 0], .bool false]) w := fun _ _ => by kernel_rfl
theorem ta_Chain_Atom : ∀ v w, (Instr.typeAssert (.iface 86 v) 29 47 true).run Tryz.prog w = .ok (.tuple #[.agg #[.int .i64 0], .bool false]) w := fun _ _ => by kernel_rfl
theorem ta_Digest_Atom : ∀ v w, (Instr.typeAssert (.iface 88 v) 29 47 true).run Tryz.prog w = .ok (.tuple #[.agg #[.int .i64 0], .bool false]) w := fun _ _ => by kernel_rfl
theorem ta_Box_Atom : ∀ v w, (Instr.typeAssert (.iface 90 v) 29 47 true).run Tryz.prog w = .ok (.tuple #[.agg #[.int .i64 0], .bool false]) w := fun _ _ => by kernel_rfl
theorem ta_Empty_Atom : ∀ v w, (Instr.typeAssert (.iface 80 v) 29 47 true).run Tryz.prog w = .ok (.tuple #[.agg #[.int .i64 0], .bool false]) w := fun _ _ => by kernel_rfl
theorem ta_Nil_Atom : ∀ w, (Instr.typeAssert .nilIface 29 47 true).run Tryz.prog w = .ok (.tuple #[.agg #[.int .i64 0], .bool false]) w := fun _ => by kernel_rfl
theorem ta_Atom_Public : ∀ v w, (Instr.typeAssert (.iface 47 v) 29 82 true).run Tryz.prog w = .ok (.tuple #[.agg #[.int .i64 0], .bool false]) w := fun _ _ => by kernel_rfl
theorem ta_Public_Public : ∀ v w, (Instr.typeAssert (.iface 82 v) 29 82 true).run Tryz.prog w = .ok (.tuple #[v, .bool true]) w := fun _ _ => by kernel_rfl
theorem ta_Shared_Public : ∀ v w, (Instr.typeAssert (.iface 84 v) 29 82 true).run Tryz.prog w = .ok (.tuple #[.agg #[.int .i64 0], .bool false]) w := fun _ _ => by kernel_rfl
theorem ta_Chain_Public : ∀ v w, (Instr.typeAssert (.iface 86 v) 29 82 true).run Tryz.prog w = .ok (.tuple #[.agg #[.int .i64 0], .bool false]) w := fun _ _ => by kernel_rfl
theorem ta_Digest_Public : ∀ v w, (Instr.typeAssert (.iface 88 v) 29 82 true).run Tryz.prog w = .ok (.tuple #[.agg #[.int .i64 0], .bool false]) w := fun _ _ => by kernel_rfl
theorem ta_Box_Public : ∀ v w, (Instr.typeAssert (.iface 90 v) 29 82 true).run Tryz.prog w = .ok (.tuple #[.agg #[.int .i64 0], .bool false]) w := fun _ _ => by kernel_rfl
theorem ta_Empty_Public : ∀ v w, (Instr.typeAssert (.iface 80 v) 29 82 true).run Tryz.prog w = .ok (.tuple #[.agg #[.int .i64 0], .bool false]) w := fun _ _ => by kernel_rfl
theorem ta_Nil_Public : ∀ w, (Instr.typeAssert .nilIface 29 82 true).run Tryz.prog w = .ok (.tuple #[.agg #[.int .i64 0], .bool false]) w := fun _ => by kernel_rfl
theorem ta_Atom_Shared : ∀ v w, (Instr.typeAssert (.iface 47 v) 29 84 true).run Tryz.prog w = .ok (.tuple #[.agg #[.int .i64 0, .int .i64 0], .bool false]) w := fun _ _ => by kernel_rfl
theorem ta_Public_Shared : ∀ v w, (Instr.typeAssert (.iface 82 v) 29 84 true).run Tryz.prog w = .ok (.tuple #[.agg #[.int .i64 0, .int .i64 0], .bool false]) w := fun _ _ => by kernel_rfl
theorem ta_Shared_Shared : ∀ v w, (Instr.typeAssert (.iface 84 v) 29 84 true).run Tryz.prog w = .ok (.tuple #[v, .bool true]) w := fun _ _ => by kernel_rfl
theorem ta_Chain_Shared : ∀ v w, (Instr.typeAssert (.iface 86 v) 29 84 true).run Tryz.prog w = .ok (.tuple #[.agg #[.int .i64 0, .int .i64 0], .bool false]) w := fun _ _ => by kernel_rfl
theorem ta_Digest_Shared : ∀ v w, (Instr.typeAssert (.iface 88 v) 29 84 true).run Tryz.prog w = .ok (.tuple #[.agg #[.int .i64 0, .int .i64 0], .bool false]) w := fun _ _ => by kernel_rfl
theorem ta_Box_Shared : ∀ v w, (Instr.typeAssert (.iface 90 v) 29 84 true).run Tryz.prog w = .ok (.tuple #[.agg #[.int .i64 0, .int .i64 0], .bool false]) w := fun _ _ => by kernel_rfl
theorem ta_Empty_Shared : ∀ v w, (Instr.typeAssert (.iface 80 v) 29 84 true).run Tryz.prog w = .ok (.tuple #[.agg #[.int .i64 0, .int .i64 0], .bool false]) w := fun _ _ => by kernel_rfl
theorem ta_Nil_Shared : ∀ w, (Instr.typeAssert .nilIface 29 84 true).run Tryz.prog w = .ok (.tuple #[.agg #[.int .i64 0, .int .i64 0], .bool false]) w := fun _ => by kernel_rfl
theorem ta_Atom_Chain : ∀ v w, (Instr.typeAssert (.iface 47 v) 29 86 true).run Tryz.prog w = .ok (.tuple #[.agg #[.int .i64 0, .nilIface, .nilIface], .bool false]) w := fun _ _ => by kernel_rfl
theorem ta_Public_Chain : ∀ v w, (Instr.typeAssert (.iface 82 v) 29 86 true).run Tryz.prog w = .ok (.tuple #[.agg #[.int .i64 0, .nilIface, .nilIface], .bool false]) w := fun _ _ => by kernel_rfl
theorem ta_Shared_Chain : ∀ v w, (Instr.typeAssert (.iface 84 v) 29 86 true).run Tryz.prog w = .ok (.tuple #[.agg #[.int .i64 0, .nilIface, .nilIface], .bool false]) w := fun _ _ => by kernel_rfl
theorem ta_Chain_Chain : ∀ v w, (Instr.typeAssert (.iface 86 v) 29 86 true).run Tryz.prog w = .ok (.tuple #[v, .bool true]) w := fun _ _ => by kernel_rfl
theorem ta_Digest_Chain : ∀ v w, (Instr.typeAssert (.iface 88 v) 29 86 true).run Tryz.prog w = .ok (.tuple #[.agg #[.int .i64 0, .nilIface, .nilIface], .bool false]) w := fun _ _ => by kernel_rfl
theorem ta_Box_Chain : ∀ v w, (Instr.typeAssert (.iface 90 v) 29 86 true).run Tryz.prog w = .ok (.tuple #[.agg #[.int .i64 0, .nilIface, .nilIface], .bool false]) w := fun _ _ => by kernel_rfl
theorem ta_Empty_Chain : ∀ v w, (Instr.typeAssert (.iface 80 v) 29 86 true).run Tryz.prog w = .ok (.tuple #[.agg #[.int .i64 0, .nilIface, .nilIface], .bool false]) w := fun _ _ => by kernel_rfl
theorem ta_Nil_Chain : ∀ w, (Instr.typeAssert .nilIface 29 86 true).run Tryz.prog w = .ok (.tuple #[.agg #[.int .i64 0, .nilIface, .nilIface], .bool false]) w := fun _ => by kernel_rfl
theorem ta_Atom_Digest : ∀ v w, (Instr.typeAssert (.iface 47 v) 29 88 true).run Tryz.prog w = .ok (.tuple #[.agg #[.nilIface, .nilIface], .bool false]) w := fun _ _ => by kernel_rfl
theorem ta_Public_Digest : ∀ v w, (Instr.typeAssert (.iface 82 v) 29 88 true).run Tryz.prog w = .ok (.tuple #[.agg #[.nilIface, .nilIface], .bool false]) w := fun _ _ => by kernel_rfl
theorem ta_Shared_Digest : ∀ v w, (Instr.typeAssert (.iface 84 v) 29 88 true).run Tryz.prog w = .ok (.tuple #[.agg #[.nilIface, .nilIface], .bool false]) w := fun _ _ => by kernel_rfl
theorem ta_Chain_Digest : ∀ v w, (Instr.typeAssert (.iface 86 v) 29 88 true).run Tryz.prog w = .ok (.tuple #[.agg #[.nilIface, .nilIface], .bool false]) w := fun _ _ => by kernel_rfl
theorem ta_Digest_Digest : ∀ v w, (Instr.typeAssert (.iface 88 v) 29 88 true).run Tryz.prog w = .ok (.tuple #[v, .bool true]) w := fun _ _ => by kernel_rfl
theorem ta_Box_Digest : ∀ v w, (Instr.typeAssert (.iface 90 v) 29 88 true).run Tryz.prog w = .ok (.tuple #[.agg #[.nilIface, .nilIface], .bool false]) w := fun _ _ => by kernel_rfl
theorem ta_Empty_Digest : ∀ v w, (Instr.typeAssert (.iface 80 v) 29 88 true).run Tryz.prog w = .ok (.tuple #[.agg #[.nilIface, .nilIface], .bool false]) w := fun _ _ => by kernel_rfl
theorem ta_Nil_Digest : ∀ w, (Instr.typeAssert .nilIface 29 88 true).run Tryz.prog w = .ok (.tuple #[.agg #[.nilIface, .nilIface], .bool false]) w := fun _ => by kernel_rfl
theorem ta_Atom_Box : ∀ v w, (Instr.typeAssert (.iface 47 v) 29 90 true).run Tryz.prog w = .ok (.tuple #[.agg #[.nilIface, .int .i64 0, .nilIface, .nilIface], .bool false]) w := fun _ _ => by kernel_rfl
theorem ta_Public_Box : ∀ v w, (Instr.typeAssert (.iface 82 v) 29 90 true).run Tryz.prog w = .ok (.tuple #[.agg #[.nilIface, .int .i64 0, .nilIface, .nilIface], .bool false]) w := fun _ _ => by kernel_rfl
theorem ta_Shared_Box : ∀ v w, (Instr.typeAssert (.iface 84 v) 29 90 true).run Tryz.prog w = .ok (.tuple #[.agg #[.nilIface, .int .i64 0, .nilIface, .nilIface], .bool false]) w := fun _ _ => by kernel_rfl
theorem ta_Chain_Box : ∀ v w, (Instr.typeAssert (.iface 86 v) 29 90 true).run Tryz.prog w = .ok (.tuple #[.agg #[.nilIface, .int .i64 0, .nilIface, .nilIface], .bool false]) w := fun _ _ => by kernel_rfl
theorem ta_Digest_Box : ∀ v w, (Instr.typeAssert (.iface 88 v) 29 90 true).run Tryz.prog w = .ok (.tuple #[.agg #[.nilIface, .int .i64 0, .nilIface, .nilIface], .bool false]) w := fun _ _ => by kernel_rfl
theorem ta_Box_Box : ∀ v w, (Instr.typeAssert (.iface 90 v) 29 90 true).run Tryz.prog w = .ok (.tuple #[v, .bool true]) w := fun _ _ => by kernel_rfl
theorem ta_Empty_Box : ∀ v w, (Instr.typeAssert (.iface 80 v) 29 90 true).run Tryz.prog w = .ok (.tuple #[.agg #[.nilIface, .int .i64 0, .nilIface, .nilIface], .bool false]) w := fun _ _ => by kernel_rfl
theorem ta_Nil_Box : ∀ w, (Instr.typeAssert .nilIface 29 90 true).run Tryz.prog w = .ok (.tuple #[.agg #[.nilIface, .int .i64 0, .nilIface, .nilIface], .bool false]) w := fun _ => by kernel_rfl
theorem ta_Atom_Empty : ∀ v w, (Instr.typeAssert (.iface 47 v) 29 80 true).run Tryz.prog w = .ok (.tuple #[.agg #[], .bool false]) w := fun _ _ => by kernel_rfl
theorem ta_Public_Empty : ∀ v w, (Instr.typeAssert (.iface 82 v) 29 80 true).run Tryz.prog w = .ok (.tuple #[.agg #[], .bool false]) w := fun _ _ => by kernel_rfl
theorem ta_Shared_Empty : ∀ v w, (Instr.typeAssert (.iface 84 v) 29 80 true).run Tryz.prog w = .ok (.tuple #[.agg #[], .bool false]) w := fun _ _ => by kernel_rfl
theorem ta_Chain_Empty : ∀ v w, (Instr.typeAssert (.iface 86 v) 29 80 true).run Tryz.prog w = .ok (.tuple #[.agg #[], .bool false]) w := fun _ _ => by kernel_rfl
theorem ta_Digest_Empty : ∀ v w, (Instr.typeAssert (.iface 88 v) 29 80 true).run Tryz.prog w = .ok (.tuple #[.agg #[], .bool false]) w := fun _ _ => by kernel_rfl
theorem ta_Box_Empty : ∀ v w, (Instr.typeAssert (.iface 90 v) 29 80 true).run Tryz.prog w = .ok (.tuple #[.agg #[], .bool false]) w := fun _ _ => by kernel_rfl
theorem ta_Empty_Empty : ∀ v w, (Instr.typeAssert (.iface 80 v) 29 80 true).run Tryz.prog w = .ok (.tuple #[v, .bool true]) w := fun _ _ => by kernel_rfl
theorem ta_Nil_Empty : ∀ w, (Instr.typeAssert .nilIface 29 80 true).run Tryz.prog w = .ok (.tuple #[.agg #[], .bool false]) w := fun _ => by kernel_rfl

/-- The method of each kind. -/
theorem meth_Atom : ∀ v w, (method 291 47 v "Name").run Tryz.prog w = .ok (116, v) w := fun _ _ => by kernel_rfl
theorem meth_Public : ∀ v w, (method 291 82 v "Name").run Tryz.prog w = .ok (131, v) w := fun _ _ => by kernel_rfl
theorem meth_Shared : ∀ v w, (method 291 84 v "Name").run Tryz.prog w = .ok (132, v) w := fun _ _ => by kernel_rfl
theorem meth_Chain : ∀ v w, (method 291 86 v "Name").run Tryz.prog w = .ok (133, v) w := fun _ _ => by kernel_rfl
theorem meth_Digest : ∀ v w, (method 291 88 v "Name").run Tryz.prog w = .ok (143, v) w := fun _ _ => by kernel_rfl
theorem meth_Box : ∀ v w, (method 291 90 v "Name").run Tryz.prog w = .ok (144, v) w := fun _ _ => by kernel_rfl
theorem meth_Empty : ∀ v w, (method 291 80 v "Name").run Tryz.prog w = .ok (130, v) w := fun _ _ => by kernel_rfl
/-- Strings are joined. -/
theorem ext_add {a : Act} {dst : Option Tmp} {ty ty1 ty2 : TypeId} {pos : String} {after : Array Edge} {g : Option (Nat × Bool)} {x y : Operand} {s t : ByteArray} (w : World) (hx : a.eval x = .string s) (hy : a.eval y = .string t) (hs : s.size + t.size ≤ 9223372036854775807) :
    extUpon Tryz.prog w (.string (s ++ t)) ((execOp a.eval ⟨dst, .binOp .add ty1 x y ty2, ty, pos, after, g⟩).run Tryz.prog w) := by
  have hn : ¬ 9223372036854775807 < s.size + t.size := by omega
  simp only [execOp, hx, hy]
  simp [go_sem, extUpon, hn, Ext.refl]
theorem reg_add {E fuel : Nat} {l tl : List Oper} {dst : Option Tmp} {ty ty1 ty2 : TypeId} {pos : String} {after : Array Edge} {x y : Operand} {listed : Array Bool} {a : Act} {w : World} {md : Region.Mode} {Q : Exit → Act → World → Prop} (i : Nat) (s t : ByteArray)
    (hi : l.drop i = ⟨dst, .binOp .add ty1 x y ty2, ty, pos, after, none⟩ :: tl) (hB : takeB md l.toArray E listed i = true) (hs : s.size + t.size ≤ 9223372036854775807) (hx : a.eval x = .string s) (hy : a.eval y = .string t)
    (h : wpAnyU Tryz.prog md l.toArray (calm Q) E fuel (listed.setIfInBounds i true) (a.put dst (.string (s ++ t))) w) : wpAnyU Tryz.prog md l.toArray (calm Q) E (fuel + 1) listed a w :=
  reg_quiet i hi hB rfl ⟨_, fun w' _ => ext_add w' hx hy hs, h⟩
theorem reg_adds {E fuel : Nat} {l tl : List Oper} {dst : Option Tmp} {ty ty1 ty2 : TypeId} {pos : String} {after : Array Edge} {x y : Operand} {listed : Array Bool} {a : Act} {w : World} {md : Region.Mode} {Q : Exit → Act → World → Prop} (i : Nat) (s t : List UInt8)
    (hi : l.drop i = ⟨dst, .binOp .add ty1 x y ty2, ty, pos, after, none⟩ :: tl) (hB : takeB md l.toArray E listed i = true) (hs : s.length + t.length ≤ 9223372036854775807) (hx : a.eval x = str s) (hy : a.eval y = str t)
    (h : wpAnyU Tryz.prog md l.toArray (calm Q) E fuel (listed.setIfInBounds i true) (a.put dst (str (s ++ t))) w) : wpAnyU Tryz.prog md l.toArray (calm Q) E (fuel + 1) listed a w := by
  refine reg_add i ⟨s.toArray⟩ ⟨t.toArray⟩ hi hB (by simpa [ByteArray.size] using hs) hx hy ?_
  rwa [ByteArray.mk_append_mk]
theorem Tm.val_form (t : Tm) : t.val = .nilIface ∨ ∃ u x, t.val = .iface u x := by
  cases t <;> first | exact .inl rfl | exact .inr ⟨_, _, rfl⟩

theorem run_build_chain (i : Int) (f x : Tm) (w : World) : (Instr.build 86 #[(0, .int .i64 i), (1, f.val), (2, x.val)]).run Tryz.prog w = .ok (.agg #[.int .i64 i, f.val, x.val]) w := by
  rcases f.val_form with h | ⟨_, _, h⟩ <;> rcases x.val_form with h' | ⟨_, _, h'⟩ <;> rw [h, h'] <;> kernel_rfl
theorem run_build_digest (f x : Tm) (w : World) : (Instr.build 88 #[(0, f.val), (1, x.val)]).run Tryz.prog w = .ok (.agg #[f.val, x.val]) w := by
  rcases f.val_form with h | ⟨_, _, h⟩ <;> rcases x.val_form with h' | ⟨_, _, h'⟩ <;> rw [h, h'] <;> kernel_rfl
theorem run_build_box (k : Tm) (n : Int) (f x : Tm) (w : World) : (Instr.build 90 #[(0, k.val), (1, .int .i64 n), (2, f.val), (3, x.val)]).run Tryz.prog w = .ok (.agg #[k.val, .int .i64 n, f.val, x.val]) w := by
  rcases k.val_form with hk | ⟨_, _, hk⟩ <;> rcases f.val_form with h | ⟨_, _, h⟩ <;> rcases x.val_form with h' | ⟨_, _, h'⟩ <;> rw [hk, h, h'] <;> kernel_rfl

theorem run_bs2 (f x : Tm) (w : World) : (Instr.buildSlice 40 2 #[(0, f.val), (1, x.val)]).run Tryz.prog w = .ok (.slice (some ⟨w.heap.size, 0, none⟩) 2 2) (w.alloc (.cells #[f.val, x.val] 29)) := by
  rcases f.val_form with h | ⟨_, _, h⟩ <;> rcases x.val_form with h' | ⟨_, _, h'⟩ <;> rw [h, h'] <;> kernel_rfl
theorem run_bs3 (k f x : Tm) (w : World) : (Instr.buildSlice 40 3 #[(0, k.val), (1, f.val), (2, x.val)]).run Tryz.prog w = .ok (.slice (some ⟨w.heap.size, 0, none⟩) 3 3) (w.alloc (.cells #[k.val, f.val, x.val] 29)) := by
  rcases k.val_form with hk | ⟨_, _, hk⟩ <;> rcases f.val_form with h | ⟨_, _, h⟩ <;> rcases x.val_form with h' | ⟨_, _, h'⟩ <;> rw [hk, h, h'] <;> kernel_rfl

/-- A slice is built. -/
theorem wp_bs {o : Oper} {a : Act} {w w1 : World} {K : Act → World → Prop} {Q : Exit → Act → World → Prop} {t : TypeId} {n : Nat} {parts : Array (Nat × Operand)} {L : List (Nat × Value)} {v : Value} (ho : o.op = .buildSlice t n parts)
    (hp : parts.toList.map (fun x => (x.1, a.eval x.2)) = L) (h : (Instr.buildSlice t n L.toArray).run Tryz.prog w = .ok v w1) (hk : K (a.put o.dst v) w1) : o.wp Tryz.prog a w K Q := by
  have hm : L.toArray = parts.map fun (i, x) => (i, a.eval x) := by
    rw [← hp, ← Array.toList_map]
  rw [hm] at h
  have he : (execOp a.eval o).run Tryz.prog w = .ok (.value v) w1 := by
    simp only [execOp, ho]
    rw [Sem.run_bind, h]
    rfl
  unfold Oper.wp
  rw [he]
  exact hk
theorem wpl_bs {ops : Array Oper} {rest : List Oper} {o : Oper} {a : Act} {w : World} {Q : Exit → Act → World → Prop}
    (h : o.guard = none ∧ ∃ t n parts L v w1, o.op = .buildSlice t n parts ∧ parts.toList.map (fun x => (x.1, a.eval x.2)) = L ∧ (Instr.buildSlice t n L.toArray).run Tryz.prog w = .ok v w1 ∧ wpList Tryz.prog ops Q rest (a.put o.dst v) w1) : wpList Tryz.prog ops Q (o :: rest) a w :=
  let ⟨hg, _, _, _, _, _, _, ho, hp, hr, hk⟩ := h
  wpList_plain hg fun _ hK => wp_bs ho hp hr (hK _ _ hk)

end Go.Proofs.YtjodmedgkmeklaaGreat

/-
  term.size and Size: how many stand in a term.
-/
namespace Go.Proofs.YtjodmedgkmeklaaGreat
open Go Go.RowKit
attribute [local go_sem] extUpon run_store_tm
attribute [local go_sem ↓] Tm.val_cell eval_put_ne eval_put_none eval_put_same size_put eval_const
attribute [local go_sem ↓] meth_Atom meth_Public meth_Shared meth_Chain meth_Digest meth_Box meth_Empty
attribute [local go_sem ↓] run_build_chain run_build_digest run_build_box
attribute [local go_sem] ta_Atom_Atom ta_Public_Atom ta_Shared_Atom ta_Chain_Atom ta_Digest_Atom ta_Box_Atom ta_Empty_Atom ta_Nil_Atom ta_Atom_Public ta_Public_Public ta_Shared_Public ta_Chain_Public ta_Digest_Public ta_Box_Public ta_Empty_Public ta_Nil_Public ta_Atom_Shared ta_Public_Shared ta_Shared_Shared ta_Chain_Shared ta_Digest_Shared ta_Box_Shared ta_Empty_Shared ta_Nil_Shared ta_Atom_Chain ta_Public_Chain ta_Shared_Chain ta_Chain_Chain ta_Digest_Chain ta_Box_Chain ta_Empty_Chain ta_Nil_Chain ta_Atom_Digest ta_Public_Digest ta_Shared_Digest ta_Chain_Digest ta_Digest_Digest ta_Box_Digest ta_Empty_Digest ta_Nil_Digest ta_Atom_Box ta_Public_Box ta_Shared_Box ta_Chain_Box ta_Digest_Box ta_Box_Box ta_Empty_Box ta_Nil_Box ta_Atom_Empty ta_Public_Empty ta_Shared_Empty ta_Chain_Empty ta_Digest_Empty ta_Box_Empty ta_Empty_Empty ta_Nil_Empty

/-- A term's size, so many counted already. -/
def szf : Tm → Int → Int
  | .chain _ f w, n => if 10000 ≤ n + 1 then 10000 else szf w (szf f (n + 1))
  | .digest f w, n => if 10000 ≤ n + 1 then 10000 else szf w (szf f (n + 1))
  | .box k _ a t, n => if 10000 ≤ n + 1 then 10000 else szf t (szf a (szf k (n + 1)))
  | .non, n => if 10000 ≤ n + 1 then 10000 else n + 1
  | .atom _, n => if 10000 ≤ n + 1 then 10000 else n + 1
  | .pub _, n => if 10000 ≤ n + 1 then 10000 else n + 1
  | .shared _ _, n => if 10000 ≤ n + 1 then 10000 else n + 1
  | .empty, n => if 10000 ≤ n + 1 then 10000 else n + 1

theorem szf_bd : ∀ (t : Tm) (n : Int), 0 ≤ n → n ≤ 10000 → 0 ≤ szf t n ∧ szf t n ≤ 10000
  | .non, n, h0, h1 => by unfold szf; split <;> omega
  | .atom _, n, h0, h1 => by unfold szf; split <;> omega
  | .pub _, n, h0, h1 => by unfold szf; split <;> omega
  | .shared _ _, n, h0, h1 => by unfold szf; split <;> omega
  | .empty, n, h0, h1 => by unfold szf; split <;> omega
  | .chain _ f w, n, h0, h1 => by
    unfold szf; split
    · omega
    · have a := szf_bd f (n + 1) (by omega) (by omega); exact szf_bd w _ a.1 a.2
  | .digest f w, n, h0, h1 => by
    unfold szf; split
    · omega
    · have a := szf_bd f (n + 1) (by omega) (by omega); exact szf_bd w _ a.1 a.2
  | .box k _ a t, n, h0, h1 => by
    unfold szf; split
    · omega
    · have x := szf_bd k (n + 1) (by omega) (by omega); have y := szf_bd a _ x.1 x.2; exact szf_bd t _ y.1 y.2

def SizeSaid (t : Tm) : Prop := ∀ (n : Int) (w : World), 0 ≤ n → n ≤ 10000 → Calls Tryz.prog 59 #[t.val, .int .i64 n] w fun e w' => e = .returned (.int .i64 (szf t n)) ∧ Ext w w'

theorem size_full (t : Tm) (n : Int) (w : World) (h0 : 9999 ≤ n) (hn : n ≤ 10000) :
    Calls Tryz.prog 59 #[t.val, .int .i64 n] w fun e w' => e = .returned (.int .i64 (szf t n)) ∧ Ext w w' := by
  have H : Hid (szf t n = 10000) := by cases t <;> rw [szf, if_pos (by omega)] <;> exact rfl
  go_enter Tryz.func59, Tryz.ntmps59
  go_wp2_with fail
  go_ret
  exact ⟨by rw [H.out]; rfl, Ext.refl _⟩

theorem size_non  : SizeSaid (Tm.non) := by
  intro n w h0 hn
  by_cases h : 9999 ≤ n
  · exact size_full _ n w h hn
  have H : Hid (szf (Tm.non) n = n + 1) := by rw [szf, if_neg (by omega)]; exact rfl
  have hval : (Tm.non).val = .nilIface := rfl
  rw [hval]
  clear hval
  go_enter Tryz.func59, Tryz.ntmps59
  go_wp2_with fail
  go_ret
  exact ⟨by rw [H.out]; rfl, Ext.refl _⟩

theorem size_atom (m : Int) : SizeSaid (Tm.atom m) := by
  intro n w h0 hn
  by_cases h : 9999 ≤ n
  · exact size_full _ n w h hn
  have H : Hid (szf (Tm.atom m) n = n + 1) := by rw [szf, if_neg (by omega)]; exact rfl
  have hval : (Tm.atom m).val = .iface 47 (.agg #[.int .i64 m]) := rfl
  rw [hval]
  clear hval
  go_enter Tryz.func59, Tryz.ntmps59
  go_wp2_with fail
  go_ret
  exact ⟨by rw [H.out]; rfl, Ext.refl _⟩

theorem size_pub (m : Int) : SizeSaid (Tm.pub m) := by
  intro n w h0 hn
  by_cases h : 9999 ≤ n
  · exact size_full _ n w h hn
  have H : Hid (szf (Tm.pub m) n = n + 1) := by rw [szf, if_neg (by omega)]; exact rfl
  have hval : (Tm.pub m).val = .iface 82 (.agg #[.int .i64 m]) := rfl
  rw [hval]
  clear hval
  go_enter Tryz.func59, Tryz.ntmps59
  go_wp2_with fail
  go_ret
  exact ⟨by rw [H.out]; rfl, Ext.refl _⟩

theorem size_shared (m k : Int) : SizeSaid (Tm.shared m k) := by
  intro n w h0 hn
  by_cases h : 9999 ≤ n
  · exact size_full _ n w h hn
  have H : Hid (szf (Tm.shared m k) n = n + 1) := by rw [szf, if_neg (by omega)]; exact rfl
  have hval : (Tm.shared m k).val = .iface 84 (.agg #[.int .i64 m, .int .i64 k]) := rfl
  rw [hval]
  clear hval
  go_enter Tryz.func59, Tryz.ntmps59
  go_wp2_with fail
  go_ret
  exact ⟨by rw [H.out]; rfl, Ext.refl _⟩

theorem size_empty  : SizeSaid (Tm.empty) := by
  intro n w h0 hn
  by_cases h : 9999 ≤ n
  · exact size_full _ n w h hn
  have H : Hid (szf (Tm.empty) n = n + 1) := by rw [szf, if_neg (by omega)]; exact rfl
  have hval : (Tm.empty).val = .iface 80 (.agg #[]) := rfl
  rw [hval]
  clear hval
  go_enter Tryz.func59, Tryz.ntmps59
  go_wp2_with fail
  go_ret
  exact ⟨by rw [H.out]; rfl, Ext.refl _⟩

theorem size_chain (i : Int) (f x : Tm) (ihf : SizeSaid f) (ihx : SizeSaid x) : SizeSaid (.chain i f x) := by
  intro n w h0 hn
  by_cases h : 9999 ≤ n
  · exact size_full _ n w h hn
  have H : Hid (szf (.chain i f x) n = szf x (szf f (n + 1))) := by rw [szf, if_neg (by omega)]; exact rfl
  have hval : (Tm.chain i f x).val = .iface 86 (.agg #[.int .i64 i, f.val, x.val]) := rfl
  rw [hval]
  clear hval
  go_enter Tryz.func59, Tryz.ntmps59
  go_wp2_with fail
  refine reg_begin 8 (by kernel_rfl) ?_
  generalize hW : World.drew _ = W
  have c1 : W.cell? ⟨w.heap.size, 1, none⟩ = some f.val := by rw [← hW]; exact cell_drew (cell_new rfl)
  have c2 : W.cell? ⟨w.heap.size, 2, none⟩ = some x.val := by rw [← hW]; exact cell_drew (cell_new rfl)
  have hE : Ext w W := by rw [← hW]; exact (Ext.alloc _ _).trans (Ext.drew _)
  clear hW
  refine reg_quiet 0 rfl (by kernel_rfl) rfl ?_
  apply Exists.intro
  refine ⟨fun w' hw' => ?_, ?_⟩
  · go_simp
    exact ⟨rfl, Ext.refl _⟩
  refine reg_quiet 1 rfl (by kernel_rfl) rfl ?_
  apply Exists.intro
  refine ⟨fun w' hw' => ?_, ?_⟩
  · have hc := hw'.cell c2
    go_simp
    exact ⟨rfl, Ext.refl _⟩
  refine reg_quiet 2 rfl (by kernel_rfl) rfl ?_
  apply Exists.intro
  refine ⟨fun w' hw' => ?_, ?_⟩
  · go_simp
    exact ⟨rfl, Ext.refl _⟩
  refine reg_quiet 3 rfl (by kernel_rfl) rfl ?_
  apply Exists.intro
  refine ⟨fun w' hw' => ?_, ?_⟩
  · have hc := hw'.cell c1
    go_simp
    exact ⟨rfl, Ext.refl _⟩
  refine reg_quiet 4 rfl (by kernel_rfl) rfl ?_
  apply Exists.intro
  refine ⟨fun w' hw' => ?_, ?_⟩
  · go_simp
    exact ⟨rfl, Ext.refl _⟩
  refine reg_quiet 5 rfl (by kernel_rfl) rfl ?_
  apply Exists.intro
  refine ⟨fun w' hw' => ?_, ?_⟩
  · go_simp
    exact ihf (n + 1) w' (by omega) (by omega)
  have hb := szf_bd f (n + 1) (by omega) (by omega)
  refine reg_quiet 6 rfl (by kernel_rfl) rfl ?_
  apply Exists.intro
  refine ⟨fun w' hw' => ?_, ?_⟩
  · go_simp
    exact ihx _ w' hb.1 hb.2
  refine reg_quiet 7 rfl (by kernel_rfl) rfl ?_
  apply Exists.intro
  refine ⟨fun w' hw' => ?_, ?_⟩
  · go_simp
    exact ⟨rfl, Ext.refl _⟩
  refine reg_done (by kernel_rfl) (fun w' hw' => ?_) _
  go_simp
  go_wp2
  go_ret
  exact ⟨by rw [H.out]; rfl, hE.trans hw'⟩

theorem size_digest (f x : Tm) (ihf : SizeSaid f) (ihx : SizeSaid x) : SizeSaid (.digest f x) := by
  intro n w h0 hn
  by_cases h : 9999 ≤ n
  · exact size_full _ n w h hn
  have H : Hid (szf (.digest f x) n = szf x (szf f (n + 1))) := by rw [szf, if_neg (by omega)]; exact rfl
  have hval : (Tm.digest f x).val = .iface 88 (.agg #[f.val, x.val]) := rfl
  rw [hval]
  clear hval
  go_enter Tryz.func59, Tryz.ntmps59
  go_wp2_with fail
  refine reg_begin 8 (by kernel_rfl) ?_
  generalize hW : World.drew _ = W
  have c1 : W.cell? ⟨w.heap.size, 0, none⟩ = some f.val := by rw [← hW]; exact cell_drew (cell_new rfl)
  have c2 : W.cell? ⟨w.heap.size, 1, none⟩ = some x.val := by rw [← hW]; exact cell_drew (cell_new rfl)
  have hE : Ext w W := by rw [← hW]; exact (Ext.alloc _ _).trans (Ext.drew _)
  clear hW
  refine reg_quiet 0 rfl (by kernel_rfl) rfl ?_
  apply Exists.intro
  refine ⟨fun w' hw' => ?_, ?_⟩
  · go_simp
    exact ⟨rfl, Ext.refl _⟩
  refine reg_quiet 1 rfl (by kernel_rfl) rfl ?_
  apply Exists.intro
  refine ⟨fun w' hw' => ?_, ?_⟩
  · have hc := hw'.cell c2
    go_simp
    exact ⟨rfl, Ext.refl _⟩
  refine reg_quiet 2 rfl (by kernel_rfl) rfl ?_
  apply Exists.intro
  refine ⟨fun w' hw' => ?_, ?_⟩
  · go_simp
    exact ⟨rfl, Ext.refl _⟩
  refine reg_quiet 3 rfl (by kernel_rfl) rfl ?_
  apply Exists.intro
  refine ⟨fun w' hw' => ?_, ?_⟩
  · have hc := hw'.cell c1
    go_simp
    exact ⟨rfl, Ext.refl _⟩
  refine reg_quiet 4 rfl (by kernel_rfl) rfl ?_
  apply Exists.intro
  refine ⟨fun w' hw' => ?_, ?_⟩
  · go_simp
    exact ⟨rfl, Ext.refl _⟩
  refine reg_quiet 5 rfl (by kernel_rfl) rfl ?_
  apply Exists.intro
  refine ⟨fun w' hw' => ?_, ?_⟩
  · go_simp
    exact ihf (n + 1) w' (by omega) (by omega)
  have hb := szf_bd f (n + 1) (by omega) (by omega)
  refine reg_quiet 6 rfl (by kernel_rfl) rfl ?_
  apply Exists.intro
  refine ⟨fun w' hw' => ?_, ?_⟩
  · go_simp
    exact ihx _ w' hb.1 hb.2
  refine reg_quiet 7 rfl (by kernel_rfl) rfl ?_
  apply Exists.intro
  refine ⟨fun w' hw' => ?_, ?_⟩
  · go_simp
    exact ⟨rfl, Ext.refl _⟩
  refine reg_done (by kernel_rfl) (fun w' hw' => ?_) _
  go_simp
  go_wp2
  go_ret
  exact ⟨by rw [H.out]; rfl, hE.trans hw'⟩

theorem size_box (m : Int) (k a x : Tm) (ihk : SizeSaid k) (iha : SizeSaid a) (ihx : SizeSaid x) : SizeSaid (.box k m a x) := by
  intro n w h0 hn
  by_cases h : 9999 ≤ n
  · exact size_full _ n w h hn
  have H : Hid (szf (.box k m a x) n = szf x (szf a (szf k (n + 1)))) := by rw [szf, if_neg (by omega)]; exact rfl
  have hval : (Tm.box k m a x).val = .iface 90 (.agg #[k.val, .int .i64 m, a.val, x.val]) := rfl
  rw [hval]
  clear hval
  go_enter Tryz.func59, Tryz.ntmps59
  go_wp2_with fail
  refine reg_begin 11 (by kernel_rfl) ?_
  generalize hW : World.drew _ = W
  have c0 : W.cell? ⟨w.heap.size, 0, none⟩ = some k.val := by rw [← hW]; exact cell_drew (cell_new rfl)
  have c2 : W.cell? ⟨w.heap.size, 2, none⟩ = some a.val := by rw [← hW]; exact cell_drew (cell_new rfl)
  have c3 : W.cell? ⟨w.heap.size, 3, none⟩ = some x.val := by rw [← hW]; exact cell_drew (cell_new rfl)
  have hE : Ext w W := by rw [← hW]; exact (Ext.alloc _ _).trans (Ext.drew _)
  clear hW
  refine reg_quiet 0 rfl (by kernel_rfl) rfl ?_
  apply Exists.intro
  refine ⟨fun w' hw' => ?_, ?_⟩
  · go_simp
    exact ⟨rfl, Ext.refl _⟩
  refine reg_quiet 1 rfl (by kernel_rfl) rfl ?_
  apply Exists.intro
  refine ⟨fun w' hw' => ?_, ?_⟩
  · have hc := hw'.cell c3
    go_simp
    exact ⟨rfl, Ext.refl _⟩
  refine reg_quiet 2 rfl (by kernel_rfl) rfl ?_
  apply Exists.intro
  refine ⟨fun w' hw' => ?_, ?_⟩
  · go_simp
    exact ⟨rfl, Ext.refl _⟩
  refine reg_quiet 3 rfl (by kernel_rfl) rfl ?_
  apply Exists.intro
  refine ⟨fun w' hw' => ?_, ?_⟩
  · have hc := hw'.cell c2
    go_simp
    exact ⟨rfl, Ext.refl _⟩
  refine reg_quiet 4 rfl (by kernel_rfl) rfl ?_
  apply Exists.intro
  refine ⟨fun w' hw' => ?_, ?_⟩
  · go_simp
    exact ⟨rfl, Ext.refl _⟩
  refine reg_quiet 5 rfl (by kernel_rfl) rfl ?_
  apply Exists.intro
  refine ⟨fun w' hw' => ?_, ?_⟩
  · have hc := hw'.cell c0
    go_simp
    exact ⟨rfl, Ext.refl _⟩
  refine reg_quiet 6 rfl (by kernel_rfl) rfl ?_
  apply Exists.intro
  refine ⟨fun w' hw' => ?_, ?_⟩
  · go_simp
    exact ⟨rfl, Ext.refl _⟩
  refine reg_quiet 7 rfl (by kernel_rfl) rfl ?_
  apply Exists.intro
  refine ⟨fun w' hw' => ?_, ?_⟩
  · go_simp
    exact ihk (n + 1) w' (by omega) (by omega)
  have hb := szf_bd k (n + 1) (by omega) (by omega)
  refine reg_quiet 8 rfl (by kernel_rfl) rfl ?_
  apply Exists.intro
  refine ⟨fun w' hw' => ?_, ?_⟩
  · go_simp
    exact iha _ w' hb.1 hb.2
  have hb2 := szf_bd a _ hb.1 hb.2
  refine reg_quiet 9 rfl (by kernel_rfl) rfl ?_
  apply Exists.intro
  refine ⟨fun w' hw' => ?_, ?_⟩
  · go_simp
    exact ihx _ w' hb2.1 hb2.2
  refine reg_quiet 10 rfl (by kernel_rfl) rfl ?_
  apply Exists.intro
  refine ⟨fun w' hw' => ?_, ?_⟩
  · go_simp
    exact ⟨rfl, Ext.refl _⟩
  refine reg_done (by kernel_rfl) (fun w' hw' => ?_) _
  go_simp
  go_wp2
  go_ret
  exact ⟨by rw [H.out]; rfl, hE.trans hw'⟩

theorem size_any : ∀ t : Tm, SizeSaid t
  | .non => size_non
  | .atom m => size_atom m
  | .pub m => size_pub m
  | .shared m k => size_shared m k
  | .empty => size_empty
  | .chain i f x => size_chain i f x (size_any f) (size_any x)
  | .digest f x => size_digest f x (size_any f) (size_any x)
  | .box k m a x => size_box m k a x (size_any k) (size_any a) (size_any x)

theorem Size_any (t : Tm) (w : World) :
    Calls Tryz.prog 49 #[t.val] w fun e w' => e = .returned (.int .i64 (szf t 0)) ∧ Ext w w' := by
  go_enter Tryz.func49, Tryz.ntmps49
  go_wp2_with (go_at_call 59; refine (size_any t 0 _ (by omega) (by omega)).mono ?_; rintro e w' ⟨rfl, hE⟩)
  go_ret
  exact ⟨rfl, hE⟩

end Go.Proofs.YtjodmedgkmeklaaGreat

/-
  How many stand in a term.
-/
namespace Go.Proofs.YtjodmedgkmeklaaGreat
open Go Go.RowKit

def sz : Tm → Int
  | .non => 1
  | .atom _ => 1
  | .pub _ => 1
  | .shared _ _ => 1
  | .chain _ f w => 1 + sz f + sz w
  | .digest f w => 1 + sz f + sz w
  | .box k _ a t => 1 + sz k + sz a + sz t
  | .empty => 1

theorem sz_pos : ∀ t : Tm, 1 ≤ sz t
  | .non | .atom _ | .pub _ | .shared _ _ | .empty => by simp [sz]
  | .chain _ f w => by have := sz_pos f; have := sz_pos w; simp only [sz]; omega
  | .digest f w => by have := sz_pos f; have := sz_pos w; simp only [sz]; omega
  | .box k _ a t => by have := sz_pos k; have := sz_pos a; have := sz_pos t; simp only [sz]; omega

theorem szf_sz : ∀ (t : Tm) (n : Int), 0 ≤ n → n ≤ 10000 → szf t n = min (n + sz t) 10000
  | .non, n, h0, h1 => by simp only [szf, sz]; split <;> omega
  | .atom _, n, h0, h1 => by simp only [szf, sz]; split <;> omega
  | .pub _, n, h0, h1 => by simp only [szf, sz]; split <;> omega
  | .shared _ _, n, h0, h1 => by simp only [szf, sz]; split <;> omega
  | .empty, n, h0, h1 => by simp only [szf, sz]; split <;> omega
  | .chain _ f w, n, h0, h1 => by
    have := sz_pos f; have := sz_pos w
    simp only [szf, sz]; split
    · omega
    · rw [szf_sz f _ (by omega) (by omega), szf_sz w _ (by omega) (by omega)]; omega
  | .digest f w, n, h0, h1 => by
    have := sz_pos f; have := sz_pos w
    simp only [szf, sz]; split
    · omega
    · rw [szf_sz f _ (by omega) (by omega), szf_sz w _ (by omega) (by omega)]; omega
  | .box k _ a t, n, h0, h1 => by
    have := sz_pos k; have := sz_pos a; have := sz_pos t
    simp only [szf, sz]; split
    · omega
    · rw [szf_sz k _ (by omega) (by omega), szf_sz a _ (by omega) (by omega), szf_sz t _ (by omega) (by omega)]; omega

theorem szf_small {t : Tm} (h : sz t ≤ 10000) : szf t 0 = sz t := by
  have := sz_pos t
  rw [szf_sz t 0 (by omega) (by omega)]; omega

end Go.Proofs.YtjodmedgkmeklaaGreat
