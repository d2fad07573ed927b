/-
  Type assertions on terms, each by the kernel.
-/
import Derived.Test.YtiaghfgkhmlgmaaDoorTm
namespace Go.Proofs.YtiaghfgkhmlgmaaDoor
open Go Go.RowKit

theorem ta_Atom_Atom : ∀ v w, (Instr.typeAssert (.iface 27 v) 29 27 true).run Tryd.prog w = .ok (.tuple #[v, .bool true]) w := fun _ _ => by kernel_rfl
theorem ta_Public_Atom : ∀ v w, (Instr.typeAssert (.iface 23 v) 29 27 true).run Tryd.prog w = .ok (.tuple #[.agg #[.int .i64 0], .bool false]) w := fun _ _ => by kernel_rfl
theorem ta_Shared_Atom : ∀ v w, (Instr.typeAssert (.iface 46 v) 29 27 true).run Tryd.prog w = .ok (.tuple #[.agg #[.int .i64 0], .bool false]) w := fun _ _ => by kernel_rfl
theorem ta_Chain_Atom : ∀ v w, (Instr.typeAssert (.iface 33 v) 29 27 true).run Tryd.prog w = .ok (.tuple #[.agg #[.int .i64 0], .bool false]) w := fun _ _ => by kernel_rfl
theorem ta_Digest_Atom : ∀ v w, (Instr.typeAssert (.iface 39 v) 29 27 true).run Tryd.prog w = .ok (.tuple #[.agg #[.int .i64 0], .bool false]) w := fun _ _ => by kernel_rfl
theorem ta_Box_Atom : ∀ v w, (Instr.typeAssert (.iface 31 v) 29 27 true).run Tryd.prog w = .ok (.tuple #[.agg #[.int .i64 0], .bool false]) w := fun _ _ => by kernel_rfl
theorem ta_Empty_Atom : ∀ v w, (Instr.typeAssert (.iface 25 v) 29 27 true).run Tryd.prog w = .ok (.tuple #[.agg #[.int .i64 0], .bool false]) w := fun _ _ => by kernel_rfl
theorem ta_Nil_Atom : ∀ w, (Instr.typeAssert .nilIface 29 27 true).run Tryd.prog w = .ok (.tuple #[.agg #[.int .i64 0], .bool false]) w := fun _ => by kernel_rfl
theorem ta_Atom_Public : ∀ v w, (Instr.typeAssert (.iface 27 v) 29 23 true).run Tryd.prog w = .ok (.tuple #[.agg #[.int .i64 0], .bool false]) w := fun _ _ => by kernel_rfl
theorem ta_Public_Public : ∀ v w, (Instr.typeAssert (.iface 23 v) 29 23 true).run Tryd.prog w = .ok (.tuple #[v, .bool true]) w := fun _ _ => by kernel_rfl
theorem ta_Shared_Public : ∀ v w, (Instr.typeAssert (.iface 46 v) 29 23 true).run Tryd.prog w = .ok (.tuple #[.agg #[.int .i64 0], .bool false]) w := fun _ _ => by kernel_rfl
theorem ta_Chain_Public : ∀ v w, (Instr.typeAssert (.iface 33 v) 29 23 true).run Tryd.prog w = .ok (.tuple #[.agg #[.int .i64 0], .bool false]) w := fun _ _ => by kernel_rfl
theorem ta_Digest_Public : ∀ v w, (Instr.typeAssert (.iface 39 v) 29 23 true).run Tryd.prog w = .ok (.tuple #[.agg #[.int .i64 0], .bool false]) w := fun _ _ => by kernel_rfl
theorem ta_Box_Public : ∀ v w, (Instr.typeAssert (.iface 31 v) 29 23 true).run Tryd.prog w = .ok (.tuple #[.agg #[.int .i64 0], .bool false]) w := fun _ _ => by kernel_rfl
theorem ta_Empty_Public : ∀ v w, (Instr.typeAssert (.iface 25 v) 29 23 true).run Tryd.prog w = .ok (.tuple #[.agg #[.int .i64 0], .bool false]) w := fun _ _ => by kernel_rfl
theorem ta_Nil_Public : ∀ w, (Instr.typeAssert .nilIface 29 23 true).run Tryd.prog w = .ok (.tuple #[.agg #[.int .i64 0], .bool false]) w := fun _ => by kernel_rfl
theorem ta_Atom_Shared : ∀ v w, (Instr.typeAssert (.iface 27 v) 29 46 true).run Tryd.prog w = .ok (.tuple #[.agg #[.int .i64 0, .int .i64 0], .bool false]) w := fun _ _ => by kernel_rfl
theorem ta_Public_Shared : ∀ v w, (Instr.typeAssert (.iface 23 v) 29 46 true).run Tryd.prog w = .ok (.tuple #[.agg #[.int .i64 0, .int .i64 0], .bool false]) w := fun _ _ => by kernel_rfl
theorem ta_Shared_Shared : ∀ v w, (Instr.typeAssert (.iface 46 v) 29 46 true).run Tryd.prog w = .ok (.tuple #[v, .bool true]) w := fun _ _ => by kernel_rfl
theorem ta_Chain_Shared : ∀ v w, (Instr.typeAssert (.iface 33 v) 29 46 true).run Tryd.prog w = .ok (.tuple #[.agg #[.int .i64 0, .int .i64 0], .bool false]) w := fun _ _ => by kernel_rfl
theorem ta_Digest_Shared : ∀ v w, (Instr.typeAssert (.iface 39 v) 29 46 true).run Tryd.prog w = .ok (.tuple #[.agg #[.int .i64 0, .int .i64 0], .bool false]) w := fun _ _ => by kernel_rfl
theorem ta_Box_Shared : ∀ v w, (Instr.typeAssert (.iface 31 v) 29 46 true).run Tryd.prog w = .ok (.tuple #[.agg #[.int .i64 0, .int .i64 0], .bool false]) w := fun _ _ => by kernel_rfl
theorem ta_Empty_Shared : ∀ v w, (Instr.typeAssert (.iface 25 v) 29 46 true).run Tryd.prog w = .ok (.tuple #[.agg #[.int .i64 0, .int .i64 0], .bool false]) w := fun _ _ => by kernel_rfl
theorem ta_Nil_Shared : ∀ w, (Instr.typeAssert .nilIface 29 46 true).run Tryd.prog w = .ok (.tuple #[.agg #[.int .i64 0, .int .i64 0], .bool false]) w := fun _ => by kernel_rfl
theorem ta_Atom_Chain : ∀ v w, (Instr.typeAssert (.iface 27 v) 29 33 true).run Tryd.prog w = .ok (.tuple #[.agg #[.int .i64 0, .nilIface, .nilIface], .bool false]) w := fun _ _ => by kernel_rfl
theorem ta_Public_Chain : ∀ v w, (Instr.typeAssert (.iface 23 v) 29 33 true).run Tryd.prog w = .ok (.tuple #[.agg #[.int .i64 0, .nilIface, .nilIface], .bool false]) w := fun _ _ => by kernel_rfl
theorem ta_Shared_Chain : ∀ v w, (Instr.typeAssert (.iface 46 v) 29 33 true).run Tryd.prog w = .ok (.tuple #[.agg #[.int .i64 0, .nilIface, .nilIface], .bool false]) w := fun _ _ => by kernel_rfl
theorem ta_Chain_Chain : ∀ v w, (Instr.typeAssert (.iface 33 v) 29 33 true).run Tryd.prog w = .ok (.tuple #[v, .bool true]) w := fun _ _ => by kernel_rfl
theorem ta_Digest_Chain : ∀ v w, (Instr.typeAssert (.iface 39 v) 29 33 true).run Tryd.prog w = .ok (.tuple #[.agg #[.int .i64 0, .nilIface, .nilIface], .bool false]) w := fun _ _ => by kernel_rfl
theorem ta_Box_Chain : ∀ v w, (Instr.typeAssert (.iface 31 v) 29 33 true).run Tryd.prog w = .ok (.tuple #[.agg #[.int .i64 0, .nilIface, .nilIface], .bool false]) w := fun _ _ => by kernel_rfl
theorem ta_Empty_Chain : ∀ v w, (Instr.typeAssert (.iface 25 v) 29 33 true).run Tryd.prog w = .ok (.tuple #[.agg #[.int .i64 0, .nilIface, .nilIface], .bool false]) w := fun _ _ => by kernel_rfl
theorem ta_Nil_Chain : ∀ w, (Instr.typeAssert .nilIface 29 33 true).run Tryd.prog w = .ok (.tuple #[.agg #[.int .i64 0, .nilIface, .nilIface], .bool false]) w := fun _ => by kernel_rfl
theorem ta_Atom_Digest : ∀ v w, (Instr.typeAssert (.iface 27 v) 29 39 true).run Tryd.prog w = .ok (.tuple #[.agg #[.nilIface, .nilIface], .bool false]) w := fun _ _ => by kernel_rfl
theorem ta_Public_Digest : ∀ v w, (Instr.typeAssert (.iface 23 v) 29 39 true).run Tryd.prog w = .ok (.tuple #[.agg #[.nilIface, .nilIface], .bool false]) w := fun _ _ => by kernel_rfl
theorem ta_Shared_Digest : ∀ v w, (Instr.typeAssert (.iface 46 v) 29 39 true).run Tryd.prog w = .ok (.tuple #[.agg #[.nilIface, .nilIface], .bool false]) w := fun _ _ => by kernel_rfl
theorem ta_Chain_Digest : ∀ v w, (Instr.typeAssert (.iface 33 v) 29 39 true).run Tryd.prog w = .ok (.tuple #[.agg #[.nilIface, .nilIface], .bool false]) w := fun _ _ => by kernel_rfl
theorem ta_Digest_Digest : ∀ v w, (Instr.typeAssert (.iface 39 v) 29 39 true).run Tryd.prog w = .ok (.tuple #[v, .bool true]) w := fun _ _ => by kernel_rfl
theorem ta_Box_Digest : ∀ v w, (Instr.typeAssert (.iface 31 v) 29 39 true).run Tryd.prog w = .ok (.tuple #[.agg #[.nilIface, .nilIface], .bool false]) w := fun _ _ => by kernel_rfl
theorem ta_Empty_Digest : ∀ v w, (Instr.typeAssert (.iface 25 v) 29 39 true).run Tryd.prog w = .ok (.tuple #[.agg #[.nilIface, .nilIface], .bool false]) w := fun _ _ => by kernel_rfl
theorem ta_Nil_Digest : ∀ w, (Instr.typeAssert .nilIface 29 39 true).run Tryd.prog w = .ok (.tuple #[.agg #[.nilIface, .nilIface], .bool false]) w := fun _ => by kernel_rfl
theorem ta_Atom_Box : ∀ v w, (Instr.typeAssert (.iface 27 v) 29 31 true).run Tryd.prog w = .ok (.tuple #[.agg #[.nilIface, .int .i64 0, .nilIface, .nilIface], .bool false]) w := fun _ _ => by kernel_rfl
theorem ta_Public_Box : ∀ v w, (Instr.typeAssert (.iface 23 v) 29 31 true).run Tryd.prog w = .ok (.tuple #[.agg #[.nilIface, .int .i64 0, .nilIface, .nilIface], .bool false]) w := fun _ _ => by kernel_rfl
theorem ta_Shared_Box : ∀ v w, (Instr.typeAssert (.iface 46 v) 29 31 true).run Tryd.prog w = .ok (.tuple #[.agg #[.nilIface, .int .i64 0, .nilIface, .nilIface], .bool false]) w := fun _ _ => by kernel_rfl
theorem ta_Chain_Box : ∀ v w, (Instr.typeAssert (.iface 33 v) 29 31 true).run Tryd.prog w = .ok (.tuple #[.agg #[.nilIface, .int .i64 0, .nilIface, .nilIface], .bool false]) w := fun _ _ => by kernel_rfl
theorem ta_Digest_Box : ∀ v w, (Instr.typeAssert (.iface 39 v) 29 31 true).run Tryd.prog w = .ok (.tuple #[.agg #[.nilIface, .int .i64 0, .nilIface, .nilIface], .bool false]) w := fun _ _ => by kernel_rfl
theorem ta_Box_Box : ∀ v w, (Instr.typeAssert (.iface 31 v) 29 31 true).run Tryd.prog w = .ok (.tuple #[v, .bool true]) w := fun _ _ => by kernel_rfl
theorem ta_Empty_Box : ∀ v w, (Instr.typeAssert (.iface 25 v) 29 31 true).run Tryd.prog w = .ok (.tuple #[.agg #[.nilIface, .int .i64 0, .nilIface, .nilIface], .bool false]) w := fun _ _ => by kernel_rfl
theorem ta_Nil_Box : ∀ w, (Instr.typeAssert .nilIface 29 31 true).run Tryd.prog w = .ok (.tuple #[.agg #[.nilIface, .int .i64 0, .nilIface, .nilIface], .bool false]) w := fun _ => by kernel_rfl
theorem ta_Atom_Empty : ∀ v w, (Instr.typeAssert (.iface 27 v) 29 25 true).run Tryd.prog w = .ok (.tuple #[.agg #[], .bool false]) w := fun _ _ => by kernel_rfl
theorem ta_Public_Empty : ∀ v w, (Instr.typeAssert (.iface 23 v) 29 25 true).run Tryd.prog w = .ok (.tuple #[.agg #[], .bool false]) w := fun _ _ => by kernel_rfl
theorem ta_Shared_Empty : ∀ v w, (Instr.typeAssert (.iface 46 v) 29 25 true).run Tryd.prog w = .ok (.tuple #[.agg #[], .bool false]) w := fun _ _ => by kernel_rfl
theorem ta_Chain_Empty : ∀ v w, (Instr.typeAssert (.iface 33 v) 29 25 true).run Tryd.prog w = .ok (.tuple #[.agg #[], .bool false]) w := fun _ _ => by kernel_rfl
theorem ta_Digest_Empty : ∀ v w, (Instr.typeAssert (.iface 39 v) 29 25 true).run Tryd.prog w = .ok (.tuple #[.agg #[], .bool false]) w := fun _ _ => by kernel_rfl
theorem ta_Box_Empty : ∀ v w, (Instr.typeAssert (.iface 31 v) 29 25 true).run Tryd.prog w = .ok (.tuple #[.agg #[], .bool false]) w := fun _ _ => by kernel_rfl
theorem ta_Empty_Empty : ∀ v w, (Instr.typeAssert (.iface 25 v) 29 25 true).run Tryd.prog w = .ok (.tuple #[v, .bool true]) w := fun _ _ => by kernel_rfl
theorem ta_Nil_Empty : ∀ w, (Instr.typeAssert .nilIface 29 25 true).run Tryd.prog w = .ok (.tuple #[.agg #[], .bool false]) w := fun _ => by kernel_rfl

/-- The method of each kind. -/
theorem meth_Atom : ∀ v w, (method 199 27 v "Name").run Tryd.prog w = .ok (56, v) w := fun _ _ => by kernel_rfl
theorem meth_Public : ∀ v w, (method 199 23 v "Name").run Tryd.prog w = .ok (54, v) w := fun _ _ => by kernel_rfl
theorem meth_Shared : ∀ v w, (method 199 46 v "Name").run Tryd.prog w = .ok (57, v) w := fun _ _ => by kernel_rfl
theorem meth_Chain : ∀ v w, (method 199 33 v "Name").run Tryd.prog w = .ok (7, v) w := fun _ _ => by kernel_rfl
theorem meth_Digest : ∀ v w, (method 199 39 v "Name").run Tryd.prog w = .ok (8, v) w := fun _ _ => by kernel_rfl
theorem meth_Box : ∀ v w, (method 199 31 v "Name").run Tryd.prog w = .ok (6, v) w := fun _ _ => by kernel_rfl
theorem meth_Empty : ∀ v w, (method 199 25 v "Name").run Tryd.prog w = .ok (55, v) w := fun _ _ => by kernel_rfl
/-- Strings are joined. -/
theorem ext_add {a : Act} {dst : Option Tmp} {ty ty1 ty2 : TypeId} {pos : String} {after : Array Edge} {g : Option (Nat × Bool)} {x y : Operand} {s t : ByteArray} (w : World) (hx : a.eval x = .string s) (hy : a.eval y = .string t) (hs : s.size + t.size ≤ 9223372036854775807) :
    extUpon Tryd.prog w (.string (s ++ t)) ((execOp a.eval ⟨dst, .binOp .add ty1 x y ty2, ty, pos, after, g⟩).run Tryd.prog w) := by
  have hn : ¬ 9223372036854775807 < s.size + t.size := by omega
  simp only [execOp, hx, hy]
  simp [go_sem, extUpon, hn, Ext.refl]
theorem reg_add {E fuel : Nat} {l tl : List Oper} {dst : Option Tmp} {ty ty1 ty2 : TypeId} {pos : String} {after : Array Edge} {x y : Operand} {listed : Array Bool} {a : Act} {w : World} {md : Region.Mode} {Q : Exit → Act → World → Prop} (i : Nat) (s t : ByteArray)
    (hi : l.drop i = ⟨dst, .binOp .add ty1 x y ty2, ty, pos, after, none⟩ :: tl) (hB : takeB md l.toArray E listed i = true) (hs : s.size + t.size ≤ 9223372036854775807) (hx : a.eval x = .string s) (hy : a.eval y = .string t)
    (h : wpAnyU Tryd.prog md l.toArray (calm Q) E fuel (listed.setIfInBounds i true) (a.put dst (.string (s ++ t))) w) : wpAnyU Tryd.prog md l.toArray (calm Q) E (fuel + 1) listed a w :=
  reg_quiet i hi hB rfl ⟨_, fun w' _ => ext_add w' hx hy hs, h⟩
theorem reg_adds {E fuel : Nat} {l tl : List Oper} {dst : Option Tmp} {ty ty1 ty2 : TypeId} {pos : String} {after : Array Edge} {x y : Operand} {listed : Array Bool} {a : Act} {w : World} {md : Region.Mode} {Q : Exit → Act → World → Prop} (i : Nat) (s t : List UInt8)
    (hi : l.drop i = ⟨dst, .binOp .add ty1 x y ty2, ty, pos, after, none⟩ :: tl) (hB : takeB md l.toArray E listed i = true) (hs : s.length + t.length ≤ 9223372036854775807) (hx : a.eval x = str s) (hy : a.eval y = str t)
    (h : wpAnyU Tryd.prog md l.toArray (calm Q) E fuel (listed.setIfInBounds i true) (a.put dst (str (s ++ t))) w) : wpAnyU Tryd.prog md l.toArray (calm Q) E (fuel + 1) listed a w := by
  refine reg_add i ⟨s.toArray⟩ ⟨t.toArray⟩ hi hB (by simpa [ByteArray.size] using hs) hx hy ?_
  rwa [ByteArray.mk_append_mk]
theorem Tm.val_form (t : Tm) : t.val = .nilIface ∨ ∃ u x, t.val = .iface u x := by
  cases t <;> first | exact .inl rfl | exact .inr ⟨_, _, rfl⟩

theorem run_build_chain (i : Int) (f x : Tm) (w : World) : (Instr.build 33 #[(0, .int .i64 i), (1, f.val), (2, x.val)]).run Tryd.prog w = .ok (.agg #[.int .i64 i, f.val, x.val]) w := by
  rcases f.val_form with h | ⟨_, _, h⟩ <;> rcases x.val_form with h' | ⟨_, _, h'⟩ <;> rw [h, h'] <;> kernel_rfl
theorem run_build_digest (f x : Tm) (w : World) : (Instr.build 39 #[(0, f.val), (1, x.val)]).run Tryd.prog w = .ok (.agg #[f.val, x.val]) w := by
  rcases f.val_form with h | ⟨_, _, h⟩ <;> rcases x.val_form with h' | ⟨_, _, h'⟩ <;> rw [h, h'] <;> kernel_rfl
theorem run_build_box (k : Tm) (n : Int) (f x : Tm) (w : World) : (Instr.build 31 #[(0, k.val), (1, .int .i64 n), (2, f.val), (3, x.val)]).run Tryd.prog w = .ok (.agg #[k.val, .int .i64 n, f.val, x.val]) w := by
  rcases k.val_form with hk | ⟨_, _, hk⟩ <;> rcases f.val_form with h | ⟨_, _, h⟩ <;> rcases x.val_form with h' | ⟨_, _, h'⟩ <;> rw [hk, h, h'] <;> kernel_rfl

theorem run_bs2 (f x : Tm) (w : World) : (Instr.buildSlice 52 2 #[(0, f.val), (1, x.val)]).run Tryd.prog w = .ok (.slice (some ⟨w.heap.size, 0, none⟩) 2 2) (w.alloc (.cells #[f.val, x.val] 29)) := by
  rcases f.val_form with h | ⟨_, _, h⟩ <;> rcases x.val_form with h' | ⟨_, _, h'⟩ <;> rw [h, h'] <;> kernel_rfl
theorem run_bs3 (k f x : Tm) (w : World) : (Instr.buildSlice 52 3 #[(0, k.val), (1, f.val), (2, x.val)]).run Tryd.prog w = .ok (.slice (some ⟨w.heap.size, 0, none⟩) 3 3) (w.alloc (.cells #[k.val, f.val, x.val] 29)) := by
  rcases k.val_form with hk | ⟨_, _, hk⟩ <;> rcases f.val_form with h | ⟨_, _, h⟩ <;> rcases x.val_form with h' | ⟨_, _, h'⟩ <;> rw [hk, h, h'] <;> kernel_rfl

/-- A slice is built. -/
theorem wp_bs {o : Oper} {a : Act} {w w1 : World} {K : Act → World → Prop} {Q : Exit → Act → World → Prop} {t : TypeId} {n : Nat} {parts : Array (Nat × Operand)} {L : List (Nat × Value)} {v : Value} (ho : o.op = .buildSlice t n parts)
    (hp : parts.toList.map (fun x => (x.1, a.eval x.2)) = L) (h : (Instr.buildSlice t n L.toArray).run Tryd.prog w = .ok v w1) (hk : K (a.put o.dst v) w1) : o.wp Tryd.prog a w K Q := by
  have hm : L.toArray = parts.map fun (i, x) => (i, a.eval x) := by
    rw [← hp, ← Array.toList_map]
  rw [hm] at h
  have he : (execOp a.eval o).run Tryd.prog w = .ok (.value v) w1 := by
    simp only [execOp, ho]
    rw [Sem.run_bind, h]
    rfl
  unfold Oper.wp
  rw [he]
  exact hk
theorem wpl_bs {ops : Array Oper} {rest : List Oper} {o : Oper} {a : Act} {w : World} {Q : Exit → Act → World → Prop}
    (h : o.guard = none ∧ ∃ t n parts L v w1, o.op = .buildSlice t n parts ∧ parts.toList.map (fun x => (x.1, a.eval x.2)) = L ∧ (Instr.buildSlice t n L.toArray).run Tryd.prog w = .ok v w1 ∧ wpList Tryd.prog ops Q rest (a.put o.dst v) w1) : wpList Tryd.prog ops Q (o :: rest) a w :=
  let ⟨hg, _, _, _, _, _, _, ho, hp, hr, hk⟩ := h
  wpList_plain hg fun _ hK => wp_bs ho hp hr (hK _ _ hk)

end Go.Proofs.YtiaghfgkhmlgmaaDoor
