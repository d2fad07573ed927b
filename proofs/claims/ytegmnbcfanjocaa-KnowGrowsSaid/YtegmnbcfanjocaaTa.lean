/-
  Type assertions on terms, each by the kernel.
-/
import Derived.Test.YtegmnbcfanjocaaTm
namespace Go.Proofs.Ytegmnbcfanjocaa
open Go Go.RowKit

theorem ta_Atom_Atom : ∀ v w, (Instr.typeAssert (.iface 37 v) 32 37 true).run Try.prog w = .ok (.tuple #[v, .bool true]) w := fun _ _ => by kernel_rfl
theorem ta_Public_Atom : ∀ v w, (Instr.typeAssert (.iface 58 v) 32 37 true).run Try.prog w = .ok (.tuple #[.agg #[.int .i64 0], .bool false]) w := fun _ _ => by kernel_rfl
theorem ta_Shared_Atom : ∀ v w, (Instr.typeAssert (.iface 61 v) 32 37 true).run Try.prog w = .ok (.tuple #[.agg #[.int .i64 0], .bool false]) w := fun _ _ => by kernel_rfl
theorem ta_Chain_Atom : ∀ v w, (Instr.typeAssert (.iface 41 v) 32 37 true).run Try.prog w = .ok (.tuple #[.agg #[.int .i64 0], .bool false]) w := fun _ _ => by kernel_rfl
theorem ta_Digest_Atom : ∀ v w, (Instr.typeAssert (.iface 35 v) 32 37 true).run Try.prog w = .ok (.tuple #[.agg #[.int .i64 0], .bool false]) w := fun _ _ => by kernel_rfl
theorem ta_Box_Atom : ∀ v w, (Instr.typeAssert (.iface 39 v) 32 37 true).run Try.prog w = .ok (.tuple #[.agg #[.int .i64 0], .bool false]) w := fun _ _ => by kernel_rfl
theorem ta_Empty_Atom : ∀ v w, (Instr.typeAssert (.iface 44 v) 32 37 true).run Try.prog w = .ok (.tuple #[.agg #[.int .i64 0], .bool false]) w := fun _ _ => by kernel_rfl
theorem ta_Nil_Atom : ∀ w, (Instr.typeAssert .nilIface 32 37 true).run Try.prog w = .ok (.tuple #[.agg #[.int .i64 0], .bool false]) w := fun _ => by kernel_rfl
theorem ta_Atom_Public : ∀ v w, (Instr.typeAssert (.iface 37 v) 32 58 true).run Try.prog w = .ok (.tuple #[.agg #[.int .i64 0], .bool false]) w := fun _ _ => by kernel_rfl
theorem ta_Public_Public : ∀ v w, (Instr.typeAssert (.iface 58 v) 32 58 true).run Try.prog w = .ok (.tuple #[v, .bool true]) w := fun _ _ => by kernel_rfl
theorem ta_Shared_Public : ∀ v w, (Instr.typeAssert (.iface 61 v) 32 58 true).run Try.prog w = .ok (.tuple #[.agg #[.int .i64 0], .bool false]) w := fun _ _ => by kernel_rfl
theorem ta_Chain_Public : ∀ v w, (Instr.typeAssert (.iface 41 v) 32 58 true).run Try.prog w = .ok (.tuple #[.agg #[.int .i64 0], .bool false]) w := fun _ _ => by kernel_rfl
theorem ta_Digest_Public : ∀ v w, (Instr.typeAssert (.iface 35 v) 32 58 true).run Try.prog w = .ok (.tuple #[.agg #[.int .i64 0], .bool false]) w := fun _ _ => by kernel_rfl
theorem ta_Box_Public : ∀ v w, (Instr.typeAssert (.iface 39 v) 32 58 true).run Try.prog w = .ok (.tuple #[.agg #[.int .i64 0], .bool false]) w := fun _ _ => by kernel_rfl
theorem ta_Empty_Public : ∀ v w, (Instr.typeAssert (.iface 44 v) 32 58 true).run Try.prog w = .ok (.tuple #[.agg #[.int .i64 0], .bool false]) w := fun _ _ => by kernel_rfl
theorem ta_Nil_Public : ∀ w, (Instr.typeAssert .nilIface 32 58 true).run Try.prog w = .ok (.tuple #[.agg #[.int .i64 0], .bool false]) w := fun _ => by kernel_rfl
theorem ta_Atom_Shared : ∀ v w, (Instr.typeAssert (.iface 37 v) 32 61 true).run Try.prog w = .ok (.tuple #[.agg #[.int .i64 0, .int .i64 0], .bool false]) w := fun _ _ => by kernel_rfl
theorem ta_Public_Shared : ∀ v w, (Instr.typeAssert (.iface 58 v) 32 61 true).run Try.prog w = .ok (.tuple #[.agg #[.int .i64 0, .int .i64 0], .bool false]) w := fun _ _ => by kernel_rfl
theorem ta_Shared_Shared : ∀ v w, (Instr.typeAssert (.iface 61 v) 32 61 true).run Try.prog w = .ok (.tuple #[v, .bool true]) w := fun _ _ => by kernel_rfl
theorem ta_Chain_Shared : ∀ v w, (Instr.typeAssert (.iface 41 v) 32 61 true).run Try.prog w = .ok (.tuple #[.agg #[.int .i64 0, .int .i64 0], .bool false]) w := fun _ _ => by kernel_rfl
theorem ta_Digest_Shared : ∀ v w, (Instr.typeAssert (.iface 35 v) 32 61 true).run Try.prog w = .ok (.tuple #[.agg #[.int .i64 0, .int .i64 0], .bool false]) w := fun _ _ => by kernel_rfl
theorem ta_Box_Shared : ∀ v w, (Instr.typeAssert (.iface 39 v) 32 61 true).run Try.prog w = .ok (.tuple #[.agg #[.int .i64 0, .int .i64 0], .bool false]) w := fun _ _ => by kernel_rfl
theorem ta_Empty_Shared : ∀ v w, (Instr.typeAssert (.iface 44 v) 32 61 true).run Try.prog w = .ok (.tuple #[.agg #[.int .i64 0, .int .i64 0], .bool false]) w := fun _ _ => by kernel_rfl
theorem ta_Nil_Shared : ∀ w, (Instr.typeAssert .nilIface 32 61 true).run Try.prog w = .ok (.tuple #[.agg #[.int .i64 0, .int .i64 0], .bool false]) w := fun _ => by kernel_rfl
theorem ta_Atom_Chain : ∀ v w, (Instr.typeAssert (.iface 37 v) 32 41 true).run Try.prog w = .ok (.tuple #[.agg #[.int .i64 0, .nilIface, .nilIface], .bool false]) w := fun _ _ => by kernel_rfl
theorem ta_Public_Chain : ∀ v w, (Instr.typeAssert (.iface 58 v) 32 41 true).run Try.prog w = .ok (.tuple #[.agg #[.int .i64 0, .nilIface, .nilIface], .bool false]) w := fun _ _ => by kernel_rfl
theorem ta_Shared_Chain : ∀ v w, (Instr.typeAssert (.iface 61 v) 32 41 true).run Try.prog w = .ok (.tuple #[.agg #[.int .i64 0, .nilIface, .nilIface], .bool false]) w := fun _ _ => by kernel_rfl
theorem ta_Chain_Chain : ∀ v w, (Instr.typeAssert (.iface 41 v) 32 41 true).run Try.prog w = .ok (.tuple #[v, .bool true]) w := fun _ _ => by kernel_rfl
theorem ta_Digest_Chain : ∀ v w, (Instr.typeAssert (.iface 35 v) 32 41 true).run Try.prog w = .ok (.tuple #[.agg #[.int .i64 0, .nilIface, .nilIface], .bool false]) w := fun _ _ => by kernel_rfl
theorem ta_Box_Chain : ∀ v w, (Instr.typeAssert (.iface 39 v) 32 41 true).run Try.prog w = .ok (.tuple #[.agg #[.int .i64 0, .nilIface, .nilIface], .bool false]) w := fun _ _ => by kernel_rfl
theorem ta_Empty_Chain : ∀ v w, (Instr.typeAssert (.iface 44 v) 32 41 true).run Try.prog w = .ok (.tuple #[.agg #[.int .i64 0, .nilIface, .nilIface], .bool false]) w := fun _ _ => by kernel_rfl
theorem ta_Nil_Chain : ∀ w, (Instr.typeAssert .nilIface 32 41 true).run Try.prog w = .ok (.tuple #[.agg #[.int .i64 0, .nilIface, .nilIface], .bool false]) w := fun _ => by kernel_rfl
theorem ta_Atom_Digest : ∀ v w, (Instr.typeAssert (.iface 37 v) 32 35 true).run Try.prog w = .ok (.tuple #[.agg #[.nilIface, .nilIface], .bool false]) w := fun _ _ => by kernel_rfl
theorem ta_Public_Digest : ∀ v w, (Instr.typeAssert (.iface 58 v) 32 35 true).run Try.prog w = .ok (.tuple #[.agg #[.nilIface, .nilIface], .bool false]) w := fun _ _ => by kernel_rfl
theorem ta_Shared_Digest : ∀ v w, (Instr.typeAssert (.iface 61 v) 32 35 true).run Try.prog w = .ok (.tuple #[.agg #[.nilIface, .nilIface], .bool false]) w := fun _ _ => by kernel_rfl
theorem ta_Chain_Digest : ∀ v w, (Instr.typeAssert (.iface 41 v) 32 35 true).run Try.prog w = .ok (.tuple #[.agg #[.nilIface, .nilIface], .bool false]) w := fun _ _ => by kernel_rfl
theorem ta_Digest_Digest : ∀ v w, (Instr.typeAssert (.iface 35 v) 32 35 true).run Try.prog w = .ok (.tuple #[v, .bool true]) w := fun _ _ => by kernel_rfl
theorem ta_Box_Digest : ∀ v w, (Instr.typeAssert (.iface 39 v) 32 35 true).run Try.prog w = .ok (.tuple #[.agg #[.nilIface, .nilIface], .bool false]) w := fun _ _ => by kernel_rfl
theorem ta_Empty_Digest : ∀ v w, (Instr.typeAssert (.iface 44 v) 32 35 true).run Try.prog w = .ok (.tuple #[.agg #[.nilIface, .nilIface], .bool false]) w := fun _ _ => by kernel_rfl
theorem ta_Nil_Digest : ∀ w, (Instr.typeAssert .nilIface 32 35 true).run Try.prog w = .ok (.tuple #[.agg #[.nilIface, .nilIface], .bool false]) w := fun _ => by kernel_rfl
theorem ta_Atom_Box : ∀ v w, (Instr.typeAssert (.iface 37 v) 32 39 true).run Try.prog w = .ok (.tuple #[.agg #[.nilIface, .int .i64 0, .nilIface, .nilIface], .bool false]) w := fun _ _ => by kernel_rfl
theorem ta_Public_Box : ∀ v w, (Instr.typeAssert (.iface 58 v) 32 39 true).run Try.prog w = .ok (.tuple #[.agg #[.nilIface, .int .i64 0, .nilIface, .nilIface], .bool false]) w := fun _ _ => by kernel_rfl
theorem ta_Shared_Box : ∀ v w, (Instr.typeAssert (.iface 61 v) 32 39 true).run Try.prog w = .ok (.tuple #[.agg #[.nilIface, .int .i64 0, .nilIface, .nilIface], .bool false]) w := fun _ _ => by kernel_rfl
theorem ta_Chain_Box : ∀ v w, (Instr.typeAssert (.iface 41 v) 32 39 true).run Try.prog w = .ok (.tuple #[.agg #[.nilIface, .int .i64 0, .nilIface, .nilIface], .bool false]) w := fun _ _ => by kernel_rfl
theorem ta_Digest_Box : ∀ v w, (Instr.typeAssert (.iface 35 v) 32 39 true).run Try.prog w = .ok (.tuple #[.agg #[.nilIface, .int .i64 0, .nilIface, .nilIface], .bool false]) w := fun _ _ => by kernel_rfl
theorem ta_Box_Box : ∀ v w, (Instr.typeAssert (.iface 39 v) 32 39 true).run Try.prog w = .ok (.tuple #[v, .bool true]) w := fun _ _ => by kernel_rfl
theorem ta_Empty_Box : ∀ v w, (Instr.typeAssert (.iface 44 v) 32 39 true).run Try.prog w = .ok (.tuple #[.agg #[.nilIface, .int .i64 0, .nilIface, .nilIface], .bool false]) w := fun _ _ => by kernel_rfl
theorem ta_Nil_Box : ∀ w, (Instr.typeAssert .nilIface 32 39 true).run Try.prog w = .ok (.tuple #[.agg #[.nilIface, .int .i64 0, .nilIface, .nilIface], .bool false]) w := fun _ => by kernel_rfl
theorem ta_Atom_Empty : ∀ v w, (Instr.typeAssert (.iface 37 v) 32 44 true).run Try.prog w = .ok (.tuple #[.agg #[], .bool false]) w := fun _ _ => by kernel_rfl
theorem ta_Public_Empty : ∀ v w, (Instr.typeAssert (.iface 58 v) 32 44 true).run Try.prog w = .ok (.tuple #[.agg #[], .bool false]) w := fun _ _ => by kernel_rfl
theorem ta_Shared_Empty : ∀ v w, (Instr.typeAssert (.iface 61 v) 32 44 true).run Try.prog w = .ok (.tuple #[.agg #[], .bool false]) w := fun _ _ => by kernel_rfl
theorem ta_Chain_Empty : ∀ v w, (Instr.typeAssert (.iface 41 v) 32 44 true).run Try.prog w = .ok (.tuple #[.agg #[], .bool false]) w := fun _ _ => by kernel_rfl
theorem ta_Digest_Empty : ∀ v w, (Instr.typeAssert (.iface 35 v) 32 44 true).run Try.prog w = .ok (.tuple #[.agg #[], .bool false]) w := fun _ _ => by kernel_rfl
theorem ta_Box_Empty : ∀ v w, (Instr.typeAssert (.iface 39 v) 32 44 true).run Try.prog w = .ok (.tuple #[.agg #[], .bool false]) w := fun _ _ => by kernel_rfl
theorem ta_Empty_Empty : ∀ v w, (Instr.typeAssert (.iface 44 v) 32 44 true).run Try.prog w = .ok (.tuple #[v, .bool true]) w := fun _ _ => by kernel_rfl
theorem ta_Nil_Empty : ∀ w, (Instr.typeAssert .nilIface 32 44 true).run Try.prog w = .ok (.tuple #[.agg #[], .bool false]) w := fun _ => by kernel_rfl

/-- The method of each kind. -/
theorem meth_Atom : ∀ v w, (method 254 37 v "Name").run Try.prog w = .ok (89, v) w := fun _ _ => by kernel_rfl
theorem meth_Public : ∀ v w, (method 254 58 v "Name").run Try.prog w = .ok (106, v) w := fun _ _ => by kernel_rfl
theorem meth_Shared : ∀ v w, (method 254 61 v "Name").run Try.prog w = .ok (107, v) w := fun _ _ => by kernel_rfl
theorem meth_Chain : ∀ v w, (method 254 41 v "Name").run Try.prog w = .ok (104, v) w := fun _ _ => by kernel_rfl
theorem meth_Digest : ∀ v w, (method 254 35 v "Name").run Try.prog w = .ok (78, v) w := fun _ _ => by kernel_rfl
theorem meth_Box : ∀ v w, (method 254 39 v "Name").run Try.prog w = .ok (103, v) w := fun _ _ => by kernel_rfl
theorem meth_Empty : ∀ v w, (method 254 44 v "Name").run Try.prog w = .ok (105, v) w := fun _ _ => by kernel_rfl
/-- Strings are joined. -/
theorem ext_add {a : Act} {dst : Option Tmp} {ty ty1 ty2 : TypeId} {pos : String} {after : Array Edge} {g : Option (Nat × Bool)} {x y : Operand} {s t : ByteArray} (w : World) (hx : a.eval x = .string s) (hy : a.eval y = .string t) (hs : s.size + t.size ≤ 9223372036854775807) :
    extUpon Try.prog w (.string (s ++ t)) ((execOp a.eval ⟨dst, .binOp .add ty1 x y ty2, ty, pos, after, g⟩).run Try.prog w) := by
  have hn : ¬ 9223372036854775807 < s.size + t.size := by omega
  simp only [execOp, hx, hy]
  simp [go_sem, extUpon, hn, Ext.refl]
theorem reg_add {E fuel : Nat} {l tl : List Oper} {dst : Option Tmp} {ty ty1 ty2 : TypeId} {pos : String} {after : Array Edge} {x y : Operand} {listed : Array Bool} {a : Act} {w : World} {md : Region.Mode} {Q : Exit → Act → World → Prop} (i : Nat) (s t : ByteArray)
    (hi : l.drop i = ⟨dst, .binOp .add ty1 x y ty2, ty, pos, after, none⟩ :: tl) (hB : takeB md l.toArray E listed i = true) (hs : s.size + t.size ≤ 9223372036854775807) (hx : a.eval x = .string s) (hy : a.eval y = .string t)
    (h : wpAnyU Try.prog md l.toArray (calm Q) E fuel (listed.setIfInBounds i true) (a.put dst (.string (s ++ t))) w) : wpAnyU Try.prog md l.toArray (calm Q) E (fuel + 1) listed a w :=
  reg_quiet i hi hB rfl ⟨_, fun w' _ => ext_add w' hx hy hs, h⟩
theorem reg_adds {E fuel : Nat} {l tl : List Oper} {dst : Option Tmp} {ty ty1 ty2 : TypeId} {pos : String} {after : Array Edge} {x y : Operand} {listed : Array Bool} {a : Act} {w : World} {md : Region.Mode} {Q : Exit → Act → World → Prop} (i : Nat) (s t : List UInt8)
    (hi : l.drop i = ⟨dst, .binOp .add ty1 x y ty2, ty, pos, after, none⟩ :: tl) (hB : takeB md l.toArray E listed i = true) (hs : s.length + t.length ≤ 9223372036854775807) (hx : a.eval x = str s) (hy : a.eval y = str t)
    (h : wpAnyU Try.prog md l.toArray (calm Q) E fuel (listed.setIfInBounds i true) (a.put dst (str (s ++ t))) w) : wpAnyU Try.prog md l.toArray (calm Q) E (fuel + 1) listed a w := by
  refine reg_add i ⟨s.toArray⟩ ⟨t.toArray⟩ hi hB (by simpa [ByteArray.size] using hs) hx hy ?_
  rwa [ByteArray.mk_append_mk]
theorem Tm.val_form (t : Tm) : t.val = .nilIface ∨ ∃ u x, t.val = .iface u x := by
  cases t <;> first | exact .inl rfl | exact .inr ⟨_, _, rfl⟩

theorem run_build_chain (i : Int) (f x : Tm) (w : World) : (Instr.build 41 #[(0, .int .i64 i), (1, f.val), (2, x.val)]).run Try.prog w = .ok (.agg #[.int .i64 i, f.val, x.val]) w := by
  rcases f.val_form with h | ⟨_, _, h⟩ <;> rcases x.val_form with h' | ⟨_, _, h'⟩ <;> rw [h, h'] <;> kernel_rfl
theorem run_build_digest (f x : Tm) (w : World) : (Instr.build 35 #[(0, f.val), (1, x.val)]).run Try.prog w = .ok (.agg #[f.val, x.val]) w := by
  rcases f.val_form with h | ⟨_, _, h⟩ <;> rcases x.val_form with h' | ⟨_, _, h'⟩ <;> rw [h, h'] <;> kernel_rfl
theorem run_build_box (k : Tm) (n : Int) (f x : Tm) (w : World) : (Instr.build 39 #[(0, k.val), (1, .int .i64 n), (2, f.val), (3, x.val)]).run Try.prog w = .ok (.agg #[k.val, .int .i64 n, f.val, x.val]) w := by
  rcases k.val_form with hk | ⟨_, _, hk⟩ <;> rcases f.val_form with h | ⟨_, _, h⟩ <;> rcases x.val_form with h' | ⟨_, _, h'⟩ <;> rw [hk, h, h'] <;> kernel_rfl

theorem run_bs2 (f x : Tm) (w : World) : (Instr.buildSlice 24 2 #[(0, f.val), (1, x.val)]).run Try.prog w = .ok (.slice (some ⟨w.heap.size, 0, none⟩) 2 2) (w.alloc (.cells #[f.val, x.val] 32)) := by
  rcases f.val_form with h | ⟨_, _, h⟩ <;> rcases x.val_form with h' | ⟨_, _, h'⟩ <;> rw [h, h'] <;> kernel_rfl
theorem run_bs3 (k f x : Tm) (w : World) : (Instr.buildSlice 24 3 #[(0, k.val), (1, f.val), (2, x.val)]).run Try.prog w = .ok (.slice (some ⟨w.heap.size, 0, none⟩) 3 3) (w.alloc (.cells #[k.val, f.val, x.val] 32)) := by
  rcases k.val_form with hk | ⟨_, _, hk⟩ <;> rcases f.val_form with h | ⟨_, _, h⟩ <;> rcases x.val_form with h' | ⟨_, _, h'⟩ <;> rw [hk, h, h'] <;> kernel_rfl

/-- A slice is built. -/
theorem wp_bs {o : Oper} {a : Act} {w w1 : World} {K : Act → World → Prop} {Q : Exit → Act → World → Prop} {t : TypeId} {n : Nat} {parts : Array (Nat × Operand)} {L : List (Nat × Value)} {v : Value} (ho : o.op = .buildSlice t n parts)
    (hp : parts.toList.map (fun x => (x.1, a.eval x.2)) = L) (h : (Instr.buildSlice t n L.toArray).run Try.prog w = .ok v w1) (hk : K (a.put o.dst v) w1) : o.wp Try.prog a w K Q := by
  have hm : L.toArray = parts.map fun (i, x) => (i, a.eval x) := by
    rw [← hp, ← Array.toList_map]
  rw [hm] at h
  have he : (execOp a.eval o).run Try.prog w = .ok (.value v) w1 := by
    simp only [execOp, ho]
    rw [Sem.run_bind, h]
    rfl
  unfold Oper.wp
  rw [he]
  exact hk
theorem wpl_bs {ops : Array Oper} {rest : List Oper} {o : Oper} {a : Act} {w : World} {Q : Exit → Act → World → Prop}
    (h : o.guard = none ∧ ∃ t n parts L v w1, o.op = .buildSlice t n parts ∧ parts.toList.map (fun x => (x.1, a.eval x.2)) = L ∧ (Instr.buildSlice t n L.toArray).run Try.prog w = .ok v w1 ∧ wpList Try.prog ops Q rest (a.put o.dst v) w1) : wpList Try.prog ops Q (o :: rest) a w :=
  let ⟨hg, _, _, _, _, _, _, ho, hp, hr, hk⟩ := h
  wpList_plain hg fun _ hK => wp_bs ho hp hr (hK _ _ hk)

end Go.Proofs.Ytegmnbcfanjocaa
