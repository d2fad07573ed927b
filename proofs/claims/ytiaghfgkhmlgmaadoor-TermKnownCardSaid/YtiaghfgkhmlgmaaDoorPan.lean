/-
  MustBox, and whether it panics.
-/
import Derived.Test.YtiaghfgkhmlgmaaDoorOwn
import Derived.Test.YtiaghfgkhmlgmaaDoorTa
import Derived.Recover
import Derived.Defers
import Derived.Tactics
import Derived.Tactics2
namespace Go.Proofs.YtiaghfgkhmlgmaaDoor
open Go Go.RowKit
attribute [local go_sem] extUpon run_store_tm
attribute [local go_sem ↓] Tm.val_cell eval_put_ne eval_put_none eval_put_same size_put eval_const
attribute [local go_sem ↓] meth_Atom meth_Public meth_Shared meth_Chain meth_Digest meth_Box meth_Empty
attribute [local go_sem ↓] run_build_chain run_build_digest run_build_box
attribute [local go_sem] ta_Atom_Atom ta_Public_Atom ta_Shared_Atom ta_Chain_Atom ta_Digest_Atom ta_Box_Atom ta_Empty_Atom ta_Nil_Atom ta_Atom_Public ta_Public_Public ta_Shared_Public ta_Chain_Public ta_Digest_Public ta_Box_Public ta_Empty_Public ta_Nil_Public ta_Atom_Shared ta_Public_Shared ta_Shared_Shared ta_Chain_Shared ta_Digest_Shared ta_Box_Shared ta_Empty_Shared ta_Nil_Shared ta_Atom_Chain ta_Public_Chain ta_Shared_Chain ta_Chain_Chain ta_Digest_Chain ta_Box_Chain ta_Empty_Chain ta_Nil_Chain ta_Atom_Digest ta_Public_Digest ta_Shared_Digest ta_Chain_Digest ta_Digest_Digest ta_Box_Digest ta_Empty_Digest ta_Nil_Digest ta_Atom_Box ta_Public_Box ta_Shared_Box ta_Chain_Box ta_Digest_Box ta_Box_Box ta_Empty_Box ta_Nil_Box ta_Atom_Empty ta_Public_Empty ta_Shared_Empty ta_Chain_Empty ta_Digest_Empty ta_Box_Empty ta_Empty_Empty ta_Nil_Empty

theorem te_elem (w : World) : (elemOf 15).run Tryd.prog w = .ok 87 w := by kernel_rfl
def pv (b : Nat) : Value := .iface 15 (.pointer (some ⟨b, 0, none⟩))

theorem no_box (u : TypeId) (hu : u ≠ 31) : ∃ o, ∀ (v : Value) (w : World), (Instr.typeAssert (.iface u v) 29 31 false).run Tryd.prog w = .halt (.panic (pv w.heap.size)) (w.alloc o) := by
  refine ⟨.cells #[typeHandle Tryd.prog 29, typeHandle Tryd.prog u, typeHandle Tryd.prog 31, strVal ""] 87, fun v w => ?_⟩
  have hs := Tryd.underlying31
  simp [Instr.typeAssert, run_underlying hs, runtimePanic, newVar, go_sem, hu]
  rw [te_elem]
  rfl
theorem no_nil : ∃ o, ∀ (w : World), (Instr.typeAssert .nilIface 29 31 false).run Tryd.prog w = .halt (.panic (pv w.heap.size)) (w.alloc o) := by
  refine ⟨.cells #[typeHandle Tryd.prog 29, .pointer none, typeHandle Tryd.prog 31, strVal ""] 87, fun w => ?_⟩
  have hs := Tryd.underlying31
  simp [Instr.typeAssert, run_underlying hs, runtimePanic, newVar, go_sem]
  rw [te_elem]
  rfl
theorem is_box (v : Value) (w : World) : (Instr.typeAssert (.iface 31 v) 29 31 false).run Tryd.prog w = .ok v w := by kernel_rfl

theorem must_box (ku xu yu : TypeId) (kv xv yv : Value) (n : Int) (w : World) : Calls Tryd.prog 10 #[.iface 31 (.agg #[.iface ku kv, .int .i64 n, .iface xu xv, .iface yu yv])] w fun e w' => e = .returned (.agg #[.iface ku kv, .int .i64 n, .iface xu xv, .iface yu yv]) ∧ Ext w w' := by
  have hb := is_box (.agg #[.iface ku kv, .int .i64 n, .iface xu xv, .iface yu yv])
  go_enter Tryd.func10, Tryd.ntmps10
  go_wp2_with fail
  simp [bodyPost, results, Tryd.results10, go_sem]
  exact Ext.alloc _ _

theorem must_not (x : Value) (w : World) (hx : ∃ o, ∀ (w : World), (Instr.typeAssert x 29 31 false).run Tryd.prog w = .halt (.panic (pv w.heap.size)) (w.alloc o)) :
    Calls Tryd.prog 10 #[x] w fun e w' => (∃ b, e = .panicked [{ v := pv b, recovered := false }]) ∧ Ext w w' := by
  obtain ⟨o, ho⟩ := hx
  go_enter Tryd.func10, Tryd.ntmps10
  go_wp2_with fail
  exact ⟨rfl, ⟨_, rfl⟩, (Ext.alloc _ _).alloc' _⟩


/-! ### panics -/
theorem Ext.set_new {w w1 : World} (h : Ext w w1) {g i : Nat} (hg : w.heap.size ≤ g) (v : Value) : Ext w (w1.setCell ⟨g, i, none⟩ v) :=
  ⟨h.os, h.tape, h.output, by simpa [World.setCell] using h.size, fun k hk => (Below.heap_setCell _ _ _ _ (by simp; omega)).trans (h.block k hk)⟩
theorem frozen_blk {w : World} {g j : Nat} {cs : Array Value} {t : TypeId} (h : w.heap[g]? = some (.cells cs t (0, 0))) : w.frozen? ⟨g, j, none⟩ = false := by
  simp [World.frozen?, h]
theorem catch_panicking (p : Addr) (x : Bool) (b : Nat) (older : List PanicEntry) (w : World) (hc : w.cell? p = some (.bool x)) (hz : w.frozen? p = false) :
    CallsD Tryd.prog 17 #[.pointer (some p)] (.panicking ({ v := pv b, recovered := false } :: older)) w fun e u' w' =>
      e = .returned (.tuple #[]) ∧ u' = .panicking ({ v := pv b, recovered := true } :: older) ∧ w' = w.setCell p (.bool true) := by
  refine callsD_of_wpS Tryd.func17 rfl fun c₀ cs hu => ?_
  apply wpS_seq
  apply wpS_region
  simp [wpOpsS, go_sem, recoverD, hu, Tryd.ntmps17, Exit.thenS, pv]
  refine wpS_cond (t := true) (by simp [Act.eval, Array.replicate]) ?_
  simp only [if_true]
  apply wpS_region
  simp [wpOpsS, go_sem, hc, hz, bodyPostS, results, Tryd.results17]

theorem catch_idle (p : Addr) (w : World) :
    CallsD Tryd.prog 17 #[.pointer (some p)] .returning w fun e u' w' => e = .returned (.tuple #[]) ∧ u' = .returning ∧ w' = w := by
  refine callsD_of_wpS Tryd.func17 rfl fun c₀ cs hu => ?_
  apply wpS_seq
  apply wpS_region
  simp [wpOpsS, go_sem, recoverD, hu, Tryd.ntmps17, Exit.thenS]
  refine wpS_cond (t := false) (by simp [Act.eval, Array.replicate]) ?_
  simp only [Bool.false_eq_true, if_false]
  refine wpS_of_wp (wp_skip ?_)
  cases c₀
  simp_all [bodyPostS, results, Tryd.results17]

theorem panics_not (x : Value) (w : World) (hx : ∀ w, ∃ y, Calls Tryd.prog 10 #[x] w fun e w' => e = .returned y ∧ Ext w w') :
    Calls Tryd.prog 12 #[x] w fun e w' => e = .returned (.bool false) ∧ Ext w w' := by
  have hmf : ∀ (fn : Fn) (first cap : Array Value) (w : World), (Instr.makeFunc fn first cap).run Tryd.prog w = .ok (.func fn first cap) w := fun _ _ _ _ => rfl
  have HX := hid hx
  clear hx
  go_enter_defers Tryd.func12, Tryd.ntmps12
  go_wp2_with fail
  obtain ⟨y, hy⟩ := HX.out (w.alloc (.cells #[.bool false] 4))
  refine hy.mono ?_
  rintro e w1 ⟨rfl, hE⟩
  have b0 := hE.blk (blk_new w (.cells #[.bool false] 4))
  have c0 : w1.cell? ⟨w.heap.size, 0, none⟩ = some (.bool false) := cell_blk b0 rfl
  have f0 : w1.frozen? ⟨w.heap.size, 0, none⟩ = false := frozen_blk b0
  have HE := hid (((Ext.alloc w _).trans hE).set_new (Nat.le_refl _) (i := 0) (.bool false))
  have HC := hid (World.cell?_setCell_same _ _ (.bool false) c0)
  clear b0 hE hy HX
  go_wp2_with fail
  refine leaves_cons (f := 17) (args := #[.pointer (some ⟨w.heap.size, 0, none⟩)]) (by simp) (by simp [go_sem]) ?_
  refine (catch_idle ⟨w.heap.size, 0, none⟩ _).mono ?_
  rintro e u' w'' ⟨rfl, rfl, rfl⟩
  have hc := HC.out
  simp [Leaves, settle, results, Tryd.results12, go_sem, hc]
  exact HE.out

theorem panics_is (x : Value) (w : World) (hx : ∀ w, Calls Tryd.prog 10 #[x] w fun e w' => (∃ b, e = .panicked [{ v := pv b, recovered := false }]) ∧ Ext w w') :
    Calls Tryd.prog 12 #[x] w fun e w' => e = .returned (.bool true) ∧ Ext w w' := by
  have hmf : ∀ (fn : Fn) (first cap : Array Value) (w : World), (Instr.makeFunc fn first cap).run Tryd.prog w = .ok (.func fn first cap) w := fun _ _ _ _ => rfl
  have HX := hid hx
  clear hx
  go_enter_defers Tryd.func12, Tryd.ntmps12
  go_wp2_with fail
  refine (HX.out (w.alloc (.cells #[.bool false] 4))).mono ?_
  rintro e w1 ⟨⟨b, rfl⟩, hE⟩
  have b0 := hE.blk (blk_new w (.cells #[.bool false] 4))
  have c0 : w1.cell? ⟨w.heap.size, 0, none⟩ = some (.bool false) := cell_blk b0 rfl
  have f0 : w1.frozen? ⟨w.heap.size, 0, none⟩ = false := frozen_blk b0
  have HE := hid (((Ext.alloc w _).trans hE).set_new (Nat.le_refl _) (i := 0) (.bool true))
  have HC := hid (World.cell?_setCell_same _ _ (.bool true) c0)
  have HC0 := hid c0; have HF0 := hid f0
  clear b0 hE HX c0 f0
  refine leaves_cons (f := 17) (args := #[.pointer (some ⟨w.heap.size, 0, none⟩)]) (by simp) (by simp [go_sem]) ?_
  refine (catch_panicking ⟨w.heap.size, 0, none⟩ false b [] _ HC0.out HF0.out).mono ?_
  rintro e u' w'' ⟨rfl, rfl, rfl⟩
  have hc := HC.out
  simp [Leaves, settle, results, Tryd.results12, go_sem, hc]
  exact HE.out

end Go.Proofs.YtiaghfgkhmlgmaaDoor
