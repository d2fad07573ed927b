/-
  What comes out of a box is laid down (know.out).
-/
import Derived.Test.YtegmnbcfanjocaaK2
import Derived.Test.YtegmnbcfanjocaaK3
namespace Go.Proofs.Ytegmnbcfanjocaa
open Go Go.RowKit Go.Maps
attribute [local go_sem] extUpon run_store_tm
attribute [local go_sem ↓] Tm.val_cell eval_put_ne eval_put_none eval_put_same size_put eval_const
attribute [local go_sem ↓] meth_Atom meth_Public meth_Shared meth_Chain meth_Digest meth_Box meth_Empty
attribute [local go_sem ↓] run_build_chain run_build_digest run_build_box
attribute [local go_sem] ta_Atom_Atom ta_Public_Atom ta_Shared_Atom ta_Chain_Atom ta_Digest_Atom ta_Box_Atom ta_Empty_Atom ta_Nil_Atom ta_Atom_Public ta_Public_Public ta_Shared_Public ta_Chain_Public ta_Digest_Public ta_Box_Public ta_Empty_Public ta_Nil_Public ta_Atom_Shared ta_Public_Shared ta_Shared_Shared ta_Chain_Shared ta_Digest_Shared ta_Box_Shared ta_Empty_Shared ta_Nil_Shared ta_Atom_Chain ta_Public_Chain ta_Shared_Chain ta_Chain_Chain ta_Digest_Chain ta_Box_Chain ta_Empty_Chain ta_Nil_Chain ta_Atom_Digest ta_Public_Digest ta_Shared_Digest ta_Chain_Digest ta_Digest_Digest ta_Box_Digest ta_Empty_Digest ta_Nil_Digest ta_Atom_Box ta_Public_Box ta_Shared_Box ta_Chain_Box ta_Digest_Box ta_Box_Box ta_Empty_Box ta_Nil_Box ta_Atom_Empty ta_Public_Empty ta_Shared_Empty ta_Chain_Empty ta_Digest_Empty ta_Box_Empty ta_Empty_Empty ta_Nil_Empty

/-- The first is as the second, but for some blocks. -/
def Same (W W' : World) (p : Nat → Prop) : Prop := W'.os = W.os ∧ W'.tape = W.tape ∧ W'.output = W.output ∧ W.heap.size ≤ W'.heap.size ∧ ∀ b, b < W.heap.size → p b → W'.heap[b]? = W.heap[b]?
theorem Same.of_ext {W W' : World} {p : Nat → Prop} (h : Ext W W') : Same W W' p := ⟨h.os, h.tape, h.output, h.size, fun b hb _ => h.block b hb⟩
theorem Same.of_grown {W W' : World} {p : Nat → Prop} {row : Option Nat} (h : W.grownBy W' row) (hp : ∀ b, p b → some b ≠ row) : Same W W' p := ⟨h.os, h.tape, h.output, h.size, fun b hb hpb => h.block b hb (hp b hpb)⟩
theorem Same.trans {A B C : World} {p : Nat → Prop} (h : Same A B p) (k : Same B C p) : Same A C p :=
  ⟨k.1.trans h.1, k.2.1.trans h.2.1, k.2.2.1.trans h.2.2.1, Nat.le_trans h.2.2.2.1 k.2.2.2.1, fun b hb hp => (k.2.2.2.2 b (Nat.lt_of_lt_of_le hb h.2.2.2.1) hp).trans (h.2.2.2.2 b hb hp)⟩
theorem Same.mono {A B : World} {p q : Nat → Prop} (h : Same A B p) (hq : ∀ b, q b → p b) : Same A B q := ⟨h.1, h.2.1, h.2.2.1, h.2.2.2.1, fun b hb hp => h.2.2.2.2 b hb (hq b hp)⟩
theorem Same.refl (W : World) (p : Nat → Prop) : Same W W p := Same.of_ext (Ext.refl W)
theorem Same.cell {A B : World} {p : Nat → Prop} (h : Same A B p) {b : Nat} (hb : b < A.heap.size) (hp : p b) {j : Nat} {v : Value} (hc : A.cell? ⟨b, j, none⟩ = some v) : B.cell? ⟨b, j, none⟩ = some v :=
  (World.cell?_of_block (a := ⟨b, j, none⟩) (h.2.2.2.2 b hb hp)).trans hc
/-- Behind a start at which the turned block was not yet. -/
theorem Same.ext {A B C : World} {p : Nat → Prop} (h : Ext A B) (k : Same B C p) (hp : ∀ b, b < A.heap.size → p b) : Ext A C :=
  ⟨k.1.trans h.os, k.2.1.trans h.tape, k.2.2.1.trans h.output, Nat.le_trans h.size k.2.2.2.1, fun b hb => (k.2.2.2.2 b (Nat.lt_of_lt_of_le hb h.size) (hp b hb)).trans (h.block b hb)⟩

variable {f : Int → List UInt8} {P : Int → Prop}
theorem Tm.iface (t : Tm) (ht : t ≠ .non) : ∃ u, t.val = .iface u t.arg ∧ (∀ w, (method 254 u t.arg "Name").run Try.prog w = .ok (t.nf, t.arg) w) ∧
    (∀ args w, (callFunc t.nf args).run Try.prog w = .ok (.enter t.nf args) w) := by
  cases t with
  | non => exact absurd rfl ht
  | atom n => exact ⟨_, rfl, fun _ => meth_Atom _ _, ent_atom⟩
  | pub n => exact ⟨_, rfl, fun _ => meth_Public _ _, ent_pub⟩
  | shared a b => exact ⟨_, rfl, fun _ => meth_Shared _ _, ent_shared⟩
  | empty => exact ⟨_, rfl, fun _ => meth_Empty _ _, ent_empty⟩
  | digest x y => exact ⟨_, rfl, fun _ => meth_Digest _ _, ent_digest⟩
  | chain i x y => exact ⟨_, rfl, fun _ => meth_Chain _ _, ent_chain⟩
  | box k n x y => exact ⟨_, rfl, fun _ => meth_Box _ _, ent_box⟩

def KV.put (f : Int → List UInt8) (v : KV) (t : Tm) : KV := { v with all := fset v.all (nm f t) t, m := if (v.all (nm f t)).isSome then v.m else v.m + 1 }
theorem KAt.put {w w2 : World} {k : KS} {v : KV} {t : Tm} (h : KAt f P w k v) (ht : Fine P t) (hm : MapG CS w2 k.ab (fset v.all (nm f t) t) (if (v.all (nm f t)).isSome then v.m else v.m + 1)) (hg : w.grownBy w2 (some k.ab))
    (hkb : k.kb ≠ k.ab) : KAt f P w2 k (v.put f t) := by
  have hb : ∀ b, b < w.heap.size → b ≠ k.ab → w2.heap[b]? = w.heap[b]? := fun b hb hne => hg.block b hb (fun e => hne (Option.some.inj e))
  refine ⟨(hb _ (Array.getElem?_eq_some_iff.1 h.blk).1 hkb).trans h.blk, h.sec.keep (hb _ h.sec.lt h.ne2), h.seen.keep (hb _ h.seen.lt h.ne3), hm, h.ne1, h.ne2, h.ne3, ?_, h.few, h.fews⟩
  intro s x hs
  show nm f x = s ∧ Fine P x
  by_cases hsn : s = nm f t
  · subst hsn
    change fset v.all (nm f t) t (nm f t) = some x at hs
    rw [fset_self] at hs
    cases hs
    exact ⟨rfl, ht⟩
  · change fset v.all (nm f t) t s = some x at hs
    rw [fset_ne hsn] at hs
    exact h.named s x hs
theorem KAt.kb_ne {w : World} {k : KS} {v : KV} (h : KAt f P w k v) : k.kb ≠ k.ab ∧ k.kb ≠ k.nb ∧ k.kb ≠ k.sb := by
  have h1 := h.blk
  refine ⟨fun e => ?_, fun e => ?_, fun e => ?_⟩
  · obtain ⟨es, c, hb, _⟩ := h.all
    rw [e, hb] at h1; cases h1
  · obtain ⟨es, c, hb, _⟩ := h.seen
    rw [e, hb] at h1; cases h1
  · obtain ⟨es, c, hb, _⟩ := h.sec
    rw [e, hb] at h1; cases h1

theorem KAt.lay {w : World} {k : KS} {v : KV} {t : Tm} (h : KAt f P w k v) (ht : Fine P t) (hno : CS.ok (nm f t)) (hm : v.m < 90000) :
    ∃ w2, (Instr.mapUpdate CS.mt (.map (some k.ab)) (CS.ek (nm f t)) (CS.ev t)).run Try.prog w = .ok () w2 ∧ KAt f P w2 k (v.put f t) ∧ w.grownBy w2 (some k.ab) := by
  obtain ⟨w2, h1, h2, h3⟩ := h.all.store (a := nm f t) hno (by omega) t
  exact ⟨w2, h1, h.put ht h2 h3 h.kb_ne.1, h3⟩

set_option maxHeartbeats 1000000 in
set_option maxRecDepth 100000 in
theorem out_any (hP : ∀ n, P n → Small n) (t : Tm) (w : World) (k : KS) (v : KV) (hI : Itoa w Small f) (hK : KAt f P w k v) (ht : Fine P t) (hm : v.m < 90000) :
    Calls Try.prog 40 #[.pointer (some ⟨k.kb, 0, none⟩), t.val] w fun e w' => (∃ x, e = .returned x) ∧ KAt f P w' k (v.put f t) ∧ Same w w' (fun b => b ≠ k.ab) := by
  have hs : sz t ≤ 10000 := by have := ht.size; omega
  obtain ⟨u, hu, hme, hen⟩ := t.iface ht.ok.ne
  have HNM := hid (fun W hW => call_name t w ht.ok.ne hI (ht.ok.all hP) hs W hW)
  have hno := nm_ok hI t hs
  have HST : Hid (∀ W, Ext w W → ∃ w2, (Instr.mapUpdate 67 (.map (some k.ab)) (str (nm f t)) t.val).run Try.prog W = .ok () w2 ∧ KAt f P w2 k (v.put f t) ∧ W.grownBy w2 (some k.ab)) := hid (fun W hW => (hK.later hW).lay ht hno hm)
  have HC := hid (cell_blk (j := 2) hK.blk rfl)
  rw [hu] at HST
  rw [hu]
  generalize t.nf = g at *
  generalize t.arg = x at *
  generalize nm f t = nt at *
  clear hu hno hI hK ht hs
  go_enter Try.func40, Try.ntmps40
  go_wp2_with fail
  refine reg_begin 7 (by kernel_rfl) ?_
  generalize hW : World.drew _ = W
  have HE : Hid (Ext w W) := hid (by rw [← hW]; exact Ext.drew _)
  clear hW
  refine reg_quiet 0 rfl (by kernel_rfl) (by kernel_rfl) ?_
  apply Exists.intro
  refine ⟨fun w' hw' => ?_, ?_⟩
  · go_simp
    exact ⟨rfl, Ext.refl _⟩
  refine reg_quiet 1 rfl (by kernel_rfl) (by kernel_rfl) ?_
  apply Exists.intro
  refine ⟨fun w' hw' => ?_, ?_⟩
  · go_simp
    exact ⟨rfl, Ext.refl _⟩
  refine reg_quiet 2 rfl (by kernel_rfl) (by kernel_rfl) ?_
  apply Exists.intro
  refine ⟨fun w' hw' => ?_, ?_⟩
  · go_simp
    exact ⟨rfl, Ext.refl _⟩
  refine reg_quiet 3 rfl (by kernel_rfl) (by kernel_rfl) ?_
  apply Exists.intro
  refine ⟨fun w' hw' => ?_, ?_⟩
  · have q0 := (HE.out.trans hw').cell HC.out
    go_simp
    exact ⟨rfl, Ext.refl _⟩
  refine reg_quiet 4 rfl (by kernel_rfl) (by kernel_rfl) ?_
  apply Exists.intro
  refine ⟨fun w' hw' => ?_, ?_⟩
  · go_simp
    exact ⟨rfl, Ext.refl _⟩
  refine reg_quiet 5 rfl (by kernel_rfl) (by kernel_rfl) ?_
  apply Exists.intro
  refine ⟨fun w' hw' => ?_, ?_⟩
  · go_simp
    exact HNM.out w' (HE.out.trans hw')
  refine reg_quiet 6 rfl (by kernel_rfl) (by kernel_rfl) ?_
  apply Exists.intro
  refine ⟨fun w' hw' => ?_, ?_⟩
  · go_simp
    exact ⟨rfl, Ext.refl _⟩
  refine reg_one 7 rfl (by kernel_rfl) (by kernel_rfl) (fun w' hw' => ?_)
  have h2 := Classical.choose_spec (HST.out w' (HE.out.trans hw'))
  generalize Classical.choose _ = w2 at h2
  have hrun := h2.1
  have hK2 := h2.2.1
  have hg2 := h2.2.2
  clear h2
  have HK2 := hid hK2
  have HSM : Hid (Same w w2 (fun b => b ≠ k.ab)) := hid ((Same.of_ext (HE.out.trans hw')).trans (Same.of_grown hg2 (fun b hb e => hb (Option.some.inj e))))
  clear hK2 hg2 hw'
  go_simp
  clear hrun
  refine reg_done (by kernel_rfl) (fun w3 hw3 => ?_) _
  have HK3 := hid (HK2.out.later hw3)
  have HS3 := hid (HSM.out.trans (Same.of_ext hw3))
  clear hw3
  go_simp
  go_wp2_with fail
  go_end0
  exact ⟨⟨_, rfl⟩, HK3.out, HS3.out⟩

end Go.Proofs.Ytegmnbcfanjocaa
