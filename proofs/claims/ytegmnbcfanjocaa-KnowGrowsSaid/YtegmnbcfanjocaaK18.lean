/-
  What the walks of chapter 13's laws share.
-/
import Derived.Test.YtegmnbcfanjocaaK13
import Derived.Test.YtegmnbcfanjocaaK15
import Derived.Test.YtegmnbcfanjocaaK16
import Derived.Test.YtegmnbcfanjocaaK17
import Derived.Test.YtegmnbcfanjocaaTerms
namespace Go.Proofs.Ytegmnbcfanjocaa
open Go Go.RowKit Go.Maps
attribute [local go_sem] extUpon run_store_tm
attribute [local go_sem ↓] Tm.val_cell eval_put_ne eval_put_none eval_put_same size_put eval_const
attribute [local go_sem ↓] meth_Atom meth_Public meth_Shared meth_Chain meth_Digest meth_Box meth_Empty
attribute [local go_sem ↓] run_build_chain run_build_digest run_build_box
attribute [local go_sem] ta_Atom_Atom ta_Public_Atom ta_Shared_Atom ta_Chain_Atom ta_Digest_Atom ta_Box_Atom ta_Empty_Atom ta_Nil_Atom ta_Atom_Public ta_Public_Public ta_Shared_Public ta_Chain_Public ta_Digest_Public ta_Box_Public ta_Empty_Public ta_Nil_Public ta_Atom_Shared ta_Public_Shared ta_Shared_Shared ta_Chain_Shared ta_Digest_Shared ta_Box_Shared ta_Empty_Shared ta_Nil_Shared ta_Atom_Chain ta_Public_Chain ta_Shared_Chain ta_Chain_Chain ta_Digest_Chain ta_Box_Chain ta_Empty_Chain ta_Nil_Chain ta_Atom_Digest ta_Public_Digest ta_Shared_Digest ta_Chain_Digest ta_Digest_Digest ta_Box_Digest ta_Empty_Digest ta_Nil_Digest ta_Atom_Box ta_Public_Box ta_Shared_Box ta_Chain_Box ta_Digest_Box ta_Box_Box ta_Empty_Box ta_Nil_Box ta_Atom_Empty ta_Public_Empty ta_Shared_Empty ta_Chain_Empty ta_Digest_Empty ta_Box_Empty ta_Empty_Empty ta_Nil_Empty
variable {f : Int → List UInt8}

theorem idx_of (a : Int) (n : Nat) (h : 0 < n) : ∃ i : Nat, a % (n : Int) = i ∧ i < n := by
  have h1 := Int.emod_nonneg a (b := n) (by omega)
  have h2 := Int.emod_lt_of_pos a (b := n) (by omega)
  exact ⟨(a % n).toNat, by omega, by omega⟩
theorem rd_own {w : World} {base g cap n : Nat} {e : TypeId} {xs : List Value} (h : w.ownsRow base e 1 (.slice (some ⟨g, 0, none⟩) n cap) n xs) (hn : xs.length = n) : Rd w (some ⟨g, 0, none⟩) xs := fun _ =>
  ⟨g, rfl, (h.lt g rfl).2, fun i u hu => own_ints_at h i (by rw [← hn]; exact (List.getElem?_eq_some_iff.1 hu).1) u hu⟩
/-- One of the terms. -/
structure One (ts : List Tm) (j : Nat) (x : Tm) (u : TypeId) (d : Value) : Prop where
  at_ : ts[j]? = some x
  lit : x.lit
  sz : sz x ≤ 60
  val : x.val = .iface u d
theorem One.of (l : List Raw) {j : Nat} (h : j < (terms l).length) : ∃ x u d, One (terms l) j x u d := by
  have hm := List.getElem_mem h
  have hl := (terms_made l).mem _ hm
  obtain ⟨u, d, hv⟩ := Tm.val_iface hl.ok.ne
  exact ⟨_, u, d, List.getElem?_eq_getElem h, hl, terms_sz l _ hm, hv⟩
theorem One.cell {ts : List Tm} {j : Nat} {x : Tm} {u : TypeId} {d : Value} (h : One ts j x u d) {w : World} {g : Nat} (hr : Rd w (some ⟨g, 0, none⟩) (ts.map Tm.val)) : w.cell? ⟨g, j, none⟩ = some (.iface u d) := by
  have h1 : (ts.map Tm.val)[j]? = some (.iface u d) := by rw [List.getElem?_map, h.at_]; simp [h.val]
  have hl := (List.getElem?_eq_some_iff.1 h1).1
  obtain ⟨g2, e, _, hc⟩ := hr (by omega)
  obtain ⟨rfl⟩ := (Option.some.inj e)
  exact hc j _ h1
theorem One.can {ts : List Tm} {j : Nat} {x : Tm} {u : TypeId} {d : Value} (h : One ts j x u d) {w0 : World} (hI : Itoa w0 Small f) {w : World} (hE : Ext w0 w) {k : KS} {v : KV} (hK : KAt f P0 w k v) :
    Calls Try.prog 13 #[.pointer (some ⟨k.kb, 0, none⟩), .iface u d] w fun e w' => e = .returned (.bool (can f v.x v.S x)) ∧ Ext w w' := by
  rw [← h.val]
  exact can_any x w k v (hI.later hE) hK (h.lit.ok.all (fun n hn => by unfold P0 at hn; unfold Small; omega)) (by have := h.sz; omega)

end Go.Proofs.Ytegmnbcfanjocaa
