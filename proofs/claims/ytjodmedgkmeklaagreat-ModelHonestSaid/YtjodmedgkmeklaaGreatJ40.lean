/-
  Texts merged: Q48, RowM.
-/
import Derived.ProofKit
import Derived.OpenShut
import Derived.Deep.Slices
import Derived.Test.YtjodmedgkmeklaaGreatJ39
import Derived.Test.YtjodmedgkmeklaaGreatJ34
import Derived.Test.YtjodmedgkmeklaaGreatRows
/-
  What the laws of chapter 14 share: asked again and again.
-/
namespace Go.Proofs.YtjodmedgkmeklaaGreat
open Go Go.RowKit Go.Maps
attribute [local go_sem] extUpon run_store_tm
attribute [local go_sem ↓] Tm.val_cell eval_put_ne eval_put_none eval_put_same size_put eval_const
attribute [local go_sem ↓] meth_Atom meth_Public meth_Shared meth_Chain meth_Digest meth_Box meth_Empty
attribute [local go_sem ↓] run_build_chain run_build_digest run_build_box
attribute [local go_sem] ta_Atom_Atom ta_Public_Atom ta_Shared_Atom ta_Chain_Atom ta_Digest_Atom ta_Box_Atom ta_Empty_Atom ta_Nil_Atom ta_Atom_Public ta_Public_Public ta_Shared_Public ta_Chain_Public ta_Digest_Public ta_Box_Public ta_Empty_Public ta_Nil_Public ta_Atom_Shared ta_Public_Shared ta_Shared_Shared ta_Chain_Shared ta_Digest_Shared ta_Box_Shared ta_Empty_Shared ta_Nil_Shared ta_Atom_Chain ta_Public_Chain ta_Shared_Chain ta_Chain_Chain ta_Digest_Chain ta_Box_Chain ta_Empty_Chain ta_Nil_Chain ta_Atom_Digest ta_Public_Digest ta_Shared_Digest ta_Chain_Digest ta_Digest_Digest ta_Box_Digest ta_Empty_Digest ta_Nil_Digest ta_Atom_Box ta_Public_Box ta_Shared_Box ta_Chain_Box ta_Digest_Box ta_Box_Box ta_Empty_Box ta_Nil_Box ta_Atom_Empty ta_Public_Empty ta_Shared_Empty ta_Chain_Empty ta_Digest_Empty ta_Box_Empty ta_Empty_Empty ta_Nil_Empty
variable {f : Int → List UInt8} {P : Int → Prop} {w0 w W W2 W3 : World} {μ μ2 : MS} {c d wb : Nat} {B : Int} {F : Nat → Prop}

theorem base_at (hI : Itoa w0 Small f) (h : Wd f P c d B F w0 W wb μ) :
    ∃ kb, (∀ W', Ext W W' → Calls Tryz.prog 20 #[ptr wb] W' fun e w' => e = .returned (ptr kb) ∧ Ext W' w') ∧ Tells2 f μ W kb := by
  obtain ⟨own, m, v, h1, rfl, _⟩ := h
  refine ⟨m.k.kb, fun W' hW => (base_any (h1.later hW)).mono (fun e w' h => ⟨h.1, h.2 ▸ Ext.refl _⟩), ⟨fun W2 hW t ht hs => ?_, fun W2 hW a ha => has_m (h1.later hW) a ha⟩⟩
  have := can_any (f := f) (P := P) t W2 m.k v ((h1.itoa hI).later hW) (h1.later hW).base ht hs
  rwa [h1.bx, h1.bS] at this
theorem leaked_at (h : Wd f P c d B F w0 W wb μ) (a : Int) (ha : IntOk a) (W' : World) (hW : Ext W W') :
    Calls Tryz.prog 14 #[ptr wb, .int .i64 a] W' fun e w' => e = .returned (.bool (decide (a ∈ μ.leaked))) ∧ Ext W' w' :=
  (leaked_w (h.later hW) a ha).mono (fun _ _ h => ⟨h.1, h.2 ▸ Ext.refl _⟩)
theorem Tells2.hasE {kb : Nat} (h : Tells2 f μ W kb) (a : Int) (ha : IntOk a) (W' : World) (hW : Ext W W') : Calls Tryz.prog 22 #[ptr kb, .int .i64 a] W' fun e w' => e = .returned (.bool (μ.x a)) ∧ Ext W' w' :=
  (h.has W' hW a ha).mono (fun _ _ h => ⟨h.1, h.2 ▸ Ext.refl _⟩)
theorem Inv.static14 (h : Inv f P c μ) (hst : μ.statics = [1, 2, 3, 4]) {s : Sd} (hs : s ∈ μ.sides) : 1 ≤ s.static ∧ s.static ≤ 4 := by
  have h1 := h.st s hs
  rw [hst] at h1
  simp at h1
  omega
theorem Inv.fin_iff (h : Inv f P c μ) {s : Sd} (hs : s ∈ μ.sides) : (s.state = 1 ↔ s.step = 3) ∧ 0 ≤ s.step ∧ s.step ≤ 3 := by
  have hc := h.cn s hs
  refine ⟨⟨fun h1 => (fin_step hc h1).1, fun h3 => step_fin hc h3⟩, ?_, hc.le3⟩
  cases hc <;> simp [sd0, sdI1, sdR1, sdI2, sdR2, sdI3, sdR3]
theorem Inv.xleak (h : Inv f P c μ) {n : Int} (hn : n < 50) : μ.x n = decide (n ∈ μ.leaked) := by
  rw [Bool.eq_iff_iff, h.x n, decide_eq_true_eq]
  constructor
  · rintro (h1 | h1)
    · omega
    · exact h1
  · exact .inr

end Go.Proofs.YtjodmedgkmeklaaGreat

/-
  Raw terms that came in, opened.
-/
namespace Go.Proofs.YtjodmedgkmeklaaGreat
open Go Go.RowKit Go.Deep

theorem laidOut : laidOutB Tryz.prog = true := by kernel_rfl
theorem own : ownKnob Tryz.prog.godebug = none := by kernel_rfl

instance : Inhabited Raw := ⟨⟨0, 0, 0, 0, 0⟩⟩
section
variable {H : Type} {enc : TypeId × Value → H} {w : World} {base : Nat} {spare : Nat → Bool} {held : Bool}

set_option maxRecDepth 100000 in
theorem raw_elem {fuel : Nat} {cs : List Value} {x : DataW H × List MemPlace} (h : DataW.trod enc Tryz.prog w base spare held fuel 57 cs = some x) :
    ∃ r : Raw, cs = [.int .i64 r.kind, .int .i64 r.n, .int .i64 r.a, .int .i64 r.b, .int .i64 r.c] := by
  obtain ⟨xs, n, _, _, hl, hlen, hf⟩ := DataW.trod_struct Tryz.underlying57 h
  have h5 : Tryz.prog.cellsOf 57 = 5 := by kernel_rfl
  have h1 : Tryz.prog.cellsOf 3 = 1 := by kernel_rfl
  rw [h5] at hl
  match cs, hl with
  | [c0, c1, c2, c3, c4], _ =>
    match xs, hlen with
    | [y0, y1, y2, y3, y4], _ =>
      have g0 : DataW.trod enc Tryz.prog w base spare held n 3 (([c0, c1, c2, c3, c4].drop 0).take (Tryz.prog.cellsOf 3)) = some y0 := hf 0 _ rfl
      have g1 : DataW.trod enc Tryz.prog w base spare held n 3 (([c0, c1, c2, c3, c4].drop 1).take (Tryz.prog.cellsOf 3)) = some y1 := hf 1 _ rfl
      have g2 : DataW.trod enc Tryz.prog w base spare held n 3 (([c0, c1, c2, c3, c4].drop 2).take (Tryz.prog.cellsOf 3)) = some y2 := hf 2 _ rfl
      have g3 : DataW.trod enc Tryz.prog w base spare held n 3 (([c0, c1, c2, c3, c4].drop 3).take (Tryz.prog.cellsOf 3)) = some y3 := hf 3 _ rfl
      have g4 : DataW.trod enc Tryz.prog w base spare held n 3 (([c0, c1, c2, c3, c4].drop 4).take (Tryz.prog.cellsOf 3)) = some y4 := hf 4 _ rfl
      rw [h1] at g0 g1 g2 g3 g4
      obtain ⟨n0, e0, _⟩ := DataW.trod_int Tryz.underlying3 g0
      obtain ⟨n1, e1, _⟩ := DataW.trod_int Tryz.underlying3 g1
      obtain ⟨n2, e2, _⟩ := DataW.trod_int Tryz.underlying3 g2
      obtain ⟨n3, e3, _⟩ := DataW.trod_int Tryz.underlying3 g3
      obtain ⟨n4, e4, _⟩ := DataW.trod_int Tryz.underlying3 g4
      simp at e0 e1 e2 e3 e4
      subst e0 e1 e2 e3 e4
      exact ⟨⟨n0, n1, n2, n3, n4⟩, rfl⟩

set_option maxRecDepth 100000 in
theorem open_raws {fuel : Nat} {cs : List Value} {x : DataW H × List MemPlace} (h : DataW.trod enc Tryz.prog w base spare held fuel 22 cs = some x) :
    ∃ (a : Option Addr) (cap : Nat) (l : List Raw), cs = [.slice a l.length cap] ∧ RawAt w a l ∧ l.length ≤ 9223372036854775807 := by
  rcases open_slice Tryz.underlying22 h with ⟨rfl, _⟩ | ⟨a, len, cap, m, n, D, Pl, rfl, hb, hl, hm, hmm, rfl, hx⟩
  · exact ⟨none, 0, [], rfl, fun i hi => by simp at hi, by simp⟩
  · have h5 : Tryz.prog.cellsOf 57 = 5 := by kernel_rfl
    rw [h5] at hx
    have hlm : len ≤ m := by subst hmm; split <;> omega
    obtain ⟨R, hR⟩ := choose_lt (α := Raw) (n := len) (p := fun i r => ∃ cs', w.cells? base (a.add (i * 5)) 5 = some cs' ∧ cs' = [.int .i64 r.kind, .int .i64 r.n, .int .i64 r.a, .int .i64 r.b, .int .i64 r.c]) (fun i hi => by
      obtain ⟨cs', h1, h2⟩ := hx i (by omega)
      obtain ⟨r, hr⟩ := raw_elem h2
      exact ⟨r, cs', h1, hr⟩)
    refine ⟨some a, cap, (List.range len).map R, by simp, fun i hi => ?_, by unfold maxLen at hm; simp; omega⟩
    have hi' : i < len := by simpa using hi
    obtain ⟨b, o, spot⟩ := a
    have hspot : spot = none := by
      obtain ⟨cs', h1, rfl⟩ := hR 0 (by omega)
      have := (World.cells?_some h1).2.2 0 (by omega)
      exact by simpa [Addr.add] using World.cell?_spot this
    subst hspot
    obtain ⟨cs', h1, rfl⟩ := hR i hi'
    have hc := (World.cells?_some h1).2.2
    have hadd : ∀ j, ((⟨b, o, none⟩ : Addr).add (i * 5)).add j = ⟨b, o + i * 5 + j, none⟩ := fun j => by
      unfold Addr.add; repeat' split
      all_goals simp_all
    have c0 := hc 0 (by omega); have c1 := hc 1 (by omega); have c2 := hc 2 (by omega); have c3 := hc 3 (by omega); have c4 := hc 4 (by omega)
    rw [hadd] at c0 c1 c2 c3 c4
    refine ⟨b, o, rfl, ?_, ?_, ?_, ?_, ?_⟩ <;> simp only [List.getElem_map, List.getElem_range]
    · exact c0
    · exact c1
    · exact c2
    · exact c3
    · exact c4
end

end Go.Proofs.YtjodmedgkmeklaaGreat
