/-
  Raw terms that came in, opened.
-/
import Derived.Test.YtegmnbcfanjocaaTerms0
import Derived.ProofKit
import Derived.OpenShut
import Derived.Deep.Slices
namespace Go.Proofs.Ytegmnbcfanjocaa
open Go Go.RowKit Go.Deep

theorem laidOut : laidOutB Try.prog = true := by kernel_rfl
theorem own : ownKnob Try.prog.godebug = none := by kernel_rfl

instance : Inhabited Raw := ⟨⟨0, 0, 0, 0, 0⟩⟩
section
variable {H : Type} {enc : TypeId × Value → H} {w : World} {base : Nat} {spare : Nat → Bool} {held : Bool}

set_option maxRecDepth 100000 in
theorem raw_elem {fuel : Nat} {cs : List Value} {x : DataW H × List MemPlace} (h : DataW.trod enc Try.prog w base spare held fuel 64 cs = some x) :
    ∃ r : Raw, cs = [.int .i64 r.kind, .int .i64 r.n, .int .i64 r.a, .int .i64 r.b, .int .i64 r.c] := by
  obtain ⟨xs, n, _, _, hl, hlen, hf⟩ := DataW.trod_struct Try.underlying64 h
  have h5 : Try.prog.cellsOf 64 = 5 := by kernel_rfl
  have h1 : Try.prog.cellsOf 3 = 1 := by kernel_rfl
  rw [h5] at hl
  match cs, hl with
  | [c0, c1, c2, c3, c4], _ =>
    match xs, hlen with
    | [y0, y1, y2, y3, y4], _ =>
      have g0 : DataW.trod enc Try.prog w base spare held n 3 (([c0, c1, c2, c3, c4].drop 0).take (Try.prog.cellsOf 3)) = some y0 := hf 0 _ rfl
      have g1 : DataW.trod enc Try.prog w base spare held n 3 (([c0, c1, c2, c3, c4].drop 1).take (Try.prog.cellsOf 3)) = some y1 := hf 1 _ rfl
      have g2 : DataW.trod enc Try.prog w base spare held n 3 (([c0, c1, c2, c3, c4].drop 2).take (Try.prog.cellsOf 3)) = some y2 := hf 2 _ rfl
      have g3 : DataW.trod enc Try.prog w base spare held n 3 (([c0, c1, c2, c3, c4].drop 3).take (Try.prog.cellsOf 3)) = some y3 := hf 3 _ rfl
      have g4 : DataW.trod enc Try.prog w base spare held n 3 (([c0, c1, c2, c3, c4].drop 4).take (Try.prog.cellsOf 3)) = some y4 := hf 4 _ rfl
      rw [h1] at g0 g1 g2 g3 g4
      obtain ⟨n0, e0, _⟩ := DataW.trod_int Try.underlying3 g0
      obtain ⟨n1, e1, _⟩ := DataW.trod_int Try.underlying3 g1
      obtain ⟨n2, e2, _⟩ := DataW.trod_int Try.underlying3 g2
      obtain ⟨n3, e3, _⟩ := DataW.trod_int Try.underlying3 g3
      obtain ⟨n4, e4, _⟩ := DataW.trod_int Try.underlying3 g4
      simp at e0 e1 e2 e3 e4
      subst e0 e1 e2 e3 e4
      exact ⟨⟨n0, n1, n2, n3, n4⟩, rfl⟩

set_option maxRecDepth 100000 in
theorem open_raws {fuel : Nat} {cs : List Value} {x : DataW H × List MemPlace} (h : DataW.trod enc Try.prog w base spare held fuel 22 cs = some x) :
    ∃ (a : Option Addr) (cap : Nat) (l : List Raw), cs = [.slice a l.length cap] ∧ RawAt w a l ∧ l.length ≤ 9223372036854775807 := by
  rcases open_slice Try.underlying22 h with ⟨rfl, _⟩ | ⟨a, len, cap, m, n, D, Pl, rfl, hb, hl, hm, hmm, rfl, hx⟩
  · exact ⟨none, 0, [], rfl, fun i hi => by simp at hi, by simp⟩
  · have h5 : Try.prog.cellsOf 64 = 5 := by kernel_rfl
    rw [h5] at hx
    have hlm : len ≤ m := by subst hmm; split <;> omega
    obtain ⟨R, hR⟩ := choose_lt (α := Raw) (n := len) (p := fun i r => ∃ cs', w.cells? base (a.add (i * 5)) 5 = some cs' ∧ cs' = [.int .i64 r.kind, .int .i64 r.n, .int .i64 r.a, .int .i64 r.b, .int .i64 r.c]) (fun i hi => by
      obtain ⟨cs', h1, h2⟩ := hx i (by omega)
      obtain ⟨r, hr⟩ := raw_elem h2
      exact ⟨r, cs', h1, hr⟩)
    refine ⟨some a, cap, (List.range len).map R, by simp, fun i hi => ?_, by unfold maxLen at hm; simp; omega⟩
    have hi' : i < len := by simpa using hi
    obtain ⟨b, o, spot⟩ := a
    have hspot : spot = none := by
      obtain ⟨cs', h1, rfl⟩ := hR 0 (by omega)
      have := (World.cells?_some h1).2.2 0 (by omega)
      exact by simpa [Addr.add] using World.cell?_spot this
    subst hspot
    obtain ⟨cs', h1, rfl⟩ := hR i hi'
    have hc := (World.cells?_some h1).2.2
    have hadd : ∀ j, ((⟨b, o, none⟩ : Addr).add (i * 5)).add j = ⟨b, o + i * 5 + j, none⟩ := fun j => by
      unfold Addr.add; repeat' split
      all_goals simp_all
    have c0 := hc 0 (by omega); have c1 := hc 1 (by omega); have c2 := hc 2 (by omega); have c3 := hc 3 (by omega); have c4 := hc 4 (by omega)
    rw [hadd] at c0 c1 c2 c3 c4
    refine ⟨b, o, rfl, ?_, ?_, ?_, ?_, ?_⟩ <;> simp only [List.getElem_map, List.getElem_range]
    · exact c0
    · exact c1
    · exact c2
    · exact c3
    · exact c4
end

end Go.Proofs.Ytegmnbcfanjocaa
