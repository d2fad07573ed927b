/-
  Steps that came in, opened.
-/
import Derived.Test.YtflbfmfaccaffaaDoorL16
import Derived.ProofKit
import Derived.OpenShut
import Derived.Deep.Slices
namespace Go.Proofs.YtflbfmfaccaffaaDoor
open Go Go.RowKit Go.Deep

theorem laidOut : laidOutB Tryd.prog = true := by kernel_rfl
theorem own : ownKnob Tryd.prog.godebug = none := by kernel_rfl

instance : Inhabited Stp := ⟨⟨0, 0, 0, false, 0, 0, 0⟩⟩
section
variable {H : Type} {enc : TypeId × Value → H} {w : World} {base : Nat} {spare : Nat → Bool} {held : Bool}

theorem step_elem {fuel : Nat} {cs : List Value} {x : DataW H × List MemPlace} (h : DataW.trod enc Tryd.prog w base spare held fuel 38 cs = some x) :
    ∃ r : Stp, cs = [.int .i64 r.what, .int .i64 r.a, .int .i64 r.b, .bool r.across, .int .i64 r.by_, .int .i64 r.rows, .int .i64 r.cols] := by
  obtain ⟨xs, n, _, _, hl, hlen, hf⟩ := DataW.trod_struct Tryd.underlying38 h
  have h7 : Tryd.prog.cellsOf 38 = 7 := by kernel_rfl
  have h1 : Tryd.prog.cellsOf 3 = 1 := by kernel_rfl
  have h1b : Tryd.prog.cellsOf 4 = 1 := by kernel_rfl
  rw [h7] at hl
  match cs, hl with
  | [c0, c1, c2, c3, c4, c5, c6], _ =>
    match xs, hlen with
    | [y0, y1, y2, y3, y4, y5, y6], _ =>
      have g0 : DataW.trod enc Tryd.prog w base spare held n 3 (([c0, c1, c2, c3, c4, c5, c6].drop 0).take (Tryd.prog.cellsOf 3)) = some y0 := hf 0 _ rfl
      have g1 : DataW.trod enc Tryd.prog w base spare held n 3 (([c0, c1, c2, c3, c4, c5, c6].drop 1).take (Tryd.prog.cellsOf 3)) = some y1 := hf 1 _ rfl
      have g2 : DataW.trod enc Tryd.prog w base spare held n 3 (([c0, c1, c2, c3, c4, c5, c6].drop 2).take (Tryd.prog.cellsOf 3)) = some y2 := hf 2 _ rfl
      have g3 : DataW.trod enc Tryd.prog w base spare held n 4 (([c0, c1, c2, c3, c4, c5, c6].drop 3).take (Tryd.prog.cellsOf 4)) = some y3 := hf 3 _ rfl
      have g4 : DataW.trod enc Tryd.prog w base spare held n 3 (([c0, c1, c2, c3, c4, c5, c6].drop 4).take (Tryd.prog.cellsOf 3)) = some y4 := hf 4 _ rfl
      have g5 : DataW.trod enc Tryd.prog w base spare held n 3 (([c0, c1, c2, c3, c4, c5, c6].drop 5).take (Tryd.prog.cellsOf 3)) = some y5 := hf 5 _ rfl
      have g6 : DataW.trod enc Tryd.prog w base spare held n 3 (([c0, c1, c2, c3, c4, c5, c6].drop 6).take (Tryd.prog.cellsOf 3)) = some y6 := hf 6 _ rfl
      rw [h1] at g0 g1 g2 g4 g5 g6
      rw [h1b] at g3
      obtain ⟨n0, e0, _⟩ := DataW.trod_int Tryd.underlying3 g0
      obtain ⟨n1, e1, _⟩ := DataW.trod_int Tryd.underlying3 g1
      obtain ⟨n2, e2, _⟩ := DataW.trod_int Tryd.underlying3 g2
      obtain ⟨n3, e3, _⟩ := DataW.trod_bool Tryd.underlying4 g3
      obtain ⟨n4, e4, _⟩ := DataW.trod_int Tryd.underlying3 g4
      obtain ⟨n5, e5, _⟩ := DataW.trod_int Tryd.underlying3 g5
      obtain ⟨n6, e6, _⟩ := DataW.trod_int Tryd.underlying3 g6
      simp at e0 e1 e2 e3 e4 e5 e6
      subst e0 e1 e2 e3 e4 e5 e6
      exact ⟨⟨n0, n1, n2, n3, n4, n5, n6⟩, rfl⟩

theorem open_steps {fuel : Nat} {cs : List Value} {x : DataW H × List MemPlace} (h : DataW.trod enc Tryd.prog w base spare held fuel 34 cs = some x) :
    ∃ (a : Option Addr) (cap : Nat) (l : List Stp), cs = [.slice a l.length cap] ∧ StpAt w a l ∧ l.length ≤ 9223372036854775807 := by
  rcases open_slice Tryd.underlying34 h with ⟨rfl, _⟩ | ⟨a, len, cap, m, n, D, Pl, rfl, hb, hl, hm, hmm, rfl, hx⟩
  · exact ⟨none, 0, [], rfl, fun i hi => by simp at hi, by simp⟩
  · have h7 : Tryd.prog.cellsOf 38 = 7 := by kernel_rfl
    rw [h7] at hx
    have hlm : len ≤ m := by subst hmm; split <;> omega
    obtain ⟨R, hR⟩ := choose_lt (α := Stp) (n := len) (p := fun i r => ∃ cs', w.cells? base (a.add (i * 7)) 7 = some cs' ∧ cs' = [.int .i64 r.what, .int .i64 r.a, .int .i64 r.b, .bool r.across, .int .i64 r.by_, .int .i64 r.rows, .int .i64 r.cols]) (fun i hi => by
      obtain ⟨cs', h1, h2⟩ := hx i (by omega)
      obtain ⟨r, hr⟩ := step_elem h2
      exact ⟨r, cs', h1, hr⟩)
    refine ⟨some a, cap, (List.range len).map R, by simp, fun i hi => ?_, by unfold maxLen at hm; simp; omega⟩
    have hi' : i < len := by simpa using hi
    obtain ⟨b, o, spot⟩ := a
    have hspot : spot = none := by
      obtain ⟨cs', h1, rfl⟩ := hR 0 (by omega)
      have := (World.cells?_some h1).2.2 0 (by omega)
      exact by simpa [Addr.add] using World.cell?_spot this
    subst hspot
    obtain ⟨cs', h1, rfl⟩ := hR i hi'
    have hc := (World.cells?_some h1).2.2
    have hadd : ∀ j, ((⟨b, o, none⟩ : Addr).add (i * 7)).add j = ⟨b, o + i * 7 + j, none⟩ := fun j => by
      unfold Addr.add; repeat' split
      all_goals simp_all
    have c0 := hc 0 (by omega); have c1 := hc 1 (by omega); have c2 := hc 2 (by omega); have c3 := hc 3 (by omega); have c4 := hc 4 (by omega); have c5 := hc 5 (by omega); have c6 := hc 6 (by omega)
    rw [hadd] at c0 c1 c2 c3 c4 c5 c6
    refine ⟨b, o, rfl, ?_, ?_, ?_, ?_, ?_, ?_, ?_⟩ <;> simp only [List.getElem_map, List.getElem_range]
    · exact c0
    · exact c1
    · exact c2
    · exact c3
    · exact c4
    · exact c5
    · exact c6
end

end Go.Proofs.YtflbfmfaccaffaaDoor
