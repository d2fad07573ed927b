/-
  Steps and times that came in, opened.
-/
import Derived.Test.YtnlblmpfkikneaaM6
import Derived.ProofKit
import Derived.OpenShut
import Derived.Deep.Slices
namespace Go.Proofs.Ytnlblmpfkikneaa
open Go Go.RowKit Go.Deep

theorem laidOut : laidOutB Try.prog = true := by kernel_rfl
theorem own : ownKnob Try.prog.godebug = none := by kernel_rfl

structure LStp where
  what : Int
  addr : Int
  now : Nat
structure LStp.Ok (r : LStp) : Prop where
  addr : U32 r.addr
  now : r.now < 18446744073709551616
def LStpAt (w : World) (a : Option Addr) (l : List LStp) : Prop := ∀ i (h : i < l.length), l[i].Ok ∧ ∃ b o, a = some ⟨b, o, none⟩ ∧ w.cell? ⟨b, o + i * 3, none⟩ = some (.int .i64 l[i].what) ∧
  w.cell? ⟨b, o + i * 3 + 1, none⟩ = some (.int .u32 l[i].addr) ∧ w.cell? ⟨b, o + i * 3 + 2, none⟩ = some (.int .u64 l[i].now)
theorem LStpAt.later {w w2 : World} {a : Option Addr} {l : List LStp} (h : LStpAt w a l) (he : Ext w w2) : LStpAt w2 a l := fun i hi => by
  obtain ⟨h0, b, o, ha, h1, h2, h3⟩ := h i hi
  exact ⟨h0, b, o, ha, he.cell h1, he.cell h2, he.cell h3⟩
def U64At (w : World) (a : Option Addr) (l : List Nat) : Prop := ∀ i (h : i < l.length), l[i] < 18446744073709551616 ∧ ∃ b o, a = some ⟨b, o, none⟩ ∧ w.cell? ⟨b, o + i, none⟩ = some (.int .u64 l[i])
theorem U64At.later {w w2 : World} {a : Option Addr} {l : List Nat} (h : U64At w a l) (he : Ext w w2) : U64At w2 a l := fun i hi => by
  obtain ⟨h0, b, o, ha, h1⟩ := h i hi
  exact ⟨h0, b, o, ha, he.cell h1⟩

theorem wf64 {a : Int} (h : (Lit.int .u64 a).wf = true) : 0 ≤ a ∧ a < 18446744073709551616 := by
  simp [Lit.wf, IntKind.min, IntKind.max, IntKind.signed, IntKind.bits] at h; omega
theorem wf32 {a : Int} (h : (Lit.int .u32 a).wf = true) : U32 a := by
  simp [Lit.wf, IntKind.min, IntKind.max, IntKind.signed, IntKind.bits] at h; unfold U32; omega

instance : Inhabited LStp := ⟨⟨0, 0, 0⟩⟩
section
variable {H : Type} {enc : TypeId × Value → H} {w : World} {base : Nat} {spare : Nat → Bool} {held : Bool}

theorem lstep_elem {fuel : Nat} {cs : List Value} {x : DataW H × List MemPlace} (h : DataW.trod enc Try.prog w base spare held fuel 33 cs = some x) :
    ∃ r : LStp, cs = [.int .i64 r.what, .int .u32 r.addr, .int .u64 r.now] ∧ r.Ok := by
  obtain ⟨xs, n, _, _, hl, hlen, hf⟩ := DataW.trod_struct Try.underlying33 h
  have h3 : Try.prog.cellsOf 33 = 3 := by kernel_rfl
  have h1 : Try.prog.cellsOf 3 = 1 := by kernel_rfl
  have h1b : Try.prog.cellsOf 31 = 1 := by kernel_rfl
  have h1c : Try.prog.cellsOf 22 = 1 := by kernel_rfl
  rw [h3] at hl
  match cs, hl with
  | [c0, c1, c2], _ =>
    match xs, hlen with
    | [y0, y1, y2], _ =>
      have g0 : DataW.trod enc Try.prog w base spare held n 3 (([c0, c1, c2].drop 0).take (Try.prog.cellsOf 3)) = some y0 := hf 0 _ rfl
      have g1 : DataW.trod enc Try.prog w base spare held n 31 (([c0, c1, c2].drop 1).take (Try.prog.cellsOf 31)) = some y1 := hf 1 _ rfl
      have g2 : DataW.trod enc Try.prog w base spare held n 22 (([c0, c1, c2].drop 2).take (Try.prog.cellsOf 22)) = some y2 := hf 2 _ rfl
      rw [h1] at g0
      rw [h1b] at g1
      rw [h1c] at g2
      obtain ⟨n0, e0, _⟩ := DataW.trod_int Try.underlying3 g0
      obtain ⟨n1, e1, _, w1⟩ := DataW.trod_int Try.underlying31 g1
      obtain ⟨n2, e2, _, w2⟩ := DataW.trod_int Try.underlying22 g2
      simp at e0 e1 e2
      subst e0 e1 e2
      have h5 := wf64 w2
      exact ⟨⟨n0, n1, n2.toNat⟩, by simp; omega, wf32 w1, by simp only []; omega⟩

theorem open_lsteps {fuel : Nat} {cs : List Value} {x : DataW H × List MemPlace} (h : DataW.trod enc Try.prog w base spare held fuel 23 cs = some x) :
    ∃ (a : Option Addr) (cap : Nat) (l : List LStp), cs = [.slice a l.length cap] ∧ LStpAt w a l ∧ l.length ≤ 9223372036854775807 := by
  rcases open_slice Try.underlying23 h with ⟨rfl, _⟩ | ⟨a, len, cap, m, n, D, Pl, rfl, hb, hl, hm, hmm, rfl, hx⟩
  · exact ⟨none, 0, [], rfl, fun i hi => by simp at hi, by simp⟩
  · have h7 : Try.prog.cellsOf 33 = 3 := by kernel_rfl
    rw [h7] at hx
    have hlm : len ≤ m := by subst hmm; split <;> omega
    obtain ⟨R, hR⟩ := choose_lt (α := LStp) (n := len) (p := fun i r => ∃ cs', w.cells? base (a.add (i * 3)) 3 = some cs' ∧ cs' = [.int .i64 r.what, .int .u32 r.addr, .int .u64 r.now] ∧ r.Ok) (fun i hi => by
      obtain ⟨cs', h1, h2⟩ := hx i (by omega)
      obtain ⟨r, hr⟩ := lstep_elem h2
      exact ⟨r, cs', h1, hr⟩)
    refine ⟨some a, cap, (List.range len).map R, by simp, fun i hi => ?_, by unfold maxLen at hm; simp; omega⟩
    have hi' : i < len := by simpa using hi
    obtain ⟨b, o, spot⟩ := a
    have hspot : spot = none := by
      obtain ⟨cs', h1, rfl, _⟩ := hR 0 (by omega)
      have := (World.cells?_some h1).2.2 0 (by omega)
      exact by simpa [Addr.add] using World.cell?_spot this
    subst hspot
    obtain ⟨cs', h1, rfl, hok⟩ := hR i hi'
    have hc := (World.cells?_some h1).2.2
    have hadd : ∀ j, ((⟨b, o, none⟩ : Addr).add (i * 3)).add j = ⟨b, o + i * 3 + j, none⟩ := fun j => by
      unfold Addr.add; repeat' split
      all_goals simp_all
    have c0 := hc 0 (by omega); have c1 := hc 1 (by omega); have c2 := hc 2 (by omega)
    rw [hadd] at c0 c1 c2
    simp only [List.getElem_map, List.getElem_range]
    exact ⟨hok, b, o, rfl, c0, c1, c2⟩

theorem open_u64s {fuel : Nat} {cs : List Value} {x : DataW H × List MemPlace} (h : DataW.trod enc Try.prog w base spare held fuel 38 cs = some x) :
    ∃ (a : Option Addr) (cap : Nat) (l : List Nat), cs = [.slice a l.length cap] ∧ U64At w a l ∧ l.length ≤ 9223372036854775807 := by
  rcases open_slice Try.underlying38 h with ⟨rfl, _⟩ | ⟨a, len, cap, m, n, D, Pl, rfl, hb, hl, hm, hmm, rfl, hx⟩
  · exact ⟨none, 0, [], rfl, fun i hi => by simp at hi, by simp⟩
  · have h7 : Try.prog.cellsOf 22 = 1 := by kernel_rfl
    rw [h7] at hx
    have hlm : len ≤ m := by subst hmm; split <;> omega
    obtain ⟨R, hR⟩ := choose_lt (α := Nat) (n := len) (p := fun i r => ∃ cs', w.cells? base (a.add (i * 1)) 1 = some cs' ∧ cs' = [.int .u64 (r : Int)] ∧ r < 18446744073709551616) (fun i hi => by
      obtain ⟨cs', h1, h2⟩ := hx i (by omega)
      obtain ⟨n2, e2, _, w2⟩ := DataW.trod_int Try.underlying22 h2
      have h5 := wf64 w2
      refine ⟨n2.toNat, cs', h1, ?_, by omega⟩
      rw [e2]
      simp; omega)
    refine ⟨some a, cap, (List.range len).map R, by simp, fun i hi => ?_, by unfold maxLen at hm; simp; omega⟩
    have hi' : i < len := by simpa using hi
    obtain ⟨b, o, spot⟩ := a
    have hspot : spot = none := by
      obtain ⟨cs', h1, rfl, _⟩ := hR 0 (by omega)
      have := (World.cells?_some h1).2.2 0 (by omega)
      exact by simpa [Addr.add] using World.cell?_spot this
    subst hspot
    obtain ⟨cs', h1, rfl, hok⟩ := hR i hi'
    have hc := (World.cells?_some h1).2.2
    have hadd : ∀ j, ((⟨b, o, none⟩ : Addr).add (i * 1)).add j = ⟨b, o + i + j, none⟩ := fun j => by
      unfold Addr.add; repeat' split
      all_goals simp_all
    have c0 := hc 0 (by omega)
    rw [hadd] at c0
    simp only [List.getElem_map, List.getElem_range]
    exact ⟨hok, b, o, rfl, c0⟩
end

end Go.Proofs.Ytnlblmpfkikneaa
