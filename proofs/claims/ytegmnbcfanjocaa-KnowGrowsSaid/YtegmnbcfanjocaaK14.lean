/-
  Chapter 13's example: the plain law.
-/
import Derived.Test.YtegmnbcfanjocaaK3
namespace Go.Proofs.Ytegmnbcfanjocaa
open Go Go.RowKit
variable {f : Int → List UInt8}

theorem p0 {n : Int} (h : 0 ≤ n ∧ n < 100 := by decide) : P0 n := h
def box7 : Tm := .box (.shared 3 5) 0 .empty (.atom (-7))
theorem ok_sh : Tm.ok P0 (.shared 3 5) := ⟨p0, p0⟩
theorem ok_at7 : Tm.ok P0 (.atom (-7)) := by show Small (-7); unfold Small; omega
theorem ok_em : Tm.ok P0 .empty := trivial
theorem ok_box7 : Tm.ok P0 box7 := ⟨p0, ok_sh, ok_em, ok_at7⟩
theorem ok_p3 : Tm.ok P0 (.pub 3) := p0
theorem fine_box7 : Fine P0 box7 := ⟨ok_box7, by decide⟩
theorem fine_p3 : Fine P0 (.pub 3) := ⟨ok_p3, by decide⟩
def seen7 : List Tm := [.pub 3, box7]
def U7 (f : Int → List UInt8) : List (List UInt8) := [nm f (.pub 3), nm f box7, nm f .empty, nm f (.atom (-7))]
theorem univ7 (N : Nums f P0) : ∀ k n a t, Fine P0 (.box k n a t) → nm f (.box k n a t) ∈ U7 f → nm f a ∈ U7 f ∧ nm f t ∈ U7 f := by
  intro k n a t hF h
  simp only [U7, List.mem_cons, List.not_mem_nil, or_false] at h
  rcases h with h | h | h | h
  · exact (nm_sim N hF.ok ok_p3 h).elim
  · obtain ⟨_, _, h2, h3⟩ := nm_sim N hF.ok ok_box7 h
    rw [h2, h3]
    simp [U7]
  · exact (nm_sim N hF.ok ok_em h).elim
  · exact (nm_sim N hF.ok ok_at7 h).elim
theorem known_a {x : Int → Bool} {S A : List UInt8 → Bool} (h : Cl f P0 x A S) (hA : A (nm f box7) = true) (hx : x 5 = true) : can f x S (.atom (-7)) = true :=
  can_here (by simp) ((h.closed _ _ _ _ fine_box7 (h.le _ hA)).2 (by simp [can, hx]))
theorem known_b (N : Nums f P0) {x : Int → Bool} {S A : List UInt8 → Bool} (h : Cl f P0 x A S) (hA : ∀ s, A s = true → s = nm f (.pub 3) ∨ s = nm f box7) (hx : ∀ n, x n = false) : can f x S (.atom (-7)) = false := by
  have key := h.least (fun s => decide (s = nm f (.pub 3)) || decide (s = nm f box7) || decide (s = nm f .empty)) ?_ ?_
  · have hn : S (nm f (.atom (-7))) ≠ true := fun e => by
      have h5 := key _ e
      simp only [Bool.or_eq_true, decide_eq_true_eq] at h5
      rcases h5 with (h5 | h5) | h5
      · exact (nm_sim N ok_at7 ok_p3 h5).elim
      · exact (nm_sim N ok_at7 ok_box7 h5).elim
      · exact (nm_sim N ok_at7 ok_em h5).elim
    have hn2 : S (nm f (.atom (-7))) = false := by simpa using hn
    simp [can, hn2]
  · intro k n a t hF hC
    simp only [Bool.or_eq_true, decide_eq_true_eq] at hC
    rcases hC with (h5 | h5) | h5
    · exact (nm_sim N hF.ok ok_p3 h5).elim
    · obtain ⟨_, h1, h2, h3⟩ := nm_sim N hF.ok ok_box7 h5
      refine ⟨by simp [h2], fun hc => ?_⟩
      rw [can_nm N x _ hF.ok.2.1 ok_sh h1] at hc
      simp only [can, hx, Bool.or_false, Bool.or_eq_true, decide_eq_true_eq] at hc
      rcases hc with (h6 | h6) | h6
      · exact (nm_sim N ok_sh ok_p3 h6).elim
      · exact (nm_sim N ok_sh ok_box7 h6).elim
      · exact (nm_sim N ok_sh ok_em h6).elim
    · exact (nm_sim N hF.ok ok_em h5).elim
  · intro s hs
    rcases hA s hs with h5 | h5 <;> simp [h5]

end Go.Proofs.Ytegmnbcfanjocaa
