/-
  How many stand in a term: the plain law.
-/
import Derived.Test.YtegmnbcfanjocaaTerms0
import Derived.Test.YtegmnbcfanjocaaSz
namespace Go.Proofs.Ytegmnbcfanjocaa
open Go Go.RowKit

/-- Each size beside its term. -/
def Sized (p : List Tm × List Int) : Prop := 0 < p.1.length ∧ p.2 = p.1.map sz ∧ ∀ t ∈ p.1, sz t ≤ 60

theorem sAt_sz {p : List Tm × List Int} (h : Sized p) (k : Int) : sAt p.1 p.2 k = sz (tAt p.1 k) := by
  have h1 := Int.emod_nonneg k (b := p.1.length) (by have := h.1; omega)
  have h2 := Int.emod_lt_of_pos k (b := p.1.length) (by have := h.1; omega)
  have h3 : (k % p.1.length).toNat < p.1.length := by omega
  unfold sAt tAt
  rw [h.2.1, List.getD_eq_getElem?_getD, List.getD_eq_getElem?_getD, List.getElem?_map, List.getElem?_eq_getElem h3]
  rfl

theorem mkS_sz {p : List Tm × List Int} (h : Sized p) (r : Raw) : mkS r p.1 p.2 = sz (mkT r p.1) := by
  have a := sAt_sz h r.a; have b := sAt_sz h r.b; have c := sAt_sz h r.c
  unfold mkS mkT
  repeat' split
  all_goals simp only [sz, a, b, c]

theorem stepT_sized {p : List Tm × List Int} (h : Sized p) (r : Raw) : Sized (stepT p r) := by
  unfold stepT
  have hs := mkS_sz h r
  split
  · refine ⟨by simp, by simp [h.2.1, sz], fun t ht => ?_⟩
    rcases List.mem_append.1 ht with ht | ht
    · exact h.2.2 t ht
    · simp at ht; subst ht; simp [sz]
  · refine ⟨by simp, by rw [hs]; simp [h.2.1], fun t ht => ?_⟩
    rcases List.mem_append.1 ht with ht | ht
    · exact h.2.2 t ht
    · simp at ht; subst ht; omega

theorem foldT_sized : ∀ (l : List Raw) (p : List Tm × List Int), Sized p → Sized (l.foldl stepT p)
  | [], _, h => h
  | r :: l, _, h => foldT_sized l _ (stepT_sized h r)

theorem terms_sz (l : List Raw) : ∀ t ∈ terms l, sz t ≤ 60 := (foldT_sized (l.take 40) ([.empty], [1]) ⟨by simp, rfl, by simp [sz]⟩).2.2
theorem terms_ne (l : List Raw) : ∀ t ∈ terms l, t ≠ .non := buildT_ne (l.take 40)
theorem terms_len (l : List Raw) : 0 < (terms l).length ∧ (terms l).length ≤ 41 := by
  have := buildT_len (l.take 40)
  have h2 : (l.take 40).length ≤ 40 := List.length_take_le _ _
  unfold terms; omega

end Go.Proofs.Ytegmnbcfanjocaa
