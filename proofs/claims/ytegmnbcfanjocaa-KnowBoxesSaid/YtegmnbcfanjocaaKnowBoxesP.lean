/-
  KnowBoxes: the plain law.
-/
import Derived.Test.YtegmnbcfanjocaaK17
namespace Go.Proofs.Ytegmnbcfanjocaa
open Go Go.RowKit
variable {f : Int → List UInt8}

theorem l10_great : ∀ u, u < 2000 → 1000 ≤ u → 3 ≤ Lib.l10 (Lib.bitLen u) := by decide +kernel
theorem l10_less : ∀ u, u < 5 → Lib.l10 (Lib.bitLen u) = 0 := by decide +kernel
/-- A number below a thousand is written in three digits at least, one near zero in one at most: whatever the table. -/
theorem far_num (T : Nat → Int) (z m : Int) (hz : -1999 ≤ z ∧ z ≤ -1000) (hm : -4 ≤ m ∧ m ≤ 4) : itoaT T z ≠ itoaT T m := by
  intro h
  have hs := ((nums_tab T).sign z m (by unfold Small; omega) (by unfold Small; omega) h)
  have hm0 : m < 0 := by omega
  unfold itoaT at h
  rw [if_pos (by omega), if_pos hm0] at h
  have h2 := congrArg List.length (List.cons.inj h).2
  rw [dg_len T (by omega), dg_len T (by omega)] at h2
  unfold nd at h2
  have h3 := l10_great z.natAbs (by omega) (by omega)
  have h4 := l10_less m.natAbs (by omega)
  rw [h4] at h2
  split at h2 <;> split at h2 <;> omega

theorem Tm.lit.sub : ∀ {t : Tm}, t.lit → ∀ u ∈ subs t, u.lit
  | .non, h, _, _ => h.elim
  | .atom n, h, u, hu => by simp only [subs, List.mem_singleton] at hu; subst hu; exact h
  | .pub n, h, u, hu => by simp only [subs, List.mem_singleton] at hu; subst hu; exact h
  | .shared a b, h, u, hu => by simp only [subs, List.mem_singleton] at hu; subst hu; exact h
  | .empty, h, u, hu => by simp only [subs, List.mem_singleton] at hu; subst hu; exact h
  | .chain i x y, h, u, hu => by
    simp only [subs, List.mem_cons, List.mem_append] at hu
    rcases hu with rfl | hu | hu
    · exact h
    · exact Tm.lit.sub h.2.1 u hu
    · exact Tm.lit.sub h.2.2 u hu
  | .digest x y, h, u, hu => by
    simp only [subs, List.mem_cons, List.mem_append] at hu
    rcases hu with rfl | hu | hu
    · exact h
    · exact Tm.lit.sub h.1 u hu
    · exact Tm.lit.sub h.2 u hu
  | .box k n a t, h, u, hu => by
    simp only [subs, List.mem_cons, List.mem_append] at hu
    rcases hu with rfl | hu | hu | hu
    · exact h
    · exact Tm.lit.sub h.2.1 u hu
    · exact Tm.lit.sub h.2.2.1 u hu
    · exact Tm.lit.sub h.2.2.2 u hu

def bx (x : Tm) (z : Int) : Tm := .box x 0 .empty (.atom z)
theorem ok_bx {x : Tm} {z : Int} (hx : x.ok P0) (hz : -1999 ≤ z ∧ z ≤ -1000) : (bx x z).ok P0 := ⟨by unfold P0; omega, hx, trivial, by show Small z; unfold Small; omega⟩
theorem fine_bx {x : Tm} {z : Int} (hx : x.ok P0) (hs : sz x ≤ 60) (hz : -1999 ≤ z ∧ z ≤ -1000) : Fine P0 (bx x z) := ⟨ok_bx hx hz, by unfold bx; simp only [sz]; omega⟩
theorem lit_no {z : Int} (hz : ∀ m, -4 ≤ m ∧ m ≤ 4 → f z ≠ f m) (N : Nums f P0) (hz1 : -1999 ≤ z ∧ z ≤ -1000) {v : Tm} (hv : v.lit) (h : nm f v = nm f (.atom z)) : False := by
  have h1 := nm_sim N hv.ok (show Tm.ok P0 (.atom z) by show Small z; unfold Small; omega) h
  cases v <;> simp only [Sim] at h1
  case atom m => exact hz m hv h1.1.symm
theorem bx_no (N : Nums f P0) {z : Int} (hz : ∀ m, -4 ≤ m ∧ m ≤ 4 → f z ≠ f m) (hz1 : -1999 ≤ z ∧ z ≤ -1000) {x v : Tm} (hx : x.ok P0) (hv : v.lit) (h : nm f v = nm f (bx x z)) : False := by
  have h1 := nm_sim N hv.ok (ok_bx hx hz1) h
  cases v <;> simp only [Sim, bx] at h1
  case box k n a t => exact lit_no hz N hz1 hv.2.2.2 h1.2.2.2
def Ub (f : Int → List UInt8) (ts : List Tm) (x : Tm) (z : Int) : List (List UInt8) := ts.map (nm f) ++ [nm f (bx x z), nm f .empty, nm f (.atom z)]
theorem univ_ub (N : Nums f P0) {ts : List Tm} (hM : Made ts) {x : Tm} {z : Int} (hx : x.ok P0) (hz1 : -1999 ≤ z ∧ z ≤ -1000) : Univ f P0 (Ub f ts x z) := by
  intro k m a t hF h
  simp only [Ub, List.mem_append, List.mem_cons, List.not_mem_nil, or_false] at h ⊢
  rcases h with h | h | h | h
  · have := univ_ts N hM k m a t hF h
    exact ⟨.inl this.1, .inl this.2⟩
  · obtain ⟨_, _, h2, h3⟩ := nm_sim N hF.ok (ok_bx hx hz1) h
    exact ⟨.inr (.inr (.inl h2)), .inr (.inr (.inr h3))⟩
  · exact (nm_sim N hF.ok (show Tm.ok P0 .empty from trivial) h).elim
  · exact (nm_sim N hF.ok (show Tm.ok P0 (.atom z) by show Small z; unfold Small; omega) h).elim

theorem boxes0 (N : Nums f P0) {ts : List Tm} (hM : Made ts) {n : Nat} {sec : Int → Bool} {S : List UInt8 → Bool} (hS : S = names f (ts.take n)) {z : Int} (hz : ∀ m, -4 ≤ m ∧ m ≤ 4 → f z ≠ f m) (hz1 : -1999 ≤ z ∧ z ≤ -1000) : can f sec S (.atom z) = false := by
  subst hS
  have h1 : names f (ts.take n) (nm f (.atom z)) = false := not_in fun h => by
    obtain ⟨v, hs, hl, _⟩ := named_in hM h
    exact lit_no hz N hz1 hl hs
  have h2 : ¬ 0 ≤ z := by omega
  simp [can, h1, h2]
theorem boxes1 (N : Nums f P0) {ts : List Tm} (hM : Made ts) {n : Nat} {sec : Int → Bool} {S S2 : List UInt8 → Bool} (hS : S = names f (ts.take n)) {z : Int} (hz : ∀ m, -4 ≤ m ∧ m ≤ 4 → f z ≠ f m) (hz1 : -1999 ≤ z ∧ z ≤ -1000) {x : Tm} (hx : x.lit) (hs : sz x ≤ 60)
    (h : Cl f P0 sec (plus S (nm f (bx x z))) S2) : can f sec S2 (.atom z) = can f sec S x := by
  have hF := fine_bx (z := z) hx.ok hs hz1
  have oz : Tm.ok P0 (.atom z) := by show Small z; unfold Small; omega
  cases hc : can f sec S x with
  | true =>
    have h1 := h.closed _ _ _ _ hF (h.le _ (plus_self _ _))
    exact can_here oz.ne (h1.2 (can_mono (fun _ h => h) (fun s hs => h.le s (plus_le _ _ _ hs)) x hc))
  | false =>
    have hpl : ∀ s, plus (plus S (nm f (bx x z))) (nm f .empty) s = true → S s = true ∨ s = nm f (bx x z) ∨ s = nm f .empty := fun s hs => by
      unfold plus at hs
      simp only [Bool.or_eq_true, decide_eq_true_eq] at hs
      rcases hs with (hs | hs) | hs
      · exact .inl hs
      · exact .inr (.inl hs)
      · exact .inr (.inr hs)
    have hcx : can f sec (plus (plus S (nm f (bx x z))) (nm f .empty)) x ≠ true := fun e => by
      have := can_le x (S := S) (fun u hu hm => by
        have hul := hx.sub u hu
        rcases hpl _ hm with h5 | h5 | h5
        · exact can_here hul.ok.ne h5
        · exact (bx_no N hz hz1 hx.ok hul h5).elim
        · have h6 := nm_sim N hul.ok (show Tm.ok P0 .empty from trivial) h5
          cases u <;> simp only [Sim] at h6
          rfl) e
      rw [hc] at this; cases this
    have key := h.least (plus (plus S (nm f (bx x z))) (nm f .empty)) (by
      intro k m a t hF2 hC
      rcases hpl _ hC with h5 | h5 | h5
      · subst hS
        have hp := parts_in N hM hF2.ok h5
        exact ⟨plus_le _ _ _ (plus_le _ _ _ (hp a (by simp [parts1]))), fun _ => plus_le _ _ _ (plus_le _ _ _ (hp t (by simp [parts1])))⟩
      · obtain ⟨_, h1, h2, h3⟩ := nm_sim N hF2.ok (ok_bx hx.ok hz1) h5
        refine ⟨by rw [h2]; exact plus_self _ _, fun hk => ?_⟩
        rw [can_nm N sec _ hF2.ok.2.1 hx.ok h1] at hk
        exact (hcx hk).elim
      · exact (nm_sim N hF2.ok (show Tm.ok P0 .empty from trivial) h5).elim) (fun s hs => plus_le _ _ _ hs)
    have hn : S2 (nm f (.atom z)) = false := not_in fun e => by
      rcases hpl _ (key _ e) with h5 | h5 | h5
      · subst hS
        obtain ⟨v, hs, hl, _⟩ := named_in hM h5
        exact lit_no hz N hz1 hl hs
      · exact (nm_sim N oz (ok_bx hx.ok hz1) h5).elim
      · exact (nm_sim N oz (show Tm.ok P0 .empty from trivial) h5).elim
    have h2 : ¬ 0 ≤ z := by omega
    simp [can, hn, h2]

end Go.Proofs.Ytegmnbcfanjocaa
