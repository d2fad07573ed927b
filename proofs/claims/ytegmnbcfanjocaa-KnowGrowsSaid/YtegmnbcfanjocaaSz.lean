/-
  How many stand in a term.
-/
import Derived.Test.YtegmnbcfanjocaaSize
namespace Go.Proofs.Ytegmnbcfanjocaa
open Go Go.RowKit

def sz : Tm → Int
  | .non => 1
  | .atom _ => 1
  | .pub _ => 1
  | .shared _ _ => 1
  | .chain _ f w => 1 + sz f + sz w
  | .digest f w => 1 + sz f + sz w
  | .box k _ a t => 1 + sz k + sz a + sz t
  | .empty => 1

theorem sz_pos : ∀ t : Tm, 1 ≤ sz t
  | .non | .atom _ | .pub _ | .shared _ _ | .empty => by simp [sz]
  | .chain _ f w => by have := sz_pos f; have := sz_pos w; simp only [sz]; omega
  | .digest f w => by have := sz_pos f; have := sz_pos w; simp only [sz]; omega
  | .box k _ a t => by have := sz_pos k; have := sz_pos a; have := sz_pos t; simp only [sz]; omega

theorem szf_sz : ∀ (t : Tm) (n : Int), 0 ≤ n → n ≤ 10000 → szf t n = min (n + sz t) 10000
  | .non, n, h0, h1 => by simp only [szf, sz]; split <;> omega
  | .atom _, n, h0, h1 => by simp only [szf, sz]; split <;> omega
  | .pub _, n, h0, h1 => by simp only [szf, sz]; split <;> omega
  | .shared _ _, n, h0, h1 => by simp only [szf, sz]; split <;> omega
  | .empty, n, h0, h1 => by simp only [szf, sz]; split <;> omega
  | .chain _ f w, n, h0, h1 => by
    have := sz_pos f; have := sz_pos w
    simp only [szf, sz]; split
    · omega
    · rw [szf_sz f _ (by omega) (by omega), szf_sz w _ (by omega) (by omega)]; omega
  | .digest f w, n, h0, h1 => by
    have := sz_pos f; have := sz_pos w
    simp only [szf, sz]; split
    · omega
    · rw [szf_sz f _ (by omega) (by omega), szf_sz w _ (by omega) (by omega)]; omega
  | .box k _ a t, n, h0, h1 => by
    have := sz_pos k; have := sz_pos a; have := sz_pos t
    simp only [szf, sz]; split
    · omega
    · rw [szf_sz k _ (by omega) (by omega), szf_sz a _ (by omega) (by omega), szf_sz t _ (by omega) (by omega)]; omega

theorem szf_small {t : Tm} (h : sz t ≤ 10000) : szf t 0 = sz t := by
  have := sz_pos t
  rw [szf_sz t 0 (by omega) (by omega)]; omega

end Go.Proofs.Ytegmnbcfanjocaa
