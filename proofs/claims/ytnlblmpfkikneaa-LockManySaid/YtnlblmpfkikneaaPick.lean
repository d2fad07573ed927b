/-
  portholehand.Pick: a number brought within bounds.
-/
import Derived.Test.YtnlblmpfkikneaaRows
import Derived.Test.YtnlblmpfkikneaaReg
namespace Go.Proofs.Ytnlblmpfkikneaa
open Go Go.RowKit

theorem tmod_bd (n m : Int) (hm : 0 < m) : -m < n.tmod m ∧ n.tmod m < m ∧ (n.tmod m = n % m ∨ (n.tmod m = n % m - m ∧ n % m ≠ 0)) := by
  rw [Int.tmod_eq_emod]
  have h1 : (m.natAbs : Int) = m := by omega
  have h2 := Int.emod_nonneg n (show m ≠ 0 by omega)
  have h3 := Int.emod_lt_of_pos n hm
  by_cases h : 0 ≤ n ∨ m ∣ n
  · rw [if_pos h]; omega
  · rw [if_neg h, h1]
    have h5 : n % m ≠ 0 := fun h' => h (.inr (Int.dvd_of_emod_eq_zero h'))
    omega

theorem pick_eq (n m : Int) (hm : 0 < m) : (if n.tmod m < 0 then n.tmod m + m else n.tmod m) = n % m := by
  have h := tmod_bd n m hm
  have h2 := Int.emod_nonneg n (show m ≠ 0 by omega)
  have h3 := Int.emod_lt_of_pos n hm
  by_cases hneg : n.tmod m < 0
  · rw [if_pos hneg]; omega
  · rw [if_neg hneg]; omega

theorem pick_any (n m : Int) (w : World) (hm0 : 0 < m) (hm1 : m ≤ 1000000000) :
    Calls Try.prog 10 #[.int .i64 n, .int .i64 m] w fun e w' => e = .returned (.int .i64 (n % m)) ∧ w = w' := by
  have hlo : -m < n.tmod m := (tmod_bd n m hm0).1
  have hhi : n.tmod m < m := (tmod_bd n m hm0).2.1
  by_cases hneg : n.tmod m < 0
  · have H := hid (show n.tmod m + m = n % m by have := pick_eq n m hm0; rwa [if_pos hneg] at this)
    go_enter Try.func10, Try.ntmps10
    go_wp2
    go_ret
    exact ⟨by rw [← H.out]; rfl, rfl⟩
  · have H := hid (show n.tmod m = n % m by have := pick_eq n m hm0; rwa [if_neg hneg] at this)
    go_enter Try.func10, Try.ntmps10
    go_wp2
    go_ret
    exact ⟨by rw [← H.out]; rfl, rfl⟩

end Go.Proofs.Ytnlblmpfkikneaa
