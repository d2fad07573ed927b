/-
  slices.Sort of addresses.
-/
import Derived.Test.YtnlblmpfkikneaaS8
namespace Go.Proofs.Ytnlblmpfkikneaa
open Go Go.RowKit Go.Sort
attribute [local go_sem] extUpon
attribute [local go_sem ↓] eval_put_ne eval_put_none eval_put_same size_put eval_const
section
variable {B : World} {g n cap : Nat}
theorem bits_small {n : Nat} (h : n < 50) : bitsLen n ≤ 6 := (bitsLen_le_iff n 6).2 (by omega)

set_option maxHeartbeats 4000000 in
set_option maxRecDepth 100000 in
theorem sort_any (d : Array Int) (W : World) (hd : d.size = n) (hn : n < 50) (hS : SR B g d W) :
    Calls Try.prog 33 #[.slice (some ⟨g, 0, none⟩) n cap] W fun e w' => e = .returned (.tuple #[]) ∧ SR B g (Sort.sort ltInt d) w' := by
  have hLen : ∀ w, Calls Try.prog 37 #[.int .u64 (n : Int)] w fun e w' => e = .returned (.int .i64 (bitsLen n : Nat)) ∧ w' = w := fun w => by
    have h := Try.bits_Len (n : Int) w (by omega) (by omega)
    rwa [Int.toNat_natCast, bitLen_eq _ (by omega)] at h
  have hb := bits_small hn
  have hp := pdq_any (B := B) (g := g) (n := n) (cap := cap) hn (n + 1) 0 n (bitsLen n) d W (by omega) hd (Nat.zero_le _) (Nat.le_refl _) (by omega) (.inl rfl) hS
  have e : Sort.sort ltInt d = pdq ltInt d 0 n (bitsLen n) true true := by unfold Sort.sort; rw [hd]
  rw [← e] at hp
  have HP := hid hp
  have HL := hid hLen
  clear hp hLen e hS
  generalize bitsLen n = m at *
  go_enter Try.func33, Try.ntmps33
  go_wp2_with fail
  refine (HL.out _).mono ?_
  rintro e w1 ⟨rfl, rfl⟩
  go_wp2_with fail
  refine HP.out.mono ?_
  rintro e w2 ⟨rfl, hs⟩
  have S2 := hid hs
  clear hs
  go_wp2_with fail
  go_end0
  exact ⟨rfl, S2.out⟩

set_option maxRecDepth 100000 in
theorem ins_none (W : World) : Calls Try.prog 38 #[.slice none 0 0, .int .i64 0, .int .i64 0] W fun e w' => e = .returned (.tuple #[]) ∧ w' = W := by
  go_enter Try.func38, Try.ntmps38
  go_wp2_with fail
  go_loopw [6] (fun iv wr => iv = .int .i64 1 ∧ wr = W) (fun _ _ => 0)
  case atStart => exact ⟨rfl, rfl⟩
  case round =>
    obtain ⟨rfl, rfl⟩ := hrel
    go_wp2_with fail
    go_end0
    exact ⟨rfl, rfl⟩
set_option maxRecDepth 100000 in
theorem pdq_none (W : World) : Calls Try.prog 36 #[.slice none 0 0, .int .i64 0, .int .i64 0, .int .i64 0] W fun e w' => e = .returned (.tuple #[]) ∧ w' = W := by
  go_enter Try.func36, Try.ntmps36
  go_wp2_with fail
  go_loopw [1, 2, 3, 8, 9] (fun s1 s2 s3 s8 s9 wr => s1 = .int .i64 0 ∧ s2 = .int .i64 0 ∧ s3 = .int .i64 0 ∧ s8 = .bool true ∧ s9 = .bool true ∧ wr = W) (fun _ _ _ _ _ _ => 0)
  case atStart => exact ⟨rfl, rfl, rfl, rfl, rfl, rfl⟩
  case round =>
    obtain ⟨rfl, rfl, rfl, rfl, rfl, rfl⟩ := hrel
    go_wp2_with fail
    refine (ins_none _).mono ?_
    rintro e w1 ⟨rfl, rfl⟩
    go_wp2_with fail
    (try simp only [Exit.inBlock, Exit.then])
    refine bodyPost_ret (results_none rfl _ _ _) rfl ?_
    exact ⟨rfl, rfl⟩
set_option maxRecDepth 100000 in
theorem sort_none (W : World) : Calls Try.prog 33 #[.slice none 0 0] W fun e w' => e = .returned (.tuple #[]) ∧ w' = W := by
  have hLen : ∀ w, Calls Try.prog 37 #[.int .u64 0] w fun e w' => e = .returned (.int .i64 0) ∧ w' = w := fun w => by
    have h := Try.bits_Len 0 w (by omega) (by omega)
    have e : Lib.bitLen (0 : Int).toNat = 0 := by decide
    rw [e] at h
    exact h
  have HL := hid hLen
  clear hLen
  go_enter Try.func33, Try.ntmps33
  go_wp2_with fail
  refine (HL.out _).mono ?_
  rintro e w1 ⟨rfl, rfl⟩
  go_wp2_with fail
  refine (pdq_none _).mono ?_
  rintro e w2 ⟨rfl, rfl⟩
  go_wp2_with fail
  go_end0
  exact ⟨rfl, rfl⟩
end
end Go.Proofs.Ytnlblmpfkikneaa
