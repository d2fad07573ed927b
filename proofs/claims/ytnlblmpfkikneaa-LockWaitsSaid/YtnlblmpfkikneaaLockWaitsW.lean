/-
  The walk of LockWaits.
-/
import Derived.Test.YtnlblmpfkikneaaM7
import Derived.Test.YtnlblmpfkikneaaPick
namespace Go.Proofs.Ytnlblmpfkikneaa
open Go Go.RowKit Go.Maps
attribute [local go_sem] extUpon
attribute [local go_sem ↓] eval_put_ne eval_put_none eval_put_same size_put eval_const

def nowB : Nat → Nat
  | 0 => 5
  | k + 1 => nowB k + 51200
theorem nowB_le : ∀ k, k < 12 → nowB k ≤ 600000 := by decide +kernel
set_option maxHeartbeats 2000000 in
set_option maxRecDepth 100000 in
theorem LockWaits_walk (fails : Int) (window backoff : Nat) (rounds : Int) (w : World) (hw : window < 18446744073709551616) (hb : backoff < 18446744073709551616) :
    Calls Try.prog 4 #[.int .i64 fails, .int .u64 window, .int .u64 backoff, .int .i64 rounds] w fun e w' => e = .returned (.bool true) ∧ Ext w w' := by
  have hu : U32 9 := by unfold U32; omega
  obtain ⟨f, hf, hf6⟩ : ∃ f : Nat, fails % 6 = (f : Int) ∧ f < 6 := ⟨(fails % 6).toNat, by omega, by omega⟩
  obtain ⟨rn, hrn, hr12⟩ : ∃ f : Nat, rounds % 12 = (f : Int) ∧ f < 12 := ⟨(rounds % 12).toNat, by omega, by omega⟩
  have HRN := hid hrn
  clear hrn
  go_enter Try.func4, Try.ntmps4
  go_wp2_with fail
  refine (pick_any _ _ _ (by omega) (by omega)).mono ?_
  rintro e w' ⟨rfl, rfl⟩
  rw [hf]
  clear hf
  have v1 : IntKind.i64.wrap (1 + (f : Int)) = ((f + 1 : Nat) : Int) := by rw [IntKind.wrap_i64]; omega
  have v2 : IntKind.u64.wrap ((f + 1 : Nat) : Int) = ((f + 1 : Nat) : Int) := by rw [IntKind.wrap_u64]; omega
  obtain ⟨fn, hfn, hfn1, hfn2⟩ : ∃ fn : Nat, f + 1 = fn ∧ 1 ≤ fn ∧ fn ≤ 6 := ⟨f + 1, rfl, by omega, by omega⟩
  rw [hfn] at v1 v2
  clear hfn
  obtain ⟨wi, v3, hwi1, hwi2⟩ : ∃ wi : Nat, IntKind.u64.wrap ((fn : Int) + (window : Int) % 50) = (wi : Int) ∧ 1 ≤ wi ∧ wi ≤ 100 := ⟨fn + window % 50, by rw [IntKind.wrap_u64]; omega, by omega, by omega⟩
  obtain ⟨bo, v4, hbo1, hbo2⟩ : ∃ bo : Nat, 1 + (backoff : Int) % 100 = (bo : Int) ∧ 1 ≤ bo ∧ bo ≤ 100 := ⟨1 + backoff % 100, by omega, by omega, by omega⟩
  have hc : Cfg.Ok ⟨fn, wi, bo⟩ := ⟨hfn1, by show fn ≤ 20; omega, hwi1, by show wi ≤ 100000; omega, hbo1, by show bo ≤ 100000; omega⟩
  have HC := hid hc
  clear hc
  go_wp2_with fail
  refine (one_new w fn wi bo 9 HC.out).mono ?_
  rintro e w1 ⟨tb, rfl, hT⟩
  have HT := hid hT
  clear hT v1 v2 v3 v4
  unfold ptr
  go_wp2_with fail
  refine (known18 _).mono ?_
  rintro e w2 ⟨rfl, hE⟩
  replace HT := hid (HT.out.later hE)
  clear hE
  go_wp2_with fail
  go_loopw [11, 12, 13] (fun nw lg kv wr => ∃ now long k til : Nat, nw = .int .u64 now ∧ lg = .int .u64 long ∧ kv = .int .i64 k ∧ k ≤ rn ∧ Hid (long = bo * 2 ^ (min k 9)) ∧ long ≤ 51200 ∧ 1 ≤ long ∧ Hid (now ≤ nowB k) ∧ til ≤ now ∧ Hid (One w wr tb ⟨fn, wi, bo⟩ 9 ⟨[], til, min k 10⟩)) (fun _ _ kv _ => rn - (intOf kv).toNat)
  case atStart => exact ⟨5, bo, 0, 0, rfl, rfl, rfl, by omega, hid (by simp), by omega, by omega, hid (Nat.le_refl 5), by omega, HT⟩
  case round =>
    clear HT
    obtain ⟨now, long, k, til, rfl, rfl, rfl, hk, HLG, hl1, hl2, HNB, htil, HT⟩ := hrel
    go_wp2_with fail
    refine (pick_any _ _ _ (by omega) (by omega)).mono ?_
    rintro e w' ⟨rfl, rfl⟩
    rw [HRN.out]
    by_cases hkr : k < rn
    · have hkr2 : (k : Int) < (rn : Int) := by omega
      have hn : now ≤ 600000 := Nat.le_trans HNB.out (nowB_le k (by omega))
      go_wp2_with fail
      go_loopw [14] (fun iv wr2 => ∃ i : Nat, iv = .int .i64 i ∧ 1 ≤ i ∧ i ≤ fn ∧ Hid (One w wr2 tb ⟨fn, wi, bo⟩ 9 ⟨List.replicate (i - 1) now, til, min k 10⟩)) (fun iv _ => fn - (intOf iv).toNat)
      case atStart => exact ⟨1, rfl, by omega, by omega, HT⟩
      case round =>
        clear HT
        obtain ⟨i, rfl, hi1, hi2, HT⟩ := hrel
        by_cases hif : i < fn
        · have hif2 : (i : Int) < (fn : Int) := by omega
          go_wp2_with fail
          refine (HT.out.fail hu (now := now) (by omega)).mono ?_
          rw [cap_le (by omega), hit_more HC.out (i - 1) now til _ (by show i - 1 + 1 < fn; omega)]
          rintro e w3 ⟨rfl, hT⟩
          rw [show i - 1 + 1 = (i + 1) - 1 by omega] at hT
          have HT2 := hid hT
          clear hT
          go_wp2_with fail
          go_roundw
          case rel => exact ⟨i + 1, by go_num, by omega, by omega, HT2⟩
          case measure => simp [intOf]; omega
        · have hif2 : ¬ (i : Int) < (fn : Int) := by omega
          obtain rfl : i = fn := by omega
          obtain ⟨T, hTn, hT1, hT2⟩ : ∃ T : Nat, T = now + long ∧ now < T ∧ T ≤ 1000000 := ⟨now + long, rfl, by omega, by omega⟩
          have hadd : (now : Int) + (long : Int) = (T : Int) := by omega
          obtain ⟨T0, hsub, hT0⟩ : ∃ T0 : Nat, (T : Int) - 1 = (T0 : Int) ∧ T0 + 1 = T := ⟨T - 1, by omega, by omega⟩
          have hH := hit_lock HC.out (i - 1) now til (min k 10) (by show ¬ i - 1 + 1 < i; omega)
          rw [show now + (Cfg.mk i wi bo).backoff * 2 ^ (min (min k 10 + 1) 10 - 1) = T by rw [hTn, HLG.out, show min (min k 10 + 1) 10 - 1 = min k 9 by omega], cap_le (by omega), show min (min k 10 + 1) 10 = min (k + 1) 10 by omega] at hH
          have HH := hid hH
          have hn5 : T ≤ nowB k + 51200 := by have := HNB.out; omega
          have HN5 : Hid (T ≤ nowB (k + 1)) := hid hn5
          have HLE := hid (Nat.le_refl T)
          clear hTn hn5
          have t1 : tilR ⟨List.replicate (i - 1) now, til, min k 10⟩ now = 0 := by unfold tilR; rw [if_pos (by rw [cap_le (by omega)]; exact htil)]
          have t2 : tilR ⟨[], T, min (k + 1) 10⟩ now = T := by unfold tilR; rw [if_neg (by rw [cap_le (by omega)]; show ¬ T ≤ now; omega)]
          have t3 : tilR ⟨[], T, min (k + 1) 10⟩ T = 0 := by unfold tilR; rw [if_pos (by rw [cap_le (by omega)]; exact Nat.le_refl _)]
          have t4 : tilR ⟨[], T, min (k + 1) 10⟩ T0 = T := by unfold tilR; rw [if_neg (by rw [cap_le (by omega)]; show ¬ T ≤ T0; omega)]
          have T1 := hid t1
          have T2 := hid t2
          have T3 := hid t3
          have T4 := hid t4
          clear t1 t2 t3 t4 hH hT0
          go_wp2_with fail
          refine (HT.out.until hu (now := now)).mono ?_
          rw [T1.out]
          rintro e w3 ⟨rfl, rfl⟩
          go_wp2_with fail
          refine (HT.out.fail hu (now := now) (by omega)).mono ?_
          rw [cap_le (by omega), HH.out]
          rintro e w4 ⟨rfl, hT⟩
          have HT2 := hid hT
          clear hT HT
          go_wp2_with fail
          refine (HT2.out.until hu (now := now)).mono ?_
          rw [T2.out]
          rintro e w3 ⟨rfl, rfl⟩
          go_wp2_with fail
          refine (HT2.out.until hu (now := T)).mono ?_
          rw [T3.out]
          rintro e w3 ⟨rfl, rfl⟩
          go_wp2_with fail
          refine (HT2.out.until hu (now := T0)).mono ?_
          rw [T4.out]
          rintro e w3 ⟨rfl, rfl⟩
          by_cases hk9 : k < 9
          · have hk92 : (k : Int) < 9 := by omega
            have hpw : 2 ^ k ≤ 2 ^ 8 := Nat.pow_le_pow_right (by decide) (by omega)
            have hlg : long = bo * 2 ^ k := by rw [HLG.out, show min k 9 = k by omega]
            have hlb : bo * 2 ^ k ≤ 100 * 2 ^ 8 := Nat.mul_le_mul hbo2 hpw
            have hl5 : 2 * long ≤ 51200 := by omega
            have HLG2 : Hid (2 * long = bo * 2 ^ (min (k + 1) 9)) := hid (by rw [hlg, show min (k + 1) 9 = k + 1 by omega, Nat.pow_succ]; rw [Nat.mul_comm 2, Nat.mul_assoc])
            clear hlb hlg hpw
            go_wp2_with fail
            go_roundw
            case rel => exact ⟨T, 2 * long, k + 1, T, rfl, by go_num, by go_num, by omega, HLG2, hl5, by omega, HN5, HLE.out, HT2⟩
            case measure => simp [intOf]; omega
          · have hk92 : ¬ (k : Int) < 9 := by omega
            have HLG2 : Hid (long = bo * 2 ^ (min (k + 1) 9)) := hid (by rw [HLG.out, show min (k + 1) 9 = min k 9 by omega])
            go_wp2_with fail
            go_roundw
            case rel => exact ⟨T, long, k + 1, T, rfl, rfl, by go_num, by omega, HLG2, hl1, by omega, HN5, HLE.out, HT2⟩
            case measure => simp [intOf]; omega
    · have hkr2 : ¬ (k : Int) < (rn : Int) := by omega
      go_wp2_with fail
      go_ret
      exact ⟨rfl, HT.out.ext⟩

end Go.Proofs.Ytnlblmpfkikneaa
