/-
  The walk of LockForgets.
-/
import Derived.Test.YtnlblmpfkikneaaM7
import Derived.Test.YtnlblmpfkikneaaLkRow
import Derived.Test.YtnlblmpfkikneaaPick
namespace Go.Proofs.Ytnlblmpfkikneaa
open Go Go.RowKit Go.Maps
attribute [local go_sem] extUpon
attribute [local go_sem ↓] eval_put_ne eval_put_none eval_put_same size_put eval_const

theorem hit_far {c : Cfg} (hf : 2 ≤ c.fails) (l : List Nat) (now til times : Nat) (h : ∀ x ∈ l, x + c.window ≤ now) : LRow.hit c ⟨l, til, times⟩ now = (false, ⟨[now], til, times⟩) := by
  unfold LRow.hit
  simp only [still_none now c.window l (fun x hx => by have := h x hx; omega)]
  rw [if_pos (by simp; omega)]
  rfl
def nowF : Nat → Nat
  | 0 => 1
  | k + 1 => nowF k + 149
theorem nowF_le : ∀ k, k < 40 → nowF k ≤ 10000 := by decide +kernel
set_option maxHeartbeats 2000000 in
set_option maxRecDepth 100000 in
theorem LockForgets_walk (fails : Int) (window backoff : Nat) (n : Int) (av : Option Addr) (cap : Nat) (l : List Nat) (w : World) (hw : window < 18446744073709551616) (hb : backoff < 18446744073709551616)
    (hl : l.length ≤ 9223372036854775807) (hg : U64At w av l) :
    Calls Try.prog 5 #[.int .i64 fails, .int .u64 window, .int .u64 backoff, .int .i64 n, .slice av l.length cap] w fun e w' => e = .returned (.bool true) ∧ Ext w w' := by
  have hu : U32 9 := by unfold U32; omega
  have HG := hid hg
  clear hg
  obtain ⟨f, hf, hf6⟩ : ∃ f : Nat, fails % 4 = (f : Int) ∧ f < 4 := ⟨(fails % 4).toNat, by omega, by omega⟩
  obtain ⟨rn, hrn, hr12⟩ : ∃ f : Nat, n % 40 = (f : Int) ∧ f < 40 := ⟨(n % 40).toNat, by omega, by omega⟩
  have HRN := hid hrn
  clear hrn
  go_enter Try.func5, Try.ntmps5
  go_wp2_with fail
  refine (pick_any _ _ _ (by omega) (by omega)).mono ?_
  rintro e w' ⟨rfl, rfl⟩
  rw [hf]
  clear hf
  have v1 : IntKind.i64.wrap (2 + (f : Int)) = ((f + 2 : Nat) : Int) := by rw [IntKind.wrap_i64]; omega
  obtain ⟨fn, hfn, hfn1, hfn2⟩ : ∃ fn : Nat, f + 2 = fn ∧ 2 ≤ fn ∧ fn ≤ 6 := ⟨f + 2, rfl, by omega, by omega⟩
  rw [hfn] at v1
  have v1' : 2 + (f : Int) = (fn : Int) := by omega
  clear hfn
  obtain ⟨wi, v3, hwi1, hwi2⟩ : ∃ wi : Nat, 1 + (window : Int) % 50 = (wi : Int) ∧ 1 ≤ wi ∧ wi ≤ 50 := ⟨1 + window % 50, by omega, by omega, by omega⟩
  obtain ⟨bo, v4, hbo1, hbo2⟩ : ∃ bo : Nat, 1 + (backoff : Int) % 50 = (bo : Int) ∧ 1 ≤ bo ∧ bo ≤ 50 := ⟨1 + backoff % 50, by omega, by omega, by omega⟩
  have hc : Cfg.Ok ⟨fn, wi, bo⟩ := ⟨by show 1 ≤ fn; omega, by show fn ≤ 20; omega, hwi1, by show wi ≤ 100000; omega, hbo1, by show bo ≤ 100000; omega⟩
  have HC := hid hc
  clear hc
  go_wp2_with fail
  refine (one_new w fn wi bo 9 HC.out).mono ?_
  rintro e w1 ⟨tb, rfl, hT⟩
  have HT := hid hT
  clear hT v1 v1' v3 v4
  unfold ptr
  go_wp2_with fail
  refine (known18 _).mono ?_
  rintro e w2 ⟨rfl, hE⟩
  replace HT := hid (HT.out.later hE)
  clear hE
  go_wp2_with fail
  go_loopw [13, 14] (fun nw iv wr => ∃ (now i : Nat) (fl : List Nat), nw = .int .u64 now ∧ iv = .int .i64 i ∧ i ≤ rn ∧ Hid (now ≤ nowF i) ∧ Hid (∀ x ∈ fl, x + wi ≤ now) ∧ Hid (One w wr tb ⟨fn, wi, bo⟩ 9 ⟨fl, 0, 0⟩)) (fun _ iv _ => rn - (intOf iv).toNat)
  case atStart => exact ⟨1, 0, [], rfl, rfl, by omega, hid (Nat.le_refl 1), hid (by simp), HT⟩
  case round =>
    clear HT
    obtain ⟨now, i, fl, rfl, rfl, hi, HNB, HFL, HT⟩ := hrel
    go_wp2_with fail
    refine (pick_any _ _ _ (by omega) (by omega)).mono ?_
    rintro e w' ⟨rfl, rfl⟩
    rw [HRN.out]
    by_cases hkr : i < rn
    · have hkr2 : (i : Int) < (rn : Int) := by omega
      have hn : now ≤ 10000 := Nat.le_trans HNB.out (nowF_le i (by omega))
      have t1 : tilR ⟨[now], 0, 0⟩ now = 0 := by unfold tilR; rw [if_pos (Nat.zero_le _)]
      have T1 := hid t1
      clear t1
      go_wp2_with fail
      refine (HT.out.fail hu (now := now) (by omega)).mono ?_
      rw [cap_le (by omega), hit_far hfn1 fl now 0 0 HFL.out]
      rintro e w3 ⟨rfl, hT⟩
      have HT2 := hid hT
      clear hT HT
      go_wp2_with fail
      refine (HT2.out.until hu (now := now)).mono ?_
      rw [T1.out]
      rintro e w4 ⟨rfl, rfl⟩
      by_cases hgl : i < l.length
      · have hgl2 : (i : Int) < (l.length : Int) := by omega
        obtain ⟨hg0, gb, go, rfl, hgc⟩ := HG.out i hgl
        replace hgc := HT2.out.ext.cell hgc
        generalize l[i] = g at *
        go_wp2_with fail
        go_roundw
        case rel =>
          have hx : now + wi + g % 100 ≤ nowF i + 149 := by have := HNB.out; omega
          exact ⟨now + wi + g % 100, i + 1, [now], by go_num, by go_num, by omega, hid hx, hid (by intro x hx; simp at hx; omega), HT2⟩
        case measure => simp [intOf]; omega
      · have hgl2 : ¬ (i : Int) < (l.length : Int) := by omega
        go_wp2_with fail
        go_roundw
        case rel =>
          have hx : now + wi ≤ nowF i + 149 := by have := HNB.out; omega
          exact ⟨now + wi, i + 1, [now], by go_num, by go_num, by omega, hid hx, hid (by intro x hx; simp at hx; omega), HT2⟩
        case measure => simp [intOf]; omega
    · have hkr2 : ¬ (i : Int) < (rn : Int) := by omega
      go_wp2_with fail
      go_ret
      exact ⟨rfl, HT.out.ext⟩

end Go.Proofs.Ytnlblmpfkikneaa
