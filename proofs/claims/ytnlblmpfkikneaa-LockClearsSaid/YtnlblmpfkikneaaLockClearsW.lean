/-
  The walk of LockClears.
-/
import Derived.Test.YtnlblmpfkikneaaM7
import Derived.Test.YtnlblmpfkikneaaPick
namespace Go.Proofs.Ytnlblmpfkikneaa
open Go Go.RowKit Go.Maps
attribute [local go_sem] extUpon
attribute [local go_sem ↓] eval_put_ne eval_put_none eval_put_same size_put eval_const

def Cnt (v : TV) : Prop := v.n = if (v.rows 9).isSome then 1 else 0
theorem Cnt.put {v : TV} (h : Cnt v) (now : Nat) : Cnt (v.put 9 now) := by
  show (if (v.rows 9).isSome then v.n else v.n + 1) = if (rset v.rows 9 _ 9).isSome then 1 else 0
  rw [rset_self]
  unfold Cnt at h
  split <;> simp_all
theorem Cnt.less {v : TV} (h : Cnt v) : (v.less 9).n = 0 := by
  show (if (v.rows 9).isSome then v.n - 1 else v.n) = 0
  unfold Cnt at h
  split <;> simp_all
theorem row_less (v : TV) (a : Int) : (v.less a).row a = .new := by
  show (rdel v.rows a a).getD .new = _
  unfold rdel
  rw [if_pos rfl]; rfl
theorem Good.less {v : TV} {tb : Nat} {c : Cfg} {a : Int} {r : LRow} (h : Good v tb c a r) (hn : (v.less a).n = 0) : Good (v.less a) tb c a .new :=
  ⟨h.tb, h.c, row_less v a, .inr (by rw [hn]; decide)⟩

def Two (w0 W : World) (tb ub : Nat) (c : Cfg) (r q : LRow) : Prop := ∃ vs v u, Tabs w0 W vs [] ∧ vs 0 = some v ∧ vs 1 = some u ∧ Good v tb c 9 r ∧ Good u ub c 9 q
def Two0 (w0 W : World) (tb ub : Nat) (c : Cfg) : Prop := ∃ vs v u r, Tabs w0 W vs [] ∧ vs 0 = some v ∧ vs 1 = some u ∧ Good v tb c 9 r ∧ Cnt v ∧ Good u ub c 9 .new
section
variable {w0 W W2 : World} {tb ub : Nat} {c : Cfg} {r q : LRow} {now : Nat}
theorem Two.ext (h : Two w0 W tb ub c r q) : Ext w0 W := by obtain ⟨_, _, _, h, _⟩ := h; exact h.ext
theorem Two0.ext (h : Two0 w0 W tb ub c) : Ext w0 W := by obtain ⟨_, _, _, _, h, _⟩ := h; exact h.ext
theorem Two0.later (h : Two0 w0 W tb ub c) (he : Ext W W2) : Two0 w0 W2 tb ub c := by
  obtain ⟨vs, v, u, r, h, h2⟩ := h
  exact ⟨vs, v, u, r, h.later he, h2⟩
theorem Two0.fail (h : Two0 w0 W tb ub c) (hu : U32 9) (hnow : now < 18446744073709551616) :
    Calls Try.prog 13 #[ptr tb, .int .u32 9, .int .u64 now] W fun e w' => (∃ b, e = .returned (.bool b)) ∧ Two0 w0 w' tb ub c := by
  obtain ⟨vs, v, u, r, h, h2, h3, h4, h5, h6⟩ := h
  have hf := h.fail h2 hu hnow h4.room
  rw [h4.tb] at hf
  refine hf.mono ?_
  rintro e w' ⟨rfl, hT, _⟩
  exact ⟨⟨_, rfl⟩, _, _, u, _, hT, vupd_self _ _ _, by rw [vupd_ne (by decide)]; exact h3, h4.put now, h5.put now, h6⟩
theorem Two0.clear (h : Two0 w0 W tb ub c) (hu : U32 9) :
    Calls Try.prog 17 #[ptr tb, .int .u32 9] W fun e w' => (∃ x, e = .returned x) ∧ Two w0 w' tb ub c .new .new ∧ (Calls Try.prog 15 #[ptr tb] w' fun e w2 => e = .returned (.int .i64 0) ∧ w2 = w') := by
  obtain ⟨vs, v, u, r, h, h2, h3, h4, h5, h6⟩ := h
  have hf := h.clear h2 hu
  rw [h4.tb] at hf
  refine hf.mono ?_
  rintro e w' ⟨hx, hT, _⟩
  refine ⟨hx, ⟨_, _, u, hT, vupd_self _ _ _, by rw [vupd_ne (by decide)]; exact h3, h4.less h5.less, h6⟩, ?_⟩
  have hl := hT.len (vupd_self _ _ _)
  rw [h5.less] at hl
  have htb : (v.less 9).tb = tb := h4.tb
  rw [htb] at hl
  exact hl
theorem Two.fail_l (h : Two w0 W tb ub c r q) (hu : U32 9) (hnow : now < 18446744073709551616) :
    Calls Try.prog 13 #[ptr tb, .int .u32 9, .int .u64 now] W fun e w' => e = .returned (.bool (r.hit c (capT now)).1) ∧ Two w0 w' tb ub c (r.hit c (capT now)).2 q := by
  obtain ⟨vs, v, u, h, h2, h3, h4, h6⟩ := h
  have hf := h.fail h2 hu hnow h4.room
  rw [h4.tb, h4.hit] at hf
  refine hf.mono ?_
  rintro e w' ⟨rfl, hT, _⟩
  exact ⟨rfl, _, _, u, hT, vupd_self _ _ _, by rw [vupd_ne (by decide)]; exact h3, h4.put now, h6⟩
theorem Two.fail_r (h : Two w0 W tb ub c r q) (hu : U32 9) (hnow : now < 18446744073709551616) :
    Calls Try.prog 13 #[ptr ub, .int .u32 9, .int .u64 now] W fun e w' => e = .returned (.bool (q.hit c (capT now)).1) ∧ Two w0 w' tb ub c r (q.hit c (capT now)).2 := by
  obtain ⟨vs, v, u, h, h2, h3, h4, h6⟩ := h
  have hf := h.fail h3 hu hnow h6.room
  rw [h6.tb, h6.hit] at hf
  refine hf.mono ?_
  rintro e w' ⟨rfl, hT, _⟩
  exact ⟨rfl, _, v, _, hT, by rw [vupd_ne (by decide)]; exact h2, vupd_self _ _ _, h4, h6.put now⟩
theorem Two.until_l (h : Two w0 W tb ub c r q) (hu : U32 9) :
    Calls Try.prog 14 #[ptr tb, .int .u32 9, .int .u64 now] W fun e w' => e = .returned (.int .u64 (tilR r now)) ∧ w' = W := by
  obtain ⟨vs, v, u, h, h2, h3, h4, h6⟩ := h
  have hf := h.until h2 hu (now := now)
  rw [h4.tb, h4.til] at hf
  exact hf
theorem Two.until_r (h : Two w0 W tb ub c r q) (hu : U32 9) :
    Calls Try.prog 14 #[ptr ub, .int .u32 9, .int .u64 now] W fun e w' => e = .returned (.int .u64 (tilR q now)) ∧ w' = W := by
  obtain ⟨vs, v, u, h, h2, h3, h4, h6⟩ := h
  have hf := h.until h3 hu (now := now)
  rw [h6.tb, h6.til] at hf
  exact hf
theorem two_new (w : World) (f wi bo : Nat) (hc : Cfg.Ok ⟨f, wi, bo⟩) :
    Calls Try.prog 11 #[.int .i64 f, .int .u64 wi, .int .u64 bo] w fun e w' => ∃ tb, e = .returned (.tuple #[ptr tb, .int .i64 0]) ∧
      Calls Try.prog 11 #[.int .i64 f, .int .u64 wi, .int .u64 bo] w' fun e w2 => ∃ ub, e = .returned (.tuple #[ptr ub, .int .i64 0]) ∧ Two0 w w2 tb ub ⟨f, wi, bo⟩ := by
  refine ((Tabs.start w).new 0 rfl f wi bo hc).mono ?_
  rintro e w' ⟨tb, rfl, hT, _⟩
  refine ⟨tb, rfl, (hT.new 1 (by rw [vupd_ne (by decide)]) f wi bo hc).mono ?_⟩
  rintro e w2 ⟨ub, rfl, hT2, _⟩
  exact ⟨ub, rfl, _, _, _, _, hT2, by rw [vupd_ne (by decide)]; exact vupd_self _ _ _, vupd_self _ _ _, Good.new _ _ _, rfl, Good.new _ _ _⟩
end

set_option maxHeartbeats 2000000 in
set_option maxRecDepth 100000 in
theorem LockClears_walk (fails : Int) (window backoff : Nat) (n : Int) (w : World) (hw : window < 18446744073709551616) (hb : backoff < 18446744073709551616) :
    Calls Try.prog 9 #[.int .i64 fails, .int .u64 window, .int .u64 backoff, .int .i64 n] w fun e w' => e = .returned (.bool true) ∧ Ext w w' := by
  have hu : U32 9 := by unfold U32; omega
  obtain ⟨f, hf, hf6⟩ : ∃ f : Nat, fails % 5 = (f : Int) ∧ f < 5 := ⟨(fails % 5).toNat, by omega, by omega⟩
  obtain ⟨rn, hrn, hr12⟩ : ∃ f : Nat, n % 30 = (f : Int) ∧ f < 30 := ⟨(n % 30).toNat, by omega, by omega⟩
  have HRN := hid hrn
  clear hrn
  go_enter Try.func9, Try.ntmps9
  go_wp2_with fail
  refine (pick_any _ _ _ (by omega) (by omega)).mono ?_
  rintro e w' ⟨rfl, rfl⟩
  rw [hf]
  clear hf
  obtain ⟨fn, v1, hfn1, hfn2⟩ : ∃ fn : Nat, 1 + (f : Int) = (fn : Int) ∧ 1 ≤ fn ∧ fn ≤ 6 := ⟨f + 1, by omega, by omega, by omega⟩
  obtain ⟨wi, v3, hwi1, hwi2⟩ : ∃ wi : Nat, 1 + (window : Int) % 50 = (wi : Int) ∧ 1 ≤ wi ∧ wi ≤ 50 := ⟨1 + window % 50, by omega, by omega, by omega⟩
  obtain ⟨bo, v4, hbo1, hbo2⟩ : ∃ bo : Nat, 1 + (backoff : Int) % 50 = (bo : Int) ∧ 1 ≤ bo ∧ bo ≤ 50 := ⟨1 + backoff % 50, by omega, by omega, by omega⟩
  have hc : Cfg.Ok ⟨fn, wi, bo⟩ := ⟨by show 1 ≤ fn; omega, by show fn ≤ 20; omega, hwi1, by show wi ≤ 100000; omega, hbo1, by show bo ≤ 100000; omega⟩
  have HC := hid hc
  clear hc
  go_wp2_with fail
  refine (two_new w fn wi bo HC.out).mono ?_
  rintro e w1 ⟨tb, rfl, hN⟩
  have HN := hid hN
  clear hN
  unfold ptr
  go_wp2_with fail
  refine HN.out.mono ?_
  rintro e w2 ⟨ub, rfl, hT⟩
  have HT := hid hT
  clear hT HN v1 v3 v4
  unfold ptr
  go_wp2_with fail
  refine (known18 _).mono ?_
  rintro e w2 ⟨rfl, hE⟩
  replace HT := hid (HT.out.later hE)
  clear hE
  go_wp2_with fail
  go_loopw [13] (fun iv wr => ∃ i : Nat, iv = .int .i64 i ∧ i ≤ rn ∧ Hid (Two0 w wr tb ub ⟨fn, wi, bo⟩)) (fun iv _ => rn - (intOf iv).toNat)
  case atStart => exact ⟨0, rfl, by omega, HT⟩
  case round =>
    clear HT
    obtain ⟨i, rfl, hi, HT⟩ := hrel
    go_wp2_with fail
    refine (pick_any _ _ _ (by omega) (by omega)).mono ?_
    rintro e w' ⟨rfl, rfl⟩
    rw [HRN.out]
    by_cases hkr : i < rn
    · have hkr2 : (i : Int) < (rn : Int) := by omega
      go_wp2_with fail
      refine (HT.out.fail hu (now := 5) (by omega)).mono ?_
      rintro e w3 ⟨⟨b, rfl⟩, hT⟩
      have HT2 := hid hT
      clear hT HT
      go_wp2_with fail
      go_roundw
      case rel => exact ⟨i + 1, by go_num, by omega, HT2⟩
      case measure => simp [intOf]; omega
    · have hkr2 : ¬ (i : Int) < (rn : Int) := by omega
      go_wp2_with fail
      refine (HT.out.clear hu).mono ?_
      rintro e w3 ⟨⟨x, rfl⟩, hT, hL⟩
      have HT2 := hid hT
      have HL := hid hL
      clear hT hL HT
      have t1 : tilR .new 5 = 0 := if_pos (Nat.zero_le _)
      go_wp2_with fail
      refine (HT2.out.until_l hu (now := 5)).mono ?_
      rw [t1]
      rintro e w4 ⟨rfl, rfl⟩
      clear t1
      go_wp2_with fail
      refine HL.out.mono ?_
      rintro e w4 ⟨rfl, rfl⟩
      clear HL
      go_wp2_with fail
      go_loopw [14] (fun iv wr => ∃ (i : Nat) (r : LRow), iv = .int .i64 i ∧ i ≤ 12 ∧ Hid (Two w wr tb ub ⟨fn, wi, bo⟩ r r)) (fun iv _ => 12 - (intOf iv).toNat)
      case atStart => exact ⟨0, .new, rfl, by omega, HT2⟩
      case round =>
        clear HT2
        obtain ⟨j, r, rfl, hj, HT⟩ := hrel
        by_cases hjr : j < 12
        · have hjr2 : (j : Int) < 12 := by omega
          obtain ⟨m, hj6, hm18⟩ : ∃ m : Nat, 6 + (j : Int) = (m : Int) ∧ m ≤ 18 := ⟨6 + j, by omega, by omega⟩
          go_wp2_with fail
          refine (HT.out.fail_l hu (now := m) (by omega)).mono ?_
          rintro e w3 ⟨rfl, hT⟩
          have HT2 := hid hT
          clear hT HT
          go_wp2_with fail
          refine (HT2.out.fail_r hu (now := m) (by omega)).mono ?_
          rintro e w4 ⟨rfl, hT⟩
          have HT3 := hid hT
          clear hT HT2
          generalize (r.hit ⟨fn, wi, bo⟩ (capT m)).2 = r2 at *
          generalize (r.hit ⟨fn, wi, bo⟩ (capT m)).1 = b2 at *
          go_wp2_with fail
          refine (HT3.out.until_l hu (now := m)).mono ?_
          rintro e w5 ⟨rfl, rfl⟩
          go_wp2_with fail
          refine (HT3.out.until_r hu (now := m)).mono ?_
          rintro e w5 ⟨rfl, rfl⟩
          generalize tilR r2 m = tl
          go_wp2_with fail
          go_roundw
          case rel => exact ⟨j + 1, r2, by go_num, by omega, HT3⟩
          case measure => simp [intOf]; omega
        · have hjr2 : ¬ (j : Int) < 12 := by omega
          go_wp2_with fail
          go_ret
          exact ⟨rfl, HT.out.ext⟩

end Go.Proofs.Ytnlblmpfkikneaa
