/-
  Sorting addresses.
-/
import Derived.Test.YtnlblmpfkikneaaS2
import Derived.Test.YtnlblmpfkikneaaS4
import Derived.Test.YtnlblmpfkikneaaS5
import Derived.Test.YtnlblmpfkikneaaS7
import Derived.Sort.Walk13a
import Derived.Sort.AssemblyPlain
namespace Go.Proofs.Ytnlblmpfkikneaa
open Go Go.RowKit Go.Sort
attribute [local go_sem] extUpon
attribute [local go_sem ↓] eval_put_ne eval_put_none eval_put_same size_put eval_const
theorem hCode_two {h : Hint} (e : hCode h = 2) : h = .decreasing := by cases h <;> simp [hCode] at e ⊢
theorem eighth_at {x y p q : Nat} (h1 : q ≤ p) (h2 : y ≤ x) : decide (((x : Int) - (y : Int)) / 8 ≤ (p : Int) - (q : Int)) = decide (p - q ≥ (x - y) / 8) :=
  decide_eq_decide.2 ⟨fun h => by omega, fun h => by omega⟩
section
variable {B : World} {g n cap : Nat}

set_option maxHeartbeats 32000000 in
set_option maxRecDepth 1000000 in
theorem pdq_any (hn : n < 50) : ∀ (N a b limit : Nat) (d : Array Int) (W : World), b - a < N → d.size = n → a ≤ b → b ≤ n → limit ≤ 100 → Below ltInt a b d → SR B g d W →
    Calls Try.prog 36 #[.slice (some ⟨g, 0, none⟩) n cap, .int .i64 a, .int .i64 b, .int .i64 limit] W fun e w' => e = .returned (.tuple #[]) ∧ SR B g (pdq ltInt d a b limit true true) w' := by
  intro N
  induction N with
  | zero => intro _ _ _ _ _ h; exact absurd h (Nat.not_lt_zero _)
  | succ N ih =>
    intro a b limit d W hN hd hab hb hlim hBel hS
    have S0 := hid hS
    have IH := hid ih
    have HB0 := hid hBel
    clear ih hS hBel
    go_enter Try.func36, Try.ntmps36
    go_wp2_with fail
    go_loopg [1, 2, 3, 8, 9] (b - a) (fun k s1 s2 s3 s8 s9 wr => ∃ (x y lim : Nat) (wb wp : Bool) (dk : Array Int), s1 = .int .i64 x ∧ s2 = .int .i64 y ∧ s3 = .int .i64 lim ∧ s8 = .bool wb ∧ s9 = .bool wp ∧
      x ≤ y ∧ y ≤ n ∧ y - x ≤ k ∧ k ≤ b - a ∧ lim ≤ 100 ∧ dk.size = n ∧ Hid (Below ltInt x y dk) ∧ Hid (SR B g dk wr) ∧ Hid (pdq ltInt dk x y lim wb wp = pdq ltInt d a b limit true true))
    case atStart => exact ⟨a, b, limit, true, true, d, rfl, rfl, rfl, rfl, rfl, hab, hb, Nat.le_refl _, Nat.le_refl _, hlim, hd, HB0, S0, hid rfl⟩
    case round =>
      clear S0 HB0
      obtain ⟨x, y, lim, wb, wp, dk, rfl, rfl, rfl, rfl, rfl, hxy, hy, hk, hkN, hlm, hds, HB, SX, A⟩ := hrel
      obtain ⟨L, hL⟩ : ∃ q, q = y - x := ⟨_, rfl⟩
      have z1 : IntKind.i64.wrap ((y : Int) - (x : Int)) = (L : Int) := by rw [IntKind.wrap_i64]; omega
      have HLN := hid hL
      have bL : L < 50 := by omega
      by_cases h12 : y - x ≤ 12
      · have h12z : (L : Int) ≤ 12 := by omega
        clear hL
        go_wp2_with fail
        refine (ins_any dk x y _ hds (by omega) hxy hy SX.out).mono ?_
        rintro e w1 ⟨rfl, hs⟩
        have S1 := hid hs
        clear hs
        go_wp2_with fail
        (try simp only [Exit.inBlock, Exit.then])
        refine bodyPost_ret (results_none rfl _ _ _) rfl ?_
        exact ⟨rfl, by rw [← A.out, pdq_small h12]; exact S1.out⟩
      · have h12z : ¬ (L : Int) ≤ 12 := by omega
        clear hL
        by_cases hl0 : lim = 0
        · subst hl0
          go_wp2_with fail
          refine (heap_any dk x y _ hds (by omega) (by omega) hy SX.out).mono ?_
          rintro e w1 ⟨rfl, hs⟩
          have S1 := hid hs
          clear hs
          go_wp2_with fail
          (try simp only [Exit.inBlock, Exit.then])
          refine bodyPost_ret (results_none rfl _ _ _) rfl ?_
          exact ⟨rfl, by rw [← A.out, pdq_heap h12 rfl]; exact S1.out⟩
        · have hl0z : ((lim : Int) == 0) = false := by simp; omega
          obtain ⟨R, hR⟩ : ∃ R, R = rd ltInt dk x y lim wb wp := ⟨_, rfl⟩
          have hf := rd_facts (limit := lim) (wb := wb) (wp := wp) swo_ltInt (partialInsertionSort_holds (lt := ltInt)) reverseRange_holds (show x < y by omega) (show y ≤ dk.size by omega) HB.out
          rw [← hR] at hf
          obtain ⟨s1, B1, hc1, s2, B2, hpv, s3, B3⟩ := hf
          have hll : R.lim ≤ 100 := by rw [hR]; exact Nat.le_trans rd_lim_le hlm
          have HB1 := hid B1
          have HB2 := hid B2
          have HB3 := hid B3
          have HRR := hid hR
          have n1 : R.d1.size = n := s1.trans hds
          have n2 : R.d2.size = n := s2.trans hds
          have n3 : R.pi.1.size = n := s3.trans hds
          clear hR B1 B2 B3 s1 s2 s3
          go_upto_if 35 with fail
          go_cut [3] from 19 (fun s3 wc => s3 = .int .i64 R.lim ∧ Hid (SR B g R.d1 wc))
          case first =>
            cases wb
            · go_wp2_with fail
              refine (brk_any x y hds (by omega) (by omega) hy SX.out).mono ?_
              rintro e w1 ⟨rfl, hs⟩
              have S1 := hid hs
              clear hs
              go_wp2_with fail
              go_meet
              case rel =>
                refine ⟨?_, by rw [HRR.out]; exact S1⟩
                rw [HRR.out]
                show Value.int .i64 _ = Value.int .i64 ((lim - 1 : Nat) : Int)
                congr 1
                omega
            · go_wp2_with fail
              go_meet
              case rel => exact ⟨by rw [HRR.out]; rfl, by rw [HRR.out]; exact SX⟩
          case rest =>
            obtain ⟨rfl, S1⟩ := hcut
            have hcc : R.c = choosePivot ltInt R.d1 x y := by rw [HRR.out]; rfl
            have hpiv := pivot_any (cap := cap) x y n1 hn (by omega) hy S1.out
            rw [← hcc] at hpiv
            have HPV := hid hpiv
            have HCC := hid hcc
            clear hpiv hcc S1 SX
            go_wp2_with fail
            refine HPV.out.mono ?_
            rintro e w2 ⟨rfl, hs⟩
            have S2 := hid hs
            clear hs HPV
            go_upto_if 50 with fail
            go_cut [11, 12] from 19 (fun s11 s12 wc => s11 = .int .i64 R.pivot ∧ s12 = .int .i64 (hCode R.hint) ∧ Hid (SR B g R.d2 wc))
            case first =>
              by_cases hh : R.c.2 = .decreasing
              · have hcode : hCode R.c.2 = 2 := by rw [hh]; rfl
                have e3 := rd_dec (lt := ltInt) (d := dk) (a := x) (b := y) (limit := lim) (wb := wb) (wp := wp) (by rw [← HRR.out]; exact hh)
                rw [← HRR.out] at e3
                have E3 := hid e3
                have hcc1 : R.c.1 < 50 := by omega
                clear e3 hh
                go_wp2_with fail
                refine (rev_any R.d1 x y _ n1 (by omega) (by omega) hy S2.out).mono ?_
                rintro e w3 ⟨rfl, hs⟩
                have S3 := hid hs
                clear hs
                go_wp2_with fail
                go_meet
                case rel => exact ⟨by rw [E3.out.2.1]; congr 1; omega, by rw [E3.out.2.2]; rfl, by rw [E3.out.1]; exact S3⟩
              · have hcode : (hCode R.c.2 == 2) = false := by
                  rw [beq_eq_false_iff_ne]; exact fun e => hh (hCode_two e)
                have e3 := rd_not (lt := ltInt) (d := dk) (a := x) (b := y) (limit := lim) (wb := wb) (wp := wp) (by rw [← HRR.out]; exact hh)
                rw [← HRR.out] at e3
                have E3 := hid e3
                clear e3 hh
                go_wp2_with fail
                go_meet
                case rel => exact ⟨by rw [E3.out.2.1], by rw [E3.out.2.2], by rw [E3.out.1]; exact S2⟩
            case rest =>
              obtain ⟨rfl, rfl, S3⟩ := hcut
              clear S2
              go_upto_region 15 with fail
              go_cut [12, 68] from 19 (fun s12 s68 wx => s12 = .int .i64 (hCode R.hint) ∧ s68 = .bool (wb && wp && decide (R.hint = .increasing)) ∧ wx = wc)
              case first =>
                clear A HRR
                cases wb <;> cases wp <;> cases hh3 : R.hint <;>
                  (have hcode3 := congrArg hCode hh3
                   simp only [hCode] at hcode3
                   go_wp2_with fail
                   go_meet
                   exact ⟨by simp [hh3, hCode], by simp [hh3, hCode], rfl⟩)
              case rest =>
                obtain ⟨rfl, rfl, rfl⟩ := hcut
                go_upto_if 68 with fail
                go_cut [] from 19 (fun wx => R.pi.2 = false ∧ Hid (SR B g R.pi.1 wx))
                case first =>
                  cases h68 : (wb && wp && decide (R.hint = .increasing))
                  · have epi := rd_pi_no (lt := ltInt) (d := dk) (a := x) (b := y) (limit := lim) (wb := wb) (wp := wp) (by rw [← HRR.out]; exact h68)
                    rw [← HRR.out] at epi
                    have EPI := hid epi
                    clear epi
                    go_wp2_with fail
                    go_meet
                    case rel => exact ⟨by rw [EPI.out], by rw [EPI.out]; exact S3⟩
                  · have epi := rd_pi_yes (lt := ltInt) (d := dk) (a := x) (b := y) (limit := lim) (wb := wb) (wp := wp) (by rw [← HRR.out]; exact h68)
                    rw [← HRR.out] at epi
                    have hpn := pins_any (cap := cap) R.d2 x y wc n2 hn (by omega) hy S3.out
                    rw [← epi] at hpn
                    have HPN := hid hpn
                    clear epi hpn
                    go_wp2_with fail
                    refine HPN.out.mono ?_
                    rintro e w4 ⟨rfl, hs⟩
                    have S4 := hid hs
                    clear hs HPN S3
                    cases hp2 : R.pi.2
                    · go_wp2_with fail
                      go_meet
                      case rel => exact ⟨hp2, S4⟩
                    · go_wp2_with fail
                      (try simp only [Exit.inBlock, Exit.then])
                      refine bodyPost_ret (results_none rfl _ _ _) rfl ?_
                      have hp3 : (rd ltInt dk x y lim wb wp).pi.2 = true := by rw [← HRR.out]; exact hp2
                      have e5 := pdq_done (lt := ltInt) (d := dk) (a := x) (b := y) (limit := lim) (wb := wb) (wp := wp) h12 hl0 hp3
                      rw [← HRR.out] at e5
                      exact ⟨rfl, by rw [← A.out, e5]; exact S4.out⟩
                case rest =>
                  obtain ⟨hp2, S5⟩ := hcut
                  have HP2 := hid hp2
                  clear hp2 S3
                  go_upto_region 17 with fail
                  go_cut [87] from 19 (fun s87 wx => s87 = .bool (decide (x > 0) && !ltInt R.pi.1[x - 1]! R.pi.1[R.pivot]!) ∧ Hid (SR B g R.pi.1 wx))
                  case first =>
                    by_cases hx0 : 0 < x
                    · have hx0z : (0 : Int) < (x : Int) := by omega
                      obtain ⟨xp, hxp⟩ : ∃ q, q + 1 = x := ⟨x - 1, by omega⟩
                      have zxp : IntKind.i64.wrap ((x : Int) - 1) = (xp : Int) := by rw [IntKind.wrap_i64]; omega
                      have bx : (xp : Int) < (n : Int) := by omega
                      have bp : (R.pivot : Int) < (n : Int) := by omega
                      obtain ⟨u⟩ := Pl.mk' R.pi.1 xp (by omega)
                      obtain ⟨v⟩ := Pl.mk' R.pi.1 R.pivot (by omega)
                      have HXP : Hid (x - 1 = xp) := hid (by omega)
                      clear hxp
                      cases hlv : ltInt u.val v.val
                      · have HL := hid (less_at hlv)
                        have HV : Hid (ltInt R.pi.1[x - 1]! R.pi.1[R.pivot]! = false) := hid (by rw [HXP.out, ← u.eq, ← v.eq]; exact hlv)
                        clear hlv
                        refine reg_begin 15 (by kernel_rfl) ?_
                        refine reg_hide (fun Q2 HQ => ?_)
                        generalize hW : World.drew _ = W8
                        have HE8 : Hid (Ext wc W8) := hid (by rw [← hW]; exact Ext.drew _)
                        clear hW
                        iterate 7 (refine reg_pf 15 rfl (by kernel_rfl) (by kernel_rfl) ?_; apply Exists.intro; refine ⟨fun w' => ?_, ?_⟩; · go_simp; exact rfl)
                        refine reg_quiet 7 rfl (by kernel_rfl) (by kernel_rfl) ?_; apply Exists.intro; refine ⟨fun w' hw' => ?_, ?_⟩; · have q0 : w'.cell? ⟨g, xp, none⟩ = some (.int .u32 u.val) := u.is (S5.out.later (HE8.out.trans hw')); go_simp; exact ⟨rfl, Ext.refl _⟩
                        iterate 3 (refine reg_pf 15 rfl (by kernel_rfl) (by kernel_rfl) ?_; apply Exists.intro; refine ⟨fun w' => ?_, ?_⟩; · go_simp; exact rfl)
                        refine reg_quiet 11 rfl (by kernel_rfl) (by kernel_rfl) ?_; apply Exists.intro; refine ⟨fun w' hw' => ?_, ?_⟩; · have q0 : w'.cell? ⟨g, R.pivot, none⟩ = some (.int .u32 v.val) := v.is (S5.out.later (HE8.out.trans hw')); go_simp; exact ⟨rfl, Ext.refl _⟩
                        refine reg_quiet 12 rfl (by kernel_rfl) (by kernel_rfl) ?_; apply Exists.intro; refine ⟨fun w' hw' => ?_, ?_⟩; · go_simp; exact HL.out w'
                        iterate 2 (refine reg_pf 15 rfl (by kernel_rfl) (by kernel_rfl) ?_; apply Exists.intro; refine ⟨fun w' => ?_, ?_⟩; · go_simp; exact rfl)
                        refine reg_done (by kernel_rfl) (fun W9 hw5 => ?_) _
                        rw [HQ.out]
                        clear HQ Q2
                        have S6 := hid (S5.out.later (HE8.out.trans hw5))
                        clear hw5 HE8
                        go_simp
                        go_wp2_with fail
                        go_meet
                        case rel => exact ⟨by rw [HV.out]; simp [hx0], S6⟩
                      · have HL := hid (less_at hlv)
                        have HV : Hid (ltInt R.pi.1[x - 1]! R.pi.1[R.pivot]! = true) := hid (by rw [HXP.out, ← u.eq, ← v.eq]; exact hlv)
                        clear hlv
                        refine reg_begin 15 (by kernel_rfl) ?_
                        refine reg_hide (fun Q2 HQ => ?_)
                        generalize hW : World.drew _ = W8
                        have HE8 : Hid (Ext wc W8) := hid (by rw [← hW]; exact Ext.drew _)
                        clear hW
                        iterate 7 (refine reg_pf 15 rfl (by kernel_rfl) (by kernel_rfl) ?_; apply Exists.intro; refine ⟨fun w' => ?_, ?_⟩; · go_simp; exact rfl)
                        refine reg_quiet 7 rfl (by kernel_rfl) (by kernel_rfl) ?_; apply Exists.intro; refine ⟨fun w' hw' => ?_, ?_⟩; · have q0 : w'.cell? ⟨g, xp, none⟩ = some (.int .u32 u.val) := u.is (S5.out.later (HE8.out.trans hw')); go_simp; exact ⟨rfl, Ext.refl _⟩
                        iterate 3 (refine reg_pf 15 rfl (by kernel_rfl) (by kernel_rfl) ?_; apply Exists.intro; refine ⟨fun w' => ?_, ?_⟩; · go_simp; exact rfl)
                        refine reg_quiet 11 rfl (by kernel_rfl) (by kernel_rfl) ?_; apply Exists.intro; refine ⟨fun w' hw' => ?_, ?_⟩; · have q0 : w'.cell? ⟨g, R.pivot, none⟩ = some (.int .u32 v.val) := v.is (S5.out.later (HE8.out.trans hw')); go_simp; exact ⟨rfl, Ext.refl _⟩
                        refine reg_quiet 12 rfl (by kernel_rfl) (by kernel_rfl) ?_; apply Exists.intro; refine ⟨fun w' hw' => ?_, ?_⟩; · go_simp; exact HL.out w'
                        iterate 2 (refine reg_pf 15 rfl (by kernel_rfl) (by kernel_rfl) ?_; apply Exists.intro; refine ⟨fun w' => ?_, ?_⟩; · go_simp; exact rfl)
                        refine reg_done (by kernel_rfl) (fun W9 hw5 => ?_) _
                        rw [HQ.out]
                        clear HQ Q2
                        have S6 := hid (S5.out.later (HE8.out.trans hw5))
                        clear hw5 HE8
                        go_simp
                        go_wp2_with fail
                        go_meet
                        case rel => exact ⟨by rw [HV.out]; simp, S6⟩
                    · have hx0z : ¬ (0 : Int) < (x : Int) := by omega
                      refine reg_begin 15 (by kernel_rfl) ?_
                      refine reg_hide (fun Q2 HQ => ?_)
                      generalize hW : World.drew _ = W8
                      have HE8 : Hid (Ext wc W8) := hid (by rw [← hW]; exact Ext.drew _)
                      clear hW
                      iterate 3 (refine reg_pf 15 rfl (by kernel_rfl) (by kernel_rfl) ?_; apply Exists.intro; refine ⟨fun w' => ?_, ?_⟩; · go_simp; exact rfl)
                      iterate 11 (refine reg_kf 15 rfl (by kernel_rfl) (by kernel_rfl) ?_)
                      iterate 1 (refine reg_pf 15 rfl (by kernel_rfl) (by kernel_rfl) ?_; apply Exists.intro; refine ⟨fun w' => ?_, ?_⟩; · go_simp; exact rfl)
                      refine reg_done (by kernel_rfl) (fun W9 hw5 => ?_) _
                      rw [HQ.out]
                      clear HQ Q2
                      have S6 := hid (S5.out.later (HE8.out.trans hw5))
                      clear hw5 HE8
                      go_simp
                      go_wp2_with fail
                      go_meet
                      case rel => exact ⟨by simp [show ¬ x > 0 by omega], S6⟩
                  case rest =>
                    obtain ⟨rfl, S6⟩ := hcut
                    clear S5
                    have hp3 : (rd ltInt dk x y lim wb wp).pi.2 = false := by rw [← HRR.out]; exact HP2.out
                    have HP3 := hid hp3
                    clear hp3
                    cases h87 : (decide (x > 0) && !ltInt R.pi.1[x - 1]! R.pi.1[R.pivot]!)
                    · obtain ⟨mid, ap, d4, hx⟩ : ∃ mid ap d4, partition ltInt R.pi.1 x y R.pivot = (mid, ap, d4) := ⟨(partition ltInt R.pi.1 x y R.pivot).1, (partition ltInt R.pi.1 x y R.pivot).2.1, (partition ltInt R.pi.1 x y R.pivot).2.2, rfl⟩
                      obtain ⟨r1, r2, r3, r4, r5, r6, r7⟩ := round_part swo_ltInt (partition_holds (lt := ltInt)) hpv.1 hpv.2 (show y ≤ R.pi.1.size by omega) HB3.out hx
                      have hc := part_any (cap := cap) R.pi.1 x y R.pivot wc n3 (by omega) hpv.1 hpv.2 hy S6.out
                      rw [hx] at hc
                      have HC := hid hc
                      have HX := hid hx
                      have HR4 := hid r4
                      have HR5 := hid r5
                      have HR6 := hid r6
                      have HR7 := hid r7
                      have h87' : (decide (x > 0) && !ltInt (rd ltInt dk x y lim wb wp).pi.1[x - 1]! (rd ltInt dk x y lim wb wp).pi.1[(rd ltInt dk x y lim wb wp).pivot]!) = false := by rw [← HRR.out]; exact h87
                      have H87 := hid h87'
                      have n4 : d4.size = n := r3.trans n3
                      clear hc hx r4 r5 r6 r7 S6 h87' h87 r3
                      obtain ⟨ml, hml⟩ : ∃ q, q = mid - x := ⟨_, rfl⟩
                      obtain ⟨mr, hmr⟩ : ∃ q, q = y - mid := ⟨_, rfl⟩
                      obtain ⟨l8, hl8⟩ : ∃ q, q = L / 8 := ⟨_, rfl⟩
                      have zl : IntKind.i64.wrap ((mid : Int) - (x : Int)) = (ml : Int) := by rw [IntKind.wrap_i64]; omega
                      have zr : IntKind.i64.wrap ((y : Int) - (mid : Int)) = (mr : Int) := by rw [IntKind.wrap_i64]; omega
                      have z8 : (L : Int).tdiv 8 = (l8 : Int) := by rw [hl8, Int.tdiv_eq_ediv_of_nonneg (by omega)]; omega
                      have b8 : l8 < 50 := by omega
                      have HM : Hid (ml = mid - x ∧ mr = y - mid ∧ l8 = (y - x) / 8) := hid ⟨hml, hmr, by rw [hl8, HLN.out]⟩
                      have bml : ml < 50 := by omega
                      have bmr : mr < 50 := by omega
                      by_cases h4 : ml < mr
                      · have h4z : (ml : Int) < (mr : Int) := by omega
                        have hih := fun W (hS : SR B g d4 W) => IH.out x mid R.lim d4 W (by omega) n4 r1 (by omega) hll HR4.out hS
                        have HIH := hid hih
                        clear hih hml hmr hl8
                        go_wp2_with fail
                        refine HC.out.mono ?_
                        rintro e w7 ⟨rfl, hs⟩
                        have S7 := hid hs
                        clear hs
                        go_wp2_with fail
                        refine (HIH.out _ S7.out).mono ?_
                        rintro e w8 ⟨rfl, hs⟩
                        have S8 := hid hs
                        clear hs HIH HC
                        obtain ⟨pL, sL⟩ := pdq_sorts ltInt swo_ltInt d4 x mid R.lim true true r1 (by omega) HR4.out
                        have n5 := pL.1
                        have HB5 := hid (HR6.out _ pL sL).1
                        clear pL sL
                        go_wp2_with fail
                        go_roundg (y - (mid + 1))
                        case measure => omega
                        case rel =>
                          refine ⟨mid + 1, y, R.lim, decide (mid - x ≥ (y - x) / 8), ap, pdq ltInt d4 x mid R.lim true true, by first | rfl | go_num, rfl, rfl, ?_, rfl, by omega, by omega, Nat.le_refl _, by omega, hll, by omega, HB5, S8, hid ?_⟩
                          · refine congrArg Value.bool ?_
                            have := HM.out
                            rw [← this.1, ← this.2.2]
                            all_goals exact decide_eq_decide.2 ⟨fun h => by omega, fun h => by omega⟩
                          · have := HM.out
                            have e9 := pdq_left (lt := ltInt) (d := dk) (a := x) (b := y) (limit := lim) (wb := wb) (wp := wp) h12 hl0 HP3.out H87.out (by rw [← HRR.out, HX.out]; exact ⟨r1, r2⟩) (by rw [← HRR.out, HX.out]; show mid - x < y - mid; omega)
                            rw [← HRR.out, HX.out] at e9
                            rw [← A.out, e9]
                      · have h4z : ¬ (ml : Int) < (mr : Int) := by omega
                        obtain ⟨m1, hm1⟩ : ∃ q, q = mid + 1 := ⟨_, rfl⟩
                        have HR5' : Hid (Below ltInt m1 y d4) := hid (by rw [hm1]; exact HR5.out)
                        have hih := fun W (hS : SR B g d4 W) => IH.out m1 y R.lim d4 W (by omega) n4 (by omega) (by omega) hll HR5'.out hS
                        have HIH := hid hih
                        have zm1 : IntKind.i64.wrap ((mid : Int) + 1) = (m1 : Int) := by rw [IntKind.wrap_i64]; omega
                        have HM1 := hid hm1
                        clear hih hml hmr hl8 hm1
                        go_wp2_with fail
                        refine HC.out.mono ?_
                        rintro e w7 ⟨rfl, hs⟩
                        have S7 := hid hs
                        clear hs
                        go_wp2_with fail
                        refine (HIH.out _ S7.out).mono ?_
                        rintro e w8 ⟨rfl, hs⟩
                        have S8 := hid hs
                        clear hs HIH HC
                        obtain ⟨pL, sL⟩ := pdq_sorts ltInt swo_ltInt d4 m1 y R.lim true true (by have := HM1.out; omega) (by omega) HR5'.out
                        have n5 := pL.1
                        have HB5 := hid (HR7.out _ (by rw [← HM1.out]; exact pL) (by rw [← HM1.out]; exact sL)).1
                        clear pL sL
                        go_wp2_with fail
                        go_roundg (mid - x)
                        case measure => omega
                        case rel =>
                          refine ⟨x, mid, R.lim, decide (y - mid ≥ (y - x) / 8), ap, pdq ltInt d4 m1 y R.lim true true, rfl, rfl, rfl, ?_, rfl, by omega, by omega, Nat.le_refl _, by omega, hll, by omega, HB5, S8, hid ?_⟩
                          · refine congrArg Value.bool ?_
                            have := HM.out
                            rw [← this.2.1, ← this.2.2]
                            all_goals exact decide_eq_decide.2 ⟨fun h => by omega, fun h => by omega⟩
                          · have := HM.out
                            have e9 := pdq_right (lt := ltInt) (d := dk) (a := x) (b := y) (limit := lim) (wb := wb) (wp := wp) h12 hl0 HP3.out H87.out (by rw [← HRR.out, HX.out]; exact ⟨r1, r2⟩) (by rw [← HRR.out, HX.out]; show ¬ mid - x < y - mid; omega)
                            rw [← HRR.out, HX.out] at e9
                            rw [← A.out, e9, HM1.out]
                    · obtain ⟨hx0, hnl⟩ : x > 0 ∧ ltInt R.pi.1[x - 1]! R.pi.1[R.pivot]! = false := by simpa using h87
                      obtain ⟨mid, d4, hx⟩ : ∃ mid d4, partitionEqual ltInt R.pi.1 x y R.pivot = (mid, d4) := ⟨(partitionEqual ltInt R.pi.1 x y R.pivot).1, (partitionEqual ltInt R.pi.1 x y R.pivot).2, rfl⟩
                      obtain ⟨r1, r2, r3, r4, _⟩ := round_eq swo_ltInt (partitionEqual_holds (lt := ltInt)) hx0 hpv.1 hpv.2 (show y ≤ R.pi.1.size by omega) HB3.out hnl hx
                      have hc := parteq_any (cap := cap) R.pi.1 x y R.pivot wc n3 (by omega) hpv.1 hpv.2 hy S6.out
                      rw [hx] at hc
                      have HC := hid hc
                      have HX := hid hx
                      have HR4 := hid r4
                      have h87' : (decide (x > 0) && !ltInt (rd ltInt dk x y lim wb wp).pi.1[x - 1]! (rd ltInt dk x y lim wb wp).pi.1[(rd ltInt dk x y lim wb wp).pivot]!) = true := by rw [← HRR.out]; exact h87
                      have H87 := hid h87'
                      have n4 : d4.size = n := r3.trans n3
                      clear hc hx r4 S6 h87' h87 r3 hnl
                      go_wp2_with fail
                      refine HC.out.mono ?_
                      rintro e w7 ⟨rfl, hs⟩
                      have S7 := hid hs
                      clear hs
                      go_wp2_with fail
                      go_roundg (y - mid)
                      case measure => omega
                      case rel =>
                        refine ⟨mid, y, R.lim, wb, wp, d4, rfl, rfl, rfl, rfl, rfl, by omega, by omega, Nat.le_refl _, by omega, hll, n4, HR4, S7, hid ?_⟩
                        have e9 := pdq_eq (lt := ltInt) (d := dk) (a := x) (b := y) (limit := lim) (wb := wb) (wp := wp) h12 hl0 HP3.out H87.out (by rw [← HRR.out, HX.out]; exact ⟨r1, r2⟩)
                        rw [← HRR.out, HX.out] at e9
                        rw [← A.out, e9]
end
end Go.Proofs.Ytnlblmpfkikneaa
