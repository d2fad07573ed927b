/-
  The walk of LayoutPlays.
-/
import Derived.Test.YtflbfmfaccaffaaDoorPlaysS
import Derived.Test.YtflbfmfaccaffaaDoorStepRowR
import Derived.Deep.DeepCutAuto
import Derived.Deep.Cut
import Derived.Deep.CutRange
import Derived.Deep.CutBlock
namespace Go.Proofs.YtflbfmfaccaffaaDoor
open Go Go.RowKit
attribute [local go_sem] extUpon
attribute [local go_sem ↓] eval_put_ne eval_put_none eval_put_same size_put eval_const



set_option maxHeartbeats 8000000 in
set_option maxRecDepth 100000 in
theorem LayoutPlays_walk (av : Option Addr) (cap : Nat) (l : List Stp) (rows cols : Int) (odd : Bool) (w : World) (hT : TabW w) (hl : l.length ≤ 9223372036854775807) (hr : StpAt w av l) (hb : ∀ i (h : i < l.length), IntR l[i].b) :
    Calls Tryd.prog 8 #[.slice av l.length cap, .int .i64 rows, .int .i64 cols, .bool odd] w fun e w' => e = .returned (.bool true) ∧ Ext w w' := by
  have HT := hid hT
  have HR := hid hr
  have HB := hid hb
  clear hT hr hb
  go_enter Tryd.func8, Tryd.ntmps8
  go_wp2_with fail
  refine (St.new w 0 (by decide) (Ext.refl w)).mono ?_
  rintro e w1 ⟨tb, rfl, hS, _⟩
  have HD := hid (Duo.start hS)
  generalize hrb : w1.heap.size = rb at HD
  clear hS
  go_wp2_with fail
  refine (known22 _ (HT.out.later HD.out.ext)).mono ?_
  rintro e w2 ⟨rfl, hE⟩
  have HP : Hid (Pair w w2 (tb + 1) rb (.leaf tb 0) (.leaf rb 0)) := hid ⟨HD.out.later hE, rfl, rfl, by simp [LT.panes]⟩
  clear HD hE hrb
  go_wp2_with fail
  go_loopw [11] (fun i wr => ∃ (k : Nat) (t u : LT), i = .int .i64 k ∧ k ≤ l.length ∧ k ≤ 30 ∧ Hid (Pair w wr (tb + 1) rb t u)) (fun i _ => 30 - (intOf i).toNat)
  case atStart => exact ⟨0, _, _, rfl, by omega, by omega, HP⟩
  case round =>
    clear HP
    obtain ⟨k, t, u, rfl, hk1, hk2, HP⟩ := hrel
    by_cases hlt : k < l.length ∧ k < 30
    · obtain ⟨hlt1, hlt2⟩ := hlt
      obtain ⟨sb, so, rfl, c0, c1, c2, c3, c4, c5, c6⟩ := HR.out k hlt1
      have hbr := HB.out k hlt1
      replace c0 := HP.out.duo.ext.cell c0
      replace c1 := HP.out.duo.ext.cell c1
      replace c2 := HP.out.duo.ext.cell c2
      replace c3 := HP.out.duo.ext.cell c3
      replace c4 := HP.out.duo.ext.cell c4
      replace c5 := HP.out.duo.ext.cell c5
      replace c6 := HP.out.duo.ext.cell c6
      generalize l[k].what = x0 at *
      generalize l[k].a = x1 at *
      generalize l[k].b = x2 at *
      generalize l[k].across = x3 at *
      generalize l[k].by_ = x4 at *
      generalize l[k].rows = x5 at *
      generalize l[k].cols = x6 at *
      have hlt3 : (k : Int) < (l.length : Int) := by omega
      have hxt : Hid (wr.heap.size ∉ t.blocks) := hid (fun h => absurd (HP.out.duo.tr.at_.at_.lt _ h) (by omega))
      have hxu : Hid (wr.heap.size ∉ u.blocks) := hid (fun h => absurd (HP.out.duo.rt.at_.lt _ h) (by omega))
      have hb0 := blk_new wr (.cells #[.int .i64 x0, .int .i64 x1, .int .i64 x2, .bool x3, .int .i64 x4, .int .i64 x5, .int .i64 x6] 38 (0, 0))
      go_wp2_with fail
      replace HP := hid (HP.out.later (Ext.alloc wr (.cells #[.int .i64 x0, .int .i64 x1, .int .i64 x2, .bool x3, .int .i64 x4, .int .i64 x5, .int .i64 x6] 38 (0, 0))))
      clear c0 c1 c2 c3 c4 c5 c6
      generalize World.alloc wr _ = W at *
      generalize wr.heap.size = xb at *
      have HXB := hid hb0
      have q0 := cell_blk (j := 0) hb0 rfl
      have q1 := cell_blk (j := 1) hb0 rfl
      have q2 := cell_blk (j := 2) hb0 rfl
      have q5 := cell_blk (j := 5) hb0 rfl
      have q6 := cell_blk (j := 6) hb0 rfl
      clear hb0
      refine (pick_any _ _ _ (by omega) (by omega)).mono ?_
      rintro e w' ⟨rfl, rfl⟩
      have hpa := mod_bd x1 12 (by omega)
      obtain ⟨hpa0, hpa1⟩ := hpa
      generalize x1 % 12 = pa at *
      have va : IntKind.i64.wrap (pa - 1) = pa - 1 := by rw [IntKind.wrap_i64]; omega
      go_wp2_with fail
      refine (pick_any _ _ _ (by omega) (by omega)).mono ?_
      rintro e w' ⟨rfl, rfl⟩
      have hpb := mod_bd x2 14 (by omega)
      obtain ⟨hpb0, hpb1⟩ := hpb
      generalize x2 % 14 = pb at *
      go_wp2_with fail
      refine (pick_any _ _ _ (by omega) (by omega)).mono ?_
      rintro e w' ⟨rfl, rfl⟩
      have hpr := mod_bd x5 30 (by omega)
      obtain ⟨hpr0, hpr1⟩ := hpr
      generalize x5 % 30 = pr at *
      go_wp2_with fail
      refine (pick_any _ _ _ (by omega) (by omega)).mono ?_
      rintro e w' ⟨rfl, rfl⟩
      have hpc := mod_bd x6 50 (by omega)
      obtain ⟨hpc0, hpc1⟩ := hpc
      generalize x6 % 50 = pc at *
      go_upto_region 13 with fail
      go_cut [61] from 29 to 216 (fun c wx => ∃ cc : Bool, c = .bool cc ∧ wx = W)
      case first =>
        cases odd
        · go_wp2_with fail
          all_goals go_meet
          all_goals exact ⟨_, rfl, rfl⟩
        · go_wp2_with fail
          all_goals go_meet
          all_goals exact ⟨_, rfl, rfl⟩
      case rest =>
        obtain ⟨cc, rfl, rfl⟩ := hcut
        have HQ := hid (And.intro (And.intro q0 q1) (And.intro q2 (And.intro q5 q6)))
        have hm5 := tmod_bd x5 100 (by omega)
        have hm6 := tmod_bd x6 100 (by omega)
        obtain ⟨hm50, hm51, _⟩ := hm5
        obtain ⟨hm60, hm61, _⟩ := hm6
        unfold IntR at hbr
        go_upto_if 61 with fail
        go_cut [1, 2, 13, 14] from 29 to 216 (fun r c a b wx => ∃ rr ccc aa bb : Int, r = .int .i64 rr ∧ c = .int .i64 ccc ∧ a = .int .i64 aa ∧ b = .int .i64 bb ∧ rr ≤ 1000 ∧ ccc ≤ 1000 ∧ IntR bb ∧ wx = wc)
        case first =>
          cases cc
          · go_wp2_with fail
            go_meet
            exact ⟨_, _, _, _, rfl, rfl, rfl, rfl, by omega, by omega, by unfold IntR; omega, rfl⟩
          · have v5 : IntKind.i64.wrap (x5.tmod 100) = x5.tmod 100 := by rw [IntKind.wrap_i64]; omega
            have v6 : IntKind.i64.wrap (x6.tmod 100) = x6.tmod 100 := by rw [IntKind.wrap_i64]; omega
            go_wp2_with fail
            go_meet
            exact ⟨_, _, _, _, rfl, rfl, rfl, rfl, by omega, by omega, by unfold IntR; omega, rfl⟩
        case rest =>
          obtain ⟨rr, ccc, a, b, rfl, rfl, rfl, rfl, hr1, hc1, hbr2, rfl⟩ := hcut
          clear q1 q2 q5 q6 hm50 hm51 hm60 hm61
          go_wp2_with fail
          refine (pick_any _ _ _ (by omega) (by omega)).mono ?_
          rintro e w' ⟨rfl, rfl⟩
          have hpw := mod_bd x0 9 (by omega)
          obtain ⟨hpw0, hpw1⟩ := hpw
          generalize x0 % 9 = pw at *
          go_upto_block 2 with fail
          go_cut [15] from 29 to 216 (fun ok wx => ok = .bool true ∧ ∃ t2 u2, Hid (Pair w wx (tb + 1) rb t2 u2))
          case first =>
            refine plays_switch _ w _ tb rb xb t u rr ccc a b pw x0 x1 x2 x4 x5 x6 x3 _ _ _ _ _ _ _ _ _ _ _ _ _ _ _ _ _ _ _ _ _ _ _ _ _ _ _ _ _ _ _ _ _ _ _ _ _ _ _ _ _ _ _ _ _ _ _ _ _ _ _ _ _ _ _ _ _ _ _ _ _ _ _ _ _ _ _ _ _ _ _ _ _ _ _ _ _ _ _ _ _ _ _ _ _ _ _ _ _ _ _ _ _ _ _ _ _ _ _ _ _ _ _ _ _ _ _ _ _ _ _ _ _ _ _ _ _ _ _ _ _ _ _ _ _ _ _ _ _ _ _ _ _ _ _ _ _ _ _ _ _ _ _ _ _ _ _ _ _ _ _ _ _ _ _ _ _ _ _ _ _ _ _ _ _ _ _ _ _ _ _ _ _ _ _ _ _ _ _ _ _ _ _ _ _ _ _ _ _ _ _ _ _ _ _ _ _ _ _ _ _ _ _ _ _ _ _ _ HP HXB hxt hxu hr1 hc1 hbr2 hpw0 hpw1 ?_
            intro y75 y76 y77 y78 y79 y80 y81 y82 y83 y84 y85 y86 y87 y88 y89 y90 y91 y92 y93 y94 y95 y96 y97 y98 y99 y100 y101 y102 y103 y104 y105 y106 y107 y108 y109 y110 y111 y112 y113 y114 y115 y116 y117 y118 y119 y120 y121 y122 y123 y124 y125 y126 y127 y128 y129 y130 y131 y132 y133 w' t2 u2 hP
            clear HXB HP HQ
            go_wp2_with fail
            go_meet
            exact ⟨rfl, t2, u2, hP⟩
          case rest =>
            clear HP HXB HQ hxt hxu q0 hpw0 hpw1 hbr hbr2
            obtain ⟨rfl, t2, u2, HP⟩ := hcut
            have hpos := panes_pos t2
            have hlp : ∀ R, (t2.places R).length ≤ 1000 := fun R => by rw [← panes_len t2 R]; have := HP.out.duo.tr.many; omega
            have hlb : ∀ R, (t2.borders R).length ≤ 1000 := fun R => Nat.le_trans (borders_len t2 R) HP.out.duo.tr.at_.size
            replace hlp := hid hlp
            replace hlb := hid hlb
            have hmany := HP.out.duo.tr.many
            go_wp2_with fail
            refine HP.out.panes_l.mono ?_
            rintro e w3 ⟨v1, rfl, ho, hE⟩
            obtain ⟨g1, cap1, rfl, _, hc⟩ := panes_row ho hpos
            have HG1 := hid hc
            replace HP := hid (HP.out.later hE)
            clear ho hc hE
            go_wp2_with fail
            refine HP.out.panes_r.mono ?_
            rintro e w4 ⟨v2, rfl, ho, hE⟩
            obtain ⟨g2, cap2, rfl, _, hc⟩ := panes_row ho hpos
            have HG2 := hid hc
            replace HG1 : Hid (∀ i (hi : i < t2.panes.length), w4.cell? ⟨g1, i, none⟩ = some (.int .i64 t2.panes[i])) := hid (fun i hi => hE.cell (HG1.out i hi))
            replace HP := hid (HP.out.later hE)
            clear ho hc hE
            go_wp2_with fail
            refine (HP.out.text_l HT.out).mono ?_
            rintro e w5 ⟨rfl, hE⟩
            replace HP := hid (HP.out.later hE)
            have HE := hid hE
            have hE4 := hid (Ext.refl w4)
            clear hE
            have htx := HP.out.text_r
            generalize t2.text = tx at *
            replace htx := hid htx
            go_wp2_with fail
            refine htx.out.mono ?_
            rintro e w6 ⟨rfl, hE⟩
            replace HP := hid (HP.out.later hE)
            replace HE := hid (HE.out.trans hE)
            clear hE htx
            go_wp2_with fail
            refine (HP.out.places_l rr ccc (by omega) (by omega)).mono ?_
            rintro e wa ⟨va, rfl, hoa, hEa⟩
            have HOA := hid hoa
            replace HP := hid (HP.out.later hEa)
            replace HE := hid (HE.out.trans hEa)
            clear hoa hEa
            go_wp2_with fail
            refine (HP.out.places_r rr ccc (by omega) (by omega)).mono ?_
            rintro e wb ⟨vb, rfl, hob, hEb⟩
            have HOB := hid hob
            replace HOA := hid (own_ext hEb HOA.out)
            replace HP := hid (HP.out.later hEb)
            replace HE := hid (HE.out.trans hEb)
            clear hob hEb
            go_wp2_with fail
            refine (rects_same va vb _ _ _ wb (hlp.out _) HOA.out HOB.out).mono ?_
            rintro e wd ⟨rfl, hEd⟩
            replace HP := hid (HP.out.later hEd)
            replace HE := hid (HE.out.trans hEd)
            clear hEd HOA HOB
            go_wp2_with fail
            refine (HP.out.borders_l rr ccc (by omega) (by omega)).mono ?_
            rintro e wa ⟨va, rfl, hoa, hEa⟩
            have HOA := hid hoa
            replace HP := hid (HP.out.later hEa)
            replace HE := hid (HE.out.trans hEa)
            clear hoa hEa
            go_wp2_with fail
            refine (HP.out.borders_r rr ccc (by omega) (by omega)).mono ?_
            rintro e wb ⟨vb, rfl, hob, hEb⟩
            have HOB := hid hob
            replace HOA := hid (own_ext hEb HOA.out)
            replace HP := hid (HP.out.later hEb)
            replace HE := hid (HE.out.trans hEb)
            clear hob hEb
            go_wp2_with fail
            refine (rects_same va vb _ _ _ wb (hlb.out _) HOA.out HOB.out).mono ?_
            rintro e wd ⟨rfl, hEd⟩
            replace HP := hid (HP.out.later hEd)
            replace HE := hid (HE.out.trans hEd)
            clear hEd HOA HOB
            go_wp2_with fail
            refine (HP.out.places_l ccc 9 (by omega) (by omega)).mono ?_
            rintro e wa ⟨va, rfl, hoa, hEa⟩
            have HOA := hid hoa
            replace HP := hid (HP.out.later hEa)
            replace HE := hid (HE.out.trans hEa)
            clear hoa hEa
            go_wp2_with fail
            refine (HP.out.places_r ccc 9 (by omega) (by omega)).mono ?_
            rintro e wb ⟨vb, rfl, hob, hEb⟩
            have HOB := hid hob
            replace HOA := hid (own_ext hEb HOA.out)
            replace HP := hid (HP.out.later hEb)
            replace HE := hid (HE.out.trans hEb)
            clear hob hEb
            go_wp2_with fail
            refine (rects_same va vb _ _ _ wb (hlp.out _) HOA.out HOB.out).mono ?_
            rintro e wd ⟨rfl, hEd⟩
            replace HP := hid (HP.out.later hEd)
            replace HE := hid (HE.out.trans hEd)
            clear hEd HOA HOB
            go_wp2_with fail
            have HC1 : Hid (∀ j x, t2.panes[j]? = some x → wd.cell? ⟨g1, j, none⟩ = some (.int .i64 x)) := hid (fun j x hx => by obtain ⟨h5, rfl⟩ := List.getElem?_eq_some_iff.1 hx; exact HE.out.cell (hE4.out.cell (HG1.out j h5)))
            have HC2 : Hid (∀ j x, t2.panes[j]? = some x → wd.cell? ⟨g2, j, none⟩ = some (.int .i64 x)) := hid (fun j x hx => by obtain ⟨h5, rfl⟩ := List.getElem?_eq_some_iff.1 hx; exact HE.out.cell (HG2.out j h5))
            clear HG1 HG2 HE hE4 hlp hlb
            generalize hps : t2.panes = ps at HC1 HC2 hpos hmany ⊢
            have HPS := hid hps
            clear hps
            generalize hnl : ps.length = m at *
            have HNL := hid hnl
            clear hnl
            go_loopw [18, 19] (fun hs jv wr => ∃ j : Nat, jv = .int .i64 j ∧ j ≤ m ∧ hs = .bool (decide (a ∈ ps.take j)) ∧ Hid (Ext wd wr)) (fun _ jv _ => m - (intOf jv).toNat)
            case atStart => exact ⟨0, rfl, by omega, by simp, hid (Ext.refl _)⟩
            case round =>
              obtain ⟨j, rfl, hj, rfl, hE⟩ := hrel
              by_cases hltj : j < m
              · have hj2 : (j : Int) < (m : Int) := by omega
                have hjl : j < ps.length := by have := HNL.out; omega
                obtain ⟨y, hy⟩ : ∃ y, ps[j]? = some y := ⟨_, List.getElem?_eq_getElem hjl⟩
                have HCI := hid (HC1.out j y hy)
                have HCJ := hid (HC2.out j y hy)
                have HTK : Hid (decide (a ∈ ps.take (j + 1)) = (decide (a ∈ ps.take j) || decide (y = a))) := hid (by
                  obtain ⟨h5, rfl⟩ := List.getElem?_eq_some_iff.1 hy
                  rw [← Bool.decide_or]
                  exact decide_eq_decide.2 (mem_take_succ h5))
                clear hy
                generalize decide (a ∈ ps.take j) = c0 at *
                go_wp2_with fail
                refine reg_begin 9 (by kernel_rfl) ?_
                generalize hW : World.drew _ = W
                have HE := hid (by rw [← hW]; exact hE.out.trans (Ext.drew _) : Ext wd W)
                clear hW hE
                have HI1 := hid (HE.out.cell HCI.out)
                have HJ1 := hid (HE.out.cell HCJ.out)
                refine reg_quiet 0 rfl (by kernel_rfl) (by kernel_rfl) ?_
                apply Exists.intro
                refine ⟨fun w' hw' => ?_, ?_⟩
                · go_simp
                  exact ⟨rfl, Ext.refl _⟩
                refine reg_quiet 1 rfl (by kernel_rfl) (by kernel_rfl) ?_
                apply Exists.intro
                refine ⟨fun w' hw' => ?_, ?_⟩
                · go_simp
                  exact ⟨rfl, Ext.refl _⟩
                refine reg_quiet 2 rfl (by kernel_rfl) (by kernel_rfl) ?_
                apply Exists.intro
                refine ⟨fun w' hw' => ?_, ?_⟩
                · go_simp
                  exact ⟨rfl, Ext.refl _⟩
                refine reg_quiet 3 rfl (by kernel_rfl) (by kernel_rfl) ?_
                apply Exists.intro
                refine ⟨fun w' hw' => ?_, ?_⟩
                · have q0 := hw'.cell HI1.out
                  go_simp
                  exact ⟨rfl, Ext.refl _⟩
                refine reg_quiet 4 rfl (by kernel_rfl) (by kernel_rfl) ?_
                apply Exists.intro
                refine ⟨fun w' hw' => ?_, ?_⟩
                · go_simp
                  exact ⟨rfl, Ext.refl _⟩
                refine reg_quiet 5 rfl (by kernel_rfl) (by kernel_rfl) ?_
                apply Exists.intro
                refine ⟨fun w' hw' => ?_, ?_⟩
                · go_simp
                  exact ⟨rfl, Ext.refl _⟩
                refine reg_quiet 6 rfl (by kernel_rfl) (by kernel_rfl) ?_
                apply Exists.intro
                refine ⟨fun w' hw' => ?_, ?_⟩
                · go_simp
                  exact ⟨rfl, Ext.refl _⟩
                refine reg_quiet 7 rfl (by kernel_rfl) (by kernel_rfl) ?_
                apply Exists.intro
                refine ⟨fun w' hw' => ?_, ?_⟩
                · have q0 := hw'.cell HJ1.out
                  go_simp
                  exact ⟨rfl, Ext.refl _⟩
                refine reg_quiet 8 rfl (by kernel_rfl) (by kernel_rfl) ?_
                apply Exists.intro
                refine ⟨fun w' hw' => ?_, ?_⟩
                · go_simp
                  exact ⟨rfl, Ext.refl _⟩
                refine reg_done (by kernel_rfl) (fun w6 hw6 => ?_) _
                have q0 := hw6.cell HI1.out
                replace HE := hid (HE.out.trans hw6)
                clear hw6 HI1 HJ1
                go_simp
                cases c0
                · go_wp2_with fail
                  go_roundw
                  case rel => exact ⟨j + 1, by go_num, by omega, by rw [HTK.out, beq_dec]; rfl, HE⟩
                  case measure => simp [intOf]; omega
                · go_wp2_with fail
                  go_roundw
                  case rel => exact ⟨j + 1, by go_num, by omega, by rw [HTK.out]; simp, HE⟩
                  case measure => simp [intOf]; omega
              · have hj2 : ¬ (j : Int) < (m : Int) := by omega
                have hcj : ps.take j = ps := List.take_of_length_le (by have := HNL.out; omega)
                rw [hcj]
                clear hcj
                go_wp2_with fail
                refine ((HP.out.later hE.out).has a).mono ?_
                rintro e w9 ⟨rfl, hE9⟩
                rw [HPS.out]
                have HP9 := hid ((HP.out.later hE.out).later hE9)
                clear hE9 hE HP
                go_wp2_with fail
                go_roundw
                case rel => exact ⟨k + 1, t2, u2, by go_num, by omega, by omega, HP9⟩
                case measure => simp [intOf]; omega
    · by_cases hk3 : k < l.length
      · have hlt3 : (k : Int) < (l.length : Int) := by omega
        have hlt4 : ¬ (k : Int) < 30 := by omega
        go_wp2_with fail
        go_ret
        exact ⟨rfl, HP.out.duo.ext⟩
      · have hlt3 : ¬ (k : Int) < (l.length : Int) := by omega
        go_wp2_with fail
        go_ret
        exact ⟨rfl, HP.out.duo.ext⟩

end Go.Proofs.YtflbfmfaccaffaaDoor
