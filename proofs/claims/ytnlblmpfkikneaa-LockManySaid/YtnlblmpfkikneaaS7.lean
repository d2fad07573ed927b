/-
  Partition of addresses into those that are alike and greater ones.
-/
import Derived.Test.YtnlblmpfkikneaaS6
namespace Go.Proofs.Ytnlblmpfkikneaa
open Go Go.RowKit Go.Sort
attribute [local go_sem] extUpon
attribute [local go_sem ↓] eval_put_ne eval_put_none eval_put_same size_put eval_const
section
variable {B : World} {g n cap : Nat}

set_option maxHeartbeats 16000000 in
set_option maxRecDepth 100000 in
theorem parteq_any (d : Array Int) (a b p : Nat) (W : World) (hd : d.size = n) (hn : n ≤ 1000) (hap : a ≤ p) (hpb : p < b) (hb : b ≤ n) (hS : SR B g d W) :
    Calls Try.prog 45 #[.slice (some ⟨g, 0, none⟩) n cap, .int .i64 a, .int .i64 b, .int .i64 p] W fun e w' =>
      e = .returned (.int .i64 (partitionEqual ltInt d a b p).1) ∧ SR B g (partitionEqual ltInt d a b p).2 w' := by
  have S0 := hid hS
  clear hS
  have ba : (a : Int) < (n : Int) := by omega
  have bp : (p : Int) < (n : Int) := by omega
  obtain ⟨x⟩ := Pl.mk' d a (by omega)
  obtain ⟨y⟩ := Pl.mk' d p (by omega)
  obtain ⟨i3, hi1⟩ : ∃ q, q = a + 1 := ⟨_, rfl⟩
  obtain ⟨j3, hj1⟩ : ∃ q, q = b - 1 := ⟨_, rfl⟩
  have z1 : IntKind.i64.wrap ((a : Int) + 1) = (i3 : Int) := by rw [IntKind.wrap_i64]; omega
  have z2 : IntKind.i64.wrap ((b : Int) - 1) = (j3 : Int) := by rw [IntKind.wrap_i64]; omega
  have h5 : a < i3 := by omega
  have h6 : i3 ≤ j3 + 1 := by omega
  have h7 : j3 < b := by omega
  have HP : Hid (partitionEqual ltInt d a b p = partEqLoop ltInt a i3 j3 (swp d a p)) := hid (by rw [hi1, hj1]; rfl)
  clear hi1 hj1
  go_enter Try.func45, Try.ntmps45
  go_wp2_with fail
  refine reg_begin 13 (by kernel_rfl) ?_
  refine reg_hide (fun Q2 HQ => ?_)
  generalize hW : World.drew _ = W8
  have HE8 : Hid (Ext W W8) := hid (by rw [← hW]; exact Ext.drew _)
  clear hW
  iterate 7 (refine reg_pf 16 rfl (by kernel_rfl) (by kernel_rfl) ?_; apply Exists.intro; refine ⟨fun w' => ?_, ?_⟩; · go_simp; exact rfl)
  refine reg_quiet 7 rfl (by kernel_rfl) (by kernel_rfl) ?_; apply Exists.intro; refine ⟨fun w' hw' => ?_, ?_⟩; · have q0 : w'.cell? ⟨g, p, none⟩ = some (.int .u32 y.val) := y.is (S0.out.later (HE8.out.trans hw')); go_simp; exact ⟨rfl, Ext.refl _⟩
  iterate 3 (refine reg_pf 16 rfl (by kernel_rfl) (by kernel_rfl) ?_; apply Exists.intro; refine ⟨fun w' => ?_, ?_⟩; · go_simp; exact rfl)
  refine reg_quiet 11 rfl (by kernel_rfl) (by kernel_rfl) ?_; apply Exists.intro; refine ⟨fun w' hw' => ?_, ?_⟩; · have q0 : w'.cell? ⟨g, a, none⟩ = some (.int .u32 x.val) := x.is (S0.out.later (HE8.out.trans hw')); go_simp; exact ⟨rfl, Ext.refl _⟩
  iterate 1 (refine reg_pf 16 rfl (by kernel_rfl) (by kernel_rfl) ?_; apply Exists.intro; refine ⟨fun w' => ?_, ?_⟩; · go_simp; exact rfl)
  refine reg_store 13 ⟨g, a, none⟩ (.int .u32 y.val) rfl (by kernel_rfl) (by kernel_rfl) rfl (by decide) (by go_simp) (by go_simp) (by kernel_rfl) rfl rfl (fun w' hw' => ?_) (fun w' hw' => ?_)
  · exact ⟨⟨_, (S0.out.later (HE8.out.trans hw')).cell a (by first | omega | (simp only [Array.size_setIfInBounds]; omega))⟩, (S0.out.later (HE8.out.trans hw')).free a⟩
  have S3 := hid ((S0.out.later (HE8.out.trans hw')).put a y.val)
  clear hw' HE8
  generalize World.setCell w' _ _ = W3 at *
  clear w'
  have HE8 : Hid (Ext W3 W3) := hid (Ext.refl _)
  iterate 1 (refine reg_pf 16 rfl (by kernel_rfl) (by kernel_rfl) ?_; apply Exists.intro; refine ⟨fun w' => ?_, ?_⟩; · go_simp; exact rfl)
  refine reg_store 15 ⟨g, p, none⟩ (.int .u32 x.val) rfl (by kernel_rfl) (by kernel_rfl) rfl (by decide) (by go_simp) (by go_simp) (by kernel_rfl) rfl rfl (fun w' hw' => ?_) (fun w' hw' => ?_)
  · exact ⟨⟨_, (S3.out.later (HE8.out.trans hw')).cell p (by first | omega | (simp only [Array.size_setIfInBounds]; omega))⟩, (S3.out.later (HE8.out.trans hw')).free p⟩
  have S4 := hid ((S3.out.later (HE8.out.trans hw')).put p x.val)
  clear hw' HE8
  generalize World.setCell w' _ _ = W3 at *
  clear w'
  have HE8 : Hid (Ext W3 W3) := hid (Ext.refl _)
  refine reg_done (by kernel_rfl) (fun W9 hw5 => ?_) _
  rw [HQ.out]
  clear HQ Q2
  have S5 := hid (S4.out.later (HE8.out.trans hw5))
  clear hw5 HE8
  go_simp
  have SN : Hid (SR B g (swp d a p) W9) := hid (by have h5 := S5.out; rw [x.eq, y.eq] at h5; exact h5)
  clear S0 S3 S4 S5
  obtain ⟨dk0, hdk⟩ : ∃ q, q = swp d a p := ⟨_, rfl⟩
  have hs0 : dk0.size = n := by rw [hdk, size_swp, hd]
  rw [← hdk] at SN HP
  clear hdk
  go_wp2_with fail
  go_loopg [9, 10] (j3 + 1) (fun k iv jv wr => ∃ (i1 j1 : Nat) (dk : Array Int), iv = .int .i64 i1 ∧ jv = .int .i64 j1 ∧ a < i1 ∧ i1 ≤ j1 + 1 ∧ j1 < b ∧ j1 + 1 - i1 ≤ k ∧ dk.size = n ∧ Hid (SR B g dk wr) ∧ Hid (partEqLoop ltInt a i1 j1 dk = partEqLoop ltInt a i3 j3 dk0))
  case atStart => exact ⟨i3, j3, dk0, rfl, rfl, h5, h6, h7, by omega, hs0, SN, hid rfl⟩
  case round =>
    clear SN z1 z2 h5 h6 h7
    obtain ⟨i1, j1, dk, rfl, rfl, hai, hij, hjb, hk, hsk, S1, HO⟩ := hrel
    obtain ⟨z⟩ := Pl.mk' dk a (by omega)
    go_upto_block 2 with fail
    go_cut [9] (fun iv wc => ∃ i2 : Nat, iv = .int .i64 i2 ∧ i1 ≤ i2 ∧ i2 ≤ j1 + 1 ∧ Hid (i2 = scanUp (fun x => !ltInt dk[a]! x) dk j1 i1) ∧ Hid (SR B g dk wc))
    case first =>
      go_wp2_with fail
      go_loopw [9] (fun iv wr => ∃ i2 : Nat, iv = .int .i64 i2 ∧ i1 ≤ i2 ∧ i2 ≤ j1 + 1 ∧ Hid (scanUp (fun x => !ltInt dk[a]! x) dk j1 i2 = scanUp (fun x => !ltInt dk[a]! x) dk j1 i1) ∧ Hid (SR B g dk wr)) (fun iv _ => j1 + 1 - (intOf iv).toNat)
      case atStart => exact ⟨i1, rfl, Nat.le_refl _, by omega, hid rfl, S1⟩
      case round =>
        clear S1
        obtain ⟨i2, rfl, h1, h2, HU, SX⟩ := hrel
        by_cases hle : i2 ≤ j1
        · have hle2 : (i2 : Int) ≤ (j1 : Int) := by omega
          have bi : (i2 : Int) < (n : Int) := by omega
          obtain ⟨x⟩ := Pl.mk' dk i2 (by omega)
          cases hlv : ltInt z.val x.val with
          | false =>
            have HL := hid (less_at hlv)
            have HV : Hid ((fun x => !ltInt dk[a]! x) dk[i2]! = true) := hid (by have e := hlv; rw [x.eq, z.eq] at e; simp [e])
            clear hlv
            go_wp2_with fail
            refine reg_begin 15 (by kernel_rfl) ?_
            refine reg_hide (fun Q2 HQ => ?_)
            generalize hW : World.drew _ = W8
            have HE8 : Hid (Ext wr W8) := hid (by rw [← hW]; exact Ext.drew _)
            clear hW
            iterate 7 (refine reg_pf 15 rfl (by kernel_rfl) (by kernel_rfl) ?_; apply Exists.intro; refine ⟨fun w' => ?_, ?_⟩; · go_simp; exact rfl)
            refine reg_quiet 7 rfl (by kernel_rfl) (by kernel_rfl) ?_; apply Exists.intro; refine ⟨fun w' hw' => ?_, ?_⟩; · have q0 : w'.cell? ⟨g, a, none⟩ = some (.int .u32 z.val) := z.is (SX.out.later (HE8.out.trans hw')); go_simp; exact ⟨rfl, Ext.refl _⟩
            iterate 3 (refine reg_pf 15 rfl (by kernel_rfl) (by kernel_rfl) ?_; apply Exists.intro; refine ⟨fun w' => ?_, ?_⟩; · go_simp; exact rfl)
            refine reg_quiet 11 rfl (by kernel_rfl) (by kernel_rfl) ?_; apply Exists.intro; refine ⟨fun w' hw' => ?_, ?_⟩; · have q0 : w'.cell? ⟨g, i2, none⟩ = some (.int .u32 x.val) := x.is (SX.out.later (HE8.out.trans hw')); go_simp; exact ⟨rfl, Ext.refl _⟩
            refine reg_quiet 12 rfl (by kernel_rfl) (by kernel_rfl) ?_; apply Exists.intro; refine ⟨fun w' hw' => ?_, ?_⟩; · go_simp; exact HL.out w'
            iterate 2 (refine reg_pf 15 rfl (by kernel_rfl) (by kernel_rfl) ?_; apply Exists.intro; refine ⟨fun w' => ?_, ?_⟩; · go_simp; exact rfl)
            refine reg_done (by kernel_rfl) (fun W9 hw5 => ?_) _
            rw [HQ.out]
            clear HQ Q2
            have S5 := hid (SX.out.later (HE8.out.trans hw5))
            clear hw5 HE8
            go_simp
            go_wp2_with fail
            go_roundw
            case rel => exact ⟨i2 + 1, by go_num, by omega, by omega, hid (by rw [← HU.out]; exact (scanUp_go _ dk j1 i2 hle HV.out).symm), S5⟩
            case measure => simp [intOf]; omega
          | true =>
            have HL := hid (less_at hlv)
            have HV : Hid ((fun x => !ltInt dk[a]! x) dk[i2]! = false) := hid (by have e := hlv; rw [x.eq, z.eq] at e; simp [e])
            clear hlv
            go_wp2_with fail
            refine reg_begin 15 (by kernel_rfl) ?_
            refine reg_hide (fun Q2 HQ => ?_)
            generalize hW : World.drew _ = W8
            have HE8 : Hid (Ext wr W8) := hid (by rw [← hW]; exact Ext.drew _)
            clear hW
            iterate 7 (refine reg_pf 15 rfl (by kernel_rfl) (by kernel_rfl) ?_; apply Exists.intro; refine ⟨fun w' => ?_, ?_⟩; · go_simp; exact rfl)
            refine reg_quiet 7 rfl (by kernel_rfl) (by kernel_rfl) ?_; apply Exists.intro; refine ⟨fun w' hw' => ?_, ?_⟩; · have q0 : w'.cell? ⟨g, a, none⟩ = some (.int .u32 z.val) := z.is (SX.out.later (HE8.out.trans hw')); go_simp; exact ⟨rfl, Ext.refl _⟩
            iterate 3 (refine reg_pf 15 rfl (by kernel_rfl) (by kernel_rfl) ?_; apply Exists.intro; refine ⟨fun w' => ?_, ?_⟩; · go_simp; exact rfl)
            refine reg_quiet 11 rfl (by kernel_rfl) (by kernel_rfl) ?_; apply Exists.intro; refine ⟨fun w' hw' => ?_, ?_⟩; · have q0 : w'.cell? ⟨g, i2, none⟩ = some (.int .u32 x.val) := x.is (SX.out.later (HE8.out.trans hw')); go_simp; exact ⟨rfl, Ext.refl _⟩
            refine reg_quiet 12 rfl (by kernel_rfl) (by kernel_rfl) ?_; apply Exists.intro; refine ⟨fun w' hw' => ?_, ?_⟩; · go_simp; exact HL.out w'
            iterate 2 (refine reg_pf 15 rfl (by kernel_rfl) (by kernel_rfl) ?_; apply Exists.intro; refine ⟨fun w' => ?_, ?_⟩; · go_simp; exact rfl)
            refine reg_done (by kernel_rfl) (fun W9 hw5 => ?_) _
            rw [HQ.out]
            clear HQ Q2
            have S5 := hid (SX.out.later (HE8.out.trans hw5))
            clear hw5 HE8
            go_simp
            go_wp2_with fail
            go_meet
            case rel => exact ⟨i2, rfl, h1, h2, hid (by rw [← HU.out]; exact (scanUp_end _ dk j1 i2 (.inr HV.out)).symm), S5⟩
        · have hle2 : ¬ (i2 : Int) ≤ (j1 : Int) := by omega
          go_wp2_with fail
          refine reg_begin 15 (by kernel_rfl) ?_
          refine reg_hide (fun Q2 HQ => ?_)
          generalize hW : World.drew _ = W8
          have HE8 : Hid (Ext wr W8) := hid (by rw [← hW]; exact Ext.drew _)
          clear hW
          iterate 4 (refine reg_pf 15 rfl (by kernel_rfl) (by kernel_rfl) ?_; apply Exists.intro; refine ⟨fun w' => ?_, ?_⟩; · go_simp; exact rfl)
          iterate 10 (refine reg_kf 15 rfl (by kernel_rfl) (by kernel_rfl) ?_)
          iterate 1 (refine reg_pf 15 rfl (by kernel_rfl) (by kernel_rfl) ?_; apply Exists.intro; refine ⟨fun w' => ?_, ?_⟩; · go_simp; exact rfl)
          refine reg_done (by kernel_rfl) (fun W9 hw5 => ?_) _
          rw [HQ.out]
          clear HQ Q2
          have S5 := hid (SX.out.later (HE8.out.trans hw5))
          clear hw5 HE8
          go_simp
          go_wp2_with fail
          go_meet
          case rel => exact ⟨i2, rfl, h1, h2, hid (by rw [← HU.out]; exact (scanUp_end _ dk j1 i2 (.inl hle)).symm), S5⟩
    case rest =>
      clear S1
      obtain ⟨i2, rfl, h1, h2, HI2, S2⟩ := hcut
      go_upto_block 4 with fail
      go_cut [10] (fun jv wc => ∃ j2 : Nat, jv = .int .i64 j2 ∧ j2 ≤ j1 ∧ i2 ≤ j2 + 1 ∧ Hid (j2 = scanDown (fun x => ltInt dk[a]! x) dk i2 j1) ∧ Hid (SR B g dk wc))
      case first =>
        go_wp2_with fail
        go_loopw [10] (fun jv wr => ∃ j2 : Nat, jv = .int .i64 j2 ∧ j2 ≤ j1 ∧ i2 ≤ j2 + 1 ∧ Hid (scanDown (fun x => ltInt dk[a]! x) dk i2 j2 = scanDown (fun x => ltInt dk[a]! x) dk i2 j1) ∧ Hid (SR B g dk wr)) (fun jv _ => (intOf jv).toNat)
        case atStart => exact ⟨j1, rfl, Nat.le_refl _, by omega, hid rfl, S2⟩
        case round =>
          clear S2
          obtain ⟨j2, rfl, h3, h4, HU, SX⟩ := hrel
          by_cases hle : i2 ≤ j2
          · have hle2 : (i2 : Int) ≤ (j2 : Int) := by omega
            have bj : (j2 : Int) < (n : Int) := by omega
            obtain ⟨x⟩ := Pl.mk' dk j2 (by omega)
            cases hlv : ltInt z.val x.val with
            | true =>
              have HL := hid (less_at hlv)
              have HV : Hid ((fun x => ltInt dk[a]! x) dk[j2]! = true) := hid (by have e := hlv; rw [x.eq, z.eq] at e; simp [e])
              clear hlv
              go_wp2_with fail
              refine reg_begin 14 (by kernel_rfl) ?_
              refine reg_hide (fun Q2 HQ => ?_)
              generalize hW : World.drew _ = W8
              have HE8 : Hid (Ext wr W8) := hid (by rw [← hW]; exact Ext.drew _)
              clear hW
              iterate 7 (refine reg_pf 14 rfl (by kernel_rfl) (by kernel_rfl) ?_; apply Exists.intro; refine ⟨fun w' => ?_, ?_⟩; · go_simp; exact rfl)
              refine reg_quiet 7 rfl (by kernel_rfl) (by kernel_rfl) ?_; apply Exists.intro; refine ⟨fun w' hw' => ?_, ?_⟩; · have q0 : w'.cell? ⟨g, a, none⟩ = some (.int .u32 z.val) := z.is (SX.out.later (HE8.out.trans hw')); go_simp; exact ⟨rfl, Ext.refl _⟩
              iterate 3 (refine reg_pf 14 rfl (by kernel_rfl) (by kernel_rfl) ?_; apply Exists.intro; refine ⟨fun w' => ?_, ?_⟩; · go_simp; exact rfl)
              refine reg_quiet 11 rfl (by kernel_rfl) (by kernel_rfl) ?_; apply Exists.intro; refine ⟨fun w' hw' => ?_, ?_⟩; · have q0 : w'.cell? ⟨g, j2, none⟩ = some (.int .u32 x.val) := x.is (SX.out.later (HE8.out.trans hw')); go_simp; exact ⟨rfl, Ext.refl _⟩
              refine reg_quiet 12 rfl (by kernel_rfl) (by kernel_rfl) ?_; apply Exists.intro; refine ⟨fun w' hw' => ?_, ?_⟩; · go_simp; exact HL.out w'
              iterate 1 (refine reg_pf 14 rfl (by kernel_rfl) (by kernel_rfl) ?_; apply Exists.intro; refine ⟨fun w' => ?_, ?_⟩; · go_simp; exact rfl)
              refine reg_done (by kernel_rfl) (fun W9 hw5 => ?_) _
              rw [HQ.out]
              clear HQ Q2
              have S5 := hid (SX.out.later (HE8.out.trans hw5))
              clear hw5 HE8
              go_simp
              go_wp2_with fail
              go_roundw
              case rel => exact ⟨j2 - 1, by first | rfl | go_num | (congr 1; omega), by omega, by omega, hid (by rw [← HU.out]; exact (scanDown_go _ dk i2 j2 hle (by omega) HV.out).symm), S5⟩
              case measure => simp [intOf]; omega
            | false =>
              have HL := hid (less_at hlv)
              have HV : Hid ((fun x => ltInt dk[a]! x) dk[j2]! = false) := hid (by have e := hlv; rw [x.eq, z.eq] at e; simp [e])
              clear hlv
              go_wp2_with fail
              refine reg_begin 14 (by kernel_rfl) ?_
              refine reg_hide (fun Q2 HQ => ?_)
              generalize hW : World.drew _ = W8
              have HE8 : Hid (Ext wr W8) := hid (by rw [← hW]; exact Ext.drew _)
              clear hW
              iterate 7 (refine reg_pf 14 rfl (by kernel_rfl) (by kernel_rfl) ?_; apply Exists.intro; refine ⟨fun w' => ?_, ?_⟩; · go_simp; exact rfl)
              refine reg_quiet 7 rfl (by kernel_rfl) (by kernel_rfl) ?_; apply Exists.intro; refine ⟨fun w' hw' => ?_, ?_⟩; · have q0 : w'.cell? ⟨g, a, none⟩ = some (.int .u32 z.val) := z.is (SX.out.later (HE8.out.trans hw')); go_simp; exact ⟨rfl, Ext.refl _⟩
              iterate 3 (refine reg_pf 14 rfl (by kernel_rfl) (by kernel_rfl) ?_; apply Exists.intro; refine ⟨fun w' => ?_, ?_⟩; · go_simp; exact rfl)
              refine reg_quiet 11 rfl (by kernel_rfl) (by kernel_rfl) ?_; apply Exists.intro; refine ⟨fun w' hw' => ?_, ?_⟩; · have q0 : w'.cell? ⟨g, j2, none⟩ = some (.int .u32 x.val) := x.is (SX.out.later (HE8.out.trans hw')); go_simp; exact ⟨rfl, Ext.refl _⟩
              refine reg_quiet 12 rfl (by kernel_rfl) (by kernel_rfl) ?_; apply Exists.intro; refine ⟨fun w' hw' => ?_, ?_⟩; · go_simp; exact HL.out w'
              iterate 1 (refine reg_pf 14 rfl (by kernel_rfl) (by kernel_rfl) ?_; apply Exists.intro; refine ⟨fun w' => ?_, ?_⟩; · go_simp; exact rfl)
              refine reg_done (by kernel_rfl) (fun W9 hw5 => ?_) _
              rw [HQ.out]
              clear HQ Q2
              have S5 := hid (SX.out.later (HE8.out.trans hw5))
              clear hw5 HE8
              go_simp
              go_wp2_with fail
              go_meet
              case rel => exact ⟨j2, rfl, h3, h4, hid (by rw [← HU.out]; exact (scanDown_end _ dk i2 j2 (.inr HV.out)).symm), S5⟩
          · have hle2 : ¬ (i2 : Int) ≤ (j2 : Int) := by omega
            go_wp2_with fail
            refine reg_begin 14 (by kernel_rfl) ?_
            refine reg_hide (fun Q2 HQ => ?_)
            generalize hW : World.drew _ = W8
            have HE8 : Hid (Ext wr W8) := hid (by rw [← hW]; exact Ext.drew _)
            clear hW
            iterate 4 (refine reg_pf 14 rfl (by kernel_rfl) (by kernel_rfl) ?_; apply Exists.intro; refine ⟨fun w' => ?_, ?_⟩; · go_simp; exact rfl)
            iterate 9 (refine reg_kf 14 rfl (by kernel_rfl) (by kernel_rfl) ?_)
            iterate 1 (refine reg_pf 14 rfl (by kernel_rfl) (by kernel_rfl) ?_; apply Exists.intro; refine ⟨fun w' => ?_, ?_⟩; · go_simp; exact rfl)
            refine reg_done (by kernel_rfl) (fun W9 hw5 => ?_) _
            rw [HQ.out]
            clear HQ Q2
            have S5 := hid (SX.out.later (HE8.out.trans hw5))
            clear hw5 HE8
            go_simp
            go_wp2_with fail
            go_meet
            case rel => exact ⟨j2, rfl, h3, h4, hid (by rw [← HU.out]; exact (scanDown_end _ dk i2 j2 (.inl hle)).symm), S5⟩
      case rest =>
        clear S2
        obtain ⟨j2, rfl, h3, h4, HJ2, S2⟩ := hcut
        by_cases hgt : j2 < i2
        · have hgt2 : (j2 : Int) < (i2 : Int) := by omega
          go_wp2_with fail
          go_ret
          rw [HP.out, ← HO.out, partEq_break ltInt a i1 j1 dk HI2.out HJ2.out hgt]
          exact ⟨rfl, S2.out⟩
        · have hgt2 : ¬ (j2 : Int) < (i2 : Int) := by omega
          have hlt3 := scans_lt ltInt a i1 j1 dk (by omega) HI2.out HJ2.out (by omega)
          have bi : (i2 : Int) < (n : Int) := by omega
          have bj : (j2 : Int) < (n : Int) := by omega
          obtain ⟨x⟩ := Pl.mk' dk i2 (by omega)
          obtain ⟨y⟩ := Pl.mk' dk j2 (by omega)
          go_wp2_with fail
          refine reg_begin 13 (by kernel_rfl) ?_
          refine reg_hide (fun Q2 HQ => ?_)
          generalize hW : World.drew _ = W8
          have HE8 : Hid (Ext wc W8) := hid (by rw [← hW]; exact Ext.drew _)
          clear hW
          iterate 7 (refine reg_pf 16 rfl (by kernel_rfl) (by kernel_rfl) ?_; apply Exists.intro; refine ⟨fun w' => ?_, ?_⟩; · go_simp; exact rfl)
          refine reg_quiet 7 rfl (by kernel_rfl) (by kernel_rfl) ?_; apply Exists.intro; refine ⟨fun w' hw' => ?_, ?_⟩; · have q0 : w'.cell? ⟨g, j2, none⟩ = some (.int .u32 y.val) := y.is (S2.out.later (HE8.out.trans hw')); go_simp; exact ⟨rfl, Ext.refl _⟩
          iterate 3 (refine reg_pf 16 rfl (by kernel_rfl) (by kernel_rfl) ?_; apply Exists.intro; refine ⟨fun w' => ?_, ?_⟩; · go_simp; exact rfl)
          refine reg_quiet 11 rfl (by kernel_rfl) (by kernel_rfl) ?_; apply Exists.intro; refine ⟨fun w' hw' => ?_, ?_⟩; · have q0 : w'.cell? ⟨g, i2, none⟩ = some (.int .u32 x.val) := x.is (S2.out.later (HE8.out.trans hw')); go_simp; exact ⟨rfl, Ext.refl _⟩
          iterate 1 (refine reg_pf 16 rfl (by kernel_rfl) (by kernel_rfl) ?_; apply Exists.intro; refine ⟨fun w' => ?_, ?_⟩; · go_simp; exact rfl)
          refine reg_store 13 ⟨g, i2, none⟩ (.int .u32 y.val) rfl (by kernel_rfl) (by kernel_rfl) rfl (by decide) (by go_simp) (by go_simp) (by kernel_rfl) rfl rfl (fun w' hw' => ?_) (fun w' hw' => ?_)
          · exact ⟨⟨_, (S2.out.later (HE8.out.trans hw')).cell i2 (by first | omega | (simp only [Array.size_setIfInBounds]; omega))⟩, (S2.out.later (HE8.out.trans hw')).free i2⟩
          have S3 := hid ((S2.out.later (HE8.out.trans hw')).put i2 y.val)
          clear hw' HE8
          generalize World.setCell w' _ _ = W3 at *
          clear w'
          have HE8 : Hid (Ext W3 W3) := hid (Ext.refl _)
          iterate 1 (refine reg_pf 16 rfl (by kernel_rfl) (by kernel_rfl) ?_; apply Exists.intro; refine ⟨fun w' => ?_, ?_⟩; · go_simp; exact rfl)
          refine reg_store 15 ⟨g, j2, none⟩ (.int .u32 x.val) rfl (by kernel_rfl) (by kernel_rfl) rfl (by decide) (by go_simp) (by go_simp) (by kernel_rfl) rfl rfl (fun w' hw' => ?_) (fun w' hw' => ?_)
          · exact ⟨⟨_, (S3.out.later (HE8.out.trans hw')).cell j2 (by first | omega | (simp only [Array.size_setIfInBounds]; omega))⟩, (S3.out.later (HE8.out.trans hw')).free j2⟩
          have S4 := hid ((S3.out.later (HE8.out.trans hw')).put j2 x.val)
          clear hw' HE8
          generalize World.setCell w' _ _ = W3 at *
          clear w'
          have HE8 : Hid (Ext W3 W3) := hid (Ext.refl _)
          refine reg_done (by kernel_rfl) (fun W9 hw5 => ?_) _
          rw [HQ.out]
          clear HQ Q2
          have S5 := hid (S4.out.later (HE8.out.trans hw5))
          clear hw5 HE8
          go_simp
          have SN : Hid (SR B g (swp dk i2 j2) W9) := hid (by have h5 := S5.out; rw [x.eq, y.eq] at h5; exact h5)
          have HB := hid (partEq_go ltInt a i1 j1 dk HI2.out HJ2.out (by omega))
          go_wp2_with fail
          go_roundg ((j2 - 1) + 1 - (i2 + 1))
          case measure => omega
          case rel => exact ⟨i2 + 1, j2 - 1, swp dk i2 j2, by go_num, by first | rfl | go_num | (congr 1; omega), by omega, by omega, by omega, by omega, by rw [size_swp]; exact hsk, SN, hid (by rw [← HO.out, HB.out])⟩
end
end Go.Proofs.Ytnlblmpfkikneaa
