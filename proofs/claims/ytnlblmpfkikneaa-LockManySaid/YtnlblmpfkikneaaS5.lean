/-
  A row turned round; insertion where little is out of order.
-/
import Derived.Test.YtnlblmpfkikneaaS1
namespace Go.Proofs.Ytnlblmpfkikneaa
open Go Go.RowKit Go.Sort
attribute [local go_sem] extUpon
attribute [local go_sem ↓] eval_put_ne eval_put_none eval_put_same size_put eval_const
theorem rev_go {i j : Nat} {d : Array Int} (h : i < j) : reverseLoop i j d = reverseLoop (i + 1) (j - 1) (swp d i j) := by rw [reverseLoop, if_pos h]
theorem rev_end {i j : Nat} {d : Array Int} (h : ¬ i < j) : reverseLoop i j d = d := by rw [reverseLoop, if_neg h]
section
variable {B : World} {g n cap : Nat}

set_option maxHeartbeats 8000000 in
set_option maxRecDepth 100000 in
theorem rev_any (d : Array Int) (a b : Nat) (W : World) (hd : d.size = n) (hn : n ≤ 1000) (hab : a < b) (hb : b ≤ n) (hS : SR B g d W) :
    Calls Try.prog 42 #[.slice (some ⟨g, 0, none⟩) n cap, .int .i64 a, .int .i64 b] W fun e w' => e = .returned (.tuple #[]) ∧ SR B g (reverseRange d a b) w' := by
  have S0 := hid hS
  clear hS
  obtain ⟨j3, hj⟩ : ∃ q, q = b - 1 := ⟨_, rfl⟩
  have z2 : IntKind.i64.wrap ((b : Int) - 1) = (j3 : Int) := by rw [IntKind.wrap_i64]; omega
  have hjn : j3 < n := by omega
  have HJ := hid hj
  clear hj
  go_enter Try.func42, Try.ntmps42
  go_wp2_with fail
  go_loopw [6, 7] (fun iv jv wr => ∃ (i j : Nat) (dk : Array Int), iv = .int .i64 i ∧ jv = .int .i64 j ∧ i ≤ n ∧ j < n ∧ dk.size = n ∧ Hid (SR B g dk wr) ∧ Hid (reverseLoop i j dk = reverseLoop a j3 d)) (fun _ jv _ => (intOf jv).toNat)
  case atStart => exact ⟨a, j3, d, rfl, rfl, by omega, hjn, hd, S0, hid rfl⟩
  case round =>
    clear S0 z2
    obtain ⟨i, j, dk, rfl, rfl, hi, hj, hsk, S1, HO⟩ := hrel
    by_cases hlt : i < j
    · have hltz : (i : Int) < (j : Int) := by omega
      have bi : (i : Int) < (n : Int) := by omega
      have bj : (j : Int) < (n : Int) := by omega
      obtain ⟨x⟩ := Pl.mk' dk i (by omega)
      obtain ⟨y⟩ := Pl.mk' dk j (by omega)
      go_wp2_with fail
      refine reg_begin 13 (by kernel_rfl) ?_
      refine reg_hide (fun Q2 HQ => ?_)
      generalize hW : World.drew _ = W8
      have HE8 : Hid (Ext wr W8) := hid (by rw [← hW]; exact Ext.drew _)
      clear hW
      iterate 7 (refine reg_pf 16 rfl (by kernel_rfl) (by kernel_rfl) ?_; apply Exists.intro; refine ⟨fun w' => ?_, ?_⟩; · go_simp; exact rfl)
      refine reg_quiet 7 rfl (by kernel_rfl) (by kernel_rfl) ?_; apply Exists.intro; refine ⟨fun w' hw' => ?_, ?_⟩; · have q0 : w'.cell? ⟨g, j, none⟩ = some (.int .u32 y.val) := y.is (S1.out.later (HE8.out.trans hw')); go_simp; exact ⟨rfl, Ext.refl _⟩
      iterate 3 (refine reg_pf 16 rfl (by kernel_rfl) (by kernel_rfl) ?_; apply Exists.intro; refine ⟨fun w' => ?_, ?_⟩; · go_simp; exact rfl)
      refine reg_quiet 11 rfl (by kernel_rfl) (by kernel_rfl) ?_; apply Exists.intro; refine ⟨fun w' hw' => ?_, ?_⟩; · have q0 : w'.cell? ⟨g, i, none⟩ = some (.int .u32 x.val) := x.is (S1.out.later (HE8.out.trans hw')); go_simp; exact ⟨rfl, Ext.refl _⟩
      iterate 1 (refine reg_pf 16 rfl (by kernel_rfl) (by kernel_rfl) ?_; apply Exists.intro; refine ⟨fun w' => ?_, ?_⟩; · go_simp; exact rfl)
      refine reg_store 13 ⟨g, i, none⟩ (.int .u32 y.val) rfl (by kernel_rfl) (by kernel_rfl) rfl (by decide) (by go_simp) (by go_simp) (by kernel_rfl) rfl rfl (fun w' hw' => ?_) (fun w' hw' => ?_)
      · exact ⟨⟨_, (S1.out.later (HE8.out.trans hw')).cell i (by first | omega | (simp only [Array.size_setIfInBounds]; omega))⟩, (S1.out.later (HE8.out.trans hw')).free i⟩
      have S3 := hid ((S1.out.later (HE8.out.trans hw')).put i y.val)
      clear hw' HE8
      generalize World.setCell w' _ _ = W3 at *
      clear w'
      have HE8 : Hid (Ext W3 W3) := hid (Ext.refl _)
      iterate 1 (refine reg_pf 16 rfl (by kernel_rfl) (by kernel_rfl) ?_; apply Exists.intro; refine ⟨fun w' => ?_, ?_⟩; · go_simp; exact rfl)
      refine reg_store 15 ⟨g, j, none⟩ (.int .u32 x.val) rfl (by kernel_rfl) (by kernel_rfl) rfl (by decide) (by go_simp) (by go_simp) (by kernel_rfl) rfl rfl (fun w' hw' => ?_) (fun w' hw' => ?_)
      · exact ⟨⟨_, (S3.out.later (HE8.out.trans hw')).cell j (by first | omega | (simp only [Array.size_setIfInBounds]; omega))⟩, (S3.out.later (HE8.out.trans hw')).free j⟩
      have S4 := hid ((S3.out.later (HE8.out.trans hw')).put j x.val)
      clear hw' HE8
      generalize World.setCell w' _ _ = W3 at *
      clear w'
      have HE8 : Hid (Ext W3 W3) := hid (Ext.refl _)
      refine reg_done (by kernel_rfl) (fun W9 hw5 => ?_) _
      rw [HQ.out]
      clear HQ Q2
      have S5 := hid (S4.out.later (HE8.out.trans hw5))
      clear hw5 HE8
      go_simp
      have SN : Hid (SR B g (swp dk i j) W9) := hid (by have h5 := S5.out; rw [x.eq, y.eq] at h5; exact h5)
      go_wp2_with fail
      go_roundw
      case rel => exact ⟨i + 1, j - 1, swp dk i j, by go_num, by first | rfl | go_num | (congr 1; omega), by omega, by omega, by rw [size_swp]; exact hsk, SN, hid (by rw [← HO.out, rev_go hlt])⟩
      case measure => simp [intOf]; omega
    · have hltz : ¬ (i : Int) < (j : Int) := by omega
      go_wp2_with fail
      go_end0
      exact ⟨rfl, by unfold reverseRange; rw [← HJ.out, ← HO.out, rev_end hlt]; exact S1.out⟩

set_option maxHeartbeats 8000000 in
set_option maxRecDepth 100000 in
theorem pins_any (d : Array Int) (a b : Nat) (W : World) (hd : d.size = n) (hn : n < 50) (hab : a < b) (hb : b ≤ n) (hS : SR B g d W) :
    Calls Try.prog 43 #[.slice (some ⟨g, 0, none⟩) n cap, .int .i64 a, .int .i64 b] W fun e w' => e = .returned (.bool (partialInsertionSort ltInt d a b).2) ∧ SR B g (partialInsertionSort ltInt d a b).1 w' := by
  have S0 := hid hS
  clear hS
  obtain ⟨i0, hi0⟩ : ∃ q, q = a + 1 := ⟨_, rfl⟩
  have z1 : IntKind.i64.wrap ((a : Int) + 1) = (i0 : Int) := by rw [IntKind.wrap_i64]; omega
  obtain ⟨L, hL⟩ : ∃ q, q = b - a := ⟨_, rfl⟩
  have z2 : IntKind.i64.wrap ((b : Int) - (a : Int)) = (L : Int) := by rw [IntKind.wrap_i64]; omega
  have hL2 : (L : Int) < 50 := by omega
  have h1 : 1 ≤ i0 ∧ i0 ≤ b := by omega
  have HA := hid hi0
  have HL := hid hL
  clear hi0 hL
  go_enter Try.func43, Try.ntmps43
  go_wp2_with fail
  go_loopw [7, 8] (fun iv sv wr => iv = .int .i64 i0 ∧ sv = .int .i64 0 ∧ Hid (SR B g d wr)) (fun _ _ _ => 0)
  case atStart => exact ⟨rfl, rfl, S0⟩
  case round =>
    clear S0
    obtain ⟨rfl, rfl, S0⟩ := hrel
    go_wp2_with fail
    go_loopw [7] (fun iv wr => ∃ i : Nat, iv = .int .i64 i ∧ i0 ≤ i ∧ i ≤ b ∧ Hid (SR B g d wr) ∧ Hid (scanSorted ltInt d b i = scanSorted ltInt d b i0)) (fun iv _ => b - (intOf iv).toNat)
    case atStart => exact ⟨i0, rfl, Nat.le_refl _, h1.2, S0, hid rfl⟩
    case round =>
      clear S0
      obtain ⟨i, rfl, hi, hib, S1, HO⟩ := hrel
      by_cases hlt : i < b
      · have hltz : (i : Int) < (b : Int) := by omega
        have bi : (i : Int) < (n : Int) := by omega
        obtain ⟨ip, hip⟩ : ∃ q, q + 1 = i := ⟨i - 1, by omega⟩
        have z3 : IntKind.i64.wrap ((i : Int) - 1) = (ip : Int) := by rw [IntKind.wrap_i64]; omega
        have bp : (ip : Int) < (n : Int) := by omega
        obtain ⟨x⟩ := Pl.mk' d i (by omega)
        obtain ⟨y⟩ := Pl.mk' d ip (by omega)
        have HI := hid hip
        clear hip
        cases hlv : ltInt x.val y.val with
        | false =>
          have HLS := hid (less_at hlv)
          have HV : Hid (ltInt d[i]! d[i - 1]! = false) := hid (by rw [← x.eq, show i - 1 = ip by have := HI.out; omega, ← y.eq]; exact hlv)
          clear hlv
          go_wp2_with fail
          refine reg_begin 16 (by kernel_rfl) ?_
          refine reg_hide (fun Q2 HQ => ?_)
          generalize hW : World.drew _ = W8
          have HE8 : Hid (Ext wr W8) := hid (by rw [← hW]; exact Ext.drew _)
          clear hW
          iterate 7 (refine reg_pf 16 rfl (by kernel_rfl) (by kernel_rfl) ?_; apply Exists.intro; refine ⟨fun w' => ?_, ?_⟩; · go_simp; exact rfl)
          refine reg_quiet 7 rfl (by kernel_rfl) (by kernel_rfl) ?_; apply Exists.intro; refine ⟨fun w' hw' => ?_, ?_⟩; · have q0 : w'.cell? ⟨g, i, none⟩ = some (.int .u32 x.val) := x.is (S1.out.later (HE8.out.trans hw')); go_simp; exact ⟨rfl, Ext.refl _⟩
          iterate 4 (refine reg_pf 16 rfl (by kernel_rfl) (by kernel_rfl) ?_; apply Exists.intro; refine ⟨fun w' => ?_, ?_⟩; · go_simp; exact rfl)
          refine reg_quiet 12 rfl (by kernel_rfl) (by kernel_rfl) ?_; apply Exists.intro; refine ⟨fun w' hw' => ?_, ?_⟩; · have q0 : w'.cell? ⟨g, ip, none⟩ = some (.int .u32 y.val) := y.is (S1.out.later (HE8.out.trans hw')); go_simp; exact ⟨rfl, Ext.refl _⟩
          refine reg_quiet 13 rfl (by kernel_rfl) (by kernel_rfl) ?_; apply Exists.intro; refine ⟨fun w' hw' => ?_, ?_⟩; · go_simp; exact HLS.out w'
          iterate 2 (refine reg_pf 16 rfl (by kernel_rfl) (by kernel_rfl) ?_; apply Exists.intro; refine ⟨fun w' => ?_, ?_⟩; · go_simp; exact rfl)
          refine reg_done (by kernel_rfl) (fun W9 hw5 => ?_) _
          rw [HQ.out]
          clear HQ Q2
          have S5 := hid (S1.out.later (HE8.out.trans hw5))
          clear hw5 HE8
          go_simp
          go_wp2_with fail
          go_roundw
          case rel => exact ⟨i + 1, by go_num, by omega, by omega, S5, hid (by rw [← HO.out, scanSorted_go ltInt d b i hlt HV.out])⟩
          case measure => simp [intOf]; omega
        | true =>
          have HLS := hid (less_at hlv)
          have HV : Hid (ltInt d[i]! d[i - 1]! = true) := hid (by rw [← x.eq, show i - 1 = ip by have := HI.out; omega, ← y.eq]; exact hlv)
          have hne : ((i : Int) == (b : Int)) = false := by simp; omega
          clear hlv
          go_wp2_with fail
          refine reg_begin 16 (by kernel_rfl) ?_
          refine reg_hide (fun Q2 HQ => ?_)
          generalize hW : World.drew _ = W8
          have HE8 : Hid (Ext wr W8) := hid (by rw [← hW]; exact Ext.drew _)
          clear hW
          iterate 7 (refine reg_pf 16 rfl (by kernel_rfl) (by kernel_rfl) ?_; apply Exists.intro; refine ⟨fun w' => ?_, ?_⟩; · go_simp; exact rfl)
          refine reg_quiet 7 rfl (by kernel_rfl) (by kernel_rfl) ?_; apply Exists.intro; refine ⟨fun w' hw' => ?_, ?_⟩; · have q0 : w'.cell? ⟨g, i, none⟩ = some (.int .u32 x.val) := x.is (S1.out.later (HE8.out.trans hw')); go_simp; exact ⟨rfl, Ext.refl _⟩
          iterate 4 (refine reg_pf 16 rfl (by kernel_rfl) (by kernel_rfl) ?_; apply Exists.intro; refine ⟨fun w' => ?_, ?_⟩; · go_simp; exact rfl)
          refine reg_quiet 12 rfl (by kernel_rfl) (by kernel_rfl) ?_; apply Exists.intro; refine ⟨fun w' hw' => ?_, ?_⟩; · have q0 : w'.cell? ⟨g, ip, none⟩ = some (.int .u32 y.val) := y.is (S1.out.later (HE8.out.trans hw')); go_simp; exact ⟨rfl, Ext.refl _⟩
          refine reg_quiet 13 rfl (by kernel_rfl) (by kernel_rfl) ?_; apply Exists.intro; refine ⟨fun w' hw' => ?_, ?_⟩; · go_simp; exact HLS.out w'
          iterate 2 (refine reg_pf 16 rfl (by kernel_rfl) (by kernel_rfl) ?_; apply Exists.intro; refine ⟨fun w' => ?_, ?_⟩; · go_simp; exact rfl)
          refine reg_done (by kernel_rfl) (fun W9 hw5 => ?_) _
          rw [HQ.out]
          clear HQ Q2
          have S5 := hid (S1.out.later (HE8.out.trans hw5))
          clear hw5 HE8
          go_simp
          go_wp2_with fail
          go_ret
          have e : partialInsertionSort ltInt d a b = (d, false) := by
            have h5 := HO.out
            rw [scanSorted_stop ltInt d b i (.inr HV.out), HA.out] at h5
            exact pi_short ltInt a b 0 (a + 1) d (by omega) (by omega) (by omega)
          rw [e]
          exact ⟨rfl, S5.out⟩
      · have hltz : ¬ (i : Int) < (b : Int) := by omega
        have heq : ((i : Int) == (b : Int)) = true := by simp; omega
        go_wp2_with fail
        refine reg_begin 16 (by kernel_rfl) ?_
        refine reg_hide (fun Q2 HQ => ?_)
        generalize hW : World.drew _ = W8
        have HE8 : Hid (Ext wr W8) := hid (by rw [← hW]; exact Ext.drew _)
        clear hW
        iterate 4 (refine reg_pf 16 rfl (by kernel_rfl) (by kernel_rfl) ?_; apply Exists.intro; refine ⟨fun w' => ?_, ?_⟩; · go_simp; exact rfl)
        iterate 11 (refine reg_kf 16 rfl (by kernel_rfl) (by kernel_rfl) ?_)
        iterate 1 (refine reg_pf 16 rfl (by kernel_rfl) (by kernel_rfl) ?_; apply Exists.intro; refine ⟨fun w' => ?_, ?_⟩; · go_simp; exact rfl)
        refine reg_done (by kernel_rfl) (fun W9 hw5 => ?_) _
        rw [HQ.out]
        clear HQ Q2
        have S5 := hid (S1.out.later (HE8.out.trans hw5))
        clear hw5 HE8
        go_simp
        go_wp2_with fail
        go_ret
        have e : partialInsertionSort ltInt d a b = (d, true) := by
          have h5 := HO.out
          rw [scanSorted_stop ltInt d b i (.inl hlt), HA.out] at h5
          exact pi_true ltInt a b 0 (a + 1) d (by omega) (by omega)
        rw [e]
        exact ⟨rfl, S5.out⟩
end
end Go.Proofs.Ytnlblmpfkikneaa
