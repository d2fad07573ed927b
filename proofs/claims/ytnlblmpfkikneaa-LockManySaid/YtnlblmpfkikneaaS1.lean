/-
  Insertion sort of addresses.
-/
import Derived.Test.YtnlblmpfkikneaaS0
namespace Go.Proofs.Ytnlblmpfkikneaa
open Go Go.RowKit Go.Sort
attribute [local go_sem] extUpon
attribute [local go_sem ↓] eval_put_ne eval_put_none eval_put_same size_put eval_const
section
variable {B : World} {g n cap : Nat}

set_option maxHeartbeats 8000000 in
set_option maxRecDepth 100000 in
theorem ins_any (d : Array Int) (a b : Nat) (W : World) (hd : d.size = n) (hn : n ≤ 1000) (hab : a ≤ b) (hb : b ≤ n) (hS : SR B g d W) :
    Calls Try.prog 38 #[.slice (some ⟨g, 0, none⟩) n cap, .int .i64 a, .int .i64 b] W fun e w' => e = .returned (.tuple #[]) ∧ SR B g (insertionSort ltInt d a b) w' := by
  have S0 := hid hS
  clear hS
  go_enter Try.func38, Try.ntmps38
  go_wp2_with fail
  go_loopw [6] (fun iv wr => ∃ (i : Nat) (dk : Array Int), iv = .int .i64 i ∧ a < i ∧ i ≤ b + 1 ∧ dk.size = n ∧ Hid (SR B g dk wr) ∧ Hid (insOuter ltInt a b i dk = insOuter ltInt a b (a + 1) d)) (fun iv _ => b + 1 - (intOf iv).toNat)
  case atStart => exact ⟨a + 1, d, by go_num, by omega, by omega, hd, S0, hid rfl⟩
  case round =>
    clear S0
    obtain ⟨i, dk, rfl, hai, hib, hsk, S1, HO⟩ := hrel
    by_cases hlt : i < b
    · have hltz : (i : Int) < (b : Int) := by omega
      go_wp2_with fail
      go_loopw [7] (fun jv wr2 => ∃ (j : Nat) (dj : Array Int), jv = .int .i64 j ∧ a ≤ j ∧ j ≤ i ∧ dj.size = n ∧ Hid (SR B g dj wr2) ∧ Hid (insInner ltInt a j dj = insInner ltInt a i dk)) (fun jv _ => (intOf jv).toNat)
      case atStart => exact ⟨i, dk, rfl, by omega, Nat.le_refl _, hsk, S1, hid rfl⟩
      case round =>
        clear S1
        obtain ⟨j, dj, rfl, haj, hji, hsj, SJ, HI⟩ := hrel
        have OUT : Hid ((j ≤ a ∨ ltInt dj[j]! dj[j - 1]! = false) → Hid (insOuter ltInt a b (i + 1) dj = insOuter ltInt a b (a + 1) d)) := hid (fun hs => by
          show _ = _
          rw [← HO.out, insOuter_go _ _ _ _ _ hlt, ← HI.out, insInner_stop _ _ _ _ hs])
        by_cases hja : a < j
        · have hjaz : (a : Int) < (j : Int) := by omega
          obtain ⟨jp, hjp⟩ : ∃ q, q + 1 = j := ⟨j - 1, by omega⟩
          have zjp : IntKind.i64.wrap ((j : Int) - 1) = (jp : Int) := by rw [IntKind.wrap_i64]; omega
          have b1 : (j : Int) < (n : Int) := by omega
          have b2 : (jp : Int) < (n : Int) := by omega
          obtain ⟨x⟩ := Pl.mk' dj j (by omega)
          obtain ⟨y⟩ := Pl.mk' dj jp (by omega)
          have HJ := hid hjp
          clear hjp
          cases hlv : ltInt x.val y.val with
          | true =>
            have HL := hid (less_at hlv)
            have HV : Hid (ltInt dj[j]! dj[j - 1]! = true) := hid (by rw [← x.eq, show j - 1 = jp by have := HJ.out; omega, ← y.eq]; exact hlv)
            clear hlv
            go_wp2_with fail
            refine reg_begin 15 (by kernel_rfl) ?_
            refine reg_hide (fun Q2 HQ => ?_)
            generalize hW : World.drew _ = W8
            have HE8 : Hid (Ext wr W8) := hid (by rw [← hW]; exact Ext.drew _)
            clear hW
            iterate 7 (refine reg_pf 15 rfl (by kernel_rfl) (by kernel_rfl) ?_; apply Exists.intro; refine ⟨fun w' => ?_, ?_⟩; · go_simp; exact rfl)
            refine reg_quiet 7 rfl (by kernel_rfl) (by kernel_rfl) ?_; apply Exists.intro; refine ⟨fun w' hw' => ?_, ?_⟩; · have q0 : w'.cell? ⟨g, j, none⟩ = some (.int .u32 x.val) := x.is (SJ.out.later (HE8.out.trans hw')); go_simp; exact ⟨rfl, Ext.refl _⟩
            iterate 4 (refine reg_pf 15 rfl (by kernel_rfl) (by kernel_rfl) ?_; apply Exists.intro; refine ⟨fun w' => ?_, ?_⟩; · go_simp; exact rfl)
            refine reg_quiet 12 rfl (by kernel_rfl) (by kernel_rfl) ?_; apply Exists.intro; refine ⟨fun w' hw' => ?_, ?_⟩; · have q0 : w'.cell? ⟨g, jp, none⟩ = some (.int .u32 y.val) := y.is (SJ.out.later (HE8.out.trans hw')); go_simp; exact ⟨rfl, Ext.refl _⟩
            refine reg_quiet 13 rfl (by kernel_rfl) (by kernel_rfl) ?_; apply Exists.intro; refine ⟨fun w' hw' => ?_, ?_⟩; · go_simp; exact HL.out w'
            iterate 1 (refine reg_pf 15 rfl (by kernel_rfl) (by kernel_rfl) ?_; apply Exists.intro; refine ⟨fun w' => ?_, ?_⟩; · go_simp; exact rfl)
            refine reg_done (by kernel_rfl) (fun W9 hw5 => ?_) _
            rw [HQ.out]
            clear HQ Q2
            have S2 := hid (SJ.out.later (HE8.out.trans hw5))
            clear hw5 HE8
            go_simp
            clear HL SJ
            go_wp2_with fail
            refine reg_begin 15 (by kernel_rfl) ?_
            refine reg_hide (fun Q2 HQ => ?_)
            generalize hW : World.drew _ = W8
            have HE8 : Hid (Ext W9 W8) := hid (by rw [← hW]; exact Ext.drew _)
            clear hW
            iterate 9 (refine reg_pf 18 rfl (by kernel_rfl) (by kernel_rfl) ?_; apply Exists.intro; refine ⟨fun w' => ?_, ?_⟩; · go_simp; exact rfl)
            refine reg_quiet 9 rfl (by kernel_rfl) (by kernel_rfl) ?_; apply Exists.intro; refine ⟨fun w' hw' => ?_, ?_⟩; · have q0 : w'.cell? ⟨g, jp, none⟩ = some (.int .u32 y.val) := y.is (S2.out.later (HE8.out.trans hw')); go_simp; exact ⟨rfl, Ext.refl _⟩
            iterate 3 (refine reg_pf 18 rfl (by kernel_rfl) (by kernel_rfl) ?_; apply Exists.intro; refine ⟨fun w' => ?_, ?_⟩; · go_simp; exact rfl)
            refine reg_quiet 13 rfl (by kernel_rfl) (by kernel_rfl) ?_; apply Exists.intro; refine ⟨fun w' hw' => ?_, ?_⟩; · have q0 : w'.cell? ⟨g, j, none⟩ = some (.int .u32 x.val) := x.is (S2.out.later (HE8.out.trans hw')); go_simp; exact ⟨rfl, Ext.refl _⟩
            iterate 1 (refine reg_pf 18 rfl (by kernel_rfl) (by kernel_rfl) ?_; apply Exists.intro; refine ⟨fun w' => ?_, ?_⟩; · go_simp; exact rfl)
            refine reg_store 15 ⟨g, j, none⟩ (.int .u32 y.val) rfl (by kernel_rfl) (by kernel_rfl) rfl (by decide) (by go_simp) (by go_simp) (by kernel_rfl) rfl rfl (fun w' hw' => ?_) (fun w' hw' => ?_)
            · exact ⟨⟨_, (S2.out.later (HE8.out.trans hw')).cell j (by first | omega | (simp only [Array.size_setIfInBounds]; omega))⟩, (S2.out.later (HE8.out.trans hw')).free j⟩
            have S3 := hid ((S2.out.later (HE8.out.trans hw')).put j y.val)
            clear hw' HE8
            generalize World.setCell w' _ _ = W3 at *
            clear w'
            have HE8 : Hid (Ext W3 W3) := hid (Ext.refl _)
            iterate 1 (refine reg_pf 18 rfl (by kernel_rfl) (by kernel_rfl) ?_; apply Exists.intro; refine ⟨fun w' => ?_, ?_⟩; · go_simp; exact rfl)
            refine reg_store 17 ⟨g, jp, none⟩ (.int .u32 x.val) rfl (by kernel_rfl) (by kernel_rfl) rfl (by decide) (by go_simp) (by go_simp) (by kernel_rfl) rfl rfl (fun w' hw' => ?_) (fun w' hw' => ?_)
            · exact ⟨⟨_, (S3.out.later (HE8.out.trans hw')).cell jp (by first | omega | (simp only [Array.size_setIfInBounds]; omega))⟩, (S3.out.later (HE8.out.trans hw')).free jp⟩
            have S4 := hid ((S3.out.later (HE8.out.trans hw')).put jp x.val)
            clear hw' HE8
            generalize World.setCell w' _ _ = W3 at *
            clear w'
            have HE8 : Hid (Ext W3 W3) := hid (Ext.refl _)
            refine reg_done (by kernel_rfl) (fun W9 hw5 => ?_) _
            rw [HQ.out]
            clear HQ Q2
            have S5 := hid (S4.out.later (HE8.out.trans hw5))
            clear hw5 HE8
            go_simp
            have SN : Hid (SR B g (swp dj j (j - 1)) W9) := hid (by have h5 := S5.out; rw [x.eq, y.eq] at h5; rw [show j - 1 = jp by have := HJ.out; omega]; exact h5)
            go_wp2_with fail
            go_roundw
            case rel => exact ⟨j - 1, swp dj j (j - 1), by have := HJ.out; first | rfl | go_num | (congr 1; omega), by omega, by omega, by rw [size_swp]; exact hsj, SN, hid (by rw [← HI.out, insInner_go ltInt a j dj hja HV.out])⟩
            case measure => have := HJ.out; simp [intOf]; omega
          | false =>
            have HL := hid (less_at hlv)
            have HV : Hid (ltInt dj[j]! dj[j - 1]! = false) := hid (by rw [← x.eq, show j - 1 = jp by have := HJ.out; omega, ← y.eq]; exact hlv)
            clear hlv
            go_wp2_with fail
            refine reg_begin 15 (by kernel_rfl) ?_
            refine reg_hide (fun Q2 HQ => ?_)
            generalize hW : World.drew _ = W8
            have HE8 : Hid (Ext wr W8) := hid (by rw [← hW]; exact Ext.drew _)
            clear hW
            iterate 7 (refine reg_pf 15 rfl (by kernel_rfl) (by kernel_rfl) ?_; apply Exists.intro; refine ⟨fun w' => ?_, ?_⟩; · go_simp; exact rfl)
            refine reg_quiet 7 rfl (by kernel_rfl) (by kernel_rfl) ?_; apply Exists.intro; refine ⟨fun w' hw' => ?_, ?_⟩; · have q0 : w'.cell? ⟨g, j, none⟩ = some (.int .u32 x.val) := x.is (SJ.out.later (HE8.out.trans hw')); go_simp; exact ⟨rfl, Ext.refl _⟩
            iterate 4 (refine reg_pf 15 rfl (by kernel_rfl) (by kernel_rfl) ?_; apply Exists.intro; refine ⟨fun w' => ?_, ?_⟩; · go_simp; exact rfl)
            refine reg_quiet 12 rfl (by kernel_rfl) (by kernel_rfl) ?_; apply Exists.intro; refine ⟨fun w' hw' => ?_, ?_⟩; · have q0 : w'.cell? ⟨g, jp, none⟩ = some (.int .u32 y.val) := y.is (SJ.out.later (HE8.out.trans hw')); go_simp; exact ⟨rfl, Ext.refl _⟩
            refine reg_quiet 13 rfl (by kernel_rfl) (by kernel_rfl) ?_; apply Exists.intro; refine ⟨fun w' hw' => ?_, ?_⟩; · go_simp; exact HL.out w'
            iterate 1 (refine reg_pf 15 rfl (by kernel_rfl) (by kernel_rfl) ?_; apply Exists.intro; refine ⟨fun w' => ?_, ?_⟩; · go_simp; exact rfl)
            refine reg_done (by kernel_rfl) (fun W9 hw5 => ?_) _
            rw [HQ.out]
            clear HQ Q2
            have S2 := hid (SJ.out.later (HE8.out.trans hw5))
            clear hw5 HE8
            go_simp
            clear HL SJ
            go_wp2_with fail
            go_roundw
            case rel => exact ⟨i + 1, dj, by go_num, by omega, by omega, hsj, S2, OUT.out (Or.inr HV.out)⟩
            case measure => simp [intOf]; omega
        · have hjaz : ¬ (a : Int) < (j : Int) := by omega
          go_wp2_with fail
          refine reg_begin 15 (by kernel_rfl) ?_
          refine reg_hide (fun Q2 HQ => ?_)
          generalize hW : World.drew _ = W8
          have HE8 : Hid (Ext wr W8) := hid (by rw [← hW]; exact Ext.drew _)
          clear hW
          iterate 4 (refine reg_pf 15 rfl (by kernel_rfl) (by kernel_rfl) ?_; apply Exists.intro; refine ⟨fun w' => ?_, ?_⟩; · go_simp; exact rfl)
          iterate 10 (refine reg_kf 15 rfl (by kernel_rfl) (by kernel_rfl) ?_)
          iterate 1 (refine reg_pf 15 rfl (by kernel_rfl) (by kernel_rfl) ?_; apply Exists.intro; refine ⟨fun w' => ?_, ?_⟩; · go_simp; exact rfl)
          refine reg_done (by kernel_rfl) (fun W9 hw5 => ?_) _
          rw [HQ.out]
          clear HQ Q2
          have S2 := hid (SJ.out.later (HE8.out.trans hw5))
          clear hw5 HE8
          go_simp
          clear SJ
          go_wp2_with fail
          go_roundw
          case rel => exact ⟨i + 1, dj, by go_num, by omega, by omega, hsj, S2, OUT.out (Or.inl (by omega))⟩
          case measure => simp [intOf]; omega
    · -- the end
      have hltz : ¬ (i : Int) < (b : Int) := by omega
      go_wp2_with fail
      go_end0
      exact ⟨rfl, by unfold Sort.insertionSort; rw [← HO.out, insOuter_stop _ _ _ _ _ hlt]; exact S1.out⟩
end
end Go.Proofs.Ytnlblmpfkikneaa
