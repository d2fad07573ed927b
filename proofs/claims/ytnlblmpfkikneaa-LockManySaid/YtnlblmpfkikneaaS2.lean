/-
  The heap: sifting down, and sorting by it.
-/
import Derived.Test.YtnlblmpfkikneaaS1
namespace Go.Proofs.Ytnlblmpfkikneaa
open Go Go.RowKit Go.Sort
attribute [local go_sem] extUpon
attribute [local go_sem ↓] eval_put_ne eval_put_none eval_put_same size_put eval_const
section
variable {hi F r c c1 p q q1 : Nat} {dk : Array Int}
theorem right_stop (h : c = 2 * r + 1 ∧ c1 = 2 * r + 2 ∧ p = F + r ∧ q = F + c ∧ q1 = F + c1) (h1 : c1 < hi) (h2 : ltInt dk[q]! dk[q1]! = true) (h3 : ltInt dk[p]! dk[q1]! = false) : siftDown ltInt hi F r dk = dk := by
  obtain ⟨rfl, rfl, rfl, rfl, rfl⟩ := h
  exact sd_right_stop ltInt dk h1 h2 h3
theorem right_go (h : c = 2 * r + 1 ∧ c1 = 2 * r + 2 ∧ p = F + r ∧ q = F + c ∧ q1 = F + c1) (h1 : c1 < hi) (h2 : ltInt dk[q]! dk[q1]! = true) (h3 : ltInt dk[p]! dk[q1]! = true) : siftDown ltInt hi F r dk = siftDown ltInt hi F c1 (swp dk p q1) := by
  obtain ⟨rfl, rfl, rfl, rfl, rfl⟩ := h
  exact sd_right_go ltInt dk h1 h2 h3
theorem left_stop (h : c = 2 * r + 1 ∧ c1 = 2 * r + 2 ∧ p = F + r ∧ q = F + c ∧ q1 = F + c1) (h0 : c < hi) (h1 : c1 < hi → ltInt dk[q]! dk[q1]! = false) (h3 : ltInt dk[p]! dk[q]! = false) : siftDown ltInt hi F r dk = dk := by
  obtain ⟨rfl, rfl, rfl, rfl, rfl⟩ := h
  exact sd_left_stop ltInt dk h0 h1 h3
theorem left_go (h : c = 2 * r + 1 ∧ c1 = 2 * r + 2 ∧ p = F + r ∧ q = F + c ∧ q1 = F + c1) (h0 : c < hi) (h1 : c1 < hi → ltInt dk[q]! dk[q1]! = false) (h3 : ltInt dk[p]! dk[q]! = true) : siftDown ltInt hi F r dk = siftDown ltInt hi F c (swp dk p q) := by
  obtain ⟨rfl, rfl, rfl, rfl, rfl⟩ := h
  exact sd_left_go ltInt dk h0 h1 h3
end
section
variable {B : World} {g n cap : Nat}

set_option maxHeartbeats 8000000 in
set_option maxRecDepth 100000 in
theorem sift_any (d : Array Int) (lo hi F : Nat) (W : World) (hd : d.size = n) (hn : n ≤ 1000) (hlo : lo ≤ hi) (hb : F + hi ≤ n) (hS : SR B g d W) :
    Calls Try.prog 49 #[.slice (some ⟨g, 0, none⟩) n cap, .int .i64 lo, .int .i64 hi, .int .i64 F] W fun e w' => e = .returned (.tuple #[]) ∧ SR B g (siftDown ltInt hi F lo d) w' := by
  have S0 := hid hS
  clear hS
  go_enter Try.func49, Try.ntmps49
  go_wp2_with fail
  go_loopw [8] (fun rv W9 => ∃ (r : Nat) (dk : Array Int), rv = .int .i64 r ∧ r ≤ hi ∧ dk.size = n ∧ Hid (SR B g dk W9) ∧ Hid (siftDown ltInt hi F r dk = siftDown ltInt hi F lo d)) (fun rv _ => hi - (intOf rv).toNat)
  case atStart => exact ⟨lo, d, rfl, hlo, hd, S0, hid rfl⟩
  case round =>
    clear S0
    obtain ⟨r, dk, rfl, hr, hsk, SX, HS⟩ := hrel
    obtain ⟨r2, hr2⟩ : ∃ q, q = 2 * r := ⟨_, rfl⟩
    obtain ⟨c, hc⟩ : ∃ q, q = 2 * r + 1 := ⟨_, rfl⟩
    obtain ⟨c1, hc1⟩ : ∃ q, q = 2 * r + 2 := ⟨_, rfl⟩
    obtain ⟨p, hp⟩ : ∃ q, q = F + r := ⟨_, rfl⟩
    obtain ⟨q, hq⟩ : ∃ q, q = F + c := ⟨_, rfl⟩
    obtain ⟨q1, hq1⟩ : ∃ q, q = F + c1 := ⟨_, rfl⟩
    have z1 : IntKind.i64.wrap (2 * (r : Int)) = (r2 : Int) := by rw [IntKind.wrap_i64]; omega
    have z2 : IntKind.i64.wrap ((r2 : Int) + 1) = (c : Int) := by rw [IntKind.wrap_i64]; omega
    have z3 : IntKind.i64.wrap ((c : Int) + 1) = (c1 : Int) := by rw [IntKind.wrap_i64]; omega
    have z4 : IntKind.i64.wrap ((F : Int) + (r : Int)) = (p : Int) := by rw [IntKind.wrap_i64]; omega
    have z5 : IntKind.i64.wrap ((F : Int) + (c : Int)) = (q : Int) := by rw [IntKind.wrap_i64]; omega
    have z6 : IntKind.i64.wrap ((q : Int) + 1) = (q1 : Int) := by rw [IntKind.wrap_i64]; omega
    have z7 : IntKind.i64.wrap ((F : Int) + (c1 : Int)) = (q1 : Int) := by rw [IntKind.wrap_i64]; omega
    have HC := hid (And.intro hc (And.intro hc1 (And.intro hp (And.intro hq hq1))))
    by_cases hch : hi ≤ c
    · have hch2 : (hi : Int) ≤ (c : Int) := by omega
      clear hr2 hc hc1 hp hq hq1
      go_wp2_with fail
      go_end0
      exact ⟨rfl, by rw [← HS.out, sd_end ltInt dk (by have := HC.out; omega)]; exact SX.out⟩
    · have hch2 : ¬ (hi : Int) ≤ (c : Int) := by omega
      have b1 : (p : Int) < (n : Int) := by omega
      have b2 : (q : Int) < (n : Int) := by omega
      obtain ⟨x⟩ := Pl.mk' dk q (by omega)
      by_cases h2 : c1 < hi
      · have h2z : (c1 : Int) < (hi : Int) := by omega
        have b3 : (q1 : Int) < (n : Int) := by omega
        obtain ⟨y⟩ := Pl.mk' dk q1 (by omega)
        clear hr2 hc hc1 hp hq hq1
        cases hlv : ltInt x.val y.val with
        | true =>
          have HL := hid (less_at hlv)
          have HV : Hid (ltInt dk[q]! dk[q1]! = true) := hid (by rw [← x.eq, ← y.eq]; exact hlv)
          clear hlv
          go_wp2_with fail
          refine reg_begin 20 (by kernel_rfl) ?_
          refine reg_hide (fun Q2 HQ => ?_)
          generalize hW : World.drew _ = W8
          have HE8 : Hid (Ext wr W8) := hid (by rw [← hW]; exact Ext.drew _)
          clear hW
          iterate 10 (refine reg_pf 20 rfl (by kernel_rfl) (by kernel_rfl) ?_; apply Exists.intro; refine ⟨fun w' => ?_, ?_⟩; · go_simp; exact rfl)
          refine reg_quiet 10 rfl (by kernel_rfl) (by kernel_rfl) ?_; apply Exists.intro; refine ⟨fun w' hw' => ?_, ?_⟩; · have q0 : w'.cell? ⟨g, q, none⟩ = some (.int .u32 x.val) := x.is (SX.out.later (HE8.out.trans hw')); go_simp; exact ⟨rfl, Ext.refl _⟩
          iterate 6 (refine reg_pf 20 rfl (by kernel_rfl) (by kernel_rfl) ?_; apply Exists.intro; refine ⟨fun w' => ?_, ?_⟩; · go_simp; exact rfl)
          refine reg_quiet 17 rfl (by kernel_rfl) (by kernel_rfl) ?_; apply Exists.intro; refine ⟨fun w' hw' => ?_, ?_⟩; · have q0 : w'.cell? ⟨g, q1, none⟩ = some (.int .u32 y.val) := y.is (SX.out.later (HE8.out.trans hw')); go_simp; exact ⟨rfl, Ext.refl _⟩
          refine reg_quiet 18 rfl (by kernel_rfl) (by kernel_rfl) ?_; apply Exists.intro; refine ⟨fun w' hw' => ?_, ?_⟩; · go_simp; exact HL.out w'
          iterate 1 (refine reg_pf 20 rfl (by kernel_rfl) (by kernel_rfl) ?_; apply Exists.intro; refine ⟨fun w' => ?_, ?_⟩; · go_simp; exact rfl)
          refine reg_done (by kernel_rfl) (fun W9 hw5 => ?_) _
          rw [HQ.out]
          clear HQ Q2
          have S7 := hid (SX.out.later (HE8.out.trans hw5))
          clear hw5 HE8
          go_simp
          clear HL SX
          have SX := S7
          clear S7
          obtain ⟨z⟩ := Pl.mk' dk p (by omega)
          cases hl2 : ltInt z.val y.val with
          | false =>
            have HL := hid (less_at hl2)
            have HV2 : Hid (ltInt dk[p]! dk[q1]! = false) := hid (by rw [← z.eq, ← y.eq]; exact hl2)
            clear hl2
            go_wp2_with fail
            refine reg_begin 14 (by kernel_rfl) ?_
            refine reg_hide (fun Q2 HQ => ?_)
            generalize hW : World.drew _ = W8
            have HE8 : Hid (Ext W9 W8) := hid (by rw [← hW]; exact Ext.drew _)
            clear hW
            iterate 5 (refine reg_pf 14 rfl (by kernel_rfl) (by kernel_rfl) ?_; apply Exists.intro; refine ⟨fun w' => ?_, ?_⟩; · go_simp; exact rfl)
            refine reg_quiet 5 rfl (by kernel_rfl) (by kernel_rfl) ?_; apply Exists.intro; refine ⟨fun w' hw' => ?_, ?_⟩; · have q0 : w'.cell? ⟨g, p, none⟩ = some (.int .u32 z.val) := z.is (SX.out.later (HE8.out.trans hw')); go_simp; exact ⟨rfl, Ext.refl _⟩
            iterate 5 (refine reg_pf 14 rfl (by kernel_rfl) (by kernel_rfl) ?_; apply Exists.intro; refine ⟨fun w' => ?_, ?_⟩; · go_simp; exact rfl)
            refine reg_quiet 11 rfl (by kernel_rfl) (by kernel_rfl) ?_; apply Exists.intro; refine ⟨fun w' hw' => ?_, ?_⟩; · have q0 : w'.cell? ⟨g, q1, none⟩ = some (.int .u32 y.val) := y.is (SX.out.later (HE8.out.trans hw')); go_simp; exact ⟨rfl, Ext.refl _⟩
            refine reg_quiet 12 rfl (by kernel_rfl) (by kernel_rfl) ?_; apply Exists.intro; refine ⟨fun w' hw' => ?_, ?_⟩; · go_simp; exact HL.out w'
            iterate 1 (refine reg_pf 14 rfl (by kernel_rfl) (by kernel_rfl) ?_; apply Exists.intro; refine ⟨fun w' => ?_, ?_⟩; · go_simp; exact rfl)
            refine reg_done (by kernel_rfl) (fun W9 hw5 => ?_) _
            rw [HQ.out]
            clear HQ Q2
            have S5 := hid (SX.out.later (HE8.out.trans hw5))
            clear hw5 HE8
            go_simp
            go_wp2_with fail
            (try simp only [Exit.inBlock, Exit.then])
            refine bodyPost_ret (results_none rfl _ _ _) rfl ?_
            exact ⟨rfl, by rw [← HS.out, right_stop HC.out h2 HV.out HV2.out]; exact S5.out⟩
          | true =>
            have HL := hid (less_at hl2)
            have HV2 : Hid (ltInt dk[p]! dk[q1]! = true) := hid (by rw [← z.eq, ← y.eq]; exact hl2)
            clear hl2
            go_wp2_with fail
            refine reg_begin 14 (by kernel_rfl) ?_
            refine reg_hide (fun Q2 HQ => ?_)
            generalize hW : World.drew _ = W8
            have HE8 : Hid (Ext W9 W8) := hid (by rw [← hW]; exact Ext.drew _)
            clear hW
            iterate 5 (refine reg_pf 14 rfl (by kernel_rfl) (by kernel_rfl) ?_; apply Exists.intro; refine ⟨fun w' => ?_, ?_⟩; · go_simp; exact rfl)
            refine reg_quiet 5 rfl (by kernel_rfl) (by kernel_rfl) ?_; apply Exists.intro; refine ⟨fun w' hw' => ?_, ?_⟩; · have q0 : w'.cell? ⟨g, p, none⟩ = some (.int .u32 z.val) := z.is (SX.out.later (HE8.out.trans hw')); go_simp; exact ⟨rfl, Ext.refl _⟩
            iterate 5 (refine reg_pf 14 rfl (by kernel_rfl) (by kernel_rfl) ?_; apply Exists.intro; refine ⟨fun w' => ?_, ?_⟩; · go_simp; exact rfl)
            refine reg_quiet 11 rfl (by kernel_rfl) (by kernel_rfl) ?_; apply Exists.intro; refine ⟨fun w' hw' => ?_, ?_⟩; · have q0 : w'.cell? ⟨g, q1, none⟩ = some (.int .u32 y.val) := y.is (SX.out.later (HE8.out.trans hw')); go_simp; exact ⟨rfl, Ext.refl _⟩
            refine reg_quiet 12 rfl (by kernel_rfl) (by kernel_rfl) ?_; apply Exists.intro; refine ⟨fun w' hw' => ?_, ?_⟩; · go_simp; exact HL.out w'
            iterate 1 (refine reg_pf 14 rfl (by kernel_rfl) (by kernel_rfl) ?_; apply Exists.intro; refine ⟨fun w' => ?_, ?_⟩; · go_simp; exact rfl)
            refine reg_done (by kernel_rfl) (fun W9 hw5 => ?_) _
            rw [HQ.out]
            clear HQ Q2
            have S5 := hid (SX.out.later (HE8.out.trans hw5))
            clear hw5 HE8
            go_simp
            clear HL SX
            go_wp2_with fail
            refine reg_begin 21 (by kernel_rfl) ?_
            refine reg_hide (fun Q2 HQ => ?_)
            generalize hW : World.drew _ = W8
            have HE8 : Hid (Ext W9 W8) := hid (by rw [← hW]; exact Ext.drew _)
            clear hW
            iterate 13 (refine reg_pf 24 rfl (by kernel_rfl) (by kernel_rfl) ?_; apply Exists.intro; refine ⟨fun w' => ?_, ?_⟩; · go_simp; exact rfl)
            refine reg_quiet 13 rfl (by kernel_rfl) (by kernel_rfl) ?_; apply Exists.intro; refine ⟨fun w' hw' => ?_, ?_⟩; · have q0 : w'.cell? ⟨g, q1, none⟩ = some (.int .u32 y.val) := y.is (S5.out.later (HE8.out.trans hw')); go_simp; exact ⟨rfl, Ext.refl _⟩
            iterate 5 (refine reg_pf 24 rfl (by kernel_rfl) (by kernel_rfl) ?_; apply Exists.intro; refine ⟨fun w' => ?_, ?_⟩; · go_simp; exact rfl)
            refine reg_quiet 19 rfl (by kernel_rfl) (by kernel_rfl) ?_; apply Exists.intro; refine ⟨fun w' hw' => ?_, ?_⟩; · have q0 : w'.cell? ⟨g, p, none⟩ = some (.int .u32 z.val) := z.is (S5.out.later (HE8.out.trans hw')); go_simp; exact ⟨rfl, Ext.refl _⟩
            iterate 1 (refine reg_pf 24 rfl (by kernel_rfl) (by kernel_rfl) ?_; apply Exists.intro; refine ⟨fun w' => ?_, ?_⟩; · go_simp; exact rfl)
            refine reg_store 21 ⟨g, p, none⟩ (.int .u32 y.val) rfl (by kernel_rfl) (by kernel_rfl) rfl (by decide) (by go_simp) (by go_simp) (by kernel_rfl) rfl rfl (fun w' hw' => ?_) (fun w' hw' => ?_)
            · exact ⟨⟨_, (S5.out.later (HE8.out.trans hw')).cell p (by first | omega | (simp only [Array.size_setIfInBounds]; omega))⟩, (S5.out.later (HE8.out.trans hw')).free p⟩
            have S3 := hid ((S5.out.later (HE8.out.trans hw')).put p y.val)
            clear hw' HE8
            generalize World.setCell w' _ _ = W3 at *
            clear w'
            have HE8 : Hid (Ext W3 W3) := hid (Ext.refl _)
            iterate 1 (refine reg_pf 24 rfl (by kernel_rfl) (by kernel_rfl) ?_; apply Exists.intro; refine ⟨fun w' => ?_, ?_⟩; · go_simp; exact rfl)
            refine reg_store 23 ⟨g, q1, none⟩ (.int .u32 z.val) rfl (by kernel_rfl) (by kernel_rfl) rfl (by decide) (by go_simp) (by go_simp) (by kernel_rfl) rfl rfl (fun w' hw' => ?_) (fun w' hw' => ?_)
            · exact ⟨⟨_, (S3.out.later (HE8.out.trans hw')).cell q1 (by first | omega | (simp only [Array.size_setIfInBounds]; omega))⟩, (S3.out.later (HE8.out.trans hw')).free q1⟩
            have S4 := hid ((S3.out.later (HE8.out.trans hw')).put q1 z.val)
            clear hw' HE8
            generalize World.setCell w' _ _ = W3 at *
            clear w'
            have HE8 : Hid (Ext W3 W3) := hid (Ext.refl _)
            refine reg_done (by kernel_rfl) (fun W9 hw5 => ?_) _
            rw [HQ.out]
            clear HQ Q2
            have S6 := hid (S4.out.later (HE8.out.trans hw5))
            clear hw5 HE8
            go_simp
            have SN : Hid (SR B g (swp dk p q1) W9) := hid (by have h5 := S6.out; rw [z.eq, y.eq] at h5; exact h5)
            go_wp2_with fail
            go_roundw
            case rel => exact ⟨c1, swp dk p q1, rfl, by have := HC.out; omega, by rw [size_swp]; exact hsk, SN, hid (by rw [← HS.out, right_go HC.out h2 HV.out HV2.out])⟩
            case measure => have := HC.out; simp [intOf]; omega
        | false =>
          have HL := hid (less_at hlv)
          have HV : Hid (ltInt dk[q]! dk[q1]! = false) := hid (by rw [← x.eq, ← y.eq]; exact hlv)
          clear hlv
          go_wp2_with fail
          refine reg_begin 20 (by kernel_rfl) ?_
          refine reg_hide (fun Q2 HQ => ?_)
          generalize hW : World.drew _ = W8
          have HE8 : Hid (Ext wr W8) := hid (by rw [← hW]; exact Ext.drew _)
          clear hW
          iterate 10 (refine reg_pf 20 rfl (by kernel_rfl) (by kernel_rfl) ?_; apply Exists.intro; refine ⟨fun w' => ?_, ?_⟩; · go_simp; exact rfl)
          refine reg_quiet 10 rfl (by kernel_rfl) (by kernel_rfl) ?_; apply Exists.intro; refine ⟨fun w' hw' => ?_, ?_⟩; · have q0 : w'.cell? ⟨g, q, none⟩ = some (.int .u32 x.val) := x.is (SX.out.later (HE8.out.trans hw')); go_simp; exact ⟨rfl, Ext.refl _⟩
          iterate 6 (refine reg_pf 20 rfl (by kernel_rfl) (by kernel_rfl) ?_; apply Exists.intro; refine ⟨fun w' => ?_, ?_⟩; · go_simp; exact rfl)
          refine reg_quiet 17 rfl (by kernel_rfl) (by kernel_rfl) ?_; apply Exists.intro; refine ⟨fun w' hw' => ?_, ?_⟩; · have q0 : w'.cell? ⟨g, q1, none⟩ = some (.int .u32 y.val) := y.is (SX.out.later (HE8.out.trans hw')); go_simp; exact ⟨rfl, Ext.refl _⟩
          refine reg_quiet 18 rfl (by kernel_rfl) (by kernel_rfl) ?_; apply Exists.intro; refine ⟨fun w' hw' => ?_, ?_⟩; · go_simp; exact HL.out w'
          iterate 1 (refine reg_pf 20 rfl (by kernel_rfl) (by kernel_rfl) ?_; apply Exists.intro; refine ⟨fun w' => ?_, ?_⟩; · go_simp; exact rfl)
          refine reg_done (by kernel_rfl) (fun W9 hw5 => ?_) _
          rw [HQ.out]
          clear HQ Q2
          have S7 := hid (SX.out.later (HE8.out.trans hw5))
          clear hw5 HE8
          go_simp
          clear HL SX
          have SX := S7
          clear S7
          obtain ⟨z⟩ := Pl.mk' dk p (by omega)
          cases hl2 : ltInt z.val x.val with
          | false =>
            have HL := hid (less_at hl2)
            have HV2 : Hid (ltInt dk[p]! dk[q]! = false) := hid (by rw [← z.eq, ← x.eq]; exact hl2)
            clear hl2
            go_wp2_with fail
            refine reg_begin 14 (by kernel_rfl) ?_
            refine reg_hide (fun Q2 HQ => ?_)
            generalize hW : World.drew _ = W8
            have HE8 : Hid (Ext W9 W8) := hid (by rw [← hW]; exact Ext.drew _)
            clear hW
            iterate 5 (refine reg_pf 14 rfl (by kernel_rfl) (by kernel_rfl) ?_; apply Exists.intro; refine ⟨fun w' => ?_, ?_⟩; · go_simp; exact rfl)
            refine reg_quiet 5 rfl (by kernel_rfl) (by kernel_rfl) ?_; apply Exists.intro; refine ⟨fun w' hw' => ?_, ?_⟩; · have q0 : w'.cell? ⟨g, p, none⟩ = some (.int .u32 z.val) := z.is (SX.out.later (HE8.out.trans hw')); go_simp; exact ⟨rfl, Ext.refl _⟩
            iterate 5 (refine reg_pf 14 rfl (by kernel_rfl) (by kernel_rfl) ?_; apply Exists.intro; refine ⟨fun w' => ?_, ?_⟩; · go_simp; exact rfl)
            refine reg_quiet 11 rfl (by kernel_rfl) (by kernel_rfl) ?_; apply Exists.intro; refine ⟨fun w' hw' => ?_, ?_⟩; · have q0 : w'.cell? ⟨g, q, none⟩ = some (.int .u32 x.val) := x.is (SX.out.later (HE8.out.trans hw')); go_simp; exact ⟨rfl, Ext.refl _⟩
            refine reg_quiet 12 rfl (by kernel_rfl) (by kernel_rfl) ?_; apply Exists.intro; refine ⟨fun w' hw' => ?_, ?_⟩; · go_simp; exact HL.out w'
            iterate 1 (refine reg_pf 14 rfl (by kernel_rfl) (by kernel_rfl) ?_; apply Exists.intro; refine ⟨fun w' => ?_, ?_⟩; · go_simp; exact rfl)
            refine reg_done (by kernel_rfl) (fun W9 hw5 => ?_) _
            rw [HQ.out]
            clear HQ Q2
            have S5 := hid (SX.out.later (HE8.out.trans hw5))
            clear hw5 HE8
            go_simp
            go_wp2_with fail
            (try simp only [Exit.inBlock, Exit.then])
            refine bodyPost_ret (results_none rfl _ _ _) rfl ?_
            exact ⟨rfl, by rw [← HS.out, left_stop HC.out (by omega) (fun _ => HV.out) HV2.out]; exact S5.out⟩
          | true =>
            have HL := hid (less_at hl2)
            have HV2 : Hid (ltInt dk[p]! dk[q]! = true) := hid (by rw [← z.eq, ← x.eq]; exact hl2)
            clear hl2
            go_wp2_with fail
            refine reg_begin 14 (by kernel_rfl) ?_
            refine reg_hide (fun Q2 HQ => ?_)
            generalize hW : World.drew _ = W8
            have HE8 : Hid (Ext W9 W8) := hid (by rw [← hW]; exact Ext.drew _)
            clear hW
            iterate 5 (refine reg_pf 14 rfl (by kernel_rfl) (by kernel_rfl) ?_; apply Exists.intro; refine ⟨fun w' => ?_, ?_⟩; · go_simp; exact rfl)
            refine reg_quiet 5 rfl (by kernel_rfl) (by kernel_rfl) ?_; apply Exists.intro; refine ⟨fun w' hw' => ?_, ?_⟩; · have q0 : w'.cell? ⟨g, p, none⟩ = some (.int .u32 z.val) := z.is (SX.out.later (HE8.out.trans hw')); go_simp; exact ⟨rfl, Ext.refl _⟩
            iterate 5 (refine reg_pf 14 rfl (by kernel_rfl) (by kernel_rfl) ?_; apply Exists.intro; refine ⟨fun w' => ?_, ?_⟩; · go_simp; exact rfl)
            refine reg_quiet 11 rfl (by kernel_rfl) (by kernel_rfl) ?_; apply Exists.intro; refine ⟨fun w' hw' => ?_, ?_⟩; · have q0 : w'.cell? ⟨g, q, none⟩ = some (.int .u32 x.val) := x.is (SX.out.later (HE8.out.trans hw')); go_simp; exact ⟨rfl, Ext.refl _⟩
            refine reg_quiet 12 rfl (by kernel_rfl) (by kernel_rfl) ?_; apply Exists.intro; refine ⟨fun w' hw' => ?_, ?_⟩; · go_simp; exact HL.out w'
            iterate 1 (refine reg_pf 14 rfl (by kernel_rfl) (by kernel_rfl) ?_; apply Exists.intro; refine ⟨fun w' => ?_, ?_⟩; · go_simp; exact rfl)
            refine reg_done (by kernel_rfl) (fun W9 hw5 => ?_) _
            rw [HQ.out]
            clear HQ Q2
            have S5 := hid (SX.out.later (HE8.out.trans hw5))
            clear hw5 HE8
            go_simp
            clear HL SX
            go_wp2_with fail
            refine reg_begin 21 (by kernel_rfl) ?_
            refine reg_hide (fun Q2 HQ => ?_)
            generalize hW : World.drew _ = W8
            have HE8 : Hid (Ext W9 W8) := hid (by rw [← hW]; exact Ext.drew _)
            clear hW
            iterate 13 (refine reg_pf 24 rfl (by kernel_rfl) (by kernel_rfl) ?_; apply Exists.intro; refine ⟨fun w' => ?_, ?_⟩; · go_simp; exact rfl)
            refine reg_quiet 13 rfl (by kernel_rfl) (by kernel_rfl) ?_; apply Exists.intro; refine ⟨fun w' hw' => ?_, ?_⟩; · have q0 : w'.cell? ⟨g, q, none⟩ = some (.int .u32 x.val) := x.is (S5.out.later (HE8.out.trans hw')); go_simp; exact ⟨rfl, Ext.refl _⟩
            iterate 5 (refine reg_pf 24 rfl (by kernel_rfl) (by kernel_rfl) ?_; apply Exists.intro; refine ⟨fun w' => ?_, ?_⟩; · go_simp; exact rfl)
            refine reg_quiet 19 rfl (by kernel_rfl) (by kernel_rfl) ?_; apply Exists.intro; refine ⟨fun w' hw' => ?_, ?_⟩; · have q0 : w'.cell? ⟨g, p, none⟩ = some (.int .u32 z.val) := z.is (S5.out.later (HE8.out.trans hw')); go_simp; exact ⟨rfl, Ext.refl _⟩
            iterate 1 (refine reg_pf 24 rfl (by kernel_rfl) (by kernel_rfl) ?_; apply Exists.intro; refine ⟨fun w' => ?_, ?_⟩; · go_simp; exact rfl)
            refine reg_store 21 ⟨g, p, none⟩ (.int .u32 x.val) rfl (by kernel_rfl) (by kernel_rfl) rfl (by decide) (by go_simp) (by go_simp) (by kernel_rfl) rfl rfl (fun w' hw' => ?_) (fun w' hw' => ?_)
            · exact ⟨⟨_, (S5.out.later (HE8.out.trans hw')).cell p (by first | omega | (simp only [Array.size_setIfInBounds]; omega))⟩, (S5.out.later (HE8.out.trans hw')).free p⟩
            have S3 := hid ((S5.out.later (HE8.out.trans hw')).put p x.val)
            clear hw' HE8
            generalize World.setCell w' _ _ = W3 at *
            clear w'
            have HE8 : Hid (Ext W3 W3) := hid (Ext.refl _)
            iterate 1 (refine reg_pf 24 rfl (by kernel_rfl) (by kernel_rfl) ?_; apply Exists.intro; refine ⟨fun w' => ?_, ?_⟩; · go_simp; exact rfl)
            refine reg_store 23 ⟨g, q, none⟩ (.int .u32 z.val) rfl (by kernel_rfl) (by kernel_rfl) rfl (by decide) (by go_simp) (by go_simp) (by kernel_rfl) rfl rfl (fun w' hw' => ?_) (fun w' hw' => ?_)
            · exact ⟨⟨_, (S3.out.later (HE8.out.trans hw')).cell q (by first | omega | (simp only [Array.size_setIfInBounds]; omega))⟩, (S3.out.later (HE8.out.trans hw')).free q⟩
            have S4 := hid ((S3.out.later (HE8.out.trans hw')).put q z.val)
            clear hw' HE8
            generalize World.setCell w' _ _ = W3 at *
            clear w'
            have HE8 : Hid (Ext W3 W3) := hid (Ext.refl _)
            refine reg_done (by kernel_rfl) (fun W9 hw5 => ?_) _
            rw [HQ.out]
            clear HQ Q2
            have S6 := hid (S4.out.later (HE8.out.trans hw5))
            clear hw5 HE8
            go_simp
            have SN : Hid (SR B g (swp dk p q) W9) := hid (by have h5 := S6.out; rw [z.eq, x.eq] at h5; exact h5)
            go_wp2_with fail
            go_roundw
            case rel => exact ⟨c, swp dk p q, rfl, by have := HC.out; omega, by rw [size_swp]; exact hsk, SN, hid (by rw [← HS.out, left_go HC.out (by omega) (fun _ => HV.out) HV2.out])⟩
            case measure => have := HC.out; simp [intOf]; omega
      · have h2z : ¬ (c1 : Int) < (hi : Int) := by omega
        clear hr2 hc hc1 hp hq hq1
        go_wp2_with fail
        refine reg_begin 20 (by kernel_rfl) ?_
        refine reg_hide (fun Q2 HQ => ?_)
        generalize hW : World.drew _ = W8
        have HE8 : Hid (Ext wr W8) := hid (by rw [← hW]; exact Ext.drew _)
        clear hW
        iterate 5 (refine reg_pf 20 rfl (by kernel_rfl) (by kernel_rfl) ?_; apply Exists.intro; refine ⟨fun w' => ?_, ?_⟩; · go_simp; exact rfl)
        iterate 14 (refine reg_kf 20 rfl (by kernel_rfl) (by kernel_rfl) ?_)
        iterate 1 (refine reg_pf 20 rfl (by kernel_rfl) (by kernel_rfl) ?_; apply Exists.intro; refine ⟨fun w' => ?_, ?_⟩; · go_simp; exact rfl)
        refine reg_done (by kernel_rfl) (fun W9 hw5 => ?_) _
        rw [HQ.out]
        clear HQ Q2
        have S7 := hid (SX.out.later (HE8.out.trans hw5))
        clear hw5 HE8
        go_simp
        clear SX
        have SX := S7
        clear S7
        obtain ⟨z⟩ := Pl.mk' dk p (by omega)
        cases hl2 : ltInt z.val x.val with
        | false =>
          have HL := hid (less_at hl2)
          have HV2 : Hid (ltInt dk[p]! dk[q]! = false) := hid (by rw [← z.eq, ← x.eq]; exact hl2)
          clear hl2
          go_wp2_with fail
          refine reg_begin 14 (by kernel_rfl) ?_
          refine reg_hide (fun Q2 HQ => ?_)
          generalize hW : World.drew _ = W8
          have HE8 : Hid (Ext W9 W8) := hid (by rw [← hW]; exact Ext.drew _)
          clear hW
          iterate 5 (refine reg_pf 14 rfl (by kernel_rfl) (by kernel_rfl) ?_; apply Exists.intro; refine ⟨fun w' => ?_, ?_⟩; · go_simp; exact rfl)
          refine reg_quiet 5 rfl (by kernel_rfl) (by kernel_rfl) ?_; apply Exists.intro; refine ⟨fun w' hw' => ?_, ?_⟩; · have q0 : w'.cell? ⟨g, p, none⟩ = some (.int .u32 z.val) := z.is (SX.out.later (HE8.out.trans hw')); go_simp; exact ⟨rfl, Ext.refl _⟩
          iterate 5 (refine reg_pf 14 rfl (by kernel_rfl) (by kernel_rfl) ?_; apply Exists.intro; refine ⟨fun w' => ?_, ?_⟩; · go_simp; exact rfl)
          refine reg_quiet 11 rfl (by kernel_rfl) (by kernel_rfl) ?_; apply Exists.intro; refine ⟨fun w' hw' => ?_, ?_⟩; · have q0 : w'.cell? ⟨g, q, none⟩ = some (.int .u32 x.val) := x.is (SX.out.later (HE8.out.trans hw')); go_simp; exact ⟨rfl, Ext.refl _⟩
          refine reg_quiet 12 rfl (by kernel_rfl) (by kernel_rfl) ?_; apply Exists.intro; refine ⟨fun w' hw' => ?_, ?_⟩; · go_simp; exact HL.out w'
          iterate 1 (refine reg_pf 14 rfl (by kernel_rfl) (by kernel_rfl) ?_; apply Exists.intro; refine ⟨fun w' => ?_, ?_⟩; · go_simp; exact rfl)
          refine reg_done (by kernel_rfl) (fun W9 hw5 => ?_) _
          rw [HQ.out]
          clear HQ Q2
          have S5 := hid (SX.out.later (HE8.out.trans hw5))
          clear hw5 HE8
          go_simp
          go_wp2_with fail
          (try simp only [Exit.inBlock, Exit.then])
          refine bodyPost_ret (results_none rfl _ _ _) rfl ?_
          exact ⟨rfl, by rw [← HS.out, left_stop HC.out (by omega) (fun h9 => absurd h9 h2) HV2.out]; exact S5.out⟩
        | true =>
          have HL := hid (less_at hl2)
          have HV2 : Hid (ltInt dk[p]! dk[q]! = true) := hid (by rw [← z.eq, ← x.eq]; exact hl2)
          clear hl2
          go_wp2_with fail
          refine reg_begin 14 (by kernel_rfl) ?_
          refine reg_hide (fun Q2 HQ => ?_)
          generalize hW : World.drew _ = W8
          have HE8 : Hid (Ext W9 W8) := hid (by rw [← hW]; exact Ext.drew _)
          clear hW
          iterate 5 (refine reg_pf 14 rfl (by kernel_rfl) (by kernel_rfl) ?_; apply Exists.intro; refine ⟨fun w' => ?_, ?_⟩; · go_simp; exact rfl)
          refine reg_quiet 5 rfl (by kernel_rfl) (by kernel_rfl) ?_; apply Exists.intro; refine ⟨fun w' hw' => ?_, ?_⟩; · have q0 : w'.cell? ⟨g, p, none⟩ = some (.int .u32 z.val) := z.is (SX.out.later (HE8.out.trans hw')); go_simp; exact ⟨rfl, Ext.refl _⟩
          iterate 5 (refine reg_pf 14 rfl (by kernel_rfl) (by kernel_rfl) ?_; apply Exists.intro; refine ⟨fun w' => ?_, ?_⟩; · go_simp; exact rfl)
          refine reg_quiet 11 rfl (by kernel_rfl) (by kernel_rfl) ?_; apply Exists.intro; refine ⟨fun w' hw' => ?_, ?_⟩; · have q0 : w'.cell? ⟨g, q, none⟩ = some (.int .u32 x.val) := x.is (SX.out.later (HE8.out.trans hw')); go_simp; exact ⟨rfl, Ext.refl _⟩
          refine reg_quiet 12 rfl (by kernel_rfl) (by kernel_rfl) ?_; apply Exists.intro; refine ⟨fun w' hw' => ?_, ?_⟩; · go_simp; exact HL.out w'
          iterate 1 (refine reg_pf 14 rfl (by kernel_rfl) (by kernel_rfl) ?_; apply Exists.intro; refine ⟨fun w' => ?_, ?_⟩; · go_simp; exact rfl)
          refine reg_done (by kernel_rfl) (fun W9 hw5 => ?_) _
          rw [HQ.out]
          clear HQ Q2
          have S5 := hid (SX.out.later (HE8.out.trans hw5))
          clear hw5 HE8
          go_simp
          clear HL SX
          go_wp2_with fail
          refine reg_begin 21 (by kernel_rfl) ?_
          refine reg_hide (fun Q2 HQ => ?_)
          generalize hW : World.drew _ = W8
          have HE8 : Hid (Ext W9 W8) := hid (by rw [← hW]; exact Ext.drew _)
          clear hW
          iterate 13 (refine reg_pf 24 rfl (by kernel_rfl) (by kernel_rfl) ?_; apply Exists.intro; refine ⟨fun w' => ?_, ?_⟩; · go_simp; exact rfl)
          refine reg_quiet 13 rfl (by kernel_rfl) (by kernel_rfl) ?_; apply Exists.intro; refine ⟨fun w' hw' => ?_, ?_⟩; · have q0 : w'.cell? ⟨g, q, none⟩ = some (.int .u32 x.val) := x.is (S5.out.later (HE8.out.trans hw')); go_simp; exact ⟨rfl, Ext.refl _⟩
          iterate 5 (refine reg_pf 24 rfl (by kernel_rfl) (by kernel_rfl) ?_; apply Exists.intro; refine ⟨fun w' => ?_, ?_⟩; · go_simp; exact rfl)
          refine reg_quiet 19 rfl (by kernel_rfl) (by kernel_rfl) ?_; apply Exists.intro; refine ⟨fun w' hw' => ?_, ?_⟩; · have q0 : w'.cell? ⟨g, p, none⟩ = some (.int .u32 z.val) := z.is (S5.out.later (HE8.out.trans hw')); go_simp; exact ⟨rfl, Ext.refl _⟩
          iterate 1 (refine reg_pf 24 rfl (by kernel_rfl) (by kernel_rfl) ?_; apply Exists.intro; refine ⟨fun w' => ?_, ?_⟩; · go_simp; exact rfl)
          refine reg_store 21 ⟨g, p, none⟩ (.int .u32 x.val) rfl (by kernel_rfl) (by kernel_rfl) rfl (by decide) (by go_simp) (by go_simp) (by kernel_rfl) rfl rfl (fun w' hw' => ?_) (fun w' hw' => ?_)
          · exact ⟨⟨_, (S5.out.later (HE8.out.trans hw')).cell p (by first | omega | (simp only [Array.size_setIfInBounds]; omega))⟩, (S5.out.later (HE8.out.trans hw')).free p⟩
          have S3 := hid ((S5.out.later (HE8.out.trans hw')).put p x.val)
          clear hw' HE8
          generalize World.setCell w' _ _ = W3 at *
          clear w'
          have HE8 : Hid (Ext W3 W3) := hid (Ext.refl _)
          iterate 1 (refine reg_pf 24 rfl (by kernel_rfl) (by kernel_rfl) ?_; apply Exists.intro; refine ⟨fun w' => ?_, ?_⟩; · go_simp; exact rfl)
          refine reg_store 23 ⟨g, q, none⟩ (.int .u32 z.val) rfl (by kernel_rfl) (by kernel_rfl) rfl (by decide) (by go_simp) (by go_simp) (by kernel_rfl) rfl rfl (fun w' hw' => ?_) (fun w' hw' => ?_)
          · exact ⟨⟨_, (S3.out.later (HE8.out.trans hw')).cell q (by first | omega | (simp only [Array.size_setIfInBounds]; omega))⟩, (S3.out.later (HE8.out.trans hw')).free q⟩
          have S4 := hid ((S3.out.later (HE8.out.trans hw')).put q z.val)
          clear hw' HE8
          generalize World.setCell w' _ _ = W3 at *
          clear w'
          have HE8 : Hid (Ext W3 W3) := hid (Ext.refl _)
          refine reg_done (by kernel_rfl) (fun W9 hw5 => ?_) _
          rw [HQ.out]
          clear HQ Q2
          have S6 := hid (S4.out.later (HE8.out.trans hw5))
          clear hw5 HE8
          go_simp
          have SN : Hid (SR B g (swp dk p q) W9) := hid (by have h5 := S6.out; rw [z.eq, x.eq] at h5; exact h5)
          go_wp2_with fail
          go_roundw
          case rel => exact ⟨c, swp dk p q, rfl, by have := HC.out; omega, by rw [size_swp]; exact hsk, SN, hid (by rw [← HS.out, left_go HC.out (by omega) (fun h9 => absurd h9 h2) HV2.out])⟩
          case measure => have := HC.out; simp [intOf]; omega

theorem half_at {a b h : Nat} (hab : a ≤ b) (hh : h = (b - a - 1) / 2 + 1) : ((b : Int) - (a : Int) - 1).tdiv 2 = (h : Int) - 1 := by rw [hh]; exact half_start hab
set_option maxHeartbeats 8000000 in
set_option maxRecDepth 100000 in
theorem heap_any (d : Array Int) (a b : Nat) (W : World) (hd : d.size = n) (hn : n ≤ 1000) (hab : a < b) (hb : b ≤ n) (hS : SR B g d W) :
    Calls Try.prog 39 #[.slice (some ⟨g, 0, none⟩) n cap, .int .i64 a, .int .i64 b] W fun e w' => e = .returned (.tuple #[]) ∧ SR B g (heapSort ltInt d a b) w' := by
  have S0 := hid hS
  clear hS
  obtain ⟨L, hL⟩ : ∃ q, q = b - a := ⟨_, rfl⟩
  have z1 : IntKind.i64.wrap ((b : Int) - (a : Int)) = (L : Int) := by rw [IntKind.wrap_i64]; omega
  obtain ⟨l, hl⟩ : ∃ q, q + 1 = L := ⟨L - 1, by omega⟩
  have z2 : IntKind.i64.wrap ((L : Int) - 1) = (l : Int) := by rw [IntKind.wrap_i64]; omega
  obtain ⟨h, hh⟩ : ∃ q, q = l / 2 := ⟨_, rfl⟩
  have z3 : (l : Int).tdiv 2 = (h : Int) := by rw [hh, Int.tdiv_eq_ediv_of_nonneg (by omega)]; omega
  have HL : Hid (heapSort ltInt d a b = heapPop ltInt a L (heapBuild ltInt L a (h + 1) d)) := hid (by unfold heapSort; rw [hh, ← hL, show L - 1 = l by omega])
  have b0 : h + 1 ≤ L ∧ a + L = b := by omega
  have LL := hid hl
  clear hL hl hh
  go_enter Try.func39, Try.ntmps39
  go_wp2_with fail
  go_loopw [9] (fun iv wr => ∃ (k : Nat) (dk : Array Int), iv = .int .i64 ((k : Int) - 1) ∧ k ≤ L ∧ dk.size = n ∧ Hid (SR B g dk wr) ∧ Hid (heapBuild ltInt L a k dk = heapBuild ltInt L a (h + 1) d)) (fun iv _ => (intOf iv + 1).toNat)
  case atStart => exact ⟨h + 1, d, by congr 1; omega, b0.1, hd, S0, hid rfl⟩
  case round =>
    clear S0
    obtain ⟨k, dk, rfl, hk, hsk, S1, HO⟩ := hrel
    cases k with
    | succ k =>
      rw [show ((k + 1 : Nat) : Int) - 1 = (k : Int) by omega]
      have h0 : (0 : Int) ≤ (k : Int) := by omega
      go_wp2_with fail
      refine (sift_any dk k L a _ hsk hn (by omega) (by omega) S1.out).mono ?_
      rintro e w2 ⟨rfl, hS2⟩
      have S2 := hid hS2
      clear hS2 S1
      go_wp2_with fail
      go_roundw
      case rel => exact ⟨k, siftDown ltInt L a k dk, rfl, by omega, by rw [size_siftDown ltInt L a _ k dk (Nat.le_refl _)]; exact hsk, S2, hid (by rw [← HO.out]; rfl)⟩
      case measure => simp [intOf]
    | zero =>
      rw [show ((0 : Nat) : Int) - 1 = -1 by omega]
      have HB : Hid (heapBuild ltInt L a (h + 1) d = dk) := hid (by rw [← HO.out]; rfl)
      clear HO
      go_wp2_with fail
      go_loopw [10] (fun iv wr => ∃ (k : Nat) (dj : Array Int), iv = .int .i64 ((k : Int) - 1) ∧ k ≤ L ∧ dj.size = n ∧ Hid (SR B g dj wr) ∧ Hid (heapPop ltInt a k dj = heapPop ltInt a L dk)) (fun iv _ => (intOf iv + 1).toNat)
      case atStart => exact ⟨L, dk, by have := LL.out; congr 1; omega, Nat.le_refl _, hsk, S1, hid rfl⟩
      case round =>
        clear S1
        obtain ⟨k, dj, rfl, hk, hsj, S1, HO⟩ := hrel
        cases k with
        | succ k =>
          rw [show ((k + 1 : Nat) : Int) - 1 = (k : Int) by omega]
          have h0 : (0 : Int) ≤ (k : Int) := by omega
          obtain ⟨q, hq⟩ : ∃ q, q = a + k := ⟨_, rfl⟩
          have z5 : IntKind.i64.wrap ((a : Int) + (k : Int)) = (q : Int) := by rw [IntKind.wrap_i64]; omega
          have ba : (a : Int) < (n : Int) := by omega
          have bq : (q : Int) < (n : Int) := by omega
          have b5 : a + k ≤ n := by omega
          have HQ5 := hid hq
          obtain ⟨x⟩ := Pl.mk' dj a (by omega)
          obtain ⟨y⟩ := Pl.mk' dj q (by omega)
          clear hq
          go_wp2_with fail
          refine reg_begin 17 (by kernel_rfl) ?_
          refine reg_hide (fun Q2 HQ => ?_)
          generalize hW : World.drew _ = W8
          have HE8 : Hid (Ext wr W8) := hid (by rw [← hW]; exact Ext.drew _)
          clear hW
          iterate 11 (refine reg_pf 20 rfl (by kernel_rfl) (by kernel_rfl) ?_; apply Exists.intro; refine ⟨fun w' => ?_, ?_⟩; · go_simp; exact rfl)
          refine reg_quiet 11 rfl (by kernel_rfl) (by kernel_rfl) ?_; apply Exists.intro; refine ⟨fun w' hw' => ?_, ?_⟩; · have q0 : w'.cell? ⟨g, q, none⟩ = some (.int .u32 y.val) := y.is (S1.out.later (HE8.out.trans hw')); go_simp; exact ⟨rfl, Ext.refl _⟩
          iterate 3 (refine reg_pf 20 rfl (by kernel_rfl) (by kernel_rfl) ?_; apply Exists.intro; refine ⟨fun w' => ?_, ?_⟩; · go_simp; exact rfl)
          refine reg_quiet 15 rfl (by kernel_rfl) (by kernel_rfl) ?_; apply Exists.intro; refine ⟨fun w' hw' => ?_, ?_⟩; · have q0 : w'.cell? ⟨g, a, none⟩ = some (.int .u32 x.val) := x.is (S1.out.later (HE8.out.trans hw')); go_simp; exact ⟨rfl, Ext.refl _⟩
          iterate 1 (refine reg_pf 20 rfl (by kernel_rfl) (by kernel_rfl) ?_; apply Exists.intro; refine ⟨fun w' => ?_, ?_⟩; · go_simp; exact rfl)
          refine reg_store 17 ⟨g, a, none⟩ (.int .u32 y.val) rfl (by kernel_rfl) (by kernel_rfl) rfl (by decide) (by go_simp) (by go_simp) (by kernel_rfl) rfl rfl (fun w' hw' => ?_) (fun w' hw' => ?_)
          · exact ⟨⟨_, (S1.out.later (HE8.out.trans hw')).cell a (by first | omega | (simp only [Array.size_setIfInBounds]; omega))⟩, (S1.out.later (HE8.out.trans hw')).free a⟩
          have S3 := hid ((S1.out.later (HE8.out.trans hw')).put a y.val)
          clear hw' HE8
          generalize World.setCell w' _ _ = W3 at *
          clear w'
          have HE8 : Hid (Ext W3 W3) := hid (Ext.refl _)
          iterate 1 (refine reg_pf 20 rfl (by kernel_rfl) (by kernel_rfl) ?_; apply Exists.intro; refine ⟨fun w' => ?_, ?_⟩; · go_simp; exact rfl)
          refine reg_store 19 ⟨g, q, none⟩ (.int .u32 x.val) rfl (by kernel_rfl) (by kernel_rfl) rfl (by decide) (by go_simp) (by go_simp) (by kernel_rfl) rfl rfl (fun w' hw' => ?_) (fun w' hw' => ?_)
          · exact ⟨⟨_, (S3.out.later (HE8.out.trans hw')).cell q (by first | omega | (simp only [Array.size_setIfInBounds]; omega))⟩, (S3.out.later (HE8.out.trans hw')).free q⟩
          have S4 := hid ((S3.out.later (HE8.out.trans hw')).put q x.val)
          clear hw' HE8
          generalize World.setCell w' _ _ = W3 at *
          clear w'
          have HE8 : Hid (Ext W3 W3) := hid (Ext.refl _)
          refine reg_done (by kernel_rfl) (fun W9 hw5 => ?_) _
          rw [HQ.out]
          clear HQ Q2
          have S5 := hid (S4.out.later (HE8.out.trans hw5))
          clear hw5 HE8
          go_simp
          have SN : Hid (SR B g (swp dj a (a + k)) W9) := hid (by have h5 := S5.out; rw [x.eq, y.eq] at h5; rw [← HQ5.out]; exact h5)
          clear S3 S4 S5 S1 z5
          go_wp2_with fail
          refine (sift_any (swp dj a (a + k)) 0 k a _ (by rw [size_swp]; exact hsj) hn (by omega) b5 SN.out).mono ?_
          rintro e w2 ⟨rfl, hS2⟩
          have S2 := hid hS2
          clear hS2
          go_wp2_with fail
          go_roundw
          case rel => exact ⟨k, siftDown ltInt k a 0 (swp dj a (a + k)), rfl, by omega, by rw [size_siftDown ltInt k a _ 0 _ (Nat.le_refl _), size_swp]; exact hsj, S2, hid (by rw [← HO.out]; rfl)⟩
          case measure => simp [intOf]
        | zero =>
          rw [show ((0 : Nat) : Int) - 1 = -1 by omega]
          go_wp2_with fail
          go_end0
          exact ⟨rfl, by rw [HL.out, HB.out, ← HO.out]; exact S1.out⟩
end
end Go.Proofs.Ytnlblmpfkikneaa
