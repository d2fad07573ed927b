/-
  Patterns broken up by a generator of numbers.
-/
import Derived.Test.YtnlblmpfkikneaaS3
import Derived.Test.YtnlblmpfkikneaaShelf
import Derived.Sort.Walk7
namespace Go.Proofs.Ytnlblmpfkikneaa
open Go Go.RowKit Go.Sort
attribute [local go_sem] extUpon
attribute [local go_sem ↓] eval_put_ne eval_put_none eval_put_same size_put eval_const
/-- A generator in block c. -/
def Gen (c : Nat) (X : Nat) (W : World) : Prop := W.heap[c]? = some (.cells #[.int .u64 (X : Int)] 87 (0, 0))
section
variable {B W W2 : World} {g n cap c X : Nat} {d : Array Int}
theorem Gen.later (h : Gen c X W) (he : Ext W W2) : Gen c X W2 := he.blk h
theorem Gen.cell (h : Gen c X W) : W.cell? ⟨c, 0, none⟩ = some (.int .u64 (X : Int)) := cell_blk h rfl
theorem Gen.free (h : Gen c X W) : W.frozen? ⟨c, 0, none⟩ = false := by simp [World.frozen?, show W.heap[c]? = _ from h]
theorem Gen.put (h : Gen c X W) (Y : Nat) : Gen c Y (W.setCell ⟨c, 0, none⟩ (.int .u64 (Y : Int))) := by
  simp [Gen, World.setCell, Array.getElem?_modify, show W.heap[c]? = _ from h]
theorem grown_ext2 {w w1 w2 : World} {row : Option Nat} (h : w.grownBy w1 row) (he : Ext w1 w2) : w.grownBy w2 row :=
  ⟨he.os.trans h.os, he.tape.trans h.tape, he.output.trans h.output, Nat.le_trans h.size he.size, fun k hk hr => (he.block k (Nat.lt_of_lt_of_le hk h.size)).trans (h.block k hk hr)⟩
theorem grown_set {w w1 : World} {c : Nat} (h : w.grownBy w1 (some c)) (v : Value) : w.grownBy (w1.setCell ⟨c, 0, none⟩ v) (some c) :=
  ⟨h.os, h.tape, h.output, by simpa [World.setCell] using h.size, fun k hk hr => (Below.heap_setCell w1 ⟨c, 0, none⟩ v k (fun e => hr (by rw [e]))).trans (h.block k hk hr)⟩

set_option maxHeartbeats 4000000 in
set_option maxRecDepth 100000 in
theorem next_any (hX : X < 18446744073709551616) (hG : Gen c X W) :
    Calls Try.prog 51 #[.pointer (some ⟨c, 0, none⟩)] W fun e w' => e = .returned (.int .u64 (xorNextN X : Nat)) ∧ Gen c (xorNextN X) w' ∧ W.grownBy w' (some c) := by
  obtain ⟨A, hA⟩ : ∃ A : Nat, A = X ^^^ (X * 8192 % 18446744073709551616) := ⟨_, rfl⟩
  obtain ⟨B, hB⟩ : ∃ B : Nat, B = A ^^^ (A / 128) := ⟨_, rfl⟩
  obtain ⟨C, hC⟩ : ∃ C : Nat, C = B ^^^ (B * 131072 % 18446744073709551616) := ⟨_, rfl⟩
  have lA : A < 18446744073709551616 := by rw [hA]; exact Nat.xor_lt_two_pow (n := 64) (by omega) (by omega)
  have lB : B < 18446744073709551616 := by rw [hB]; exact Nat.xor_lt_two_pow (n := 64) (by omega) (by omega)
  have e1 : bits .xor .u64 (X : Int) (IntKind.u64.wrap ((X : Int) * 8192)) = (A : Int) := by
    rw [IntKind.wrap_u64, show ((X : Int) * 8192 % 18446744073709551616) = ((X * 8192 % 18446744073709551616 : Nat) : Int) by omega, bits_xor_u64_nat _ _ hX (by omega), hA]
  have e2 : bits .xor .u64 (A : Int) ((A : Int) / 128) = (B : Int) := by
    rw [show ((A : Int) / 128) = ((A / 128 : Nat) : Int) by omega, bits_xor_u64_nat _ _ lA (by omega), hB]
  have e3 : bits .xor .u64 (B : Int) (IntKind.u64.wrap ((B : Int) * 131072)) = (C : Int) := by
    rw [IntKind.wrap_u64, show ((B : Int) * 131072 % 18446744073709551616) = ((B * 131072 % 18446744073709551616 : Nat) : Int) by omega, bits_xor_u64_nat _ _ lB (by omega), hC]
  have hv : xorNextN X = C := by unfold xorNextN; simp only []; rw [← hA, ← hB, ← hC]
  rw [hv]
  clear hA hB hC hv
  have G0 := hid hG
  have H0 : Hid (W.grownBy W (some c)) := hid ⟨rfl, rfl, rfl, Nat.le_refl _, fun _ _ _ => rfl⟩
  clear hG
  go_enter Try.func51, Try.ntmps51
  go_wp2_with fail
  refine reg_begin 9 (by kernel_rfl) ?_
  refine reg_hide (fun Q2 HQ => ?_)
  generalize hW : World.drew _ = W8
  have HE8 : Hid (Ext W W8) := hid (by rw [← hW]; exact Ext.drew _)
  clear hW
  iterate 2 (refine reg_pf 10 rfl (by kernel_rfl) (by kernel_rfl) ?_; apply Exists.intro; refine ⟨fun w' => ?_, ?_⟩; · go_simp; exact rfl)
  refine reg_quiet 2 rfl (by kernel_rfl) (by kernel_rfl) ?_; apply Exists.intro; refine ⟨fun w' hw' => ?_, ?_⟩; · have q0 := (G0.out.later (HE8.out.trans hw')).cell; go_simp; exact ⟨rfl, Ext.refl _⟩
  iterate 2 (refine reg_pf 10 rfl (by kernel_rfl) (by kernel_rfl) ?_; apply Exists.intro; refine ⟨fun w' => ?_, ?_⟩; · go_simp; exact rfl)
  refine reg_quiet 5 rfl (by kernel_rfl) (by kernel_rfl) ?_; apply Exists.intro; refine ⟨fun w' hw' => ?_, ?_⟩; · have q0 := (G0.out.later (HE8.out.trans hw')).cell; go_simp; exact ⟨rfl, Ext.refl _⟩
  iterate 3 (refine reg_pf 10 rfl (by kernel_rfl) (by kernel_rfl) ?_; apply Exists.intro; refine ⟨fun w' => ?_, ?_⟩; · go_simp; exact rfl)
  refine reg_store 9 ⟨c, 0, none⟩ (.int .u64 (A : Int)) rfl (by kernel_rfl) (by kernel_rfl) rfl (by decide) (by go_simp) (by go_simp) (by kernel_rfl) rfl rfl (fun w' hw' => ?_) (fun w' hw' => ?_)
  · exact ⟨⟨_, (G0.out.later (HE8.out.trans hw')).cell⟩, (G0.out.later (HE8.out.trans hw')).free⟩
  have g5 := hid ((G0.out.later (HE8.out.trans hw')).put A)
  have h5 := hid (grown_set (grown_ext2 H0.out (HE8.out.trans hw')) (.int .u64 (A : Int)))
  clear hw' HE8
  generalize World.setCell w' _ _ = W3 at *
  clear w'
  refine reg_done (by kernel_rfl) (fun W9 hw5 => ?_) _
  rw [HQ.out]
  clear HQ Q2
  have G1 := hid (g5.out.later hw5)
  have H1 := hid (grown_ext2 h5.out hw5)
  clear hw5 g5 h5
  go_simp
  clear e1
  go_wp2_with fail
  refine reg_begin 9 (by kernel_rfl) ?_
  refine reg_hide (fun Q2 HQ => ?_)
  generalize hW : World.drew _ = W8
  have HE8 : Hid (Ext W9 W8) := hid (by rw [← hW]; exact Ext.drew _)
  clear hW
  iterate 2 (refine reg_pf 10 rfl (by kernel_rfl) (by kernel_rfl) ?_; apply Exists.intro; refine ⟨fun w' => ?_, ?_⟩; · go_simp; exact rfl)
  refine reg_quiet 2 rfl (by kernel_rfl) (by kernel_rfl) ?_; apply Exists.intro; refine ⟨fun w' hw' => ?_, ?_⟩; · have q0 := (G1.out.later (HE8.out.trans hw')).cell; go_simp; exact ⟨rfl, Ext.refl _⟩
  iterate 2 (refine reg_pf 10 rfl (by kernel_rfl) (by kernel_rfl) ?_; apply Exists.intro; refine ⟨fun w' => ?_, ?_⟩; · go_simp; exact rfl)
  refine reg_quiet 5 rfl (by kernel_rfl) (by kernel_rfl) ?_; apply Exists.intro; refine ⟨fun w' hw' => ?_, ?_⟩; · have q0 := (G1.out.later (HE8.out.trans hw')).cell; go_simp; exact ⟨rfl, Ext.refl _⟩
  iterate 3 (refine reg_pf 10 rfl (by kernel_rfl) (by kernel_rfl) ?_; apply Exists.intro; refine ⟨fun w' => ?_, ?_⟩; · go_simp; exact rfl)
  refine reg_store 9 ⟨c, 0, none⟩ (.int .u64 (B : Int)) rfl (by kernel_rfl) (by kernel_rfl) rfl (by decide) (by go_simp) (by go_simp) (by kernel_rfl) rfl rfl (fun w' hw' => ?_) (fun w' hw' => ?_)
  · exact ⟨⟨_, (G1.out.later (HE8.out.trans hw')).cell⟩, (G1.out.later (HE8.out.trans hw')).free⟩
  have g5 := hid ((G1.out.later (HE8.out.trans hw')).put B)
  have h5 := hid (grown_set (grown_ext2 H1.out (HE8.out.trans hw')) (.int .u64 (B : Int)))
  clear hw' HE8
  generalize World.setCell w' _ _ = W3 at *
  clear w'
  refine reg_done (by kernel_rfl) (fun W9 hw5 => ?_) _
  rw [HQ.out]
  clear HQ Q2
  have G2 := hid (g5.out.later hw5)
  have H2 := hid (grown_ext2 h5.out hw5)
  clear hw5 g5 h5
  go_simp
  clear e2
  go_wp2_with fail
  refine reg_begin 9 (by kernel_rfl) ?_
  refine reg_hide (fun Q2 HQ => ?_)
  generalize hW : World.drew _ = W8
  have HE8 : Hid (Ext W9 W8) := hid (by rw [← hW]; exact Ext.drew _)
  clear hW
  iterate 2 (refine reg_pf 10 rfl (by kernel_rfl) (by kernel_rfl) ?_; apply Exists.intro; refine ⟨fun w' => ?_, ?_⟩; · go_simp; exact rfl)
  refine reg_quiet 2 rfl (by kernel_rfl) (by kernel_rfl) ?_; apply Exists.intro; refine ⟨fun w' hw' => ?_, ?_⟩; · have q0 := (G2.out.later (HE8.out.trans hw')).cell; go_simp; exact ⟨rfl, Ext.refl _⟩
  iterate 2 (refine reg_pf 10 rfl (by kernel_rfl) (by kernel_rfl) ?_; apply Exists.intro; refine ⟨fun w' => ?_, ?_⟩; · go_simp; exact rfl)
  refine reg_quiet 5 rfl (by kernel_rfl) (by kernel_rfl) ?_; apply Exists.intro; refine ⟨fun w' hw' => ?_, ?_⟩; · have q0 := (G2.out.later (HE8.out.trans hw')).cell; go_simp; exact ⟨rfl, Ext.refl _⟩
  iterate 3 (refine reg_pf 10 rfl (by kernel_rfl) (by kernel_rfl) ?_; apply Exists.intro; refine ⟨fun w' => ?_, ?_⟩; · go_simp; exact rfl)
  refine reg_store 9 ⟨c, 0, none⟩ (.int .u64 (C : Int)) rfl (by kernel_rfl) (by kernel_rfl) rfl (by decide) (by go_simp) (by go_simp) (by kernel_rfl) rfl rfl (fun w' hw' => ?_) (fun w' hw' => ?_)
  · exact ⟨⟨_, (G2.out.later (HE8.out.trans hw')).cell⟩, (G2.out.later (HE8.out.trans hw')).free⟩
  have g5 := hid ((G2.out.later (HE8.out.trans hw')).put C)
  have h5 := hid (grown_set (grown_ext2 H2.out (HE8.out.trans hw')) (.int .u64 (C : Int)))
  clear hw' HE8
  generalize World.setCell w' _ _ = W3 at *
  clear w'
  refine reg_done (by kernel_rfl) (fun W9 hw5 => ?_) _
  rw [HQ.out]
  clear HQ Q2
  have G3 := hid (g5.out.later hw5)
  have H3 := hid (grown_ext2 h5.out hw5)
  clear hw5 g5 h5
  go_simp
  have q1 := G3.out.cell
  go_wp2_with fail
  go_ret
  exact ⟨rfl, G3.out, H3.out⟩

set_option maxRecDepth 100000 in
theorem npow_any (m : Nat) (hm : m < 1000) (W : World) : Calls Try.prog 50 #[.int .i64 m] W fun e w' => e = .returned (.int .u64 ((1 <<< bitsLen m : Nat) : Int)) ∧ w' = W := by
  have hLen : ∀ w, Calls Try.prog 37 #[.int .u64 (m : Int)] w fun e w' => e = .returned (.int .i64 (bitsLen m : Nat)) ∧ w' = w := fun w => by
    have h := Try.bits_Len (m : Int) w (by omega) (by omega)
    rwa [Int.toNat_natCast, bitLen_eq _ (by omega)] at h
  have hk : bitsLen m ≤ 62 := (bitsLen_le_iff m 62).2 (by omega)
  have hp := wrap_two_pow (bitsLen m) hk
  go_enter Try.func50, Try.ntmps50
  go_wp2_with fail
  refine (hLen _).mono ?_
  rintro e w1 ⟨rfl, rfl⟩
  go_wp2_with fail
  go_ret
  exact ⟨rfl, rfl⟩

theorem Gen.far (h : Gen c X W) (hne : c ≠ g) (j : Nat) (x : Int) : Gen c X (W.setCell ⟨g, j, none⟩ (.int .u32 x)) :=
  (Below.heap_setCell W ⟨g, j, none⟩ _ c hne).trans h
theorem SR.gen (h : SR B g d W) (v : Nat) : SR B g d (W.alloc (.cells #[.int .u64 (v : Int)] 87 (0, 0))) ∧ Gen W.heap.size v (W.alloc (.cells #[.int .u64 (v : Int)] 87 (0, 0))) ∧ W.heap.size ≠ g ∧ B.heap.size ≤ W.heap.size := by
  obtain ⟨cs, h1, _⟩ := h.blk
  have := (Array.getElem?_eq_some_iff.1 h1).1
  exact ⟨h.later (Ext.alloc _ _), blk_new _ _, by omega, h.ext.size⟩

set_option maxHeartbeats 4000000 in
set_option maxRecDepth 100000 in
theorem brk_any (a b : Nat) (hd : d.size = n) (hn : n < 50) (hab : 8 ≤ b - a) (hb : b ≤ n) (hS : SR B g d W) :
    Calls Try.prog 40 #[.slice (some ⟨g, 0, none⟩) n cap, .int .i64 a, .int .i64 b] W fun e w' => e = .returned (.tuple #[]) ∧ SR B g (breakPatterns d a b) w' := by
  obtain ⟨L, hL⟩ : ∃ q, q = b - a := ⟨_, rfl⟩
  have e := breakPatterns_eq d a L (by omega)
  rw [show a + L = b by omega] at e
  rw [e]
  clear e
  have HS0 := hid (hS.gen L)
  clear hS
  have z1 : IntKind.i64.wrap ((b : Int) - (a : Int)) = (L : Int) := by rw [IntKind.wrap_i64]; omega
  obtain ⟨M, hM⟩ : ∃ M : Nat, M = 1 <<< bitsLen L := ⟨_, rfl⟩
  have hM1 : 1 ≤ M := by rw [hM, Nat.one_shiftLeft]; exact Nat.two_pow_pos _
  have hM2 : M ≤ 2 * L := by rw [hM, Nat.one_shiftLeft]; exact two_pow_bitsLen_le (by omega)
  have HNP := hid (fun w => npow_any L (by omega) w)
  rw [← hM] at HNP
  rw [← hM]
  clear hM
  obtain ⟨h, hh⟩ : ∃ q, q = L / 4 := ⟨_, rfl⟩
  have z3 : (L : Int).tdiv 4 = (h : Int) := by rw [hh, Int.tdiv_eq_ediv_of_nonneg (by omega)]; omega
  obtain ⟨h2, hh2⟩ : ∃ q, q = h * 2 := ⟨_, rfl⟩
  have z4 : IntKind.i64.wrap ((h : Int) * 2) = (h2 : Int) := by rw [IntKind.wrap_i64]; omega
  obtain ⟨j, hj⟩ : ∃ q, q = a + h2 := ⟨_, rfl⟩
  have z5 : IntKind.i64.wrap ((a : Int) + (h2 : Int)) = (j : Int) := by rw [IntKind.wrap_i64]; omega
  obtain ⟨i0, hi0⟩ : ∃ q, q + 1 = j := ⟨j - 1, by omega⟩
  have z6 : IntKind.i64.wrap ((j : Int) - 1) = (i0 : Int) := by rw [IntKind.wrap_i64]; omega
  obtain ⟨j2, hj2⟩ : ∃ q, q = j + 1 := ⟨_, rfl⟩
  have z7 : IntKind.i64.wrap ((j : Int) + 1) = (j2 : Int) := by rw [IntKind.wrap_i64]; omega
  rw [← hh, ← hh2, ← hj, show j - 1 = i0 by omega]
  have bL : L < 50 := by omega
  have b8 : (8 : Int) ≤ (L : Int) := by omega
  have bh : h < 50 := by omega
  have bh2 : h2 < 50 := by omega
  have bj : j < 50 := by omega
  have bj2 : j2 < 50 := by omega
  have bi : i0 < 50 := by omega
  have HJ : Hid (j2 = i0 + 2 ∧ i0 + 2 < a + L ∧ a + L ≤ n) := hid (by omega)
  clear hL hh hh2 hj hi0 hj2
  go_enter Try.func40, Try.ntmps40
  go_wp2_with fail
  generalize World.alloc W _ = W1 at *
  obtain ⟨hs1, hg1, hne, hBl⟩ := HS0.out
  generalize W.heap.size = c at *
  have S1 := hid hs1
  have G1 := hid hg1
  clear hs1 hg1
  refine (HNP.out _).mono ?_
  rintro e w1 ⟨rfl, rfl⟩
  go_wp2_with fail
  go_loopw [9] (fun vi wr => ∃ (t : Nat) (r : UInt64) (dk : Array Int), vi = .int .i64 ((i0 + t : Nat) : Int) ∧ t ≤ 3 ∧ dk.size = n ∧ Hid (SR B g dk wr) ∧ Hid (Gen c r.toNat wr) ∧ Hid (bpRest a L M i0 (3 - t) t (r, dk) = bpRest a L M i0 3 0 (UInt64.ofNat L, d))) (fun vi _ => 60 - (intOf vi).toNat)
  case atStart => exact ⟨0, UInt64.ofNat L, d, rfl, by omega, hd, S1, hid (by have h5 := G1.out; rw [show (UInt64.ofNat L).toNat = L by simp; omega]; exact h5), hid rfl⟩
  case round =>
    clear S1 G1 z6
    obtain ⟨t, r, dk, rfl, ht, hsk, S1, G1, HO⟩ := hrel
    obtain ⟨id, hid5⟩ : ∃ q, q = i0 + t := ⟨_, rfl⟩
    rw [← hid5]
    have bid : id < 60 := by omega
    by_cases h3 : t < 3
    · have hle : (id : Int) ≤ (j2 : Int) := by have := HJ.out; omega
      obtain ⟨R, hR⟩ : ∃ R : Nat, R = r.toNat := ⟨_, rfl⟩
      have lR : R < 18446744073709551616 := by rw [hR]; exact r.toNat_lt
      rw [← hR] at G1
      have HN := hid (next_any lR G1.out)
      obtain ⟨R', hR'⟩ : ∃ R' : Nat, R' = xorNextN R := ⟨_, rfl⟩
      have lR' : R' < 18446744073709551616 := by rw [hR']; exact xorNextN_lt R lR
      rw [← hR'] at HN
      obtain ⟨O, hO⟩ : ∃ O : Nat, O = R' &&& (M - 1) := ⟨_, rfl⟩
      have lO : O ≤ M - 1 := by rw [hO]; exact Nat.and_le_right
      have eAnd : bits .and .u64 (R' : Int) ((M : Int) - 1) = (O : Int) := by
        rw [show ((M : Int) - 1) = ((M - 1 : Nat) : Int) by omega, bits_and_u64_nat _ _ lR' (by omega), hO]
      have HX : Hid (R' = (xorNext r).toNat ∧ O = (xorNext r).toNat &&& (M - 1)) := hid (by
        have e : R' = (xorNext r).toNat := by rw [hR', hR, xorNext_toNat]
        exact ⟨e, by rw [hO, e]⟩)
      have HID := hid hid5
      clear hR hR' hO G1 hid5
      have bO : O < 100 := by omega
      have bM : M < 101 := by omega
      go_wp2_with fail
      refine HN.out.mono ?_
      rintro e w2 ⟨rfl, hg2, hgr⟩
      have S2 := hid (S1.out.other hgr hne hBl)
      have G2 := hid hg2
      clear hg2 hgr HN S1
      by_cases hLO : L ≤ O
      · have hLO2 : (L : Int) ≤ (O : Int) := by omega
        obtain ⟨o, ho⟩ : ∃ q, q = O - L := ⟨_, rfl⟩
        have z8 : IntKind.i64.wrap ((O : Int) - (L : Int)) = (o : Int) := by rw [IntKind.wrap_i64]; omega
        have HO5 : Hid ((if (xorNext r).toNat &&& (M - 1) ≥ L then ((xorNext r).toNat &&& (M - 1)) - L else (xorNext r).toNat &&& (M - 1)) = o) := hid (by rw [← HX.out.2, if_pos hLO, ho])
        have bo : o < L := by omega
        clear ho
        obtain ⟨q, hq⟩ : ∃ q, q = a + o := ⟨_, rfl⟩
        have z9 : IntKind.i64.wrap ((a : Int) + (o : Int)) = (q : Int) := by rw [IntKind.wrap_i64]; omega
        have hjo := HJ.out
        have bq0 : q < n := by omega
        have bi0 : id < n := by have := HID.out; omega
        have bq : (q : Int) < (n : Int) := by omega
        have bi5 : (id : Int) < (n : Int) := by omega
        have HQ5 := hid hq
        clear hq hjo
        obtain ⟨x⟩ := Pl.mk' dk id (by omega)
        obtain ⟨y⟩ := Pl.mk' dk q (by omega)
        go_wp2_with fail
        refine reg_begin 17 (by kernel_rfl) ?_
        refine reg_hide (fun Q2 HQ => ?_)
        generalize hW : World.drew _ = W8
        have HE8 : Hid (Ext w2 W8) := hid (by rw [← hW]; exact Ext.drew _)
        clear hW
        iterate 11 (refine reg_pf 20 rfl (by kernel_rfl) (by kernel_rfl) ?_; apply Exists.intro; refine ⟨fun w' => ?_, ?_⟩; · go_simp; exact rfl)
        refine reg_quiet 11 rfl (by kernel_rfl) (by kernel_rfl) ?_; apply Exists.intro; refine ⟨fun w' hw' => ?_, ?_⟩; · have q0 : w'.cell? ⟨g, q, none⟩ = some (.int .u32 y.val) := y.is (S2.out.later (HE8.out.trans hw')); go_simp; exact ⟨rfl, Ext.refl _⟩
        iterate 3 (refine reg_pf 20 rfl (by kernel_rfl) (by kernel_rfl) ?_; apply Exists.intro; refine ⟨fun w' => ?_, ?_⟩; · go_simp; exact rfl)
        refine reg_quiet 15 rfl (by kernel_rfl) (by kernel_rfl) ?_; apply Exists.intro; refine ⟨fun w' hw' => ?_, ?_⟩; · have q0 : w'.cell? ⟨g, id, none⟩ = some (.int .u32 x.val) := x.is (S2.out.later (HE8.out.trans hw')); go_simp; exact ⟨rfl, Ext.refl _⟩
        iterate 1 (refine reg_pf 20 rfl (by kernel_rfl) (by kernel_rfl) ?_; apply Exists.intro; refine ⟨fun w' => ?_, ?_⟩; · go_simp; exact rfl)
        refine reg_store 17 ⟨g, id, none⟩ (.int .u32 y.val) rfl (by kernel_rfl) (by kernel_rfl) rfl (by decide) (by go_simp) (by go_simp) (by kernel_rfl) rfl rfl (fun w' hw' => ?_) (fun w' hw' => ?_)
        · exact ⟨⟨_, (S2.out.later (HE8.out.trans hw')).cell id (by first | omega | (simp only [Array.size_setIfInBounds]; omega))⟩, (S2.out.later (HE8.out.trans hw')).free id⟩
        have S3 := hid ((S2.out.later (HE8.out.trans hw')).put id y.val)
        have G3 := hid ((G2.out.later (HE8.out.trans hw')).far hne id y.val)
        clear hw' HE8
        generalize World.setCell w' _ _ = W3 at *
        clear w'
        have HE8 : Hid (Ext W3 W3) := hid (Ext.refl _)
        iterate 1 (refine reg_pf 20 rfl (by kernel_rfl) (by kernel_rfl) ?_; apply Exists.intro; refine ⟨fun w' => ?_, ?_⟩; · go_simp; exact rfl)
        refine reg_store 19 ⟨g, q, none⟩ (.int .u32 x.val) rfl (by kernel_rfl) (by kernel_rfl) rfl (by decide) (by go_simp) (by go_simp) (by kernel_rfl) rfl rfl (fun w' hw' => ?_) (fun w' hw' => ?_)
        · exact ⟨⟨_, (S3.out.later (HE8.out.trans hw')).cell q (by first | omega | (simp only [Array.size_setIfInBounds]; omega))⟩, (S3.out.later (HE8.out.trans hw')).free q⟩
        have S4 := hid ((S3.out.later (HE8.out.trans hw')).put q x.val)
        have G4 := hid ((G3.out.later (HE8.out.trans hw')).far hne q x.val)
        clear hw' HE8
        generalize World.setCell w' _ _ = W3 at *
        clear w'
        have HE8 : Hid (Ext W3 W3) := hid (Ext.refl _)
        refine reg_done (by kernel_rfl) (fun W9 hw5 => ?_) _
        rw [HQ.out]
        clear HQ Q2
        have S5 := hid (S4.out.later hw5)
        have G5 := hid (G4.out.later hw5)
        clear hw5 HE8
        go_simp
        have SN : Hid (SR B g (swp dk (i0 + t) (a + o)) W9) := hid (by have h5 := S5.out; rw [x.eq, y.eq] at h5; rw [← HID.out, ← HQ5.out]; exact h5)
        go_wp2_with fail
        go_roundw
        case rel => exact ⟨t + 1, xorNext r, swp dk (i0 + t) (a + o), by have := HID.out; first | go_num | (congr 1; omega), by omega, by rw [size_swp]; exact hsk, SN, hid (by rw [← HX.out.1]; exact G5.out), hid (by rw [← HO.out, bp_step a L M i0 t r dk o h3 HO5.out])⟩
        case measure => simp [intOf]; omega
      · have hLO2 : ¬ (L : Int) ≤ (O : Int) := by omega
        obtain ⟨o, ho⟩ : ∃ q, q = O := ⟨_, rfl⟩
        have HO5 : Hid ((if (xorNext r).toNat &&& (M - 1) ≥ L then ((xorNext r).toNat &&& (M - 1)) - L else (xorNext r).toNat &&& (M - 1)) = o) := hid (by rw [← HX.out.2, if_neg hLO, ho])
        have bo : o < L := by omega
        subst ho
        obtain ⟨q, hq⟩ : ∃ q, q = a + o := ⟨_, rfl⟩
        have z9 : IntKind.i64.wrap ((a : Int) + (o : Int)) = (q : Int) := by rw [IntKind.wrap_i64]; omega
        have hjo := HJ.out
        have bq0 : q < n := by omega
        have bi0 : id < n := by have := HID.out; omega
        have bq : (q : Int) < (n : Int) := by omega
        have bi5 : (id : Int) < (n : Int) := by omega
        have HQ5 := hid hq
        clear hq hjo
        obtain ⟨x⟩ := Pl.mk' dk id (by omega)
        obtain ⟨y⟩ := Pl.mk' dk q (by omega)
        go_wp2_with fail
        refine reg_begin 17 (by kernel_rfl) ?_
        refine reg_hide (fun Q2 HQ => ?_)
        generalize hW : World.drew _ = W8
        have HE8 : Hid (Ext w2 W8) := hid (by rw [← hW]; exact Ext.drew _)
        clear hW
        iterate 11 (refine reg_pf 20 rfl (by kernel_rfl) (by kernel_rfl) ?_; apply Exists.intro; refine ⟨fun w' => ?_, ?_⟩; · go_simp; exact rfl)
        refine reg_quiet 11 rfl (by kernel_rfl) (by kernel_rfl) ?_; apply Exists.intro; refine ⟨fun w' hw' => ?_, ?_⟩; · have q0 : w'.cell? ⟨g, q, none⟩ = some (.int .u32 y.val) := y.is (S2.out.later (HE8.out.trans hw')); go_simp; exact ⟨rfl, Ext.refl _⟩
        iterate 3 (refine reg_pf 20 rfl (by kernel_rfl) (by kernel_rfl) ?_; apply Exists.intro; refine ⟨fun w' => ?_, ?_⟩; · go_simp; exact rfl)
        refine reg_quiet 15 rfl (by kernel_rfl) (by kernel_rfl) ?_; apply Exists.intro; refine ⟨fun w' hw' => ?_, ?_⟩; · have q0 : w'.cell? ⟨g, id, none⟩ = some (.int .u32 x.val) := x.is (S2.out.later (HE8.out.trans hw')); go_simp; exact ⟨rfl, Ext.refl _⟩
        iterate 1 (refine reg_pf 20 rfl (by kernel_rfl) (by kernel_rfl) ?_; apply Exists.intro; refine ⟨fun w' => ?_, ?_⟩; · go_simp; exact rfl)
        refine reg_store 17 ⟨g, id, none⟩ (.int .u32 y.val) rfl (by kernel_rfl) (by kernel_rfl) rfl (by decide) (by go_simp) (by go_simp) (by kernel_rfl) rfl rfl (fun w' hw' => ?_) (fun w' hw' => ?_)
        · exact ⟨⟨_, (S2.out.later (HE8.out.trans hw')).cell id (by first | omega | (simp only [Array.size_setIfInBounds]; omega))⟩, (S2.out.later (HE8.out.trans hw')).free id⟩
        have S3 := hid ((S2.out.later (HE8.out.trans hw')).put id y.val)
        have G3 := hid ((G2.out.later (HE8.out.trans hw')).far hne id y.val)
        clear hw' HE8
        generalize World.setCell w' _ _ = W3 at *
        clear w'
        have HE8 : Hid (Ext W3 W3) := hid (Ext.refl _)
        iterate 1 (refine reg_pf 20 rfl (by kernel_rfl) (by kernel_rfl) ?_; apply Exists.intro; refine ⟨fun w' => ?_, ?_⟩; · go_simp; exact rfl)
        refine reg_store 19 ⟨g, q, none⟩ (.int .u32 x.val) rfl (by kernel_rfl) (by kernel_rfl) rfl (by decide) (by go_simp) (by go_simp) (by kernel_rfl) rfl rfl (fun w' hw' => ?_) (fun w' hw' => ?_)
        · exact ⟨⟨_, (S3.out.later (HE8.out.trans hw')).cell q (by first | omega | (simp only [Array.size_setIfInBounds]; omega))⟩, (S3.out.later (HE8.out.trans hw')).free q⟩
        have S4 := hid ((S3.out.later (HE8.out.trans hw')).put q x.val)
        have G4 := hid ((G3.out.later (HE8.out.trans hw')).far hne q x.val)
        clear hw' HE8
        generalize World.setCell w' _ _ = W3 at *
        clear w'
        have HE8 : Hid (Ext W3 W3) := hid (Ext.refl _)
        refine reg_done (by kernel_rfl) (fun W9 hw5 => ?_) _
        rw [HQ.out]
        clear HQ Q2
        have S5 := hid (S4.out.later hw5)
        have G5 := hid (G4.out.later hw5)
        clear hw5 HE8
        go_simp
        have SN : Hid (SR B g (swp dk (i0 + t) (a + o)) W9) := hid (by have h5 := S5.out; rw [x.eq, y.eq] at h5; rw [← HID.out, ← HQ5.out]; exact h5)
        go_wp2_with fail
        go_roundw
        case rel => exact ⟨t + 1, xorNext r, swp dk (i0 + t) (a + o), by have := HID.out; first | go_num | (congr 1; omega), by omega, by rw [size_swp]; exact hsk, SN, hid (by rw [← HX.out.1]; exact G5.out), hid (by rw [← HO.out, bp_step a L M i0 t r dk o h3 HO5.out])⟩
        case measure => simp [intOf]; omega
    · have hle : ¬ (id : Int) ≤ (j2 : Int) := by have := HJ.out; omega
      have ht3 : t = 3 := by omega
      subst ht3
      clear hid5
      go_wp2_with fail
      go_end0
      exact ⟨rfl, by rw [← HO.out]; exact S1.out⟩
end
end Go.Proofs.Ytnlblmpfkikneaa
