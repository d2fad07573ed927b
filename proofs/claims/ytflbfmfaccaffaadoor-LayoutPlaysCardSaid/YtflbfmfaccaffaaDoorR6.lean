/-
  The document's numbers and text.
-/
import Derived.Test.YtflbfmfaccaffaaDoorR5
namespace Go.Proofs.YtflbfmfaccaffaaDoor
open Go Go.RowKit
attribute [local go_sem] extUpon
attribute [local go_sem ↓] eval_put_ne eval_put_none eval_put_same size_put eval_const

theorem Placesr_any (t : LT) (rows cols : Int) (w : World) (h : RtAt w t) (hz : t.size ≤ 1000) (h1 : rows ≤ 1000000) (h2 : cols ≤ 1000000) :
    Calls Tryd.prog 28 #[ptr t.b, .int .i64 rows, .int .i64 cols] w fun e w' => ∃ v, e = .returned v ∧ w'.ownsRow w.heap.size 32 4 v (t.places (allB rows cols)).length ((t.places (allB rows cols)).flatMap Bx.vals) ∧ Ext w w' := by
  have HI := hid (fun w' (he : Ext w w') => rin_any t (allB rows cols) w' (h.ext he) hz (allB_ok h1 h2))
  have HA := hid (whole_any rows cols w)
  clear h hz h1 h2
  generalize t.places (allB rows cols) = pl at *
  generalize allB rows cols = R at *
  generalize t.b = b at *
  unfold ptr at *
  go_enter Tryd.func28, Tryd.ntmps28
  go_wp2_with fail
  refine HA.out.mono ?_
  rintro e w1 ⟨rfl, hE⟩
  go_wp2_with fail
  refine (HI.out w1 hE).mono ?_
  rintro e w2 ⟨v, rfl, hown, hE2⟩
  go_wp2_with fail
  go_ret
  exact ⟨v, rfl, own_low hown hE.size, hE.trans hE2⟩

theorem Bordersr_any (t : LT) (rows cols : Int) (w : World) (h : RtAt w t) (hz : t.size ≤ 1000) (h1 : rows ≤ 1000000) (h2 : cols ≤ 1000000) :
    Calls Tryd.prog 29 #[ptr t.b, .int .i64 rows, .int .i64 cols] w fun e w' => ∃ v, e = .returned v ∧ w'.ownsRow w.heap.size 32 4 v (t.borders (allB rows cols)).length ((t.borders (allB rows cols)).flatMap Bx.vals) ∧ Ext w w' := by
  have HI := hid (fun w' (he : Ext w w') => rborders_any t (allB rows cols) w' (h.ext he) hz (allB_ok h1 h2))
  have HA := hid (whole_any rows cols w)
  clear h hz h1 h2
  generalize t.borders (allB rows cols) = pl at *
  generalize allB rows cols = R at *
  generalize t.b = b at *
  unfold ptr at *
  go_enter Tryd.func29, Tryd.ntmps29
  go_wp2_with fail
  refine HA.out.mono ?_
  rintro e w1 ⟨rfl, hE⟩
  go_wp2_with fail
  refine (HI.out w1 hE).mono ?_
  rintro e w2 ⟨v, rfl, hown, hE2⟩
  go_wp2_with fail
  go_ret
  exact ⟨v, rfl, own_low hown hE.size, hE.trans hE2⟩

theorem conv1 (w : World) (g : Nat) (x : Int) (c : UInt8) (hx : x = c.toNat) (hc : w.cell? ⟨g, 0, none⟩ = some (.int .u8 x)) :
    (convert 81 9 (.slice (some ⟨g, 0, none⟩) 1 1)).run Tryd.prog w = .ok (str [c]) w := by
  have h := run_convert_bytes_back (P := Tryd.prog) w 81 9 5 ⟨g, 0, none⟩ 1 [c] (by kernel_rfl) (by kernel_rfl) (by kernel_rfl) (fun j hj => by
    have hj0 : j = 0 := by simp at hj; omega
    subst hj0
    show w.cell? ⟨g, 0, none⟩ = _
    rw [hc, hx]; rfl)
  exact h
theorem digit_byte {d : Nat} (hd : d < 10) : (48 : Int) + (d : Int) = ((UInt8.ofNat (48 + d)).toNat : Int) := by
  have : (UInt8.ofNat (48 + d)).toNat = 48 + d := by simp [UInt8.toNat_ofNat']; omega
  rw [this]; omega

set_option maxRecDepth 100000 in
theorem small_digit (u : Nat) (hu : u < 10) (w : World) : Calls Tryd.prog 56 #[.int .i64 (-(u : Int))] w fun e w' => e = .returned (str (Lib.decDigits u)) ∧ Ext w w' := by
  have HD := hid (Lib.decDigits_one hu)
  have v0 : IntKind.i64.wrap (48 - -(u : Int)) = 48 + (u : Int) := by rw [IntKind.wrap_i64]; omega
  have hcv := conv1 (w.alloc (.cells #[.int .u8 (48 + (u : Int))] 5 (0, 0))) w.heap.size (48 + (u : Int)) (UInt8.ofNat (48 + u)) (digit_byte hu) (cell_blk (blk_new _ _) rfl)
  rw [← HD.out] at hcv
  generalize Lib.decDigits u = ds at *
  go_enter Tryd.func56, Tryd.ntmps56
  go_wp2_with fail
  go_ret
  exact ⟨rfl, Ext.alloc _ _⟩

set_option maxHeartbeats 2000000 in
set_option maxRecDepth 100000 in
theorem below_any (u : Nat) : ∀ (_ : u ≤ 9223372036854775808) (w : World), Calls Tryd.prog 56 #[.int .i64 (-(u : Int))] w fun e w' => e = .returned (str (Lib.decDigits u)) ∧ Ext w w' := by
  induction u using Nat.strongRecOn with
  | _ u ih =>
    intro hu w
    by_cases h10 : u < 10
    · exact small_digit u h10 w
    · have HI := hid (fun w' => ih (u / 10) (by omega) (by omega) w')
      have HD : Hid (Lib.decDigits u = Lib.decDigits (u / 10) ++ [UInt8.ofNat (48 + u % 10)]) := hid (by rw [Lib.decDigits, dif_neg h10])
      have hlen : (Lib.decDigits (u / 10)).length ≤ 1000 := by rw [Lib.decDigits_length]; have := Lib.nDigits_le20 (u / 10) (by omega); omega
      have t1 : (-(u : Int)).tdiv 10 = -((u / 10 : Nat) : Int) := by rw [Int.neg_tdiv]; congr 1
      have t2 : (-(u : Int)).tmod 10 = -((u % 10 : Nat) : Int) := by rw [Int.neg_tmod]; congr 1
      have hm := digit_byte (d := u % 10) (by omega)
      have hm2 : u % 10 < 10 := by omega
      have v0 : IntKind.i64.wrap (48 - -((u % 10 : Nat) : Int)) = 48 + ((u % 10 : Nat) : Int) := by rw [IntKind.wrap_i64]; omega
      have v3 : IntKind.i64.wrap (48 + ((u % 10 : Nat) : Int)) = 48 + ((u % 10 : Nat) : Int) := by rw [IntKind.wrap_i64]; omega
      have v1 : IntKind.i64.wrap (-((u / 10 : Nat) : Int)) = -((u / 10 : Nat) : Int) := by rw [IntKind.wrap_i64]; omega
      have v2 : IntKind.u8.wrap (48 + ((u % 10 : Nat) : Int)) = 48 + ((u % 10 : Nat) : Int) := by rw [IntKind.wrap_u8]; omega
      clear ih
      replace hm := hid hm
      generalize hq : u / 10 = q at *
      generalize hr : u % 10 = r at *
      generalize Lib.decDigits u = du at *
      generalize Lib.decDigits q = dq at *
      generalize UInt8.ofNat (48 + r) = c at *
      clear hq hr
      go_enter Tryd.func56, Tryd.ntmps56
      go_wp2_with fail
      refine reg_begin 10 (by kernel_rfl) ?_
      generalize hW : World.drew _ = W
      have HE := hid (by rw [← hW]; exact Ext.drew _ : Ext w W)
      clear hW
      refine reg_quiet 0 rfl (by kernel_rfl) (by kernel_rfl) ?_
      apply Exists.intro
      refine ⟨fun w' hw' => ?_, ?_⟩
      · go_simp
        exact ⟨rfl, Ext.refl _⟩
      refine reg_quiet 1 rfl (by kernel_rfl) (by kernel_rfl) ?_
      apply Exists.intro
      refine ⟨fun w' hw' => ?_, ?_⟩
      · go_simp
        exact ⟨rfl, Ext.refl _⟩
      refine reg_quiet 2 rfl (by kernel_rfl) (by kernel_rfl) ?_
      apply Exists.intro
      refine ⟨fun w' hw' => ?_, ?_⟩
      · go_simp
        exact HI.out w'
      refine reg_quiet 3 rfl (by kernel_rfl) (by kernel_rfl) ?_
      apply Exists.intro
      refine ⟨fun w' hw' => ?_, ?_⟩
      · go_simp
        exact ⟨rfl, Ext.refl _⟩
      refine reg_quiet 4 rfl (by kernel_rfl) (by kernel_rfl) ?_
      apply Exists.intro
      refine ⟨fun w' hw' => ?_, ?_⟩
      · go_simp
        exact ⟨rfl, Ext.refl _⟩
      refine reg_quiet 5 rfl (by kernel_rfl) (by kernel_rfl) ?_
      apply Exists.intro
      refine ⟨fun w' hw' => ?_, ?_⟩
      · go_simp
        exact ⟨rfl, Ext.refl _⟩
      refine reg_quiet 6 rfl (by kernel_rfl) (by kernel_rfl) ?_
      apply Exists.intro
      refine ⟨fun w' hw' => ?_, ?_⟩
      · go_simp
        exact ⟨rfl, Ext.refl _⟩
      refine reg_one 7 rfl (by kernel_rfl) rfl (fun w' hw' => ?_)
      replace HE := hid (HE.out.trans hw')
      clear hw'
      go_simp
      have hb := blk_new w' (.cells #[.int .u8 (48 + (r : Int))] 5 (0, 0))
      refine ⟨Ext.alloc _ _, ?_⟩
      replace HE := hid (HE.out.alloc' (.cells #[.int .u8 (48 + (r : Int))] 5 (0, 0)))
      generalize World.alloc w' _ = w1 at *
      generalize w'.heap.size = g at *
      replace hb := hid hb
      refine reg_one 8 rfl (by kernel_rfl) rfl (fun w2 hw2 => ?_)
      have hcv := conv1 w2 g _ c hm.out (cell_blk (hw2.blk hb.out) rfl)
      replace HE := hid (HE.out.trans hw2)
      clear hw2 hb
      go_simp
      clear hcv
      refine ⟨Ext.refl _, ?_⟩
      refine reg_adds 9 (dq) ([c]) rfl (by kernel_rfl) (by simp; omega) (by go_simp) (by go_simp) ?_
      refine reg_pure 10 rfl (by kernel_rfl) rfl ?_
      apply Exists.intro
      refine ⟨fun w' => ?_, ?_⟩
      · go_simp
        exact rfl
      refine reg_done (by kernel_rfl) (fun w3 hw3 => ?_) _
      replace HE := hid (HE.out.trans hw3)
      clear hw3
      go_simp
      go_wp2_with fail
      go_ret
      exact ⟨by rw [HD.out]; rfl, HE.out⟩

theorem digits_any (n : Int) (h0 : -9223372036854775808 ≤ n) (h1 : n ≤ 9223372036854775807) (w : World) :
    Calls Tryd.prog 47 #[.int .i64 n] w fun e w' => e = .returned (str (Lib.itoa n)) ∧ Ext w w' := by
  by_cases hn : n < 0
  · obtain ⟨u, rfl⟩ : ∃ u : Nat, n = -(u : Int) := ⟨n.natAbs, by omega⟩
    have HB := hid (below_any u (by omega) w)
    have hl : (Lib.decDigits u).length ≤ 1000 := by rw [Lib.decDigits_length]; have := Lib.nDigits_le20 u (by omega); omega
    have HX := hid (Lib.itoa_neg u (by omega))
    generalize Lib.itoa (-(u : Int)) = it at *
    generalize Lib.decDigits u = ds at *
    go_enter Tryd.func47, Tryd.ntmps47
    go_wp2_with fail
    refine HB.out.mono ?_
    rintro e w1 ⟨rfl, hE⟩
    go_wp2_with fail
    go_ret
    exact ⟨by rw [HX.out]; rfl, hE⟩
  · obtain ⟨u, rfl⟩ : ∃ u : Nat, n = u := ⟨n.toNat, by omega⟩
    have HB := hid (below_any u (by omega) w)
    have HX := hid (Lib.itoa_nonneg u)
    have v0 : IntKind.i64.wrap (-(u : Int)) = -(u : Int) := by rw [IntKind.wrap_i64]; omega
    generalize Lib.itoa (u : Int) = it at *
    generalize Lib.decDigits u = ds at *
    go_enter Tryd.func47, Tryd.ntmps47
    go_wp2_with fail
    refine HB.out.mono ?_
    rintro e w1 ⟨rfl, hE⟩
    go_wp2_with fail
    go_ret
    exact ⟨by rw [HX.out]; rfl, hE⟩

set_option maxHeartbeats 2000000 in
set_option maxRecDepth 100000 in
theorem rtext_any : ∀ (t : LT) (w : World), RtAt w t → t.small → t.size ≤ 1000 →
    Calls Tryd.prog 27 #[ptr t.b] w fun e w' => e = .returned (str t.text) ∧ Ext w w' := by
  intro t
  induction t with
  | leaf b p =>
    intro w h hs hz
    have HI := hid (digits_any p hs.1 hs.2 w)
    have hc : w.cell? ⟨b, 0, none⟩ = some (.int .i64 p) := rnode_cells h 0 _ rfl
    have hc3 : w.cell? ⟨b, 3, none⟩ = some (.pointer none) := rnode_cells h 3 _ rfl
    clear h hs hz
    unfold LT.b ptr
    by_cases hp : p < 0
    · have HX : Hid (LT.text (.leaf b p) = [63]) := hid (by simp [LT.text, hp])
      go_enter Tryd.func27, Tryd.ntmps27
      go_wp2_with fail
      go_ret
      exact ⟨by rw [HX.out]; rfl, Ext.refl _⟩
    · have HX : Hid (LT.text (.leaf b p) = Lib.itoa p) := hid (by simp [LT.text, hp])
      go_enter Tryd.func27, Tryd.ntmps27
      go_wp2_with fail
      refine HI.out.mono ?_
      rintro e w2 ⟨rfl, hE⟩
      go_wp2_with fail
      go_ret
      exact ⟨by rw [HX.out]; rfl, hE⟩
  | node b x y a k ihx ihy =>
    intro w h hs hz
    have hxl := text_len x hs.2.1
    have hyl := text_len y hs.2.2
    have hkl := Lib.itoa_length_le k (by have := hs.1; omega) (by have := hs.1; omega)
    simp only [LT.size] at hz
    obtain ⟨bx, hbx⟩ : ∃ q, x.b = q := ⟨_, rfl⟩
    obtain ⟨by_, hby⟩ : ∃ q, y.b = q := ⟨_, rfl⟩
    have HX : Hid (∀ w', Ext w w' → Calls Tryd.prog 27 #[ptr bx] w' fun e w'' => e = .returned (str x.text) ∧ Ext w' w'') := hid (fun w' he => hbx ▸ ihx w' (h.ext he).2.1 hs.2.1 (by omega))
    have HY : Hid (∀ w', Ext w w' → Calls Tryd.prog 27 #[ptr by_] w' fun e w'' => e = .returned (str y.text) ∧ Ext w' w'') := hid (fun w' he => hby ▸ ihy w' (h.ext he).2.2 hs.2.2 (by omega))
    have HI := hid (fun w' => digits_any k (by have := hs.1; omega) (by have := hs.1; omega) w')
    have HC1 : Hid (w.cell? ⟨b, 3, none⟩ = some (ptr bx)) := hid (hbx ▸ rnode_cells h 3 _ rfl)
    have HC2 : Hid (w.cell? ⟨b, 4, none⟩ = some (ptr by_)) := hid (hby ▸ rnode_cells h 4 _ rfl)
    have HC4 : Hid (w.cell? ⟨b, 2, none⟩ = some (.int .i64 k)) := hid (rnode_cells h 2 _ rfl)
    have hc0 : w.cell? ⟨b, 3, none⟩ = some (ptr bx) := HC1.out
    have hc3 : w.cell? ⟨b, 1, none⟩ = some (.bool a) := rnode_cells h 1 _ rfl
    have HT : Hid (LT.text (.node b x y a k) = 40 :: (x.text ++ (if a then 124 else 45) :: (Lib.itoa k ++ 58 :: (y.text ++ [41])))) := hid rfl
    clear h ihx ihy hbx hby hs
    generalize LT.text (.node b x y a k) = tx at *
    generalize x.text = xs at *
    generalize y.text = ys at *
    generalize Lib.itoa k = ks at *
    unfold LT.b ptr at *
    cases a
    · go_enter Tryd.func27, Tryd.ntmps27
      go_wp2_with fail
      refine reg_begin 23 (by kernel_rfl) ?_
      generalize hW : World.drew _ = W
      have HE := hid (by rw [← hW]; exact Ext.drew _ : Ext w W)
      clear hW
      replace HC1 := hid (HE.out.cell HC1.out)
      replace HC2 := hid (HE.out.cell HC2.out)
      replace HC4 := hid (HE.out.cell HC4.out)
      clear hc3 hc0
      refine reg_quiet 0 rfl (by kernel_rfl) (by kernel_rfl) ?_
      apply Exists.intro
      refine ⟨fun w' hw' => ?_, ?_⟩
      · go_simp
        exact ⟨rfl, Ext.refl _⟩
      refine reg_quiet 1 rfl (by kernel_rfl) (by kernel_rfl) ?_
      apply Exists.intro
      refine ⟨fun w' hw' => ?_, ?_⟩
      · go_simp
        exact ⟨rfl, Ext.refl _⟩
      refine reg_quiet 2 rfl (by kernel_rfl) (by kernel_rfl) ?_
      apply Exists.intro
      refine ⟨fun w' hw' => ?_, ?_⟩
      · go_simp
        exact ⟨rfl, Ext.refl _⟩
      refine reg_quiet 3 rfl (by kernel_rfl) (by kernel_rfl) ?_
      apply Exists.intro
      refine ⟨fun w' hw' => ?_, ?_⟩
      · have q0 := hw'.cell HC1.out
        go_simp
        exact ⟨rfl, Ext.refl _⟩
      refine reg_quiet 4 rfl (by kernel_rfl) (by kernel_rfl) ?_
      apply Exists.intro
      refine ⟨fun w' hw' => ?_, ?_⟩
      · go_simp
        exact HX.out w' (HE.out.trans hw')
      refine reg_adds 5 ([40]) (xs) rfl (by kernel_rfl) (by simp; omega) (by go_simp) (by go_simp) ?_
      refine reg_quiet 6 rfl (by kernel_rfl) (by kernel_rfl) ?_
      apply Exists.intro
      refine ⟨fun w' hw' => ?_, ?_⟩
      · go_simp
        exact ⟨rfl, Ext.refl _⟩
      refine reg_adds 7 ([40] ++ xs) ([45]) rfl (by kernel_rfl) (by simp; omega) (by go_simp) (by go_simp) ?_
      refine reg_quiet 8 rfl (by kernel_rfl) (by kernel_rfl) ?_
      apply Exists.intro
      refine ⟨fun w' hw' => ?_, ?_⟩
      · go_simp
        exact ⟨rfl, Ext.refl _⟩
      refine reg_quiet 9 rfl (by kernel_rfl) (by kernel_rfl) ?_
      apply Exists.intro
      refine ⟨fun w' hw' => ?_, ?_⟩
      · go_simp
        exact ⟨rfl, Ext.refl _⟩
      refine reg_quiet 10 rfl (by kernel_rfl) (by kernel_rfl) ?_
      apply Exists.intro
      refine ⟨fun w' hw' => ?_, ?_⟩
      · go_simp
        exact ⟨rfl, Ext.refl _⟩
      refine reg_quiet 11 rfl (by kernel_rfl) (by kernel_rfl) ?_
      apply Exists.intro
      refine ⟨fun w' hw' => ?_, ?_⟩
      · have q0 := hw'.cell HC4.out
        go_simp
        exact ⟨rfl, Ext.refl _⟩
      refine reg_quiet 12 rfl (by kernel_rfl) (by kernel_rfl) ?_
      apply Exists.intro
      refine ⟨fun w' hw' => ?_, ?_⟩
      · go_simp
        exact HI.out w'
      refine reg_adds 13 ([40] ++ xs ++ [45]) (ks) rfl (by kernel_rfl) (by simp; omega) (by go_simp) (by go_simp) ?_
      refine reg_adds 14 ([40] ++ xs ++ [45] ++ ks) ([58]) rfl (by kernel_rfl) (by simp; omega) (by go_simp) (by go_simp) ?_
      refine reg_quiet 15 rfl (by kernel_rfl) (by kernel_rfl) ?_
      apply Exists.intro
      refine ⟨fun w' hw' => ?_, ?_⟩
      · go_simp
        exact ⟨rfl, Ext.refl _⟩
      refine reg_quiet 16 rfl (by kernel_rfl) (by kernel_rfl) ?_
      apply Exists.intro
      refine ⟨fun w' hw' => ?_, ?_⟩
      · go_simp
        exact ⟨rfl, Ext.refl _⟩
      refine reg_quiet 17 rfl (by kernel_rfl) (by kernel_rfl) ?_
      apply Exists.intro
      refine ⟨fun w' hw' => ?_, ?_⟩
      · go_simp
        exact ⟨rfl, Ext.refl _⟩
      refine reg_quiet 18 rfl (by kernel_rfl) (by kernel_rfl) ?_
      apply Exists.intro
      refine ⟨fun w' hw' => ?_, ?_⟩
      · have q0 := hw'.cell HC2.out
        go_simp
        exact ⟨rfl, Ext.refl _⟩
      refine reg_quiet 19 rfl (by kernel_rfl) (by kernel_rfl) ?_
      apply Exists.intro
      refine ⟨fun w' hw' => ?_, ?_⟩
      · go_simp
        exact HY.out w' (HE.out.trans hw')
      refine reg_adds 20 ([40] ++ xs ++ [45] ++ ks ++ [58]) (ys) rfl (by kernel_rfl) (by simp; omega) (by go_simp) (by go_simp) ?_
      refine reg_adds 21 ([40] ++ xs ++ [45] ++ ks ++ [58] ++ ys) ([41]) rfl (by kernel_rfl) (by simp; omega) (by go_simp) (by go_simp) ?_
      refine reg_quiet 22 rfl (by kernel_rfl) (by kernel_rfl) ?_
      apply Exists.intro
      refine ⟨fun w' hw' => ?_, ?_⟩
      · go_simp
        exact ⟨rfl, Ext.refl _⟩
      refine reg_done (by kernel_rfl) (fun w' hw' => ?_) _
      go_simp
      go_wp2_with fail
      go_ret
      exact ⟨by rw [HT.out]; simp, HE.out.trans hw'⟩
    · go_enter Tryd.func27, Tryd.ntmps27
      go_wp2_with fail
      refine reg_begin 23 (by kernel_rfl) ?_
      generalize hW : World.drew _ = W
      have HE := hid (by rw [← hW]; exact Ext.drew _ : Ext w W)
      clear hW
      replace HC1 := hid (HE.out.cell HC1.out)
      replace HC2 := hid (HE.out.cell HC2.out)
      replace HC4 := hid (HE.out.cell HC4.out)
      clear hc3 hc0
      refine reg_quiet 0 rfl (by kernel_rfl) (by kernel_rfl) ?_
      apply Exists.intro
      refine ⟨fun w' hw' => ?_, ?_⟩
      · go_simp
        exact ⟨rfl, Ext.refl _⟩
      refine reg_quiet 1 rfl (by kernel_rfl) (by kernel_rfl) ?_
      apply Exists.intro
      refine ⟨fun w' hw' => ?_, ?_⟩
      · go_simp
        exact ⟨rfl, Ext.refl _⟩
      refine reg_quiet 2 rfl (by kernel_rfl) (by kernel_rfl) ?_
      apply Exists.intro
      refine ⟨fun w' hw' => ?_, ?_⟩
      · go_simp
        exact ⟨rfl, Ext.refl _⟩
      refine reg_quiet 3 rfl (by kernel_rfl) (by kernel_rfl) ?_
      apply Exists.intro
      refine ⟨fun w' hw' => ?_, ?_⟩
      · have q0 := hw'.cell HC1.out
        go_simp
        exact ⟨rfl, Ext.refl _⟩
      refine reg_quiet 4 rfl (by kernel_rfl) (by kernel_rfl) ?_
      apply Exists.intro
      refine ⟨fun w' hw' => ?_, ?_⟩
      · go_simp
        exact HX.out w' (HE.out.trans hw')
      refine reg_adds 5 ([40]) (xs) rfl (by kernel_rfl) (by simp; omega) (by go_simp) (by go_simp) ?_
      refine reg_quiet 6 rfl (by kernel_rfl) (by kernel_rfl) ?_
      apply Exists.intro
      refine ⟨fun w' hw' => ?_, ?_⟩
      · go_simp
        exact ⟨rfl, Ext.refl _⟩
      refine reg_adds 7 ([40] ++ xs) ([124]) rfl (by kernel_rfl) (by simp; omega) (by go_simp) (by go_simp) ?_
      refine reg_quiet 8 rfl (by kernel_rfl) (by kernel_rfl) ?_
      apply Exists.intro
      refine ⟨fun w' hw' => ?_, ?_⟩
      · go_simp
        exact ⟨rfl, Ext.refl _⟩
      refine reg_quiet 9 rfl (by kernel_rfl) (by kernel_rfl) ?_
      apply Exists.intro
      refine ⟨fun w' hw' => ?_, ?_⟩
      · go_simp
        exact ⟨rfl, Ext.refl _⟩
      refine reg_quiet 10 rfl (by kernel_rfl) (by kernel_rfl) ?_
      apply Exists.intro
      refine ⟨fun w' hw' => ?_, ?_⟩
      · go_simp
        exact ⟨rfl, Ext.refl _⟩
      refine reg_quiet 11 rfl (by kernel_rfl) (by kernel_rfl) ?_
      apply Exists.intro
      refine ⟨fun w' hw' => ?_, ?_⟩
      · have q0 := hw'.cell HC4.out
        go_simp
        exact ⟨rfl, Ext.refl _⟩
      refine reg_quiet 12 rfl (by kernel_rfl) (by kernel_rfl) ?_
      apply Exists.intro
      refine ⟨fun w' hw' => ?_, ?_⟩
      · go_simp
        exact HI.out w'
      refine reg_adds 13 ([40] ++ xs ++ [124]) (ks) rfl (by kernel_rfl) (by simp; omega) (by go_simp) (by go_simp) ?_
      refine reg_adds 14 ([40] ++ xs ++ [124] ++ ks) ([58]) rfl (by kernel_rfl) (by simp; omega) (by go_simp) (by go_simp) ?_
      refine reg_quiet 15 rfl (by kernel_rfl) (by kernel_rfl) ?_
      apply Exists.intro
      refine ⟨fun w' hw' => ?_, ?_⟩
      · go_simp
        exact ⟨rfl, Ext.refl _⟩
      refine reg_quiet 16 rfl (by kernel_rfl) (by kernel_rfl) ?_
      apply Exists.intro
      refine ⟨fun w' hw' => ?_, ?_⟩
      · go_simp
        exact ⟨rfl, Ext.refl _⟩
      refine reg_quiet 17 rfl (by kernel_rfl) (by kernel_rfl) ?_
      apply Exists.intro
      refine ⟨fun w' hw' => ?_, ?_⟩
      · go_simp
        exact ⟨rfl, Ext.refl _⟩
      refine reg_quiet 18 rfl (by kernel_rfl) (by kernel_rfl) ?_
      apply Exists.intro
      refine ⟨fun w' hw' => ?_, ?_⟩
      · have q0 := hw'.cell HC2.out
        go_simp
        exact ⟨rfl, Ext.refl _⟩
      refine reg_quiet 19 rfl (by kernel_rfl) (by kernel_rfl) ?_
      apply Exists.intro
      refine ⟨fun w' hw' => ?_, ?_⟩
      · go_simp
        exact HY.out w' (HE.out.trans hw')
      refine reg_adds 20 ([40] ++ xs ++ [124] ++ ks ++ [58]) (ys) rfl (by kernel_rfl) (by simp; omega) (by go_simp) (by go_simp) ?_
      refine reg_adds 21 ([40] ++ xs ++ [124] ++ ks ++ [58] ++ ys) ([41]) rfl (by kernel_rfl) (by simp; omega) (by go_simp) (by go_simp) ?_
      refine reg_quiet 22 rfl (by kernel_rfl) (by kernel_rfl) ?_
      apply Exists.intro
      refine ⟨fun w' hw' => ?_, ?_⟩
      · go_simp
        exact ⟨rfl, Ext.refl _⟩
      refine reg_done (by kernel_rfl) (fun w' hw' => ?_) _
      go_simp
      go_wp2_with fail
      go_ret
      exact ⟨by rw [HT.out]; simp, HE.out.trans hw'⟩

end Go.Proofs.YtflbfmfaccaffaaDoor
