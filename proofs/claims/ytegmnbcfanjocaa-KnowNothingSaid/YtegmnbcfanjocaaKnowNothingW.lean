/-
  The walk of KnowNothing.
-/
import Derived.Test.YtegmnbcfanjocaaK18
namespace Go.Proofs.Ytegmnbcfanjocaa
open Go Go.RowKit Go.Maps
attribute [local go_sem] extUpon run_store_tm
attribute [local go_sem ↓] Tm.val_cell eval_put_ne eval_put_none eval_put_same size_put eval_const
attribute [local go_sem ↓] meth_Atom meth_Public meth_Shared meth_Chain meth_Digest meth_Box meth_Empty
attribute [local go_sem ↓] run_build_chain run_build_digest run_build_box
attribute [local go_sem] ta_Atom_Atom ta_Public_Atom ta_Shared_Atom ta_Chain_Atom ta_Digest_Atom ta_Box_Atom ta_Empty_Atom ta_Nil_Atom ta_Atom_Public ta_Public_Public ta_Shared_Public ta_Chain_Public ta_Digest_Public ta_Box_Public ta_Empty_Public ta_Nil_Public ta_Atom_Shared ta_Public_Shared ta_Shared_Shared ta_Chain_Shared ta_Digest_Shared ta_Box_Shared ta_Empty_Shared ta_Nil_Shared ta_Atom_Chain ta_Public_Chain ta_Shared_Chain ta_Chain_Chain ta_Digest_Chain ta_Box_Chain ta_Empty_Chain ta_Nil_Chain ta_Atom_Digest ta_Public_Digest ta_Shared_Digest ta_Chain_Digest ta_Digest_Digest ta_Box_Digest ta_Empty_Digest ta_Nil_Digest ta_Atom_Box ta_Public_Box ta_Shared_Box ta_Chain_Box ta_Digest_Box ta_Box_Box ta_Empty_Box ta_Nil_Box ta_Atom_Empty ta_Public_Empty ta_Shared_Empty ta_Chain_Empty ta_Digest_Empty ta_Box_Empty ta_Empty_Empty ta_Nil_Empty
variable {f : Int → List UInt8}

theorem One.opn {ts : List Tm} {j : Nat} {x : Tm} {u : TypeId} {d : Value} (h : One ts j x u d) (w : World) :
    Calls Try.prog 15 #[.iface u d] w fun e w' => e = .returned (.bool (opn x)) ∧ Ext w w' := by
  rw [← h.val]
  exact opn_any x w

set_option maxHeartbeats 4000000 in
set_option maxRecDepth 100000 in
theorem KnowNothing_walk (T : Nat → Int) (av : Option Addr) (cap : Nat) (l : List Raw) (w : World) (hT : TabAt w T) (hl : l.length ≤ 9223372036854775807) (hr : RawAt w av l) :
    Calls Try.prog 6 #[.slice av l.length cap] w fun e w' => e = .returned (.bool true) ∧ Ext w w' := by
  have HT := hid (Terms_any av cap l w hl hr)
  obtain ⟨hn0, hn1⟩ := terms_len l
  have HO := hid (fun j (h : j < (terms l).length) => One.of l h)
  have HI := hid (itoa_tab hT)
  have HN := hid (nums_tab T)
  clear hr hl hT
  generalize itoaT T = f at *
  generalize terms l = ts at *
  go_enter Try.func6, Try.ntmps6
  go_wp2_with fail
  refine HT.out.mono ?_
  rintro e w1 ⟨v, rfl, hown, hE1⟩
  obtain ⟨g, cap2, hv, hg⟩ := hown.form hn0
  subst hv
  have HRD := hid (rd_own hown (by simp))
  have HE1 := hid hE1
  clear hown hg hE1 HT
  go_wp2_with fail
  refine (new_any (f := f) (P := P0) [] (see_said HN.out [] (by simp) (fun k n a t _ h => by cases h)) w1 [] [] _ _ 0 0 (HI.out.later HE1.out) (fun h => absurd h (by decide)) (fun h => absurd h (by decide)) (by intro n hn; cases hn) (by decide) (by intro n hn; cases hn) (by decide)).mono ?_
  rintro e w2 ⟨k, v, rfl, ha⟩
  have hS := fun s => Cl.nothing ha.cl s
  have hx : ∀ n, v.x n = false := fun n => by rw [ha.x]; simp [secs]
  have HCO := hid (fun t => can_opn (f := f) hx hS t)
  have HM := hid (ha.at_.nothing hS)
  have HE2 := hid (HE1.out.trans ha.ext)
  have HRD2 := hid (HRD.out.later ha.ext)
  have HK := hid ha.at_
  clear ha hS hx HE1 HRD
  go_wp2_with fail
  refine (known13 HN.out w2 (HI.out.later HE2.out)).mono ?_
  rintro e w3 ⟨rfl, hE3⟩
  have HE3 := hid (HE2.out.trans hE3)
  have HRD3 := hid (HRD2.out.later hE3)
  have HK3 := hid (HK.out.later hE3)
  clear hE3 HE2 HRD2 HK
  go_wp2_with fail
  go_loopw [5] (fun iv wr => ∃ (j : Nat), iv = .int .i64 j ∧ j ≤ ts.length ∧ Hid (Ext w3 wr)) (fun iv _ => ts.length - (intOf iv).toNat)
  case atStart => exact ⟨0, rfl, by omega, hid (Ext.refl _)⟩
  case round =>
    obtain ⟨j, rfl, hj, HX⟩ := hrel
    by_cases hlt : j < ts.length
    · have hlt2 : (j : Int) < (ts.length : Int) := by omega
      obtain ⟨x, u, d, hone⟩ := HO.out j hlt
      have HC := hid (hone.cell (HRD3.out.later HX.out))
      have HCAN : Hid (∀ W, Ext wr W → Calls Try.prog 13 #[.pointer (some ⟨k.kb, 0, none⟩), .iface u d] W fun e w' => e = .returned (.bool (opn x)) ∧ Ext W w') := hid (fun W hW => by
        have := hone.can HI.out (HE3.out.trans (HX.out.trans hW)) (HK3.out.later (HX.out.trans hW))
        rwa [HCO.out] at this)
      have HOP := hid (fun W => hone.opn W)
      clear hone HCO
      generalize opn x = b at *
      go_wp2_with fail
      refine reg_begin 12 (by kernel_rfl) ?_
      refine reg_hide (fun Q2 HQ => ?_)
      generalize hW : World.drew _ = W
      have HE : Hid (Ext wr W) := hid (by rw [← hW]; exact Ext.drew _)
      clear hW
      refine reg_quiet 0 rfl (by kernel_rfl) (by kernel_rfl) ?_
      apply Exists.intro
      refine ⟨fun w' hw' => ?_, ?_⟩
      · go_simp
        exact ⟨rfl, Ext.refl _⟩
      refine reg_quiet 1 rfl (by kernel_rfl) (by kernel_rfl) ?_
      apply Exists.intro
      refine ⟨fun w' hw' => ?_, ?_⟩
      · go_simp
        exact ⟨rfl, Ext.refl _⟩
      refine reg_quiet 2 rfl (by kernel_rfl) (by kernel_rfl) ?_
      apply Exists.intro
      refine ⟨fun w' hw' => ?_, ?_⟩
      · go_simp
        exact ⟨rfl, Ext.refl _⟩
      refine reg_quiet 3 rfl (by kernel_rfl) (by kernel_rfl) ?_
      apply Exists.intro
      refine ⟨fun w' hw' => ?_, ?_⟩
      · go_simp
        exact ⟨rfl, Ext.refl _⟩
      refine reg_quiet 4 rfl (by kernel_rfl) (by kernel_rfl) ?_
      apply Exists.intro
      refine ⟨fun w' hw' => ?_, ?_⟩
      · have q0 := (HE.out.trans hw').cell HC.out
        go_simp
        exact ⟨rfl, Ext.refl _⟩
      refine reg_quiet 5 rfl (by kernel_rfl) (by kernel_rfl) ?_
      apply Exists.intro
      refine ⟨fun w' hw' => ?_, ?_⟩
      · go_simp
        exact HCAN.out w' (HE.out.trans hw')
      refine reg_quiet 6 rfl (by kernel_rfl) (by kernel_rfl) ?_
      apply Exists.intro
      refine ⟨fun w' hw' => ?_, ?_⟩
      · go_simp
        exact ⟨rfl, Ext.refl _⟩
      refine reg_quiet 7 rfl (by kernel_rfl) (by kernel_rfl) ?_
      apply Exists.intro
      refine ⟨fun w' hw' => ?_, ?_⟩
      · go_simp
        exact ⟨rfl, Ext.refl _⟩
      refine reg_quiet 8 rfl (by kernel_rfl) (by kernel_rfl) ?_
      apply Exists.intro
      refine ⟨fun w' hw' => ?_, ?_⟩
      · go_simp
        exact ⟨rfl, Ext.refl _⟩
      refine reg_quiet 9 rfl (by kernel_rfl) (by kernel_rfl) ?_
      apply Exists.intro
      refine ⟨fun w' hw' => ?_, ?_⟩
      · have q0 := (HE.out.trans hw').cell HC.out
        go_simp
        exact ⟨rfl, Ext.refl _⟩
      refine reg_quiet 10 rfl (by kernel_rfl) (by kernel_rfl) ?_
      apply Exists.intro
      refine ⟨fun w' hw' => ?_, ?_⟩
      · go_simp
        exact HOP.out w'
      refine reg_quiet 11 rfl (by kernel_rfl) (by kernel_rfl) ?_
      apply Exists.intro
      refine ⟨fun w' hw' => ?_, ?_⟩
      · go_simp
        exact ⟨rfl, Ext.refl _⟩
      refine reg_done (by kernel_rfl) (fun W2 hw2 => ?_) _
      replace HX := hid (HX.out.trans (HE.out.trans hw2))
      clear hw2 HE HC HCAN HOP
      go_simp
      rw [HQ.out]
      clear HQ Q2
      go_wp2_with fail
      go_roundw
      case rel => exact ⟨j + 1, by go_num, by omega, HX⟩
      case measure => simp [intOf]; omega
    · have hlt2 : ¬ (j : Int) < (ts.length : Int) := by omega
      go_wp2_with fail
      refine (terms_known wr k v (HK3.out.later HX.out) (by rw [HM.out]; omega)).mono ?_
      rintro e w4 ⟨⟨a, c, rfl⟩, hE4⟩
      rw [HM.out]
      go_wp2_with fail
      go_ret
      exact ⟨rfl, HE3.out.trans (HX.out.trans hE4)⟩

end Go.Proofs.Ytegmnbcfanjocaa
