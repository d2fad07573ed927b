/-
  Texts merged: Q4, Q5.
-/
import Derived.Test.YtjodmedgkmeklaaGreatJ10
/-
  Whose turn it is.
-/
namespace Go.Proofs.YtjodmedgkmeklaaGreat
open Go Go.RowKit Go.Maps
attribute [local go_sem] extUpon run_store_tm
attribute [local go_sem ↓] Tm.val_cell eval_put_ne eval_put_none eval_put_same size_put eval_const
attribute [local go_sem ↓] meth_Atom meth_Public meth_Shared meth_Chain meth_Digest meth_Box meth_Empty
attribute [local go_sem ↓] run_build_chain run_build_digest run_build_box
attribute [local go_sem] ta_Atom_Atom ta_Public_Atom ta_Shared_Atom ta_Chain_Atom ta_Digest_Atom ta_Box_Atom ta_Empty_Atom ta_Nil_Atom ta_Atom_Public ta_Public_Public ta_Shared_Public ta_Chain_Public ta_Digest_Public ta_Box_Public ta_Empty_Public ta_Nil_Public ta_Atom_Shared ta_Public_Shared ta_Shared_Shared ta_Chain_Shared ta_Digest_Shared ta_Box_Shared ta_Empty_Shared ta_Nil_Shared ta_Atom_Chain ta_Public_Chain ta_Shared_Chain ta_Chain_Chain ta_Digest_Chain ta_Box_Chain ta_Empty_Chain ta_Nil_Chain ta_Atom_Digest ta_Public_Digest ta_Shared_Digest ta_Chain_Digest ta_Digest_Digest ta_Box_Digest ta_Empty_Digest ta_Nil_Digest ta_Atom_Box ta_Public_Box ta_Shared_Box ta_Chain_Box ta_Digest_Box ta_Box_Box ta_Empty_Box ta_Nil_Box ta_Atom_Empty ta_Public_Empty ta_Shared_Empty ta_Chain_Empty ta_Digest_Empty ta_Box_Empty ta_Empty_Empty ta_Nil_Empty
variable {w w2 : World} {b : Nat} {s : Sd} {vs va : Value}

set_option maxHeartbeats 4000000 in
set_option maxRecDepth 100000 in
theorem turn_any (sp : Bool) (h0 : 0 ≤ s.step) (h3 : s.step ≤ 3) (h : SdAt w b s vs va) :
    Calls Tryz.prog 53 #[ptr b, .bool sp] w fun e w' => e = .returned (.bool (s.turn sp)) ∧ Ext w w' := by
  obtain ⟨fi, hfi⟩ : ∃ fi, s.first = fi := ⟨_, rfl⟩
  by_cases hz : s.state = 0
  · have hfacts := fun W (hW : Ext w W) => (⟨(h.later hW).cell rfl, (h.later hW).cell rfl, (h.later hW).cell rfl⟩ : W.cell? ⟨b, 4, none⟩ = some (.int .i64 s.state) ∧ W.cell? ⟨b, 3, none⟩ = some (.int .i64 s.step) ∧ W.cell? ⟨b, 0, none⟩ = some (.bool s.first))
    rw [hz, hfi] at hfacts
    rcases (show s.step = 0 ∨ s.step = 1 ∨ s.step = 2 ∨ s.step = 3 by omega) with hs | hs | hs | hs
    · have HR := hid (show s.turn sp = ((true == fi) == sp) by simp [Sd.turn, hz, hs, hfi])
      rw [hs] at hfacts
      have HC := hid hfacts
      clear h h0 h3 hz hs hfacts hfi
      go_enter Tryz.func53, Tryz.ntmps53
      go_wp2_with fail
      refine reg_begin 24 (by kernel_rfl) ?_
      refine reg_hide (fun Q2 HQ => ?_)
      generalize hW : World.drew _ = W
      have HE : Hid (Ext w W) := hid (by rw [← hW]; exact Ext.drew _)
      clear hW
      refine reg_pure 0 rfl (by kernel_rfl) (by kernel_rfl) ?_; apply Exists.intro; refine ⟨fun w' => ?_, ?_⟩; · go_simp; exact rfl
      refine reg_pure 1 rfl (by kernel_rfl) (by kernel_rfl) ?_; apply Exists.intro; refine ⟨fun w' => ?_, ?_⟩; · go_simp; exact rfl
      refine reg_pure 2 rfl (by kernel_rfl) (by kernel_rfl) ?_; apply Exists.intro; refine ⟨fun w' => ?_, ?_⟩; · go_simp; exact rfl
      refine reg_pure 3 rfl (by kernel_rfl) (by kernel_rfl) ?_; apply Exists.intro; refine ⟨fun w' => ?_, ?_⟩; · go_simp; exact rfl
      refine reg_quiet 4 rfl (by kernel_rfl) (by kernel_rfl) ?_; apply Exists.intro; refine ⟨fun w' hw' => ?_, ?_⟩; · have q0 := (HC.out w' (HE.out.trans hw')).1; go_simp; exact ⟨rfl, Ext.refl _⟩
      refine reg_pure 5 rfl (by kernel_rfl) (by kernel_rfl) ?_; apply Exists.intro; refine ⟨fun w' => ?_, ?_⟩; · go_simp; exact rfl
      refine reg_pure 6 rfl (by kernel_rfl) (by kernel_rfl) ?_; apply Exists.intro; refine ⟨fun w' => ?_, ?_⟩; · go_simp; exact rfl
      refine reg_pure 7 rfl (by kernel_rfl) (by kernel_rfl) ?_; apply Exists.intro; refine ⟨fun w' => ?_, ?_⟩; · go_simp; exact rfl
      refine reg_pure 8 rfl (by kernel_rfl) (by kernel_rfl) ?_; apply Exists.intro; refine ⟨fun w' => ?_, ?_⟩; · go_simp; exact rfl
      refine reg_pure 9 rfl (by kernel_rfl) (by kernel_rfl) ?_; apply Exists.intro; refine ⟨fun w' => ?_, ?_⟩; · go_simp; exact rfl
      refine reg_pure 10 rfl (by kernel_rfl) (by kernel_rfl) ?_; apply Exists.intro; refine ⟨fun w' => ?_, ?_⟩; · go_simp; exact rfl
      refine reg_quiet 11 rfl (by kernel_rfl) (by kernel_rfl) ?_; apply Exists.intro; refine ⟨fun w' hw' => ?_, ?_⟩; · have q0 := (HC.out w' (HE.out.trans hw')).2.1; go_simp; exact ⟨rfl, Ext.refl _⟩
      refine reg_pure 12 rfl (by kernel_rfl) (by kernel_rfl) ?_; apply Exists.intro; refine ⟨fun w' => ?_, ?_⟩; · go_simp; exact rfl
      refine reg_pure 13 rfl (by kernel_rfl) (by kernel_rfl) ?_; apply Exists.intro; refine ⟨fun w' => ?_, ?_⟩; · go_simp; exact rfl
      refine reg_pure 14 rfl (by kernel_rfl) (by kernel_rfl) ?_; apply Exists.intro; refine ⟨fun w' => ?_, ?_⟩; · go_simp; exact rfl
      refine reg_pure 15 rfl (by kernel_rfl) (by kernel_rfl) ?_; apply Exists.intro; refine ⟨fun w' => ?_, ?_⟩; · go_simp; exact rfl
      refine reg_pure 16 rfl (by kernel_rfl) (by kernel_rfl) ?_; apply Exists.intro; refine ⟨fun w' => ?_, ?_⟩; · go_simp; exact rfl
      refine reg_pure 17 rfl (by kernel_rfl) (by kernel_rfl) ?_; apply Exists.intro; refine ⟨fun w' => ?_, ?_⟩; · go_simp; exact rfl
      refine reg_quiet 18 rfl (by kernel_rfl) (by kernel_rfl) ?_; apply Exists.intro; refine ⟨fun w' hw' => ?_, ?_⟩; · have q0 := (HC.out w' (HE.out.trans hw')).2.2; go_simp; exact ⟨rfl, Ext.refl _⟩
      refine reg_pure 19 rfl (by kernel_rfl) (by kernel_rfl) ?_; apply Exists.intro; refine ⟨fun w' => ?_, ?_⟩; · go_simp; exact rfl
      refine reg_pure 20 rfl (by kernel_rfl) (by kernel_rfl) ?_; apply Exists.intro; refine ⟨fun w' => ?_, ?_⟩; · go_simp; exact rfl
      refine reg_pure 21 rfl (by kernel_rfl) (by kernel_rfl) ?_; apply Exists.intro; refine ⟨fun w' => ?_, ?_⟩; · go_simp; exact rfl
      refine reg_pure 22 rfl (by kernel_rfl) (by kernel_rfl) ?_; apply Exists.intro; refine ⟨fun w' => ?_, ?_⟩; · go_simp; exact rfl
      refine reg_pure 23 rfl (by kernel_rfl) (by kernel_rfl) ?_; apply Exists.intro; refine ⟨fun w' => ?_, ?_⟩; · go_simp; exact rfl
      refine reg_done (by kernel_rfl) (fun W5 hw5 => ?_) _
      have HE5 := hid (HE.out.trans hw5)
      clear HE hw5 HC
      go_simp
      rw [HQ.out]
      clear HQ Q2
      go_wp2_with fail
      go_ret
      exact ⟨by rw [HR.out]; first | rfl | (cases fi <;> cases sp <;> rfl), HE5.out⟩
    · have HR := hid (show s.turn sp = ((false == fi) == sp) by simp [Sd.turn, hz, hs, hfi])
      rw [hs] at hfacts
      have HC := hid hfacts
      clear h h0 h3 hz hs hfacts hfi
      go_enter Tryz.func53, Tryz.ntmps53
      go_wp2_with fail
      refine reg_begin 24 (by kernel_rfl) ?_
      refine reg_hide (fun Q2 HQ => ?_)
      generalize hW : World.drew _ = W
      have HE : Hid (Ext w W) := hid (by rw [← hW]; exact Ext.drew _)
      clear hW
      refine reg_pure 0 rfl (by kernel_rfl) (by kernel_rfl) ?_; apply Exists.intro; refine ⟨fun w' => ?_, ?_⟩; · go_simp; exact rfl
      refine reg_pure 1 rfl (by kernel_rfl) (by kernel_rfl) ?_; apply Exists.intro; refine ⟨fun w' => ?_, ?_⟩; · go_simp; exact rfl
      refine reg_pure 2 rfl (by kernel_rfl) (by kernel_rfl) ?_; apply Exists.intro; refine ⟨fun w' => ?_, ?_⟩; · go_simp; exact rfl
      refine reg_pure 3 rfl (by kernel_rfl) (by kernel_rfl) ?_; apply Exists.intro; refine ⟨fun w' => ?_, ?_⟩; · go_simp; exact rfl
      refine reg_quiet 4 rfl (by kernel_rfl) (by kernel_rfl) ?_; apply Exists.intro; refine ⟨fun w' hw' => ?_, ?_⟩; · have q0 := (HC.out w' (HE.out.trans hw')).1; go_simp; exact ⟨rfl, Ext.refl _⟩
      refine reg_pure 5 rfl (by kernel_rfl) (by kernel_rfl) ?_; apply Exists.intro; refine ⟨fun w' => ?_, ?_⟩; · go_simp; exact rfl
      refine reg_pure 6 rfl (by kernel_rfl) (by kernel_rfl) ?_; apply Exists.intro; refine ⟨fun w' => ?_, ?_⟩; · go_simp; exact rfl
      refine reg_pure 7 rfl (by kernel_rfl) (by kernel_rfl) ?_; apply Exists.intro; refine ⟨fun w' => ?_, ?_⟩; · go_simp; exact rfl
      refine reg_pure 8 rfl (by kernel_rfl) (by kernel_rfl) ?_; apply Exists.intro; refine ⟨fun w' => ?_, ?_⟩; · go_simp; exact rfl
      refine reg_pure 9 rfl (by kernel_rfl) (by kernel_rfl) ?_; apply Exists.intro; refine ⟨fun w' => ?_, ?_⟩; · go_simp; exact rfl
      refine reg_pure 10 rfl (by kernel_rfl) (by kernel_rfl) ?_; apply Exists.intro; refine ⟨fun w' => ?_, ?_⟩; · go_simp; exact rfl
      refine reg_quiet 11 rfl (by kernel_rfl) (by kernel_rfl) ?_; apply Exists.intro; refine ⟨fun w' hw' => ?_, ?_⟩; · have q0 := (HC.out w' (HE.out.trans hw')).2.1; go_simp; exact ⟨rfl, Ext.refl _⟩
      refine reg_pure 12 rfl (by kernel_rfl) (by kernel_rfl) ?_; apply Exists.intro; refine ⟨fun w' => ?_, ?_⟩; · go_simp; exact rfl
      refine reg_pure 13 rfl (by kernel_rfl) (by kernel_rfl) ?_; apply Exists.intro; refine ⟨fun w' => ?_, ?_⟩; · go_simp; exact rfl
      refine reg_pure 14 rfl (by kernel_rfl) (by kernel_rfl) ?_; apply Exists.intro; refine ⟨fun w' => ?_, ?_⟩; · go_simp; exact rfl
      refine reg_pure 15 rfl (by kernel_rfl) (by kernel_rfl) ?_; apply Exists.intro; refine ⟨fun w' => ?_, ?_⟩; · go_simp; exact rfl
      refine reg_pure 16 rfl (by kernel_rfl) (by kernel_rfl) ?_; apply Exists.intro; refine ⟨fun w' => ?_, ?_⟩; · go_simp; exact rfl
      refine reg_pure 17 rfl (by kernel_rfl) (by kernel_rfl) ?_; apply Exists.intro; refine ⟨fun w' => ?_, ?_⟩; · go_simp; exact rfl
      refine reg_quiet 18 rfl (by kernel_rfl) (by kernel_rfl) ?_; apply Exists.intro; refine ⟨fun w' hw' => ?_, ?_⟩; · have q0 := (HC.out w' (HE.out.trans hw')).2.2; go_simp; exact ⟨rfl, Ext.refl _⟩
      refine reg_pure 19 rfl (by kernel_rfl) (by kernel_rfl) ?_; apply Exists.intro; refine ⟨fun w' => ?_, ?_⟩; · go_simp; exact rfl
      refine reg_pure 20 rfl (by kernel_rfl) (by kernel_rfl) ?_; apply Exists.intro; refine ⟨fun w' => ?_, ?_⟩; · go_simp; exact rfl
      refine reg_pure 21 rfl (by kernel_rfl) (by kernel_rfl) ?_; apply Exists.intro; refine ⟨fun w' => ?_, ?_⟩; · go_simp; exact rfl
      refine reg_pure 22 rfl (by kernel_rfl) (by kernel_rfl) ?_; apply Exists.intro; refine ⟨fun w' => ?_, ?_⟩; · go_simp; exact rfl
      refine reg_pure 23 rfl (by kernel_rfl) (by kernel_rfl) ?_; apply Exists.intro; refine ⟨fun w' => ?_, ?_⟩; · go_simp; exact rfl
      refine reg_done (by kernel_rfl) (fun W5 hw5 => ?_) _
      have HE5 := hid (HE.out.trans hw5)
      clear HE hw5 HC
      go_simp
      rw [HQ.out]
      clear HQ Q2
      go_wp2_with fail
      go_ret
      exact ⟨by rw [HR.out]; first | rfl | (cases fi <;> cases sp <;> rfl), HE5.out⟩
    · have HR := hid (show s.turn sp = ((true == fi) == sp) by simp [Sd.turn, hz, hs, hfi])
      rw [hs] at hfacts
      have HC := hid hfacts
      clear h h0 h3 hz hs hfacts hfi
      go_enter Tryz.func53, Tryz.ntmps53
      go_wp2_with fail
      refine reg_begin 24 (by kernel_rfl) ?_
      refine reg_hide (fun Q2 HQ => ?_)
      generalize hW : World.drew _ = W
      have HE : Hid (Ext w W) := hid (by rw [← hW]; exact Ext.drew _)
      clear hW
      refine reg_pure 0 rfl (by kernel_rfl) (by kernel_rfl) ?_; apply Exists.intro; refine ⟨fun w' => ?_, ?_⟩; · go_simp; exact rfl
      refine reg_pure 1 rfl (by kernel_rfl) (by kernel_rfl) ?_; apply Exists.intro; refine ⟨fun w' => ?_, ?_⟩; · go_simp; exact rfl
      refine reg_pure 2 rfl (by kernel_rfl) (by kernel_rfl) ?_; apply Exists.intro; refine ⟨fun w' => ?_, ?_⟩; · go_simp; exact rfl
      refine reg_pure 3 rfl (by kernel_rfl) (by kernel_rfl) ?_; apply Exists.intro; refine ⟨fun w' => ?_, ?_⟩; · go_simp; exact rfl
      refine reg_quiet 4 rfl (by kernel_rfl) (by kernel_rfl) ?_; apply Exists.intro; refine ⟨fun w' hw' => ?_, ?_⟩; · have q0 := (HC.out w' (HE.out.trans hw')).1; go_simp; exact ⟨rfl, Ext.refl _⟩
      refine reg_pure 5 rfl (by kernel_rfl) (by kernel_rfl) ?_; apply Exists.intro; refine ⟨fun w' => ?_, ?_⟩; · go_simp; exact rfl
      refine reg_pure 6 rfl (by kernel_rfl) (by kernel_rfl) ?_; apply Exists.intro; refine ⟨fun w' => ?_, ?_⟩; · go_simp; exact rfl
      refine reg_pure 7 rfl (by kernel_rfl) (by kernel_rfl) ?_; apply Exists.intro; refine ⟨fun w' => ?_, ?_⟩; · go_simp; exact rfl
      refine reg_pure 8 rfl (by kernel_rfl) (by kernel_rfl) ?_; apply Exists.intro; refine ⟨fun w' => ?_, ?_⟩; · go_simp; exact rfl
      refine reg_pure 9 rfl (by kernel_rfl) (by kernel_rfl) ?_; apply Exists.intro; refine ⟨fun w' => ?_, ?_⟩; · go_simp; exact rfl
      refine reg_pure 10 rfl (by kernel_rfl) (by kernel_rfl) ?_; apply Exists.intro; refine ⟨fun w' => ?_, ?_⟩; · go_simp; exact rfl
      refine reg_quiet 11 rfl (by kernel_rfl) (by kernel_rfl) ?_; apply Exists.intro; refine ⟨fun w' hw' => ?_, ?_⟩; · have q0 := (HC.out w' (HE.out.trans hw')).2.1; go_simp; exact ⟨rfl, Ext.refl _⟩
      refine reg_pure 12 rfl (by kernel_rfl) (by kernel_rfl) ?_; apply Exists.intro; refine ⟨fun w' => ?_, ?_⟩; · go_simp; exact rfl
      refine reg_pure 13 rfl (by kernel_rfl) (by kernel_rfl) ?_; apply Exists.intro; refine ⟨fun w' => ?_, ?_⟩; · go_simp; exact rfl
      refine reg_pure 14 rfl (by kernel_rfl) (by kernel_rfl) ?_; apply Exists.intro; refine ⟨fun w' => ?_, ?_⟩; · go_simp; exact rfl
      refine reg_pure 15 rfl (by kernel_rfl) (by kernel_rfl) ?_; apply Exists.intro; refine ⟨fun w' => ?_, ?_⟩; · go_simp; exact rfl
      refine reg_pure 16 rfl (by kernel_rfl) (by kernel_rfl) ?_; apply Exists.intro; refine ⟨fun w' => ?_, ?_⟩; · go_simp; exact rfl
      refine reg_pure 17 rfl (by kernel_rfl) (by kernel_rfl) ?_; apply Exists.intro; refine ⟨fun w' => ?_, ?_⟩; · go_simp; exact rfl
      refine reg_quiet 18 rfl (by kernel_rfl) (by kernel_rfl) ?_; apply Exists.intro; refine ⟨fun w' hw' => ?_, ?_⟩; · have q0 := (HC.out w' (HE.out.trans hw')).2.2; go_simp; exact ⟨rfl, Ext.refl _⟩
      refine reg_pure 19 rfl (by kernel_rfl) (by kernel_rfl) ?_; apply Exists.intro; refine ⟨fun w' => ?_, ?_⟩; · go_simp; exact rfl
      refine reg_pure 20 rfl (by kernel_rfl) (by kernel_rfl) ?_; apply Exists.intro; refine ⟨fun w' => ?_, ?_⟩; · go_simp; exact rfl
      refine reg_pure 21 rfl (by kernel_rfl) (by kernel_rfl) ?_; apply Exists.intro; refine ⟨fun w' => ?_, ?_⟩; · go_simp; exact rfl
      refine reg_pure 22 rfl (by kernel_rfl) (by kernel_rfl) ?_; apply Exists.intro; refine ⟨fun w' => ?_, ?_⟩; · go_simp; exact rfl
      refine reg_pure 23 rfl (by kernel_rfl) (by kernel_rfl) ?_; apply Exists.intro; refine ⟨fun w' => ?_, ?_⟩; · go_simp; exact rfl
      refine reg_done (by kernel_rfl) (fun W5 hw5 => ?_) _
      have HE5 := hid (HE.out.trans hw5)
      clear HE hw5 HC
      go_simp
      rw [HQ.out]
      clear HQ Q2
      go_wp2_with fail
      go_ret
      exact ⟨by rw [HR.out]; first | rfl | (cases fi <;> cases sp <;> rfl), HE5.out⟩
    · have HR := hid (show s.turn sp = ((false == fi) == sp) by simp [Sd.turn, hz, hs, hfi])
      rw [hs] at hfacts
      have HC := hid hfacts
      clear h h0 h3 hz hs hfacts hfi
      go_enter Tryz.func53, Tryz.ntmps53
      go_wp2_with fail
      refine reg_begin 24 (by kernel_rfl) ?_
      refine reg_hide (fun Q2 HQ => ?_)
      generalize hW : World.drew _ = W
      have HE : Hid (Ext w W) := hid (by rw [← hW]; exact Ext.drew _)
      clear hW
      refine reg_pure 0 rfl (by kernel_rfl) (by kernel_rfl) ?_; apply Exists.intro; refine ⟨fun w' => ?_, ?_⟩; · go_simp; exact rfl
      refine reg_pure 1 rfl (by kernel_rfl) (by kernel_rfl) ?_; apply Exists.intro; refine ⟨fun w' => ?_, ?_⟩; · go_simp; exact rfl
      refine reg_pure 2 rfl (by kernel_rfl) (by kernel_rfl) ?_; apply Exists.intro; refine ⟨fun w' => ?_, ?_⟩; · go_simp; exact rfl
      refine reg_pure 3 rfl (by kernel_rfl) (by kernel_rfl) ?_; apply Exists.intro; refine ⟨fun w' => ?_, ?_⟩; · go_simp; exact rfl
      refine reg_quiet 4 rfl (by kernel_rfl) (by kernel_rfl) ?_; apply Exists.intro; refine ⟨fun w' hw' => ?_, ?_⟩; · have q0 := (HC.out w' (HE.out.trans hw')).1; go_simp; exact ⟨rfl, Ext.refl _⟩
      refine reg_pure 5 rfl (by kernel_rfl) (by kernel_rfl) ?_; apply Exists.intro; refine ⟨fun w' => ?_, ?_⟩; · go_simp; exact rfl
      refine reg_pure 6 rfl (by kernel_rfl) (by kernel_rfl) ?_; apply Exists.intro; refine ⟨fun w' => ?_, ?_⟩; · go_simp; exact rfl
      refine reg_pure 7 rfl (by kernel_rfl) (by kernel_rfl) ?_; apply Exists.intro; refine ⟨fun w' => ?_, ?_⟩; · go_simp; exact rfl
      refine reg_pure 8 rfl (by kernel_rfl) (by kernel_rfl) ?_; apply Exists.intro; refine ⟨fun w' => ?_, ?_⟩; · go_simp; exact rfl
      refine reg_pure 9 rfl (by kernel_rfl) (by kernel_rfl) ?_; apply Exists.intro; refine ⟨fun w' => ?_, ?_⟩; · go_simp; exact rfl
      refine reg_pure 10 rfl (by kernel_rfl) (by kernel_rfl) ?_; apply Exists.intro; refine ⟨fun w' => ?_, ?_⟩; · go_simp; exact rfl
      refine reg_quiet 11 rfl (by kernel_rfl) (by kernel_rfl) ?_; apply Exists.intro; refine ⟨fun w' hw' => ?_, ?_⟩; · have q0 := (HC.out w' (HE.out.trans hw')).2.1; go_simp; exact ⟨rfl, Ext.refl _⟩
      refine reg_pure 12 rfl (by kernel_rfl) (by kernel_rfl) ?_; apply Exists.intro; refine ⟨fun w' => ?_, ?_⟩; · go_simp; exact rfl
      refine reg_pure 13 rfl (by kernel_rfl) (by kernel_rfl) ?_; apply Exists.intro; refine ⟨fun w' => ?_, ?_⟩; · go_simp; exact rfl
      refine reg_pure 14 rfl (by kernel_rfl) (by kernel_rfl) ?_; apply Exists.intro; refine ⟨fun w' => ?_, ?_⟩; · go_simp; exact rfl
      refine reg_pure 15 rfl (by kernel_rfl) (by kernel_rfl) ?_; apply Exists.intro; refine ⟨fun w' => ?_, ?_⟩; · go_simp; exact rfl
      refine reg_pure 16 rfl (by kernel_rfl) (by kernel_rfl) ?_; apply Exists.intro; refine ⟨fun w' => ?_, ?_⟩; · go_simp; exact rfl
      refine reg_pure 17 rfl (by kernel_rfl) (by kernel_rfl) ?_; apply Exists.intro; refine ⟨fun w' => ?_, ?_⟩; · go_simp; exact rfl
      refine reg_quiet 18 rfl (by kernel_rfl) (by kernel_rfl) ?_; apply Exists.intro; refine ⟨fun w' hw' => ?_, ?_⟩; · have q0 := (HC.out w' (HE.out.trans hw')).2.2; go_simp; exact ⟨rfl, Ext.refl _⟩
      refine reg_pure 19 rfl (by kernel_rfl) (by kernel_rfl) ?_; apply Exists.intro; refine ⟨fun w' => ?_, ?_⟩; · go_simp; exact rfl
      refine reg_pure 20 rfl (by kernel_rfl) (by kernel_rfl) ?_; apply Exists.intro; refine ⟨fun w' => ?_, ?_⟩; · go_simp; exact rfl
      refine reg_pure 21 rfl (by kernel_rfl) (by kernel_rfl) ?_; apply Exists.intro; refine ⟨fun w' => ?_, ?_⟩; · go_simp; exact rfl
      refine reg_pure 22 rfl (by kernel_rfl) (by kernel_rfl) ?_; apply Exists.intro; refine ⟨fun w' => ?_, ?_⟩; · go_simp; exact rfl
      refine reg_pure 23 rfl (by kernel_rfl) (by kernel_rfl) ?_; apply Exists.intro; refine ⟨fun w' => ?_, ?_⟩; · go_simp; exact rfl
      refine reg_done (by kernel_rfl) (fun W5 hw5 => ?_) _
      have HE5 := hid (HE.out.trans hw5)
      clear HE hw5 HC
      go_simp
      rw [HQ.out]
      clear HQ Q2
      go_wp2_with fail
      go_ret
      exact ⟨by rw [HR.out]; first | rfl | (cases fi <;> cases sp <;> rfl), HE5.out⟩
  · have HR := hid (show s.turn sp = false by simp [Sd.turn, hz])
    have hz2 : (s.state == 0) = false := by simp [hz]
    have HC := hid (fun W (hW : Ext w W) => ((h.later hW).cell rfl : W.cell? ⟨b, 4, none⟩ = some (.int .i64 s.state)))
    clear h h0 h3 hfi
    go_enter Tryz.func53, Tryz.ntmps53
    go_wp2_with fail
    refine reg_begin 24 (by kernel_rfl) ?_
    refine reg_hide (fun Q2 HQ => ?_)
    generalize hW : World.drew _ = W
    have HE : Hid (Ext w W) := hid (by rw [← hW]; exact Ext.drew _)
    clear hW
    refine reg_pure 0 rfl (by kernel_rfl) (by kernel_rfl) ?_; apply Exists.intro; refine ⟨fun w' => ?_, ?_⟩; · go_simp; exact rfl
    refine reg_pure 1 rfl (by kernel_rfl) (by kernel_rfl) ?_; apply Exists.intro; refine ⟨fun w' => ?_, ?_⟩; · go_simp; exact rfl
    refine reg_pure 2 rfl (by kernel_rfl) (by kernel_rfl) ?_; apply Exists.intro; refine ⟨fun w' => ?_, ?_⟩; · go_simp; exact rfl
    refine reg_pure 3 rfl (by kernel_rfl) (by kernel_rfl) ?_; apply Exists.intro; refine ⟨fun w' => ?_, ?_⟩; · go_simp; exact rfl
    refine reg_quiet 4 rfl (by kernel_rfl) (by kernel_rfl) ?_; apply Exists.intro; refine ⟨fun w' hw' => ?_, ?_⟩; · have q0 := HC.out w' (HE.out.trans hw'); go_simp; exact ⟨rfl, Ext.refl _⟩
    refine reg_pure 5 rfl (by kernel_rfl) (by kernel_rfl) ?_; apply Exists.intro; refine ⟨fun w' => ?_, ?_⟩; · go_simp; exact rfl
    refine reg_pure 6 rfl (by kernel_rfl) (by kernel_rfl) ?_; apply Exists.intro; refine ⟨fun w' => ?_, ?_⟩; · go_simp; exact rfl
    refine reg_skip 7 rfl (by kernel_rfl) (by kernel_rfl) ?_
    refine reg_skip 8 rfl (by kernel_rfl) (by kernel_rfl) ?_
    refine reg_skip 9 rfl (by kernel_rfl) (by kernel_rfl) ?_
    refine reg_skip 10 rfl (by kernel_rfl) (by kernel_rfl) ?_
    refine reg_skip 11 rfl (by kernel_rfl) (by kernel_rfl) ?_
    refine reg_skip 12 rfl (by kernel_rfl) (by kernel_rfl) ?_
    refine reg_skip 13 rfl (by kernel_rfl) (by kernel_rfl) ?_
    refine reg_skip 14 rfl (by kernel_rfl) (by kernel_rfl) ?_
    refine reg_skip 15 rfl (by kernel_rfl) (by kernel_rfl) ?_
    refine reg_skip 16 rfl (by kernel_rfl) (by kernel_rfl) ?_
    refine reg_skip 17 rfl (by kernel_rfl) (by kernel_rfl) ?_
    refine reg_skip 18 rfl (by kernel_rfl) (by kernel_rfl) ?_
    refine reg_skip 19 rfl (by kernel_rfl) (by kernel_rfl) ?_
    refine reg_skip 20 rfl (by kernel_rfl) (by kernel_rfl) ?_
    refine reg_skip 21 rfl (by kernel_rfl) (by kernel_rfl) ?_
    refine reg_pure 22 rfl (by kernel_rfl) (by kernel_rfl) ?_; apply Exists.intro; refine ⟨fun w' => ?_, ?_⟩; · go_simp; exact rfl
    refine reg_pure 23 rfl (by kernel_rfl) (by kernel_rfl) ?_; apply Exists.intro; refine ⟨fun w' => ?_, ?_⟩; · go_simp; exact rfl
    refine reg_done (by kernel_rfl) (fun W5 hw5 => ?_) _
    have HE5 := hid (HE.out.trans hw5)
    clear HE hw5 HC
    go_simp
    rw [HQ.out]
    clear HQ Q2
    go_wp2_with fail
    go_ret
    exact ⟨by rw [HR.out]; rfl, HE5.out⟩

end Go.Proofs.YtjodmedgkmeklaaGreat

/-
  Is a term a Public? What a side seals.
-/
namespace Go.Proofs.YtjodmedgkmeklaaGreat
open Go Go.RowKit Go.Maps
attribute [local go_sem] extUpon run_store_tm
attribute [local go_sem ↓] Tm.val_cell eval_put_ne eval_put_none eval_put_same size_put eval_const
attribute [local go_sem ↓] meth_Atom meth_Public meth_Shared meth_Chain meth_Digest meth_Box meth_Empty
attribute [local go_sem ↓] run_build_chain run_build_digest run_build_box
attribute [local go_sem] ta_Atom_Atom ta_Public_Atom ta_Shared_Atom ta_Chain_Atom ta_Digest_Atom ta_Box_Atom ta_Empty_Atom ta_Nil_Atom ta_Atom_Public ta_Public_Public ta_Shared_Public ta_Chain_Public ta_Digest_Public ta_Box_Public ta_Empty_Public ta_Nil_Public ta_Atom_Shared ta_Public_Shared ta_Shared_Shared ta_Chain_Shared ta_Digest_Shared ta_Box_Shared ta_Empty_Shared ta_Nil_Shared ta_Atom_Chain ta_Public_Chain ta_Shared_Chain ta_Chain_Chain ta_Digest_Chain ta_Box_Chain ta_Empty_Chain ta_Nil_Chain ta_Atom_Digest ta_Public_Digest ta_Shared_Digest ta_Chain_Digest ta_Digest_Digest ta_Box_Digest ta_Empty_Digest ta_Nil_Digest ta_Atom_Box ta_Public_Box ta_Shared_Box ta_Chain_Box ta_Digest_Box ta_Box_Box ta_Empty_Box ta_Nil_Box ta_Atom_Empty ta_Public_Empty ta_Shared_Empty ta_Chain_Empty ta_Digest_Empty ta_Box_Empty ta_Empty_Empty ta_Nil_Empty
variable {w w2 : World} {b : Nat} {s : Sd} {vs va : Value}

set_option maxHeartbeats 2000000 in
set_option maxRecDepth 100000 in
theorem half_any (t : Tm) (w : World) : Calls Tryz.prog 69 #[t.val] w fun e w' => e = .returned (.bool t.isPub) ∧ Ext w w' := by
  cases t with
  | _ =>
    unfold Tm.val
    go_enter Tryz.func69, Tryz.ntmps69
    go_wp2
    go_ret
    exact ⟨rfl, by first | exact Ext.refl _ | exact Ext.alloc _ _⟩

set_option maxHeartbeats 2000000 in
set_option maxRecDepth 100000 in
theorem seal_any {t : Tm} {u : TypeId} {d : Value} (ht : Va t u d) (hh : s.hash ≠ .non) (hn0 : 0 ≤ s.n) (hn : s.n ≤ 100) (h : SdAt w b s vs va) :
    Calls Tryz.prog 64 #[ptr b, .iface u d] w fun e w' => e = .returned (s.seal t).2.val ∧ SdAt w' b (s.seal t).1 vs va ∧ Same w w' (OnlyB b) := by
  by_cases hk : s.key = .non
  · have hseal : s.seal t = (s.mix t, t) := by simp [Sd.seal, hk]
    rw [hseal]
    have c11 : w.cell? ⟨b, 11, none⟩ = some .nilIface := by
      have := h.cell (j := 11) rfl
      simpa [Sd.cells, hk, Tm.val] using this
    have HM := hid (mixHash_any ht hh h)
    have HT := hid ht
    clear h hh hn0 hn hseal ht
    go_enter Tryz.func64, Tryz.ntmps64
    go_wp2_with fail
    refine HM.out.mono ?_
    rintro e w1 ⟨⟨x, rfl⟩, h1, h2⟩
    have HP := hid (And.intro h1 h2)
    clear h1 h2 c11
    go_wp2_with fail
    go_ret
    exact ⟨by rw [← HT.out.eq]; rfl, HP.out⟩
  · have hseal : s.seal t = (({ s with n := s.n + 1 } : Sd).mix (.box s.key s.n s.hash t), .box s.key s.n s.hash t) := by simp [Sd.seal, hk]
    rw [hseal]
    obtain ⟨ku, kd, hkv⟩ := Va.of hk
    obtain ⟨hu, hd, hhv⟩ := Va.of hh
    have HC := hid (fun W (hW : Ext w W) => (⟨hkv.eq ▸ (h.later hW).cell rfl, (h.later hW).cell rfl, hhv.eq ▸ (h.later hW).cell rfl⟩ : W.cell? ⟨b, 11, none⟩ = some (.iface ku kd) ∧ W.cell? ⟨b, 12, none⟩ = some (.int .i64 s.n) ∧ W.cell? ⟨b, 6, none⟩ = some (.iface hu hd)))
    have HS := hid h
    have hbx : Va (.box s.key s.n s.hash t) 90 (.agg #[.iface ku kd, .int .i64 s.n, .iface hu hd, .iface u d]) := ⟨by simp [Tm.val, hkv.eq, hhv.eq, ht.eq]⟩
    have HM := hid (fun W (hW : SdAt W b ({ s with n := s.n + 1 } : Sd) vs va) => mixHash_any (s := ({ s with n := s.n + 1 } : Sd)) hbx hh hW)
    have HB := hid hbx
    have c11 := (HC.out w (Ext.refl w)).1
    clear h hseal ht hh hkv hhv hbx
    go_enter Tryz.func64, Tryz.ntmps64
    go_wp2_with fail
    clear c11
    refine reg_begin 17 (by kernel_rfl) ?_
    refine reg_hide (fun Q2 HQ => ?_)
    generalize hW : World.drew _ = W
    have HE : Hid (Ext w W) := hid (by rw [← hW]; exact Ext.drew _)
    clear hW
    refine reg_pure 0 rfl (by kernel_rfl) (by kernel_rfl) ?_; apply Exists.intro; refine ⟨fun w' => ?_, ?_⟩; · go_simp; exact rfl
    refine reg_pure 1 rfl (by kernel_rfl) (by kernel_rfl) ?_; apply Exists.intro; refine ⟨fun w' => ?_, ?_⟩; · go_simp; exact rfl
    refine reg_pure 2 rfl (by kernel_rfl) (by kernel_rfl) ?_; apply Exists.intro; refine ⟨fun w' => ?_, ?_⟩; · go_simp; exact rfl
    refine reg_quiet 3 rfl (by kernel_rfl) (by kernel_rfl) ?_; apply Exists.intro; refine ⟨fun w' hw' => ?_, ?_⟩; · have q0 := (HC.out w' (HE.out.trans hw')).1; go_simp; exact ⟨rfl, Ext.refl _⟩
    refine reg_pure 4 rfl (by kernel_rfl) (by kernel_rfl) ?_; apply Exists.intro; refine ⟨fun w' => ?_, ?_⟩; · go_simp; exact rfl
    refine reg_pure 5 rfl (by kernel_rfl) (by kernel_rfl) ?_; apply Exists.intro; refine ⟨fun w' => ?_, ?_⟩; · go_simp; exact rfl
    refine reg_pure 6 rfl (by kernel_rfl) (by kernel_rfl) ?_; apply Exists.intro; refine ⟨fun w' => ?_, ?_⟩; · go_simp; exact rfl
    refine reg_quiet 7 rfl (by kernel_rfl) (by kernel_rfl) ?_; apply Exists.intro; refine ⟨fun w' hw' => ?_, ?_⟩; · have q0 := (HC.out w' (HE.out.trans hw')).2.1; go_simp; exact ⟨rfl, Ext.refl _⟩
    refine reg_pure 8 rfl (by kernel_rfl) (by kernel_rfl) ?_; apply Exists.intro; refine ⟨fun w' => ?_, ?_⟩; · go_simp; exact rfl
    refine reg_pure 9 rfl (by kernel_rfl) (by kernel_rfl) ?_; apply Exists.intro; refine ⟨fun w' => ?_, ?_⟩; · go_simp; exact rfl
    refine reg_pure 10 rfl (by kernel_rfl) (by kernel_rfl) ?_; apply Exists.intro; refine ⟨fun w' => ?_, ?_⟩; · go_simp; exact rfl
    refine reg_pure 11 rfl (by kernel_rfl) (by kernel_rfl) ?_; apply Exists.intro; refine ⟨fun w' => ?_, ?_⟩; · go_simp; exact rfl
    refine reg_quiet 12 rfl (by kernel_rfl) (by kernel_rfl) ?_; apply Exists.intro; refine ⟨fun w' hw' => ?_, ?_⟩; · have q0 := (HC.out w' (HE.out.trans hw')).2.2; go_simp; exact ⟨rfl, Ext.refl _⟩
    refine reg_pure 13 rfl (by kernel_rfl) (by kernel_rfl) ?_; apply Exists.intro; refine ⟨fun w' => ?_, ?_⟩; · go_simp; exact rfl
    refine reg_pure 14 rfl (by kernel_rfl) (by kernel_rfl) ?_; apply Exists.intro; refine ⟨fun w' => ?_, ?_⟩; · go_simp; exact rfl
    refine reg_pure 15 rfl (by kernel_rfl) (by kernel_rfl) ?_; apply Exists.intro; refine ⟨fun w' => ?_, ?_⟩; · go_simp; exact rfl
    refine reg_pure 16 rfl (by kernel_rfl) (by kernel_rfl) ?_; apply Exists.intro; refine ⟨fun w' => ?_, ?_⟩; · go_simp; exact rfl
    refine reg_done (by kernel_rfl) (fun W5 hw5 => ?_) _
    have HE5 := hid (HE.out.trans hw5)
    clear HE hw5
    go_simp
    rw [HQ.out]
    clear HQ Q2
    have c12 := (HC.out W5 HE5.out).2.1
    have f12 := (HS.out.later HE5.out).free 12
    have h5 := (HS.out.later HE5.out).sets (s2 := { s with n := s.n + 1 }) (vs2 := vs) (va2 := va) 12 (.int .i64 (s.n + 1)) (by simp [Sd.cells])
    have H5 := hid h5
    clear h5 HC
    go_upto_region 4 with fail
    generalize World.setCell W5 _ _ = W6 at *
    clear c12 f12
    go_wp2_with fail
    refine (HM.out W6 H5.out.1).mono ?_
    rintro e w1 ⟨⟨x, rfl⟩, h1, h2⟩
    have HP := hid (And.intro h1 ((Same.of_ext HE5.out).trans (H5.out.2.trans h2)))
    clear h1 h2
    go_wp2_with fail
    go_ret
    exact ⟨by rw [HB.out.eq]; rfl, HP.out⟩

end Go.Proofs.YtjodmedgkmeklaaGreat
