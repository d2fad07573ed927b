/-
  Texts merged: Q2, Q3.
-/
import Derived.Test.YtjodmedgkmeklaaGreatJ09
/-
  What a side mixes (mixKey, seal, dh).
-/
namespace Go.Proofs.YtjodmedgkmeklaaGreat
open Go Go.RowKit Go.Maps
attribute [local go_sem] extUpon run_store_tm
attribute [local go_sem ↓] Tm.val_cell eval_put_ne eval_put_none eval_put_same size_put eval_const
attribute [local go_sem ↓] meth_Atom meth_Public meth_Shared meth_Chain meth_Digest meth_Box meth_Empty
attribute [local go_sem ↓] run_build_chain run_build_digest run_build_box
attribute [local go_sem] ta_Atom_Atom ta_Public_Atom ta_Shared_Atom ta_Chain_Atom ta_Digest_Atom ta_Box_Atom ta_Empty_Atom ta_Nil_Atom ta_Atom_Public ta_Public_Public ta_Shared_Public ta_Chain_Public ta_Digest_Public ta_Box_Public ta_Empty_Public ta_Nil_Public ta_Atom_Shared ta_Public_Shared ta_Shared_Shared ta_Chain_Shared ta_Digest_Shared ta_Box_Shared ta_Empty_Shared ta_Nil_Shared ta_Atom_Chain ta_Public_Chain ta_Shared_Chain ta_Chain_Chain ta_Digest_Chain ta_Box_Chain ta_Empty_Chain ta_Nil_Chain ta_Atom_Digest ta_Public_Digest ta_Shared_Digest ta_Chain_Digest ta_Digest_Digest ta_Box_Digest ta_Empty_Digest ta_Nil_Digest ta_Atom_Box ta_Public_Box ta_Shared_Box ta_Chain_Box ta_Digest_Box ta_Box_Box ta_Empty_Box ta_Nil_Box ta_Atom_Empty ta_Public_Empty ta_Shared_Empty ta_Chain_Empty ta_Digest_Empty ta_Box_Empty ta_Empty_Empty ta_Nil_Empty
variable {w w2 : World} {b : Nat} {s : Sd} {vs va : Value}
abbrev OnlyB (b : Nat) (k : Nat) : Prop := k ≠ b

set_option maxHeartbeats 1000000 in
set_option maxRecDepth 100000 in
theorem mixKey_any {t : Tm} {u : TypeId} {d : Value} (ht : Va t u d) (hh : s.chain ≠ .non) (h : SdAt w b s vs va) :
    Calls Tryz.prog 79 #[ptr b, .iface u d] w fun e w' => (∃ x, e = .returned x) ∧ SdAt w' b (s.mixKey t) vs va ∧ Same w w' (OnlyB b) := by
  obtain ⟨cu, cd, h10⟩ := Va.of hh
  have HS := hid h
  have H10 := hid h10
  have HT := hid ht
  have HC := hid (fun W (hW : Ext w W) => (h10.eq ▸ (h.later hW).cell (j := 10) rfl : W.cell? ⟨b, 10, none⟩ = some (.iface cu cd)))
  clear h h10 ht hh
  go_enter Tryz.func79, Tryz.ntmps79
  go_wp2_with fail
  refine reg_begin 19 (by kernel_rfl) ?_
  refine reg_hide (fun Q2 HQ => ?_)
  generalize hW : World.drew _ = W
  have HE : Hid (Ext w W) := hid (by rw [← hW]; exact Ext.drew _)
  clear hW
  refine reg_pure 1 rfl (by kernel_rfl) (by kernel_rfl) ?_; apply Exists.intro; refine ⟨fun w' => ?_, ?_⟩; · go_simp; exact rfl
  refine reg_pure 2 rfl (by kernel_rfl) (by kernel_rfl) ?_; apply Exists.intro; refine ⟨fun w' => ?_, ?_⟩; · go_simp; exact rfl
  refine reg_pure 0 rfl (by kernel_rfl) (by kernel_rfl) ?_; apply Exists.intro; refine ⟨fun w' => ?_, ?_⟩; · go_simp; exact rfl
  refine reg_pure 3 rfl (by kernel_rfl) (by kernel_rfl) ?_; apply Exists.intro; refine ⟨fun w' => ?_, ?_⟩; · go_simp; exact rfl
  refine reg_pure 4 rfl (by kernel_rfl) (by kernel_rfl) ?_; apply Exists.intro; refine ⟨fun w' => ?_, ?_⟩; · go_simp; exact rfl
  refine reg_pure 5 rfl (by kernel_rfl) (by kernel_rfl) ?_; apply Exists.intro; refine ⟨fun w' => ?_, ?_⟩; · go_simp; exact rfl
  refine reg_quiet 6 rfl (by kernel_rfl) (by kernel_rfl) ?_; apply Exists.intro; refine ⟨fun w' hw' => ?_, ?_⟩; · have q0 := HC.out w' (HE.out.trans hw'); go_simp; exact ⟨rfl, Ext.refl _⟩
  refine reg_pure 7 rfl (by kernel_rfl) (by kernel_rfl) ?_; apply Exists.intro; refine ⟨fun w' => ?_, ?_⟩; · go_simp; exact rfl
  refine reg_pure 8 rfl (by kernel_rfl) (by kernel_rfl) ?_; apply Exists.intro; refine ⟨fun w' => ?_, ?_⟩; · go_simp; exact rfl
  refine reg_pure 9 rfl (by kernel_rfl) (by kernel_rfl) ?_; apply Exists.intro; refine ⟨fun w' => ?_, ?_⟩; · go_simp; exact rfl
  refine reg_pure 10 rfl (by kernel_rfl) (by kernel_rfl) ?_; apply Exists.intro; refine ⟨fun w' => ?_, ?_⟩; · go_simp; exact rfl
  refine reg_pure 11 rfl (by kernel_rfl) (by kernel_rfl) ?_; apply Exists.intro; refine ⟨fun w' => ?_, ?_⟩; · go_simp; exact rfl
  refine reg_pure 12 rfl (by kernel_rfl) (by kernel_rfl) ?_; apply Exists.intro; refine ⟨fun w' => ?_, ?_⟩; · go_simp; exact rfl
  refine reg_quiet 13 rfl (by kernel_rfl) (by kernel_rfl) ?_; apply Exists.intro; refine ⟨fun w' hw' => ?_, ?_⟩; · have q0 := HC.out w' (HE.out.trans hw'); go_simp; exact ⟨rfl, Ext.refl _⟩
  refine reg_pure 14 rfl (by kernel_rfl) (by kernel_rfl) ?_; apply Exists.intro; refine ⟨fun w' => ?_, ?_⟩; · go_simp; exact rfl
  refine reg_pure 15 rfl (by kernel_rfl) (by kernel_rfl) ?_; apply Exists.intro; refine ⟨fun w' => ?_, ?_⟩; · go_simp; exact rfl
  refine reg_pure 16 rfl (by kernel_rfl) (by kernel_rfl) ?_; apply Exists.intro; refine ⟨fun w' => ?_, ?_⟩; · go_simp; exact rfl
  refine reg_pure 17 rfl (by kernel_rfl) (by kernel_rfl) ?_; apply Exists.intro; refine ⟨fun w' => ?_, ?_⟩; · go_simp; exact rfl
  refine reg_pure 18 rfl (by kernel_rfl) (by kernel_rfl) ?_; apply Exists.intro; refine ⟨fun w' => ?_, ?_⟩; · go_simp; exact rfl
  have HP : Hid (SdAt W b s vs va ∧ Same w W (OnlyB b)) := hid ⟨HS.out.later HE.out, Same.of_ext HE.out⟩
  clear HE
  refine reg_store 19 ⟨b, 11, none⟩ (.iface 86 (.agg #[.int .i64 2, .iface cu cd, .iface u d])) rfl (by kernel_rfl) (by kernel_rfl) rfl (by decide) (by go_simp) (by go_simp) (by kernel_rfl) rfl rfl (fun w' hw' => ?_) (fun w' hw' => ?_)
  · exact ⟨⟨_, (HP.out.1.later hw').cell rfl⟩, (HP.out.1.later hw').free 11⟩
  have hp1 := (HP.out.1.later hw').put (s2 := { s with key := .chain 2 s.chain t }) (vs2 := vs) (va2 := va) 11 (.iface 86 (.agg #[.int .i64 2, .iface cu cd, .iface u d])) (by simp [Sd.cells, Tm.val, H10.out.eq, HT.out.eq])
  have hp2 := (HP.out.2.trans (Same.of_ext hw')).trans ((same_set w' b 11 (.iface 86 (.agg #[.int .i64 2, .iface cu cd, .iface u d]))).mono (fun _ h => h))
  clear HP
  have HP := hid (And.intro hp1 hp2)
  clear hp1 hp2 hw'
  generalize World.setCell w' _ _ = W3 at *
  clear w'
  refine reg_pure 20 rfl (by kernel_rfl) (by kernel_rfl) ?_; apply Exists.intro; refine ⟨fun w' => ?_, ?_⟩; · go_simp; exact rfl
  refine reg_pure 21 rfl (by kernel_rfl) (by kernel_rfl) ?_; apply Exists.intro; refine ⟨fun w' => ?_, ?_⟩; · go_simp; exact rfl
  refine reg_store 22 ⟨b, 10, none⟩ (.iface 86 (.agg #[.int .i64 1, .iface cu cd, .iface u d])) rfl (by kernel_rfl) (by kernel_rfl) rfl (by decide) (by go_simp) (by go_simp) (by kernel_rfl) rfl rfl (fun w' hw' => ?_) (fun w' hw' => ?_)
  · exact ⟨⟨_, (HP.out.1.later hw').cell rfl⟩, (HP.out.1.later hw').free 10⟩
  have hp1 := (HP.out.1.later hw').put (s2 := { s with key := .chain 2 s.chain t, chain := .chain 1 s.chain t }) (vs2 := vs) (va2 := va) 10 (.iface 86 (.agg #[.int .i64 1, .iface cu cd, .iface u d])) (by simp [Sd.cells, Tm.val, H10.out.eq, HT.out.eq])
  have hp2 := (HP.out.2.trans (Same.of_ext hw')).trans ((same_set w' b 10 (.iface 86 (.agg #[.int .i64 1, .iface cu cd, .iface u d]))).mono (fun _ h => h))
  clear HP
  have HP := hid (And.intro hp1 hp2)
  clear hp1 hp2 hw'
  generalize World.setCell w' _ _ = W3 at *
  clear w'
  refine reg_pure 23 rfl (by kernel_rfl) (by kernel_rfl) ?_; apply Exists.intro; refine ⟨fun w' => ?_, ?_⟩; · go_simp; exact rfl
  refine reg_pure 24 rfl (by kernel_rfl) (by kernel_rfl) ?_; apply Exists.intro; refine ⟨fun w' => ?_, ?_⟩; · go_simp; exact rfl
  refine reg_store 25 ⟨b, 12, none⟩ (.int .i64 0) rfl (by kernel_rfl) (by kernel_rfl) rfl (by decide) (by go_simp) (by go_simp) (by kernel_rfl) rfl rfl (fun w' hw' => ?_) (fun w' hw' => ?_)
  · exact ⟨⟨_, (HP.out.1.later hw').cell rfl⟩, (HP.out.1.later hw').free 12⟩
  have hp1 := (HP.out.1.later hw').put (s2 := s.mixKey t) (vs2 := vs) (va2 := va) 12 (.int .i64 0) (by simp [Sd.cells, Sd.mixKey, Tm.val, H10.out.eq, HT.out.eq])
  have hp2 := (HP.out.2.trans (Same.of_ext hw')).trans ((same_set w' b 12 (.int .i64 0)).mono (fun _ h => h))
  clear HP
  have HP := hid (And.intro hp1 hp2)
  clear hp1 hp2 hw'
  generalize World.setCell w' _ _ = W3 at *
  clear w'
  refine reg_done (by kernel_rfl) (fun W5 hw5 => ?_) _
  have HP5 : Hid (SdAt W5 b (s.mixKey t) vs va ∧ Same w W5 (OnlyB b)) := hid ⟨HP.out.1.later hw5, HP.out.2.trans (Same.of_ext hw5)⟩
  clear HP hw5 HC HS H10 HT
  go_simp
  rw [HQ.out]
  clear HQ Q2
  go_wp2_with fail
  go_end0
  exact ⟨⟨_, rfl⟩, HP5.out⟩

def dhT (s : Int) : Tm → Tm
  | .pub p => .shared (min s p) (max s p)
  | _ => .non
def Tm.isPub : Tm → Bool
  | .pub _ => true
  | _ => false
set_option maxRecDepth 100000 in
theorem Dh_pub (s n : Int) (w : World) :
    Calls Tryz.prog 48 #[.int .i64 s, .iface 82 (.agg #[.int .i64 n])] w fun e w' => e = .returned (.tuple #[.iface 84 (.agg #[.int .i64 (min s n), .int .i64 (max s n)]), .bool true]) ∧ Ext w w' := by
  rcases Int.lt_trichotomy s n with hh | rfl | hh
  · have H1 := hid (Int.min_eq_left (Int.le_of_lt hh))
    have H2 := hid (Int.max_eq_right (Int.le_of_lt hh))
    go_enter Tryz.func48, Tryz.ntmps48
    go_wp2
    go_ret2
    exact ⟨by rw [H1.out, H2.out]; rfl, Ext.alloc _ _⟩
  · have H1 := hid (Int.min_self s)
    have H2 := hid (Int.max_self s)
    go_enter Tryz.func48, Tryz.ntmps48
    go_wp2
    go_ret2
    exact ⟨by rw [H1.out, H2.out]; rfl, Ext.alloc _ _⟩
  · have H1 := hid (Int.min_eq_right (Int.le_of_lt hh))
    have H2 := hid (Int.max_eq_left (Int.le_of_lt hh))
    go_enter Tryz.func48, Tryz.ntmps48
    go_wp2
    go_ret2
    exact ⟨by rw [H1.out, H2.out]; rfl, Ext.alloc _ _⟩
set_option maxHeartbeats 2000000 in
set_option maxRecDepth 100000 in
theorem Dh_any (s : Int) (t : Tm) (w : World) : Calls Tryz.prog 48 #[.int .i64 s, t.val] w fun e w' => e = .returned (.tuple #[(dhT s t).val, .bool t.isPub]) ∧ Ext w w' := by
  cases t with
  | pub n => exact Dh_pub s n w
  | _ =>
    unfold Tm.val
    go_enter Tryz.func48, Tryz.ntmps48
    go_wp2
    go_ret2
    exact ⟨rfl, by first | exact Ext.refl _ | exact Ext.alloc _ _⟩

set_option maxHeartbeats 1000000 in
set_option maxRecDepth 100000 in
theorem dh_any (sec : Int) (t : Tm) (hh : s.chain ≠ .non) (h : SdAt w b s vs va) :
    Calls Tryz.prog 75 #[ptr b, .int .i64 sec, t.val] w fun e w' => (∃ x, e = .returned x) ∧ SdAt w' b (s.dh sec t) vs va ∧ Same w w' (OnlyB b) := by
  have HD := hid (Dh_any sec t w)
  have HM := hid (fun n w' (he : Ext w w') => mixKey_any (t := .shared (min sec n) (max sec n)) ⟨rfl⟩ hh (h.later he))
  have HS := hid h
  clear h hh
  cases t with
  | pub n =>
    replace HD := hid (HD.out)
    simp only [dhT, Tm.isPub] at HD
    go_enter Tryz.func75, Tryz.ntmps75
    go_wp2_with fail
    refine HD.out.mono ?_
    rintro e w1 ⟨rfl, hE1⟩
    have HE1 := hid hE1
    clear hE1
    unfold Tm.val
    go_wp2_with fail
    refine (HM.out n w1 HE1.out).mono ?_
    rintro e w2 ⟨⟨x, rfl⟩, h1, h2⟩
    have HP := hid (And.intro h1 ((Same.of_ext HE1.out).trans h2))
    clear h1 h2
    go_wp2_with fail
    go_end0
    exact ⟨⟨_, rfl⟩, HP.out⟩
  | _ =>
    simp only [dhT, Tm.isPub] at HD
    go_enter Tryz.func75, Tryz.ntmps75
    go_wp2_with fail
    refine HD.out.mono ?_
    rintro e w1 ⟨rfl, hE1⟩
    have HP := hid (And.intro (HS.out.later hE1) (Same.of_ext (p := OnlyB b) hE1))
    clear hE1
    go_wp2_with fail
    go_end0
    exact ⟨⟨_, rfl⟩, HP.out⟩

end Go.Proofs.YtjodmedgkmeklaaGreat

/-
  What a side mixes: ee, es, se; its next step; whose turn it is.
-/
namespace Go.Proofs.YtjodmedgkmeklaaGreat
open Go Go.RowKit Go.Maps
attribute [local go_sem] extUpon run_store_tm
attribute [local go_sem ↓] Tm.val_cell eval_put_ne eval_put_none eval_put_same size_put eval_const
attribute [local go_sem ↓] meth_Atom meth_Public meth_Shared meth_Chain meth_Digest meth_Box meth_Empty
attribute [local go_sem ↓] run_build_chain run_build_digest run_build_box
attribute [local go_sem] ta_Atom_Atom ta_Public_Atom ta_Shared_Atom ta_Chain_Atom ta_Digest_Atom ta_Box_Atom ta_Empty_Atom ta_Nil_Atom ta_Atom_Public ta_Public_Public ta_Shared_Public ta_Chain_Public ta_Digest_Public ta_Box_Public ta_Empty_Public ta_Nil_Public ta_Atom_Shared ta_Public_Shared ta_Shared_Shared ta_Chain_Shared ta_Digest_Shared ta_Box_Shared ta_Empty_Shared ta_Nil_Shared ta_Atom_Chain ta_Public_Chain ta_Shared_Chain ta_Chain_Chain ta_Digest_Chain ta_Box_Chain ta_Empty_Chain ta_Nil_Chain ta_Atom_Digest ta_Public_Digest ta_Shared_Digest ta_Chain_Digest ta_Digest_Digest ta_Box_Digest ta_Empty_Digest ta_Nil_Digest ta_Atom_Box ta_Public_Box ta_Shared_Box ta_Chain_Box ta_Digest_Box ta_Box_Box ta_Empty_Box ta_Nil_Box ta_Atom_Empty ta_Public_Empty ta_Shared_Empty ta_Chain_Empty ta_Digest_Empty ta_Box_Empty ta_Empty_Empty ta_Nil_Empty
variable {w w2 : World} {b : Nat} {s : Sd} {vs va : Value}

set_option maxHeartbeats 1000000 in
set_option maxRecDepth 100000 in
theorem ee_any (hh : s.chain ≠ .non) (h : SdAt w b s vs va) :
    Calls Tryz.prog 65 #[ptr b] w fun e w' => (∃ x, e = .returned x) ∧ SdAt w' b s.ee vs va ∧ Same w w' (OnlyB b) := by
  have HC := hid (fun W (hW : Ext w W) => (⟨(h.later hW).cell rfl, (h.later hW).cell rfl⟩ : W.cell? ⟨b, 2, none⟩ = some (.int .i64 s.fresh) ∧ W.cell? ⟨b, 13, none⟩ = some s.theirs.val))
  have HD := hid (fun W (hW : Ext w W) => dh_any s.fresh s.theirs hh (h.later hW))
  clear h hh
  go_enter Tryz.func65, Tryz.ntmps65
  go_wp2_with fail
  refine reg_begin 10 (by kernel_rfl) ?_
  refine reg_hide (fun Q2 HQ => ?_)
  generalize hW : World.drew _ = W
  have HE : Hid (Ext w W) := hid (by rw [← hW]; exact Ext.drew _)
  clear hW
  refine reg_pure 0 rfl (by kernel_rfl) (by kernel_rfl) ?_; apply Exists.intro; refine ⟨fun w' => ?_, ?_⟩; · go_simp; exact rfl
  refine reg_pure 1 rfl (by kernel_rfl) (by kernel_rfl) ?_; apply Exists.intro; refine ⟨fun w' => ?_, ?_⟩; · go_simp; exact rfl
  refine reg_pure 2 rfl (by kernel_rfl) (by kernel_rfl) ?_; apply Exists.intro; refine ⟨fun w' => ?_, ?_⟩; · go_simp; exact rfl
  refine reg_pure 3 rfl (by kernel_rfl) (by kernel_rfl) ?_; apply Exists.intro; refine ⟨fun w' => ?_, ?_⟩; · go_simp; exact rfl
  refine reg_pure 4 rfl (by kernel_rfl) (by kernel_rfl) ?_; apply Exists.intro; refine ⟨fun w' => ?_, ?_⟩; · go_simp; exact rfl
  refine reg_quiet 5 rfl (by kernel_rfl) (by kernel_rfl) ?_; apply Exists.intro; refine ⟨fun w' hw' => ?_, ?_⟩; · have q0 := (HC.out w' (HE.out.trans hw')).1; go_simp; exact ⟨rfl, Ext.refl _⟩
  refine reg_pure 6 rfl (by kernel_rfl) (by kernel_rfl) ?_; apply Exists.intro; refine ⟨fun w' => ?_, ?_⟩; · go_simp; exact rfl
  refine reg_pure 7 rfl (by kernel_rfl) (by kernel_rfl) ?_; apply Exists.intro; refine ⟨fun w' => ?_, ?_⟩; · go_simp; exact rfl
  refine reg_pure 8 rfl (by kernel_rfl) (by kernel_rfl) ?_; apply Exists.intro; refine ⟨fun w' => ?_, ?_⟩; · go_simp; exact rfl
  refine reg_quiet 9 rfl (by kernel_rfl) (by kernel_rfl) ?_; apply Exists.intro; refine ⟨fun w' hw' => ?_, ?_⟩; · have q0 := (HC.out w' (HE.out.trans hw')).2; go_simp; exact ⟨rfl, Ext.refl _⟩
  refine reg_one 10 rfl (by kernel_rfl) (by kernel_rfl) (fun w' hw' => ?_)
  go_simp
  refine (HD.out w' (HE.out.trans hw')).mono ?_
  rintro e w2 ⟨⟨x, rfl⟩, h1, h2⟩
  have HP := hid (And.intro h1 ((Same.of_ext (HE.out.trans hw')).trans h2))
  clear h1 h2 hw'
  go_simp
  refine reg_done (by kernel_rfl) (fun W5 hw5 => ?_) _
  have HP5 := hid (And.intro (HP.out.1.later hw5) (HP.out.2.trans (Same.of_ext hw5)))
  clear HP hw5
  go_simp
  rw [HQ.out]
  clear HQ Q2
  go_wp2_with fail
  go_end0
  exact ⟨⟨_, rfl⟩, HP5.out⟩

set_option maxHeartbeats 1000000 in
set_option maxRecDepth 100000 in
theorem es_any (hh : s.chain ≠ .non) (h : SdAt w b s vs va) :
    Calls Tryz.prog 66 #[ptr b] w fun e w' => (∃ x, e = .returned x) ∧ SdAt w' b (Sd.es s) vs va ∧ Same w w' (OnlyB b) := by
  have c0 : w.cell? ⟨b, 0, none⟩ = some (.bool s.first) := h.cell rfl
  cases hf : s.first
  · have HD := hid (fun W (hW : Ext w W) => dh_any s.static s.theirs hh (h.later hW))
    have HC := hid (fun W (hW : Ext w W) => (⟨(h.later hW).cell rfl, (h.later hW).cell rfl⟩ : W.cell? ⟨b, 1, none⟩ = some (.int .i64 s.static) ∧ W.cell? ⟨b, 13, none⟩ = some s.theirs.val))
    have he : Sd.es s = s.dh s.static s.theirs := by simp [Sd.es, hf]
    rw [he]
    rw [hf] at c0
    clear h hh he
    go_enter Tryz.func66, Tryz.ntmps66
    go_wp2_with fail
    clear c0
    refine reg_begin 10 (by kernel_rfl) ?_
    refine reg_hide (fun Q2 HQ => ?_)
    generalize hW : World.drew _ = W
    have HE : Hid (Ext w W) := hid (by rw [← hW]; exact Ext.drew _)
    clear hW
    refine reg_pure 0 rfl (by kernel_rfl) (by kernel_rfl) ?_; apply Exists.intro; refine ⟨fun w' => ?_, ?_⟩; · go_simp; exact rfl
    refine reg_pure 1 rfl (by kernel_rfl) (by kernel_rfl) ?_; apply Exists.intro; refine ⟨fun w' => ?_, ?_⟩; · go_simp; exact rfl
    refine reg_pure 2 rfl (by kernel_rfl) (by kernel_rfl) ?_; apply Exists.intro; refine ⟨fun w' => ?_, ?_⟩; · go_simp; exact rfl
    refine reg_pure 3 rfl (by kernel_rfl) (by kernel_rfl) ?_; apply Exists.intro; refine ⟨fun w' => ?_, ?_⟩; · go_simp; exact rfl
    refine reg_pure 4 rfl (by kernel_rfl) (by kernel_rfl) ?_; apply Exists.intro; refine ⟨fun w' => ?_, ?_⟩; · go_simp; exact rfl
    refine reg_quiet 5 rfl (by kernel_rfl) (by kernel_rfl) ?_; apply Exists.intro; refine ⟨fun w' hw' => ?_, ?_⟩; · have q0 := (HC.out w' (HE.out.trans hw')).1; go_simp; exact ⟨rfl, Ext.refl _⟩
    refine reg_pure 6 rfl (by kernel_rfl) (by kernel_rfl) ?_; apply Exists.intro; refine ⟨fun w' => ?_, ?_⟩; · go_simp; exact rfl
    refine reg_pure 7 rfl (by kernel_rfl) (by kernel_rfl) ?_; apply Exists.intro; refine ⟨fun w' => ?_, ?_⟩; · go_simp; exact rfl
    refine reg_pure 8 rfl (by kernel_rfl) (by kernel_rfl) ?_; apply Exists.intro; refine ⟨fun w' => ?_, ?_⟩; · go_simp; exact rfl
    refine reg_quiet 9 rfl (by kernel_rfl) (by kernel_rfl) ?_; apply Exists.intro; refine ⟨fun w' hw' => ?_, ?_⟩; · have q0 := (HC.out w' (HE.out.trans hw')).2; go_simp; exact ⟨rfl, Ext.refl _⟩
    refine reg_one 10 rfl (by kernel_rfl) (by kernel_rfl) (fun w' hw' => ?_)
    go_simp
    refine (HD.out w' (HE.out.trans hw')).mono ?_
    rintro e w2 ⟨⟨x, rfl⟩, h1, h2⟩
    have HP := hid (And.intro h1 ((Same.of_ext (HE.out.trans hw')).trans h2))
    clear h1 h2 hw'
    go_simp
    refine reg_done (by kernel_rfl) (fun W5 hw5 => ?_) _
    have HP5 := hid (And.intro (HP.out.1.later hw5) (HP.out.2.trans (Same.of_ext hw5)))
    clear HP hw5
    go_simp
    rw [HQ.out]
    clear HQ Q2
    go_wp2_with fail
    go_end0
    exact ⟨⟨_, rfl⟩, HP5.out⟩
  · have HD := hid (fun W (hW : Ext w W) => dh_any s.fresh s.peer hh (h.later hW))
    have HC := hid (fun W (hW : Ext w W) => (⟨(h.later hW).cell rfl, (h.later hW).cell rfl⟩ : W.cell? ⟨b, 2, none⟩ = some (.int .i64 s.fresh) ∧ W.cell? ⟨b, 14, none⟩ = some s.peer.val))
    have he : Sd.es s = s.dh s.fresh s.peer := by simp [Sd.es, hf]
    rw [he]
    rw [hf] at c0
    clear h hh he
    go_enter Tryz.func66, Tryz.ntmps66
    go_wp2_with fail
    clear c0
    refine reg_begin 10 (by kernel_rfl) ?_
    refine reg_hide (fun Q2 HQ => ?_)
    generalize hW : World.drew _ = W
    have HE : Hid (Ext w W) := hid (by rw [← hW]; exact Ext.drew _)
    clear hW
    refine reg_pure 0 rfl (by kernel_rfl) (by kernel_rfl) ?_; apply Exists.intro; refine ⟨fun w' => ?_, ?_⟩; · go_simp; exact rfl
    refine reg_pure 1 rfl (by kernel_rfl) (by kernel_rfl) ?_; apply Exists.intro; refine ⟨fun w' => ?_, ?_⟩; · go_simp; exact rfl
    refine reg_pure 2 rfl (by kernel_rfl) (by kernel_rfl) ?_; apply Exists.intro; refine ⟨fun w' => ?_, ?_⟩; · go_simp; exact rfl
    refine reg_pure 3 rfl (by kernel_rfl) (by kernel_rfl) ?_; apply Exists.intro; refine ⟨fun w' => ?_, ?_⟩; · go_simp; exact rfl
    refine reg_pure 4 rfl (by kernel_rfl) (by kernel_rfl) ?_; apply Exists.intro; refine ⟨fun w' => ?_, ?_⟩; · go_simp; exact rfl
    refine reg_quiet 5 rfl (by kernel_rfl) (by kernel_rfl) ?_; apply Exists.intro; refine ⟨fun w' hw' => ?_, ?_⟩; · have q0 := (HC.out w' (HE.out.trans hw')).1; go_simp; exact ⟨rfl, Ext.refl _⟩
    refine reg_pure 6 rfl (by kernel_rfl) (by kernel_rfl) ?_; apply Exists.intro; refine ⟨fun w' => ?_, ?_⟩; · go_simp; exact rfl
    refine reg_pure 7 rfl (by kernel_rfl) (by kernel_rfl) ?_; apply Exists.intro; refine ⟨fun w' => ?_, ?_⟩; · go_simp; exact rfl
    refine reg_pure 8 rfl (by kernel_rfl) (by kernel_rfl) ?_; apply Exists.intro; refine ⟨fun w' => ?_, ?_⟩; · go_simp; exact rfl
    refine reg_quiet 9 rfl (by kernel_rfl) (by kernel_rfl) ?_; apply Exists.intro; refine ⟨fun w' hw' => ?_, ?_⟩; · have q0 := (HC.out w' (HE.out.trans hw')).2; go_simp; exact ⟨rfl, Ext.refl _⟩
    refine reg_one 10 rfl (by kernel_rfl) (by kernel_rfl) (fun w' hw' => ?_)
    go_simp
    refine (HD.out w' (HE.out.trans hw')).mono ?_
    rintro e w2 ⟨⟨x, rfl⟩, h1, h2⟩
    have HP := hid (And.intro h1 ((Same.of_ext (HE.out.trans hw')).trans h2))
    clear h1 h2 hw'
    go_simp
    refine reg_done (by kernel_rfl) (fun W5 hw5 => ?_) _
    have HP5 := hid (And.intro (HP.out.1.later hw5) (HP.out.2.trans (Same.of_ext hw5)))
    clear HP hw5
    go_simp
    rw [HQ.out]
    clear HQ Q2
    go_wp2_with fail
    go_end0
    exact ⟨⟨_, rfl⟩, HP5.out⟩
set_option maxHeartbeats 1000000 in
set_option maxRecDepth 100000 in
theorem se_any (hh : s.chain ≠ .non) (h : SdAt w b s vs va) :
    Calls Tryz.prog 67 #[ptr b] w fun e w' => (∃ x, e = .returned x) ∧ SdAt w' b (Sd.se s) vs va ∧ Same w w' (OnlyB b) := by
  have c0 : w.cell? ⟨b, 0, none⟩ = some (.bool s.first) := h.cell rfl
  cases hf : s.first
  · have HD := hid (fun W (hW : Ext w W) => dh_any s.fresh s.peer hh (h.later hW))
    have HC := hid (fun W (hW : Ext w W) => (⟨(h.later hW).cell rfl, (h.later hW).cell rfl⟩ : W.cell? ⟨b, 2, none⟩ = some (.int .i64 s.fresh) ∧ W.cell? ⟨b, 14, none⟩ = some s.peer.val))
    have he : Sd.se s = s.dh s.fresh s.peer := by simp [Sd.se, hf]
    rw [he]
    rw [hf] at c0
    clear h hh he
    go_enter Tryz.func67, Tryz.ntmps67
    go_wp2_with fail
    clear c0
    refine reg_begin 10 (by kernel_rfl) ?_
    refine reg_hide (fun Q2 HQ => ?_)
    generalize hW : World.drew _ = W
    have HE : Hid (Ext w W) := hid (by rw [← hW]; exact Ext.drew _)
    clear hW
    refine reg_pure 0 rfl (by kernel_rfl) (by kernel_rfl) ?_; apply Exists.intro; refine ⟨fun w' => ?_, ?_⟩; · go_simp; exact rfl
    refine reg_pure 1 rfl (by kernel_rfl) (by kernel_rfl) ?_; apply Exists.intro; refine ⟨fun w' => ?_, ?_⟩; · go_simp; exact rfl
    refine reg_pure 2 rfl (by kernel_rfl) (by kernel_rfl) ?_; apply Exists.intro; refine ⟨fun w' => ?_, ?_⟩; · go_simp; exact rfl
    refine reg_pure 3 rfl (by kernel_rfl) (by kernel_rfl) ?_; apply Exists.intro; refine ⟨fun w' => ?_, ?_⟩; · go_simp; exact rfl
    refine reg_pure 4 rfl (by kernel_rfl) (by kernel_rfl) ?_; apply Exists.intro; refine ⟨fun w' => ?_, ?_⟩; · go_simp; exact rfl
    refine reg_quiet 5 rfl (by kernel_rfl) (by kernel_rfl) ?_; apply Exists.intro; refine ⟨fun w' hw' => ?_, ?_⟩; · have q0 := (HC.out w' (HE.out.trans hw')).1; go_simp; exact ⟨rfl, Ext.refl _⟩
    refine reg_pure 6 rfl (by kernel_rfl) (by kernel_rfl) ?_; apply Exists.intro; refine ⟨fun w' => ?_, ?_⟩; · go_simp; exact rfl
    refine reg_pure 7 rfl (by kernel_rfl) (by kernel_rfl) ?_; apply Exists.intro; refine ⟨fun w' => ?_, ?_⟩; · go_simp; exact rfl
    refine reg_pure 8 rfl (by kernel_rfl) (by kernel_rfl) ?_; apply Exists.intro; refine ⟨fun w' => ?_, ?_⟩; · go_simp; exact rfl
    refine reg_quiet 9 rfl (by kernel_rfl) (by kernel_rfl) ?_; apply Exists.intro; refine ⟨fun w' hw' => ?_, ?_⟩; · have q0 := (HC.out w' (HE.out.trans hw')).2; go_simp; exact ⟨rfl, Ext.refl _⟩
    refine reg_one 10 rfl (by kernel_rfl) (by kernel_rfl) (fun w' hw' => ?_)
    go_simp
    refine (HD.out w' (HE.out.trans hw')).mono ?_
    rintro e w2 ⟨⟨x, rfl⟩, h1, h2⟩
    have HP := hid (And.intro h1 ((Same.of_ext (HE.out.trans hw')).trans h2))
    clear h1 h2 hw'
    go_simp
    refine reg_done (by kernel_rfl) (fun W5 hw5 => ?_) _
    have HP5 := hid (And.intro (HP.out.1.later hw5) (HP.out.2.trans (Same.of_ext hw5)))
    clear HP hw5
    go_simp
    rw [HQ.out]
    clear HQ Q2
    go_wp2_with fail
    go_end0
    exact ⟨⟨_, rfl⟩, HP5.out⟩
  · have HD := hid (fun W (hW : Ext w W) => dh_any s.static s.theirs hh (h.later hW))
    have HC := hid (fun W (hW : Ext w W) => (⟨(h.later hW).cell rfl, (h.later hW).cell rfl⟩ : W.cell? ⟨b, 1, none⟩ = some (.int .i64 s.static) ∧ W.cell? ⟨b, 13, none⟩ = some s.theirs.val))
    have he : Sd.se s = s.dh s.static s.theirs := by simp [Sd.se, hf]
    rw [he]
    rw [hf] at c0
    clear h hh he
    go_enter Tryz.func67, Tryz.ntmps67
    go_wp2_with fail
    clear c0
    refine reg_begin 10 (by kernel_rfl) ?_
    refine reg_hide (fun Q2 HQ => ?_)
    generalize hW : World.drew _ = W
    have HE : Hid (Ext w W) := hid (by rw [← hW]; exact Ext.drew _)
    clear hW
    refine reg_pure 0 rfl (by kernel_rfl) (by kernel_rfl) ?_; apply Exists.intro; refine ⟨fun w' => ?_, ?_⟩; · go_simp; exact rfl
    refine reg_pure 1 rfl (by kernel_rfl) (by kernel_rfl) ?_; apply Exists.intro; refine ⟨fun w' => ?_, ?_⟩; · go_simp; exact rfl
    refine reg_pure 2 rfl (by kernel_rfl) (by kernel_rfl) ?_; apply Exists.intro; refine ⟨fun w' => ?_, ?_⟩; · go_simp; exact rfl
    refine reg_pure 3 rfl (by kernel_rfl) (by kernel_rfl) ?_; apply Exists.intro; refine ⟨fun w' => ?_, ?_⟩; · go_simp; exact rfl
    refine reg_pure 4 rfl (by kernel_rfl) (by kernel_rfl) ?_; apply Exists.intro; refine ⟨fun w' => ?_, ?_⟩; · go_simp; exact rfl
    refine reg_quiet 5 rfl (by kernel_rfl) (by kernel_rfl) ?_; apply Exists.intro; refine ⟨fun w' hw' => ?_, ?_⟩; · have q0 := (HC.out w' (HE.out.trans hw')).1; go_simp; exact ⟨rfl, Ext.refl _⟩
    refine reg_pure 6 rfl (by kernel_rfl) (by kernel_rfl) ?_; apply Exists.intro; refine ⟨fun w' => ?_, ?_⟩; · go_simp; exact rfl
    refine reg_pure 7 rfl (by kernel_rfl) (by kernel_rfl) ?_; apply Exists.intro; refine ⟨fun w' => ?_, ?_⟩; · go_simp; exact rfl
    refine reg_pure 8 rfl (by kernel_rfl) (by kernel_rfl) ?_; apply Exists.intro; refine ⟨fun w' => ?_, ?_⟩; · go_simp; exact rfl
    refine reg_quiet 9 rfl (by kernel_rfl) (by kernel_rfl) ?_; apply Exists.intro; refine ⟨fun w' hw' => ?_, ?_⟩; · have q0 := (HC.out w' (HE.out.trans hw')).2; go_simp; exact ⟨rfl, Ext.refl _⟩
    refine reg_one 10 rfl (by kernel_rfl) (by kernel_rfl) (fun w' hw' => ?_)
    go_simp
    refine (HD.out w' (HE.out.trans hw')).mono ?_
    rintro e w2 ⟨⟨x, rfl⟩, h1, h2⟩
    have HP := hid (And.intro h1 ((Same.of_ext (HE.out.trans hw')).trans h2))
    clear h1 h2 hw'
    go_simp
    refine reg_done (by kernel_rfl) (fun W5 hw5 => ?_) _
    have HP5 := hid (And.intro (HP.out.1.later hw5) (HP.out.2.trans (Same.of_ext hw5)))
    clear HP hw5
    go_simp
    rw [HQ.out]
    clear HQ Q2
    go_wp2_with fail
    go_end0
    exact ⟨⟨_, rfl⟩, HP5.out⟩

set_option maxHeartbeats 2000000 in
set_option maxRecDepth 100000 in
theorem next_any (hh : s.hash ≠ .non) (h0 : 0 ≤ s.step) (h3 : s.step ≤ 2) (h : SdAt w b s vs va) :
    Calls Tryz.prog 68 #[ptr b] w fun e w' => (∃ x, e = .returned x) ∧ SdAt w' b s.next vs va ∧ Same w w' (OnlyB b) := by
  obtain ⟨hu, hd, h6⟩ := Va.of hh
  have c3 : w.cell? ⟨b, 3, none⟩ = some (.int .i64 s.step) := h.cell rfl
  have f3 := h.free 3
  have f7 := h.free 7
  have f4 := h.free 4
  have c6 : w.cell? ⟨b, 6, none⟩ = some (.iface hu hd) := h6.eq ▸ h.cell rfl
  have c4 : w.cell? ⟨b, 4, none⟩ = some (.int .i64 s.state) := h.cell rfl
  obtain ⟨m, hm⟩ : ∃ m, s.mid.val = m := ⟨_, rfl⟩
  have c7 : w.cell? ⟨b, 7, none⟩ = some m := hm ▸ h.cell rfl
  have HS := hid h
  have H6 := hid h6
  rcases (show s.step = 0 ∨ s.step = 1 ∨ s.step = 2 by omega) with hs | hs | hs
  · rw [hs] at c3
    have HP := hid (h.sets (s2 := s.next) (vs2 := vs) (va2 := va) 3 (.int .i64 1) (by simp [Sd.cells, Sd.next, hs]))
    clear h h6 hh h0 h3 hs HS
    go_enter Tryz.func68, Tryz.ntmps68
    go_wp2_with fail
    go_end0
    exact ⟨⟨_, rfl⟩, HP.out⟩
  · rw [hs] at c3
    have h5 := h.sets (s2 := { s with step := 2 }) (vs2 := vs) (va2 := va) 3 (.int .i64 2) (by simp [Sd.cells])
    have h7 := h5.1.sets (s2 := s.next) (vs2 := vs) (va2 := va) 7 (.iface hu hd) (by simp [Sd.cells, Sd.next, hs, h6.eq])
    have HP := hid (And.intro h7.1 (h5.2.trans h7.2))
    have f7b := h5.1.free 7
    clear h h6 hh h0 h3 hs HS h5 h7
    go_enter Tryz.func68, Tryz.ntmps68
    go_wp2_with fail
    go_end0
    exact ⟨⟨_, rfl⟩, HP.out⟩
  · rw [hs] at c3
    have h5 := h.sets (s2 := { s with step := 3 }) (vs2 := vs) (va2 := va) 3 (.int .i64 3) (by simp [Sd.cells])
    have h7 := h5.1.sets (s2 := s.next) (vs2 := vs) (va2 := va) 4 (.int .i64 1) (by simp [Sd.cells, Sd.next, hs])
    have HP := hid (And.intro h7.1 (h5.2.trans h7.2))
    have f4b := h5.1.free 4
    clear h h6 hh h0 h3 hs HS h5 h7
    go_enter Tryz.func68, Tryz.ntmps68
    go_wp2_with fail
    go_end0
    exact ⟨⟨_, rfl⟩, HP.out⟩

end Go.Proofs.YtjodmedgkmeklaaGreat
