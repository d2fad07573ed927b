/-
  Texts merged: Q6.
-/
import Derived.Test.YtjodmedgkmeklaaGreatJ11
/-
  What a side opens.
-/
namespace Go.Proofs.YtjodmedgkmeklaaGreat
open Go Go.RowKit Go.Maps
attribute [local go_sem] extUpon run_store_tm
attribute [local go_sem ↓] Tm.val_cell eval_put_ne eval_put_none eval_put_same size_put eval_const
attribute [local go_sem ↓] meth_Atom meth_Public meth_Shared meth_Chain meth_Digest meth_Box meth_Empty
attribute [local go_sem ↓] run_build_chain run_build_digest run_build_box
attribute [local go_sem] ta_Atom_Atom ta_Public_Atom ta_Shared_Atom ta_Chain_Atom ta_Digest_Atom ta_Box_Atom ta_Empty_Atom ta_Nil_Atom ta_Atom_Public ta_Public_Public ta_Shared_Public ta_Chain_Public ta_Digest_Public ta_Box_Public ta_Empty_Public ta_Nil_Public ta_Atom_Shared ta_Public_Shared ta_Shared_Shared ta_Chain_Shared ta_Digest_Shared ta_Box_Shared ta_Empty_Shared ta_Nil_Shared ta_Atom_Chain ta_Public_Chain ta_Shared_Chain ta_Chain_Chain ta_Digest_Chain ta_Box_Chain ta_Empty_Chain ta_Nil_Chain ta_Atom_Digest ta_Public_Digest ta_Shared_Digest ta_Chain_Digest ta_Digest_Digest ta_Box_Digest ta_Empty_Digest ta_Nil_Digest ta_Atom_Box ta_Public_Box ta_Shared_Box ta_Chain_Box ta_Digest_Box ta_Box_Box ta_Empty_Box ta_Nil_Box ta_Atom_Empty ta_Public_Empty ta_Shared_Empty ta_Chain_Empty ta_Digest_Empty ta_Box_Empty ta_Empty_Empty ta_Nil_Empty
variable {w w2 : World} {b : Nat} {s : Sd} {vs va : Value} {f : Int → List UInt8}

/-- What a side is, and what it yields, where a term is opened. -/
def opened (s : Sd) : Option (Sd × Tm) → Sd × Value
  | some (s2, x) => (s2, .tuple #[x.val, .bool true])
  | none => (s, .tuple #[.nilIface, .bool false])
def OpenSaid (f : Int → List UInt8) (t : Tm) : Prop := ∀ {w : World} {b : Nat} {s : Sd} {vs va : Value}, Itoa w Small f → t.all Small → sz t ≤ 10000 → s.hash.all Small → sz s.hash ≤ 10000 → s.key.all Small → sz s.key ≤ 10000 → s.hash ≠ .non → 0 ≤ s.n → s.n ≤ 100 → SdAt w b s vs va →
    Calls Tryz.prog 70 #[ptr b, t.val] w fun e w' => e = .returned (opened s (s.opens f t)).2 ∧ SdAt w' b (opened s (s.opens f t)).1 vs va ∧ Same w w' (OnlyB b)

set_option maxHeartbeats 2000000 in
set_option maxRecDepth 100000 in
theorem open_nokey {t : Tm} {u : TypeId} {d : Value} (ht : Va t u d) (hk : s.key = .non) (hh : s.hash ≠ .non) (h : SdAt w b s vs va) :
    Calls Tryz.prog 70 #[ptr b, .iface u d] w fun e w' => e = .returned (.tuple #[.iface u d, .bool true]) ∧ SdAt w' b (s.mix t) vs va ∧ Same w w' (OnlyB b) := by
  have c11 : w.cell? ⟨b, 11, none⟩ = some .nilIface := by
    have := h.cell (j := 11) rfl
    simpa [Sd.cells, hk, Tm.val] using this
  have HM := hid (mixHash_any ht hh h)
  clear h hh ht hk
  go_enter Tryz.func70, Tryz.ntmps70
  go_wp2_with fail
  refine HM.out.mono ?_
  rintro e w1 ⟨⟨x, rfl⟩, h1, h2⟩
  have HP := hid (And.intro h1 h2)
  clear h1 h2 c11
  go_wp2_with fail
  go_ret2
  exact ⟨rfl, HP.out⟩

set_option maxHeartbeats 4000000 in
set_option maxRecDepth 100000 in
theorem open_nobox {t : Tm} (hb : ∀ k n a x, t ≠ .box k n a x) (hk : s.key ≠ .non) (h : SdAt w b s vs va) :
    Calls Tryz.prog 70 #[ptr b, t.val] w fun e w' => e = .returned (.tuple #[.nilIface, .bool false]) ∧ SdAt w' b s vs va ∧ Same w w' (OnlyB b) := by
  obtain ⟨ku, kd, hkv⟩ := Va.of hk
  have c11 : w.cell? ⟨b, 11, none⟩ = some (.iface ku kd) := hkv.eq ▸ h.cell rfl
  have HSD := hid h
  clear h hk hkv
  cases t with
  | box k n a x => exact absurd rfl (hb k n a x)
  | _ =>
    clear hb
    unfold Tm.val
    go_enter Tryz.func70, Tryz.ntmps70
    go_wp2_with fail
    clear c11
    have hal := Ext.alloc w (.cells #[.nilIface, .int .i64 0, .nilIface, .nilIface] 90 (0, 0))
    have HAL := hid hal
    clear hal
    generalize World.alloc w _ = W0 at *
    refine reg_begin 32 (by kernel_rfl) ?_
    refine reg_hide (fun Q2 HQ => ?_)
    generalize hW : World.drew _ = W
    have HE : Hid (Ext W0 W) := hid (by rw [← hW]; exact Ext.drew _)
    clear hW
    refine reg_pure 0 rfl (by kernel_rfl) (by kernel_rfl) ?_; apply Exists.intro; refine ⟨fun w' => ?_, ?_⟩; · go_simp; exact rfl
    refine reg_pure 1 rfl (by kernel_rfl) (by kernel_rfl) ?_; apply Exists.intro; refine ⟨fun w' => ?_, ?_⟩; · go_simp; exact rfl
    refine reg_pure 2 rfl (by kernel_rfl) (by kernel_rfl) ?_; apply Exists.intro; refine ⟨fun w' => ?_, ?_⟩; · go_simp; exact rfl
    refine reg_skip 3 rfl (by kernel_rfl) (by kernel_rfl) ?_
    refine reg_skip 4 rfl (by kernel_rfl) (by kernel_rfl) ?_
    refine reg_skip 5 rfl (by kernel_rfl) (by kernel_rfl) ?_
    refine reg_skip 6 rfl (by kernel_rfl) (by kernel_rfl) ?_
    refine reg_skip 7 rfl (by kernel_rfl) (by kernel_rfl) ?_
    refine reg_skip 8 rfl (by kernel_rfl) (by kernel_rfl) ?_
    refine reg_skip 9 rfl (by kernel_rfl) (by kernel_rfl) ?_
    refine reg_skip 10 rfl (by kernel_rfl) (by kernel_rfl) ?_
    refine reg_pure 11 rfl (by kernel_rfl) (by kernel_rfl) ?_; apply Exists.intro; refine ⟨fun w' => ?_, ?_⟩; · go_simp; exact rfl
    refine reg_pure 12 rfl (by kernel_rfl) (by kernel_rfl) ?_; apply Exists.intro; refine ⟨fun w' => ?_, ?_⟩; · go_simp; exact rfl
    refine reg_skip 13 rfl (by kernel_rfl) (by kernel_rfl) ?_
    refine reg_skip 14 rfl (by kernel_rfl) (by kernel_rfl) ?_
    refine reg_skip 15 rfl (by kernel_rfl) (by kernel_rfl) ?_
    refine reg_skip 16 rfl (by kernel_rfl) (by kernel_rfl) ?_
    refine reg_skip 17 rfl (by kernel_rfl) (by kernel_rfl) ?_
    refine reg_skip 18 rfl (by kernel_rfl) (by kernel_rfl) ?_
    refine reg_skip 19 rfl (by kernel_rfl) (by kernel_rfl) ?_
    refine reg_pure 20 rfl (by kernel_rfl) (by kernel_rfl) ?_; apply Exists.intro; refine ⟨fun w' => ?_, ?_⟩; · go_simp; exact rfl
    refine reg_pure 21 rfl (by kernel_rfl) (by kernel_rfl) ?_; apply Exists.intro; refine ⟨fun w' => ?_, ?_⟩; · go_simp; exact rfl
    refine reg_skip 22 rfl (by kernel_rfl) (by kernel_rfl) ?_
    refine reg_skip 23 rfl (by kernel_rfl) (by kernel_rfl) ?_
    refine reg_skip 24 rfl (by kernel_rfl) (by kernel_rfl) ?_
    refine reg_skip 25 rfl (by kernel_rfl) (by kernel_rfl) ?_
    refine reg_skip 26 rfl (by kernel_rfl) (by kernel_rfl) ?_
    refine reg_skip 27 rfl (by kernel_rfl) (by kernel_rfl) ?_
    refine reg_skip 28 rfl (by kernel_rfl) (by kernel_rfl) ?_
    refine reg_skip 29 rfl (by kernel_rfl) (by kernel_rfl) ?_
    refine reg_skip 30 rfl (by kernel_rfl) (by kernel_rfl) ?_
    refine reg_pure 31 rfl (by kernel_rfl) (by kernel_rfl) ?_; apply Exists.intro; refine ⟨fun w' => ?_, ?_⟩; · go_simp; exact rfl
    refine reg_done (by kernel_rfl) (fun W5 hw5 => ?_) _
    have HE5 := hid (HAL.out.trans (HE.out.trans hw5))
    clear HE hw5
    go_simp
    rw [HQ.out]
    clear HQ Q2
    go_wp2_with fail
    go_ret2
    exact ⟨rfl, HSD.out.later HE5.out, Same.of_ext HE5.out⟩

set_option maxHeartbeats 4000000 in
set_option maxRecDepth 100000 in
theorem open_box {kk a x : Tm} {m : Int} {ku au xu : TypeId} {kd ad xd : Value} (hkk : Va kk ku kd) (haa : Va a au ad) (hxx : Va x xu xd) (hI : Itoa w Small f) (ht : (Tm.box kk m a x).all Small) (hs : sz (.box kk m a x) ≤ 10000)
    (ha : s.hash.all Small) (hz : sz s.hash ≤ 10000) (hka : s.key.all Small) (hkz : sz s.key ≤ 10000) (hh : s.hash ≠ .non) (hk : s.key ≠ .non) (hn0 : 0 ≤ s.n) (hn : s.n ≤ 100) (h : SdAt w b s vs va) :
    Calls Tryz.prog 70 #[ptr b, .iface 90 (.agg #[.iface ku kd, .int .i64 m, .iface au ad, .iface xu xd])] w fun e w' => e = .returned (opened s (s.opens f (.box kk m a x))).2 ∧ SdAt w' b (opened s (s.opens f (.box kk m a x))).1 vs va ∧ Same w w' (OnlyB b) := by
  obtain ⟨su, sd, hsv⟩ := Va.of hk
  obtain ⟨hu, hd, hhv⟩ := Va.of hh
  have c11 : w.cell? ⟨b, 11, none⟩ = some (.iface su sd) := hsv.eq ▸ h.cell rfl
  have p1 := sz_pos kk; have p2 := sz_pos a; have p3 := sz_pos x
  simp only [sz] at hs
  have HS1 : Hid (∀ W, Ext w W → Calls Tryz.prog 15 #[.iface ku kd, .iface su sd] W fun e w' => e = .returned (.bool (decide (nm f kk = nm f s.key))) ∧ Ext W w') := hid (fun W hW => by
    have := same_any (R := Small) (f := f) kk s.key W (hI.later hW) ht.2.1 hka (by omega) hkz
    rwa [hkk.eq, hsv.eq] at this)
  have HS2 : Hid (∀ W, Ext w W → Calls Tryz.prog 15 #[.iface au ad, .iface hu hd] W fun e w' => e = .returned (.bool (decide (nm f a = nm f s.hash))) ∧ Ext W w') := hid (fun W hW => by
    have := same_any (R := Small) (f := f) a s.hash W (hI.later hW) ht.2.2.1 ha (by omega) hz
    rwa [haa.eq, hhv.eq] at this)
  have HC := hid (fun W (hW : Ext w W) => (⟨hsv.eq ▸ (h.later hW).cell rfl, (h.later hW).cell rfl, hhv.eq ▸ (h.later hW).cell rfl⟩ : W.cell? ⟨b, 11, none⟩ = some (.iface su sd) ∧ W.cell? ⟨b, 12, none⟩ = some (.int .i64 s.n) ∧ W.cell? ⟨b, 6, none⟩ = some (.iface hu hd)))
  have HSD := hid h
  have hop : s.opens f (.box kk m a x) = if nm f kk = nm f s.key ∧ m = s.n ∧ nm f a = nm f s.hash then some (({ s with n := s.n + 1 } : Sd).mix (.box kk m a x), x) else none := by simp [Sd.opens, hk]
  have hbx : Va (.box kk m a x) 90 (.agg #[.iface ku kd, .int .i64 m, .iface au ad, .iface xu xd]) := ⟨by simp [Tm.val, hkk.eq, haa.eq, hxx.eq]⟩
  have HM := hid (fun W (hW : SdAt W b ({ s with n := s.n + 1 } : Sd) vs va) => mixHash_any (s := ({ s with n := s.n + 1 } : Sd)) hbx hh hW)
  have HX := hid hxx
  generalize s.opens f (.box kk m a x) = r at *
  have HOP := hid hop
  clear h hk hh hkk haa hxx hI ht hs ha hz hka hkz hsv hhv p1 p2 p3 hop hbx
  generalize hb1 : decide (nm f kk = nm f s.key) = b1 at *
  generalize hb2 : decide (nm f a = nm f s.hash) = b2 at *
  have HB1 := hid hb1
  have HB2 := hid hb2
  clear hb1 hb2
  have hal := Ext.alloc w (.cells #[.iface ku kd, .int .i64 m, .iface au ad, .iface xu xd] 90 (0, 0))
  have hbk := blk_new w (.cells #[.iface ku kd, .int .i64 m, .iface au ad, .iface xu xd] 90 (0, 0))
  have HAL := hid hal
  have HBK := hid hbk
  clear hal hbk
  go_enter Tryz.func70, Tryz.ntmps70
  go_wp2_with fail
  clear c11
  generalize World.alloc w _ = W0 at *
  generalize w.heap.size = q at *
  replace HC := hid (fun W (hW : Ext W0 W) => HC.out W (HAL.out.trans hW))
  replace HS1 := hid (fun W (hW : Ext W0 W) => HS1.out W (HAL.out.trans hW))
  replace HS2 := hid (fun W (hW : Ext W0 W) => HS2.out W (HAL.out.trans hW))
  have HB : Hid (∀ W, Ext W0 W → W.cell? ⟨q, 0, none⟩ = some (.iface ku kd) ∧ W.cell? ⟨q, 1, none⟩ = some (.int .i64 m) ∧ W.cell? ⟨q, 2, none⟩ = some (.iface au ad) ∧ W.cell? ⟨q, 3, none⟩ = some (.iface xu xd)) :=
    hid (fun W hW => ⟨cell_blk (hW.blk HBK.out) rfl, cell_blk (hW.blk HBK.out) rfl, cell_blk (hW.blk HBK.out) rfl, cell_blk (hW.blk HBK.out) rfl⟩)
  refine reg_begin 32 (by kernel_rfl) ?_
  refine reg_hide (fun Q2 HQ => ?_)
  generalize hW : World.drew _ = W
  have HE : Hid (Ext W0 W) := hid (by rw [← hW]; exact Ext.drew _)
  clear hW
  cases b1
  · have HN : Hid (r = none) := hid (by rw [HOP.out, if_neg (fun h => absurd h.1 (of_decide_eq_false HB1.out))])
    refine reg_pure 0 rfl (by kernel_rfl) (by kernel_rfl) ?_; apply Exists.intro; refine ⟨fun w' => ?_, ?_⟩; · go_simp; exact rfl
    refine reg_pure 1 rfl (by kernel_rfl) (by kernel_rfl) ?_; apply Exists.intro; refine ⟨fun w' => ?_, ?_⟩; · go_simp; exact rfl
    refine reg_pure 2 rfl (by kernel_rfl) (by kernel_rfl) ?_; apply Exists.intro; refine ⟨fun w' => ?_, ?_⟩; · go_simp; exact rfl
    refine reg_pure 3 rfl (by kernel_rfl) (by kernel_rfl) ?_; apply Exists.intro; refine ⟨fun w' => ?_, ?_⟩; · go_simp; exact rfl
    refine reg_quiet 4 rfl (by kernel_rfl) (by kernel_rfl) ?_; apply Exists.intro; refine ⟨fun w' hw' => ?_, ?_⟩; · have q0 := (HB.out w' (HE.out.trans hw')).1; go_simp; exact ⟨rfl, Ext.refl _⟩
    refine reg_pure 5 rfl (by kernel_rfl) (by kernel_rfl) ?_; apply Exists.intro; refine ⟨fun w' => ?_, ?_⟩; · go_simp; exact rfl
    refine reg_pure 6 rfl (by kernel_rfl) (by kernel_rfl) ?_; apply Exists.intro; refine ⟨fun w' => ?_, ?_⟩; · go_simp; exact rfl
    refine reg_pure 7 rfl (by kernel_rfl) (by kernel_rfl) ?_; apply Exists.intro; refine ⟨fun w' => ?_, ?_⟩; · go_simp; exact rfl
    refine reg_quiet 8 rfl (by kernel_rfl) (by kernel_rfl) ?_; apply Exists.intro; refine ⟨fun w' hw' => ?_, ?_⟩; · have q0 := (HC.out w' (HE.out.trans hw')).1; go_simp; exact ⟨rfl, Ext.refl _⟩
    refine reg_quiet 9 rfl (by kernel_rfl) (by kernel_rfl) ?_; apply Exists.intro; refine ⟨fun w' hw' => ?_, ?_⟩; · go_simp; exact HS1.out w' (HE.out.trans hw')
    refine reg_pure 10 rfl (by kernel_rfl) (by kernel_rfl) ?_; apply Exists.intro; refine ⟨fun w' => ?_, ?_⟩; · go_simp; exact rfl
    refine reg_pure 11 rfl (by kernel_rfl) (by kernel_rfl) ?_; apply Exists.intro; refine ⟨fun w' => ?_, ?_⟩; · go_simp; exact rfl
    refine reg_pure 12 rfl (by kernel_rfl) (by kernel_rfl) ?_; apply Exists.intro; refine ⟨fun w' => ?_, ?_⟩; · go_simp; exact rfl
    refine reg_skip 13 rfl (by kernel_rfl) (by kernel_rfl) ?_
    refine reg_skip 14 rfl (by kernel_rfl) (by kernel_rfl) ?_
    refine reg_skip 15 rfl (by kernel_rfl) (by kernel_rfl) ?_
    refine reg_skip 16 rfl (by kernel_rfl) (by kernel_rfl) ?_
    refine reg_skip 17 rfl (by kernel_rfl) (by kernel_rfl) ?_
    refine reg_skip 18 rfl (by kernel_rfl) (by kernel_rfl) ?_
    refine reg_skip 19 rfl (by kernel_rfl) (by kernel_rfl) ?_
    refine reg_pure 20 rfl (by kernel_rfl) (by kernel_rfl) ?_; apply Exists.intro; refine ⟨fun w' => ?_, ?_⟩; · go_simp; exact rfl
    refine reg_pure 21 rfl (by kernel_rfl) (by kernel_rfl) ?_; apply Exists.intro; refine ⟨fun w' => ?_, ?_⟩; · go_simp; exact rfl
    refine reg_skip 22 rfl (by kernel_rfl) (by kernel_rfl) ?_
    refine reg_skip 23 rfl (by kernel_rfl) (by kernel_rfl) ?_
    refine reg_skip 24 rfl (by kernel_rfl) (by kernel_rfl) ?_
    refine reg_skip 25 rfl (by kernel_rfl) (by kernel_rfl) ?_
    refine reg_skip 26 rfl (by kernel_rfl) (by kernel_rfl) ?_
    refine reg_skip 27 rfl (by kernel_rfl) (by kernel_rfl) ?_
    refine reg_skip 28 rfl (by kernel_rfl) (by kernel_rfl) ?_
    refine reg_skip 29 rfl (by kernel_rfl) (by kernel_rfl) ?_
    refine reg_skip 30 rfl (by kernel_rfl) (by kernel_rfl) ?_
    refine reg_pure 31 rfl (by kernel_rfl) (by kernel_rfl) ?_; apply Exists.intro; refine ⟨fun w' => ?_, ?_⟩; · go_simp; exact rfl
    refine reg_done (by kernel_rfl) (fun W5 hw5 => ?_) _
    have HE5 := hid (HAL.out.trans (HE.out.trans hw5))
    clear HE hw5
    go_simp
    rw [HQ.out]
    clear HQ Q2
    go_wp2_with fail
    go_ret2
    rw [HN.out]
    exact ⟨rfl, HSD.out.later HE5.out, Same.of_ext HE5.out⟩
  · by_cases hmn : m = s.n
    · subst hmn
      cases b2
      · have HN : Hid (r = none) := hid (by rw [HOP.out, if_neg (fun h => absurd h.2.2 (of_decide_eq_false HB2.out))])
        refine reg_pure 0 rfl (by kernel_rfl) (by kernel_rfl) ?_; apply Exists.intro; refine ⟨fun w' => ?_, ?_⟩; · go_simp; exact rfl
        refine reg_pure 1 rfl (by kernel_rfl) (by kernel_rfl) ?_; apply Exists.intro; refine ⟨fun w' => ?_, ?_⟩; · go_simp; exact rfl
        refine reg_pure 2 rfl (by kernel_rfl) (by kernel_rfl) ?_; apply Exists.intro; refine ⟨fun w' => ?_, ?_⟩; · go_simp; exact rfl
        refine reg_pure 3 rfl (by kernel_rfl) (by kernel_rfl) ?_; apply Exists.intro; refine ⟨fun w' => ?_, ?_⟩; · go_simp; exact rfl
        refine reg_quiet 4 rfl (by kernel_rfl) (by kernel_rfl) ?_; apply Exists.intro; refine ⟨fun w' hw' => ?_, ?_⟩; · have q0 := (HB.out w' (HE.out.trans hw')).1; go_simp; exact ⟨rfl, Ext.refl _⟩
        refine reg_pure 5 rfl (by kernel_rfl) (by kernel_rfl) ?_; apply Exists.intro; refine ⟨fun w' => ?_, ?_⟩; · go_simp; exact rfl
        refine reg_pure 6 rfl (by kernel_rfl) (by kernel_rfl) ?_; apply Exists.intro; refine ⟨fun w' => ?_, ?_⟩; · go_simp; exact rfl
        refine reg_pure 7 rfl (by kernel_rfl) (by kernel_rfl) ?_; apply Exists.intro; refine ⟨fun w' => ?_, ?_⟩; · go_simp; exact rfl
        refine reg_quiet 8 rfl (by kernel_rfl) (by kernel_rfl) ?_; apply Exists.intro; refine ⟨fun w' hw' => ?_, ?_⟩; · have q0 := (HC.out w' (HE.out.trans hw')).1; go_simp; exact ⟨rfl, Ext.refl _⟩
        refine reg_quiet 9 rfl (by kernel_rfl) (by kernel_rfl) ?_; apply Exists.intro; refine ⟨fun w' hw' => ?_, ?_⟩; · go_simp; exact HS1.out w' (HE.out.trans hw')
        refine reg_pure 10 rfl (by kernel_rfl) (by kernel_rfl) ?_; apply Exists.intro; refine ⟨fun w' => ?_, ?_⟩; · go_simp; exact rfl
        refine reg_pure 11 rfl (by kernel_rfl) (by kernel_rfl) ?_; apply Exists.intro; refine ⟨fun w' => ?_, ?_⟩; · go_simp; exact rfl
        refine reg_pure 12 rfl (by kernel_rfl) (by kernel_rfl) ?_; apply Exists.intro; refine ⟨fun w' => ?_, ?_⟩; · go_simp; exact rfl
        refine reg_pure 13 rfl (by kernel_rfl) (by kernel_rfl) ?_; apply Exists.intro; refine ⟨fun w' => ?_, ?_⟩; · go_simp; exact rfl
        refine reg_quiet 14 rfl (by kernel_rfl) (by kernel_rfl) ?_; apply Exists.intro; refine ⟨fun w' hw' => ?_, ?_⟩; · have q0 := (HB.out w' (HE.out.trans hw')).2.1; go_simp; exact ⟨rfl, Ext.refl _⟩
        refine reg_pure 15 rfl (by kernel_rfl) (by kernel_rfl) ?_; apply Exists.intro; refine ⟨fun w' => ?_, ?_⟩; · go_simp; exact rfl
        refine reg_pure 16 rfl (by kernel_rfl) (by kernel_rfl) ?_; apply Exists.intro; refine ⟨fun w' => ?_, ?_⟩; · go_simp; exact rfl
        refine reg_pure 17 rfl (by kernel_rfl) (by kernel_rfl) ?_; apply Exists.intro; refine ⟨fun w' => ?_, ?_⟩; · go_simp; exact rfl
        refine reg_quiet 18 rfl (by kernel_rfl) (by kernel_rfl) ?_; apply Exists.intro; refine ⟨fun w' hw' => ?_, ?_⟩; · have q0 := (HC.out w' (HE.out.trans hw')).2.1; go_simp; exact ⟨rfl, Ext.refl _⟩
        refine reg_pure 19 rfl (by kernel_rfl) (by kernel_rfl) ?_; apply Exists.intro; refine ⟨fun w' => ?_, ?_⟩; · go_simp; exact rfl
        refine reg_pure 20 rfl (by kernel_rfl) (by kernel_rfl) ?_; apply Exists.intro; refine ⟨fun w' => ?_, ?_⟩; · go_simp; exact rfl
        refine reg_pure 21 rfl (by kernel_rfl) (by kernel_rfl) ?_; apply Exists.intro; refine ⟨fun w' => ?_, ?_⟩; · go_simp; exact rfl
        refine reg_pure 22 rfl (by kernel_rfl) (by kernel_rfl) ?_; apply Exists.intro; refine ⟨fun w' => ?_, ?_⟩; · go_simp; exact rfl
        refine reg_quiet 23 rfl (by kernel_rfl) (by kernel_rfl) ?_; apply Exists.intro; refine ⟨fun w' hw' => ?_, ?_⟩; · have q0 := (HB.out w' (HE.out.trans hw')).2.2.1; go_simp; exact ⟨rfl, Ext.refl _⟩
        refine reg_pure 24 rfl (by kernel_rfl) (by kernel_rfl) ?_; apply Exists.intro; refine ⟨fun w' => ?_, ?_⟩; · go_simp; exact rfl
        refine reg_pure 25 rfl (by kernel_rfl) (by kernel_rfl) ?_; apply Exists.intro; refine ⟨fun w' => ?_, ?_⟩; · go_simp; exact rfl
        refine reg_pure 26 rfl (by kernel_rfl) (by kernel_rfl) ?_; apply Exists.intro; refine ⟨fun w' => ?_, ?_⟩; · go_simp; exact rfl
        refine reg_pure 27 rfl (by kernel_rfl) (by kernel_rfl) ?_; apply Exists.intro; refine ⟨fun w' => ?_, ?_⟩; · go_simp; exact rfl
        refine reg_quiet 28 rfl (by kernel_rfl) (by kernel_rfl) ?_; apply Exists.intro; refine ⟨fun w' hw' => ?_, ?_⟩; · have q0 := (HC.out w' (HE.out.trans hw')).2.2; go_simp; exact ⟨rfl, Ext.refl _⟩
        refine reg_quiet 29 rfl (by kernel_rfl) (by kernel_rfl) ?_; apply Exists.intro; refine ⟨fun w' hw' => ?_, ?_⟩; · go_simp; exact HS2.out w' (HE.out.trans hw')
        refine reg_pure 30 rfl (by kernel_rfl) (by kernel_rfl) ?_; apply Exists.intro; refine ⟨fun w' => ?_, ?_⟩; · go_simp; exact rfl
        refine reg_pure 31 rfl (by kernel_rfl) (by kernel_rfl) ?_; apply Exists.intro; refine ⟨fun w' => ?_, ?_⟩; · go_simp; exact rfl
        refine reg_done (by kernel_rfl) (fun W5 hw5 => ?_) _
        have HE5 := hid (HAL.out.trans (HE.out.trans hw5))
        clear HE hw5
        go_simp
        rw [HQ.out]
        clear HQ Q2
        go_wp2_with fail
        go_ret2
        rw [HN.out]
        exact ⟨rfl, HSD.out.later HE5.out, Same.of_ext HE5.out⟩
      · have HN : Hid (r = some (({ s with n := s.n + 1 } : Sd).mix (.box kk s.n a x), x)) := hid (by rw [HOP.out, if_pos ⟨of_decide_eq_true HB1.out, rfl, of_decide_eq_true HB2.out⟩])
        refine reg_pure 0 rfl (by kernel_rfl) (by kernel_rfl) ?_; apply Exists.intro; refine ⟨fun w' => ?_, ?_⟩; · go_simp; exact rfl
        refine reg_pure 1 rfl (by kernel_rfl) (by kernel_rfl) ?_; apply Exists.intro; refine ⟨fun w' => ?_, ?_⟩; · go_simp; exact rfl
        refine reg_pure 2 rfl (by kernel_rfl) (by kernel_rfl) ?_; apply Exists.intro; refine ⟨fun w' => ?_, ?_⟩; · go_simp; exact rfl
        refine reg_pure 3 rfl (by kernel_rfl) (by kernel_rfl) ?_; apply Exists.intro; refine ⟨fun w' => ?_, ?_⟩; · go_simp; exact rfl
        refine reg_quiet 4 rfl (by kernel_rfl) (by kernel_rfl) ?_; apply Exists.intro; refine ⟨fun w' hw' => ?_, ?_⟩; · have q0 := (HB.out w' (HE.out.trans hw')).1; go_simp; exact ⟨rfl, Ext.refl _⟩
        refine reg_pure 5 rfl (by kernel_rfl) (by kernel_rfl) ?_; apply Exists.intro; refine ⟨fun w' => ?_, ?_⟩; · go_simp; exact rfl
        refine reg_pure 6 rfl (by kernel_rfl) (by kernel_rfl) ?_; apply Exists.intro; refine ⟨fun w' => ?_, ?_⟩; · go_simp; exact rfl
        refine reg_pure 7 rfl (by kernel_rfl) (by kernel_rfl) ?_; apply Exists.intro; refine ⟨fun w' => ?_, ?_⟩; · go_simp; exact rfl
        refine reg_quiet 8 rfl (by kernel_rfl) (by kernel_rfl) ?_; apply Exists.intro; refine ⟨fun w' hw' => ?_, ?_⟩; · have q0 := (HC.out w' (HE.out.trans hw')).1; go_simp; exact ⟨rfl, Ext.refl _⟩
        refine reg_quiet 9 rfl (by kernel_rfl) (by kernel_rfl) ?_; apply Exists.intro; refine ⟨fun w' hw' => ?_, ?_⟩; · go_simp; exact HS1.out w' (HE.out.trans hw')
        refine reg_pure 10 rfl (by kernel_rfl) (by kernel_rfl) ?_; apply Exists.intro; refine ⟨fun w' => ?_, ?_⟩; · go_simp; exact rfl
        refine reg_pure 11 rfl (by kernel_rfl) (by kernel_rfl) ?_; apply Exists.intro; refine ⟨fun w' => ?_, ?_⟩; · go_simp; exact rfl
        refine reg_pure 12 rfl (by kernel_rfl) (by kernel_rfl) ?_; apply Exists.intro; refine ⟨fun w' => ?_, ?_⟩; · go_simp; exact rfl
        refine reg_pure 13 rfl (by kernel_rfl) (by kernel_rfl) ?_; apply Exists.intro; refine ⟨fun w' => ?_, ?_⟩; · go_simp; exact rfl
        refine reg_quiet 14 rfl (by kernel_rfl) (by kernel_rfl) ?_; apply Exists.intro; refine ⟨fun w' hw' => ?_, ?_⟩; · have q0 := (HB.out w' (HE.out.trans hw')).2.1; go_simp; exact ⟨rfl, Ext.refl _⟩
        refine reg_pure 15 rfl (by kernel_rfl) (by kernel_rfl) ?_; apply Exists.intro; refine ⟨fun w' => ?_, ?_⟩; · go_simp; exact rfl
        refine reg_pure 16 rfl (by kernel_rfl) (by kernel_rfl) ?_; apply Exists.intro; refine ⟨fun w' => ?_, ?_⟩; · go_simp; exact rfl
        refine reg_pure 17 rfl (by kernel_rfl) (by kernel_rfl) ?_; apply Exists.intro; refine ⟨fun w' => ?_, ?_⟩; · go_simp; exact rfl
        refine reg_quiet 18 rfl (by kernel_rfl) (by kernel_rfl) ?_; apply Exists.intro; refine ⟨fun w' hw' => ?_, ?_⟩; · have q0 := (HC.out w' (HE.out.trans hw')).2.1; go_simp; exact ⟨rfl, Ext.refl _⟩
        refine reg_pure 19 rfl (by kernel_rfl) (by kernel_rfl) ?_; apply Exists.intro; refine ⟨fun w' => ?_, ?_⟩; · go_simp; exact rfl
        refine reg_pure 20 rfl (by kernel_rfl) (by kernel_rfl) ?_; apply Exists.intro; refine ⟨fun w' => ?_, ?_⟩; · go_simp; exact rfl
        refine reg_pure 21 rfl (by kernel_rfl) (by kernel_rfl) ?_; apply Exists.intro; refine ⟨fun w' => ?_, ?_⟩; · go_simp; exact rfl
        refine reg_pure 22 rfl (by kernel_rfl) (by kernel_rfl) ?_; apply Exists.intro; refine ⟨fun w' => ?_, ?_⟩; · go_simp; exact rfl
        refine reg_quiet 23 rfl (by kernel_rfl) (by kernel_rfl) ?_; apply Exists.intro; refine ⟨fun w' hw' => ?_, ?_⟩; · have q0 := (HB.out w' (HE.out.trans hw')).2.2.1; go_simp; exact ⟨rfl, Ext.refl _⟩
        refine reg_pure 24 rfl (by kernel_rfl) (by kernel_rfl) ?_; apply Exists.intro; refine ⟨fun w' => ?_, ?_⟩; · go_simp; exact rfl
        refine reg_pure 25 rfl (by kernel_rfl) (by kernel_rfl) ?_; apply Exists.intro; refine ⟨fun w' => ?_, ?_⟩; · go_simp; exact rfl
        refine reg_pure 26 rfl (by kernel_rfl) (by kernel_rfl) ?_; apply Exists.intro; refine ⟨fun w' => ?_, ?_⟩; · go_simp; exact rfl
        refine reg_pure 27 rfl (by kernel_rfl) (by kernel_rfl) ?_; apply Exists.intro; refine ⟨fun w' => ?_, ?_⟩; · go_simp; exact rfl
        refine reg_quiet 28 rfl (by kernel_rfl) (by kernel_rfl) ?_; apply Exists.intro; refine ⟨fun w' hw' => ?_, ?_⟩; · have q0 := (HC.out w' (HE.out.trans hw')).2.2; go_simp; exact ⟨rfl, Ext.refl _⟩
        refine reg_quiet 29 rfl (by kernel_rfl) (by kernel_rfl) ?_; apply Exists.intro; refine ⟨fun w' hw' => ?_, ?_⟩; · go_simp; exact HS2.out w' (HE.out.trans hw')
        refine reg_pure 30 rfl (by kernel_rfl) (by kernel_rfl) ?_; apply Exists.intro; refine ⟨fun w' => ?_, ?_⟩; · go_simp; exact rfl
        refine reg_pure 31 rfl (by kernel_rfl) (by kernel_rfl) ?_; apply Exists.intro; refine ⟨fun w' => ?_, ?_⟩; · go_simp; exact rfl
        refine reg_done (by kernel_rfl) (fun W5 hw5 => ?_) _
        have HE6 := hid (HE.out.trans hw5)
        have HE5 := hid (HAL.out.trans HE6.out)
        clear HE hw5
        go_simp
        rw [HQ.out]
        clear HQ Q2
        have d3 := (HB.out W5 HE6.out).2.2.2
        have c12 := (HC.out W5 HE6.out).2.1
        have f12 := (HSD.out.later HE5.out).free 12
        have h5 := (HSD.out.later HE5.out).sets (s2 := { s with n := s.n + 1 }) (vs2 := vs) (va2 := va) 12 (.int .i64 (s.n + 1)) (by simp [Sd.cells])
        have H5 := hid h5
        clear h5
        go_upto_region 8 with fail
        generalize World.setCell W5 _ _ = W6 at *
        clear c12 f12 d3
        go_wp2_with fail
        refine (HM.out W6 H5.out.1).mono ?_
        rintro e w1 ⟨⟨x0, rfl⟩, h1, h2⟩
        have HP := hid (And.intro h1 ((Same.of_ext HE5.out).trans (H5.out.2.trans h2)))
        clear h1 h2
        go_wp2_with fail
        go_ret2
        rw [HN.out]
        exact ⟨by show _ = Ending.returned (.tuple #[x.val, .bool true]); rw [HX.out.eq]; rfl, HP.out⟩
    · have HN : Hid (r = none) := hid (by rw [HOP.out, if_neg (fun h => absurd h.2.1 hmn)])
      have hmn2 : (m == s.n) = false := by simp [hmn]
      have hmn3 : (m != s.n) = true := by simp [hmn]
      refine reg_pure 0 rfl (by kernel_rfl) (by kernel_rfl) ?_; apply Exists.intro; refine ⟨fun w' => ?_, ?_⟩; · go_simp; exact rfl
      refine reg_pure 1 rfl (by kernel_rfl) (by kernel_rfl) ?_; apply Exists.intro; refine ⟨fun w' => ?_, ?_⟩; · go_simp; exact rfl
      refine reg_pure 2 rfl (by kernel_rfl) (by kernel_rfl) ?_; apply Exists.intro; refine ⟨fun w' => ?_, ?_⟩; · go_simp; exact rfl
      refine reg_pure 3 rfl (by kernel_rfl) (by kernel_rfl) ?_; apply Exists.intro; refine ⟨fun w' => ?_, ?_⟩; · go_simp; exact rfl
      refine reg_quiet 4 rfl (by kernel_rfl) (by kernel_rfl) ?_; apply Exists.intro; refine ⟨fun w' hw' => ?_, ?_⟩; · have q0 := (HB.out w' (HE.out.trans hw')).1; go_simp; exact ⟨rfl, Ext.refl _⟩
      refine reg_pure 5 rfl (by kernel_rfl) (by kernel_rfl) ?_; apply Exists.intro; refine ⟨fun w' => ?_, ?_⟩; · go_simp; exact rfl
      refine reg_pure 6 rfl (by kernel_rfl) (by kernel_rfl) ?_; apply Exists.intro; refine ⟨fun w' => ?_, ?_⟩; · go_simp; exact rfl
      refine reg_pure 7 rfl (by kernel_rfl) (by kernel_rfl) ?_; apply Exists.intro; refine ⟨fun w' => ?_, ?_⟩; · go_simp; exact rfl
      refine reg_quiet 8 rfl (by kernel_rfl) (by kernel_rfl) ?_; apply Exists.intro; refine ⟨fun w' hw' => ?_, ?_⟩; · have q0 := (HC.out w' (HE.out.trans hw')).1; go_simp; exact ⟨rfl, Ext.refl _⟩
      refine reg_quiet 9 rfl (by kernel_rfl) (by kernel_rfl) ?_; apply Exists.intro; refine ⟨fun w' hw' => ?_, ?_⟩; · go_simp; exact HS1.out w' (HE.out.trans hw')
      refine reg_pure 10 rfl (by kernel_rfl) (by kernel_rfl) ?_; apply Exists.intro; refine ⟨fun w' => ?_, ?_⟩; · go_simp; exact rfl
      refine reg_pure 11 rfl (by kernel_rfl) (by kernel_rfl) ?_; apply Exists.intro; refine ⟨fun w' => ?_, ?_⟩; · go_simp; exact rfl
      refine reg_pure 12 rfl (by kernel_rfl) (by kernel_rfl) ?_; apply Exists.intro; refine ⟨fun w' => ?_, ?_⟩; · go_simp; exact rfl
      refine reg_pure 13 rfl (by kernel_rfl) (by kernel_rfl) ?_; apply Exists.intro; refine ⟨fun w' => ?_, ?_⟩; · go_simp; exact rfl
      refine reg_quiet 14 rfl (by kernel_rfl) (by kernel_rfl) ?_; apply Exists.intro; refine ⟨fun w' hw' => ?_, ?_⟩; · have q0 := (HB.out w' (HE.out.trans hw')).2.1; go_simp; exact ⟨rfl, Ext.refl _⟩
      refine reg_pure 15 rfl (by kernel_rfl) (by kernel_rfl) ?_; apply Exists.intro; refine ⟨fun w' => ?_, ?_⟩; · go_simp; exact rfl
      refine reg_pure 16 rfl (by kernel_rfl) (by kernel_rfl) ?_; apply Exists.intro; refine ⟨fun w' => ?_, ?_⟩; · go_simp; exact rfl
      refine reg_pure 17 rfl (by kernel_rfl) (by kernel_rfl) ?_; apply Exists.intro; refine ⟨fun w' => ?_, ?_⟩; · go_simp; exact rfl
      refine reg_quiet 18 rfl (by kernel_rfl) (by kernel_rfl) ?_; apply Exists.intro; refine ⟨fun w' hw' => ?_, ?_⟩; · have q0 := (HC.out w' (HE.out.trans hw')).2.1; go_simp; exact ⟨rfl, Ext.refl _⟩
      refine reg_pure 19 rfl (by kernel_rfl) (by kernel_rfl) ?_; apply Exists.intro; refine ⟨fun w' => ?_, ?_⟩; · go_simp; exact rfl
      refine reg_pure 20 rfl (by kernel_rfl) (by kernel_rfl) ?_; apply Exists.intro; refine ⟨fun w' => ?_, ?_⟩; · go_simp; exact rfl
      refine reg_pure 21 rfl (by kernel_rfl) (by kernel_rfl) ?_; apply Exists.intro; refine ⟨fun w' => ?_, ?_⟩; · go_simp; exact rfl
      refine reg_skip 22 rfl (by kernel_rfl) (by kernel_rfl) ?_
      refine reg_skip 23 rfl (by kernel_rfl) (by kernel_rfl) ?_
      refine reg_skip 24 rfl (by kernel_rfl) (by kernel_rfl) ?_
      refine reg_skip 25 rfl (by kernel_rfl) (by kernel_rfl) ?_
      refine reg_skip 26 rfl (by kernel_rfl) (by kernel_rfl) ?_
      refine reg_skip 27 rfl (by kernel_rfl) (by kernel_rfl) ?_
      refine reg_skip 28 rfl (by kernel_rfl) (by kernel_rfl) ?_
      refine reg_skip 29 rfl (by kernel_rfl) (by kernel_rfl) ?_
      refine reg_skip 30 rfl (by kernel_rfl) (by kernel_rfl) ?_
      refine reg_pure 31 rfl (by kernel_rfl) (by kernel_rfl) ?_; apply Exists.intro; refine ⟨fun w' => ?_, ?_⟩; · go_simp; exact rfl
      refine reg_done (by kernel_rfl) (fun W5 hw5 => ?_) _
      have HE5 := hid (HAL.out.trans (HE.out.trans hw5))
      clear HE hw5
      go_simp
      rw [HQ.out]
      clear HQ Q2
      go_wp2_with fail
      go_ret2
      rw [HN.out]
      exact ⟨rfl, HSD.out.later HE5.out, Same.of_ext HE5.out⟩

end Go.Proofs.YtjodmedgkmeklaaGreat
