/-
  Texts merged: Q38.
-/
import Derived.Test.YtjodmedgkmeklaaGreatJ26
/-
  What the listener makes (made): a box counted anew, a box opened; all kinds.
-/
namespace Go.Proofs.YtjodmedgkmeklaaGreat
open Go Go.RowKit Go.Maps
attribute [local go_sem] extUpon run_store_tm
attribute [local go_sem ↓] Tm.val_cell eval_put_ne eval_put_none eval_put_same size_put eval_const
attribute [local go_sem ↓] meth_Atom meth_Public meth_Shared meth_Chain meth_Digest meth_Box meth_Empty
attribute [local go_sem ↓] run_build_chain run_build_digest run_build_box
attribute [local go_sem] ta_Atom_Atom ta_Public_Atom ta_Shared_Atom ta_Chain_Atom ta_Digest_Atom ta_Box_Atom ta_Empty_Atom ta_Nil_Atom ta_Atom_Public ta_Public_Public ta_Shared_Public ta_Chain_Public ta_Digest_Public ta_Box_Public ta_Empty_Public ta_Nil_Public ta_Atom_Shared ta_Public_Shared ta_Shared_Shared ta_Chain_Shared ta_Digest_Shared ta_Box_Shared ta_Empty_Shared ta_Nil_Shared ta_Atom_Chain ta_Public_Chain ta_Shared_Chain ta_Chain_Chain ta_Digest_Chain ta_Box_Chain ta_Empty_Chain ta_Nil_Chain ta_Atom_Digest ta_Public_Digest ta_Shared_Digest ta_Chain_Digest ta_Digest_Digest ta_Box_Digest ta_Empty_Digest ta_Nil_Digest ta_Atom_Box ta_Public_Box ta_Shared_Box ta_Chain_Box ta_Digest_Box ta_Box_Box ta_Empty_Box ta_Nil_Box ta_Atom_Empty ta_Public_Empty ta_Shared_Empty ta_Chain_Empty ta_Digest_Empty ta_Box_Empty ta_Empty_Empty ta_Nil_Empty
variable {f : Int → List UInt8} {P : Int → Prop} {w0 w W W2 W3 : World} {own own2 : Nat → Option Tg} {m m2 : MB} {μ μ2 : MS} {v v2 : KV}
set_option maxHeartbeats 16000000 in
set_option maxRecDepth 100000 in
theorem made11 (hN : ∀ n, P n → Small n) (hI : Itoa w0 Small f) (hp : PoolOk f P μ) (a b c : Int) (h : MAt f P w0 W own m μ v) :
    Calls Tryz.prog 34 #[ptr m.wb, .agg #[.int .i64 11, .int .i64 a, .int .i64 b, .int .i64 c]] W fun e w' => Made (μ.made f 11 a b c) e ∧ Ext W w' := by
  have HMN : Hid ((μ.place a).isBox = false → μ.made f 11 a b c = none) := hid (fun hb => by
    unfold MS.made
    dsimp only
    rw [if_neg (by omega), if_neg (by omega), if_neg (by omega), if_neg (by omega)]
    rw [if_pos rfl]
    cases hx : μ.place a <;> first | rfl | (rw [hx] at hb; cases hb))
  have HMB : Hid (∀ k n ad t, μ.place a = .box k n ad t → μ.made f 11 a b c = if can f μ.x μ.S k = true ∧ 0 ≤ b ∧ b ≤ 99 then some (.box k b ad t) else none) := hid (fun k n ad t hb => by
    unfold MS.made
    dsimp only
    rw [if_neg (by omega), if_neg (by omega), if_neg (by omega), if_neg (by omega)]
    rw [if_pos rfl]
    rw [hb])
  have HXB := hid (fun (hne : μ.place a ≠ .non) => (hp.fine _ (place_mem hne)))
  have HC0 := hid (fun W' (hW : Ext W W') => ((h.later hW).blk : _))
  have HCA := hid (fun (k : Tm) (hka : k.all Small) (hks : sz k ≤ 10000) W2 (hW : Ext W W2) => can_any (f := f) (P := P) k W2 m.k v ((h.itoa hI).later hW) (h.later hW).base hka hks)
  rw [h.bx, h.bS] at HCA
  clear hp hI
  generalize μ.made f 11 a b c = res at *
  generalize hxx : μ.place a = x at *
  have HXX := hid hxx
  clear hxx
  have HPA := hid (place_at h a)
  have HPB := hid (place_at h b)
  have HPC := hid (place_at h c)
  have HE := hid (Ext.alloc W (.cells #[.int .i64 11, .int .i64 a, .int .i64 b, .int .i64 c] 39 (0, 0)))
  have HBK := hid (blk_new W (.cells #[.int .i64 11, .int .i64 a, .int .i64 b, .int .i64 c] 39 (0, 0)))
  have HM := hid h
  clear h
  rw [HXX.out] at HPA
  generalize μ.place b = y at *
  generalize μ.place c = z at *
  go_enter Tryz.func34, Tryz.ntmps34
  go_upto_region 1 with fail
  generalize World.alloc W _ = W1 at *
  generalize W.heap.size = q at *
  refine reg_begin 15 (by kernel_rfl) ?_
  refine reg_hide (fun Q2 HQ => ?_)
  generalize hW : World.drew _ = W2
  have HE2 : Hid (Ext W1 W2) := hid (by rw [← hW]; exact Ext.drew _)
  clear hW
  refine reg_pure 0 rfl (by kernel_rfl) (by kernel_rfl) ?_; apply Exists.intro; refine ⟨fun w' => ?_, ?_⟩; · go_simp; exact rfl
  refine reg_pure 1 rfl (by kernel_rfl) (by kernel_rfl) ?_; apply Exists.intro; refine ⟨fun w' => ?_, ?_⟩; · go_simp; exact rfl
  refine reg_quiet 2 rfl (by kernel_rfl) (by kernel_rfl) ?_; apply Exists.intro; refine ⟨fun w' hw' => ?_, ?_⟩; · have q0 : w'.cell? ⟨q, 1, none⟩ = some (.int .i64 a) := cell_blk ((HE2.out.trans hw').blk HBK.out) rfl; go_simp; exact ⟨rfl, Ext.refl _⟩
  refine reg_quiet 3 rfl (by kernel_rfl) (by kernel_rfl) ?_; apply Exists.intro; refine ⟨fun w' hw' => ?_, ?_⟩; · go_simp; exact HPA.out w' (HE.out.trans (HE2.out.trans hw'))
  refine reg_pure 4 rfl (by kernel_rfl) (by kernel_rfl) ?_; apply Exists.intro; refine ⟨fun w' => ?_, ?_⟩; · go_simp; exact rfl
  refine reg_pure 5 rfl (by kernel_rfl) (by kernel_rfl) ?_; apply Exists.intro; refine ⟨fun w' => ?_, ?_⟩; · go_simp; exact rfl
  refine reg_quiet 6 rfl (by kernel_rfl) (by kernel_rfl) ?_; apply Exists.intro; refine ⟨fun w' hw' => ?_, ?_⟩; · have q0 : w'.cell? ⟨q, 2, none⟩ = some (.int .i64 b) := cell_blk ((HE2.out.trans hw').blk HBK.out) rfl; go_simp; exact ⟨rfl, Ext.refl _⟩
  refine reg_quiet 7 rfl (by kernel_rfl) (by kernel_rfl) ?_; apply Exists.intro; refine ⟨fun w' hw' => ?_, ?_⟩; · go_simp; exact HPB.out w' (HE.out.trans (HE2.out.trans hw'))
  refine reg_pure 8 rfl (by kernel_rfl) (by kernel_rfl) ?_; apply Exists.intro; refine ⟨fun w' => ?_, ?_⟩; · go_simp; exact rfl
  refine reg_pure 9 rfl (by kernel_rfl) (by kernel_rfl) ?_; apply Exists.intro; refine ⟨fun w' => ?_, ?_⟩; · go_simp; exact rfl
  refine reg_quiet 10 rfl (by kernel_rfl) (by kernel_rfl) ?_; apply Exists.intro; refine ⟨fun w' hw' => ?_, ?_⟩; · have q0 : w'.cell? ⟨q, 3, none⟩ = some (.int .i64 c) := cell_blk ((HE2.out.trans hw').blk HBK.out) rfl; go_simp; exact ⟨rfl, Ext.refl _⟩
  refine reg_quiet 11 rfl (by kernel_rfl) (by kernel_rfl) ?_; apply Exists.intro; refine ⟨fun w' hw' => ?_, ?_⟩; · go_simp; exact HPC.out w' (HE.out.trans (HE2.out.trans hw'))
  refine reg_pure 12 rfl (by kernel_rfl) (by kernel_rfl) ?_; apply Exists.intro; refine ⟨fun w' => ?_, ?_⟩; · go_simp; exact rfl
  refine reg_pure 13 rfl (by kernel_rfl) (by kernel_rfl) ?_; apply Exists.intro; refine ⟨fun w' => ?_, ?_⟩; · go_simp; exact rfl
  refine reg_pure 14 rfl (by kernel_rfl) (by kernel_rfl) ?_; apply Exists.intro; refine ⟨fun w' => ?_, ?_⟩; · go_simp; exact rfl
  refine reg_done (by kernel_rfl) (fun W3 hw3 => ?_) _
  rw [HQ.out]
  clear HQ Q2
  have HE3 := hid (HE.out.trans (HE2.out.trans hw3))
  have HB3 := hid ((HE2.out.trans hw3).blk HBK.out)
  clear hw3 HE2 HBK HPA HPB HPC
  go_simp
  cases hbx : x.isBox
  · have hta := ta_nb hbx
    have HEQ := hid (HMN.out hbx)
    have HPQ : Hid (W.heap.size ≤ W3.heap.size) := hid HE3.out.size
    have HE4 := hid (HE3.out.trans (Ext.alloc W3 (.cells #[.nilIface, .int .i64 0, .nilIface, .nilIface] 90 (0, 0))))
    have HB4 := hid ((Ext.alloc W3 (.cells #[.nilIface, .int .i64 0, .nilIface, .nilIface] 90 (0, 0))).blk HB3.out)
    have HX4 := hid (blk_new W3 (.cells #[.nilIface, .int .i64 0, .nilIface, .nilIface] 90 (0, 0)))
    go_upto_region 3 with fail
    generalize World.alloc W3 _ = W4 at *
    generalize W3.heap.size = p at *
    clear HE3 HB3
    have d0 : W4.cell? ⟨q, 0, none⟩ = some (.int .i64 11) := cell_blk HB4.out rfl
    go_wp2_with fail
    clear d0
    clear hta hbx
    generalize x.val = xv
    refine reg_begin 22 (by kernel_rfl) ?_
    refine reg_hide (fun Q2 HQ => ?_)
    generalize hW : World.drew _ = W8
    have HE8 : Hid (Ext W4 W8) := hid (by rw [← hW]; exact Ext.drew _)
    clear hW
    refine reg_pure 0 rfl (by kernel_rfl) (by kernel_rfl) ?_; apply Exists.intro; refine ⟨fun w' => ?_, ?_⟩; · go_simp; exact rfl
    refine reg_pure 1 rfl (by kernel_rfl) (by kernel_rfl) ?_; apply Exists.intro; refine ⟨fun w' => ?_, ?_⟩; · go_simp; exact rfl
    refine reg_pure 2 rfl (by kernel_rfl) (by kernel_rfl) ?_; apply Exists.intro; refine ⟨fun w' => ?_, ?_⟩; · go_simp; exact rfl
    refine reg_skip 3 rfl (by kernel_rfl) (by kernel_rfl) ?_
    refine reg_skip 4 rfl (by kernel_rfl) (by kernel_rfl) ?_
    refine reg_skip 5 rfl (by kernel_rfl) (by kernel_rfl) ?_
    refine reg_skip 6 rfl (by kernel_rfl) (by kernel_rfl) ?_
    refine reg_skip 7 rfl (by kernel_rfl) (by kernel_rfl) ?_
    refine reg_skip 8 rfl (by kernel_rfl) (by kernel_rfl) ?_
    refine reg_skip 9 rfl (by kernel_rfl) (by kernel_rfl) ?_
    refine reg_skip 10 rfl (by kernel_rfl) (by kernel_rfl) ?_
    refine reg_pure 11 rfl (by kernel_rfl) (by kernel_rfl) ?_; apply Exists.intro; refine ⟨fun w' => ?_, ?_⟩; · go_simp; exact rfl
    refine reg_pure 12 rfl (by kernel_rfl) (by kernel_rfl) ?_; apply Exists.intro; refine ⟨fun w' => ?_, ?_⟩; · go_simp; exact rfl
    refine reg_skip 13 rfl (by kernel_rfl) (by kernel_rfl) ?_
    refine reg_skip 14 rfl (by kernel_rfl) (by kernel_rfl) ?_
    refine reg_skip 15 rfl (by kernel_rfl) (by kernel_rfl) ?_
    refine reg_pure 16 rfl (by kernel_rfl) (by kernel_rfl) ?_; apply Exists.intro; refine ⟨fun w' => ?_, ?_⟩; · go_simp; exact rfl
    refine reg_pure 17 rfl (by kernel_rfl) (by kernel_rfl) ?_; apply Exists.intro; refine ⟨fun w' => ?_, ?_⟩; · go_simp; exact rfl
    refine reg_skip 18 rfl (by kernel_rfl) (by kernel_rfl) ?_
    refine reg_skip 19 rfl (by kernel_rfl) (by kernel_rfl) ?_
    refine reg_skip 20 rfl (by kernel_rfl) (by kernel_rfl) ?_
    refine reg_pure 21 rfl (by kernel_rfl) (by kernel_rfl) ?_; apply Exists.intro; refine ⟨fun w' => ?_, ?_⟩; · go_simp; exact rfl
    refine reg_done (by kernel_rfl) (fun W9 hw9 => ?_) _
    rw [HQ.out]
    clear HQ Q2
    have HE9 := hid (HE4.out.trans (HE8.out.trans hw9))
    have HB9 := hid ((HE8.out.trans hw9).blk HB4.out)
    have HX9 := hid ((HE8.out.trans hw9).blk HX4.out)
    clear hw9 HE8
    go_simp
    go_wp2_with fail
    go_ret2
    rw [HEQ.out]
    exact ⟨⟨_, rfl, fun t ht => by cases ht⟩, HE9.out⟩
  · obtain ⟨xk, xn, xa, xt, rfl⟩ := isBox_box hbx
    have hxo := HXB.out (by simp)
    have hall := hxo.1.all hN
    have p1 := sz_pos xk; have p2 := sz_pos xa; have p3 := sz_pos xt
    have hz := hxo.2
    simp only [sz] at hz
    obtain ⟨ku, kd, hkv⟩ := Va.of hxo.1.2.1.ne
    obtain ⟨au, ad, hav⟩ := Va.of hxo.1.2.2.1.ne
    obtain ⟨tu, td, htv⟩ := Va.of hxo.1.2.2.2.ne
    have HCAN := hid (HCA.out xk hall.2.1 (by omega))
    rw [hkv.eq] at HCAN
    have HRB := hid (HMB.out _ _ _ _ rfl)
    have HV := hid (And.intro hkv.eq (And.intro hav.eq htv.eq))
    have hv : (Tm.box xk xn xa xt).val = .iface 90 (.agg #[.iface ku kd, .int .i64 xn, .iface au ad, .iface tu td]) := by simp [Tm.val, hkv.eq, hav.eq, htv.eq]
    have HPQ : Hid (W.heap.size ≤ W3.heap.size) := hid HE3.out.size
    rw [hv]
    clear hv hkv hav htv hxo HXB hbx HMN HMB HCA hall p1 p2 p3 hz
    generalize hck : can f μ.x μ.S xk = ck at *
    clear hck
    have HE4 := hid (HE3.out.trans (Ext.alloc W3 (.cells #[.iface ku kd, .int .i64 xn, .iface au ad, .iface tu td] 90 (0, 0))))
    have HB4 := hid ((Ext.alloc W3 (.cells #[.iface ku kd, .int .i64 xn, .iface au ad, .iface tu td] 90 (0, 0))).blk HB3.out)
    have HX4 := hid (blk_new W3 (.cells #[.iface ku kd, .int .i64 xn, .iface au ad, .iface tu td] 90 (0, 0)))
    go_upto_region 3 with fail
    generalize World.alloc W3 _ = W4 at *
    generalize W3.heap.size = p at *
    clear HE3 HB3
    have d0 : W4.cell? ⟨q, 0, none⟩ = some (.int .i64 11) := cell_blk HB4.out rfl
    go_wp2_with fail
    clear d0
    cases ck
    · have HEQ : Hid (res = none) := hid (by rw [HRB.out, if_neg (by simp)])
      refine reg_begin 22 (by kernel_rfl) ?_
      refine reg_hide (fun Q2 HQ => ?_)
      generalize hW : World.drew _ = W8
      have HE8 : Hid (Ext W4 W8) := hid (by rw [← hW]; exact Ext.drew _)
      clear hW
      refine reg_pure 0 rfl (by kernel_rfl) (by kernel_rfl) ?_; apply Exists.intro; refine ⟨fun w' => ?_, ?_⟩; · go_simp; exact rfl
      refine reg_pure 1 rfl (by kernel_rfl) (by kernel_rfl) ?_; apply Exists.intro; refine ⟨fun w' => ?_, ?_⟩; · go_simp; exact rfl
      refine reg_pure 2 rfl (by kernel_rfl) (by kernel_rfl) ?_; apply Exists.intro; refine ⟨fun w' => ?_, ?_⟩; · go_simp; exact rfl
      refine reg_pure 3 rfl (by kernel_rfl) (by kernel_rfl) ?_; apply Exists.intro; refine ⟨fun w' => ?_, ?_⟩; · go_simp; exact rfl
      refine reg_pure 4 rfl (by kernel_rfl) (by kernel_rfl) ?_; apply Exists.intro; refine ⟨fun w' => ?_, ?_⟩; · go_simp; exact rfl
      refine reg_pure 5 rfl (by kernel_rfl) (by kernel_rfl) ?_; apply Exists.intro; refine ⟨fun w' => ?_, ?_⟩; · go_simp; exact rfl
      refine reg_quiet 6 rfl (by kernel_rfl) (by kernel_rfl) ?_; apply Exists.intro; refine ⟨fun w' hw' => ?_, ?_⟩; · have q0 : w'.cell? ⟨m.wb, 4, none⟩ = some (ptr m.k.kb) := cell_blk (HC0.out w' (HE4.out.trans (HE8.out.trans hw'))) rfl; go_simp; exact ⟨rfl, Ext.refl _⟩
      refine reg_pure 7 rfl (by kernel_rfl) (by kernel_rfl) ?_; apply Exists.intro; refine ⟨fun w' => ?_, ?_⟩; · go_simp; exact rfl
      refine reg_quiet 8 rfl (by kernel_rfl) (by kernel_rfl) ?_; apply Exists.intro; refine ⟨fun w' hw' => ?_, ?_⟩; · have q0 : w'.cell? ⟨p, 0, none⟩ = some (.iface ku kd) := cell_blk ((HE8.out.trans hw').blk HX4.out) rfl; go_simp; exact ⟨rfl, Ext.refl _⟩
      refine reg_quiet 9 rfl (by kernel_rfl) (by kernel_rfl) ?_; apply Exists.intro; refine ⟨fun w' hw' => ?_, ?_⟩; · go_simp; exact HCAN.out w' (HE4.out.trans (HE8.out.trans hw'))
      refine reg_pure 10 rfl (by kernel_rfl) (by kernel_rfl) ?_; apply Exists.intro; refine ⟨fun w' => ?_, ?_⟩; · go_simp; exact rfl
      refine reg_pure 11 rfl (by kernel_rfl) (by kernel_rfl) ?_; apply Exists.intro; refine ⟨fun w' => ?_, ?_⟩; · go_simp; exact rfl
      refine reg_pure 12 rfl (by kernel_rfl) (by kernel_rfl) ?_; apply Exists.intro; refine ⟨fun w' => ?_, ?_⟩; · go_simp; exact rfl
      refine reg_skip 13 rfl (by kernel_rfl) (by kernel_rfl) ?_
      refine reg_skip 14 rfl (by kernel_rfl) (by kernel_rfl) ?_
      refine reg_skip 15 rfl (by kernel_rfl) (by kernel_rfl) ?_
      refine reg_pure 16 rfl (by kernel_rfl) (by kernel_rfl) ?_; apply Exists.intro; refine ⟨fun w' => ?_, ?_⟩; · go_simp; exact rfl
      refine reg_pure 17 rfl (by kernel_rfl) (by kernel_rfl) ?_; apply Exists.intro; refine ⟨fun w' => ?_, ?_⟩; · go_simp; exact rfl
      refine reg_skip 18 rfl (by kernel_rfl) (by kernel_rfl) ?_
      refine reg_skip 19 rfl (by kernel_rfl) (by kernel_rfl) ?_
      refine reg_skip 20 rfl (by kernel_rfl) (by kernel_rfl) ?_
      refine reg_pure 21 rfl (by kernel_rfl) (by kernel_rfl) ?_; apply Exists.intro; refine ⟨fun w' => ?_, ?_⟩; · go_simp; exact rfl
      refine reg_done (by kernel_rfl) (fun W9 hw9 => ?_) _
      rw [HQ.out]
      clear HQ Q2
      have HE9 := hid (HE4.out.trans (HE8.out.trans hw9))
      have HB9 := hid ((HE8.out.trans hw9).blk HB4.out)
      have HX9 := hid ((HE8.out.trans hw9).blk HX4.out)
      clear hw9 HE8
      go_simp
      go_wp2_with fail
      go_ret2
      rw [HEQ.out]
      exact ⟨⟨_, rfl, fun t ht => by cases ht⟩, HE9.out⟩
    · by_cases hb0 : b < 0
      · have HEQ : Hid (res = none) := hid (by rw [HRB.out, if_neg (fun h => by omega)])
        refine reg_begin 22 (by kernel_rfl) ?_
        refine reg_hide (fun Q2 HQ => ?_)
        generalize hW : World.drew _ = W8
        have HE8 : Hid (Ext W4 W8) := hid (by rw [← hW]; exact Ext.drew _)
        clear hW
        refine reg_pure 0 rfl (by kernel_rfl) (by kernel_rfl) ?_; apply Exists.intro; refine ⟨fun w' => ?_, ?_⟩; · go_simp; exact rfl
        refine reg_pure 1 rfl (by kernel_rfl) (by kernel_rfl) ?_; apply Exists.intro; refine ⟨fun w' => ?_, ?_⟩; · go_simp; exact rfl
        refine reg_pure 2 rfl (by kernel_rfl) (by kernel_rfl) ?_; apply Exists.intro; refine ⟨fun w' => ?_, ?_⟩; · go_simp; exact rfl
        refine reg_pure 3 rfl (by kernel_rfl) (by kernel_rfl) ?_; apply Exists.intro; refine ⟨fun w' => ?_, ?_⟩; · go_simp; exact rfl
        refine reg_pure 4 rfl (by kernel_rfl) (by kernel_rfl) ?_; apply Exists.intro; refine ⟨fun w' => ?_, ?_⟩; · go_simp; exact rfl
        refine reg_pure 5 rfl (by kernel_rfl) (by kernel_rfl) ?_; apply Exists.intro; refine ⟨fun w' => ?_, ?_⟩; · go_simp; exact rfl
        refine reg_quiet 6 rfl (by kernel_rfl) (by kernel_rfl) ?_; apply Exists.intro; refine ⟨fun w' hw' => ?_, ?_⟩; · have q0 : w'.cell? ⟨m.wb, 4, none⟩ = some (ptr m.k.kb) := cell_blk (HC0.out w' (HE4.out.trans (HE8.out.trans hw'))) rfl; go_simp; exact ⟨rfl, Ext.refl _⟩
        refine reg_pure 7 rfl (by kernel_rfl) (by kernel_rfl) ?_; apply Exists.intro; refine ⟨fun w' => ?_, ?_⟩; · go_simp; exact rfl
        refine reg_quiet 8 rfl (by kernel_rfl) (by kernel_rfl) ?_; apply Exists.intro; refine ⟨fun w' hw' => ?_, ?_⟩; · have q0 : w'.cell? ⟨p, 0, none⟩ = some (.iface ku kd) := cell_blk ((HE8.out.trans hw').blk HX4.out) rfl; go_simp; exact ⟨rfl, Ext.refl _⟩
        refine reg_quiet 9 rfl (by kernel_rfl) (by kernel_rfl) ?_; apply Exists.intro; refine ⟨fun w' hw' => ?_, ?_⟩; · go_simp; exact HCAN.out w' (HE4.out.trans (HE8.out.trans hw'))
        refine reg_pure 10 rfl (by kernel_rfl) (by kernel_rfl) ?_; apply Exists.intro; refine ⟨fun w' => ?_, ?_⟩; · go_simp; exact rfl
        refine reg_pure 11 rfl (by kernel_rfl) (by kernel_rfl) ?_; apply Exists.intro; refine ⟨fun w' => ?_, ?_⟩; · go_simp; exact rfl
        refine reg_pure 12 rfl (by kernel_rfl) (by kernel_rfl) ?_; apply Exists.intro; refine ⟨fun w' => ?_, ?_⟩; · go_simp; exact rfl
        refine reg_pure 13 rfl (by kernel_rfl) (by kernel_rfl) ?_; apply Exists.intro; refine ⟨fun w' => ?_, ?_⟩; · go_simp; exact rfl
        refine reg_quiet 14 rfl (by kernel_rfl) (by kernel_rfl) ?_; apply Exists.intro; refine ⟨fun w' hw' => ?_, ?_⟩; · have q0 : w'.cell? ⟨q, 2, none⟩ = some (.int .i64 b) := cell_blk ((HE8.out.trans hw').blk HB4.out) rfl; go_simp; exact ⟨rfl, Ext.refl _⟩
        refine reg_pure 15 rfl (by kernel_rfl) (by kernel_rfl) ?_; apply Exists.intro; refine ⟨fun w' => ?_, ?_⟩; · go_simp; exact rfl
        refine reg_pure 16 rfl (by kernel_rfl) (by kernel_rfl) ?_; apply Exists.intro; refine ⟨fun w' => ?_, ?_⟩; · go_simp; exact rfl
        refine reg_pure 17 rfl (by kernel_rfl) (by kernel_rfl) ?_; apply Exists.intro; refine ⟨fun w' => ?_, ?_⟩; · go_simp; exact rfl
        refine reg_skip 18 rfl (by kernel_rfl) (by kernel_rfl) ?_
        refine reg_skip 19 rfl (by kernel_rfl) (by kernel_rfl) ?_
        refine reg_skip 20 rfl (by kernel_rfl) (by kernel_rfl) ?_
        refine reg_pure 21 rfl (by kernel_rfl) (by kernel_rfl) ?_; apply Exists.intro; refine ⟨fun w' => ?_, ?_⟩; · go_simp; exact rfl
        refine reg_done (by kernel_rfl) (fun W9 hw9 => ?_) _
        rw [HQ.out]
        clear HQ Q2
        have HE9 := hid (HE4.out.trans (HE8.out.trans hw9))
        have HB9 := hid ((HE8.out.trans hw9).blk HB4.out)
        have HX9 := hid ((HE8.out.trans hw9).blk HX4.out)
        clear hw9 HE8
        go_simp
        go_wp2_with fail
        go_ret2
        rw [HEQ.out]
        exact ⟨⟨_, rfl, fun t ht => by cases ht⟩, HE9.out⟩
      · by_cases hb9 : 99 < b
        · have HEQ : Hid (res = none) := hid (by rw [HRB.out, if_neg (fun h => by omega)])
          refine reg_begin 22 (by kernel_rfl) ?_
          refine reg_hide (fun Q2 HQ => ?_)
          generalize hW : World.drew _ = W8
          have HE8 : Hid (Ext W4 W8) := hid (by rw [← hW]; exact Ext.drew _)
          clear hW
          refine reg_pure 0 rfl (by kernel_rfl) (by kernel_rfl) ?_; apply Exists.intro; refine ⟨fun w' => ?_, ?_⟩; · go_simp; exact rfl
          refine reg_pure 1 rfl (by kernel_rfl) (by kernel_rfl) ?_; apply Exists.intro; refine ⟨fun w' => ?_, ?_⟩; · go_simp; exact rfl
          refine reg_pure 2 rfl (by kernel_rfl) (by kernel_rfl) ?_; apply Exists.intro; refine ⟨fun w' => ?_, ?_⟩; · go_simp; exact rfl
          refine reg_pure 3 rfl (by kernel_rfl) (by kernel_rfl) ?_; apply Exists.intro; refine ⟨fun w' => ?_, ?_⟩; · go_simp; exact rfl
          refine reg_pure 4 rfl (by kernel_rfl) (by kernel_rfl) ?_; apply Exists.intro; refine ⟨fun w' => ?_, ?_⟩; · go_simp; exact rfl
          refine reg_pure 5 rfl (by kernel_rfl) (by kernel_rfl) ?_; apply Exists.intro; refine ⟨fun w' => ?_, ?_⟩; · go_simp; exact rfl
          refine reg_quiet 6 rfl (by kernel_rfl) (by kernel_rfl) ?_; apply Exists.intro; refine ⟨fun w' hw' => ?_, ?_⟩; · have q0 : w'.cell? ⟨m.wb, 4, none⟩ = some (ptr m.k.kb) := cell_blk (HC0.out w' (HE4.out.trans (HE8.out.trans hw'))) rfl; go_simp; exact ⟨rfl, Ext.refl _⟩
          refine reg_pure 7 rfl (by kernel_rfl) (by kernel_rfl) ?_; apply Exists.intro; refine ⟨fun w' => ?_, ?_⟩; · go_simp; exact rfl
          refine reg_quiet 8 rfl (by kernel_rfl) (by kernel_rfl) ?_; apply Exists.intro; refine ⟨fun w' hw' => ?_, ?_⟩; · have q0 : w'.cell? ⟨p, 0, none⟩ = some (.iface ku kd) := cell_blk ((HE8.out.trans hw').blk HX4.out) rfl; go_simp; exact ⟨rfl, Ext.refl _⟩
          refine reg_quiet 9 rfl (by kernel_rfl) (by kernel_rfl) ?_; apply Exists.intro; refine ⟨fun w' hw' => ?_, ?_⟩; · go_simp; exact HCAN.out w' (HE4.out.trans (HE8.out.trans hw'))
          refine reg_pure 10 rfl (by kernel_rfl) (by kernel_rfl) ?_; apply Exists.intro; refine ⟨fun w' => ?_, ?_⟩; · go_simp; exact rfl
          refine reg_pure 11 rfl (by kernel_rfl) (by kernel_rfl) ?_; apply Exists.intro; refine ⟨fun w' => ?_, ?_⟩; · go_simp; exact rfl
          refine reg_pure 12 rfl (by kernel_rfl) (by kernel_rfl) ?_; apply Exists.intro; refine ⟨fun w' => ?_, ?_⟩; · go_simp; exact rfl
          refine reg_pure 13 rfl (by kernel_rfl) (by kernel_rfl) ?_; apply Exists.intro; refine ⟨fun w' => ?_, ?_⟩; · go_simp; exact rfl
          refine reg_quiet 14 rfl (by kernel_rfl) (by kernel_rfl) ?_; apply Exists.intro; refine ⟨fun w' hw' => ?_, ?_⟩; · have q0 : w'.cell? ⟨q, 2, none⟩ = some (.int .i64 b) := cell_blk ((HE8.out.trans hw').blk HB4.out) rfl; go_simp; exact ⟨rfl, Ext.refl _⟩
          refine reg_pure 15 rfl (by kernel_rfl) (by kernel_rfl) ?_; apply Exists.intro; refine ⟨fun w' => ?_, ?_⟩; · go_simp; exact rfl
          refine reg_pure 16 rfl (by kernel_rfl) (by kernel_rfl) ?_; apply Exists.intro; refine ⟨fun w' => ?_, ?_⟩; · go_simp; exact rfl
          refine reg_pure 17 rfl (by kernel_rfl) (by kernel_rfl) ?_; apply Exists.intro; refine ⟨fun w' => ?_, ?_⟩; · go_simp; exact rfl
          refine reg_pure 18 rfl (by kernel_rfl) (by kernel_rfl) ?_; apply Exists.intro; refine ⟨fun w' => ?_, ?_⟩; · go_simp; exact rfl
          refine reg_quiet 19 rfl (by kernel_rfl) (by kernel_rfl) ?_; apply Exists.intro; refine ⟨fun w' hw' => ?_, ?_⟩; · have q0 : w'.cell? ⟨q, 2, none⟩ = some (.int .i64 b) := cell_blk ((HE8.out.trans hw').blk HB4.out) rfl; go_simp; exact ⟨rfl, Ext.refl _⟩
          refine reg_pure 20 rfl (by kernel_rfl) (by kernel_rfl) ?_; apply Exists.intro; refine ⟨fun w' => ?_, ?_⟩; · go_simp; exact rfl
          refine reg_pure 21 rfl (by kernel_rfl) (by kernel_rfl) ?_; apply Exists.intro; refine ⟨fun w' => ?_, ?_⟩; · go_simp; exact rfl
          refine reg_done (by kernel_rfl) (fun W9 hw9 => ?_) _
          rw [HQ.out]
          clear HQ Q2
          have HE9 := hid (HE4.out.trans (HE8.out.trans hw9))
          have HB9 := hid ((HE8.out.trans hw9).blk HB4.out)
          have HX9 := hid ((HE8.out.trans hw9).blk HX4.out)
          clear hw9 HE8
          go_simp
          go_wp2_with fail
          go_ret2
          rw [HEQ.out]
          exact ⟨⟨_, rfl, fun t ht => by cases ht⟩, HE9.out⟩
        · have HEQ : Hid (res = some (.box xk b xa xt)) := hid (by rw [HRB.out, if_pos ⟨rfl, by omega, by omega⟩])
          refine reg_begin 22 (by kernel_rfl) ?_
          refine reg_hide (fun Q2 HQ => ?_)
          generalize hW : World.drew _ = W8
          have HE8 : Hid (Ext W4 W8) := hid (by rw [← hW]; exact Ext.drew _)
          clear hW
          refine reg_pure 0 rfl (by kernel_rfl) (by kernel_rfl) ?_; apply Exists.intro; refine ⟨fun w' => ?_, ?_⟩; · go_simp; exact rfl
          refine reg_pure 1 rfl (by kernel_rfl) (by kernel_rfl) ?_; apply Exists.intro; refine ⟨fun w' => ?_, ?_⟩; · go_simp; exact rfl
          refine reg_pure 2 rfl (by kernel_rfl) (by kernel_rfl) ?_; apply Exists.intro; refine ⟨fun w' => ?_, ?_⟩; · go_simp; exact rfl
          refine reg_pure 3 rfl (by kernel_rfl) (by kernel_rfl) ?_; apply Exists.intro; refine ⟨fun w' => ?_, ?_⟩; · go_simp; exact rfl
          refine reg_pure 4 rfl (by kernel_rfl) (by kernel_rfl) ?_; apply Exists.intro; refine ⟨fun w' => ?_, ?_⟩; · go_simp; exact rfl
          refine reg_pure 5 rfl (by kernel_rfl) (by kernel_rfl) ?_; apply Exists.intro; refine ⟨fun w' => ?_, ?_⟩; · go_simp; exact rfl
          refine reg_quiet 6 rfl (by kernel_rfl) (by kernel_rfl) ?_; apply Exists.intro; refine ⟨fun w' hw' => ?_, ?_⟩; · have q0 : w'.cell? ⟨m.wb, 4, none⟩ = some (ptr m.k.kb) := cell_blk (HC0.out w' (HE4.out.trans (HE8.out.trans hw'))) rfl; go_simp; exact ⟨rfl, Ext.refl _⟩
          refine reg_pure 7 rfl (by kernel_rfl) (by kernel_rfl) ?_; apply Exists.intro; refine ⟨fun w' => ?_, ?_⟩; · go_simp; exact rfl
          refine reg_quiet 8 rfl (by kernel_rfl) (by kernel_rfl) ?_; apply Exists.intro; refine ⟨fun w' hw' => ?_, ?_⟩; · have q0 : w'.cell? ⟨p, 0, none⟩ = some (.iface ku kd) := cell_blk ((HE8.out.trans hw').blk HX4.out) rfl; go_simp; exact ⟨rfl, Ext.refl _⟩
          refine reg_quiet 9 rfl (by kernel_rfl) (by kernel_rfl) ?_; apply Exists.intro; refine ⟨fun w' hw' => ?_, ?_⟩; · go_simp; exact HCAN.out w' (HE4.out.trans (HE8.out.trans hw'))
          refine reg_pure 10 rfl (by kernel_rfl) (by kernel_rfl) ?_; apply Exists.intro; refine ⟨fun w' => ?_, ?_⟩; · go_simp; exact rfl
          refine reg_pure 11 rfl (by kernel_rfl) (by kernel_rfl) ?_; apply Exists.intro; refine ⟨fun w' => ?_, ?_⟩; · go_simp; exact rfl
          refine reg_pure 12 rfl (by kernel_rfl) (by kernel_rfl) ?_; apply Exists.intro; refine ⟨fun w' => ?_, ?_⟩; · go_simp; exact rfl
          refine reg_pure 13 rfl (by kernel_rfl) (by kernel_rfl) ?_; apply Exists.intro; refine ⟨fun w' => ?_, ?_⟩; · go_simp; exact rfl
          refine reg_quiet 14 rfl (by kernel_rfl) (by kernel_rfl) ?_; apply Exists.intro; refine ⟨fun w' hw' => ?_, ?_⟩; · have q0 : w'.cell? ⟨q, 2, none⟩ = some (.int .i64 b) := cell_blk ((HE8.out.trans hw').blk HB4.out) rfl; go_simp; exact ⟨rfl, Ext.refl _⟩
          refine reg_pure 15 rfl (by kernel_rfl) (by kernel_rfl) ?_; apply Exists.intro; refine ⟨fun w' => ?_, ?_⟩; · go_simp; exact rfl
          refine reg_pure 16 rfl (by kernel_rfl) (by kernel_rfl) ?_; apply Exists.intro; refine ⟨fun w' => ?_, ?_⟩; · go_simp; exact rfl
          refine reg_pure 17 rfl (by kernel_rfl) (by kernel_rfl) ?_; apply Exists.intro; refine ⟨fun w' => ?_, ?_⟩; · go_simp; exact rfl
          refine reg_pure 18 rfl (by kernel_rfl) (by kernel_rfl) ?_; apply Exists.intro; refine ⟨fun w' => ?_, ?_⟩; · go_simp; exact rfl
          refine reg_quiet 19 rfl (by kernel_rfl) (by kernel_rfl) ?_; apply Exists.intro; refine ⟨fun w' hw' => ?_, ?_⟩; · have q0 : w'.cell? ⟨q, 2, none⟩ = some (.int .i64 b) := cell_blk ((HE8.out.trans hw').blk HB4.out) rfl; go_simp; exact ⟨rfl, Ext.refl _⟩
          refine reg_pure 20 rfl (by kernel_rfl) (by kernel_rfl) ?_; apply Exists.intro; refine ⟨fun w' => ?_, ?_⟩; · go_simp; exact rfl
          refine reg_pure 21 rfl (by kernel_rfl) (by kernel_rfl) ?_; apply Exists.intro; refine ⟨fun w' => ?_, ?_⟩; · go_simp; exact rfl
          refine reg_done (by kernel_rfl) (fun W9 hw9 => ?_) _
          rw [HQ.out]
          clear HQ Q2
          have HE9 := hid (HE4.out.trans (HE8.out.trans hw9))
          have HB9 := hid ((HE8.out.trans hw9).blk HB4.out)
          have HX9 := hid ((HE8.out.trans hw9).blk HX4.out)
          clear hw9 HE8
          go_simp
          have d2 : W9.cell? ⟨q, 2, none⟩ = some (.int .i64 b) := cell_blk HB9.out rfl
          have x0 : W9.cell? ⟨p, 0, none⟩ = some (.iface ku kd) := cell_blk HX9.out rfl
          have x1 : W9.cell? ⟨p, 1, none⟩ = some (.int .i64 xn) := cell_blk HX9.out rfl
          have x2 : W9.cell? ⟨p, 2, none⟩ = some (.iface au ad) := cell_blk HX9.out rfl
          have x3 : W9.cell? ⟨p, 3, none⟩ = some (.iface tu td) := cell_blk HX9.out rfl
          have f1 : W9.frozen? ⟨p, 1, none⟩ = false := by simp [World.frozen?, HX9.out]
          have HFX := hid (Same.ext HE9.out (same_set W9 p 1 (.int .i64 b)) (fun k hk e => by have := HPQ.out; omega))
          go_upto_region 18 with fail
          have HX10 : Hid ((W9.setCell ⟨p, 1, none⟩ (.int .i64 b)).heap[p]? = some (.cells #[.iface ku kd, .int .i64 b, .iface au ad, .iface tu td] 90 (0, 0))) := hid (by simp only [World.setCell, Array.getElem?_modify, HX9.out, if_true, Option.map_some]; rfl)
          generalize World.setCell W9 _ _ = W10 at *
          clear d2 x0 x1 x2 x3 f1
          have x0 : W10.cell? ⟨p, 0, none⟩ = some (.iface ku kd) := cell_blk HX10.out rfl
          have x1 : W10.cell? ⟨p, 1, none⟩ = some (.int .i64 b) := cell_blk HX10.out rfl
          have x2 : W10.cell? ⟨p, 2, none⟩ = some (.iface au ad) := cell_blk HX10.out rfl
          have x3 : W10.cell? ⟨p, 3, none⟩ = some (.iface tu td) := cell_blk HX10.out rfl
          go_wp2_with fail
          go_ret2
          rw [HEQ.out]
          exact ⟨⟨_, rfl, fun t ht => by cases ht; simp [Tm.val, HV.out.1, HV.out.2.1, HV.out.2.2]⟩, HFX.out⟩

set_option maxHeartbeats 16000000 in
set_option maxRecDepth 100000 in
theorem made12 (hN : ∀ n, P n → Small n) (hI : Itoa w0 Small f) (hp : PoolOk f P μ) (a b c : Int) (h : MAt f P w0 W own m μ v) :
    Calls Tryz.prog 34 #[ptr m.wb, .agg #[.int .i64 12, .int .i64 a, .int .i64 b, .int .i64 c]] W fun e w' => Made (μ.made f 12 a b c) e ∧ Ext W w' := by
  have HMN : Hid ((μ.place a).isBox = false → μ.made f 12 a b c = none) := hid (fun hb => by
    unfold MS.made
    dsimp only
    rw [if_neg (by omega), if_neg (by omega), if_neg (by omega), if_neg (by omega)]
    rw [if_neg (by omega), if_pos rfl]
    cases hx : μ.place a <;> first | rfl | (rw [hx] at hb; cases hb))
  have HMB : Hid (∀ k n ad t, μ.place a = .box k n ad t → μ.made f 12 a b c = if can f μ.x μ.S k = true then some t else none) := hid (fun k n ad t hb => by
    unfold MS.made
    dsimp only
    rw [if_neg (by omega), if_neg (by omega), if_neg (by omega), if_neg (by omega)]
    rw [if_neg (by omega), if_pos rfl]
    rw [hb])
  have HXB := hid (fun (hne : μ.place a ≠ .non) => (hp.fine _ (place_mem hne)))
  have HC0 := hid (fun W' (hW : Ext W W') => ((h.later hW).blk : _))
  have HCA := hid (fun (k : Tm) (hka : k.all Small) (hks : sz k ≤ 10000) W2 (hW : Ext W W2) => can_any (f := f) (P := P) k W2 m.k v ((h.itoa hI).later hW) (h.later hW).base hka hks)
  rw [h.bx, h.bS] at HCA
  clear hp hI
  generalize μ.made f 12 a b c = res at *
  generalize hxx : μ.place a = x at *
  have HXX := hid hxx
  clear hxx
  have HPA := hid (place_at h a)
  have HPB := hid (place_at h b)
  have HPC := hid (place_at h c)
  have HE := hid (Ext.alloc W (.cells #[.int .i64 12, .int .i64 a, .int .i64 b, .int .i64 c] 39 (0, 0)))
  have HBK := hid (blk_new W (.cells #[.int .i64 12, .int .i64 a, .int .i64 b, .int .i64 c] 39 (0, 0)))
  have HM := hid h
  clear h
  rw [HXX.out] at HPA
  generalize μ.place b = y at *
  generalize μ.place c = z at *
  go_enter Tryz.func34, Tryz.ntmps34
  go_upto_region 1 with fail
  generalize World.alloc W _ = W1 at *
  generalize W.heap.size = q at *
  refine reg_begin 15 (by kernel_rfl) ?_
  refine reg_hide (fun Q2 HQ => ?_)
  generalize hW : World.drew _ = W2
  have HE2 : Hid (Ext W1 W2) := hid (by rw [← hW]; exact Ext.drew _)
  clear hW
  refine reg_pure 0 rfl (by kernel_rfl) (by kernel_rfl) ?_; apply Exists.intro; refine ⟨fun w' => ?_, ?_⟩; · go_simp; exact rfl
  refine reg_pure 1 rfl (by kernel_rfl) (by kernel_rfl) ?_; apply Exists.intro; refine ⟨fun w' => ?_, ?_⟩; · go_simp; exact rfl
  refine reg_quiet 2 rfl (by kernel_rfl) (by kernel_rfl) ?_; apply Exists.intro; refine ⟨fun w' hw' => ?_, ?_⟩; · have q0 : w'.cell? ⟨q, 1, none⟩ = some (.int .i64 a) := cell_blk ((HE2.out.trans hw').blk HBK.out) rfl; go_simp; exact ⟨rfl, Ext.refl _⟩
  refine reg_quiet 3 rfl (by kernel_rfl) (by kernel_rfl) ?_; apply Exists.intro; refine ⟨fun w' hw' => ?_, ?_⟩; · go_simp; exact HPA.out w' (HE.out.trans (HE2.out.trans hw'))
  refine reg_pure 4 rfl (by kernel_rfl) (by kernel_rfl) ?_; apply Exists.intro; refine ⟨fun w' => ?_, ?_⟩; · go_simp; exact rfl
  refine reg_pure 5 rfl (by kernel_rfl) (by kernel_rfl) ?_; apply Exists.intro; refine ⟨fun w' => ?_, ?_⟩; · go_simp; exact rfl
  refine reg_quiet 6 rfl (by kernel_rfl) (by kernel_rfl) ?_; apply Exists.intro; refine ⟨fun w' hw' => ?_, ?_⟩; · have q0 : w'.cell? ⟨q, 2, none⟩ = some (.int .i64 b) := cell_blk ((HE2.out.trans hw').blk HBK.out) rfl; go_simp; exact ⟨rfl, Ext.refl _⟩
  refine reg_quiet 7 rfl (by kernel_rfl) (by kernel_rfl) ?_; apply Exists.intro; refine ⟨fun w' hw' => ?_, ?_⟩; · go_simp; exact HPB.out w' (HE.out.trans (HE2.out.trans hw'))
  refine reg_pure 8 rfl (by kernel_rfl) (by kernel_rfl) ?_; apply Exists.intro; refine ⟨fun w' => ?_, ?_⟩; · go_simp; exact rfl
  refine reg_pure 9 rfl (by kernel_rfl) (by kernel_rfl) ?_; apply Exists.intro; refine ⟨fun w' => ?_, ?_⟩; · go_simp; exact rfl
  refine reg_quiet 10 rfl (by kernel_rfl) (by kernel_rfl) ?_; apply Exists.intro; refine ⟨fun w' hw' => ?_, ?_⟩; · have q0 : w'.cell? ⟨q, 3, none⟩ = some (.int .i64 c) := cell_blk ((HE2.out.trans hw').blk HBK.out) rfl; go_simp; exact ⟨rfl, Ext.refl _⟩
  refine reg_quiet 11 rfl (by kernel_rfl) (by kernel_rfl) ?_; apply Exists.intro; refine ⟨fun w' hw' => ?_, ?_⟩; · go_simp; exact HPC.out w' (HE.out.trans (HE2.out.trans hw'))
  refine reg_pure 12 rfl (by kernel_rfl) (by kernel_rfl) ?_; apply Exists.intro; refine ⟨fun w' => ?_, ?_⟩; · go_simp; exact rfl
  refine reg_pure 13 rfl (by kernel_rfl) (by kernel_rfl) ?_; apply Exists.intro; refine ⟨fun w' => ?_, ?_⟩; · go_simp; exact rfl
  refine reg_pure 14 rfl (by kernel_rfl) (by kernel_rfl) ?_; apply Exists.intro; refine ⟨fun w' => ?_, ?_⟩; · go_simp; exact rfl
  refine reg_done (by kernel_rfl) (fun W3 hw3 => ?_) _
  rw [HQ.out]
  clear HQ Q2
  have HE3 := hid (HE.out.trans (HE2.out.trans hw3))
  have HB3 := hid ((HE2.out.trans hw3).blk HBK.out)
  clear hw3 HE2 HBK HPA HPB HPC
  go_simp
  cases hbx : x.isBox
  · have hta := ta_nb hbx
    have HEQ := hid (HMN.out hbx)
    have HPQ : Hid (W.heap.size ≤ W3.heap.size) := hid HE3.out.size
    have HE4 := hid (HE3.out.trans (Ext.alloc W3 (.cells #[.nilIface, .int .i64 0, .nilIface, .nilIface] 90 (0, 0))))
    have HB4 := hid ((Ext.alloc W3 (.cells #[.nilIface, .int .i64 0, .nilIface, .nilIface] 90 (0, 0))).blk HB3.out)
    have HX4 := hid (blk_new W3 (.cells #[.nilIface, .int .i64 0, .nilIface, .nilIface] 90 (0, 0)))
    go_upto_region 3 with fail
    generalize World.alloc W3 _ = W4 at *
    generalize W3.heap.size = p at *
    clear HE3 HB3
    have d0 : W4.cell? ⟨q, 0, none⟩ = some (.int .i64 12) := cell_blk HB4.out rfl
    go_wp2_with fail
    clear d0
    clear hta hbx
    generalize x.val = xv
    refine reg_begin 14 (by kernel_rfl) ?_
    refine reg_hide (fun Q2 HQ => ?_)
    generalize hW : World.drew _ = W8
    have HE8 : Hid (Ext W4 W8) := hid (by rw [← hW]; exact Ext.drew _)
    clear hW
    refine reg_pure 0 rfl (by kernel_rfl) (by kernel_rfl) ?_; apply Exists.intro; refine ⟨fun w' => ?_, ?_⟩; · go_simp; exact rfl
    refine reg_quiet 1 rfl (by kernel_rfl) (by kernel_rfl) ?_; apply Exists.intro; refine ⟨fun w' hw' => ?_, ?_⟩; · have q0 : w'.cell? ⟨p, 3, none⟩ = some (.nilIface) := cell_blk ((HE8.out.trans hw').blk HX4.out) rfl; go_simp; exact ⟨rfl, Ext.refl _⟩
    refine reg_pure 2 rfl (by kernel_rfl) (by kernel_rfl) ?_; apply Exists.intro; refine ⟨fun w' => ?_, ?_⟩; · go_simp; exact rfl
    refine reg_pure 3 rfl (by kernel_rfl) (by kernel_rfl) ?_; apply Exists.intro; refine ⟨fun w' => ?_, ?_⟩; · go_simp; exact rfl
    refine reg_skip 4 rfl (by kernel_rfl) (by kernel_rfl) ?_
    refine reg_skip 5 rfl (by kernel_rfl) (by kernel_rfl) ?_
    refine reg_skip 6 rfl (by kernel_rfl) (by kernel_rfl) ?_
    refine reg_skip 7 rfl (by kernel_rfl) (by kernel_rfl) ?_
    refine reg_skip 8 rfl (by kernel_rfl) (by kernel_rfl) ?_
    refine reg_skip 9 rfl (by kernel_rfl) (by kernel_rfl) ?_
    refine reg_skip 10 rfl (by kernel_rfl) (by kernel_rfl) ?_
    refine reg_pure 11 rfl (by kernel_rfl) (by kernel_rfl) ?_; apply Exists.intro; refine ⟨fun w' => ?_, ?_⟩; · go_simp; exact rfl
    refine reg_pure 12 rfl (by kernel_rfl) (by kernel_rfl) ?_; apply Exists.intro; refine ⟨fun w' => ?_, ?_⟩; · go_simp; exact rfl
    refine reg_pure 13 rfl (by kernel_rfl) (by kernel_rfl) ?_; apply Exists.intro; refine ⟨fun w' => ?_, ?_⟩; · go_simp; exact rfl
    refine reg_done (by kernel_rfl) (fun W9 hw9 => ?_) _
    rw [HQ.out]
    clear HQ Q2
    have HE9 := hid (HE4.out.trans (HE8.out.trans hw9))
    have HB9 := hid ((HE8.out.trans hw9).blk HB4.out)
    have HX9 := hid ((HE8.out.trans hw9).blk HX4.out)
    clear hw9 HE8
    go_simp
    go_wp2_with fail
    go_ret2
    rw [HEQ.out]
    exact ⟨⟨_, rfl, fun t ht => by cases ht⟩, HE9.out⟩
  · obtain ⟨xk, xn, xa, xt, rfl⟩ := isBox_box hbx
    have hxo := HXB.out (by simp)
    have hall := hxo.1.all hN
    have p1 := sz_pos xk; have p2 := sz_pos xa; have p3 := sz_pos xt
    have hz := hxo.2
    simp only [sz] at hz
    obtain ⟨ku, kd, hkv⟩ := Va.of hxo.1.2.1.ne
    obtain ⟨au, ad, hav⟩ := Va.of hxo.1.2.2.1.ne
    obtain ⟨tu, td, htv⟩ := Va.of hxo.1.2.2.2.ne
    have HCAN := hid (HCA.out xk hall.2.1 (by omega))
    rw [hkv.eq] at HCAN
    have HRB := hid (HMB.out _ _ _ _ rfl)
    have HV := hid (And.intro hkv.eq (And.intro hav.eq htv.eq))
    have hv : (Tm.box xk xn xa xt).val = .iface 90 (.agg #[.iface ku kd, .int .i64 xn, .iface au ad, .iface tu td]) := by simp [Tm.val, hkv.eq, hav.eq, htv.eq]
    have HPQ : Hid (W.heap.size ≤ W3.heap.size) := hid HE3.out.size
    rw [hv]
    clear hv hkv hav htv hxo HXB hbx HMN HMB HCA hall p1 p2 p3 hz
    generalize hck : can f μ.x μ.S xk = ck at *
    clear hck
    have HE4 := hid (HE3.out.trans (Ext.alloc W3 (.cells #[.iface ku kd, .int .i64 xn, .iface au ad, .iface tu td] 90 (0, 0))))
    have HB4 := hid ((Ext.alloc W3 (.cells #[.iface ku kd, .int .i64 xn, .iface au ad, .iface tu td] 90 (0, 0))).blk HB3.out)
    have HX4 := hid (blk_new W3 (.cells #[.iface ku kd, .int .i64 xn, .iface au ad, .iface tu td] 90 (0, 0)))
    go_upto_region 3 with fail
    generalize World.alloc W3 _ = W4 at *
    generalize W3.heap.size = p at *
    clear HE3 HB3
    have d0 : W4.cell? ⟨q, 0, none⟩ = some (.int .i64 12) := cell_blk HB4.out rfl
    go_wp2_with fail
    clear d0
    cases ck
    · have HEQ : Hid (res = none) := hid (by rw [HRB.out, if_neg (by simp)])
      refine reg_begin 14 (by kernel_rfl) ?_
      refine reg_hide (fun Q2 HQ => ?_)
      generalize hW : World.drew _ = W8
      have HE8 : Hid (Ext W4 W8) := hid (by rw [← hW]; exact Ext.drew _)
      clear hW
      refine reg_pure 0 rfl (by kernel_rfl) (by kernel_rfl) ?_; apply Exists.intro; refine ⟨fun w' => ?_, ?_⟩; · go_simp; exact rfl
      refine reg_quiet 1 rfl (by kernel_rfl) (by kernel_rfl) ?_; apply Exists.intro; refine ⟨fun w' hw' => ?_, ?_⟩; · have q0 : w'.cell? ⟨p, 3, none⟩ = some (.iface tu td) := cell_blk ((HE8.out.trans hw').blk HX4.out) rfl; go_simp; exact ⟨rfl, Ext.refl _⟩
      refine reg_pure 2 rfl (by kernel_rfl) (by kernel_rfl) ?_; apply Exists.intro; refine ⟨fun w' => ?_, ?_⟩; · go_simp; exact rfl
      refine reg_pure 3 rfl (by kernel_rfl) (by kernel_rfl) ?_; apply Exists.intro; refine ⟨fun w' => ?_, ?_⟩; · go_simp; exact rfl
      refine reg_pure 4 rfl (by kernel_rfl) (by kernel_rfl) ?_; apply Exists.intro; refine ⟨fun w' => ?_, ?_⟩; · go_simp; exact rfl
      refine reg_pure 5 rfl (by kernel_rfl) (by kernel_rfl) ?_; apply Exists.intro; refine ⟨fun w' => ?_, ?_⟩; · go_simp; exact rfl
      refine reg_pure 6 rfl (by kernel_rfl) (by kernel_rfl) ?_; apply Exists.intro; refine ⟨fun w' => ?_, ?_⟩; · go_simp; exact rfl
      refine reg_quiet 7 rfl (by kernel_rfl) (by kernel_rfl) ?_; apply Exists.intro; refine ⟨fun w' hw' => ?_, ?_⟩; · have q0 : w'.cell? ⟨m.wb, 4, none⟩ = some (ptr m.k.kb) := cell_blk (HC0.out w' (HE4.out.trans (HE8.out.trans hw'))) rfl; go_simp; exact ⟨rfl, Ext.refl _⟩
      refine reg_pure 8 rfl (by kernel_rfl) (by kernel_rfl) ?_; apply Exists.intro; refine ⟨fun w' => ?_, ?_⟩; · go_simp; exact rfl
      refine reg_quiet 9 rfl (by kernel_rfl) (by kernel_rfl) ?_; apply Exists.intro; refine ⟨fun w' hw' => ?_, ?_⟩; · have q0 : w'.cell? ⟨p, 0, none⟩ = some (.iface ku kd) := cell_blk ((HE8.out.trans hw').blk HX4.out) rfl; go_simp; exact ⟨rfl, Ext.refl _⟩
      refine reg_quiet 10 rfl (by kernel_rfl) (by kernel_rfl) ?_; apply Exists.intro; refine ⟨fun w' hw' => ?_, ?_⟩; · go_simp; exact HCAN.out w' (HE4.out.trans (HE8.out.trans hw'))
      refine reg_pure 11 rfl (by kernel_rfl) (by kernel_rfl) ?_; apply Exists.intro; refine ⟨fun w' => ?_, ?_⟩; · go_simp; exact rfl
      refine reg_pure 12 rfl (by kernel_rfl) (by kernel_rfl) ?_; apply Exists.intro; refine ⟨fun w' => ?_, ?_⟩; · go_simp; exact rfl
      refine reg_pure 13 rfl (by kernel_rfl) (by kernel_rfl) ?_; apply Exists.intro; refine ⟨fun w' => ?_, ?_⟩; · go_simp; exact rfl
      refine reg_done (by kernel_rfl) (fun W9 hw9 => ?_) _
      rw [HQ.out]
      clear HQ Q2
      have HE9 := hid (HE4.out.trans (HE8.out.trans hw9))
      have HB9 := hid ((HE8.out.trans hw9).blk HB4.out)
      have HX9 := hid ((HE8.out.trans hw9).blk HX4.out)
      clear hw9 HE8
      go_simp
      go_wp2_with fail
      go_ret2
      rw [HEQ.out]
      exact ⟨⟨_, rfl, fun t ht => by cases ht⟩, HE9.out⟩
    · have HEQ : Hid (res = some xt) := hid (by rw [HRB.out, if_pos rfl])
      refine reg_begin 14 (by kernel_rfl) ?_
      refine reg_hide (fun Q2 HQ => ?_)
      generalize hW : World.drew _ = W8
      have HE8 : Hid (Ext W4 W8) := hid (by rw [← hW]; exact Ext.drew _)
      clear hW
      refine reg_pure 0 rfl (by kernel_rfl) (by kernel_rfl) ?_; apply Exists.intro; refine ⟨fun w' => ?_, ?_⟩; · go_simp; exact rfl
      refine reg_quiet 1 rfl (by kernel_rfl) (by kernel_rfl) ?_; apply Exists.intro; refine ⟨fun w' hw' => ?_, ?_⟩; · have q0 : w'.cell? ⟨p, 3, none⟩ = some (.iface tu td) := cell_blk ((HE8.out.trans hw').blk HX4.out) rfl; go_simp; exact ⟨rfl, Ext.refl _⟩
      refine reg_pure 2 rfl (by kernel_rfl) (by kernel_rfl) ?_; apply Exists.intro; refine ⟨fun w' => ?_, ?_⟩; · go_simp; exact rfl
      refine reg_pure 3 rfl (by kernel_rfl) (by kernel_rfl) ?_; apply Exists.intro; refine ⟨fun w' => ?_, ?_⟩; · go_simp; exact rfl
      refine reg_pure 4 rfl (by kernel_rfl) (by kernel_rfl) ?_; apply Exists.intro; refine ⟨fun w' => ?_, ?_⟩; · go_simp; exact rfl
      refine reg_pure 5 rfl (by kernel_rfl) (by kernel_rfl) ?_; apply Exists.intro; refine ⟨fun w' => ?_, ?_⟩; · go_simp; exact rfl
      refine reg_pure 6 rfl (by kernel_rfl) (by kernel_rfl) ?_; apply Exists.intro; refine ⟨fun w' => ?_, ?_⟩; · go_simp; exact rfl
      refine reg_quiet 7 rfl (by kernel_rfl) (by kernel_rfl) ?_; apply Exists.intro; refine ⟨fun w' hw' => ?_, ?_⟩; · have q0 : w'.cell? ⟨m.wb, 4, none⟩ = some (ptr m.k.kb) := cell_blk (HC0.out w' (HE4.out.trans (HE8.out.trans hw'))) rfl; go_simp; exact ⟨rfl, Ext.refl _⟩
      refine reg_pure 8 rfl (by kernel_rfl) (by kernel_rfl) ?_; apply Exists.intro; refine ⟨fun w' => ?_, ?_⟩; · go_simp; exact rfl
      refine reg_quiet 9 rfl (by kernel_rfl) (by kernel_rfl) ?_; apply Exists.intro; refine ⟨fun w' hw' => ?_, ?_⟩; · have q0 : w'.cell? ⟨p, 0, none⟩ = some (.iface ku kd) := cell_blk ((HE8.out.trans hw').blk HX4.out) rfl; go_simp; exact ⟨rfl, Ext.refl _⟩
      refine reg_quiet 10 rfl (by kernel_rfl) (by kernel_rfl) ?_; apply Exists.intro; refine ⟨fun w' hw' => ?_, ?_⟩; · go_simp; exact HCAN.out w' (HE4.out.trans (HE8.out.trans hw'))
      refine reg_pure 11 rfl (by kernel_rfl) (by kernel_rfl) ?_; apply Exists.intro; refine ⟨fun w' => ?_, ?_⟩; · go_simp; exact rfl
      refine reg_pure 12 rfl (by kernel_rfl) (by kernel_rfl) ?_; apply Exists.intro; refine ⟨fun w' => ?_, ?_⟩; · go_simp; exact rfl
      refine reg_pure 13 rfl (by kernel_rfl) (by kernel_rfl) ?_; apply Exists.intro; refine ⟨fun w' => ?_, ?_⟩; · go_simp; exact rfl
      refine reg_done (by kernel_rfl) (fun W9 hw9 => ?_) _
      rw [HQ.out]
      clear HQ Q2
      have HE9 := hid (HE4.out.trans (HE8.out.trans hw9))
      have HB9 := hid ((HE8.out.trans hw9).blk HB4.out)
      have HX9 := hid ((HE8.out.trans hw9).blk HX4.out)
      clear hw9 HE8
      go_simp
      go_wp2_with fail
      go_ret2
      rw [HEQ.out]
      exact ⟨⟨_, rfl, fun t ht => by cases ht; exact HV.out.2.2.symm⟩, HE9.out⟩


theorem made_any (hN : ∀ n, P n → Small n) (hI : Itoa w0 Small f) (hp : PoolOk f P μ) {kind : Int} (hk : 7 ≤ kind ∧ kind ≤ 12) (a b c : Int) (hao : IntOk a) (h : MAt f P w0 W own m μ v) :
    Calls Tryz.prog 34 #[ptr m.wb, .agg #[.int .i64 kind, .int .i64 a, .int .i64 b, .int .i64 c]] W fun e w' => Made (μ.made f kind a b c) e ∧ Ext W w' := by
  rcases (show kind = 7 ∨ kind = 8 ∨ kind = 9 ∨ kind = 10 ∨ kind = 11 ∨ kind = 12 by omega) with rfl | rfl | rfl | rfl | rfl | rfl
  · exact made7 hp a b c hao h
  · exact made8 hp a b c h
  · exact made9 hp a b c h
  · exact made10 hp a b c h
  · exact made11 hN hI hp a b c h
  · exact made12 hN hI hp a b c h

end Go.Proofs.YtjodmedgkmeklaaGreat
