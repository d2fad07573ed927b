/-
  Texts merged: Q37.
-/
import Derived.Test.YtjodmedgkmeklaaGreatJ25
/-
  What the listener makes (made): what two secrets share, a box opened or counted anew.
-/
namespace Go.Proofs.YtjodmedgkmeklaaGreat
open Go Go.RowKit Go.Maps
attribute [local go_sem] extUpon run_store_tm
attribute [local go_sem ↓] Tm.val_cell eval_put_ne eval_put_none eval_put_same size_put eval_const
attribute [local go_sem ↓] meth_Atom meth_Public meth_Shared meth_Chain meth_Digest meth_Box meth_Empty
attribute [local go_sem ↓] run_build_chain run_build_digest run_build_box
attribute [local go_sem] ta_Atom_Atom ta_Public_Atom ta_Shared_Atom ta_Chain_Atom ta_Digest_Atom ta_Box_Atom ta_Empty_Atom ta_Nil_Atom ta_Atom_Public ta_Public_Public ta_Shared_Public ta_Chain_Public ta_Digest_Public ta_Box_Public ta_Empty_Public ta_Nil_Public ta_Atom_Shared ta_Public_Shared ta_Shared_Shared ta_Chain_Shared ta_Digest_Shared ta_Box_Shared ta_Empty_Shared ta_Nil_Shared ta_Atom_Chain ta_Public_Chain ta_Shared_Chain ta_Chain_Chain ta_Digest_Chain ta_Box_Chain ta_Empty_Chain ta_Nil_Chain ta_Atom_Digest ta_Public_Digest ta_Shared_Digest ta_Chain_Digest ta_Digest_Digest ta_Box_Digest ta_Empty_Digest ta_Nil_Digest ta_Atom_Box ta_Public_Box ta_Shared_Box ta_Chain_Box ta_Digest_Box ta_Box_Box ta_Empty_Box ta_Nil_Box ta_Atom_Empty ta_Public_Empty ta_Shared_Empty ta_Chain_Empty ta_Digest_Empty ta_Box_Empty ta_Empty_Empty ta_Nil_Empty
variable {f : Int → List UInt8} {P : Int → Prop} {w0 w W W2 W3 : World} {own own2 : Nat → Option Tg} {m m2 : MB} {μ μ2 : MS} {v v2 : KV}

theorem dh_made (a : Int) (y : Tm) : Made (if y.isPub then some (dhT a y) else none) (.returned (.tuple #[(dhT a y).val, .bool y.isPub])) := by
  refine ⟨(dhT a y).val, ?_, fun t ht => ?_⟩
  · cases y.isPub <;> rfl
  · cases hb : y.isPub <;> rw [hb] at ht <;> simp at ht
    rw [ht]
theorem made7_eq (a b c : Int) : μ.made f 7 a b c = if (50 ≤ a ∧ a < 60) ∨ a ∈ μ.leaked then (if (μ.place b).isPub then some (dhT a (μ.place b)) else none) else none := by
  unfold MS.made
  simp only [if_true]
  split
  · cases μ.place b <;> rfl
  · rfl
set_option maxHeartbeats 16000000 in
set_option maxRecDepth 100000 in
theorem made7 (hp : PoolOk f P μ) (a b c : Int) (hao : IntOk a) (h : MAt f P w0 W own m μ v) :
    Calls Tryz.prog 34 #[ptr m.wb, .agg #[.int .i64 7, .int .i64 a, .int .i64 b, .int .i64 c]] W fun e w' => Made (μ.made f 7 a b c) e ∧ Ext W w' := by
  have HMD := hid (made7_eq (f := f) (μ := μ) a b c)
  have HXB := hid (fun (hne : μ.place a ≠ .non) => (hp.fine _ (place_mem hne)).1)
  have HC0 := hid (fun W' (hW : Ext W W') => ((h.later hW).blk : _))
  have HLK : Hid (∀ W', Ext W W' → (Instr.lookup 62 (.map (some m.lb)) (.int .i64 a) false).run Tryz.prog W' = .ok (.bool (decide (a ∈ μ.leaked))) W') := hid (fun W' hW => by
    refine ((h.later hW).lk.get (a := a) hao).trans ?_
    by_cases hm : a ∈ μ.leaked
    · simp [flag, hm]; rfl
    · simp [flag, hm]; rfl)
  clear hp
  generalize μ.made f 7 a b c = res at *
  have HPA := hid (place_at h a)
  have HPB := hid (place_at h b)
  have HPC := hid (place_at h c)
  have HE := hid (Ext.alloc W (.cells #[.int .i64 7, .int .i64 a, .int .i64 b, .int .i64 c] 39 (0, 0)))
  have HBK := hid (blk_new W (.cells #[.int .i64 7, .int .i64 a, .int .i64 b, .int .i64 c] 39 (0, 0)))
  have HM := hid h
  clear h
  generalize μ.place a = x at *
  generalize μ.place b = y at *
  generalize μ.place c = z at *
  go_enter Tryz.func34, Tryz.ntmps34
  go_upto_region 1 with fail
  generalize World.alloc W _ = W1 at *
  generalize W.heap.size = q at *
  refine reg_begin 15 (by kernel_rfl) ?_
  refine reg_hide (fun Q2 HQ => ?_)
  generalize hW : World.drew _ = W2
  have HE2 : Hid (Ext W1 W2) := hid (by rw [← hW]; exact Ext.drew _)
  clear hW
  refine reg_pure 0 rfl (by kernel_rfl) (by kernel_rfl) ?_; apply Exists.intro; refine ⟨fun w' => ?_, ?_⟩; · go_simp; exact rfl
  refine reg_pure 1 rfl (by kernel_rfl) (by kernel_rfl) ?_; apply Exists.intro; refine ⟨fun w' => ?_, ?_⟩; · go_simp; exact rfl
  refine reg_quiet 2 rfl (by kernel_rfl) (by kernel_rfl) ?_; apply Exists.intro; refine ⟨fun w' hw' => ?_, ?_⟩; · have q0 : w'.cell? ⟨q, 1, none⟩ = some (.int .i64 a) := cell_blk ((HE2.out.trans hw').blk HBK.out) rfl; go_simp; exact ⟨rfl, Ext.refl _⟩
  refine reg_quiet 3 rfl (by kernel_rfl) (by kernel_rfl) ?_; apply Exists.intro; refine ⟨fun w' hw' => ?_, ?_⟩; · go_simp; exact HPA.out w' (HE.out.trans (HE2.out.trans hw'))
  refine reg_pure 4 rfl (by kernel_rfl) (by kernel_rfl) ?_; apply Exists.intro; refine ⟨fun w' => ?_, ?_⟩; · go_simp; exact rfl
  refine reg_pure 5 rfl (by kernel_rfl) (by kernel_rfl) ?_; apply Exists.intro; refine ⟨fun w' => ?_, ?_⟩; · go_simp; exact rfl
  refine reg_quiet 6 rfl (by kernel_rfl) (by kernel_rfl) ?_; apply Exists.intro; refine ⟨fun w' hw' => ?_, ?_⟩; · have q0 : w'.cell? ⟨q, 2, none⟩ = some (.int .i64 b) := cell_blk ((HE2.out.trans hw').blk HBK.out) rfl; go_simp; exact ⟨rfl, Ext.refl _⟩
  refine reg_quiet 7 rfl (by kernel_rfl) (by kernel_rfl) ?_; apply Exists.intro; refine ⟨fun w' hw' => ?_, ?_⟩; · go_simp; exact HPB.out w' (HE.out.trans (HE2.out.trans hw'))
  refine reg_pure 8 rfl (by kernel_rfl) (by kernel_rfl) ?_; apply Exists.intro; refine ⟨fun w' => ?_, ?_⟩; · go_simp; exact rfl
  refine reg_pure 9 rfl (by kernel_rfl) (by kernel_rfl) ?_; apply Exists.intro; refine ⟨fun w' => ?_, ?_⟩; · go_simp; exact rfl
  refine reg_quiet 10 rfl (by kernel_rfl) (by kernel_rfl) ?_; apply Exists.intro; refine ⟨fun w' hw' => ?_, ?_⟩; · have q0 : w'.cell? ⟨q, 3, none⟩ = some (.int .i64 c) := cell_blk ((HE2.out.trans hw').blk HBK.out) rfl; go_simp; exact ⟨rfl, Ext.refl _⟩
  refine reg_quiet 11 rfl (by kernel_rfl) (by kernel_rfl) ?_; apply Exists.intro; refine ⟨fun w' hw' => ?_, ?_⟩; · go_simp; exact HPC.out w' (HE.out.trans (HE2.out.trans hw'))
  refine reg_pure 12 rfl (by kernel_rfl) (by kernel_rfl) ?_; apply Exists.intro; refine ⟨fun w' => ?_, ?_⟩; · go_simp; exact rfl
  refine reg_pure 13 rfl (by kernel_rfl) (by kernel_rfl) ?_; apply Exists.intro; refine ⟨fun w' => ?_, ?_⟩; · go_simp; exact rfl
  refine reg_pure 14 rfl (by kernel_rfl) (by kernel_rfl) ?_; apply Exists.intro; refine ⟨fun w' => ?_, ?_⟩; · go_simp; exact rfl
  refine reg_done (by kernel_rfl) (fun W3 hw3 => ?_) _
  rw [HQ.out]
  clear HQ Q2
  have HE3 := hid (HE.out.trans (HE2.out.trans hw3))
  have HB3 := hid ((HE2.out.trans hw3).blk HBK.out)
  clear hw3 HE2 HBK HPA HPB HPC
  go_simp
  cases hbx : x.isBox
  · have hta := ta_nb hbx
    clear HXB
    have HE4 := hid (HE3.out.trans (Ext.alloc W3 (.cells #[.nilIface, .int .i64 0, .nilIface, .nilIface] 90 (0, 0))))
    have HB4 := hid ((Ext.alloc W3 (.cells #[.nilIface, .int .i64 0, .nilIface, .nilIface] 90 (0, 0))).blk HB3.out)
    have HX4 := hid (blk_new W3 (.cells #[.nilIface, .int .i64 0, .nilIface, .nilIface] 90 (0, 0)))
    go_upto_region 3 with fail
    generalize World.alloc W3 _ = W4 at *
    generalize W3.heap.size = p at *
    clear HE3 HB3
    have d0 : W4.cell? ⟨q, 0, none⟩ = some (.int .i64 7) := cell_blk HB4.out rfl
    go_wp2_with fail
    clear d0
    clear hta hbx
    generalize x.val = xv
    generalize hlb : decide (a ∈ μ.leaked) = lb at *
    have HLB := hid hlb
    clear hlb
    by_cases ha1 : a < 50
    ·
      cases lb
      ·
        have HEQ : Hid (res = none) := hid (by rw [HMD.out, if_neg (by rintro (h | h); · omega
                                                                       · exact of_decide_eq_false HLB.out h)])
        refine reg_begin 18 (by kernel_rfl) ?_
        refine reg_hide (fun Q2 HQ => ?_)
        generalize hW : World.drew _ = W8
        have HE8 : Hid (Ext W4 W8) := hid (by rw [← hW]; exact Ext.drew _)
        clear hW
        refine reg_pure 0 rfl (by kernel_rfl) (by kernel_rfl) ?_; apply Exists.intro; refine ⟨fun w' => ?_, ?_⟩; · go_simp; exact rfl
        refine reg_quiet 1 rfl (by kernel_rfl) (by kernel_rfl) ?_; apply Exists.intro; refine ⟨fun w' hw' => ?_, ?_⟩; · have q0 : w'.cell? ⟨q, 1, none⟩ = some (.int .i64 a) := cell_blk ((HE8.out.trans hw').blk HB4.out) rfl; go_simp; exact ⟨rfl, Ext.refl _⟩
        refine reg_pure 2 rfl (by kernel_rfl) (by kernel_rfl) ?_; apply Exists.intro; refine ⟨fun w' => ?_, ?_⟩; · go_simp; exact rfl
        refine reg_pure 3 rfl (by kernel_rfl) (by kernel_rfl) ?_; apply Exists.intro; refine ⟨fun w' => ?_, ?_⟩; · go_simp; exact rfl
        refine reg_skip 4 rfl (by kernel_rfl) (by kernel_rfl) ?_
        refine reg_skip 5 rfl (by kernel_rfl) (by kernel_rfl) ?_
        refine reg_skip 6 rfl (by kernel_rfl) (by kernel_rfl) ?_
        refine reg_pure 7 rfl (by kernel_rfl) (by kernel_rfl) ?_; apply Exists.intro; refine ⟨fun w' => ?_, ?_⟩; · go_simp; exact rfl
        refine reg_pure 8 rfl (by kernel_rfl) (by kernel_rfl) ?_; apply Exists.intro; refine ⟨fun w' => ?_, ?_⟩; · go_simp; exact rfl
        refine reg_pure 9 rfl (by kernel_rfl) (by kernel_rfl) ?_; apply Exists.intro; refine ⟨fun w' => ?_, ?_⟩; · go_simp; exact rfl
        refine reg_pure 10 rfl (by kernel_rfl) (by kernel_rfl) ?_; apply Exists.intro; refine ⟨fun w' => ?_, ?_⟩; · go_simp; exact rfl
        refine reg_pure 11 rfl (by kernel_rfl) (by kernel_rfl) ?_; apply Exists.intro; refine ⟨fun w' => ?_, ?_⟩; · go_simp; exact rfl
        refine reg_quiet 12 rfl (by kernel_rfl) (by kernel_rfl) ?_; apply Exists.intro; refine ⟨fun w' hw' => ?_, ?_⟩; · have q0 : w'.cell? ⟨m.wb, 5, none⟩ = some (.map (some m.lb)) := cell_blk (HC0.out w' (HE4.out.trans (HE8.out.trans hw'))) rfl; go_simp; exact ⟨rfl, Ext.refl _⟩
        refine reg_pure 13 rfl (by kernel_rfl) (by kernel_rfl) ?_; apply Exists.intro; refine ⟨fun w' => ?_, ?_⟩; · go_simp; exact rfl
        refine reg_quiet 14 rfl (by kernel_rfl) (by kernel_rfl) ?_; apply Exists.intro; refine ⟨fun w' hw' => ?_, ?_⟩; · have q0 : w'.cell? ⟨q, 1, none⟩ = some (.int .i64 a) := cell_blk ((HE8.out.trans hw').blk HB4.out) rfl; go_simp; exact ⟨rfl, Ext.refl _⟩
        refine reg_quiet 15 rfl (by kernel_rfl) (by kernel_rfl) ?_; apply Exists.intro; refine ⟨fun w' hw' => ?_, ?_⟩; · have q0 := HLK.out w' (HE4.out.trans (HE8.out.trans hw')); go_simp; exact ⟨rfl, Ext.refl _⟩
        refine reg_pure 16 rfl (by kernel_rfl) (by kernel_rfl) ?_; apply Exists.intro; refine ⟨fun w' => ?_, ?_⟩; · go_simp; exact rfl
        refine reg_pure 17 rfl (by kernel_rfl) (by kernel_rfl) ?_; apply Exists.intro; refine ⟨fun w' => ?_, ?_⟩; · go_simp; exact rfl
        refine reg_done (by kernel_rfl) (fun W9 hw9 => ?_) _
        rw [HQ.out]
        clear HQ Q2
        have HE9 := hid (HE4.out.trans (HE8.out.trans hw9))
        have HB9 := hid ((HE8.out.trans hw9).blk HB4.out)
        have HX9 := hid ((HE8.out.trans hw9).blk HX4.out)
        clear hw9 HE8
        go_simp
        go_wp2_with fail
        go_ret2
        rw [HEQ.out]
        exact ⟨⟨_, rfl, fun t ht => by cases ht⟩, HE9.out⟩
      ·
        have HEQ : Hid (res = if y.isPub then some (dhT a y) else none) := hid (by rw [HMD.out, if_pos (.inr (of_decide_eq_true HLB.out))])
        refine reg_begin 18 (by kernel_rfl) ?_
        refine reg_hide (fun Q2 HQ => ?_)
        generalize hW : World.drew _ = W8
        have HE8 : Hid (Ext W4 W8) := hid (by rw [← hW]; exact Ext.drew _)
        clear hW
        refine reg_pure 0 rfl (by kernel_rfl) (by kernel_rfl) ?_; apply Exists.intro; refine ⟨fun w' => ?_, ?_⟩; · go_simp; exact rfl
        refine reg_quiet 1 rfl (by kernel_rfl) (by kernel_rfl) ?_; apply Exists.intro; refine ⟨fun w' hw' => ?_, ?_⟩; · have q0 : w'.cell? ⟨q, 1, none⟩ = some (.int .i64 a) := cell_blk ((HE8.out.trans hw').blk HB4.out) rfl; go_simp; exact ⟨rfl, Ext.refl _⟩
        refine reg_pure 2 rfl (by kernel_rfl) (by kernel_rfl) ?_; apply Exists.intro; refine ⟨fun w' => ?_, ?_⟩; · go_simp; exact rfl
        refine reg_pure 3 rfl (by kernel_rfl) (by kernel_rfl) ?_; apply Exists.intro; refine ⟨fun w' => ?_, ?_⟩; · go_simp; exact rfl
        refine reg_skip 4 rfl (by kernel_rfl) (by kernel_rfl) ?_
        refine reg_skip 5 rfl (by kernel_rfl) (by kernel_rfl) ?_
        refine reg_skip 6 rfl (by kernel_rfl) (by kernel_rfl) ?_
        refine reg_pure 7 rfl (by kernel_rfl) (by kernel_rfl) ?_; apply Exists.intro; refine ⟨fun w' => ?_, ?_⟩; · go_simp; exact rfl
        refine reg_pure 8 rfl (by kernel_rfl) (by kernel_rfl) ?_; apply Exists.intro; refine ⟨fun w' => ?_, ?_⟩; · go_simp; exact rfl
        refine reg_pure 9 rfl (by kernel_rfl) (by kernel_rfl) ?_; apply Exists.intro; refine ⟨fun w' => ?_, ?_⟩; · go_simp; exact rfl
        refine reg_pure 10 rfl (by kernel_rfl) (by kernel_rfl) ?_; apply Exists.intro; refine ⟨fun w' => ?_, ?_⟩; · go_simp; exact rfl
        refine reg_pure 11 rfl (by kernel_rfl) (by kernel_rfl) ?_; apply Exists.intro; refine ⟨fun w' => ?_, ?_⟩; · go_simp; exact rfl
        refine reg_quiet 12 rfl (by kernel_rfl) (by kernel_rfl) ?_; apply Exists.intro; refine ⟨fun w' hw' => ?_, ?_⟩; · have q0 : w'.cell? ⟨m.wb, 5, none⟩ = some (.map (some m.lb)) := cell_blk (HC0.out w' (HE4.out.trans (HE8.out.trans hw'))) rfl; go_simp; exact ⟨rfl, Ext.refl _⟩
        refine reg_pure 13 rfl (by kernel_rfl) (by kernel_rfl) ?_; apply Exists.intro; refine ⟨fun w' => ?_, ?_⟩; · go_simp; exact rfl
        refine reg_quiet 14 rfl (by kernel_rfl) (by kernel_rfl) ?_; apply Exists.intro; refine ⟨fun w' hw' => ?_, ?_⟩; · have q0 : w'.cell? ⟨q, 1, none⟩ = some (.int .i64 a) := cell_blk ((HE8.out.trans hw').blk HB4.out) rfl; go_simp; exact ⟨rfl, Ext.refl _⟩
        refine reg_quiet 15 rfl (by kernel_rfl) (by kernel_rfl) ?_; apply Exists.intro; refine ⟨fun w' hw' => ?_, ?_⟩; · have q0 := HLK.out w' (HE4.out.trans (HE8.out.trans hw')); go_simp; exact ⟨rfl, Ext.refl _⟩
        refine reg_pure 16 rfl (by kernel_rfl) (by kernel_rfl) ?_; apply Exists.intro; refine ⟨fun w' => ?_, ?_⟩; · go_simp; exact rfl
        refine reg_pure 17 rfl (by kernel_rfl) (by kernel_rfl) ?_; apply Exists.intro; refine ⟨fun w' => ?_, ?_⟩; · go_simp; exact rfl
        refine reg_done (by kernel_rfl) (fun W9 hw9 => ?_) _
        rw [HQ.out]
        clear HQ Q2
        have HE9 := hid (HE4.out.trans (HE8.out.trans hw9))
        have HB9 := hid ((HE8.out.trans hw9).blk HB4.out)
        have HX9 := hid ((HE8.out.trans hw9).blk HX4.out)
        clear hw9 HE8
        go_simp
        have d1 : W9.cell? ⟨q, 1, none⟩ = some (.int .i64 a) := cell_blk HB9.out rfl
        have HDH := hid (fun W' => Dh_any a y W')
        go_wp2_with fail
        refine (HDH.out _).mono ?_
        rintro e w1 ⟨rfl, hE1⟩
        have HE1 := hid (HE9.out.trans hE1)
        clear hE1 d1
        go_wp2_with fail
        go_ret2
        rw [HEQ.out]
        exact ⟨dh_made a y, HE1.out⟩
    ·
      by_cases ha2 : 60 ≤ a
      ·
        cases lb
        ·
          have HEQ : Hid (res = none) := hid (by rw [HMD.out, if_neg (by rintro (h | h); · omega
                                                                         · exact of_decide_eq_false HLB.out h)])
          refine reg_begin 18 (by kernel_rfl) ?_
          refine reg_hide (fun Q2 HQ => ?_)
          generalize hW : World.drew _ = W8
          have HE8 : Hid (Ext W4 W8) := hid (by rw [← hW]; exact Ext.drew _)
          clear hW
          refine reg_pure 0 rfl (by kernel_rfl) (by kernel_rfl) ?_; apply Exists.intro; refine ⟨fun w' => ?_, ?_⟩; · go_simp; exact rfl
          refine reg_quiet 1 rfl (by kernel_rfl) (by kernel_rfl) ?_; apply Exists.intro; refine ⟨fun w' hw' => ?_, ?_⟩; · have q0 : w'.cell? ⟨q, 1, none⟩ = some (.int .i64 a) := cell_blk ((HE8.out.trans hw').blk HB4.out) rfl; go_simp; exact ⟨rfl, Ext.refl _⟩
          refine reg_pure 2 rfl (by kernel_rfl) (by kernel_rfl) ?_; apply Exists.intro; refine ⟨fun w' => ?_, ?_⟩; · go_simp; exact rfl
          refine reg_pure 3 rfl (by kernel_rfl) (by kernel_rfl) ?_; apply Exists.intro; refine ⟨fun w' => ?_, ?_⟩; · go_simp; exact rfl
          refine reg_pure 4 rfl (by kernel_rfl) (by kernel_rfl) ?_; apply Exists.intro; refine ⟨fun w' => ?_, ?_⟩; · go_simp; exact rfl
          refine reg_quiet 5 rfl (by kernel_rfl) (by kernel_rfl) ?_; apply Exists.intro; refine ⟨fun w' hw' => ?_, ?_⟩; · have q0 : w'.cell? ⟨q, 1, none⟩ = some (.int .i64 a) := cell_blk ((HE8.out.trans hw').blk HB4.out) rfl; go_simp; exact ⟨rfl, Ext.refl _⟩
          refine reg_pure 6 rfl (by kernel_rfl) (by kernel_rfl) ?_; apply Exists.intro; refine ⟨fun w' => ?_, ?_⟩; · go_simp; exact rfl
          refine reg_pure 7 rfl (by kernel_rfl) (by kernel_rfl) ?_; apply Exists.intro; refine ⟨fun w' => ?_, ?_⟩; · go_simp; exact rfl
          refine reg_pure 8 rfl (by kernel_rfl) (by kernel_rfl) ?_; apply Exists.intro; refine ⟨fun w' => ?_, ?_⟩; · go_simp; exact rfl
          refine reg_pure 9 rfl (by kernel_rfl) (by kernel_rfl) ?_; apply Exists.intro; refine ⟨fun w' => ?_, ?_⟩; · go_simp; exact rfl
          refine reg_pure 10 rfl (by kernel_rfl) (by kernel_rfl) ?_; apply Exists.intro; refine ⟨fun w' => ?_, ?_⟩; · go_simp; exact rfl
          refine reg_pure 11 rfl (by kernel_rfl) (by kernel_rfl) ?_; apply Exists.intro; refine ⟨fun w' => ?_, ?_⟩; · go_simp; exact rfl
          refine reg_quiet 12 rfl (by kernel_rfl) (by kernel_rfl) ?_; apply Exists.intro; refine ⟨fun w' hw' => ?_, ?_⟩; · have q0 : w'.cell? ⟨m.wb, 5, none⟩ = some (.map (some m.lb)) := cell_blk (HC0.out w' (HE4.out.trans (HE8.out.trans hw'))) rfl; go_simp; exact ⟨rfl, Ext.refl _⟩
          refine reg_pure 13 rfl (by kernel_rfl) (by kernel_rfl) ?_; apply Exists.intro; refine ⟨fun w' => ?_, ?_⟩; · go_simp; exact rfl
          refine reg_quiet 14 rfl (by kernel_rfl) (by kernel_rfl) ?_; apply Exists.intro; refine ⟨fun w' hw' => ?_, ?_⟩; · have q0 : w'.cell? ⟨q, 1, none⟩ = some (.int .i64 a) := cell_blk ((HE8.out.trans hw').blk HB4.out) rfl; go_simp; exact ⟨rfl, Ext.refl _⟩
          refine reg_quiet 15 rfl (by kernel_rfl) (by kernel_rfl) ?_; apply Exists.intro; refine ⟨fun w' hw' => ?_, ?_⟩; · have q0 := HLK.out w' (HE4.out.trans (HE8.out.trans hw')); go_simp; exact ⟨rfl, Ext.refl _⟩
          refine reg_pure 16 rfl (by kernel_rfl) (by kernel_rfl) ?_; apply Exists.intro; refine ⟨fun w' => ?_, ?_⟩; · go_simp; exact rfl
          refine reg_pure 17 rfl (by kernel_rfl) (by kernel_rfl) ?_; apply Exists.intro; refine ⟨fun w' => ?_, ?_⟩; · go_simp; exact rfl
          refine reg_done (by kernel_rfl) (fun W9 hw9 => ?_) _
          rw [HQ.out]
          clear HQ Q2
          have HE9 := hid (HE4.out.trans (HE8.out.trans hw9))
          have HB9 := hid ((HE8.out.trans hw9).blk HB4.out)
          have HX9 := hid ((HE8.out.trans hw9).blk HX4.out)
          clear hw9 HE8
          go_simp
          go_wp2_with fail
          go_ret2
          rw [HEQ.out]
          exact ⟨⟨_, rfl, fun t ht => by cases ht⟩, HE9.out⟩
        ·
          have HEQ : Hid (res = if y.isPub then some (dhT a y) else none) := hid (by rw [HMD.out, if_pos (.inr (of_decide_eq_true HLB.out))])
          refine reg_begin 18 (by kernel_rfl) ?_
          refine reg_hide (fun Q2 HQ => ?_)
          generalize hW : World.drew _ = W8
          have HE8 : Hid (Ext W4 W8) := hid (by rw [← hW]; exact Ext.drew _)
          clear hW
          refine reg_pure 0 rfl (by kernel_rfl) (by kernel_rfl) ?_; apply Exists.intro; refine ⟨fun w' => ?_, ?_⟩; · go_simp; exact rfl
          refine reg_quiet 1 rfl (by kernel_rfl) (by kernel_rfl) ?_; apply Exists.intro; refine ⟨fun w' hw' => ?_, ?_⟩; · have q0 : w'.cell? ⟨q, 1, none⟩ = some (.int .i64 a) := cell_blk ((HE8.out.trans hw').blk HB4.out) rfl; go_simp; exact ⟨rfl, Ext.refl _⟩
          refine reg_pure 2 rfl (by kernel_rfl) (by kernel_rfl) ?_; apply Exists.intro; refine ⟨fun w' => ?_, ?_⟩; · go_simp; exact rfl
          refine reg_pure 3 rfl (by kernel_rfl) (by kernel_rfl) ?_; apply Exists.intro; refine ⟨fun w' => ?_, ?_⟩; · go_simp; exact rfl
          refine reg_pure 4 rfl (by kernel_rfl) (by kernel_rfl) ?_; apply Exists.intro; refine ⟨fun w' => ?_, ?_⟩; · go_simp; exact rfl
          refine reg_quiet 5 rfl (by kernel_rfl) (by kernel_rfl) ?_; apply Exists.intro; refine ⟨fun w' hw' => ?_, ?_⟩; · have q0 : w'.cell? ⟨q, 1, none⟩ = some (.int .i64 a) := cell_blk ((HE8.out.trans hw').blk HB4.out) rfl; go_simp; exact ⟨rfl, Ext.refl _⟩
          refine reg_pure 6 rfl (by kernel_rfl) (by kernel_rfl) ?_; apply Exists.intro; refine ⟨fun w' => ?_, ?_⟩; · go_simp; exact rfl
          refine reg_pure 7 rfl (by kernel_rfl) (by kernel_rfl) ?_; apply Exists.intro; refine ⟨fun w' => ?_, ?_⟩; · go_simp; exact rfl
          refine reg_pure 8 rfl (by kernel_rfl) (by kernel_rfl) ?_; apply Exists.intro; refine ⟨fun w' => ?_, ?_⟩; · go_simp; exact rfl
          refine reg_pure 9 rfl (by kernel_rfl) (by kernel_rfl) ?_; apply Exists.intro; refine ⟨fun w' => ?_, ?_⟩; · go_simp; exact rfl
          refine reg_pure 10 rfl (by kernel_rfl) (by kernel_rfl) ?_; apply Exists.intro; refine ⟨fun w' => ?_, ?_⟩; · go_simp; exact rfl
          refine reg_pure 11 rfl (by kernel_rfl) (by kernel_rfl) ?_; apply Exists.intro; refine ⟨fun w' => ?_, ?_⟩; · go_simp; exact rfl
          refine reg_quiet 12 rfl (by kernel_rfl) (by kernel_rfl) ?_; apply Exists.intro; refine ⟨fun w' hw' => ?_, ?_⟩; · have q0 : w'.cell? ⟨m.wb, 5, none⟩ = some (.map (some m.lb)) := cell_blk (HC0.out w' (HE4.out.trans (HE8.out.trans hw'))) rfl; go_simp; exact ⟨rfl, Ext.refl _⟩
          refine reg_pure 13 rfl (by kernel_rfl) (by kernel_rfl) ?_; apply Exists.intro; refine ⟨fun w' => ?_, ?_⟩; · go_simp; exact rfl
          refine reg_quiet 14 rfl (by kernel_rfl) (by kernel_rfl) ?_; apply Exists.intro; refine ⟨fun w' hw' => ?_, ?_⟩; · have q0 : w'.cell? ⟨q, 1, none⟩ = some (.int .i64 a) := cell_blk ((HE8.out.trans hw').blk HB4.out) rfl; go_simp; exact ⟨rfl, Ext.refl _⟩
          refine reg_quiet 15 rfl (by kernel_rfl) (by kernel_rfl) ?_; apply Exists.intro; refine ⟨fun w' hw' => ?_, ?_⟩; · have q0 := HLK.out w' (HE4.out.trans (HE8.out.trans hw')); go_simp; exact ⟨rfl, Ext.refl _⟩
          refine reg_pure 16 rfl (by kernel_rfl) (by kernel_rfl) ?_; apply Exists.intro; refine ⟨fun w' => ?_, ?_⟩; · go_simp; exact rfl
          refine reg_pure 17 rfl (by kernel_rfl) (by kernel_rfl) ?_; apply Exists.intro; refine ⟨fun w' => ?_, ?_⟩; · go_simp; exact rfl
          refine reg_done (by kernel_rfl) (fun W9 hw9 => ?_) _
          rw [HQ.out]
          clear HQ Q2
          have HE9 := hid (HE4.out.trans (HE8.out.trans hw9))
          have HB9 := hid ((HE8.out.trans hw9).blk HB4.out)
          have HX9 := hid ((HE8.out.trans hw9).blk HX4.out)
          clear hw9 HE8
          go_simp
          have d1 : W9.cell? ⟨q, 1, none⟩ = some (.int .i64 a) := cell_blk HB9.out rfl
          have HDH := hid (fun W' => Dh_any a y W')
          go_wp2_with fail
          refine (HDH.out _).mono ?_
          rintro e w1 ⟨rfl, hE1⟩
          have HE1 := hid (HE9.out.trans hE1)
          clear hE1 d1
          go_wp2_with fail
          go_ret2
          rw [HEQ.out]
          exact ⟨dh_made a y, HE1.out⟩
      ·
        have HEQ : Hid (res = if y.isPub then some (dhT a y) else none) := hid (by rw [HMD.out, if_pos (.inl (by omega))])
        refine reg_begin 18 (by kernel_rfl) ?_
        refine reg_hide (fun Q2 HQ => ?_)
        generalize hW : World.drew _ = W8
        have HE8 : Hid (Ext W4 W8) := hid (by rw [← hW]; exact Ext.drew _)
        clear hW
        refine reg_pure 0 rfl (by kernel_rfl) (by kernel_rfl) ?_; apply Exists.intro; refine ⟨fun w' => ?_, ?_⟩; · go_simp; exact rfl
        refine reg_quiet 1 rfl (by kernel_rfl) (by kernel_rfl) ?_; apply Exists.intro; refine ⟨fun w' hw' => ?_, ?_⟩; · have q0 : w'.cell? ⟨q, 1, none⟩ = some (.int .i64 a) := cell_blk ((HE8.out.trans hw').blk HB4.out) rfl; go_simp; exact ⟨rfl, Ext.refl _⟩
        refine reg_pure 2 rfl (by kernel_rfl) (by kernel_rfl) ?_; apply Exists.intro; refine ⟨fun w' => ?_, ?_⟩; · go_simp; exact rfl
        refine reg_pure 3 rfl (by kernel_rfl) (by kernel_rfl) ?_; apply Exists.intro; refine ⟨fun w' => ?_, ?_⟩; · go_simp; exact rfl
        refine reg_pure 4 rfl (by kernel_rfl) (by kernel_rfl) ?_; apply Exists.intro; refine ⟨fun w' => ?_, ?_⟩; · go_simp; exact rfl
        refine reg_quiet 5 rfl (by kernel_rfl) (by kernel_rfl) ?_; apply Exists.intro; refine ⟨fun w' hw' => ?_, ?_⟩; · have q0 : w'.cell? ⟨q, 1, none⟩ = some (.int .i64 a) := cell_blk ((HE8.out.trans hw').blk HB4.out) rfl; go_simp; exact ⟨rfl, Ext.refl _⟩
        refine reg_pure 6 rfl (by kernel_rfl) (by kernel_rfl) ?_; apply Exists.intro; refine ⟨fun w' => ?_, ?_⟩; · go_simp; exact rfl
        refine reg_pure 7 rfl (by kernel_rfl) (by kernel_rfl) ?_; apply Exists.intro; refine ⟨fun w' => ?_, ?_⟩; · go_simp; exact rfl
        refine reg_pure 8 rfl (by kernel_rfl) (by kernel_rfl) ?_; apply Exists.intro; refine ⟨fun w' => ?_, ?_⟩; · go_simp; exact rfl
        refine reg_skip 9 rfl (by kernel_rfl) (by kernel_rfl) ?_
        refine reg_skip 10 rfl (by kernel_rfl) (by kernel_rfl) ?_
        refine reg_skip 11 rfl (by kernel_rfl) (by kernel_rfl) ?_
        refine reg_skip 12 rfl (by kernel_rfl) (by kernel_rfl) ?_
        refine reg_skip 13 rfl (by kernel_rfl) (by kernel_rfl) ?_
        refine reg_skip 14 rfl (by kernel_rfl) (by kernel_rfl) ?_
        refine reg_skip 15 rfl (by kernel_rfl) (by kernel_rfl) ?_
        refine reg_skip 16 rfl (by kernel_rfl) (by kernel_rfl) ?_
        refine reg_pure 17 rfl (by kernel_rfl) (by kernel_rfl) ?_; apply Exists.intro; refine ⟨fun w' => ?_, ?_⟩; · go_simp; exact rfl
        refine reg_done (by kernel_rfl) (fun W9 hw9 => ?_) _
        rw [HQ.out]
        clear HQ Q2
        have HE9 := hid (HE4.out.trans (HE8.out.trans hw9))
        have HB9 := hid ((HE8.out.trans hw9).blk HB4.out)
        have HX9 := hid ((HE8.out.trans hw9).blk HX4.out)
        clear hw9 HE8
        go_simp
        have d1 : W9.cell? ⟨q, 1, none⟩ = some (.int .i64 a) := cell_blk HB9.out rfl
        have HDH := hid (fun W' => Dh_any a y W')
        go_wp2_with fail
        refine (HDH.out _).mono ?_
        rintro e w1 ⟨rfl, hE1⟩
        have HE1 := hid (HE9.out.trans hE1)
        clear hE1 d1
        go_wp2_with fail
        go_ret2
        rw [HEQ.out]
        exact ⟨dh_made a y, HE1.out⟩
  · obtain ⟨xk, xn, xa, xt, rfl⟩ := isBox_box hbx
    have hxo := HXB.out (by simp)
    obtain ⟨ku, kd, hkv⟩ := Va.of hxo.2.1.ne
    obtain ⟨au, ad, hav⟩ := Va.of hxo.2.2.1.ne
    obtain ⟨tu, td, htv⟩ := Va.of hxo.2.2.2.ne
    have hv : (Tm.box xk xn xa xt).val = .iface 90 (.agg #[.iface ku kd, .int .i64 xn, .iface au ad, .iface tu td]) := by simp [Tm.val, hkv.eq, hav.eq, htv.eq]
    rw [hv]
    clear hv hkv hav htv hxo HXB hbx
    generalize Tm.box xk xn xa xt = x at *
    have HE4 := hid (HE3.out.trans (Ext.alloc W3 (.cells #[.iface ku kd, .int .i64 xn, .iface au ad, .iface tu td] 90 (0, 0))))
    have HB4 := hid ((Ext.alloc W3 (.cells #[.iface ku kd, .int .i64 xn, .iface au ad, .iface tu td] 90 (0, 0))).blk HB3.out)
    have HX4 := hid (blk_new W3 (.cells #[.iface ku kd, .int .i64 xn, .iface au ad, .iface tu td] 90 (0, 0)))
    go_upto_region 3 with fail
    generalize World.alloc W3 _ = W4 at *
    generalize W3.heap.size = p at *
    clear HE3 HB3
    have d0 : W4.cell? ⟨q, 0, none⟩ = some (.int .i64 7) := cell_blk HB4.out rfl
    go_wp2_with fail
    clear d0
    generalize hlb : decide (a ∈ μ.leaked) = lb at *
    have HLB := hid hlb
    clear hlb
    by_cases ha1 : a < 50
    ·
      cases lb
      ·
        have HEQ : Hid (res = none) := hid (by rw [HMD.out, if_neg (by rintro (h | h); · omega
                                                                       · exact of_decide_eq_false HLB.out h)])
        refine reg_begin 18 (by kernel_rfl) ?_
        refine reg_hide (fun Q2 HQ => ?_)
        generalize hW : World.drew _ = W8
        have HE8 : Hid (Ext W4 W8) := hid (by rw [← hW]; exact Ext.drew _)
        clear hW
        refine reg_pure 0 rfl (by kernel_rfl) (by kernel_rfl) ?_; apply Exists.intro; refine ⟨fun w' => ?_, ?_⟩; · go_simp; exact rfl
        refine reg_quiet 1 rfl (by kernel_rfl) (by kernel_rfl) ?_; apply Exists.intro; refine ⟨fun w' hw' => ?_, ?_⟩; · have q0 : w'.cell? ⟨q, 1, none⟩ = some (.int .i64 a) := cell_blk ((HE8.out.trans hw').blk HB4.out) rfl; go_simp; exact ⟨rfl, Ext.refl _⟩
        refine reg_pure 2 rfl (by kernel_rfl) (by kernel_rfl) ?_; apply Exists.intro; refine ⟨fun w' => ?_, ?_⟩; · go_simp; exact rfl
        refine reg_pure 3 rfl (by kernel_rfl) (by kernel_rfl) ?_; apply Exists.intro; refine ⟨fun w' => ?_, ?_⟩; · go_simp; exact rfl
        refine reg_skip 4 rfl (by kernel_rfl) (by kernel_rfl) ?_
        refine reg_skip 5 rfl (by kernel_rfl) (by kernel_rfl) ?_
        refine reg_skip 6 rfl (by kernel_rfl) (by kernel_rfl) ?_
        refine reg_pure 7 rfl (by kernel_rfl) (by kernel_rfl) ?_; apply Exists.intro; refine ⟨fun w' => ?_, ?_⟩; · go_simp; exact rfl
        refine reg_pure 8 rfl (by kernel_rfl) (by kernel_rfl) ?_; apply Exists.intro; refine ⟨fun w' => ?_, ?_⟩; · go_simp; exact rfl
        refine reg_pure 9 rfl (by kernel_rfl) (by kernel_rfl) ?_; apply Exists.intro; refine ⟨fun w' => ?_, ?_⟩; · go_simp; exact rfl
        refine reg_pure 10 rfl (by kernel_rfl) (by kernel_rfl) ?_; apply Exists.intro; refine ⟨fun w' => ?_, ?_⟩; · go_simp; exact rfl
        refine reg_pure 11 rfl (by kernel_rfl) (by kernel_rfl) ?_; apply Exists.intro; refine ⟨fun w' => ?_, ?_⟩; · go_simp; exact rfl
        refine reg_quiet 12 rfl (by kernel_rfl) (by kernel_rfl) ?_; apply Exists.intro; refine ⟨fun w' hw' => ?_, ?_⟩; · have q0 : w'.cell? ⟨m.wb, 5, none⟩ = some (.map (some m.lb)) := cell_blk (HC0.out w' (HE4.out.trans (HE8.out.trans hw'))) rfl; go_simp; exact ⟨rfl, Ext.refl _⟩
        refine reg_pure 13 rfl (by kernel_rfl) (by kernel_rfl) ?_; apply Exists.intro; refine ⟨fun w' => ?_, ?_⟩; · go_simp; exact rfl
        refine reg_quiet 14 rfl (by kernel_rfl) (by kernel_rfl) ?_; apply Exists.intro; refine ⟨fun w' hw' => ?_, ?_⟩; · have q0 : w'.cell? ⟨q, 1, none⟩ = some (.int .i64 a) := cell_blk ((HE8.out.trans hw').blk HB4.out) rfl; go_simp; exact ⟨rfl, Ext.refl _⟩
        refine reg_quiet 15 rfl (by kernel_rfl) (by kernel_rfl) ?_; apply Exists.intro; refine ⟨fun w' hw' => ?_, ?_⟩; · have q0 := HLK.out w' (HE4.out.trans (HE8.out.trans hw')); go_simp; exact ⟨rfl, Ext.refl _⟩
        refine reg_pure 16 rfl (by kernel_rfl) (by kernel_rfl) ?_; apply Exists.intro; refine ⟨fun w' => ?_, ?_⟩; · go_simp; exact rfl
        refine reg_pure 17 rfl (by kernel_rfl) (by kernel_rfl) ?_; apply Exists.intro; refine ⟨fun w' => ?_, ?_⟩; · go_simp; exact rfl
        refine reg_done (by kernel_rfl) (fun W9 hw9 => ?_) _
        rw [HQ.out]
        clear HQ Q2
        have HE9 := hid (HE4.out.trans (HE8.out.trans hw9))
        have HB9 := hid ((HE8.out.trans hw9).blk HB4.out)
        have HX9 := hid ((HE8.out.trans hw9).blk HX4.out)
        clear hw9 HE8
        go_simp
        go_wp2_with fail
        go_ret2
        rw [HEQ.out]
        exact ⟨⟨_, rfl, fun t ht => by cases ht⟩, HE9.out⟩
      ·
        have HEQ : Hid (res = if y.isPub then some (dhT a y) else none) := hid (by rw [HMD.out, if_pos (.inr (of_decide_eq_true HLB.out))])
        refine reg_begin 18 (by kernel_rfl) ?_
        refine reg_hide (fun Q2 HQ => ?_)
        generalize hW : World.drew _ = W8
        have HE8 : Hid (Ext W4 W8) := hid (by rw [← hW]; exact Ext.drew _)
        clear hW
        refine reg_pure 0 rfl (by kernel_rfl) (by kernel_rfl) ?_; apply Exists.intro; refine ⟨fun w' => ?_, ?_⟩; · go_simp; exact rfl
        refine reg_quiet 1 rfl (by kernel_rfl) (by kernel_rfl) ?_; apply Exists.intro; refine ⟨fun w' hw' => ?_, ?_⟩; · have q0 : w'.cell? ⟨q, 1, none⟩ = some (.int .i64 a) := cell_blk ((HE8.out.trans hw').blk HB4.out) rfl; go_simp; exact ⟨rfl, Ext.refl _⟩
        refine reg_pure 2 rfl (by kernel_rfl) (by kernel_rfl) ?_; apply Exists.intro; refine ⟨fun w' => ?_, ?_⟩; · go_simp; exact rfl
        refine reg_pure 3 rfl (by kernel_rfl) (by kernel_rfl) ?_; apply Exists.intro; refine ⟨fun w' => ?_, ?_⟩; · go_simp; exact rfl
        refine reg_skip 4 rfl (by kernel_rfl) (by kernel_rfl) ?_
        refine reg_skip 5 rfl (by kernel_rfl) (by kernel_rfl) ?_
        refine reg_skip 6 rfl (by kernel_rfl) (by kernel_rfl) ?_
        refine reg_pure 7 rfl (by kernel_rfl) (by kernel_rfl) ?_; apply Exists.intro; refine ⟨fun w' => ?_, ?_⟩; · go_simp; exact rfl
        refine reg_pure 8 rfl (by kernel_rfl) (by kernel_rfl) ?_; apply Exists.intro; refine ⟨fun w' => ?_, ?_⟩; · go_simp; exact rfl
        refine reg_pure 9 rfl (by kernel_rfl) (by kernel_rfl) ?_; apply Exists.intro; refine ⟨fun w' => ?_, ?_⟩; · go_simp; exact rfl
        refine reg_pure 10 rfl (by kernel_rfl) (by kernel_rfl) ?_; apply Exists.intro; refine ⟨fun w' => ?_, ?_⟩; · go_simp; exact rfl
        refine reg_pure 11 rfl (by kernel_rfl) (by kernel_rfl) ?_; apply Exists.intro; refine ⟨fun w' => ?_, ?_⟩; · go_simp; exact rfl
        refine reg_quiet 12 rfl (by kernel_rfl) (by kernel_rfl) ?_; apply Exists.intro; refine ⟨fun w' hw' => ?_, ?_⟩; · have q0 : w'.cell? ⟨m.wb, 5, none⟩ = some (.map (some m.lb)) := cell_blk (HC0.out w' (HE4.out.trans (HE8.out.trans hw'))) rfl; go_simp; exact ⟨rfl, Ext.refl _⟩
        refine reg_pure 13 rfl (by kernel_rfl) (by kernel_rfl) ?_; apply Exists.intro; refine ⟨fun w' => ?_, ?_⟩; · go_simp; exact rfl
        refine reg_quiet 14 rfl (by kernel_rfl) (by kernel_rfl) ?_; apply Exists.intro; refine ⟨fun w' hw' => ?_, ?_⟩; · have q0 : w'.cell? ⟨q, 1, none⟩ = some (.int .i64 a) := cell_blk ((HE8.out.trans hw').blk HB4.out) rfl; go_simp; exact ⟨rfl, Ext.refl _⟩
        refine reg_quiet 15 rfl (by kernel_rfl) (by kernel_rfl) ?_; apply Exists.intro; refine ⟨fun w' hw' => ?_, ?_⟩; · have q0 := HLK.out w' (HE4.out.trans (HE8.out.trans hw')); go_simp; exact ⟨rfl, Ext.refl _⟩
        refine reg_pure 16 rfl (by kernel_rfl) (by kernel_rfl) ?_; apply Exists.intro; refine ⟨fun w' => ?_, ?_⟩; · go_simp; exact rfl
        refine reg_pure 17 rfl (by kernel_rfl) (by kernel_rfl) ?_; apply Exists.intro; refine ⟨fun w' => ?_, ?_⟩; · go_simp; exact rfl
        refine reg_done (by kernel_rfl) (fun W9 hw9 => ?_) _
        rw [HQ.out]
        clear HQ Q2
        have HE9 := hid (HE4.out.trans (HE8.out.trans hw9))
        have HB9 := hid ((HE8.out.trans hw9).blk HB4.out)
        have HX9 := hid ((HE8.out.trans hw9).blk HX4.out)
        clear hw9 HE8
        go_simp
        have d1 : W9.cell? ⟨q, 1, none⟩ = some (.int .i64 a) := cell_blk HB9.out rfl
        have HDH := hid (fun W' => Dh_any a y W')
        go_wp2_with fail
        refine (HDH.out _).mono ?_
        rintro e w1 ⟨rfl, hE1⟩
        have HE1 := hid (HE9.out.trans hE1)
        clear hE1 d1
        go_wp2_with fail
        go_ret2
        rw [HEQ.out]
        exact ⟨dh_made a y, HE1.out⟩
    ·
      by_cases ha2 : 60 ≤ a
      ·
        cases lb
        ·
          have HEQ : Hid (res = none) := hid (by rw [HMD.out, if_neg (by rintro (h | h); · omega
                                                                         · exact of_decide_eq_false HLB.out h)])
          refine reg_begin 18 (by kernel_rfl) ?_
          refine reg_hide (fun Q2 HQ => ?_)
          generalize hW : World.drew _ = W8
          have HE8 : Hid (Ext W4 W8) := hid (by rw [← hW]; exact Ext.drew _)
          clear hW
          refine reg_pure 0 rfl (by kernel_rfl) (by kernel_rfl) ?_; apply Exists.intro; refine ⟨fun w' => ?_, ?_⟩; · go_simp; exact rfl
          refine reg_quiet 1 rfl (by kernel_rfl) (by kernel_rfl) ?_; apply Exists.intro; refine ⟨fun w' hw' => ?_, ?_⟩; · have q0 : w'.cell? ⟨q, 1, none⟩ = some (.int .i64 a) := cell_blk ((HE8.out.trans hw').blk HB4.out) rfl; go_simp; exact ⟨rfl, Ext.refl _⟩
          refine reg_pure 2 rfl (by kernel_rfl) (by kernel_rfl) ?_; apply Exists.intro; refine ⟨fun w' => ?_, ?_⟩; · go_simp; exact rfl
          refine reg_pure 3 rfl (by kernel_rfl) (by kernel_rfl) ?_; apply Exists.intro; refine ⟨fun w' => ?_, ?_⟩; · go_simp; exact rfl
          refine reg_pure 4 rfl (by kernel_rfl) (by kernel_rfl) ?_; apply Exists.intro; refine ⟨fun w' => ?_, ?_⟩; · go_simp; exact rfl
          refine reg_quiet 5 rfl (by kernel_rfl) (by kernel_rfl) ?_; apply Exists.intro; refine ⟨fun w' hw' => ?_, ?_⟩; · have q0 : w'.cell? ⟨q, 1, none⟩ = some (.int .i64 a) := cell_blk ((HE8.out.trans hw').blk HB4.out) rfl; go_simp; exact ⟨rfl, Ext.refl _⟩
          refine reg_pure 6 rfl (by kernel_rfl) (by kernel_rfl) ?_; apply Exists.intro; refine ⟨fun w' => ?_, ?_⟩; · go_simp; exact rfl
          refine reg_pure 7 rfl (by kernel_rfl) (by kernel_rfl) ?_; apply Exists.intro; refine ⟨fun w' => ?_, ?_⟩; · go_simp; exact rfl
          refine reg_pure 8 rfl (by kernel_rfl) (by kernel_rfl) ?_; apply Exists.intro; refine ⟨fun w' => ?_, ?_⟩; · go_simp; exact rfl
          refine reg_pure 9 rfl (by kernel_rfl) (by kernel_rfl) ?_; apply Exists.intro; refine ⟨fun w' => ?_, ?_⟩; · go_simp; exact rfl
          refine reg_pure 10 rfl (by kernel_rfl) (by kernel_rfl) ?_; apply Exists.intro; refine ⟨fun w' => ?_, ?_⟩; · go_simp; exact rfl
          refine reg_pure 11 rfl (by kernel_rfl) (by kernel_rfl) ?_; apply Exists.intro; refine ⟨fun w' => ?_, ?_⟩; · go_simp; exact rfl
          refine reg_quiet 12 rfl (by kernel_rfl) (by kernel_rfl) ?_; apply Exists.intro; refine ⟨fun w' hw' => ?_, ?_⟩; · have q0 : w'.cell? ⟨m.wb, 5, none⟩ = some (.map (some m.lb)) := cell_blk (HC0.out w' (HE4.out.trans (HE8.out.trans hw'))) rfl; go_simp; exact ⟨rfl, Ext.refl _⟩
          refine reg_pure 13 rfl (by kernel_rfl) (by kernel_rfl) ?_; apply Exists.intro; refine ⟨fun w' => ?_, ?_⟩; · go_simp; exact rfl
          refine reg_quiet 14 rfl (by kernel_rfl) (by kernel_rfl) ?_; apply Exists.intro; refine ⟨fun w' hw' => ?_, ?_⟩; · have q0 : w'.cell? ⟨q, 1, none⟩ = some (.int .i64 a) := cell_blk ((HE8.out.trans hw').blk HB4.out) rfl; go_simp; exact ⟨rfl, Ext.refl _⟩
          refine reg_quiet 15 rfl (by kernel_rfl) (by kernel_rfl) ?_; apply Exists.intro; refine ⟨fun w' hw' => ?_, ?_⟩; · have q0 := HLK.out w' (HE4.out.trans (HE8.out.trans hw')); go_simp; exact ⟨rfl, Ext.refl _⟩
          refine reg_pure 16 rfl (by kernel_rfl) (by kernel_rfl) ?_; apply Exists.intro; refine ⟨fun w' => ?_, ?_⟩; · go_simp; exact rfl
          refine reg_pure 17 rfl (by kernel_rfl) (by kernel_rfl) ?_; apply Exists.intro; refine ⟨fun w' => ?_, ?_⟩; · go_simp; exact rfl
          refine reg_done (by kernel_rfl) (fun W9 hw9 => ?_) _
          rw [HQ.out]
          clear HQ Q2
          have HE9 := hid (HE4.out.trans (HE8.out.trans hw9))
          have HB9 := hid ((HE8.out.trans hw9).blk HB4.out)
          have HX9 := hid ((HE8.out.trans hw9).blk HX4.out)
          clear hw9 HE8
          go_simp
          go_wp2_with fail
          go_ret2
          rw [HEQ.out]
          exact ⟨⟨_, rfl, fun t ht => by cases ht⟩, HE9.out⟩
        ·
          have HEQ : Hid (res = if y.isPub then some (dhT a y) else none) := hid (by rw [HMD.out, if_pos (.inr (of_decide_eq_true HLB.out))])
          refine reg_begin 18 (by kernel_rfl) ?_
          refine reg_hide (fun Q2 HQ => ?_)
          generalize hW : World.drew _ = W8
          have HE8 : Hid (Ext W4 W8) := hid (by rw [← hW]; exact Ext.drew _)
          clear hW
          refine reg_pure 0 rfl (by kernel_rfl) (by kernel_rfl) ?_; apply Exists.intro; refine ⟨fun w' => ?_, ?_⟩; · go_simp; exact rfl
          refine reg_quiet 1 rfl (by kernel_rfl) (by kernel_rfl) ?_; apply Exists.intro; refine ⟨fun w' hw' => ?_, ?_⟩; · have q0 : w'.cell? ⟨q, 1, none⟩ = some (.int .i64 a) := cell_blk ((HE8.out.trans hw').blk HB4.out) rfl; go_simp; exact ⟨rfl, Ext.refl _⟩
          refine reg_pure 2 rfl (by kernel_rfl) (by kernel_rfl) ?_; apply Exists.intro; refine ⟨fun w' => ?_, ?_⟩; · go_simp; exact rfl
          refine reg_pure 3 rfl (by kernel_rfl) (by kernel_rfl) ?_; apply Exists.intro; refine ⟨fun w' => ?_, ?_⟩; · go_simp; exact rfl
          refine reg_pure 4 rfl (by kernel_rfl) (by kernel_rfl) ?_; apply Exists.intro; refine ⟨fun w' => ?_, ?_⟩; · go_simp; exact rfl
          refine reg_quiet 5 rfl (by kernel_rfl) (by kernel_rfl) ?_; apply Exists.intro; refine ⟨fun w' hw' => ?_, ?_⟩; · have q0 : w'.cell? ⟨q, 1, none⟩ = some (.int .i64 a) := cell_blk ((HE8.out.trans hw').blk HB4.out) rfl; go_simp; exact ⟨rfl, Ext.refl _⟩
          refine reg_pure 6 rfl (by kernel_rfl) (by kernel_rfl) ?_; apply Exists.intro; refine ⟨fun w' => ?_, ?_⟩; · go_simp; exact rfl
          refine reg_pure 7 rfl (by kernel_rfl) (by kernel_rfl) ?_; apply Exists.intro; refine ⟨fun w' => ?_, ?_⟩; · go_simp; exact rfl
          refine reg_pure 8 rfl (by kernel_rfl) (by kernel_rfl) ?_; apply Exists.intro; refine ⟨fun w' => ?_, ?_⟩; · go_simp; exact rfl
          refine reg_pure 9 rfl (by kernel_rfl) (by kernel_rfl) ?_; apply Exists.intro; refine ⟨fun w' => ?_, ?_⟩; · go_simp; exact rfl
          refine reg_pure 10 rfl (by kernel_rfl) (by kernel_rfl) ?_; apply Exists.intro; refine ⟨fun w' => ?_, ?_⟩; · go_simp; exact rfl
          refine reg_pure 11 rfl (by kernel_rfl) (by kernel_rfl) ?_; apply Exists.intro; refine ⟨fun w' => ?_, ?_⟩; · go_simp; exact rfl
          refine reg_quiet 12 rfl (by kernel_rfl) (by kernel_rfl) ?_; apply Exists.intro; refine ⟨fun w' hw' => ?_, ?_⟩; · have q0 : w'.cell? ⟨m.wb, 5, none⟩ = some (.map (some m.lb)) := cell_blk (HC0.out w' (HE4.out.trans (HE8.out.trans hw'))) rfl; go_simp; exact ⟨rfl, Ext.refl _⟩
          refine reg_pure 13 rfl (by kernel_rfl) (by kernel_rfl) ?_; apply Exists.intro; refine ⟨fun w' => ?_, ?_⟩; · go_simp; exact rfl
          refine reg_quiet 14 rfl (by kernel_rfl) (by kernel_rfl) ?_; apply Exists.intro; refine ⟨fun w' hw' => ?_, ?_⟩; · have q0 : w'.cell? ⟨q, 1, none⟩ = some (.int .i64 a) := cell_blk ((HE8.out.trans hw').blk HB4.out) rfl; go_simp; exact ⟨rfl, Ext.refl _⟩
          refine reg_quiet 15 rfl (by kernel_rfl) (by kernel_rfl) ?_; apply Exists.intro; refine ⟨fun w' hw' => ?_, ?_⟩; · have q0 := HLK.out w' (HE4.out.trans (HE8.out.trans hw')); go_simp; exact ⟨rfl, Ext.refl _⟩
          refine reg_pure 16 rfl (by kernel_rfl) (by kernel_rfl) ?_; apply Exists.intro; refine ⟨fun w' => ?_, ?_⟩; · go_simp; exact rfl
          refine reg_pure 17 rfl (by kernel_rfl) (by kernel_rfl) ?_; apply Exists.intro; refine ⟨fun w' => ?_, ?_⟩; · go_simp; exact rfl
          refine reg_done (by kernel_rfl) (fun W9 hw9 => ?_) _
          rw [HQ.out]
          clear HQ Q2
          have HE9 := hid (HE4.out.trans (HE8.out.trans hw9))
          have HB9 := hid ((HE8.out.trans hw9).blk HB4.out)
          have HX9 := hid ((HE8.out.trans hw9).blk HX4.out)
          clear hw9 HE8
          go_simp
          have d1 : W9.cell? ⟨q, 1, none⟩ = some (.int .i64 a) := cell_blk HB9.out rfl
          have HDH := hid (fun W' => Dh_any a y W')
          go_wp2_with fail
          refine (HDH.out _).mono ?_
          rintro e w1 ⟨rfl, hE1⟩
          have HE1 := hid (HE9.out.trans hE1)
          clear hE1 d1
          go_wp2_with fail
          go_ret2
          rw [HEQ.out]
          exact ⟨dh_made a y, HE1.out⟩
      ·
        have HEQ : Hid (res = if y.isPub then some (dhT a y) else none) := hid (by rw [HMD.out, if_pos (.inl (by omega))])
        refine reg_begin 18 (by kernel_rfl) ?_
        refine reg_hide (fun Q2 HQ => ?_)
        generalize hW : World.drew _ = W8
        have HE8 : Hid (Ext W4 W8) := hid (by rw [← hW]; exact Ext.drew _)
        clear hW
        refine reg_pure 0 rfl (by kernel_rfl) (by kernel_rfl) ?_; apply Exists.intro; refine ⟨fun w' => ?_, ?_⟩; · go_simp; exact rfl
        refine reg_quiet 1 rfl (by kernel_rfl) (by kernel_rfl) ?_; apply Exists.intro; refine ⟨fun w' hw' => ?_, ?_⟩; · have q0 : w'.cell? ⟨q, 1, none⟩ = some (.int .i64 a) := cell_blk ((HE8.out.trans hw').blk HB4.out) rfl; go_simp; exact ⟨rfl, Ext.refl _⟩
        refine reg_pure 2 rfl (by kernel_rfl) (by kernel_rfl) ?_; apply Exists.intro; refine ⟨fun w' => ?_, ?_⟩; · go_simp; exact rfl
        refine reg_pure 3 rfl (by kernel_rfl) (by kernel_rfl) ?_; apply Exists.intro; refine ⟨fun w' => ?_, ?_⟩; · go_simp; exact rfl
        refine reg_pure 4 rfl (by kernel_rfl) (by kernel_rfl) ?_; apply Exists.intro; refine ⟨fun w' => ?_, ?_⟩; · go_simp; exact rfl
        refine reg_quiet 5 rfl (by kernel_rfl) (by kernel_rfl) ?_; apply Exists.intro; refine ⟨fun w' hw' => ?_, ?_⟩; · have q0 : w'.cell? ⟨q, 1, none⟩ = some (.int .i64 a) := cell_blk ((HE8.out.trans hw').blk HB4.out) rfl; go_simp; exact ⟨rfl, Ext.refl _⟩
        refine reg_pure 6 rfl (by kernel_rfl) (by kernel_rfl) ?_; apply Exists.intro; refine ⟨fun w' => ?_, ?_⟩; · go_simp; exact rfl
        refine reg_pure 7 rfl (by kernel_rfl) (by kernel_rfl) ?_; apply Exists.intro; refine ⟨fun w' => ?_, ?_⟩; · go_simp; exact rfl
        refine reg_pure 8 rfl (by kernel_rfl) (by kernel_rfl) ?_; apply Exists.intro; refine ⟨fun w' => ?_, ?_⟩; · go_simp; exact rfl
        refine reg_skip 9 rfl (by kernel_rfl) (by kernel_rfl) ?_
        refine reg_skip 10 rfl (by kernel_rfl) (by kernel_rfl) ?_
        refine reg_skip 11 rfl (by kernel_rfl) (by kernel_rfl) ?_
        refine reg_skip 12 rfl (by kernel_rfl) (by kernel_rfl) ?_
        refine reg_skip 13 rfl (by kernel_rfl) (by kernel_rfl) ?_
        refine reg_skip 14 rfl (by kernel_rfl) (by kernel_rfl) ?_
        refine reg_skip 15 rfl (by kernel_rfl) (by kernel_rfl) ?_
        refine reg_skip 16 rfl (by kernel_rfl) (by kernel_rfl) ?_
        refine reg_pure 17 rfl (by kernel_rfl) (by kernel_rfl) ?_; apply Exists.intro; refine ⟨fun w' => ?_, ?_⟩; · go_simp; exact rfl
        refine reg_done (by kernel_rfl) (fun W9 hw9 => ?_) _
        rw [HQ.out]
        clear HQ Q2
        have HE9 := hid (HE4.out.trans (HE8.out.trans hw9))
        have HB9 := hid ((HE8.out.trans hw9).blk HB4.out)
        have HX9 := hid ((HE8.out.trans hw9).blk HX4.out)
        clear hw9 HE8
        go_simp
        have d1 : W9.cell? ⟨q, 1, none⟩ = some (.int .i64 a) := cell_blk HB9.out rfl
        have HDH := hid (fun W' => Dh_any a y W')
        go_wp2_with fail
        refine (HDH.out _).mono ?_
        rintro e w1 ⟨rfl, hE1⟩
        have HE1 := hid (HE9.out.trans hE1)
        clear hE1 d1
        go_wp2_with fail
        go_ret2
        rw [HEQ.out]
        exact ⟨dh_made a y, HE1.out⟩

end Go.Proofs.YtjodmedgkmeklaaGreat
