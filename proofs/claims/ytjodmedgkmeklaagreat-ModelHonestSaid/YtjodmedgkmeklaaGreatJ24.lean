/-
  Texts merged: Q34, Q35.
-/
import Derived.Test.YtjodmedgkmeklaaGreatJ23
/-
  Play, where a side begins, and where an honest side acts.
-/
namespace Go.Proofs.YtjodmedgkmeklaaGreat
open Go Go.RowKit Go.Maps
attribute [local go_sem] extUpon run_store_tm
attribute [local go_sem ↓] Tm.val_cell eval_put_ne eval_put_none eval_put_same size_put eval_const
attribute [local go_sem ↓] meth_Atom meth_Public meth_Shared meth_Chain meth_Digest meth_Box meth_Empty
attribute [local go_sem ↓] run_build_chain run_build_digest run_build_box
attribute [local go_sem] ta_Atom_Atom ta_Public_Atom ta_Shared_Atom ta_Chain_Atom ta_Digest_Atom ta_Box_Atom ta_Empty_Atom ta_Nil_Atom ta_Atom_Public ta_Public_Public ta_Shared_Public ta_Chain_Public ta_Digest_Public ta_Box_Public ta_Empty_Public ta_Nil_Public ta_Atom_Shared ta_Public_Shared ta_Shared_Shared ta_Chain_Shared ta_Digest_Shared ta_Box_Shared ta_Empty_Shared ta_Nil_Shared ta_Atom_Chain ta_Public_Chain ta_Shared_Chain ta_Chain_Chain ta_Digest_Chain ta_Box_Chain ta_Empty_Chain ta_Nil_Chain ta_Atom_Digest ta_Public_Digest ta_Shared_Digest ta_Chain_Digest ta_Digest_Digest ta_Box_Digest ta_Empty_Digest ta_Nil_Digest ta_Atom_Box ta_Public_Box ta_Shared_Box ta_Chain_Box ta_Digest_Box ta_Box_Box ta_Empty_Box ta_Nil_Box ta_Atom_Empty ta_Public_Empty ta_Shared_Empty ta_Chain_Empty ta_Digest_Empty ta_Box_Empty ta_Empty_Empty ta_Nil_Empty
variable {f : Int → List UInt8} {P : Int → Prop} {w0 w W W2 W3 : World} {own own2 : Nat → Option Tg} {m m2 : MB} {μ μ2 : MS} {v v2 : KV}

abbrev opC (kind a b c : Int) : Array Value := #[.int .i64 kind, .int .i64 a, .int .i64 b, .int .i64 c]
set_option maxHeartbeats 8000000 in
set_option maxRecDepth 100000 in
theorem play_begin (a b c : Int) (h : MAt f P w0 W own m μ v) (hfs : μ.statics.length ≤ 1000) :
    Calls Tryz.prog 16 #[ptr m.wb, .agg #[.int .i64 1, .int .i64 a, .int .i64 b, .int .i64 c]] W fun e w' => e = .returned (.int .i64 (μ.begin (decide (a = 1)) b).2) ∧ ∃ own2 m2, MAt f P w0 w' own2 m2 (μ.begin (decide (a = 1)) b).1 v ∧ m2.wb = m.wb ∧ m2.nb = m.nb ∧ m2.lb = m.lb ∧ m2.k = m.k ∧ Kept own BeginT W w' ∧ Owns W own own2 := by
  have HM := hid h
  have HF := hid hfs
  clear h hfs
  go_enter Tryz.func16, Tryz.ntmps16
  go_upto_region 1 with fail
  have HE := hid (Ext.alloc W (.cells #[.int .i64 1, .int .i64 a, .int .i64 b, .int .i64 c] 39 (0, 0)))
  have d0 : (W.alloc (.cells #[.int .i64 1, .int .i64 a, .int .i64 b, .int .i64 c] 39 (0, 0))).cell? ⟨W.heap.size, 0, none⟩ = some (.int .i64 1) := cell_new rfl
  have d1 : (W.alloc (.cells #[.int .i64 1, .int .i64 a, .int .i64 b, .int .i64 c] 39 (0, 0))).cell? ⟨W.heap.size, 1, none⟩ = some (.int .i64 a) := cell_new rfl
  have d2 : (W.alloc (.cells #[.int .i64 1, .int .i64 a, .int .i64 b, .int .i64 c] 39 (0, 0))).cell? ⟨W.heap.size, 2, none⟩ = some (.int .i64 b) := cell_new rfl
  generalize World.alloc W _ = W1 at *
  generalize W.heap.size = q at *
  have HB := hid (begin_any (decide (a = 1)) b (HM.out.later HE.out) HF.out)
  go_wp2_with fail
  refine HB.out.mono ?_
  rintro e w1 ⟨rfl, own2, m2, h1, h2, h3, h4, h5, h6, h7⟩
  have hk := Kept.of (T := BeginT) (Same.of_ext HE.out) (fun b t hb => (HM.out.owns b t hb).2)
  have HL := hid (And.intro h1 (And.intro h2 (And.intro h3 (And.intro h4 (And.intro h5 (And.intro (hk.trans (Owns.refl _ _) h6) ((Owns.refl W own).trans h7 hk.size)))))))
  clear h1 h2 h3 h4 h5 h6 h7 hk HB
  go_wp2_with fail
  go_ret
  exact ⟨rfl, own2, m2, HL.out⟩

set_option maxHeartbeats 8000000 in
set_option maxRecDepth 100000 in
theorem play_honest (N : Nums f P) (kind a b c : Int) (hk : 2 ≤ kind ∧ kind ≤ 5) (hI : Itoa w0 Small f) (h : MAt f P w0 W own m μ v) (hp : PoolOk f P μ) (hfit : ∀ s, μ.sideAt a = some s → Fit P s) (hcb : -1000000 ≤ c ∧ c ≤ 1000000) :
    Calls Tryz.prog 16 #[ptr m.wb, .agg #[.int .i64 kind, .int .i64 a, .int .i64 b, .int .i64 c]] W fun e w' => e = .returned (.int .i64 (μ.honest f P kind a b c).2) ∧ Left f P w0 W w' own m (μ.honest f P kind a b c).1 := by
  have HM := hid h
  have HP := hid hp
  have HF := hid hfit
  have HI := hid hI
  have HN := hid N
  clear h hp hfit hI N
  rcases (show kind = 2 ∨ kind = 3 ∨ kind = 4 ∨ kind = 5 by omega) with rfl | rfl | rfl | rfl <;> clear hk
  ·
    have HE := hid (Ext.alloc W (.cells #[.int .i64 2, .int .i64 a, .int .i64 b, .int .i64 c] 39 (0, 0)))
    have d0 : (W.alloc (.cells #[.int .i64 2, .int .i64 a, .int .i64 b, .int .i64 c] 39 (0, 0))).cell? ⟨W.heap.size, 0, none⟩ = some (.int .i64 2) := cell_new rfl
    have d1 : (W.alloc (.cells #[.int .i64 2, .int .i64 a, .int .i64 b, .int .i64 c] 39 (0, 0))).cell? ⟨W.heap.size, 1, none⟩ = some (.int .i64 a) := cell_new rfl
    have d2 : (W.alloc (.cells #[.int .i64 2, .int .i64 a, .int .i64 b, .int .i64 c] 39 (0, 0))).cell? ⟨W.heap.size, 2, none⟩ = some (.int .i64 b) := cell_new rfl
    have d3 : (W.alloc (.cells #[.int .i64 2, .int .i64 a, .int .i64 b, .int .i64 c] 39 (0, 0))).cell? ⟨W.heap.size, 3, none⟩ = some (.int .i64 c) := cell_new rfl
    have HB := hid (honest_any HN.out 2 a b c HI.out (HM.out.later HE.out) HP.out HF.out hcb)
    go_enter Tryz.func16, Tryz.ntmps16
    go_upto_region 1 with fail
    generalize World.alloc W _ = W1 at *
    generalize W.heap.size = q at *
    go_wp2_with fail
    refine HB.out.mono ?_
    rintro e w1 ⟨rfl, hl⟩
    have HL := hid (Left.of HM.out HE.out hl)
    clear hl HB
    go_wp2_with fail
    go_ret
    exact ⟨rfl, HL.out⟩
  ·
    have HE := hid (Ext.alloc W (.cells #[.int .i64 3, .int .i64 a, .int .i64 b, .int .i64 c] 39 (0, 0)))
    have d0 : (W.alloc (.cells #[.int .i64 3, .int .i64 a, .int .i64 b, .int .i64 c] 39 (0, 0))).cell? ⟨W.heap.size, 0, none⟩ = some (.int .i64 3) := cell_new rfl
    have d1 : (W.alloc (.cells #[.int .i64 3, .int .i64 a, .int .i64 b, .int .i64 c] 39 (0, 0))).cell? ⟨W.heap.size, 1, none⟩ = some (.int .i64 a) := cell_new rfl
    have d2 : (W.alloc (.cells #[.int .i64 3, .int .i64 a, .int .i64 b, .int .i64 c] 39 (0, 0))).cell? ⟨W.heap.size, 2, none⟩ = some (.int .i64 b) := cell_new rfl
    have d3 : (W.alloc (.cells #[.int .i64 3, .int .i64 a, .int .i64 b, .int .i64 c] 39 (0, 0))).cell? ⟨W.heap.size, 3, none⟩ = some (.int .i64 c) := cell_new rfl
    have HB := hid (honest_any HN.out 3 a b c HI.out (HM.out.later HE.out) HP.out HF.out hcb)
    go_enter Tryz.func16, Tryz.ntmps16
    go_upto_region 1 with fail
    generalize World.alloc W _ = W1 at *
    generalize W.heap.size = q at *
    go_wp2_with fail
    refine HB.out.mono ?_
    rintro e w1 ⟨rfl, hl⟩
    have HL := hid (Left.of HM.out HE.out hl)
    clear hl HB
    go_wp2_with fail
    go_ret
    exact ⟨rfl, HL.out⟩
  ·
    have HE := hid (Ext.alloc W (.cells #[.int .i64 4, .int .i64 a, .int .i64 b, .int .i64 c] 39 (0, 0)))
    have d0 : (W.alloc (.cells #[.int .i64 4, .int .i64 a, .int .i64 b, .int .i64 c] 39 (0, 0))).cell? ⟨W.heap.size, 0, none⟩ = some (.int .i64 4) := cell_new rfl
    have d1 : (W.alloc (.cells #[.int .i64 4, .int .i64 a, .int .i64 b, .int .i64 c] 39 (0, 0))).cell? ⟨W.heap.size, 1, none⟩ = some (.int .i64 a) := cell_new rfl
    have d2 : (W.alloc (.cells #[.int .i64 4, .int .i64 a, .int .i64 b, .int .i64 c] 39 (0, 0))).cell? ⟨W.heap.size, 2, none⟩ = some (.int .i64 b) := cell_new rfl
    have d3 : (W.alloc (.cells #[.int .i64 4, .int .i64 a, .int .i64 b, .int .i64 c] 39 (0, 0))).cell? ⟨W.heap.size, 3, none⟩ = some (.int .i64 c) := cell_new rfl
    have HB := hid (honest_any HN.out 4 a b c HI.out (HM.out.later HE.out) HP.out HF.out hcb)
    go_enter Tryz.func16, Tryz.ntmps16
    go_upto_region 1 with fail
    generalize World.alloc W _ = W1 at *
    generalize W.heap.size = q at *
    go_wp2_with fail
    refine HB.out.mono ?_
    rintro e w1 ⟨rfl, hl⟩
    have HL := hid (Left.of HM.out HE.out hl)
    clear hl HB
    go_wp2_with fail
    go_ret
    exact ⟨rfl, HL.out⟩
  ·
    have HE := hid (Ext.alloc W (.cells #[.int .i64 5, .int .i64 a, .int .i64 b, .int .i64 c] 39 (0, 0)))
    have d0 : (W.alloc (.cells #[.int .i64 5, .int .i64 a, .int .i64 b, .int .i64 c] 39 (0, 0))).cell? ⟨W.heap.size, 0, none⟩ = some (.int .i64 5) := cell_new rfl
    have d1 : (W.alloc (.cells #[.int .i64 5, .int .i64 a, .int .i64 b, .int .i64 c] 39 (0, 0))).cell? ⟨W.heap.size, 1, none⟩ = some (.int .i64 a) := cell_new rfl
    have d2 : (W.alloc (.cells #[.int .i64 5, .int .i64 a, .int .i64 b, .int .i64 c] 39 (0, 0))).cell? ⟨W.heap.size, 2, none⟩ = some (.int .i64 b) := cell_new rfl
    have d3 : (W.alloc (.cells #[.int .i64 5, .int .i64 a, .int .i64 b, .int .i64 c] 39 (0, 0))).cell? ⟨W.heap.size, 3, none⟩ = some (.int .i64 c) := cell_new rfl
    have HB := hid (honest_any HN.out 5 a b c HI.out (HM.out.later HE.out) HP.out HF.out hcb)
    go_enter Tryz.func16, Tryz.ntmps16
    go_upto_region 1 with fail
    generalize World.alloc W _ = W1 at *
    generalize W.heap.size = q at *
    go_wp2_with fail
    refine HB.out.mono ?_
    rintro e w1 ⟨rfl, hl⟩
    have HL := hid (Left.of HM.out HE.out hl)
    clear hl HB
    go_wp2_with fail
    go_ret
    exact ⟨rfl, HL.out⟩

end Go.Proofs.YtjodmedgkmeklaaGreat

/-
  Play, where a static is leaked.
-/
namespace Go.Proofs.YtjodmedgkmeklaaGreat
open Go Go.RowKit Go.Maps
attribute [local go_sem] extUpon run_store_tm
attribute [local go_sem ↓] Tm.val_cell eval_put_ne eval_put_none eval_put_same size_put eval_const
attribute [local go_sem ↓] meth_Atom meth_Public meth_Shared meth_Chain meth_Digest meth_Box meth_Empty
attribute [local go_sem ↓] run_build_chain run_build_digest run_build_box
attribute [local go_sem] ta_Atom_Atom ta_Public_Atom ta_Shared_Atom ta_Chain_Atom ta_Digest_Atom ta_Box_Atom ta_Empty_Atom ta_Nil_Atom ta_Atom_Public ta_Public_Public ta_Shared_Public ta_Chain_Public ta_Digest_Public ta_Box_Public ta_Empty_Public ta_Nil_Public ta_Atom_Shared ta_Public_Shared ta_Shared_Shared ta_Chain_Shared ta_Digest_Shared ta_Box_Shared ta_Empty_Shared ta_Nil_Shared ta_Atom_Chain ta_Public_Chain ta_Shared_Chain ta_Chain_Chain ta_Digest_Chain ta_Box_Chain ta_Empty_Chain ta_Nil_Chain ta_Atom_Digest ta_Public_Digest ta_Shared_Digest ta_Chain_Digest ta_Digest_Digest ta_Box_Digest ta_Empty_Digest ta_Nil_Digest ta_Atom_Box ta_Public_Box ta_Shared_Box ta_Chain_Box ta_Digest_Box ta_Box_Box ta_Empty_Box ta_Nil_Box ta_Atom_Empty ta_Public_Empty ta_Shared_Empty ta_Chain_Empty ta_Digest_Empty ta_Box_Empty ta_Empty_Empty ta_Nil_Empty
variable {f : Int → List UInt8} {P : Int → Prop} {w0 w W W2 W3 : World} {own own2 : Nat → Option Tg} {m m2 : MB} {μ μ2 : MS} {v v2 : KV}

set_option maxHeartbeats 8000000 in
set_option maxRecDepth 100000 in
theorem play_leak (N : Nums f P) (a b c : Int) (ha : IntOk a) (hI : Itoa w0 Small f) (h : MAt f P w0 W own m μ v) (hp : PoolOk f P μ) (hx : XFew μ) (hfs : μ.statics.length ≤ 1000) (hfl : μ.leaked.length ≤ 1000) :
    Calls Tryz.prog 16 #[ptr m.wb, .agg #[.int .i64 6, .int .i64 a, .int .i64 b, .int .i64 c]] W fun e w' => e = .returned (.int .i64 (μ.leak f P a).2) ∧ ∃ v2, MAt f P w0 w' own m (μ.leak f P a).1 v2 ∧ Kept own (fun t => t = .leak ∨ t = .sb ∨ t = .nb ∨ t = .ab) W w' := by
  have HM := hid h
  have HP := hid hp
  have HXF := hid hx
  have HI := hid hI
  have HN := hid N
  obtain ⟨sa, sc, hsv, _, hsr⟩ := own_rd h.st
  have HE := hid (Ext.alloc W (.cells #[.int .i64 6, .int .i64 a, .int .i64 b, .int .i64 c] 39 (0, 0)))
  have HBK := hid (blk_new W (.cells #[.int .i64 6, .int .i64 a, .int .i64 b, .int .i64 c] 39 (0, 0)))
  have HC0 := hid (fun W' (hW : Ext W W') => ((HM.out.later hW).blk : _))
  have HSR := hid hsr
  have HSV := hid hsv
  clear h hp hx hI N hsv hsr
  go_enter Tryz.func16, Tryz.ntmps16
  go_upto_region 1 with fail
  have HOQ : Hid (own W.heap.size = none) := hid (HM.out.fresh (Nat.le_refl _))
  generalize World.alloc W _ = W1 at *
  generalize W.heap.size = q at *
  have d0 : W1.cell? ⟨q, 0, none⟩ = some (.int .i64 6) := cell_blk HBK.out rfl
  go_wp2_with fail
  clear d0
  refine reg_begin 8 (by kernel_rfl) ?_
  refine reg_hide (fun Q2 HQ => ?_)
  generalize hW : World.drew _ = W2
  have HE2 : Hid (Ext W1 W2) := hid (by rw [← hW]; exact Ext.drew _)
  clear hW
  refine reg_pure 0 rfl (by kernel_rfl) (by kernel_rfl) ?_; apply Exists.intro; refine ⟨fun w' => ?_, ?_⟩; · go_simp; exact rfl
  refine reg_pure 1 rfl (by kernel_rfl) (by kernel_rfl) ?_; apply Exists.intro; refine ⟨fun w' => ?_, ?_⟩; · go_simp; exact rfl
  refine reg_pure 2 rfl (by kernel_rfl) (by kernel_rfl) ?_; apply Exists.intro; refine ⟨fun w' => ?_, ?_⟩; · go_simp; exact rfl
  refine reg_quiet 3 rfl (by kernel_rfl) (by kernel_rfl) ?_; apply Exists.intro; refine ⟨fun w' hw' => ?_, ?_⟩; · have q0 : w'.cell? ⟨m.wb, 0, none⟩ = some (.slice sa μ.statics.length sc) := HSV.out ▸ cell_blk (HC0.out w' (HE.out.trans (HE2.out.trans hw'))) rfl; go_simp; exact ⟨rfl, Ext.refl _⟩
  refine reg_pure 4 rfl (by kernel_rfl) (by kernel_rfl) ?_; apply Exists.intro; refine ⟨fun w' => ?_, ?_⟩; · go_simp; exact rfl
  refine reg_quiet 5 rfl (by kernel_rfl) (by kernel_rfl) ?_; apply Exists.intro; refine ⟨fun w' hw' => ?_, ?_⟩; · have q0 : w'.cell? ⟨q, 1, none⟩ = some (.int .i64 a) := cell_blk ((HE2.out.trans hw').blk HBK.out) rfl; go_simp; exact ⟨rfl, Ext.refl _⟩
  refine reg_quiet 6 rfl (by kernel_rfl) (by kernel_rfl) ?_; apply Exists.intro; refine ⟨fun w' hw' => ?_, ?_⟩; · go_simp; exact (contains_any a μ.statics sa sc (by omega) (HSR.out.later (HE.out.trans (HE2.out.trans hw')))).mono (fun e w2 h2 => ⟨h2.1, h2.2 ▸ Ext.refl _⟩)
  refine reg_pure 7 rfl (by kernel_rfl) (by kernel_rfl) ?_; apply Exists.intro; refine ⟨fun w' => ?_, ?_⟩; · go_simp; exact rfl
  refine reg_done (by kernel_rfl) (fun W3 hw3 => ?_) _
  rw [HQ.out]
  clear HQ Q2
  have HE3 := hid (HE.out.trans (HE2.out.trans hw3))
  have HB3 := hid ((HE2.out.trans hw3).blk HBK.out)
  clear hw3 HE2
  go_simp
  cases hd : decide (a ∈ μ.statics)
  · have hs := of_decide_eq_false hd
    have HEQ : Hid (μ.leak f P a = (μ, 1)) := hid (by rw [leak_eq, if_neg hs])
    clear hs hd
    go_wp2_with fail
    go_ret
    rw [HEQ.out]
    exact ⟨rfl, v, HM.out.later HE3.out, Kept.of (Same.of_ext HE3.out) (fun b t hb => (HM.out.owns b t hb).2)⟩
  · have hs := of_decide_eq_true hd
    have HEQ : Hid (μ.leak f P a = (({ μ with leaked := leakL μ a } : MS).learn f P a, 0)) := hid (by rw [leak_eq, if_pos hs])
    clear hs hd
    go_wp2_with fail
    refine reg_begin 6 (by kernel_rfl) ?_
    refine reg_hide (fun Q2 HQ => ?_)
    generalize hW : World.drew _ = W4
    have HE4 : Hid (Ext W3 W4) := hid (by rw [← hW]; exact Ext.drew _)
    clear hW
    refine reg_pure 0 rfl (by kernel_rfl) (by kernel_rfl) ?_; apply Exists.intro; refine ⟨fun w' => ?_, ?_⟩; · go_simp; exact rfl
    refine reg_pure 1 rfl (by kernel_rfl) (by kernel_rfl) ?_; apply Exists.intro; refine ⟨fun w' => ?_, ?_⟩; · go_simp; exact rfl
    refine reg_pure 2 rfl (by kernel_rfl) (by kernel_rfl) ?_; apply Exists.intro; refine ⟨fun w' => ?_, ?_⟩; · go_simp; exact rfl
    refine reg_quiet 3 rfl (by kernel_rfl) (by kernel_rfl) ?_; apply Exists.intro; refine ⟨fun w' hw' => ?_, ?_⟩; · have q0 : w'.cell? ⟨m.wb, 5, none⟩ = some (.map (some m.lb)) := cell_blk (HC0.out w' (HE3.out.trans (HE4.out.trans hw'))) rfl; go_simp; exact ⟨rfl, Ext.refl _⟩
    refine reg_pure 4 rfl (by kernel_rfl) (by kernel_rfl) ?_; apply Exists.intro; refine ⟨fun w' => ?_, ?_⟩; · go_simp; exact rfl
    refine reg_quiet 5 rfl (by kernel_rfl) (by kernel_rfl) ?_; apply Exists.intro; refine ⟨fun w' hw' => ?_, ?_⟩; · have q0 : w'.cell? ⟨q, 1, none⟩ = some (.int .i64 a) := cell_blk ((HE4.out.trans hw').blk HB3.out) rfl; go_simp; exact ⟨rfl, Ext.refl _⟩
    refine reg_one 6 rfl (by kernel_rfl) (by kernel_rfl) (fun w' hw' => ?_)
    have h2 := Classical.choose_spec (leak_store (HM.out.later (HE3.out.trans (HE4.out.trans hw'))) ha hfl)
    generalize Classical.choose _ = w2 at h2
    have hrun := h2.1
    have HK2 := hid h2.2
    clear h2
    go_simp
    refine reg_done (by kernel_rfl) (fun W5 hw5 => ?_) _
    rw [HQ.out]
    clear HQ Q2 hrun
    have HM5 := hid (HK2.out.1.later hw5)
    have HKA := hid (((Kept.of (T := fun t => t = .leak ∨ t = .sb ∨ t = .nb ∨ t = .ab) (Same.of_ext (HE3.out.trans (HE4.out.trans hw'))) (fun b t hb => (HM.out.owns b t hb).2)).trans (Owns.refl _ _) (HK2.out.2.mono (fun t ht => .inl ht))).trans (Owns.refl _ _) (Kept.of (Same.of_ext hw5) (fun b t hb => (HK2.out.1.owns b t hb).2)))
    have HB5 := hid (hw5.blk ((HK2.out.2.free q (Array.getElem?_eq_some_iff.1 ((HE4.out.trans hw').blk HB3.out)).1 HOQ.out).trans ((HE4.out.trans hw').blk HB3.out)))
    clear hw5 hw' HK2 HE4 HB3
    go_simp
    go_wp2_with fail
    refine reg_begin 6 (by kernel_rfl) ?_
    refine reg_hide (fun Q2 HQ => ?_)
    generalize hW : World.drew _ = W6
    have HE6 : Hid (Ext W5 W6) := hid (by rw [← hW]; exact Ext.drew _)
    clear hW
    refine reg_pure 0 rfl (by kernel_rfl) (by kernel_rfl) ?_; apply Exists.intro; refine ⟨fun w' => ?_, ?_⟩; · go_simp; exact rfl
    refine reg_pure 1 rfl (by kernel_rfl) (by kernel_rfl) ?_; apply Exists.intro; refine ⟨fun w' => ?_, ?_⟩; · go_simp; exact rfl
    refine reg_pure 2 rfl (by kernel_rfl) (by kernel_rfl) ?_; apply Exists.intro; refine ⟨fun w' => ?_, ?_⟩; · go_simp; exact rfl
    refine reg_quiet 3 rfl (by kernel_rfl) (by kernel_rfl) ?_; apply Exists.intro; refine ⟨fun w' hw' => ?_, ?_⟩; · have q0 : w'.cell? ⟨m.wb, 4, none⟩ = some (ptr m.k.kb) := cell_blk ((HE6.out.trans hw').blk HM5.out.blk) rfl; go_simp; exact ⟨rfl, Ext.refl _⟩
    refine reg_pure 4 rfl (by kernel_rfl) (by kernel_rfl) ?_; apply Exists.intro; refine ⟨fun w' => ?_, ?_⟩; · go_simp; exact rfl
    refine reg_quiet 5 rfl (by kernel_rfl) (by kernel_rfl) ?_; apply Exists.intro; refine ⟨fun w' hw' => ?_, ?_⟩; · have q0 : w'.cell? ⟨q, 1, none⟩ = some (.int .i64 a) := cell_blk ((HE6.out.trans hw').blk HB5.out) rfl; go_simp; exact ⟨rfl, Ext.refl _⟩
    refine reg_one 6 rfl (by kernel_rfl) (by kernel_rfl) (fun w' hw' => ?_)
    have hln := learn_m HN.out HI.out (HM5.out.later (HE6.out.trans hw')) ⟨HP.out.fine, HP.out.few, HP.out.ground, HP.out.inU⟩ ⟨HXF.out.few⟩ a ha
    go_simp
    refine hln.mono ?_
    rintro e w7 ⟨⟨xx, rfl⟩, v2, h1, h2⟩
    have HA := hid h1
    have HK7 := hid ((HKA.out.trans (Owns.refl _ _) (Kept.of (Same.of_ext (HE6.out.trans hw')) (fun b t hb => (HM5.out.owns b t hb).2))).trans (Owns.refl _ _) (h2.mono (fun t ht => .inr ht)))
    clear h1 h2 hln hw' HE6 HKA
    refine reg_done (by kernel_rfl) (fun W8 hw8 => ?_) _
    rw [HQ.out]
    clear HQ Q2
    have HA8 := hid (HA.out.later hw8)
    have HK8 := hid (HK7.out.trans (Owns.refl _ _) (Kept.of (Same.of_ext hw8) (fun b t hb => (HA.out.owns b t hb).2)))
    clear hw8
    go_simp
    go_wp2_with fail
    go_ret
    rw [HEQ.out]
    exact ⟨rfl, v2, HA8.out, HK8.out⟩

end Go.Proofs.YtjodmedgkmeklaaGreat
