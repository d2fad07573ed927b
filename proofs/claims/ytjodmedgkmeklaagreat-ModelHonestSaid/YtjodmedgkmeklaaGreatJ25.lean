/-
  Texts merged: Q36.
-/
import Derived.Test.YtjodmedgkmeklaaGreatJ24
/-
  What the listener makes (made): a digest, a chain, a box.
-/
namespace Go.Proofs.YtjodmedgkmeklaaGreat
open Go Go.RowKit Go.Maps
attribute [local go_sem] extUpon run_store_tm
attribute [local go_sem ↓] Tm.val_cell eval_put_ne eval_put_none eval_put_same size_put eval_const
attribute [local go_sem ↓] meth_Atom meth_Public meth_Shared meth_Chain meth_Digest meth_Box meth_Empty
attribute [local go_sem ↓] run_build_chain run_build_digest run_build_box
attribute [local go_sem] ta_Atom_Atom ta_Public_Atom ta_Shared_Atom ta_Chain_Atom ta_Digest_Atom ta_Box_Atom ta_Empty_Atom ta_Nil_Atom ta_Atom_Public ta_Public_Public ta_Shared_Public ta_Chain_Public ta_Digest_Public ta_Box_Public ta_Empty_Public ta_Nil_Public ta_Atom_Shared ta_Public_Shared ta_Shared_Shared ta_Chain_Shared ta_Digest_Shared ta_Box_Shared ta_Empty_Shared ta_Nil_Shared ta_Atom_Chain ta_Public_Chain ta_Shared_Chain ta_Chain_Chain ta_Digest_Chain ta_Box_Chain ta_Empty_Chain ta_Nil_Chain ta_Atom_Digest ta_Public_Digest ta_Shared_Digest ta_Chain_Digest ta_Digest_Digest ta_Box_Digest ta_Empty_Digest ta_Nil_Digest ta_Atom_Box ta_Public_Box ta_Shared_Box ta_Chain_Box ta_Digest_Box ta_Box_Box ta_Empty_Box ta_Nil_Box ta_Atom_Empty ta_Public_Empty ta_Shared_Empty ta_Chain_Empty ta_Digest_Empty ta_Box_Empty ta_Empty_Empty ta_Nil_Empty
variable {f : Int → List UInt8} {P : Int → Prop} {w0 w W W2 W3 : World} {own own2 : Nat → Option Tg} {m m2 : MB} {μ μ2 : MS} {v v2 : KV}

theorem ta_nb {t : Tm} (h : t.isBox = false) (w : World) : (Instr.typeAssert t.val 29 90 true).run Tryz.prog w = .ok (.tuple #[.agg #[.nilIface, .int .i64 0, .nilIface, .nilIface], .bool false]) w := by
  cases t with
  | box => cases h
  | non => exact ta_Nil_Box w
  | atom => exact ta_Atom_Box _ w
  | pub => exact ta_Public_Box _ w
  | shared => exact ta_Shared_Box _ w
  | chain => exact ta_Chain_Box _ w
  | digest => exact ta_Digest_Box _ w
  | empty => exact ta_Empty_Box _ w
theorem isBox_box {t : Tm} (h : t.isBox = true) : ∃ k n a y, t = .box k n a y := by
  cases t <;> first | exact ⟨_, _, _, _, rfl⟩ | cases h
theorem Tm.form (t : Tm) : (t = .non ∧ t.val = .nilIface) ∨ (t ≠ .non ∧ ∃ u d, t.val = .iface u d) := by
  by_cases h : t = .non
  · exact .inl ⟨h, by rw [h]; rfl⟩
  · obtain ⟨u, d, hv⟩ := Va.of h
    exact .inr ⟨h, u, d, hv.eq⟩
theorem run_build_box0 (k f x : Tm) (w : World) : (Instr.build 90 #[(0, k.val), (2, f.val), (3, x.val)]).run Tryz.prog w = .ok (.agg #[k.val, .int .i64 0, f.val, x.val]) w := by
  rcases k.val_form with hk | ⟨_, _, hk⟩ <;> rcases f.val_form with h | ⟨_, _, h⟩ <;> rcases x.val_form with h' | ⟨_, _, h'⟩ <;> rw [hk, h, h'] <;> kernel_rfl
/-- A struct is built, in a drawn region. -/
theorem reg_build {E fuel : Nat} {l tl : List Oper} {dst : Option Tmp} {ty t : TypeId} {pos : String} {after : Array Edge} {parts : Array (Nat × Operand)} {listed : Array Bool} {a : Act} {w : World} {md : Region.Mode} {Q : Exit → Act → World → Prop} (i : Nat) (L : List (Nat × Value)) (v : Value)
    (hi : l.drop i = ⟨dst, .build t parts, ty, pos, after, none⟩ :: tl) (hB : pureB md l.toArray listed i = true) (hp : parts.toList.map (fun x => (x.1, a.eval x.2)) = L) (hr : ∀ w', (Instr.build t L.toArray).run Tryz.prog w' = .ok v w')
    (h : wpAnyU Tryz.prog md l.toArray (calm Q) E fuel (listed.setIfInBounds i true) (a.put dst v) w) : wpAnyU Tryz.prog md l.toArray (calm Q) E (fuel + 1) listed a w :=
  reg_pure i hi hB rfl ⟨v, fun w' => by
    have hm : L.toArray = parts.map fun (i, x) => (i, a.eval x) := by rw [← hp, ← Array.toList_map]
    have h := hr w'
    rw [hm] at h
    simp only [execOp]
    rw [Sem.run_bind, h]
    rfl, h⟩
def Made (res : Option Tm) (e : Ending) : Prop := ∃ v, e = .returned (.tuple #[v, .bool res.isSome]) ∧ ∀ t, res = some t → v = t.val
theorem place_at (h : MAt f P w0 W own m μ v) (k : Int) : ∀ W2, Ext W W2 → Calls Tryz.prog 47 #[ptr m.wb, .int .i64 k] W2 fun e w' => e = .returned (μ.place k).val ∧ Ext W2 w' := fun _ hW =>
  (place_any k (h.later hW)).mono (fun _ _ h => ⟨h.1, h.2 ▸ Ext.refl _⟩)


set_option maxHeartbeats 16000000 in
set_option maxRecDepth 100000 in
theorem made9 (hp : PoolOk f P μ) (a b c : Int) (h : MAt f P w0 W own m μ v) :
    Calls Tryz.prog 34 #[ptr m.wb, .agg #[.int .i64 9, .int .i64 a, .int .i64 b, .int .i64 c]] W fun e w' => Made (μ.made f 9 a b c) e ∧ Ext W w' := by
  have hmd : μ.made f 9 a b c = if μ.place b ≠ .non ∧ μ.place c ≠ .non then some (.digest (μ.place b) (μ.place c)) else none := rfl
  have HMD := hid hmd
  have HXB := hid (fun (hne : μ.place a ≠ .non) => (hp.fine _ (place_mem hne)).1)
  clear hmd hp
  generalize μ.made f 9 a b c = res at *
  have HPA := hid (place_at h a)
  have HPB := hid (place_at h b)
  have HPC := hid (place_at h c)
  have HE := hid (Ext.alloc W (.cells #[.int .i64 9, .int .i64 a, .int .i64 b, .int .i64 c] 39 (0, 0)))
  have HBK := hid (blk_new W (.cells #[.int .i64 9, .int .i64 a, .int .i64 b, .int .i64 c] 39 (0, 0)))
  have HM := hid h
  clear h
  generalize μ.place a = x at *
  generalize μ.place b = y at *
  generalize μ.place c = z at *
  go_enter Tryz.func34, Tryz.ntmps34
  go_upto_region 1 with fail
  generalize World.alloc W _ = W1 at *
  generalize W.heap.size = q at *
  refine reg_begin 15 (by kernel_rfl) ?_
  refine reg_hide (fun Q2 HQ => ?_)
  generalize hW : World.drew _ = W2
  have HE2 : Hid (Ext W1 W2) := hid (by rw [← hW]; exact Ext.drew _)
  clear hW
  refine reg_pure 0 rfl (by kernel_rfl) (by kernel_rfl) ?_; apply Exists.intro; refine ⟨fun w' => ?_, ?_⟩; · go_simp; exact rfl
  refine reg_pure 1 rfl (by kernel_rfl) (by kernel_rfl) ?_; apply Exists.intro; refine ⟨fun w' => ?_, ?_⟩; · go_simp; exact rfl
  refine reg_quiet 2 rfl (by kernel_rfl) (by kernel_rfl) ?_; apply Exists.intro; refine ⟨fun w' hw' => ?_, ?_⟩; · have q0 : w'.cell? ⟨q, 1, none⟩ = some (.int .i64 a) := cell_blk ((HE2.out.trans hw').blk HBK.out) rfl; go_simp; exact ⟨rfl, Ext.refl _⟩
  refine reg_quiet 3 rfl (by kernel_rfl) (by kernel_rfl) ?_; apply Exists.intro; refine ⟨fun w' hw' => ?_, ?_⟩; · go_simp; exact HPA.out w' (HE.out.trans (HE2.out.trans hw'))
  refine reg_pure 4 rfl (by kernel_rfl) (by kernel_rfl) ?_; apply Exists.intro; refine ⟨fun w' => ?_, ?_⟩; · go_simp; exact rfl
  refine reg_pure 5 rfl (by kernel_rfl) (by kernel_rfl) ?_; apply Exists.intro; refine ⟨fun w' => ?_, ?_⟩; · go_simp; exact rfl
  refine reg_quiet 6 rfl (by kernel_rfl) (by kernel_rfl) ?_; apply Exists.intro; refine ⟨fun w' hw' => ?_, ?_⟩; · have q0 : w'.cell? ⟨q, 2, none⟩ = some (.int .i64 b) := cell_blk ((HE2.out.trans hw').blk HBK.out) rfl; go_simp; exact ⟨rfl, Ext.refl _⟩
  refine reg_quiet 7 rfl (by kernel_rfl) (by kernel_rfl) ?_; apply Exists.intro; refine ⟨fun w' hw' => ?_, ?_⟩; · go_simp; exact HPB.out w' (HE.out.trans (HE2.out.trans hw'))
  refine reg_pure 8 rfl (by kernel_rfl) (by kernel_rfl) ?_; apply Exists.intro; refine ⟨fun w' => ?_, ?_⟩; · go_simp; exact rfl
  refine reg_pure 9 rfl (by kernel_rfl) (by kernel_rfl) ?_; apply Exists.intro; refine ⟨fun w' => ?_, ?_⟩; · go_simp; exact rfl
  refine reg_quiet 10 rfl (by kernel_rfl) (by kernel_rfl) ?_; apply Exists.intro; refine ⟨fun w' hw' => ?_, ?_⟩; · have q0 : w'.cell? ⟨q, 3, none⟩ = some (.int .i64 c) := cell_blk ((HE2.out.trans hw').blk HBK.out) rfl; go_simp; exact ⟨rfl, Ext.refl _⟩
  refine reg_quiet 11 rfl (by kernel_rfl) (by kernel_rfl) ?_; apply Exists.intro; refine ⟨fun w' hw' => ?_, ?_⟩; · go_simp; exact HPC.out w' (HE.out.trans (HE2.out.trans hw'))
  refine reg_pure 12 rfl (by kernel_rfl) (by kernel_rfl) ?_; apply Exists.intro; refine ⟨fun w' => ?_, ?_⟩; · go_simp; exact rfl
  refine reg_pure 13 rfl (by kernel_rfl) (by kernel_rfl) ?_; apply Exists.intro; refine ⟨fun w' => ?_, ?_⟩; · go_simp; exact rfl
  refine reg_pure 14 rfl (by kernel_rfl) (by kernel_rfl) ?_; apply Exists.intro; refine ⟨fun w' => ?_, ?_⟩; · go_simp; exact rfl
  refine reg_done (by kernel_rfl) (fun W3 hw3 => ?_) _
  rw [HQ.out]
  clear HQ Q2
  have HE3 := hid (HE.out.trans (HE2.out.trans hw3))
  have HB3 := hid ((HE2.out.trans hw3).blk HBK.out)
  clear hw3 HE2 HBK HPA HPB HPC
  go_simp
  cases hbx : x.isBox
  · have hta := ta_nb hbx
    clear HXB
    have HE4 := hid (HE3.out.trans (Ext.alloc W3 (.cells #[.nilIface, .int .i64 0, .nilIface, .nilIface] 90 (0, 0))))
    have HB4 := hid ((Ext.alloc W3 (.cells #[.nilIface, .int .i64 0, .nilIface, .nilIface] 90 (0, 0))).blk HB3.out)
    have HX4 := hid (blk_new W3 (.cells #[.nilIface, .int .i64 0, .nilIface, .nilIface] 90 (0, 0)))
    go_upto_region 3 with fail
    generalize World.alloc W3 _ = W4 at *
    generalize W3.heap.size = p at *
    clear HE3 HB3
    have d0 : W4.cell? ⟨q, 0, none⟩ = some (.int .i64 9) := cell_blk HB4.out rfl
    go_wp2_with fail
    clear d0
    clear hta hbx
    generalize x.val = xv
    refine reg_begin 12 (by kernel_rfl) ?_
    refine reg_hide (fun Q2 HQ => ?_)
    generalize hW : World.drew _ = W8
    have HE8 : Hid (Ext W4 W8) := hid (by rw [← hW]; exact Ext.drew _)
    clear hW
    refine reg_pure 0 rfl (by kernel_rfl) (by kernel_rfl) ?_; apply Exists.intro; refine ⟨fun w' => ?_, ?_⟩; · go_simp; exact rfl
    refine reg_pure 1 rfl (by kernel_rfl) (by kernel_rfl) ?_; apply Exists.intro; refine ⟨fun w' => ?_, ?_⟩; · go_simp; exact rfl
    refine reg_build 2 [(0, y.val), (1, z.val)] (.agg #[y.val, z.val]) rfl (by kernel_rfl) (by go_simp) (run_build_digest y z) ?_
    refine reg_pure 3 rfl (by kernel_rfl) (by kernel_rfl) ?_; apply Exists.intro; refine ⟨fun w' => ?_, ?_⟩; · go_simp; exact rfl
    rcases y.form with ⟨hy, hyv⟩ | ⟨hy, yu, yd, hyv⟩
    ·
      rw [hyv]
      have HEQ : Hid (res = none) := hid (by rw [HMD.out, if_neg (fun h => h.1 hy)])
      refine reg_pure 4 rfl (by kernel_rfl) (by kernel_rfl) ?_; apply Exists.intro; refine ⟨fun w' => ?_, ?_⟩; · go_simp; exact rfl
      refine reg_pure 5 rfl (by kernel_rfl) (by kernel_rfl) ?_; apply Exists.intro; refine ⟨fun w' => ?_, ?_⟩; · go_simp; exact rfl
      refine reg_pure 6 rfl (by kernel_rfl) (by kernel_rfl) ?_; apply Exists.intro; refine ⟨fun w' => ?_, ?_⟩; · go_simp; exact rfl
      refine reg_skip 7 rfl (by kernel_rfl) (by kernel_rfl) ?_
      refine reg_skip 8 rfl (by kernel_rfl) (by kernel_rfl) ?_
      refine reg_pure 9 rfl (by kernel_rfl) (by kernel_rfl) ?_; apply Exists.intro; refine ⟨fun w' => ?_, ?_⟩; · go_simp; exact rfl
      refine reg_pure 10 rfl (by kernel_rfl) (by kernel_rfl) ?_; apply Exists.intro; refine ⟨fun w' => ?_, ?_⟩; · go_simp; exact rfl
      refine reg_pure 11 rfl (by kernel_rfl) (by kernel_rfl) ?_; apply Exists.intro; refine ⟨fun w' => ?_, ?_⟩; · go_simp; exact rfl
      refine reg_done (by kernel_rfl) (fun W9 hw9 => ?_) _
      rw [HQ.out]
      clear HQ Q2
      have HE9 := hid (HE4.out.trans (HE8.out.trans hw9))
      clear hw9 HE8
      go_simp
      go_wp2_with fail
      go_ret2
      rw [HEQ.out]
      exact ⟨⟨_, rfl, fun t ht => by cases ht⟩, HE9.out⟩
    ·
      rw [hyv]
      rcases z.form with ⟨hz, hzv⟩ | ⟨hz, zu, zd, hzv⟩
      ·
        rw [hzv]
        have HEQ : Hid (res = none) := hid (by rw [HMD.out, if_neg (fun h => h.2 hz)])
        refine reg_pure 4 rfl (by kernel_rfl) (by kernel_rfl) ?_; apply Exists.intro; refine ⟨fun w' => ?_, ?_⟩; · go_simp; exact rfl
        refine reg_pure 5 rfl (by kernel_rfl) (by kernel_rfl) ?_; apply Exists.intro; refine ⟨fun w' => ?_, ?_⟩; · go_simp; exact rfl
        refine reg_pure 6 rfl (by kernel_rfl) (by kernel_rfl) ?_; apply Exists.intro; refine ⟨fun w' => ?_, ?_⟩; · go_simp; exact rfl
        refine reg_pure 7 rfl (by kernel_rfl) (by kernel_rfl) ?_; apply Exists.intro; refine ⟨fun w' => ?_, ?_⟩; · go_simp; exact rfl
        refine reg_pure 8 rfl (by kernel_rfl) (by kernel_rfl) ?_; apply Exists.intro; refine ⟨fun w' => ?_, ?_⟩; · go_simp; exact rfl
        refine reg_pure 9 rfl (by kernel_rfl) (by kernel_rfl) ?_; apply Exists.intro; refine ⟨fun w' => ?_, ?_⟩; · go_simp; exact rfl
        refine reg_pure 10 rfl (by kernel_rfl) (by kernel_rfl) ?_; apply Exists.intro; refine ⟨fun w' => ?_, ?_⟩; · go_simp; exact rfl
        refine reg_pure 11 rfl (by kernel_rfl) (by kernel_rfl) ?_; apply Exists.intro; refine ⟨fun w' => ?_, ?_⟩; · go_simp; exact rfl
        refine reg_done (by kernel_rfl) (fun W9 hw9 => ?_) _
        rw [HQ.out]
        clear HQ Q2
        have HE9 := hid (HE4.out.trans (HE8.out.trans hw9))
        clear hw9 HE8
        go_simp
        go_wp2_with fail
        go_ret2
        rw [HEQ.out]
        exact ⟨⟨_, rfl, fun t ht => by cases ht⟩, HE9.out⟩
      ·
        rw [hzv]
        have HEQ : Hid (res = some (.digest y z)) := hid (by rw [HMD.out, if_pos ⟨hy, hz⟩])
        refine reg_pure 4 rfl (by kernel_rfl) (by kernel_rfl) ?_; apply Exists.intro; refine ⟨fun w' => ?_, ?_⟩; · go_simp; exact rfl
        refine reg_pure 5 rfl (by kernel_rfl) (by kernel_rfl) ?_; apply Exists.intro; refine ⟨fun w' => ?_, ?_⟩; · go_simp; exact rfl
        refine reg_pure 6 rfl (by kernel_rfl) (by kernel_rfl) ?_; apply Exists.intro; refine ⟨fun w' => ?_, ?_⟩; · go_simp; exact rfl
        refine reg_pure 7 rfl (by kernel_rfl) (by kernel_rfl) ?_; apply Exists.intro; refine ⟨fun w' => ?_, ?_⟩; · go_simp; exact rfl
        refine reg_pure 8 rfl (by kernel_rfl) (by kernel_rfl) ?_; apply Exists.intro; refine ⟨fun w' => ?_, ?_⟩; · go_simp; exact rfl
        refine reg_pure 9 rfl (by kernel_rfl) (by kernel_rfl) ?_; apply Exists.intro; refine ⟨fun w' => ?_, ?_⟩; · go_simp; exact rfl
        refine reg_pure 10 rfl (by kernel_rfl) (by kernel_rfl) ?_; apply Exists.intro; refine ⟨fun w' => ?_, ?_⟩; · go_simp; exact rfl
        refine reg_pure 11 rfl (by kernel_rfl) (by kernel_rfl) ?_; apply Exists.intro; refine ⟨fun w' => ?_, ?_⟩; · go_simp; exact rfl
        refine reg_done (by kernel_rfl) (fun W9 hw9 => ?_) _
        rw [HQ.out]
        clear HQ Q2
        have HE9 := hid (HE4.out.trans (HE8.out.trans hw9))
        clear hw9 HE8
        go_simp
        go_wp2_with fail
        go_ret2
        rw [HEQ.out]
        exact ⟨⟨_, rfl, fun t ht => by cases ht; first | (simp [Tm.val, hyv, hzv]; done) | (simp [Tm.val, hyv, hzv, hxv]; done)⟩, HE9.out⟩
  · obtain ⟨xk, xn, xa, xt, rfl⟩ := isBox_box hbx
    have hxo := HXB.out (by simp)
    obtain ⟨ku, kd, hkv⟩ := Va.of hxo.2.1.ne
    obtain ⟨au, ad, hav⟩ := Va.of hxo.2.2.1.ne
    obtain ⟨tu, td, htv⟩ := Va.of hxo.2.2.2.ne
    have hv : (Tm.box xk xn xa xt).val = .iface 90 (.agg #[.iface ku kd, .int .i64 xn, .iface au ad, .iface tu td]) := by simp [Tm.val, hkv.eq, hav.eq, htv.eq]
    have hxv := hv
    have hx : Tm.box xk xn xa xt ≠ .non := by simp
    rw [hv]
    clear hv hkv hav htv hxo HXB hbx
    generalize Tm.box xk xn xa xt = x at *
    have HE4 := hid (HE3.out.trans (Ext.alloc W3 (.cells #[.iface ku kd, .int .i64 xn, .iface au ad, .iface tu td] 90 (0, 0))))
    have HB4 := hid ((Ext.alloc W3 (.cells #[.iface ku kd, .int .i64 xn, .iface au ad, .iface tu td] 90 (0, 0))).blk HB3.out)
    have HX4 := hid (blk_new W3 (.cells #[.iface ku kd, .int .i64 xn, .iface au ad, .iface tu td] 90 (0, 0)))
    go_upto_region 3 with fail
    generalize World.alloc W3 _ = W4 at *
    generalize W3.heap.size = p at *
    clear HE3 HB3
    have d0 : W4.cell? ⟨q, 0, none⟩ = some (.int .i64 9) := cell_blk HB4.out rfl
    go_wp2_with fail
    clear d0
    refine reg_begin 12 (by kernel_rfl) ?_
    refine reg_hide (fun Q2 HQ => ?_)
    generalize hW : World.drew _ = W8
    have HE8 : Hid (Ext W4 W8) := hid (by rw [← hW]; exact Ext.drew _)
    clear hW
    refine reg_pure 0 rfl (by kernel_rfl) (by kernel_rfl) ?_; apply Exists.intro; refine ⟨fun w' => ?_, ?_⟩; · go_simp; exact rfl
    refine reg_pure 1 rfl (by kernel_rfl) (by kernel_rfl) ?_; apply Exists.intro; refine ⟨fun w' => ?_, ?_⟩; · go_simp; exact rfl
    refine reg_build 2 [(0, y.val), (1, z.val)] (.agg #[y.val, z.val]) rfl (by kernel_rfl) (by go_simp) (run_build_digest y z) ?_
    refine reg_pure 3 rfl (by kernel_rfl) (by kernel_rfl) ?_; apply Exists.intro; refine ⟨fun w' => ?_, ?_⟩; · go_simp; exact rfl
    rcases y.form with ⟨hy, hyv⟩ | ⟨hy, yu, yd, hyv⟩
    ·
      rw [hyv]
      have HEQ : Hid (res = none) := hid (by rw [HMD.out, if_neg (fun h => h.1 hy)])
      refine reg_pure 4 rfl (by kernel_rfl) (by kernel_rfl) ?_; apply Exists.intro; refine ⟨fun w' => ?_, ?_⟩; · go_simp; exact rfl
      refine reg_pure 5 rfl (by kernel_rfl) (by kernel_rfl) ?_; apply Exists.intro; refine ⟨fun w' => ?_, ?_⟩; · go_simp; exact rfl
      refine reg_pure 6 rfl (by kernel_rfl) (by kernel_rfl) ?_; apply Exists.intro; refine ⟨fun w' => ?_, ?_⟩; · go_simp; exact rfl
      refine reg_skip 7 rfl (by kernel_rfl) (by kernel_rfl) ?_
      refine reg_skip 8 rfl (by kernel_rfl) (by kernel_rfl) ?_
      refine reg_pure 9 rfl (by kernel_rfl) (by kernel_rfl) ?_; apply Exists.intro; refine ⟨fun w' => ?_, ?_⟩; · go_simp; exact rfl
      refine reg_pure 10 rfl (by kernel_rfl) (by kernel_rfl) ?_; apply Exists.intro; refine ⟨fun w' => ?_, ?_⟩; · go_simp; exact rfl
      refine reg_pure 11 rfl (by kernel_rfl) (by kernel_rfl) ?_; apply Exists.intro; refine ⟨fun w' => ?_, ?_⟩; · go_simp; exact rfl
      refine reg_done (by kernel_rfl) (fun W9 hw9 => ?_) _
      rw [HQ.out]
      clear HQ Q2
      have HE9 := hid (HE4.out.trans (HE8.out.trans hw9))
      clear hw9 HE8
      go_simp
      go_wp2_with fail
      go_ret2
      rw [HEQ.out]
      exact ⟨⟨_, rfl, fun t ht => by cases ht⟩, HE9.out⟩
    ·
      rw [hyv]
      rcases z.form with ⟨hz, hzv⟩ | ⟨hz, zu, zd, hzv⟩
      ·
        rw [hzv]
        have HEQ : Hid (res = none) := hid (by rw [HMD.out, if_neg (fun h => h.2 hz)])
        refine reg_pure 4 rfl (by kernel_rfl) (by kernel_rfl) ?_; apply Exists.intro; refine ⟨fun w' => ?_, ?_⟩; · go_simp; exact rfl
        refine reg_pure 5 rfl (by kernel_rfl) (by kernel_rfl) ?_; apply Exists.intro; refine ⟨fun w' => ?_, ?_⟩; · go_simp; exact rfl
        refine reg_pure 6 rfl (by kernel_rfl) (by kernel_rfl) ?_; apply Exists.intro; refine ⟨fun w' => ?_, ?_⟩; · go_simp; exact rfl
        refine reg_pure 7 rfl (by kernel_rfl) (by kernel_rfl) ?_; apply Exists.intro; refine ⟨fun w' => ?_, ?_⟩; · go_simp; exact rfl
        refine reg_pure 8 rfl (by kernel_rfl) (by kernel_rfl) ?_; apply Exists.intro; refine ⟨fun w' => ?_, ?_⟩; · go_simp; exact rfl
        refine reg_pure 9 rfl (by kernel_rfl) (by kernel_rfl) ?_; apply Exists.intro; refine ⟨fun w' => ?_, ?_⟩; · go_simp; exact rfl
        refine reg_pure 10 rfl (by kernel_rfl) (by kernel_rfl) ?_; apply Exists.intro; refine ⟨fun w' => ?_, ?_⟩; · go_simp; exact rfl
        refine reg_pure 11 rfl (by kernel_rfl) (by kernel_rfl) ?_; apply Exists.intro; refine ⟨fun w' => ?_, ?_⟩; · go_simp; exact rfl
        refine reg_done (by kernel_rfl) (fun W9 hw9 => ?_) _
        rw [HQ.out]
        clear HQ Q2
        have HE9 := hid (HE4.out.trans (HE8.out.trans hw9))
        clear hw9 HE8
        go_simp
        go_wp2_with fail
        go_ret2
        rw [HEQ.out]
        exact ⟨⟨_, rfl, fun t ht => by cases ht⟩, HE9.out⟩
      ·
        rw [hzv]
        have HEQ : Hid (res = some (.digest y z)) := hid (by rw [HMD.out, if_pos ⟨hy, hz⟩])
        refine reg_pure 4 rfl (by kernel_rfl) (by kernel_rfl) ?_; apply Exists.intro; refine ⟨fun w' => ?_, ?_⟩; · go_simp; exact rfl
        refine reg_pure 5 rfl (by kernel_rfl) (by kernel_rfl) ?_; apply Exists.intro; refine ⟨fun w' => ?_, ?_⟩; · go_simp; exact rfl
        refine reg_pure 6 rfl (by kernel_rfl) (by kernel_rfl) ?_; apply Exists.intro; refine ⟨fun w' => ?_, ?_⟩; · go_simp; exact rfl
        refine reg_pure 7 rfl (by kernel_rfl) (by kernel_rfl) ?_; apply Exists.intro; refine ⟨fun w' => ?_, ?_⟩; · go_simp; exact rfl
        refine reg_pure 8 rfl (by kernel_rfl) (by kernel_rfl) ?_; apply Exists.intro; refine ⟨fun w' => ?_, ?_⟩; · go_simp; exact rfl
        refine reg_pure 9 rfl (by kernel_rfl) (by kernel_rfl) ?_; apply Exists.intro; refine ⟨fun w' => ?_, ?_⟩; · go_simp; exact rfl
        refine reg_pure 10 rfl (by kernel_rfl) (by kernel_rfl) ?_; apply Exists.intro; refine ⟨fun w' => ?_, ?_⟩; · go_simp; exact rfl
        refine reg_pure 11 rfl (by kernel_rfl) (by kernel_rfl) ?_; apply Exists.intro; refine ⟨fun w' => ?_, ?_⟩; · go_simp; exact rfl
        refine reg_done (by kernel_rfl) (fun W9 hw9 => ?_) _
        rw [HQ.out]
        clear HQ Q2
        have HE9 := hid (HE4.out.trans (HE8.out.trans hw9))
        clear hw9 HE8
        go_simp
        go_wp2_with fail
        go_ret2
        rw [HEQ.out]
        exact ⟨⟨_, rfl, fun t ht => by cases ht; first | (simp [Tm.val, hyv, hzv]; done) | (simp [Tm.val, hyv, hzv, hxv]; done)⟩, HE9.out⟩

set_option maxHeartbeats 16000000 in
set_option maxRecDepth 100000 in
theorem made8 (hp : PoolOk f P μ) (a b c : Int) (h : MAt f P w0 W own m μ v) :
    Calls Tryz.prog 34 #[ptr m.wb, .agg #[.int .i64 8, .int .i64 a, .int .i64 b, .int .i64 c]] W fun e w' => Made (μ.made f 8 a b c) e ∧ Ext W w' := by
  have hmd : μ.made f 8 a b c = if (1 ≤ a ∧ a ≤ 3) ∧ μ.place b ≠ .non ∧ μ.place c ≠ .non then some (.chain a (μ.place b) (μ.place c)) else none := rfl
  have HMD := hid hmd
  have HXB := hid (fun (hne : μ.place a ≠ .non) => (hp.fine _ (place_mem hne)).1)
  clear hmd hp
  generalize μ.made f 8 a b c = res at *
  have HPA := hid (place_at h a)
  have HPB := hid (place_at h b)
  have HPC := hid (place_at h c)
  have HE := hid (Ext.alloc W (.cells #[.int .i64 8, .int .i64 a, .int .i64 b, .int .i64 c] 39 (0, 0)))
  have HBK := hid (blk_new W (.cells #[.int .i64 8, .int .i64 a, .int .i64 b, .int .i64 c] 39 (0, 0)))
  have HM := hid h
  clear h
  generalize μ.place a = x at *
  generalize μ.place b = y at *
  generalize μ.place c = z at *
  go_enter Tryz.func34, Tryz.ntmps34
  go_upto_region 1 with fail
  generalize World.alloc W _ = W1 at *
  generalize W.heap.size = q at *
  refine reg_begin 15 (by kernel_rfl) ?_
  refine reg_hide (fun Q2 HQ => ?_)
  generalize hW : World.drew _ = W2
  have HE2 : Hid (Ext W1 W2) := hid (by rw [← hW]; exact Ext.drew _)
  clear hW
  refine reg_pure 0 rfl (by kernel_rfl) (by kernel_rfl) ?_; apply Exists.intro; refine ⟨fun w' => ?_, ?_⟩; · go_simp; exact rfl
  refine reg_pure 1 rfl (by kernel_rfl) (by kernel_rfl) ?_; apply Exists.intro; refine ⟨fun w' => ?_, ?_⟩; · go_simp; exact rfl
  refine reg_quiet 2 rfl (by kernel_rfl) (by kernel_rfl) ?_; apply Exists.intro; refine ⟨fun w' hw' => ?_, ?_⟩; · have q0 : w'.cell? ⟨q, 1, none⟩ = some (.int .i64 a) := cell_blk ((HE2.out.trans hw').blk HBK.out) rfl; go_simp; exact ⟨rfl, Ext.refl _⟩
  refine reg_quiet 3 rfl (by kernel_rfl) (by kernel_rfl) ?_; apply Exists.intro; refine ⟨fun w' hw' => ?_, ?_⟩; · go_simp; exact HPA.out w' (HE.out.trans (HE2.out.trans hw'))
  refine reg_pure 4 rfl (by kernel_rfl) (by kernel_rfl) ?_; apply Exists.intro; refine ⟨fun w' => ?_, ?_⟩; · go_simp; exact rfl
  refine reg_pure 5 rfl (by kernel_rfl) (by kernel_rfl) ?_; apply Exists.intro; refine ⟨fun w' => ?_, ?_⟩; · go_simp; exact rfl
  refine reg_quiet 6 rfl (by kernel_rfl) (by kernel_rfl) ?_; apply Exists.intro; refine ⟨fun w' hw' => ?_, ?_⟩; · have q0 : w'.cell? ⟨q, 2, none⟩ = some (.int .i64 b) := cell_blk ((HE2.out.trans hw').blk HBK.out) rfl; go_simp; exact ⟨rfl, Ext.refl _⟩
  refine reg_quiet 7 rfl (by kernel_rfl) (by kernel_rfl) ?_; apply Exists.intro; refine ⟨fun w' hw' => ?_, ?_⟩; · go_simp; exact HPB.out w' (HE.out.trans (HE2.out.trans hw'))
  refine reg_pure 8 rfl (by kernel_rfl) (by kernel_rfl) ?_; apply Exists.intro; refine ⟨fun w' => ?_, ?_⟩; · go_simp; exact rfl
  refine reg_pure 9 rfl (by kernel_rfl) (by kernel_rfl) ?_; apply Exists.intro; refine ⟨fun w' => ?_, ?_⟩; · go_simp; exact rfl
  refine reg_quiet 10 rfl (by kernel_rfl) (by kernel_rfl) ?_; apply Exists.intro; refine ⟨fun w' hw' => ?_, ?_⟩; · have q0 : w'.cell? ⟨q, 3, none⟩ = some (.int .i64 c) := cell_blk ((HE2.out.trans hw').blk HBK.out) rfl; go_simp; exact ⟨rfl, Ext.refl _⟩
  refine reg_quiet 11 rfl (by kernel_rfl) (by kernel_rfl) ?_; apply Exists.intro; refine ⟨fun w' hw' => ?_, ?_⟩; · go_simp; exact HPC.out w' (HE.out.trans (HE2.out.trans hw'))
  refine reg_pure 12 rfl (by kernel_rfl) (by kernel_rfl) ?_; apply Exists.intro; refine ⟨fun w' => ?_, ?_⟩; · go_simp; exact rfl
  refine reg_pure 13 rfl (by kernel_rfl) (by kernel_rfl) ?_; apply Exists.intro; refine ⟨fun w' => ?_, ?_⟩; · go_simp; exact rfl
  refine reg_pure 14 rfl (by kernel_rfl) (by kernel_rfl) ?_; apply Exists.intro; refine ⟨fun w' => ?_, ?_⟩; · go_simp; exact rfl
  refine reg_done (by kernel_rfl) (fun W3 hw3 => ?_) _
  rw [HQ.out]
  clear HQ Q2
  have HE3 := hid (HE.out.trans (HE2.out.trans hw3))
  have HB3 := hid ((HE2.out.trans hw3).blk HBK.out)
  clear hw3 HE2 HBK HPA HPB HPC
  go_simp
  cases hbx : x.isBox
  · have hta := ta_nb hbx
    clear HXB
    have HE4 := hid (HE3.out.trans (Ext.alloc W3 (.cells #[.nilIface, .int .i64 0, .nilIface, .nilIface] 90 (0, 0))))
    have HB4 := hid ((Ext.alloc W3 (.cells #[.nilIface, .int .i64 0, .nilIface, .nilIface] 90 (0, 0))).blk HB3.out)
    have HX4 := hid (blk_new W3 (.cells #[.nilIface, .int .i64 0, .nilIface, .nilIface] 90 (0, 0)))
    go_upto_region 3 with fail
    generalize World.alloc W3 _ = W4 at *
    generalize W3.heap.size = p at *
    clear HE3 HB3
    have d0 : W4.cell? ⟨q, 0, none⟩ = some (.int .i64 8) := cell_blk HB4.out rfl
    go_wp2_with fail
    clear d0
    clear hta hbx
    generalize x.val = xv
    refine reg_begin 24 (by kernel_rfl) ?_
    refine reg_hide (fun Q2 HQ => ?_)
    generalize hW : World.drew _ = W8
    have HE8 : Hid (Ext W4 W8) := hid (by rw [← hW]; exact Ext.drew _)
    clear hW
    refine reg_pure 0 rfl (by kernel_rfl) (by kernel_rfl) ?_; apply Exists.intro; refine ⟨fun w' => ?_, ?_⟩; · go_simp; exact rfl
    refine reg_quiet 1 rfl (by kernel_rfl) (by kernel_rfl) ?_; apply Exists.intro; refine ⟨fun w' hw' => ?_, ?_⟩; · have q0 : w'.cell? ⟨q, 1, none⟩ = some (.int .i64 a) := cell_blk ((HE8.out.trans hw').blk HB4.out) rfl; go_simp; exact ⟨rfl, Ext.refl _⟩
    refine reg_pure 2 rfl (by kernel_rfl) (by kernel_rfl) ?_; apply Exists.intro; refine ⟨fun w' => ?_, ?_⟩; · go_simp; exact rfl
    refine reg_pure 3 rfl (by kernel_rfl) (by kernel_rfl) ?_; apply Exists.intro; refine ⟨fun w' => ?_, ?_⟩; · go_simp; exact rfl
    refine reg_build 4 [(0, .int .i64 a), (1, y.val), (2, z.val)] (.agg #[.int .i64 a, y.val, z.val]) rfl (by kernel_rfl) (by go_simp) (run_build_chain a y z) ?_
    refine reg_pure 5 rfl (by kernel_rfl) (by kernel_rfl) ?_; apply Exists.intro; refine ⟨fun w' => ?_, ?_⟩; · go_simp; exact rfl
    by_cases ha1 : 1 ≤ a
    ·
      by_cases ha3 : a ≤ 3
      ·
        refine reg_pure 6 rfl (by kernel_rfl) (by kernel_rfl) ?_; apply Exists.intro; refine ⟨fun w' => ?_, ?_⟩; · go_simp; exact rfl
        refine reg_quiet 7 rfl (by kernel_rfl) (by kernel_rfl) ?_; apply Exists.intro; refine ⟨fun w' hw' => ?_, ?_⟩; · have q0 : w'.cell? ⟨q, 1, none⟩ = some (.int .i64 a) := cell_blk ((HE8.out.trans hw').blk HB4.out) rfl; go_simp; exact ⟨rfl, Ext.refl _⟩
        refine reg_pure 8 rfl (by kernel_rfl) (by kernel_rfl) ?_; apply Exists.intro; refine ⟨fun w' => ?_, ?_⟩; · go_simp; exact rfl
        refine reg_pure 9 rfl (by kernel_rfl) (by kernel_rfl) ?_; apply Exists.intro; refine ⟨fun w' => ?_, ?_⟩; · go_simp; exact rfl
        refine reg_pure 10 rfl (by kernel_rfl) (by kernel_rfl) ?_; apply Exists.intro; refine ⟨fun w' => ?_, ?_⟩; · go_simp; exact rfl
        refine reg_quiet 11 rfl (by kernel_rfl) (by kernel_rfl) ?_; apply Exists.intro; refine ⟨fun w' hw' => ?_, ?_⟩; · have q0 : w'.cell? ⟨q, 1, none⟩ = some (.int .i64 a) := cell_blk ((HE8.out.trans hw').blk HB4.out) rfl; go_simp; exact ⟨rfl, Ext.refl _⟩
        refine reg_pure 12 rfl (by kernel_rfl) (by kernel_rfl) ?_; apply Exists.intro; refine ⟨fun w' => ?_, ?_⟩; · go_simp; exact rfl
        refine reg_pure 13 rfl (by kernel_rfl) (by kernel_rfl) ?_; apply Exists.intro; refine ⟨fun w' => ?_, ?_⟩; · go_simp; exact rfl
        refine reg_pure 14 rfl (by kernel_rfl) (by kernel_rfl) ?_; apply Exists.intro; refine ⟨fun w' => ?_, ?_⟩; · go_simp; exact rfl
        rcases y.form with ⟨hy, hyv⟩ | ⟨hy, yu, yd, hyv⟩
        ·
          rw [hyv]
          have HEQ : Hid (res = none) := hid (by rw [HMD.out, if_neg (fun h => h.2.1 hy)])
          refine reg_pure 15 rfl (by kernel_rfl) (by kernel_rfl) ?_; apply Exists.intro; refine ⟨fun w' => ?_, ?_⟩; · go_simp; exact rfl
          refine reg_pure 16 rfl (by kernel_rfl) (by kernel_rfl) ?_; apply Exists.intro; refine ⟨fun w' => ?_, ?_⟩; · go_simp; exact rfl
          refine reg_pure 17 rfl (by kernel_rfl) (by kernel_rfl) ?_; apply Exists.intro; refine ⟨fun w' => ?_, ?_⟩; · go_simp; exact rfl
          refine reg_pure 18 rfl (by kernel_rfl) (by kernel_rfl) ?_; apply Exists.intro; refine ⟨fun w' => ?_, ?_⟩; · go_simp; exact rfl
          refine reg_skip 19 rfl (by kernel_rfl) (by kernel_rfl) ?_
          refine reg_skip 20 rfl (by kernel_rfl) (by kernel_rfl) ?_
          refine reg_pure 21 rfl (by kernel_rfl) (by kernel_rfl) ?_; apply Exists.intro; refine ⟨fun w' => ?_, ?_⟩; · go_simp; exact rfl
          refine reg_pure 22 rfl (by kernel_rfl) (by kernel_rfl) ?_; apply Exists.intro; refine ⟨fun w' => ?_, ?_⟩; · go_simp; exact rfl
          refine reg_pure 23 rfl (by kernel_rfl) (by kernel_rfl) ?_; apply Exists.intro; refine ⟨fun w' => ?_, ?_⟩; · go_simp; exact rfl
          refine reg_done (by kernel_rfl) (fun W9 hw9 => ?_) _
          rw [HQ.out]
          clear HQ Q2
          have HE9 := hid (HE4.out.trans (HE8.out.trans hw9))
          clear hw9 HE8
          go_simp
          go_wp2_with fail
          go_ret2
          rw [HEQ.out]
          exact ⟨⟨_, rfl, fun t ht => by cases ht⟩, HE9.out⟩
        ·
          rw [hyv]
          rcases z.form with ⟨hz, hzv⟩ | ⟨hz, zu, zd, hzv⟩
          ·
            rw [hzv]
            have HEQ : Hid (res = none) := hid (by rw [HMD.out, if_neg (fun h => h.2.2 hz)])
            refine reg_pure 15 rfl (by kernel_rfl) (by kernel_rfl) ?_; apply Exists.intro; refine ⟨fun w' => ?_, ?_⟩; · go_simp; exact rfl
            refine reg_pure 16 rfl (by kernel_rfl) (by kernel_rfl) ?_; apply Exists.intro; refine ⟨fun w' => ?_, ?_⟩; · go_simp; exact rfl
            refine reg_pure 17 rfl (by kernel_rfl) (by kernel_rfl) ?_; apply Exists.intro; refine ⟨fun w' => ?_, ?_⟩; · go_simp; exact rfl
            refine reg_pure 18 rfl (by kernel_rfl) (by kernel_rfl) ?_; apply Exists.intro; refine ⟨fun w' => ?_, ?_⟩; · go_simp; exact rfl
            refine reg_pure 19 rfl (by kernel_rfl) (by kernel_rfl) ?_; apply Exists.intro; refine ⟨fun w' => ?_, ?_⟩; · go_simp; exact rfl
            refine reg_pure 20 rfl (by kernel_rfl) (by kernel_rfl) ?_; apply Exists.intro; refine ⟨fun w' => ?_, ?_⟩; · go_simp; exact rfl
            refine reg_pure 21 rfl (by kernel_rfl) (by kernel_rfl) ?_; apply Exists.intro; refine ⟨fun w' => ?_, ?_⟩; · go_simp; exact rfl
            refine reg_pure 22 rfl (by kernel_rfl) (by kernel_rfl) ?_; apply Exists.intro; refine ⟨fun w' => ?_, ?_⟩; · go_simp; exact rfl
            refine reg_pure 23 rfl (by kernel_rfl) (by kernel_rfl) ?_; apply Exists.intro; refine ⟨fun w' => ?_, ?_⟩; · go_simp; exact rfl
            refine reg_done (by kernel_rfl) (fun W9 hw9 => ?_) _
            rw [HQ.out]
            clear HQ Q2
            have HE9 := hid (HE4.out.trans (HE8.out.trans hw9))
            clear hw9 HE8
            go_simp
            go_wp2_with fail
            go_ret2
            rw [HEQ.out]
            exact ⟨⟨_, rfl, fun t ht => by cases ht⟩, HE9.out⟩
          ·
            rw [hzv]
            have HEQ : Hid (res = some (.chain a y z)) := hid (by rw [HMD.out, if_pos ⟨⟨ha1, ha3⟩, hy, hz⟩])
            refine reg_pure 15 rfl (by kernel_rfl) (by kernel_rfl) ?_; apply Exists.intro; refine ⟨fun w' => ?_, ?_⟩; · go_simp; exact rfl
            refine reg_pure 16 rfl (by kernel_rfl) (by kernel_rfl) ?_; apply Exists.intro; refine ⟨fun w' => ?_, ?_⟩; · go_simp; exact rfl
            refine reg_pure 17 rfl (by kernel_rfl) (by kernel_rfl) ?_; apply Exists.intro; refine ⟨fun w' => ?_, ?_⟩; · go_simp; exact rfl
            refine reg_pure 18 rfl (by kernel_rfl) (by kernel_rfl) ?_; apply Exists.intro; refine ⟨fun w' => ?_, ?_⟩; · go_simp; exact rfl
            refine reg_pure 19 rfl (by kernel_rfl) (by kernel_rfl) ?_; apply Exists.intro; refine ⟨fun w' => ?_, ?_⟩; · go_simp; exact rfl
            refine reg_pure 20 rfl (by kernel_rfl) (by kernel_rfl) ?_; apply Exists.intro; refine ⟨fun w' => ?_, ?_⟩; · go_simp; exact rfl
            refine reg_pure 21 rfl (by kernel_rfl) (by kernel_rfl) ?_; apply Exists.intro; refine ⟨fun w' => ?_, ?_⟩; · go_simp; exact rfl
            refine reg_pure 22 rfl (by kernel_rfl) (by kernel_rfl) ?_; apply Exists.intro; refine ⟨fun w' => ?_, ?_⟩; · go_simp; exact rfl
            refine reg_pure 23 rfl (by kernel_rfl) (by kernel_rfl) ?_; apply Exists.intro; refine ⟨fun w' => ?_, ?_⟩; · go_simp; exact rfl
            refine reg_done (by kernel_rfl) (fun W9 hw9 => ?_) _
            rw [HQ.out]
            clear HQ Q2
            have HE9 := hid (HE4.out.trans (HE8.out.trans hw9))
            clear hw9 HE8
            go_simp
            go_wp2_with fail
            go_ret2
            rw [HEQ.out]
            exact ⟨⟨_, rfl, fun t ht => by cases ht; first | (simp [Tm.val, hyv, hzv]; done) | (simp [Tm.val, hyv, hzv, hxv]; done)⟩, HE9.out⟩
      ·
        have HEQ : Hid (res = none) := hid (by rw [HMD.out, if_neg (fun h => ha3 h.1.2)])
        refine reg_pure 6 rfl (by kernel_rfl) (by kernel_rfl) ?_; apply Exists.intro; refine ⟨fun w' => ?_, ?_⟩; · go_simp; exact rfl
        refine reg_quiet 7 rfl (by kernel_rfl) (by kernel_rfl) ?_; apply Exists.intro; refine ⟨fun w' hw' => ?_, ?_⟩; · have q0 : w'.cell? ⟨q, 1, none⟩ = some (.int .i64 a) := cell_blk ((HE8.out.trans hw').blk HB4.out) rfl; go_simp; exact ⟨rfl, Ext.refl _⟩
        refine reg_pure 8 rfl (by kernel_rfl) (by kernel_rfl) ?_; apply Exists.intro; refine ⟨fun w' => ?_, ?_⟩; · go_simp; exact rfl
        refine reg_pure 9 rfl (by kernel_rfl) (by kernel_rfl) ?_; apply Exists.intro; refine ⟨fun w' => ?_, ?_⟩; · go_simp; exact rfl
        refine reg_pure 10 rfl (by kernel_rfl) (by kernel_rfl) ?_; apply Exists.intro; refine ⟨fun w' => ?_, ?_⟩; · go_simp; exact rfl
        refine reg_quiet 11 rfl (by kernel_rfl) (by kernel_rfl) ?_; apply Exists.intro; refine ⟨fun w' hw' => ?_, ?_⟩; · have q0 : w'.cell? ⟨q, 1, none⟩ = some (.int .i64 a) := cell_blk ((HE8.out.trans hw').blk HB4.out) rfl; go_simp; exact ⟨rfl, Ext.refl _⟩
        refine reg_pure 12 rfl (by kernel_rfl) (by kernel_rfl) ?_; apply Exists.intro; refine ⟨fun w' => ?_, ?_⟩; · go_simp; exact rfl
        refine reg_pure 13 rfl (by kernel_rfl) (by kernel_rfl) ?_; apply Exists.intro; refine ⟨fun w' => ?_, ?_⟩; · go_simp; exact rfl
        refine reg_pure 14 rfl (by kernel_rfl) (by kernel_rfl) ?_; apply Exists.intro; refine ⟨fun w' => ?_, ?_⟩; · go_simp; exact rfl
        refine reg_skip 15 rfl (by kernel_rfl) (by kernel_rfl) ?_
        refine reg_skip 16 rfl (by kernel_rfl) (by kernel_rfl) ?_
        refine reg_pure 17 rfl (by kernel_rfl) (by kernel_rfl) ?_; apply Exists.intro; refine ⟨fun w' => ?_, ?_⟩; · go_simp; exact rfl
        refine reg_pure 18 rfl (by kernel_rfl) (by kernel_rfl) ?_; apply Exists.intro; refine ⟨fun w' => ?_, ?_⟩; · go_simp; exact rfl
        refine reg_skip 19 rfl (by kernel_rfl) (by kernel_rfl) ?_
        refine reg_skip 20 rfl (by kernel_rfl) (by kernel_rfl) ?_
        refine reg_pure 21 rfl (by kernel_rfl) (by kernel_rfl) ?_; apply Exists.intro; refine ⟨fun w' => ?_, ?_⟩; · go_simp; exact rfl
        refine reg_pure 22 rfl (by kernel_rfl) (by kernel_rfl) ?_; apply Exists.intro; refine ⟨fun w' => ?_, ?_⟩; · go_simp; exact rfl
        refine reg_pure 23 rfl (by kernel_rfl) (by kernel_rfl) ?_; apply Exists.intro; refine ⟨fun w' => ?_, ?_⟩; · go_simp; exact rfl
        refine reg_done (by kernel_rfl) (fun W9 hw9 => ?_) _
        rw [HQ.out]
        clear HQ Q2
        have HE9 := hid (HE4.out.trans (HE8.out.trans hw9))
        clear hw9 HE8
        go_simp
        go_wp2_with fail
        go_ret2
        rw [HEQ.out]
        exact ⟨⟨_, rfl, fun t ht => by cases ht⟩, HE9.out⟩
    ·
      have HEQ : Hid (res = none) := hid (by rw [HMD.out, if_neg (fun h => ha1 h.1.1)])
      refine reg_pure 6 rfl (by kernel_rfl) (by kernel_rfl) ?_; apply Exists.intro; refine ⟨fun w' => ?_, ?_⟩; · go_simp; exact rfl
      refine reg_quiet 7 rfl (by kernel_rfl) (by kernel_rfl) ?_; apply Exists.intro; refine ⟨fun w' hw' => ?_, ?_⟩; · have q0 : w'.cell? ⟨q, 1, none⟩ = some (.int .i64 a) := cell_blk ((HE8.out.trans hw').blk HB4.out) rfl; go_simp; exact ⟨rfl, Ext.refl _⟩
      refine reg_pure 8 rfl (by kernel_rfl) (by kernel_rfl) ?_; apply Exists.intro; refine ⟨fun w' => ?_, ?_⟩; · go_simp; exact rfl
      refine reg_pure 9 rfl (by kernel_rfl) (by kernel_rfl) ?_; apply Exists.intro; refine ⟨fun w' => ?_, ?_⟩; · go_simp; exact rfl
      refine reg_skip 10 rfl (by kernel_rfl) (by kernel_rfl) ?_
      refine reg_skip 11 rfl (by kernel_rfl) (by kernel_rfl) ?_
      refine reg_skip 12 rfl (by kernel_rfl) (by kernel_rfl) ?_
      refine reg_pure 13 rfl (by kernel_rfl) (by kernel_rfl) ?_; apply Exists.intro; refine ⟨fun w' => ?_, ?_⟩; · go_simp; exact rfl
      refine reg_pure 14 rfl (by kernel_rfl) (by kernel_rfl) ?_; apply Exists.intro; refine ⟨fun w' => ?_, ?_⟩; · go_simp; exact rfl
      refine reg_skip 15 rfl (by kernel_rfl) (by kernel_rfl) ?_
      refine reg_skip 16 rfl (by kernel_rfl) (by kernel_rfl) ?_
      refine reg_pure 17 rfl (by kernel_rfl) (by kernel_rfl) ?_; apply Exists.intro; refine ⟨fun w' => ?_, ?_⟩; · go_simp; exact rfl
      refine reg_pure 18 rfl (by kernel_rfl) (by kernel_rfl) ?_; apply Exists.intro; refine ⟨fun w' => ?_, ?_⟩; · go_simp; exact rfl
      refine reg_skip 19 rfl (by kernel_rfl) (by kernel_rfl) ?_
      refine reg_skip 20 rfl (by kernel_rfl) (by kernel_rfl) ?_
      refine reg_pure 21 rfl (by kernel_rfl) (by kernel_rfl) ?_; apply Exists.intro; refine ⟨fun w' => ?_, ?_⟩; · go_simp; exact rfl
      refine reg_pure 22 rfl (by kernel_rfl) (by kernel_rfl) ?_; apply Exists.intro; refine ⟨fun w' => ?_, ?_⟩; · go_simp; exact rfl
      refine reg_pure 23 rfl (by kernel_rfl) (by kernel_rfl) ?_; apply Exists.intro; refine ⟨fun w' => ?_, ?_⟩; · go_simp; exact rfl
      refine reg_done (by kernel_rfl) (fun W9 hw9 => ?_) _
      rw [HQ.out]
      clear HQ Q2
      have HE9 := hid (HE4.out.trans (HE8.out.trans hw9))
      clear hw9 HE8
      go_simp
      go_wp2_with fail
      go_ret2
      rw [HEQ.out]
      exact ⟨⟨_, rfl, fun t ht => by cases ht⟩, HE9.out⟩
  · obtain ⟨xk, xn, xa, xt, rfl⟩ := isBox_box hbx
    have hxo := HXB.out (by simp)
    obtain ⟨ku, kd, hkv⟩ := Va.of hxo.2.1.ne
    obtain ⟨au, ad, hav⟩ := Va.of hxo.2.2.1.ne
    obtain ⟨tu, td, htv⟩ := Va.of hxo.2.2.2.ne
    have hv : (Tm.box xk xn xa xt).val = .iface 90 (.agg #[.iface ku kd, .int .i64 xn, .iface au ad, .iface tu td]) := by simp [Tm.val, hkv.eq, hav.eq, htv.eq]
    have hxv := hv
    have hx : Tm.box xk xn xa xt ≠ .non := by simp
    rw [hv]
    clear hv hkv hav htv hxo HXB hbx
    generalize Tm.box xk xn xa xt = x at *
    have HE4 := hid (HE3.out.trans (Ext.alloc W3 (.cells #[.iface ku kd, .int .i64 xn, .iface au ad, .iface tu td] 90 (0, 0))))
    have HB4 := hid ((Ext.alloc W3 (.cells #[.iface ku kd, .int .i64 xn, .iface au ad, .iface tu td] 90 (0, 0))).blk HB3.out)
    have HX4 := hid (blk_new W3 (.cells #[.iface ku kd, .int .i64 xn, .iface au ad, .iface tu td] 90 (0, 0)))
    go_upto_region 3 with fail
    generalize World.alloc W3 _ = W4 at *
    generalize W3.heap.size = p at *
    clear HE3 HB3
    have d0 : W4.cell? ⟨q, 0, none⟩ = some (.int .i64 8) := cell_blk HB4.out rfl
    go_wp2_with fail
    clear d0
    refine reg_begin 24 (by kernel_rfl) ?_
    refine reg_hide (fun Q2 HQ => ?_)
    generalize hW : World.drew _ = W8
    have HE8 : Hid (Ext W4 W8) := hid (by rw [← hW]; exact Ext.drew _)
    clear hW
    refine reg_pure 0 rfl (by kernel_rfl) (by kernel_rfl) ?_; apply Exists.intro; refine ⟨fun w' => ?_, ?_⟩; · go_simp; exact rfl
    refine reg_quiet 1 rfl (by kernel_rfl) (by kernel_rfl) ?_; apply Exists.intro; refine ⟨fun w' hw' => ?_, ?_⟩; · have q0 : w'.cell? ⟨q, 1, none⟩ = some (.int .i64 a) := cell_blk ((HE8.out.trans hw').blk HB4.out) rfl; go_simp; exact ⟨rfl, Ext.refl _⟩
    refine reg_pure 2 rfl (by kernel_rfl) (by kernel_rfl) ?_; apply Exists.intro; refine ⟨fun w' => ?_, ?_⟩; · go_simp; exact rfl
    refine reg_pure 3 rfl (by kernel_rfl) (by kernel_rfl) ?_; apply Exists.intro; refine ⟨fun w' => ?_, ?_⟩; · go_simp; exact rfl
    refine reg_build 4 [(0, .int .i64 a), (1, y.val), (2, z.val)] (.agg #[.int .i64 a, y.val, z.val]) rfl (by kernel_rfl) (by go_simp) (run_build_chain a y z) ?_
    refine reg_pure 5 rfl (by kernel_rfl) (by kernel_rfl) ?_; apply Exists.intro; refine ⟨fun w' => ?_, ?_⟩; · go_simp; exact rfl
    by_cases ha1 : 1 ≤ a
    ·
      by_cases ha3 : a ≤ 3
      ·
        refine reg_pure 6 rfl (by kernel_rfl) (by kernel_rfl) ?_; apply Exists.intro; refine ⟨fun w' => ?_, ?_⟩; · go_simp; exact rfl
        refine reg_quiet 7 rfl (by kernel_rfl) (by kernel_rfl) ?_; apply Exists.intro; refine ⟨fun w' hw' => ?_, ?_⟩; · have q0 : w'.cell? ⟨q, 1, none⟩ = some (.int .i64 a) := cell_blk ((HE8.out.trans hw').blk HB4.out) rfl; go_simp; exact ⟨rfl, Ext.refl _⟩
        refine reg_pure 8 rfl (by kernel_rfl) (by kernel_rfl) ?_; apply Exists.intro; refine ⟨fun w' => ?_, ?_⟩; · go_simp; exact rfl
        refine reg_pure 9 rfl (by kernel_rfl) (by kernel_rfl) ?_; apply Exists.intro; refine ⟨fun w' => ?_, ?_⟩; · go_simp; exact rfl
        refine reg_pure 10 rfl (by kernel_rfl) (by kernel_rfl) ?_; apply Exists.intro; refine ⟨fun w' => ?_, ?_⟩; · go_simp; exact rfl
        refine reg_quiet 11 rfl (by kernel_rfl) (by kernel_rfl) ?_; apply Exists.intro; refine ⟨fun w' hw' => ?_, ?_⟩; · have q0 : w'.cell? ⟨q, 1, none⟩ = some (.int .i64 a) := cell_blk ((HE8.out.trans hw').blk HB4.out) rfl; go_simp; exact ⟨rfl, Ext.refl _⟩
        refine reg_pure 12 rfl (by kernel_rfl) (by kernel_rfl) ?_; apply Exists.intro; refine ⟨fun w' => ?_, ?_⟩; · go_simp; exact rfl
        refine reg_pure 13 rfl (by kernel_rfl) (by kernel_rfl) ?_; apply Exists.intro; refine ⟨fun w' => ?_, ?_⟩; · go_simp; exact rfl
        refine reg_pure 14 rfl (by kernel_rfl) (by kernel_rfl) ?_; apply Exists.intro; refine ⟨fun w' => ?_, ?_⟩; · go_simp; exact rfl
        rcases y.form with ⟨hy, hyv⟩ | ⟨hy, yu, yd, hyv⟩
        ·
          rw [hyv]
          have HEQ : Hid (res = none) := hid (by rw [HMD.out, if_neg (fun h => h.2.1 hy)])
          refine reg_pure 15 rfl (by kernel_rfl) (by kernel_rfl) ?_; apply Exists.intro; refine ⟨fun w' => ?_, ?_⟩; · go_simp; exact rfl
          refine reg_pure 16 rfl (by kernel_rfl) (by kernel_rfl) ?_; apply Exists.intro; refine ⟨fun w' => ?_, ?_⟩; · go_simp; exact rfl
          refine reg_pure 17 rfl (by kernel_rfl) (by kernel_rfl) ?_; apply Exists.intro; refine ⟨fun w' => ?_, ?_⟩; · go_simp; exact rfl
          refine reg_pure 18 rfl (by kernel_rfl) (by kernel_rfl) ?_; apply Exists.intro; refine ⟨fun w' => ?_, ?_⟩; · go_simp; exact rfl
          refine reg_skip 19 rfl (by kernel_rfl) (by kernel_rfl) ?_
          refine reg_skip 20 rfl (by kernel_rfl) (by kernel_rfl) ?_
          refine reg_pure 21 rfl (by kernel_rfl) (by kernel_rfl) ?_; apply Exists.intro; refine ⟨fun w' => ?_, ?_⟩; · go_simp; exact rfl
          refine reg_pure 22 rfl (by kernel_rfl) (by kernel_rfl) ?_; apply Exists.intro; refine ⟨fun w' => ?_, ?_⟩; · go_simp; exact rfl
          refine reg_pure 23 rfl (by kernel_rfl) (by kernel_rfl) ?_; apply Exists.intro; refine ⟨fun w' => ?_, ?_⟩; · go_simp; exact rfl
          refine reg_done (by kernel_rfl) (fun W9 hw9 => ?_) _
          rw [HQ.out]
          clear HQ Q2
          have HE9 := hid (HE4.out.trans (HE8.out.trans hw9))
          clear hw9 HE8
          go_simp
          go_wp2_with fail
          go_ret2
          rw [HEQ.out]
          exact ⟨⟨_, rfl, fun t ht => by cases ht⟩, HE9.out⟩
        ·
          rw [hyv]
          rcases z.form with ⟨hz, hzv⟩ | ⟨hz, zu, zd, hzv⟩
          ·
            rw [hzv]
            have HEQ : Hid (res = none) := hid (by rw [HMD.out, if_neg (fun h => h.2.2 hz)])
            refine reg_pure 15 rfl (by kernel_rfl) (by kernel_rfl) ?_; apply Exists.intro; refine ⟨fun w' => ?_, ?_⟩; · go_simp; exact rfl
            refine reg_pure 16 rfl (by kernel_rfl) (by kernel_rfl) ?_; apply Exists.intro; refine ⟨fun w' => ?_, ?_⟩; · go_simp; exact rfl
            refine reg_pure 17 rfl (by kernel_rfl) (by kernel_rfl) ?_; apply Exists.intro; refine ⟨fun w' => ?_, ?_⟩; · go_simp; exact rfl
            refine reg_pure 18 rfl (by kernel_rfl) (by kernel_rfl) ?_; apply Exists.intro; refine ⟨fun w' => ?_, ?_⟩; · go_simp; exact rfl
            refine reg_pure 19 rfl (by kernel_rfl) (by kernel_rfl) ?_; apply Exists.intro; refine ⟨fun w' => ?_, ?_⟩; · go_simp; exact rfl
            refine reg_pure 20 rfl (by kernel_rfl) (by kernel_rfl) ?_; apply Exists.intro; refine ⟨fun w' => ?_, ?_⟩; · go_simp; exact rfl
            refine reg_pure 21 rfl (by kernel_rfl) (by kernel_rfl) ?_; apply Exists.intro; refine ⟨fun w' => ?_, ?_⟩; · go_simp; exact rfl
            refine reg_pure 22 rfl (by kernel_rfl) (by kernel_rfl) ?_; apply Exists.intro; refine ⟨fun w' => ?_, ?_⟩; · go_simp; exact rfl
            refine reg_pure 23 rfl (by kernel_rfl) (by kernel_rfl) ?_; apply Exists.intro; refine ⟨fun w' => ?_, ?_⟩; · go_simp; exact rfl
            refine reg_done (by kernel_rfl) (fun W9 hw9 => ?_) _
            rw [HQ.out]
            clear HQ Q2
            have HE9 := hid (HE4.out.trans (HE8.out.trans hw9))
            clear hw9 HE8
            go_simp
            go_wp2_with fail
            go_ret2
            rw [HEQ.out]
            exact ⟨⟨_, rfl, fun t ht => by cases ht⟩, HE9.out⟩
          ·
            rw [hzv]
            have HEQ : Hid (res = some (.chain a y z)) := hid (by rw [HMD.out, if_pos ⟨⟨ha1, ha3⟩, hy, hz⟩])
            refine reg_pure 15 rfl (by kernel_rfl) (by kernel_rfl) ?_; apply Exists.intro; refine ⟨fun w' => ?_, ?_⟩; · go_simp; exact rfl
            refine reg_pure 16 rfl (by kernel_rfl) (by kernel_rfl) ?_; apply Exists.intro; refine ⟨fun w' => ?_, ?_⟩; · go_simp; exact rfl
            refine reg_pure 17 rfl (by kernel_rfl) (by kernel_rfl) ?_; apply Exists.intro; refine ⟨fun w' => ?_, ?_⟩; · go_simp; exact rfl
            refine reg_pure 18 rfl (by kernel_rfl) (by kernel_rfl) ?_; apply Exists.intro; refine ⟨fun w' => ?_, ?_⟩; · go_simp; exact rfl
            refine reg_pure 19 rfl (by kernel_rfl) (by kernel_rfl) ?_; apply Exists.intro; refine ⟨fun w' => ?_, ?_⟩; · go_simp; exact rfl
            refine reg_pure 20 rfl (by kernel_rfl) (by kernel_rfl) ?_; apply Exists.intro; refine ⟨fun w' => ?_, ?_⟩; · go_simp; exact rfl
            refine reg_pure 21 rfl (by kernel_rfl) (by kernel_rfl) ?_; apply Exists.intro; refine ⟨fun w' => ?_, ?_⟩; · go_simp; exact rfl
            refine reg_pure 22 rfl (by kernel_rfl) (by kernel_rfl) ?_; apply Exists.intro; refine ⟨fun w' => ?_, ?_⟩; · go_simp; exact rfl
            refine reg_pure 23 rfl (by kernel_rfl) (by kernel_rfl) ?_; apply Exists.intro; refine ⟨fun w' => ?_, ?_⟩; · go_simp; exact rfl
            refine reg_done (by kernel_rfl) (fun W9 hw9 => ?_) _
            rw [HQ.out]
            clear HQ Q2
            have HE9 := hid (HE4.out.trans (HE8.out.trans hw9))
            clear hw9 HE8
            go_simp
            go_wp2_with fail
            go_ret2
            rw [HEQ.out]
            exact ⟨⟨_, rfl, fun t ht => by cases ht; first | (simp [Tm.val, hyv, hzv]; done) | (simp [Tm.val, hyv, hzv, hxv]; done)⟩, HE9.out⟩
      ·
        have HEQ : Hid (res = none) := hid (by rw [HMD.out, if_neg (fun h => ha3 h.1.2)])
        refine reg_pure 6 rfl (by kernel_rfl) (by kernel_rfl) ?_; apply Exists.intro; refine ⟨fun w' => ?_, ?_⟩; · go_simp; exact rfl
        refine reg_quiet 7 rfl (by kernel_rfl) (by kernel_rfl) ?_; apply Exists.intro; refine ⟨fun w' hw' => ?_, ?_⟩; · have q0 : w'.cell? ⟨q, 1, none⟩ = some (.int .i64 a) := cell_blk ((HE8.out.trans hw').blk HB4.out) rfl; go_simp; exact ⟨rfl, Ext.refl _⟩
        refine reg_pure 8 rfl (by kernel_rfl) (by kernel_rfl) ?_; apply Exists.intro; refine ⟨fun w' => ?_, ?_⟩; · go_simp; exact rfl
        refine reg_pure 9 rfl (by kernel_rfl) (by kernel_rfl) ?_; apply Exists.intro; refine ⟨fun w' => ?_, ?_⟩; · go_simp; exact rfl
        refine reg_pure 10 rfl (by kernel_rfl) (by kernel_rfl) ?_; apply Exists.intro; refine ⟨fun w' => ?_, ?_⟩; · go_simp; exact rfl
        refine reg_quiet 11 rfl (by kernel_rfl) (by kernel_rfl) ?_; apply Exists.intro; refine ⟨fun w' hw' => ?_, ?_⟩; · have q0 : w'.cell? ⟨q, 1, none⟩ = some (.int .i64 a) := cell_blk ((HE8.out.trans hw').blk HB4.out) rfl; go_simp; exact ⟨rfl, Ext.refl _⟩
        refine reg_pure 12 rfl (by kernel_rfl) (by kernel_rfl) ?_; apply Exists.intro; refine ⟨fun w' => ?_, ?_⟩; · go_simp; exact rfl
        refine reg_pure 13 rfl (by kernel_rfl) (by kernel_rfl) ?_; apply Exists.intro; refine ⟨fun w' => ?_, ?_⟩; · go_simp; exact rfl
        refine reg_pure 14 rfl (by kernel_rfl) (by kernel_rfl) ?_; apply Exists.intro; refine ⟨fun w' => ?_, ?_⟩; · go_simp; exact rfl
        refine reg_skip 15 rfl (by kernel_rfl) (by kernel_rfl) ?_
        refine reg_skip 16 rfl (by kernel_rfl) (by kernel_rfl) ?_
        refine reg_pure 17 rfl (by kernel_rfl) (by kernel_rfl) ?_; apply Exists.intro; refine ⟨fun w' => ?_, ?_⟩; · go_simp; exact rfl
        refine reg_pure 18 rfl (by kernel_rfl) (by kernel_rfl) ?_; apply Exists.intro; refine ⟨fun w' => ?_, ?_⟩; · go_simp; exact rfl
        refine reg_skip 19 rfl (by kernel_rfl) (by kernel_rfl) ?_
        refine reg_skip 20 rfl (by kernel_rfl) (by kernel_rfl) ?_
        refine reg_pure 21 rfl (by kernel_rfl) (by kernel_rfl) ?_; apply Exists.intro; refine ⟨fun w' => ?_, ?_⟩; · go_simp; exact rfl
        refine reg_pure 22 rfl (by kernel_rfl) (by kernel_rfl) ?_; apply Exists.intro; refine ⟨fun w' => ?_, ?_⟩; · go_simp; exact rfl
        refine reg_pure 23 rfl (by kernel_rfl) (by kernel_rfl) ?_; apply Exists.intro; refine ⟨fun w' => ?_, ?_⟩; · go_simp; exact rfl
        refine reg_done (by kernel_rfl) (fun W9 hw9 => ?_) _
        rw [HQ.out]
        clear HQ Q2
        have HE9 := hid (HE4.out.trans (HE8.out.trans hw9))
        clear hw9 HE8
        go_simp
        go_wp2_with fail
        go_ret2
        rw [HEQ.out]
        exact ⟨⟨_, rfl, fun t ht => by cases ht⟩, HE9.out⟩
    ·
      have HEQ : Hid (res = none) := hid (by rw [HMD.out, if_neg (fun h => ha1 h.1.1)])
      refine reg_pure 6 rfl (by kernel_rfl) (by kernel_rfl) ?_; apply Exists.intro; refine ⟨fun w' => ?_, ?_⟩; · go_simp; exact rfl
      refine reg_quiet 7 rfl (by kernel_rfl) (by kernel_rfl) ?_; apply Exists.intro; refine ⟨fun w' hw' => ?_, ?_⟩; · have q0 : w'.cell? ⟨q, 1, none⟩ = some (.int .i64 a) := cell_blk ((HE8.out.trans hw').blk HB4.out) rfl; go_simp; exact ⟨rfl, Ext.refl _⟩
      refine reg_pure 8 rfl (by kernel_rfl) (by kernel_rfl) ?_; apply Exists.intro; refine ⟨fun w' => ?_, ?_⟩; · go_simp; exact rfl
      refine reg_pure 9 rfl (by kernel_rfl) (by kernel_rfl) ?_; apply Exists.intro; refine ⟨fun w' => ?_, ?_⟩; · go_simp; exact rfl
      refine reg_skip 10 rfl (by kernel_rfl) (by kernel_rfl) ?_
      refine reg_skip 11 rfl (by kernel_rfl) (by kernel_rfl) ?_
      refine reg_skip 12 rfl (by kernel_rfl) (by kernel_rfl) ?_
      refine reg_pure 13 rfl (by kernel_rfl) (by kernel_rfl) ?_; apply Exists.intro; refine ⟨fun w' => ?_, ?_⟩; · go_simp; exact rfl
      refine reg_pure 14 rfl (by kernel_rfl) (by kernel_rfl) ?_; apply Exists.intro; refine ⟨fun w' => ?_, ?_⟩; · go_simp; exact rfl
      refine reg_skip 15 rfl (by kernel_rfl) (by kernel_rfl) ?_
      refine reg_skip 16 rfl (by kernel_rfl) (by kernel_rfl) ?_
      refine reg_pure 17 rfl (by kernel_rfl) (by kernel_rfl) ?_; apply Exists.intro; refine ⟨fun w' => ?_, ?_⟩; · go_simp; exact rfl
      refine reg_pure 18 rfl (by kernel_rfl) (by kernel_rfl) ?_; apply Exists.intro; refine ⟨fun w' => ?_, ?_⟩; · go_simp; exact rfl
      refine reg_skip 19 rfl (by kernel_rfl) (by kernel_rfl) ?_
      refine reg_skip 20 rfl (by kernel_rfl) (by kernel_rfl) ?_
      refine reg_pure 21 rfl (by kernel_rfl) (by kernel_rfl) ?_; apply Exists.intro; refine ⟨fun w' => ?_, ?_⟩; · go_simp; exact rfl
      refine reg_pure 22 rfl (by kernel_rfl) (by kernel_rfl) ?_; apply Exists.intro; refine ⟨fun w' => ?_, ?_⟩; · go_simp; exact rfl
      refine reg_pure 23 rfl (by kernel_rfl) (by kernel_rfl) ?_; apply Exists.intro; refine ⟨fun w' => ?_, ?_⟩; · go_simp; exact rfl
      refine reg_done (by kernel_rfl) (fun W9 hw9 => ?_) _
      rw [HQ.out]
      clear HQ Q2
      have HE9 := hid (HE4.out.trans (HE8.out.trans hw9))
      clear hw9 HE8
      go_simp
      go_wp2_with fail
      go_ret2
      rw [HEQ.out]
      exact ⟨⟨_, rfl, fun t ht => by cases ht⟩, HE9.out⟩

set_option maxHeartbeats 16000000 in
set_option maxRecDepth 100000 in
theorem made10 (hp : PoolOk f P μ) (a b c : Int) (h : MAt f P w0 W own m μ v) :
    Calls Tryz.prog 34 #[ptr m.wb, .agg #[.int .i64 10, .int .i64 a, .int .i64 b, .int .i64 c]] W fun e w' => Made (μ.made f 10 a b c) e ∧ Ext W w' := by
  have hmd : μ.made f 10 a b c = if μ.place a ≠ .non ∧ μ.place b ≠ .non ∧ μ.place c ≠ .non then some (.box (μ.place a) 0 (μ.place b) (μ.place c)) else none := rfl
  have HMD := hid hmd
  have HXB := hid (fun (hne : μ.place a ≠ .non) => (hp.fine _ (place_mem hne)).1)
  clear hmd hp
  generalize μ.made f 10 a b c = res at *
  have HPA := hid (place_at h a)
  have HPB := hid (place_at h b)
  have HPC := hid (place_at h c)
  have HE := hid (Ext.alloc W (.cells #[.int .i64 10, .int .i64 a, .int .i64 b, .int .i64 c] 39 (0, 0)))
  have HBK := hid (blk_new W (.cells #[.int .i64 10, .int .i64 a, .int .i64 b, .int .i64 c] 39 (0, 0)))
  have HM := hid h
  clear h
  generalize μ.place a = x at *
  generalize μ.place b = y at *
  generalize μ.place c = z at *
  go_enter Tryz.func34, Tryz.ntmps34
  go_upto_region 1 with fail
  generalize World.alloc W _ = W1 at *
  generalize W.heap.size = q at *
  refine reg_begin 15 (by kernel_rfl) ?_
  refine reg_hide (fun Q2 HQ => ?_)
  generalize hW : World.drew _ = W2
  have HE2 : Hid (Ext W1 W2) := hid (by rw [← hW]; exact Ext.drew _)
  clear hW
  refine reg_pure 0 rfl (by kernel_rfl) (by kernel_rfl) ?_; apply Exists.intro; refine ⟨fun w' => ?_, ?_⟩; · go_simp; exact rfl
  refine reg_pure 1 rfl (by kernel_rfl) (by kernel_rfl) ?_; apply Exists.intro; refine ⟨fun w' => ?_, ?_⟩; · go_simp; exact rfl
  refine reg_quiet 2 rfl (by kernel_rfl) (by kernel_rfl) ?_; apply Exists.intro; refine ⟨fun w' hw' => ?_, ?_⟩; · have q0 : w'.cell? ⟨q, 1, none⟩ = some (.int .i64 a) := cell_blk ((HE2.out.trans hw').blk HBK.out) rfl; go_simp; exact ⟨rfl, Ext.refl _⟩
  refine reg_quiet 3 rfl (by kernel_rfl) (by kernel_rfl) ?_; apply Exists.intro; refine ⟨fun w' hw' => ?_, ?_⟩; · go_simp; exact HPA.out w' (HE.out.trans (HE2.out.trans hw'))
  refine reg_pure 4 rfl (by kernel_rfl) (by kernel_rfl) ?_; apply Exists.intro; refine ⟨fun w' => ?_, ?_⟩; · go_simp; exact rfl
  refine reg_pure 5 rfl (by kernel_rfl) (by kernel_rfl) ?_; apply Exists.intro; refine ⟨fun w' => ?_, ?_⟩; · go_simp; exact rfl
  refine reg_quiet 6 rfl (by kernel_rfl) (by kernel_rfl) ?_; apply Exists.intro; refine ⟨fun w' hw' => ?_, ?_⟩; · have q0 : w'.cell? ⟨q, 2, none⟩ = some (.int .i64 b) := cell_blk ((HE2.out.trans hw').blk HBK.out) rfl; go_simp; exact ⟨rfl, Ext.refl _⟩
  refine reg_quiet 7 rfl (by kernel_rfl) (by kernel_rfl) ?_; apply Exists.intro; refine ⟨fun w' hw' => ?_, ?_⟩; · go_simp; exact HPB.out w' (HE.out.trans (HE2.out.trans hw'))
  refine reg_pure 8 rfl (by kernel_rfl) (by kernel_rfl) ?_; apply Exists.intro; refine ⟨fun w' => ?_, ?_⟩; · go_simp; exact rfl
  refine reg_pure 9 rfl (by kernel_rfl) (by kernel_rfl) ?_; apply Exists.intro; refine ⟨fun w' => ?_, ?_⟩; · go_simp; exact rfl
  refine reg_quiet 10 rfl (by kernel_rfl) (by kernel_rfl) ?_; apply Exists.intro; refine ⟨fun w' hw' => ?_, ?_⟩; · have q0 : w'.cell? ⟨q, 3, none⟩ = some (.int .i64 c) := cell_blk ((HE2.out.trans hw').blk HBK.out) rfl; go_simp; exact ⟨rfl, Ext.refl _⟩
  refine reg_quiet 11 rfl (by kernel_rfl) (by kernel_rfl) ?_; apply Exists.intro; refine ⟨fun w' hw' => ?_, ?_⟩; · go_simp; exact HPC.out w' (HE.out.trans (HE2.out.trans hw'))
  refine reg_pure 12 rfl (by kernel_rfl) (by kernel_rfl) ?_; apply Exists.intro; refine ⟨fun w' => ?_, ?_⟩; · go_simp; exact rfl
  refine reg_pure 13 rfl (by kernel_rfl) (by kernel_rfl) ?_; apply Exists.intro; refine ⟨fun w' => ?_, ?_⟩; · go_simp; exact rfl
  refine reg_pure 14 rfl (by kernel_rfl) (by kernel_rfl) ?_; apply Exists.intro; refine ⟨fun w' => ?_, ?_⟩; · go_simp; exact rfl
  refine reg_done (by kernel_rfl) (fun W3 hw3 => ?_) _
  rw [HQ.out]
  clear HQ Q2
  have HE3 := hid (HE.out.trans (HE2.out.trans hw3))
  have HB3 := hid ((HE2.out.trans hw3).blk HBK.out)
  clear hw3 HE2 HBK HPA HPB HPC
  go_simp
  cases hbx : x.isBox
  · have hta := ta_nb hbx
    clear HXB
    have HE4 := hid (HE3.out.trans (Ext.alloc W3 (.cells #[.nilIface, .int .i64 0, .nilIface, .nilIface] 90 (0, 0))))
    have HB4 := hid ((Ext.alloc W3 (.cells #[.nilIface, .int .i64 0, .nilIface, .nilIface] 90 (0, 0))).blk HB3.out)
    have HX4 := hid (blk_new W3 (.cells #[.nilIface, .int .i64 0, .nilIface, .nilIface] 90 (0, 0)))
    go_upto_region 3 with fail
    generalize World.alloc W3 _ = W4 at *
    generalize W3.heap.size = p at *
    clear HE3 HB3
    have d0 : W4.cell? ⟨q, 0, none⟩ = some (.int .i64 10) := cell_blk HB4.out rfl
    go_wp2_with fail
    clear d0
    clear hta hbx
    refine reg_begin 17 (by kernel_rfl) ?_
    refine reg_hide (fun Q2 HQ => ?_)
    generalize hW : World.drew _ = W8
    have HE8 : Hid (Ext W4 W8) := hid (by rw [← hW]; exact Ext.drew _)
    clear hW
    refine reg_pure 0 rfl (by kernel_rfl) (by kernel_rfl) ?_; apply Exists.intro; refine ⟨fun w' => ?_, ?_⟩; · go_simp; exact rfl
    refine reg_pure 1 rfl (by kernel_rfl) (by kernel_rfl) ?_; apply Exists.intro; refine ⟨fun w' => ?_, ?_⟩; · go_simp; exact rfl
    refine reg_pure 2 rfl (by kernel_rfl) (by kernel_rfl) ?_; apply Exists.intro; refine ⟨fun w' => ?_, ?_⟩; · go_simp; exact rfl
    refine reg_build 3 [(0, x.val), (2, y.val), (3, z.val)] (.agg #[x.val, .int .i64 0, y.val, z.val]) rfl (by kernel_rfl) (by go_simp) (run_build_box0 x y z) ?_
    refine reg_pure 4 rfl (by kernel_rfl) (by kernel_rfl) ?_; apply Exists.intro; refine ⟨fun w' => ?_, ?_⟩; · go_simp; exact rfl
    rcases x.form with ⟨hx, hxv⟩ | ⟨hx, xu, xd, hxv⟩
    ·
      rw [hxv]
      have HEQ : Hid (res = none) := hid (by rw [HMD.out, if_neg (fun h => h.1 hx)])
      refine reg_pure 5 rfl (by kernel_rfl) (by kernel_rfl) ?_; apply Exists.intro; refine ⟨fun w' => ?_, ?_⟩; · go_simp; exact rfl
      refine reg_pure 6 rfl (by kernel_rfl) (by kernel_rfl) ?_; apply Exists.intro; refine ⟨fun w' => ?_, ?_⟩; · go_simp; exact rfl
      refine reg_pure 7 rfl (by kernel_rfl) (by kernel_rfl) ?_; apply Exists.intro; refine ⟨fun w' => ?_, ?_⟩; · go_simp; exact rfl
      refine reg_skip 8 rfl (by kernel_rfl) (by kernel_rfl) ?_
      refine reg_skip 9 rfl (by kernel_rfl) (by kernel_rfl) ?_
      refine reg_pure 10 rfl (by kernel_rfl) (by kernel_rfl) ?_; apply Exists.intro; refine ⟨fun w' => ?_, ?_⟩; · go_simp; exact rfl
      refine reg_pure 11 rfl (by kernel_rfl) (by kernel_rfl) ?_; apply Exists.intro; refine ⟨fun w' => ?_, ?_⟩; · go_simp; exact rfl
      refine reg_skip 12 rfl (by kernel_rfl) (by kernel_rfl) ?_
      refine reg_skip 13 rfl (by kernel_rfl) (by kernel_rfl) ?_
      refine reg_pure 14 rfl (by kernel_rfl) (by kernel_rfl) ?_; apply Exists.intro; refine ⟨fun w' => ?_, ?_⟩; · go_simp; exact rfl
      refine reg_pure 15 rfl (by kernel_rfl) (by kernel_rfl) ?_; apply Exists.intro; refine ⟨fun w' => ?_, ?_⟩; · go_simp; exact rfl
      refine reg_pure 16 rfl (by kernel_rfl) (by kernel_rfl) ?_; apply Exists.intro; refine ⟨fun w' => ?_, ?_⟩; · go_simp; exact rfl
      refine reg_done (by kernel_rfl) (fun W9 hw9 => ?_) _
      rw [HQ.out]
      clear HQ Q2
      have HE9 := hid (HE4.out.trans (HE8.out.trans hw9))
      clear hw9 HE8
      go_simp
      go_wp2_with fail
      go_ret2
      rw [HEQ.out]
      exact ⟨⟨_, rfl, fun t ht => by cases ht⟩, HE9.out⟩
    ·
      rw [hxv]
      rcases y.form with ⟨hy, hyv⟩ | ⟨hy, yu, yd, hyv⟩
      ·
        rw [hyv]
        have HEQ : Hid (res = none) := hid (by rw [HMD.out, if_neg (fun h => h.2.1 hy)])
        refine reg_pure 5 rfl (by kernel_rfl) (by kernel_rfl) ?_; apply Exists.intro; refine ⟨fun w' => ?_, ?_⟩; · go_simp; exact rfl
        refine reg_pure 6 rfl (by kernel_rfl) (by kernel_rfl) ?_; apply Exists.intro; refine ⟨fun w' => ?_, ?_⟩; · go_simp; exact rfl
        refine reg_pure 7 rfl (by kernel_rfl) (by kernel_rfl) ?_; apply Exists.intro; refine ⟨fun w' => ?_, ?_⟩; · go_simp; exact rfl
        refine reg_pure 8 rfl (by kernel_rfl) (by kernel_rfl) ?_; apply Exists.intro; refine ⟨fun w' => ?_, ?_⟩; · go_simp; exact rfl
        refine reg_pure 9 rfl (by kernel_rfl) (by kernel_rfl) ?_; apply Exists.intro; refine ⟨fun w' => ?_, ?_⟩; · go_simp; exact rfl
        refine reg_pure 10 rfl (by kernel_rfl) (by kernel_rfl) ?_; apply Exists.intro; refine ⟨fun w' => ?_, ?_⟩; · go_simp; exact rfl
        refine reg_pure 11 rfl (by kernel_rfl) (by kernel_rfl) ?_; apply Exists.intro; refine ⟨fun w' => ?_, ?_⟩; · go_simp; exact rfl
        refine reg_skip 12 rfl (by kernel_rfl) (by kernel_rfl) ?_
        refine reg_skip 13 rfl (by kernel_rfl) (by kernel_rfl) ?_
        refine reg_pure 14 rfl (by kernel_rfl) (by kernel_rfl) ?_; apply Exists.intro; refine ⟨fun w' => ?_, ?_⟩; · go_simp; exact rfl
        refine reg_pure 15 rfl (by kernel_rfl) (by kernel_rfl) ?_; apply Exists.intro; refine ⟨fun w' => ?_, ?_⟩; · go_simp; exact rfl
        refine reg_pure 16 rfl (by kernel_rfl) (by kernel_rfl) ?_; apply Exists.intro; refine ⟨fun w' => ?_, ?_⟩; · go_simp; exact rfl
        refine reg_done (by kernel_rfl) (fun W9 hw9 => ?_) _
        rw [HQ.out]
        clear HQ Q2
        have HE9 := hid (HE4.out.trans (HE8.out.trans hw9))
        clear hw9 HE8
        go_simp
        go_wp2_with fail
        go_ret2
        rw [HEQ.out]
        exact ⟨⟨_, rfl, fun t ht => by cases ht⟩, HE9.out⟩
      ·
        rw [hyv]
        rcases z.form with ⟨hz, hzv⟩ | ⟨hz, zu, zd, hzv⟩
        ·
          rw [hzv]
          have HEQ : Hid (res = none) := hid (by rw [HMD.out, if_neg (fun h => h.2.2 hz)])
          refine reg_pure 5 rfl (by kernel_rfl) (by kernel_rfl) ?_; apply Exists.intro; refine ⟨fun w' => ?_, ?_⟩; · go_simp; exact rfl
          refine reg_pure 6 rfl (by kernel_rfl) (by kernel_rfl) ?_; apply Exists.intro; refine ⟨fun w' => ?_, ?_⟩; · go_simp; exact rfl
          refine reg_pure 7 rfl (by kernel_rfl) (by kernel_rfl) ?_; apply Exists.intro; refine ⟨fun w' => ?_, ?_⟩; · go_simp; exact rfl
          refine reg_pure 8 rfl (by kernel_rfl) (by kernel_rfl) ?_; apply Exists.intro; refine ⟨fun w' => ?_, ?_⟩; · go_simp; exact rfl
          refine reg_pure 9 rfl (by kernel_rfl) (by kernel_rfl) ?_; apply Exists.intro; refine ⟨fun w' => ?_, ?_⟩; · go_simp; exact rfl
          refine reg_pure 10 rfl (by kernel_rfl) (by kernel_rfl) ?_; apply Exists.intro; refine ⟨fun w' => ?_, ?_⟩; · go_simp; exact rfl
          refine reg_pure 11 rfl (by kernel_rfl) (by kernel_rfl) ?_; apply Exists.intro; refine ⟨fun w' => ?_, ?_⟩; · go_simp; exact rfl
          refine reg_pure 12 rfl (by kernel_rfl) (by kernel_rfl) ?_; apply Exists.intro; refine ⟨fun w' => ?_, ?_⟩; · go_simp; exact rfl
          refine reg_pure 13 rfl (by kernel_rfl) (by kernel_rfl) ?_; apply Exists.intro; refine ⟨fun w' => ?_, ?_⟩; · go_simp; exact rfl
          refine reg_pure 14 rfl (by kernel_rfl) (by kernel_rfl) ?_; apply Exists.intro; refine ⟨fun w' => ?_, ?_⟩; · go_simp; exact rfl
          refine reg_pure 15 rfl (by kernel_rfl) (by kernel_rfl) ?_; apply Exists.intro; refine ⟨fun w' => ?_, ?_⟩; · go_simp; exact rfl
          refine reg_pure 16 rfl (by kernel_rfl) (by kernel_rfl) ?_; apply Exists.intro; refine ⟨fun w' => ?_, ?_⟩; · go_simp; exact rfl
          refine reg_done (by kernel_rfl) (fun W9 hw9 => ?_) _
          rw [HQ.out]
          clear HQ Q2
          have HE9 := hid (HE4.out.trans (HE8.out.trans hw9))
          clear hw9 HE8
          go_simp
          go_wp2_with fail
          go_ret2
          rw [HEQ.out]
          exact ⟨⟨_, rfl, fun t ht => by cases ht⟩, HE9.out⟩
        ·
          rw [hzv]
          have HEQ : Hid (res = some (.box x 0 y z)) := hid (by rw [HMD.out, if_pos ⟨hx, hy, hz⟩])
          refine reg_pure 5 rfl (by kernel_rfl) (by kernel_rfl) ?_; apply Exists.intro; refine ⟨fun w' => ?_, ?_⟩; · go_simp; exact rfl
          refine reg_pure 6 rfl (by kernel_rfl) (by kernel_rfl) ?_; apply Exists.intro; refine ⟨fun w' => ?_, ?_⟩; · go_simp; exact rfl
          refine reg_pure 7 rfl (by kernel_rfl) (by kernel_rfl) ?_; apply Exists.intro; refine ⟨fun w' => ?_, ?_⟩; · go_simp; exact rfl
          refine reg_pure 8 rfl (by kernel_rfl) (by kernel_rfl) ?_; apply Exists.intro; refine ⟨fun w' => ?_, ?_⟩; · go_simp; exact rfl
          refine reg_pure 9 rfl (by kernel_rfl) (by kernel_rfl) ?_; apply Exists.intro; refine ⟨fun w' => ?_, ?_⟩; · go_simp; exact rfl
          refine reg_pure 10 rfl (by kernel_rfl) (by kernel_rfl) ?_; apply Exists.intro; refine ⟨fun w' => ?_, ?_⟩; · go_simp; exact rfl
          refine reg_pure 11 rfl (by kernel_rfl) (by kernel_rfl) ?_; apply Exists.intro; refine ⟨fun w' => ?_, ?_⟩; · go_simp; exact rfl
          refine reg_pure 12 rfl (by kernel_rfl) (by kernel_rfl) ?_; apply Exists.intro; refine ⟨fun w' => ?_, ?_⟩; · go_simp; exact rfl
          refine reg_pure 13 rfl (by kernel_rfl) (by kernel_rfl) ?_; apply Exists.intro; refine ⟨fun w' => ?_, ?_⟩; · go_simp; exact rfl
          refine reg_pure 14 rfl (by kernel_rfl) (by kernel_rfl) ?_; apply Exists.intro; refine ⟨fun w' => ?_, ?_⟩; · go_simp; exact rfl
          refine reg_pure 15 rfl (by kernel_rfl) (by kernel_rfl) ?_; apply Exists.intro; refine ⟨fun w' => ?_, ?_⟩; · go_simp; exact rfl
          refine reg_pure 16 rfl (by kernel_rfl) (by kernel_rfl) ?_; apply Exists.intro; refine ⟨fun w' => ?_, ?_⟩; · go_simp; exact rfl
          refine reg_done (by kernel_rfl) (fun W9 hw9 => ?_) _
          rw [HQ.out]
          clear HQ Q2
          have HE9 := hid (HE4.out.trans (HE8.out.trans hw9))
          clear hw9 HE8
          go_simp
          go_wp2_with fail
          go_ret2
          rw [HEQ.out]
          exact ⟨⟨_, rfl, fun t ht => by cases ht; first | (simp [Tm.val, hyv, hzv]; done) | (simp [Tm.val, hyv, hzv, hxv]; done)⟩, HE9.out⟩
  · obtain ⟨xk, xn, xa, xt, rfl⟩ := isBox_box hbx
    have hxo := HXB.out (by simp)
    obtain ⟨ku, kd, hkv⟩ := Va.of hxo.2.1.ne
    obtain ⟨au, ad, hav⟩ := Va.of hxo.2.2.1.ne
    obtain ⟨tu, td, htv⟩ := Va.of hxo.2.2.2.ne
    have hv : (Tm.box xk xn xa xt).val = .iface 90 (.agg #[.iface ku kd, .int .i64 xn, .iface au ad, .iface tu td]) := by simp [Tm.val, hkv.eq, hav.eq, htv.eq]
    have hxv := hv
    have hx : Tm.box xk xn xa xt ≠ .non := by simp
    rw [hv]
    clear hv hkv hav htv hxo HXB hbx
    generalize Tm.box xk xn xa xt = x at *
    have HE4 := hid (HE3.out.trans (Ext.alloc W3 (.cells #[.iface ku kd, .int .i64 xn, .iface au ad, .iface tu td] 90 (0, 0))))
    have HB4 := hid ((Ext.alloc W3 (.cells #[.iface ku kd, .int .i64 xn, .iface au ad, .iface tu td] 90 (0, 0))).blk HB3.out)
    have HX4 := hid (blk_new W3 (.cells #[.iface ku kd, .int .i64 xn, .iface au ad, .iface tu td] 90 (0, 0)))
    go_upto_region 3 with fail
    generalize World.alloc W3 _ = W4 at *
    generalize W3.heap.size = p at *
    clear HE3 HB3
    have d0 : W4.cell? ⟨q, 0, none⟩ = some (.int .i64 10) := cell_blk HB4.out rfl
    go_wp2_with fail
    clear d0
    refine reg_begin 17 (by kernel_rfl) ?_
    refine reg_hide (fun Q2 HQ => ?_)
    generalize hW : World.drew _ = W8
    have HE8 : Hid (Ext W4 W8) := hid (by rw [← hW]; exact Ext.drew _)
    clear hW
    refine reg_pure 0 rfl (by kernel_rfl) (by kernel_rfl) ?_; apply Exists.intro; refine ⟨fun w' => ?_, ?_⟩; · go_simp; exact rfl
    refine reg_pure 1 rfl (by kernel_rfl) (by kernel_rfl) ?_; apply Exists.intro; refine ⟨fun w' => ?_, ?_⟩; · go_simp; exact rfl
    refine reg_pure 2 rfl (by kernel_rfl) (by kernel_rfl) ?_; apply Exists.intro; refine ⟨fun w' => ?_, ?_⟩; · go_simp; exact rfl
    refine reg_build 3 [(0, .iface 90 (.agg #[.iface ku kd, .int .i64 xn, .iface au ad, .iface tu td])), (2, y.val), (3, z.val)] (.agg #[.iface 90 (.agg #[.iface ku kd, .int .i64 xn, .iface au ad, .iface tu td]), .int .i64 0, y.val, z.val]) rfl (by kernel_rfl) (by go_simp) (hxv ▸ run_build_box0 x y z) ?_
    refine reg_pure 4 rfl (by kernel_rfl) (by kernel_rfl) ?_; apply Exists.intro; refine ⟨fun w' => ?_, ?_⟩; · go_simp; exact rfl
    rcases y.form with ⟨hy, hyv⟩ | ⟨hy, yu, yd, hyv⟩
    ·
      rw [hyv]
      have HEQ : Hid (res = none) := hid (by rw [HMD.out, if_neg (fun h => h.2.1 hy)])
      refine reg_pure 5 rfl (by kernel_rfl) (by kernel_rfl) ?_; apply Exists.intro; refine ⟨fun w' => ?_, ?_⟩; · go_simp; exact rfl
      refine reg_pure 6 rfl (by kernel_rfl) (by kernel_rfl) ?_; apply Exists.intro; refine ⟨fun w' => ?_, ?_⟩; · go_simp; exact rfl
      refine reg_pure 7 rfl (by kernel_rfl) (by kernel_rfl) ?_; apply Exists.intro; refine ⟨fun w' => ?_, ?_⟩; · go_simp; exact rfl
      refine reg_pure 8 rfl (by kernel_rfl) (by kernel_rfl) ?_; apply Exists.intro; refine ⟨fun w' => ?_, ?_⟩; · go_simp; exact rfl
      refine reg_pure 9 rfl (by kernel_rfl) (by kernel_rfl) ?_; apply Exists.intro; refine ⟨fun w' => ?_, ?_⟩; · go_simp; exact rfl
      refine reg_pure 10 rfl (by kernel_rfl) (by kernel_rfl) ?_; apply Exists.intro; refine ⟨fun w' => ?_, ?_⟩; · go_simp; exact rfl
      refine reg_pure 11 rfl (by kernel_rfl) (by kernel_rfl) ?_; apply Exists.intro; refine ⟨fun w' => ?_, ?_⟩; · go_simp; exact rfl
      refine reg_skip 12 rfl (by kernel_rfl) (by kernel_rfl) ?_
      refine reg_skip 13 rfl (by kernel_rfl) (by kernel_rfl) ?_
      refine reg_pure 14 rfl (by kernel_rfl) (by kernel_rfl) ?_; apply Exists.intro; refine ⟨fun w' => ?_, ?_⟩; · go_simp; exact rfl
      refine reg_pure 15 rfl (by kernel_rfl) (by kernel_rfl) ?_; apply Exists.intro; refine ⟨fun w' => ?_, ?_⟩; · go_simp; exact rfl
      refine reg_pure 16 rfl (by kernel_rfl) (by kernel_rfl) ?_; apply Exists.intro; refine ⟨fun w' => ?_, ?_⟩; · go_simp; exact rfl
      refine reg_done (by kernel_rfl) (fun W9 hw9 => ?_) _
      rw [HQ.out]
      clear HQ Q2
      have HE9 := hid (HE4.out.trans (HE8.out.trans hw9))
      clear hw9 HE8
      go_simp
      go_wp2_with fail
      go_ret2
      rw [HEQ.out]
      exact ⟨⟨_, rfl, fun t ht => by cases ht⟩, HE9.out⟩
    ·
      rw [hyv]
      rcases z.form with ⟨hz, hzv⟩ | ⟨hz, zu, zd, hzv⟩
      ·
        rw [hzv]
        have HEQ : Hid (res = none) := hid (by rw [HMD.out, if_neg (fun h => h.2.2 hz)])
        refine reg_pure 5 rfl (by kernel_rfl) (by kernel_rfl) ?_; apply Exists.intro; refine ⟨fun w' => ?_, ?_⟩; · go_simp; exact rfl
        refine reg_pure 6 rfl (by kernel_rfl) (by kernel_rfl) ?_; apply Exists.intro; refine ⟨fun w' => ?_, ?_⟩; · go_simp; exact rfl
        refine reg_pure 7 rfl (by kernel_rfl) (by kernel_rfl) ?_; apply Exists.intro; refine ⟨fun w' => ?_, ?_⟩; · go_simp; exact rfl
        refine reg_pure 8 rfl (by kernel_rfl) (by kernel_rfl) ?_; apply Exists.intro; refine ⟨fun w' => ?_, ?_⟩; · go_simp; exact rfl
        refine reg_pure 9 rfl (by kernel_rfl) (by kernel_rfl) ?_; apply Exists.intro; refine ⟨fun w' => ?_, ?_⟩; · go_simp; exact rfl
        refine reg_pure 10 rfl (by kernel_rfl) (by kernel_rfl) ?_; apply Exists.intro; refine ⟨fun w' => ?_, ?_⟩; · go_simp; exact rfl
        refine reg_pure 11 rfl (by kernel_rfl) (by kernel_rfl) ?_; apply Exists.intro; refine ⟨fun w' => ?_, ?_⟩; · go_simp; exact rfl
        refine reg_pure 12 rfl (by kernel_rfl) (by kernel_rfl) ?_; apply Exists.intro; refine ⟨fun w' => ?_, ?_⟩; · go_simp; exact rfl
        refine reg_pure 13 rfl (by kernel_rfl) (by kernel_rfl) ?_; apply Exists.intro; refine ⟨fun w' => ?_, ?_⟩; · go_simp; exact rfl
        refine reg_pure 14 rfl (by kernel_rfl) (by kernel_rfl) ?_; apply Exists.intro; refine ⟨fun w' => ?_, ?_⟩; · go_simp; exact rfl
        refine reg_pure 15 rfl (by kernel_rfl) (by kernel_rfl) ?_; apply Exists.intro; refine ⟨fun w' => ?_, ?_⟩; · go_simp; exact rfl
        refine reg_pure 16 rfl (by kernel_rfl) (by kernel_rfl) ?_; apply Exists.intro; refine ⟨fun w' => ?_, ?_⟩; · go_simp; exact rfl
        refine reg_done (by kernel_rfl) (fun W9 hw9 => ?_) _
        rw [HQ.out]
        clear HQ Q2
        have HE9 := hid (HE4.out.trans (HE8.out.trans hw9))
        clear hw9 HE8
        go_simp
        go_wp2_with fail
        go_ret2
        rw [HEQ.out]
        exact ⟨⟨_, rfl, fun t ht => by cases ht⟩, HE9.out⟩
      ·
        rw [hzv]
        have HEQ : Hid (res = some (.box x 0 y z)) := hid (by rw [HMD.out, if_pos ⟨hx, hy, hz⟩])
        refine reg_pure 5 rfl (by kernel_rfl) (by kernel_rfl) ?_; apply Exists.intro; refine ⟨fun w' => ?_, ?_⟩; · go_simp; exact rfl
        refine reg_pure 6 rfl (by kernel_rfl) (by kernel_rfl) ?_; apply Exists.intro; refine ⟨fun w' => ?_, ?_⟩; · go_simp; exact rfl
        refine reg_pure 7 rfl (by kernel_rfl) (by kernel_rfl) ?_; apply Exists.intro; refine ⟨fun w' => ?_, ?_⟩; · go_simp; exact rfl
        refine reg_pure 8 rfl (by kernel_rfl) (by kernel_rfl) ?_; apply Exists.intro; refine ⟨fun w' => ?_, ?_⟩; · go_simp; exact rfl
        refine reg_pure 9 rfl (by kernel_rfl) (by kernel_rfl) ?_; apply Exists.intro; refine ⟨fun w' => ?_, ?_⟩; · go_simp; exact rfl
        refine reg_pure 10 rfl (by kernel_rfl) (by kernel_rfl) ?_; apply Exists.intro; refine ⟨fun w' => ?_, ?_⟩; · go_simp; exact rfl
        refine reg_pure 11 rfl (by kernel_rfl) (by kernel_rfl) ?_; apply Exists.intro; refine ⟨fun w' => ?_, ?_⟩; · go_simp; exact rfl
        refine reg_pure 12 rfl (by kernel_rfl) (by kernel_rfl) ?_; apply Exists.intro; refine ⟨fun w' => ?_, ?_⟩; · go_simp; exact rfl
        refine reg_pure 13 rfl (by kernel_rfl) (by kernel_rfl) ?_; apply Exists.intro; refine ⟨fun w' => ?_, ?_⟩; · go_simp; exact rfl
        refine reg_pure 14 rfl (by kernel_rfl) (by kernel_rfl) ?_; apply Exists.intro; refine ⟨fun w' => ?_, ?_⟩; · go_simp; exact rfl
        refine reg_pure 15 rfl (by kernel_rfl) (by kernel_rfl) ?_; apply Exists.intro; refine ⟨fun w' => ?_, ?_⟩; · go_simp; exact rfl
        refine reg_pure 16 rfl (by kernel_rfl) (by kernel_rfl) ?_; apply Exists.intro; refine ⟨fun w' => ?_, ?_⟩; · go_simp; exact rfl
        refine reg_done (by kernel_rfl) (fun W9 hw9 => ?_) _
        rw [HQ.out]
        clear HQ Q2
        have HE9 := hid (HE4.out.trans (HE8.out.trans hw9))
        clear hw9 HE8
        go_simp
        go_wp2_with fail
        go_ret2
        rw [HEQ.out]
        exact ⟨⟨_, rfl, fun t ht => by cases ht; first | (simp [Tm.val, hyv, hzv]; done) | (simp [Tm.val, hyv, hzv, hxv]; done)⟩, HE9.out⟩

end Go.Proofs.YtjodmedgkmeklaaGreat
