/-
  Texts merged: Q26.
-/
import Derived.Test.YtjodmedgkmeklaaGreatJ20
/-
  A side takes a text (take).
-/
namespace Go.Proofs.YtjodmedgkmeklaaGreat
open Go Go.RowKit Go.Maps
attribute [local go_sem] extUpon run_store_tm
attribute [local go_sem ↓] Tm.val_cell eval_put_ne eval_put_none eval_put_same size_put eval_const
attribute [local go_sem ↓] meth_Atom meth_Public meth_Shared meth_Chain meth_Digest meth_Box meth_Empty
attribute [local go_sem ↓] run_build_chain run_build_digest run_build_box
attribute [local go_sem] ta_Atom_Atom ta_Public_Atom ta_Shared_Atom ta_Chain_Atom ta_Digest_Atom ta_Box_Atom ta_Empty_Atom ta_Nil_Atom ta_Atom_Public ta_Public_Public ta_Shared_Public ta_Chain_Public ta_Digest_Public ta_Box_Public ta_Empty_Public ta_Nil_Public ta_Atom_Shared ta_Public_Shared ta_Shared_Shared ta_Chain_Shared ta_Digest_Shared ta_Box_Shared ta_Empty_Shared ta_Nil_Shared ta_Atom_Chain ta_Public_Chain ta_Shared_Chain ta_Chain_Chain ta_Digest_Chain ta_Box_Chain ta_Empty_Chain ta_Nil_Chain ta_Atom_Digest ta_Public_Digest ta_Shared_Digest ta_Chain_Digest ta_Digest_Digest ta_Box_Digest ta_Empty_Digest ta_Nil_Digest ta_Atom_Box ta_Public_Box ta_Shared_Box ta_Chain_Box ta_Digest_Box ta_Box_Box ta_Empty_Box ta_Nil_Box ta_Atom_Empty ta_Public_Empty ta_Shared_Empty ta_Chain_Empty ta_Digest_Empty ta_Box_Empty ta_Empty_Empty ta_Nil_Empty
variable {f : Int → List UInt8} {P : Int → Prop} {w0 w W W2 W3 : World} {own own2 : Nat → Option Tg} {m : MB} {μ μ2 : MS} {v : KV} {i : Nat} {x : SB} {s : Sd}

/-- What a take needs of the pool. -/
theorem place_mem {k : Int} (h : μ.place k ≠ .non) : μ.place k ∈ μ.pool := by
  unfold MS.place at h ⊢
  split at h
  · rename_i hk
    rw [if_pos hk]
    have hlt : k.toNat < μ.pool.length := by omega
    rw [List.getD_eq_getElem?_getD, List.getElem?_eq_getElem hlt]
    exact List.getElem_mem hlt
  · exact absurd rfl h

def takeT (f : Int → List UInt8) (μ : MS) (i : Nat) (s : Sd) (t : Tm) : MS × Int :=
  match t with
  | .non => (μ, 1)
  | .box kk n a y => if nm f kk = nm f s.keys.2 ∧ n = s.got ∧ nm f a = nm f .empty then (μ.setSide i { s with got := s.got + 1, took := s.took ++ [y] }, 0) else (μ, 8)
  | _ => (μ, 8)
theorem take_eq (k : Int) : μ.take f i s k = if s.state ≠ 1 then (μ, 4) else takeT f μ i s (μ.place k) := rfl

set_option maxHeartbeats 8000000 in
set_option maxRecDepth 100000 in
theorem take_any (N : Nums f P) (k : Int) (hI : Itoa w0 Small f) (h : MAt f P w0 W own m μ v) (hp : PoolOk f P μ) (hx : m.sd[i]? = some x) (hs : μ.sides[i]? = some s) (hc : s.chain ≠ .non) (hkok : s.keys.2.all Small) (hksz : sz s.keys.2 ≤ 10000) (hsg : 0 ≤ s.got ∧ s.got ≤ 1000) (hsl : s.took.length ≤ 900) :
    Calls Tryz.prog 44 #[ptr m.wb, ptr x.b, .int .i64 k] W fun e w' => e = .returned (.int .i64 (μ.take f i s k).2) ∧ ∃ own2 m2, MAt f P w0 w' own2 m2 (μ.take f i s k).1 v ∧ Core m m2 ∧ Kept own (SideT i) W w' ∧ Owns W own own2 := by
  have hsd := h.side i x s hx hs
  have c4 : W.cell? ⟨x.b, 4, none⟩ = some (.int .i64 s.state) := hsd.at_.cell rfl
  have HPL := hid (place_any k h)
  have HM := hid h
  have HX := hid hx
  have HSS := hid hs
  have HSD := hid hsd
  have HFI := hid (fun (hne : μ.place k ≠ .non) => hp.fine _ (place_mem hne))
  obtain ⟨k1u, k1d, hk1⟩ := Va.of (show s.keys.1 ≠ .non by unfold Sd.keys; split <;> simp)
  obtain ⟨k2u, k2d, hk2⟩ := Va.of (show s.keys.2 ≠ .non by unfold Sd.keys; split <;> simp)
  have hkk := skeys_any hc hsd.at_
  rw [hk1.eq, hk2.eq] at hkk
  have HKK := hid hkk
  have HK2 := hid hk2
  have HI := hid (h.itoa hI)
  have HKO := hid (And.intro hkok hksz)
  have HN := hid N
  have hst0 := take_eq (f := f) (μ := μ) (i := i) (s := s) k
  have HT0 := hid hst0
  clear h hp hx hs hsd hI N hc hk1 hk2 hkk hkok hksz hst0
  generalize hres : μ.take f i s k = res at *
  clear hres
  generalize μ.place k = t at *
  by_cases hst : s.state = 1
  · rw [hst] at c4
    have HT1 : Hid (res = takeT f μ i s t) := hid (by rw [HT0.out, if_neg (by simp [hst])])
    clear hst HT0
    cases t with
    | non =>
      have HEQ : Hid (res = (μ, 1)) := hid HT1.out
      unfold Tm.val at HPL
      go_enter Tryz.func44, Tryz.ntmps44
      go_wp2_with fail
      refine HPL.out.mono ?_
      rintro e w' ⟨rfl, rfl⟩
      go_wp2_with fail
      go_ret
      rw [HEQ.out]
      exact ⟨rfl, own, m, HM.out, Core.refl _, Kept.of (Same.refl _ _) (fun b t hb => (HM.out.owns b t hb).2), Owns.refl _ _⟩
    | box kk n a y =>
      have hfi := HFI.out (by simp)
      have hall := hfi.1.all HN.out.small
      have p1 := sz_pos kk; have p2 := sz_pos a; have p3 := sz_pos y
      have hz := hfi.2
      simp only [sz] at hz
      obtain ⟨bu, bd, hbv⟩ := Va.of hfi.1.2.1.ne
      obtain ⟨au, ad, hav⟩ := Va.of hfi.1.2.2.1.ne
      obtain ⟨yu, yd, hyv⟩ := Va.of hfi.1.2.2.2.ne
      have HS1b : Hid (∀ W2, Ext W W2 → Calls Tryz.prog 15 #[.iface bu bd, .iface k2u k2d] W2 fun e w' => e = .returned (.bool (decide (nm f kk = nm f s.keys.2))) ∧ Ext W2 w') := hid (fun W2 hW => by
        have := same_any (R := Small) (f := f) kk s.keys.2 W2 (HI.out.later hW) hall.2.1 HKO.out.1 (by omega) HKO.out.2
        rwa [hbv.eq, HK2.out.eq] at this)
      have HS2b : Hid (∀ W2, Ext W W2 → Calls Tryz.prog 15 #[.iface au ad, .iface 80 (.agg #[])] W2 fun e w' => e = .returned (.bool (decide (nm f a = nm f .empty))) ∧ Ext W2 w') := hid (fun W2 hW => by
        have := same_any (R := Small) (f := f) a .empty W2 (HI.out.later hW) hall.2.2.1 trivial (by omega) (by simp [sz])
        rwa [hav.eq] at this)
      have HTK : Hid (res = if nm f kk = nm f s.keys.2 ∧ n = s.got ∧ nm f a = nm f .empty then (μ.setSide i { s with got := s.got + 1, took := s.took ++ [y] }, 0) else (μ, 8)) := hid HT1.out
      unfold Tm.val at HPL
      rw [hbv.eq, hav.eq, hyv.eq] at HPL
      have HYV := hid hyv
      clear hfi hall p1 p2 p3 hz hbv hav hyv HT1 HFI HKO
      generalize hb1 : decide (nm f kk = nm f s.keys.2) = b1 at *
      generalize hb2 : decide (nm f a = nm f .empty) = b2 at *
      have HB1 := hid hb1
      have HB2 := hid hb2
      clear hb1 hb2
      go_enter Tryz.func44, Tryz.ntmps44
      go_wp2_with fail
      refine HPL.out.mono ?_
      rintro e w' ⟨rfl, rfl⟩
      go_wp2_with fail
      refine HKK.out.mono ?_
      rintro e w2 ⟨rfl, hE2⟩
      have hal := hE2.trans (Ext.alloc w2 (.cells #[.iface bu bd, .int .i64 n, .iface au ad, .iface yu yd] 90 (0, 0)))
      have hbk := blk_new w2 (.cells #[.iface bu bd, .int .i64 n, .iface au ad, .iface yu yd] 90 (0, 0))
      have hql : W.heap.size ≤ w2.heap.size := hE2.size
      have HEW := hid hal
      have HBK := hid hbk
      have HQL := hid hql
      clear hal hbk hql hE2 c4
      go_wp2_with fail
      generalize World.alloc w2 _ = W4 at *
      generalize w2.heap.size = q at *
      have HS1 := hid (fun W2 (hW : Ext W4 W2) => HS1b.out W2 (HEW.out.trans hW))
      have HS2 := hid (fun W2 (hW : Ext W4 W2) => HS2b.out W2 (HEW.out.trans hW))
      have HC := hid (fun W2 (hW : Ext W4 W2) => ((HSD.out.at_.later (HEW.out.trans hW)).cell rfl : W2.cell? ⟨x.b, 9, none⟩ = some (.int .i64 s.got)))
      have HB : Hid (∀ W2, Ext W4 W2 → W2.cell? ⟨q, 0, none⟩ = some (.iface bu bd) ∧ W2.cell? ⟨q, 1, none⟩ = some (.int .i64 n) ∧ W2.cell? ⟨q, 2, none⟩ = some (.iface au ad) ∧ W2.cell? ⟨q, 3, none⟩ = some (.iface yu yd)) :=
        hid (fun W2 hW => ⟨cell_blk (hW.blk HBK.out) rfl, cell_blk (hW.blk HBK.out) rfl, cell_blk (hW.blk HBK.out) rfl, cell_blk (hW.blk HBK.out) rfl⟩)
      clear HS1b HS2b HKK HPL
      cases b1
      · have HEQ : Hid (res = (μ, 8)) := hid (by rw [HTK.out, if_neg (fun h => absurd h.1 (of_decide_eq_false HB1.out))])
        refine reg_begin 27 (by kernel_rfl) ?_
        refine reg_hide (fun Q2 HQ => ?_)
        generalize hW : World.drew _ = Wz
        have HE : Hid (Ext W4 Wz) := hid (by rw [← hW]; exact Ext.drew _)
        clear hW
        refine reg_pure 0 rfl (by kernel_rfl) (by kernel_rfl) ?_; apply Exists.intro; refine ⟨fun w' => ?_, ?_⟩; · go_simp; exact rfl
        refine reg_pure 1 rfl (by kernel_rfl) (by kernel_rfl) ?_; apply Exists.intro; refine ⟨fun w' => ?_, ?_⟩; · go_simp; exact rfl
        refine reg_pure 2 rfl (by kernel_rfl) (by kernel_rfl) ?_; apply Exists.intro; refine ⟨fun w' => ?_, ?_⟩; · go_simp; exact rfl
        refine reg_pure 3 rfl (by kernel_rfl) (by kernel_rfl) ?_; apply Exists.intro; refine ⟨fun w' => ?_, ?_⟩; · go_simp; exact rfl
        refine reg_quiet 4 rfl (by kernel_rfl) (by kernel_rfl) ?_; apply Exists.intro; refine ⟨fun w' hw' => ?_, ?_⟩; · have q0 := (HB.out w' (HE.out.trans hw')).1; go_simp; exact ⟨rfl, Ext.refl _⟩
        refine reg_pure 5 rfl (by kernel_rfl) (by kernel_rfl) ?_; apply Exists.intro; refine ⟨fun w' => ?_, ?_⟩; · go_simp; exact rfl
        refine reg_quiet 6 rfl (by kernel_rfl) (by kernel_rfl) ?_; apply Exists.intro; refine ⟨fun w' hw' => ?_, ?_⟩; · go_simp; exact HS1.out w' (HE.out.trans hw')
        refine reg_pure 7 rfl (by kernel_rfl) (by kernel_rfl) ?_; apply Exists.intro; refine ⟨fun w' => ?_, ?_⟩; · go_simp; exact rfl
        refine reg_pure 8 rfl (by kernel_rfl) (by kernel_rfl) ?_; apply Exists.intro; refine ⟨fun w' => ?_, ?_⟩; · go_simp; exact rfl
        refine reg_pure 9 rfl (by kernel_rfl) (by kernel_rfl) ?_; apply Exists.intro; refine ⟨fun w' => ?_, ?_⟩; · go_simp; exact rfl
        refine reg_skip 10 rfl (by kernel_rfl) (by kernel_rfl) ?_
        refine reg_skip 11 rfl (by kernel_rfl) (by kernel_rfl) ?_
        refine reg_skip 12 rfl (by kernel_rfl) (by kernel_rfl) ?_
        refine reg_skip 13 rfl (by kernel_rfl) (by kernel_rfl) ?_
        refine reg_skip 14 rfl (by kernel_rfl) (by kernel_rfl) ?_
        refine reg_skip 15 rfl (by kernel_rfl) (by kernel_rfl) ?_
        refine reg_skip 16 rfl (by kernel_rfl) (by kernel_rfl) ?_
        refine reg_skip 17 rfl (by kernel_rfl) (by kernel_rfl) ?_
        refine reg_pure 18 rfl (by kernel_rfl) (by kernel_rfl) ?_; apply Exists.intro; refine ⟨fun w' => ?_, ?_⟩; · go_simp; exact rfl
        refine reg_pure 19 rfl (by kernel_rfl) (by kernel_rfl) ?_; apply Exists.intro; refine ⟨fun w' => ?_, ?_⟩; · go_simp; exact rfl
        refine reg_skip 20 rfl (by kernel_rfl) (by kernel_rfl) ?_
        refine reg_skip 21 rfl (by kernel_rfl) (by kernel_rfl) ?_
        refine reg_skip 22 rfl (by kernel_rfl) (by kernel_rfl) ?_
        refine reg_skip 23 rfl (by kernel_rfl) (by kernel_rfl) ?_
        refine reg_skip 24 rfl (by kernel_rfl) (by kernel_rfl) ?_
        refine reg_skip 25 rfl (by kernel_rfl) (by kernel_rfl) ?_
        refine reg_pure 26 rfl (by kernel_rfl) (by kernel_rfl) ?_; apply Exists.intro; refine ⟨fun w' => ?_, ?_⟩; · go_simp; exact rfl
        refine reg_done (by kernel_rfl) (fun W5 hw5 => ?_) _
        have HE5 := hid (HEW.out.trans (HE.out.trans hw5))
        clear HE hw5
        go_simp
        rw [HQ.out]
        clear HQ Q2
        go_wp2_with fail
        go_ret
        rw [HEQ.out]
        exact ⟨rfl, own, m, HM.out.later HE5.out, Core.refl _, Kept.of (Same.of_ext HE5.out) (fun b t hb => (HM.out.owns b t hb).2), Owns.refl _ _⟩
      · by_cases hmn : n = s.got
        · subst hmn
          cases b2
          · have HEQ : Hid (res = (μ, 8)) := hid (by rw [HTK.out, if_neg (fun h => absurd h.2.2 (of_decide_eq_false HB2.out))])
            refine reg_begin 27 (by kernel_rfl) ?_
            refine reg_hide (fun Q2 HQ => ?_)
            generalize hW : World.drew _ = Wz
            have HE : Hid (Ext W4 Wz) := hid (by rw [← hW]; exact Ext.drew _)
            clear hW
            refine reg_pure 0 rfl (by kernel_rfl) (by kernel_rfl) ?_; apply Exists.intro; refine ⟨fun w' => ?_, ?_⟩; · go_simp; exact rfl
            refine reg_pure 1 rfl (by kernel_rfl) (by kernel_rfl) ?_; apply Exists.intro; refine ⟨fun w' => ?_, ?_⟩; · go_simp; exact rfl
            refine reg_pure 2 rfl (by kernel_rfl) (by kernel_rfl) ?_; apply Exists.intro; refine ⟨fun w' => ?_, ?_⟩; · go_simp; exact rfl
            refine reg_pure 3 rfl (by kernel_rfl) (by kernel_rfl) ?_; apply Exists.intro; refine ⟨fun w' => ?_, ?_⟩; · go_simp; exact rfl
            refine reg_quiet 4 rfl (by kernel_rfl) (by kernel_rfl) ?_; apply Exists.intro; refine ⟨fun w' hw' => ?_, ?_⟩; · have q0 := (HB.out w' (HE.out.trans hw')).1; go_simp; exact ⟨rfl, Ext.refl _⟩
            refine reg_pure 5 rfl (by kernel_rfl) (by kernel_rfl) ?_; apply Exists.intro; refine ⟨fun w' => ?_, ?_⟩; · go_simp; exact rfl
            refine reg_quiet 6 rfl (by kernel_rfl) (by kernel_rfl) ?_; apply Exists.intro; refine ⟨fun w' hw' => ?_, ?_⟩; · go_simp; exact HS1.out w' (HE.out.trans hw')
            refine reg_pure 7 rfl (by kernel_rfl) (by kernel_rfl) ?_; apply Exists.intro; refine ⟨fun w' => ?_, ?_⟩; · go_simp; exact rfl
            refine reg_pure 8 rfl (by kernel_rfl) (by kernel_rfl) ?_; apply Exists.intro; refine ⟨fun w' => ?_, ?_⟩; · go_simp; exact rfl
            refine reg_pure 9 rfl (by kernel_rfl) (by kernel_rfl) ?_; apply Exists.intro; refine ⟨fun w' => ?_, ?_⟩; · go_simp; exact rfl
            refine reg_pure 10 rfl (by kernel_rfl) (by kernel_rfl) ?_; apply Exists.intro; refine ⟨fun w' => ?_, ?_⟩; · go_simp; exact rfl
            refine reg_quiet 11 rfl (by kernel_rfl) (by kernel_rfl) ?_; apply Exists.intro; refine ⟨fun w' hw' => ?_, ?_⟩; · have q0 := (HB.out w' (HE.out.trans hw')).2.1; go_simp; exact ⟨rfl, Ext.refl _⟩
            refine reg_pure 12 rfl (by kernel_rfl) (by kernel_rfl) ?_; apply Exists.intro; refine ⟨fun w' => ?_, ?_⟩; · go_simp; exact rfl
            refine reg_pure 13 rfl (by kernel_rfl) (by kernel_rfl) ?_; apply Exists.intro; refine ⟨fun w' => ?_, ?_⟩; · go_simp; exact rfl
            refine reg_pure 14 rfl (by kernel_rfl) (by kernel_rfl) ?_; apply Exists.intro; refine ⟨fun w' => ?_, ?_⟩; · go_simp; exact rfl
            refine reg_pure 15 rfl (by kernel_rfl) (by kernel_rfl) ?_; apply Exists.intro; refine ⟨fun w' => ?_, ?_⟩; · go_simp; exact rfl
            refine reg_quiet 16 rfl (by kernel_rfl) (by kernel_rfl) ?_; apply Exists.intro; refine ⟨fun w' hw' => ?_, ?_⟩; · have q0 := HC.out w' (HE.out.trans hw'); go_simp; exact ⟨rfl, Ext.refl _⟩
            refine reg_pure 17 rfl (by kernel_rfl) (by kernel_rfl) ?_; apply Exists.intro; refine ⟨fun w' => ?_, ?_⟩; · go_simp; exact rfl
            refine reg_pure 18 rfl (by kernel_rfl) (by kernel_rfl) ?_; apply Exists.intro; refine ⟨fun w' => ?_, ?_⟩; · go_simp; exact rfl
            refine reg_pure 19 rfl (by kernel_rfl) (by kernel_rfl) ?_; apply Exists.intro; refine ⟨fun w' => ?_, ?_⟩; · go_simp; exact rfl
            refine reg_pure 20 rfl (by kernel_rfl) (by kernel_rfl) ?_; apply Exists.intro; refine ⟨fun w' => ?_, ?_⟩; · go_simp; exact rfl
            refine reg_quiet 21 rfl (by kernel_rfl) (by kernel_rfl) ?_; apply Exists.intro; refine ⟨fun w' hw' => ?_, ?_⟩; · have q0 := (HB.out w' (HE.out.trans hw')).2.2.1; go_simp; exact ⟨rfl, Ext.refl _⟩
            refine reg_pure 22 rfl (by kernel_rfl) (by kernel_rfl) ?_; apply Exists.intro; refine ⟨fun w' => ?_, ?_⟩; · go_simp; exact rfl
            refine reg_pure 23 rfl (by kernel_rfl) (by kernel_rfl) ?_; apply Exists.intro; refine ⟨fun w' => ?_, ?_⟩; · go_simp; exact rfl
            refine reg_quiet 24 rfl (by kernel_rfl) (by kernel_rfl) ?_; apply Exists.intro; refine ⟨fun w' hw' => ?_, ?_⟩; · go_simp; exact HS2.out w' (HE.out.trans hw')
            refine reg_pure 25 rfl (by kernel_rfl) (by kernel_rfl) ?_; apply Exists.intro; refine ⟨fun w' => ?_, ?_⟩; · go_simp; exact rfl
            refine reg_pure 26 rfl (by kernel_rfl) (by kernel_rfl) ?_; apply Exists.intro; refine ⟨fun w' => ?_, ?_⟩; · go_simp; exact rfl
            refine reg_done (by kernel_rfl) (fun W5 hw5 => ?_) _
            have HE5 := hid (HEW.out.trans (HE.out.trans hw5))
            clear HE hw5
            go_simp
            rw [HQ.out]
            clear HQ Q2
            go_wp2_with fail
            go_ret
            rw [HEQ.out]
            exact ⟨rfl, own, m, HM.out.later HE5.out, Core.refl _, Kept.of (Same.of_ext HE5.out) (fun b t hb => (HM.out.owns b t hb).2), Owns.refl _ _⟩
          · have HEQ : Hid (res = (μ.setSide i { s with got := s.got + 1, took := s.took ++ [y] }, 0)) := hid (by rw [HTK.out, if_pos ⟨of_decide_eq_true HB1.out, rfl, of_decide_eq_true HB2.out⟩])
            refine reg_begin 27 (by kernel_rfl) ?_
            refine reg_hide (fun Q2 HQ => ?_)
            generalize hW : World.drew _ = Wz
            have HE : Hid (Ext W4 Wz) := hid (by rw [← hW]; exact Ext.drew _)
            clear hW
            refine reg_pure 0 rfl (by kernel_rfl) (by kernel_rfl) ?_; apply Exists.intro; refine ⟨fun w' => ?_, ?_⟩; · go_simp; exact rfl
            refine reg_pure 1 rfl (by kernel_rfl) (by kernel_rfl) ?_; apply Exists.intro; refine ⟨fun w' => ?_, ?_⟩; · go_simp; exact rfl
            refine reg_pure 2 rfl (by kernel_rfl) (by kernel_rfl) ?_; apply Exists.intro; refine ⟨fun w' => ?_, ?_⟩; · go_simp; exact rfl
            refine reg_pure 3 rfl (by kernel_rfl) (by kernel_rfl) ?_; apply Exists.intro; refine ⟨fun w' => ?_, ?_⟩; · go_simp; exact rfl
            refine reg_quiet 4 rfl (by kernel_rfl) (by kernel_rfl) ?_; apply Exists.intro; refine ⟨fun w' hw' => ?_, ?_⟩; · have q0 := (HB.out w' (HE.out.trans hw')).1; go_simp; exact ⟨rfl, Ext.refl _⟩
            refine reg_pure 5 rfl (by kernel_rfl) (by kernel_rfl) ?_; apply Exists.intro; refine ⟨fun w' => ?_, ?_⟩; · go_simp; exact rfl
            refine reg_quiet 6 rfl (by kernel_rfl) (by kernel_rfl) ?_; apply Exists.intro; refine ⟨fun w' hw' => ?_, ?_⟩; · go_simp; exact HS1.out w' (HE.out.trans hw')
            refine reg_pure 7 rfl (by kernel_rfl) (by kernel_rfl) ?_; apply Exists.intro; refine ⟨fun w' => ?_, ?_⟩; · go_simp; exact rfl
            refine reg_pure 8 rfl (by kernel_rfl) (by kernel_rfl) ?_; apply Exists.intro; refine ⟨fun w' => ?_, ?_⟩; · go_simp; exact rfl
            refine reg_pure 9 rfl (by kernel_rfl) (by kernel_rfl) ?_; apply Exists.intro; refine ⟨fun w' => ?_, ?_⟩; · go_simp; exact rfl
            refine reg_pure 10 rfl (by kernel_rfl) (by kernel_rfl) ?_; apply Exists.intro; refine ⟨fun w' => ?_, ?_⟩; · go_simp; exact rfl
            refine reg_quiet 11 rfl (by kernel_rfl) (by kernel_rfl) ?_; apply Exists.intro; refine ⟨fun w' hw' => ?_, ?_⟩; · have q0 := (HB.out w' (HE.out.trans hw')).2.1; go_simp; exact ⟨rfl, Ext.refl _⟩
            refine reg_pure 12 rfl (by kernel_rfl) (by kernel_rfl) ?_; apply Exists.intro; refine ⟨fun w' => ?_, ?_⟩; · go_simp; exact rfl
            refine reg_pure 13 rfl (by kernel_rfl) (by kernel_rfl) ?_; apply Exists.intro; refine ⟨fun w' => ?_, ?_⟩; · go_simp; exact rfl
            refine reg_pure 14 rfl (by kernel_rfl) (by kernel_rfl) ?_; apply Exists.intro; refine ⟨fun w' => ?_, ?_⟩; · go_simp; exact rfl
            refine reg_pure 15 rfl (by kernel_rfl) (by kernel_rfl) ?_; apply Exists.intro; refine ⟨fun w' => ?_, ?_⟩; · go_simp; exact rfl
            refine reg_quiet 16 rfl (by kernel_rfl) (by kernel_rfl) ?_; apply Exists.intro; refine ⟨fun w' hw' => ?_, ?_⟩; · have q0 := HC.out w' (HE.out.trans hw'); go_simp; exact ⟨rfl, Ext.refl _⟩
            refine reg_pure 17 rfl (by kernel_rfl) (by kernel_rfl) ?_; apply Exists.intro; refine ⟨fun w' => ?_, ?_⟩; · go_simp; exact rfl
            refine reg_pure 18 rfl (by kernel_rfl) (by kernel_rfl) ?_; apply Exists.intro; refine ⟨fun w' => ?_, ?_⟩; · go_simp; exact rfl
            refine reg_pure 19 rfl (by kernel_rfl) (by kernel_rfl) ?_; apply Exists.intro; refine ⟨fun w' => ?_, ?_⟩; · go_simp; exact rfl
            refine reg_pure 20 rfl (by kernel_rfl) (by kernel_rfl) ?_; apply Exists.intro; refine ⟨fun w' => ?_, ?_⟩; · go_simp; exact rfl
            refine reg_quiet 21 rfl (by kernel_rfl) (by kernel_rfl) ?_; apply Exists.intro; refine ⟨fun w' hw' => ?_, ?_⟩; · have q0 := (HB.out w' (HE.out.trans hw')).2.2.1; go_simp; exact ⟨rfl, Ext.refl _⟩
            refine reg_pure 22 rfl (by kernel_rfl) (by kernel_rfl) ?_; apply Exists.intro; refine ⟨fun w' => ?_, ?_⟩; · go_simp; exact rfl
            refine reg_pure 23 rfl (by kernel_rfl) (by kernel_rfl) ?_; apply Exists.intro; refine ⟨fun w' => ?_, ?_⟩; · go_simp; exact rfl
            refine reg_quiet 24 rfl (by kernel_rfl) (by kernel_rfl) ?_; apply Exists.intro; refine ⟨fun w' hw' => ?_, ?_⟩; · go_simp; exact HS2.out w' (HE.out.trans hw')
            refine reg_pure 25 rfl (by kernel_rfl) (by kernel_rfl) ?_; apply Exists.intro; refine ⟨fun w' => ?_, ?_⟩; · go_simp; exact rfl
            refine reg_pure 26 rfl (by kernel_rfl) (by kernel_rfl) ?_; apply Exists.intro; refine ⟨fun w' => ?_, ?_⟩; · go_simp; exact rfl
            refine reg_done (by kernel_rfl) (fun W5 hw5 => ?_) _
            have HE6 := hid (HE.out.trans hw5)
            have HE5 := hid (HEW.out.trans HE6.out)
            clear HE hw5
            go_simp
            rw [HQ.out]
            clear HQ Q2
            have HM5 := hid (HM.out.later HE5.out)
            have HSD5 := hid (HM5.out.side i x s HX.out HSS.out)
            have c9 : W5.cell? ⟨x.b, 9, none⟩ = some (.int .i64 s.got) := HSD5.out.at_.cell rfl
            have f9 := HSD5.out.at_.free 9
            have hset := HSD5.out.at_.sets (s2 := { s with got := s.got + 1 }) (vs2 := x.vs) (va2 := x.va) 9 (.int .i64 (s.got + 1)) (by simp [Sd.cells])
            have hturn := HM5.out.turn1 HX.out HSS.out hset.2 hset.1 rfl rfl
            have HT := hid hturn
            have HQX : Hid (q ≠ x.b) := hid (fun e => by have h5 := HM.out.fresh HQL.out; rw [e, HSD.out.ob] at h5; cases h5)
            clear hset hturn
            go_upto_region 11 with fail
            have HBK11 := hid ((Below.heap_setCell W5 ⟨x.b, 9, none⟩ (.int .i64 (s.got + 1)) q HQX.out).trans (HE6.out.blk HBK.out))
            generalize World.setCell W5 _ _ = w11 at *
            clear c9 f9
            have hsS : (μ.setSide i { s with got := s.got + 1 }).sides[i]? = some { s with got := s.got + 1 } := by
              unfold MS.setSide
              rw [List.getElem?_set_self (List.getElem?_eq_some_iff.1 HSS.out).1]
            have HSS2 := hid hsS
            have hsd2 := HT.out.1.side i x _ HX.out hsS
            have HSD2 := hid hsd2
            clear hsS hsd2
            go_wp2_with fail
            refine reg_begin 8 (by kernel_rfl) ?_
            refine reg_hide (fun Q2 HQ => ?_)
            generalize hW : World.drew _ = Wy
            have HE : Hid (Ext w11 Wy) := hid (by rw [← hW]; exact Ext.drew _)
            clear hW
            refine reg_pure 0 rfl (by kernel_rfl) (by kernel_rfl) ?_; apply Exists.intro; refine ⟨fun w' => ?_, ?_⟩; · go_simp; exact rfl
            refine reg_pure 1 rfl (by kernel_rfl) (by kernel_rfl) ?_; apply Exists.intro; refine ⟨fun w' => ?_, ?_⟩; · go_simp; exact rfl
            refine reg_pure 2 rfl (by kernel_rfl) (by kernel_rfl) ?_; apply Exists.intro; refine ⟨fun w' => ?_, ?_⟩; · go_simp; exact rfl
            refine reg_pure 3 rfl (by kernel_rfl) (by kernel_rfl) ?_; apply Exists.intro; refine ⟨fun w' => ?_, ?_⟩; · go_simp; exact rfl
            refine reg_quiet 4 rfl (by kernel_rfl) (by kernel_rfl) ?_; apply Exists.intro; refine ⟨fun w' hw' => ?_, ?_⟩; · have q0 : w'.cell? ⟨x.b, 16, none⟩ = some x.va := ((HSD2.out.at_.later (HE.out.trans hw')).cell rfl); go_simp; exact ⟨rfl, Ext.refl _⟩
            refine reg_pure 5 rfl (by kernel_rfl) (by kernel_rfl) ?_; apply Exists.intro; refine ⟨fun w' => ?_, ?_⟩; · go_simp; exact rfl
            refine reg_quiet 6 rfl (by kernel_rfl) (by kernel_rfl) ?_; apply Exists.intro; refine ⟨fun w' hw' => ?_, ?_⟩; · have q0 : w'.cell? ⟨q, 3, none⟩ = some (.iface yu yd) := cell_blk ((HE.out.trans hw').blk HBK11.out) rfl; go_simp; exact ⟨rfl, Ext.refl _⟩
            refine reg_one 7 rfl (by kernel_rfl) (by kernel_rfl) (fun w12 hw12 => ?_)
            go_simp
            refine ⟨Ext.alloc _ _, ?_⟩
            have hba := blk_new w12 (.cells #[.iface yu yd] 29 (0, 0))
            have hea := (HE.out.trans hw12).alloc' (.cells #[.iface yu yd] 29 (0, 0))
            have HBA := hid hba
            have HEA := hid hea
            have hszw : w11.heap.size ≤ w12.heap.size := (HE.out.trans hw12).size
            have HSZ := hid hszw
            clear hba hea hw12 HE hszw
            generalize World.alloc w12 _ = w13 at *
            generalize w12.heap.size = q3 at *
            refine reg_one 8 rfl (by kernel_rfl) (by kernel_rfl) (fun w14 hw14 => ?_)
            refine wp_app1 (.tmp 75) (.tmp 78) rfl rfl w0.heap.size x.va s.took.length (s.took.map Tm.val) (by go_simp) (own_ext (HEA.out.trans hw14) HSD2.out.took) q3 (.iface yu yd) (by go_simp) (cell_blk (hw14.blk HBA.out) rfl) rfl (by omega) (by have h1 := HT.out.1.ext.size; have h2 := (HEA.out.trans hw14).size; omega) ?_
            intro v' w15 hown hgr hnb hv1
            refine ⟨fun h => absurd h (by decide), ?_⟩
            obtain ⟨va', vc', hve, _⟩ := row_cells hown
            subst hve
            have hxb : w15.heap[x.b]? = w14.heap[x.b]? := hgr.block x.b (Nat.lt_of_lt_of_le HSD2.out.at_.lt (HEA.out.trans hw14).size) (fun e => by have h5 := HSD2.out.oa _ e.symm; rw [HSD2.out.ob] at h5; cases h5)
            have hsd15 : SdAt w15 x.b _ x.vs x.va := (HSD2.out.at_.later (HEA.out.trans hw14)).keep hxb
            have HSD15 := hid hsd15
            have hpush := fun w16 (h16 : Ext w15 w16) => HT.out.1.took_push (t := y) (v' := .slice va' (s.took.length + 1) vc') HX.out HSS2.out (HEA.out.trans hw14) (grownE hgr h16) (by rw [HYV.out.eq]; exact own_ext h16 hown) (fun g hg => (hnb g hg).imp id (fun e => by have h1 := (HEA.out.trans hw14).size; omega))
            have HPUSH := hid hpush
            clear hpush hown hgr hnb hv1 hw14 hxb hsd15 HBA HEA
            refine reg_pure 9 rfl (by kernel_rfl) (by kernel_rfl) ?_; apply Exists.intro; refine ⟨fun w' => ?_, ?_⟩; · go_simp; exact rfl
            refine reg_pure 10 rfl (by kernel_rfl) (by kernel_rfl) ?_; apply Exists.intro; refine ⟨fun w' => ?_, ?_⟩; · go_simp; exact rfl
            refine reg_store 11 ⟨x.b, 16, none⟩ (.slice va' (s.took.length + 1) vc') rfl (by kernel_rfl) (by kernel_rfl) rfl (by decide) (by go_simp) (by go_simp) (by kernel_rfl) rfl rfl (fun w16 hw16 => ?_) (fun w16 hw16 => ?_)
            · exact ⟨⟨_, (HSD15.out.later hw16).cell rfl⟩, (HSD15.out.later hw16).free 16⟩
            obtain ⟨own3, hm3, hk3, ho3⟩ := HPUSH.out w16 hw16
            rw [setSide_setSide] at hm3
            have HM3 := hid hm3
            have HK3 := hid (((Kept.of (T := SideT i) (Same.of_ext HE5.out) (fun b t hb => (HM.out.owns b t hb).2)).trans (Owns.refl _ _) HT.out.2).trans (Owns.refl _ _) hk3)
            have HO3 := hid ((Owns.refl W own).trans ho3 (Nat.le_trans HE5.out.size HT.out.2.size))
            clear hm3 hk3 ho3 hw16 HPUSH HSD15
            generalize World.setCell w16 _ _ = w17 at *
            refine reg_done (by kernel_rfl) (fun w18 hw18 => ?_) _
            have HM4 := hid (HM3.out.later hw18)
            have HK4 := hid (HK3.out.trans HO3.out (Kept.of (T := SideT i) (Same.of_ext hw18) (fun b t hb => (HM3.out.owns b t hb).2)))
            clear hw18 HM3 HK3
            go_simp
            rw [HQ.out]
            clear HQ Q2
            go_wp2_with fail
            go_ret
            rw [HEQ.out]
            refine ⟨rfl, own3, _, HM4.out, ⟨rfl, rfl, rfl, rfl, rfl, ?_⟩, HK4.out, HO3.out⟩
            show (m.sd.set i { x with va := .slice va' (s.took.length + 1) vc' }).map SB.b = m.sd.map SB.b
            obtain ⟨hl, he⟩ := List.getElem?_eq_some_iff.1 HX.out
            rw [List.map_set]
            show (m.sd.map SB.b).set i x.b = m.sd.map SB.b
            rw [← he]
            have : (m.sd.map SB.b)[i]'(by simpa using hl) = m.sd[i].b := by simp
            rw [← this]
            exact List.set_getElem_self _
        · have HEQ : Hid (res = (μ, 8)) := hid (by rw [HTK.out, if_neg (fun h => absurd h.2.1 hmn)])
          have hmn2 : (n == s.got) = false := by simp [hmn]
          have hmn3 : (n != s.got) = true := by simp [hmn]
          refine reg_begin 27 (by kernel_rfl) ?_
          refine reg_hide (fun Q2 HQ => ?_)
          generalize hW : World.drew _ = Wz
          have HE : Hid (Ext W4 Wz) := hid (by rw [← hW]; exact Ext.drew _)
          clear hW
          refine reg_pure 0 rfl (by kernel_rfl) (by kernel_rfl) ?_; apply Exists.intro; refine ⟨fun w' => ?_, ?_⟩; · go_simp; exact rfl
          refine reg_pure 1 rfl (by kernel_rfl) (by kernel_rfl) ?_; apply Exists.intro; refine ⟨fun w' => ?_, ?_⟩; · go_simp; exact rfl
          refine reg_pure 2 rfl (by kernel_rfl) (by kernel_rfl) ?_; apply Exists.intro; refine ⟨fun w' => ?_, ?_⟩; · go_simp; exact rfl
          refine reg_pure 3 rfl (by kernel_rfl) (by kernel_rfl) ?_; apply Exists.intro; refine ⟨fun w' => ?_, ?_⟩; · go_simp; exact rfl
          refine reg_quiet 4 rfl (by kernel_rfl) (by kernel_rfl) ?_; apply Exists.intro; refine ⟨fun w' hw' => ?_, ?_⟩; · have q0 := (HB.out w' (HE.out.trans hw')).1; go_simp; exact ⟨rfl, Ext.refl _⟩
          refine reg_pure 5 rfl (by kernel_rfl) (by kernel_rfl) ?_; apply Exists.intro; refine ⟨fun w' => ?_, ?_⟩; · go_simp; exact rfl
          refine reg_quiet 6 rfl (by kernel_rfl) (by kernel_rfl) ?_; apply Exists.intro; refine ⟨fun w' hw' => ?_, ?_⟩; · go_simp; exact HS1.out w' (HE.out.trans hw')
          refine reg_pure 7 rfl (by kernel_rfl) (by kernel_rfl) ?_; apply Exists.intro; refine ⟨fun w' => ?_, ?_⟩; · go_simp; exact rfl
          refine reg_pure 8 rfl (by kernel_rfl) (by kernel_rfl) ?_; apply Exists.intro; refine ⟨fun w' => ?_, ?_⟩; · go_simp; exact rfl
          refine reg_pure 9 rfl (by kernel_rfl) (by kernel_rfl) ?_; apply Exists.intro; refine ⟨fun w' => ?_, ?_⟩; · go_simp; exact rfl
          refine reg_pure 10 rfl (by kernel_rfl) (by kernel_rfl) ?_; apply Exists.intro; refine ⟨fun w' => ?_, ?_⟩; · go_simp; exact rfl
          refine reg_quiet 11 rfl (by kernel_rfl) (by kernel_rfl) ?_; apply Exists.intro; refine ⟨fun w' hw' => ?_, ?_⟩; · have q0 := (HB.out w' (HE.out.trans hw')).2.1; go_simp; exact ⟨rfl, Ext.refl _⟩
          refine reg_pure 12 rfl (by kernel_rfl) (by kernel_rfl) ?_; apply Exists.intro; refine ⟨fun w' => ?_, ?_⟩; · go_simp; exact rfl
          refine reg_pure 13 rfl (by kernel_rfl) (by kernel_rfl) ?_; apply Exists.intro; refine ⟨fun w' => ?_, ?_⟩; · go_simp; exact rfl
          refine reg_pure 14 rfl (by kernel_rfl) (by kernel_rfl) ?_; apply Exists.intro; refine ⟨fun w' => ?_, ?_⟩; · go_simp; exact rfl
          refine reg_pure 15 rfl (by kernel_rfl) (by kernel_rfl) ?_; apply Exists.intro; refine ⟨fun w' => ?_, ?_⟩; · go_simp; exact rfl
          refine reg_quiet 16 rfl (by kernel_rfl) (by kernel_rfl) ?_; apply Exists.intro; refine ⟨fun w' hw' => ?_, ?_⟩; · have q0 := HC.out w' (HE.out.trans hw'); go_simp; exact ⟨rfl, Ext.refl _⟩
          refine reg_pure 17 rfl (by kernel_rfl) (by kernel_rfl) ?_; apply Exists.intro; refine ⟨fun w' => ?_, ?_⟩; · go_simp; exact rfl
          refine reg_pure 18 rfl (by kernel_rfl) (by kernel_rfl) ?_; apply Exists.intro; refine ⟨fun w' => ?_, ?_⟩; · go_simp; exact rfl
          refine reg_pure 19 rfl (by kernel_rfl) (by kernel_rfl) ?_; apply Exists.intro; refine ⟨fun w' => ?_, ?_⟩; · go_simp; exact rfl
          refine reg_skip 20 rfl (by kernel_rfl) (by kernel_rfl) ?_
          refine reg_skip 21 rfl (by kernel_rfl) (by kernel_rfl) ?_
          refine reg_skip 22 rfl (by kernel_rfl) (by kernel_rfl) ?_
          refine reg_skip 23 rfl (by kernel_rfl) (by kernel_rfl) ?_
          refine reg_skip 24 rfl (by kernel_rfl) (by kernel_rfl) ?_
          refine reg_skip 25 rfl (by kernel_rfl) (by kernel_rfl) ?_
          refine reg_pure 26 rfl (by kernel_rfl) (by kernel_rfl) ?_; apply Exists.intro; refine ⟨fun w' => ?_, ?_⟩; · go_simp; exact rfl
          refine reg_done (by kernel_rfl) (fun W5 hw5 => ?_) _
          have HE5 := hid (HEW.out.trans (HE.out.trans hw5))
          clear HE hw5
          go_simp
          rw [HQ.out]
          clear HQ Q2
          go_wp2_with fail
          go_ret
          rw [HEQ.out]
          exact ⟨rfl, own, m, HM.out.later HE5.out, Core.refl _, Kept.of (Same.of_ext HE5.out) (fun b t hb => (HM.out.owns b t hb).2), Owns.refl _ _⟩
    | _ =>
      have HEQ : Hid (res = (μ, 8)) := hid HT1.out
      unfold Tm.val at HPL
      go_enter Tryz.func44, Tryz.ntmps44
      go_wp2_with fail
      refine HPL.out.mono ?_
      rintro e w' ⟨rfl, rfl⟩
      go_wp2_with fail
      refine HKK.out.mono ?_
      rintro e w2 ⟨rfl, hE2⟩
      have hal := hE2.trans (Ext.alloc w2 (.cells #[.nilIface, .int .i64 0, .nilIface, .nilIface] 90 (0, 0)))
      have HEW := hid hal
      clear hal hE2 c4
      go_wp2_with fail
      generalize World.alloc w2 _ = W4 at *
      refine reg_begin 27 (by kernel_rfl) ?_
      refine reg_hide (fun Q2 HQ => ?_)
      generalize hW : World.drew _ = Wz
      have HE : Hid (Ext W4 Wz) := hid (by rw [← hW]; exact Ext.drew _)
      clear hW
      refine reg_pure 0 rfl (by kernel_rfl) (by kernel_rfl) ?_; apply Exists.intro; refine ⟨fun w' => ?_, ?_⟩; · go_simp; exact rfl
      refine reg_pure 1 rfl (by kernel_rfl) (by kernel_rfl) ?_; apply Exists.intro; refine ⟨fun w' => ?_, ?_⟩; · go_simp; exact rfl
      refine reg_pure 2 rfl (by kernel_rfl) (by kernel_rfl) ?_; apply Exists.intro; refine ⟨fun w' => ?_, ?_⟩; · go_simp; exact rfl
      refine reg_skip 3 rfl (by kernel_rfl) (by kernel_rfl) ?_
      refine reg_skip 4 rfl (by kernel_rfl) (by kernel_rfl) ?_
      refine reg_skip 5 rfl (by kernel_rfl) (by kernel_rfl) ?_
      refine reg_skip 6 rfl (by kernel_rfl) (by kernel_rfl) ?_
      refine reg_skip 7 rfl (by kernel_rfl) (by kernel_rfl) ?_
      refine reg_pure 8 rfl (by kernel_rfl) (by kernel_rfl) ?_; apply Exists.intro; refine ⟨fun w' => ?_, ?_⟩; · go_simp; exact rfl
      refine reg_pure 9 rfl (by kernel_rfl) (by kernel_rfl) ?_; apply Exists.intro; refine ⟨fun w' => ?_, ?_⟩; · go_simp; exact rfl
      refine reg_skip 10 rfl (by kernel_rfl) (by kernel_rfl) ?_
      refine reg_skip 11 rfl (by kernel_rfl) (by kernel_rfl) ?_
      refine reg_skip 12 rfl (by kernel_rfl) (by kernel_rfl) ?_
      refine reg_skip 13 rfl (by kernel_rfl) (by kernel_rfl) ?_
      refine reg_skip 14 rfl (by kernel_rfl) (by kernel_rfl) ?_
      refine reg_skip 15 rfl (by kernel_rfl) (by kernel_rfl) ?_
      refine reg_skip 16 rfl (by kernel_rfl) (by kernel_rfl) ?_
      refine reg_skip 17 rfl (by kernel_rfl) (by kernel_rfl) ?_
      refine reg_pure 18 rfl (by kernel_rfl) (by kernel_rfl) ?_; apply Exists.intro; refine ⟨fun w' => ?_, ?_⟩; · go_simp; exact rfl
      refine reg_pure 19 rfl (by kernel_rfl) (by kernel_rfl) ?_; apply Exists.intro; refine ⟨fun w' => ?_, ?_⟩; · go_simp; exact rfl
      refine reg_skip 20 rfl (by kernel_rfl) (by kernel_rfl) ?_
      refine reg_skip 21 rfl (by kernel_rfl) (by kernel_rfl) ?_
      refine reg_skip 22 rfl (by kernel_rfl) (by kernel_rfl) ?_
      refine reg_skip 23 rfl (by kernel_rfl) (by kernel_rfl) ?_
      refine reg_skip 24 rfl (by kernel_rfl) (by kernel_rfl) ?_
      refine reg_skip 25 rfl (by kernel_rfl) (by kernel_rfl) ?_
      refine reg_pure 26 rfl (by kernel_rfl) (by kernel_rfl) ?_; apply Exists.intro; refine ⟨fun w' => ?_, ?_⟩; · go_simp; exact rfl
      refine reg_done (by kernel_rfl) (fun W5 hw5 => ?_) _
      have HE5 := hid (HEW.out.trans (HE.out.trans hw5))
      clear HE hw5
      go_simp
      rw [HQ.out]
      clear HQ Q2
      go_wp2_with fail
      go_ret
      rw [HEQ.out]
      exact ⟨rfl, own, m, HM.out.later HE5.out, Core.refl _, Kept.of (Same.of_ext HE5.out) (fun b t hb => (HM.out.owns b t hb).2), Owns.refl _ _⟩
  · have HEQ : Hid (res = (μ, 4)) := hid (by rw [HT0.out, if_pos hst])
    go_enter Tryz.func44, Tryz.ntmps44
    go_wp2_with fail
    refine HPL.out.mono ?_
    rintro e w' ⟨rfl, rfl⟩
    go_wp2_with fail
    go_ret
    rw [HEQ.out]
    exact ⟨rfl, own, m, HM.out, Core.refl _, Kept.of (Same.refl _ _) (fun b t hb => (HM.out.owns b t hb).2), Owns.refl _ _⟩

end Go.Proofs.YtjodmedgkmeklaaGreat
