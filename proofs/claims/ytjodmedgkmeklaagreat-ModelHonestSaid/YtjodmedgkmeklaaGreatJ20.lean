/-
  Texts merged: Q25.
-/
import Derived.Test.YtjodmedgkmeklaaGreatJ19
/-
  A side says a text (say): the walk.
-/
namespace Go.Proofs.YtjodmedgkmeklaaGreat
open Go Go.RowKit Go.Maps
attribute [local go_sem] extUpon run_store_tm
attribute [local go_sem ↓] Tm.val_cell eval_put_ne eval_put_none eval_put_same size_put eval_const
attribute [local go_sem ↓] meth_Atom meth_Public meth_Shared meth_Chain meth_Digest meth_Box meth_Empty
attribute [local go_sem ↓] run_build_chain run_build_digest run_build_box
attribute [local go_sem] ta_Atom_Atom ta_Public_Atom ta_Shared_Atom ta_Chain_Atom ta_Digest_Atom ta_Box_Atom ta_Empty_Atom ta_Nil_Atom ta_Atom_Public ta_Public_Public ta_Shared_Public ta_Chain_Public ta_Digest_Public ta_Box_Public ta_Empty_Public ta_Nil_Public ta_Atom_Shared ta_Public_Shared ta_Shared_Shared ta_Chain_Shared ta_Digest_Shared ta_Box_Shared ta_Empty_Shared ta_Nil_Shared ta_Atom_Chain ta_Public_Chain ta_Shared_Chain ta_Chain_Chain ta_Digest_Chain ta_Box_Chain ta_Empty_Chain ta_Nil_Chain ta_Atom_Digest ta_Public_Digest ta_Shared_Digest ta_Chain_Digest ta_Digest_Digest ta_Box_Digest ta_Empty_Digest ta_Nil_Digest ta_Atom_Box ta_Public_Box ta_Shared_Box ta_Chain_Box ta_Digest_Box ta_Box_Box ta_Empty_Box ta_Nil_Box ta_Atom_Empty ta_Public_Empty ta_Shared_Empty ta_Chain_Empty ta_Digest_Empty ta_Box_Empty ta_Empty_Empty ta_Nil_Empty
variable {f : Int → List UInt8} {P : Int → Prop} {w0 w W W2 W3 : World} {own own2 : Nat → Option Tg} {m : MB} {μ μ2 : MS} {v : KV} {i : Nat} {x : SB} {s : Sd}

theorem sent_sides (μ : MS) (l : List Tm) : (μ.sent f P l).sides = μ.sides := by
  unfold MS.sent
  suffices h : ∀ (l : List Tm) (μ : MS), (l.foldl (fun μ t => (μ.add f t).see f P t) μ).sides = μ.sides from h l μ
  intro l
  induction l with
  | nil => intro μ; rfl
  | cons t l ih =>
    intro μ
    simp only [List.foldl_cons]
    rw [ih]
    unfold MS.add MS.see
    split <;> rfl

set_option maxHeartbeats 8000000 in
set_option maxRecDepth 100000 in
theorem say_any (N : Nums f P) (n : Int) (hI : Itoa w0 Small f) (h : MAt f P w0 W own m μ v) (hp : PoolOk f P μ) (hx : m.sd[i]? = some x) (hs : μ.sides[i]? = some s) (hc : s.chain ≠ .non) (hsn : 0 ≤ s.sent ∧ s.sent ≤ 1000) (hsl : s.said.length ≤ 900)
    (hb : Hon P (.box s.keys.1 s.sent .empty (textOf n))) :
    Calls Tryz.prog 43 #[ptr m.wb, ptr x.b, .int .i64 n] W fun e w' => e = .returned (.int .i64 (μ.say f P i s n).2) ∧ ∃ own2 m2 v2, MAt f P w0 w' own2 m2 (μ.say f P i s n).1 v2 ∧ Core m m2 ∧ PoolOk f P (μ.say f P i s n).1 ∧ Kept own (SpeakT i) W w' ∧ Owns W own own2 := by
  have hsd := h.side i x s hx hs
  have c4 : W.cell? ⟨x.b, 4, none⟩ = some (.int .i64 s.state) := hsd.at_.cell rfl
  have HM := hid h
  have HP := hid hp
  have HX := hid hx
  have HSS := hid hs
  have HSD := hid hsd
  have HI := hid hI
  have HN := hid N
  have HB := hid hb
  have HCH := hid hc
  clear h hp hx hs hsd hI N hb hc
  by_cases hst : s.state = 1
  · have HST := hid hst
    rw [hst] at c4
    clear hst
    obtain ⟨tn, htn⟩ : ∃ tn, -1 - min (max n 0) 999 = tn := ⟨_, rfl⟩
    have htx : textOf n = .atom tn := by unfold textOf; rw [htn]
    have HTX := hid htx
    have htb : -1000 ≤ tn ∧ tn ≤ -1 := by omega
    have hal := Ext.alloc W (.cells #[.int .i64 tn] 47 (0, 0))
    have hbk := blk_new W (.cells #[.int .i64 tn] 47 (0, 0))
    have HAL := hid hal
    have HBK := hid hbk
    obtain ⟨k1u, k1d, hk1⟩ := Va.of (show s.keys.1 ≠ .non by unfold Sd.keys; split <;> simp)
    obtain ⟨k2u, k2d, hk2⟩ := Va.of (show s.keys.2 ≠ .non by unfold Sd.keys; split <;> simp)
    have hkk := skeys_any HCH.out (HSD.out.at_.later hal)
    rw [hk1.eq, hk2.eq] at hkk
    have HKK := hid hkk
    have HK1 := hid hk1
    clear hal hbk hkk hk1 hk2
    go_enter Tryz.func43, Tryz.ntmps43
    go_upto_region 4 with fail
    generalize World.alloc W _ = W1 at *
    generalize hq : W.heap.size = q at *
    have HQL : Hid (W.heap.size ≤ q) := hid (by omega)
    clear hq c4
    go_wp2_with fail
    refine HKK.out.mono ?_
    rintro e w2 ⟨rfl, hE2⟩
    have HE2 := hid (HAL.out.trans hE2)
    have HBK2 := hid (hE2.blk HBK.out)
    clear hE2 HAL HBK HKK
    go_wp2_with fail
    refine reg_begin 12 (by kernel_rfl) ?_
    refine reg_hide (fun Q2 HQ => ?_)
    generalize hW : World.drew _ = Wz
    have HE : Hid (Ext w2 Wz) := hid (by rw [← hW]; exact Ext.drew _)
    clear hW
    refine reg_pure 0 rfl (by kernel_rfl) (by kernel_rfl) ?_; apply Exists.intro; refine ⟨fun w' => ?_, ?_⟩; · go_simp; exact rfl
    refine reg_pure 1 rfl (by kernel_rfl) (by kernel_rfl) ?_; apply Exists.intro; refine ⟨fun w' => ?_, ?_⟩; · go_simp; exact rfl
    refine reg_pure 2 rfl (by kernel_rfl) (by kernel_rfl) ?_; apply Exists.intro; refine ⟨fun w' => ?_, ?_⟩; · go_simp; exact rfl
    refine reg_pure 3 rfl (by kernel_rfl) (by kernel_rfl) ?_; apply Exists.intro; refine ⟨fun w' => ?_, ?_⟩; · go_simp; exact rfl
    refine reg_pure 4 rfl (by kernel_rfl) (by kernel_rfl) ?_; apply Exists.intro; refine ⟨fun w' => ?_, ?_⟩; · go_simp; exact rfl
    refine reg_quiet 5 rfl (by kernel_rfl) (by kernel_rfl) ?_; apply Exists.intro; refine ⟨fun w' hw' => ?_, ?_⟩; · have q0 : w'.cell? ⟨x.b, 8, none⟩ = some (.int .i64 s.sent) := ((HSD.out.at_.later (HE2.out.trans (HE.out.trans hw'))).cell rfl); go_simp; exact ⟨rfl, Ext.refl _⟩
    refine reg_pure 6 rfl (by kernel_rfl) (by kernel_rfl) ?_; apply Exists.intro; refine ⟨fun w' => ?_, ?_⟩; · go_simp; exact rfl
    refine reg_pure 7 rfl (by kernel_rfl) (by kernel_rfl) ?_; apply Exists.intro; refine ⟨fun w' => ?_, ?_⟩; · go_simp; exact rfl
    refine reg_quiet 8 rfl (by kernel_rfl) (by kernel_rfl) ?_; apply Exists.intro; refine ⟨fun w' hw' => ?_, ?_⟩; · have q0 : w'.cell? ⟨q, 0, none⟩ = some (.int .i64 tn) := cell_blk ((HE.out.trans hw').blk HBK2.out) rfl; go_simp; exact ⟨rfl, Ext.refl _⟩
    refine reg_pure 9 rfl (by kernel_rfl) (by kernel_rfl) ?_; apply Exists.intro; refine ⟨fun w' => ?_, ?_⟩; · go_simp; exact rfl
    refine reg_pure 10 rfl (by kernel_rfl) (by kernel_rfl) ?_; apply Exists.intro; refine ⟨fun w' => ?_, ?_⟩; · go_simp; exact rfl
    refine reg_one 11 rfl (by kernel_rfl) (by kernel_rfl) (fun w3 hw3 => ?_)
    go_simp
    refine ⟨Ext.alloc _ _, ?_⟩
    have hb1 := blk_new w3 (.cells #[.nilIface, .int .i64 0, .nilIface, .nilIface] 90 (0, 0))
    have he1 := (HE.out.trans hw3).alloc' (.cells #[.nilIface, .int .i64 0, .nilIface, .nilIface] 90 (0, 0))
    have HB1 := hid hb1
    have HE3 := hid he1
    have HQ3 : Hid (w2.heap.size ≤ w3.heap.size) := hid (HE.out.trans hw3).size
    clear hb1 he1 hw3 HE
    generalize World.alloc w3 _ = w4 at *
    generalize w3.heap.size = q2 at *
    refine reg_four 12 q2 _ _ _ _ (.iface k1u k1d) (.int .i64 s.sent) (.iface 80 (.agg #[])) (.iface 47 (.agg #[.int .i64 tn])) rfl (by kernel_rfl) (by kernel_rfl) rfl (by decide) (by go_simp) (by go_simp) (by kernel_rfl) rfl rfl rfl rfl HB1.out (fun w5 w6 hw5 hb6 hs6 => ?_)
    refine reg_done (by kernel_rfl) (fun w7 hw7 => ?_) _
    have HBX := hid (hw7.blk hb6)
    have HE7 : Hid (Ext w2 w7) := hid ((Same.ext (HE3.out.trans hw5) hs6 (fun k hk e => by have := HQ3.out; rw [e] at hk; omega)).trans hw7)
    clear hw5 hb6 hs6 hw7 HB1 HE3
    go_simp
    rw [HQ.out]
    clear HQ Q2
    have hvb : Va (.box s.keys.1 s.sent .empty (textOf n)) 90 (.agg #[.iface k1u k1d, .int .i64 s.sent, .iface 80 (.agg #[]), .iface 47 (.agg #[.int .i64 tn])]) := ⟨by simp [Tm.val, HK1.out.eq, HTX.out]⟩
    have HVB := hid hvb
    have HE8 := hid (HE2.out.trans HE7.out)
    have HBK7 := hid (HE7.out.blk HBK2.out)
    have HQ4 : Hid (W.heap.size ≤ q2) := hid (by have := HQ3.out; have := HE2.out.size; omega)
    have d0 := cell_blk (j := 0) HBX.out rfl
    have d1 := cell_blk (j := 1) HBX.out rfl
    have d2 := cell_blk (j := 2) HBX.out rfl
    have d3 := cell_blk (j := 3) HBX.out rfl
    have hal8 := Ext.alloc w7 (.cells #[.iface 90 (.agg #[.iface k1u k1d, .int .i64 s.sent, .iface 80 (.agg #[]), .iface 47 (.agg #[.int .i64 tn])])] 29 (0, 0))
    have HROOM := hid (room_any (f := f) (l := [.box s.keys.1 s.sent .empty (textOf n)]) (la := some ⟨w7.heap.size, 0, none⟩) (lc := 1) ((HM.out.later (HE8.out.trans hal8)).itoa HI.out) (by intro t ht; simp at ht; subst ht; exact ⟨by simp, HB.out.ok.all HN.out.small, by have := HB.out.sz; omega⟩) (by simp) (by simp only [List.map_cons, List.map_nil, hvb.eq]; exact rd_one w7 _ _) (HM.out.later (HE8.out.trans hal8)) (by have := HP.out.few; omega))
    clear hvb hal8 HE7 HBK2 HQ3 HE2
    go_wp2_with fail
    refine HROOM.out.mono ?_
    rintro e w8 ⟨rfl, hE9⟩
    have hal9 := (Ext.alloc w7 (.cells #[.iface 90 (.agg #[.iface k1u k1d, .int .i64 s.sent, .iface 80 (.agg #[]), .iface 47 (.agg #[.int .i64 tn])])] 29 (0, 0))).trans hE9
    have HE9 := hid (HE8.out.trans hal9)
    have HBX9 := hid (hal9.blk HBX.out)
    have HBK9 := hid (hal9.blk HBK7.out)
    clear hE9 hal9 HROOM d0 d1 d2 d3 HBX HBK7 HE8
    cases hr : μ.room f [.box s.keys.1 s.sent .empty (textOf n)]
    · have HEQ : Hid (μ.say f P i s n = (μ, 2)) := hid (by unfold MS.say; rw [if_neg (by rw [HST.out]; simp), if_pos hr])
      clear hr
      go_wp2_with fail
      go_ret
      rw [HEQ.out]
      exact ⟨rfl, own, m, v, HM.out.later HE9.out, Core.refl _, HP.out, (Kept.of (Same.of_ext HE9.out) (fun b t hb => (HM.out.owns b t hb).2)), Owns.refl _ _⟩
    · have HEQ : Hid (μ.say f P i s n = ((μ.sent f P [.box s.keys.1 s.sent .empty (textOf n)]).setSide i { s with sent := s.sent + 1, said := s.said ++ [textOf n] }, 0)) := hid (by unfold MS.say; rw [if_neg (by rw [HST.out]; simp), if_neg (by rw [hr]; simp)])
      have d0 := cell_blk (j := 0) HBX9.out rfl
      have d1 := cell_blk (j := 1) HBX9.out rfl
      have d2 := cell_blk (j := 2) HBX9.out rfl
      have d3 := cell_blk (j := 3) HBX9.out rfl
      have hal10 := Ext.alloc w8 (.cells #[.iface 90 (.agg #[.iface k1u k1d, .int .i64 s.sent, .iface 80 (.agg #[]), .iface 47 (.agg #[.int .i64 tn])])] 29 (0, 0))
      have hfr : ∀ g, (some ⟨w8.heap.size, 0, none⟩ : Option Addr) = some ⟨g, 0, none⟩ → own g = none := fun g hg => by cases hg; exact HM.out.fresh HE9.out.size
      have HSENT := hid (sent_any HN.out (l := [.box s.keys.1 s.sent .empty (textOf n)]) (la := some ⟨w8.heap.size, 0, none⟩) (lc := 1) HI.out (by intro t ht; simp at ht; subst ht; exact HB.out) (by simp) (by simp only [List.map_cons, List.map_nil, HVB.out.eq]; exact rd_one w8 _ _) hfr (HM.out.later (HE9.out.trans hal10)) HP.out hr)
      have HFQ : Hid (own q = none ∧ own q2 = none ∧ q < w8.heap.size) := hid ⟨HM.out.fresh HQL.out, HM.out.fresh HQ4.out, (Array.getElem?_eq_some_iff.1 HBK9.out).1⟩
      have HAL10 := hid hal10
      clear hr hfr hal10
      go_wp2_with fail
      refine HSENT.out.mono ?_
      rintro e w10 ⟨⟨xx, rfl⟩, own2, vpl, v2, h1, h2, h3, h4⟩
      have HA := hid h1
      have HPO := hid h2
      have hk0 := Kept.of (T := SpeakT i) (Same.of_ext (HE9.out.trans HAL10.out)) (fun b t hb => (HM.out.owns b t hb).2)
      have HK := hid (hk0.trans (Owns.refl _ _) (h3.mono (T2 := SpeakT i) (fun t ht => .inl ht)))
      have HO := hid ((Owns.refl W own).trans h4 hk0.size)
      have HBK10 := hid ((h3.free q (by have := HFQ.out.2.2; have := HAL10.out.size; omega) HFQ.out.1).trans (HAL10.out.blk HBK9.out))
      clear h1 h2 h3 h4 hk0 HSENT d0 d1 d2 d3 HBK9 HBX9 HE9
      have hs2 : (μ.sent f P [.box s.keys.1 s.sent .empty (textOf n)]).sides[i]? = some s := by rw [sent_sides]; exact HSS.out
      have hsdA := HA.out.side i x s HX.out hs2
      have c8 : w10.cell? ⟨x.b, 8, none⟩ = some (.int .i64 s.sent) := hsdA.at_.cell rfl
      have f8 := hsdA.at_.free 8
      have hset := hsdA.at_.sets (s2 := { s with sent := s.sent + 1 }) (vs2 := x.vs) (va2 := x.va) 8 (.int .i64 (s.sent + 1)) (by simp [Sd.cells])
      have hturn := HA.out.turn1 HX.out hs2 hset.2 hset.1 rfl rfl
      have HT := hid hturn
      have HS2 := hid hs2
      have HQX : Hid (q ≠ x.b) := hid (fun e => by have h5 := HFQ.out.1; rw [e, HSD.out.ob] at h5; cases h5)
      clear hs2 hsdA hset hturn
      go_upto_region 10 with fail
      have HBK11 := hid ((Below.heap_setCell w10 ⟨x.b, 8, none⟩ (.int .i64 (s.sent + 1)) q HQX.out).trans HBK10.out)
      generalize World.setCell w10 _ _ = w11 at *
      clear c8 f8 HBK10
      have hsS : ((μ.sent f P [.box s.keys.1 s.sent .empty (textOf n)]).setSide i { s with sent := s.sent + 1 }).sides[i]? = some { s with sent := s.sent + 1 } := by
        unfold MS.setSide
        rw [List.getElem?_set_self (List.getElem?_eq_some_iff.1 HS2.out).1]
      have HSS2 := hid hsS
      have hsd2 := HT.out.1.side i x _ HX.out hsS
      have HSD2 := hid hsd2
      clear hsS hsd2
      go_wp2_with fail
      refine reg_begin 8 (by kernel_rfl) ?_
      refine reg_hide (fun Q2 HQ => ?_)
      generalize hW : World.drew _ = Wy
      have HE : Hid (Ext w11 Wy) := hid (by rw [← hW]; exact Ext.drew _)
      clear hW
      refine reg_pure 0 rfl (by kernel_rfl) (by kernel_rfl) ?_; apply Exists.intro; refine ⟨fun w' => ?_, ?_⟩; · go_simp; exact rfl
      refine reg_pure 1 rfl (by kernel_rfl) (by kernel_rfl) ?_; apply Exists.intro; refine ⟨fun w' => ?_, ?_⟩; · go_simp; exact rfl
      refine reg_pure 2 rfl (by kernel_rfl) (by kernel_rfl) ?_; apply Exists.intro; refine ⟨fun w' => ?_, ?_⟩; · go_simp; exact rfl
      refine reg_pure 3 rfl (by kernel_rfl) (by kernel_rfl) ?_; apply Exists.intro; refine ⟨fun w' => ?_, ?_⟩; · go_simp; exact rfl
      refine reg_quiet 4 rfl (by kernel_rfl) (by kernel_rfl) ?_; apply Exists.intro; refine ⟨fun w' hw' => ?_, ?_⟩; · have q0 : w'.cell? ⟨x.b, 15, none⟩ = some x.vs := ((HSD2.out.at_.later (HE.out.trans hw')).cell rfl); go_simp; exact ⟨rfl, Ext.refl _⟩
      refine reg_quiet 5 rfl (by kernel_rfl) (by kernel_rfl) ?_; apply Exists.intro; refine ⟨fun w' hw' => ?_, ?_⟩; · have q0 : w'.cell? ⟨q, 0, none⟩ = some (.int .i64 tn) := cell_blk ((HE.out.trans hw').blk HBK11.out) rfl; go_simp; exact ⟨rfl, Ext.refl _⟩
      refine reg_pure 6 rfl (by kernel_rfl) (by kernel_rfl) ?_; apply Exists.intro; refine ⟨fun w' => ?_, ?_⟩; · go_simp; exact rfl
      refine reg_one 7 rfl (by kernel_rfl) (by kernel_rfl) (fun w12 hw12 => ?_)
      go_simp
      refine ⟨Ext.alloc _ _, ?_⟩
      have hba := blk_new w12 (.cells #[.iface 47 (.agg #[.int .i64 tn])] 29 (0, 0))
      have hea := (HE.out.trans hw12).alloc' (.cells #[.iface 47 (.agg #[.int .i64 tn])] 29 (0, 0))
      have HBA := hid hba
      have HEA := hid hea
      have hszw : w11.heap.size ≤ w12.heap.size := (HE.out.trans hw12).size
      have HSZ := hid hszw
      clear hba hea hw12 HE hszw
      generalize World.alloc w12 _ = w13 at *
      generalize w12.heap.size = q3 at *
      refine reg_one 8 rfl (by kernel_rfl) (by kernel_rfl) (fun w14 hw14 => ?_)
      refine wp_app1 (.tmp 62) (.tmp 65) rfl rfl w0.heap.size x.vs s.said.length (s.said.map Tm.val) (by go_simp) (own_ext (HEA.out.trans hw14) HSD2.out.said) q3 (.iface 47 (.agg #[.int .i64 tn])) (by go_simp) (cell_blk (hw14.blk HBA.out) rfl) rfl (by omega) (by have h1 := HT.out.1.ext.size; have h2 := (HEA.out.trans hw14).size; omega) ?_
      intro v' w15 hown hgr hnb hv1
      refine ⟨fun h => absurd h (by decide), ?_⟩
      obtain ⟨va', vc', hve, _⟩ := row_cells hown
      subst hve
      have hxb : w15.heap[x.b]? = w14.heap[x.b]? := hgr.block x.b (Nat.lt_of_lt_of_le HSD2.out.at_.lt (HEA.out.trans hw14).size) (fun e => by have h5 := HSD2.out.os _ e.symm; rw [HSD2.out.ob] at h5; cases h5)
      have hsd15 : SdAt w15 x.b _ x.vs x.va := (HSD2.out.at_.later (HEA.out.trans hw14)).keep hxb
      have HSD15 := hid hsd15
      have hpush := fun w16 (h16 : Ext w15 w16) => HT.out.1.said_push (t := textOf n) (v' := .slice va' (s.said.length + 1) vc') HX.out HSS2.out (HEA.out.trans hw14) (grownE hgr h16) (by rw [HTX.out]; exact own_ext h16 hown) (fun g hg => (hnb g hg).imp id (fun e => by have h1 := (HEA.out.trans hw14).size; omega))
      have HPUSH := hid hpush
      clear hpush hown hgr hnb hv1 hw14 hxb hsd15 HBA HEA
      refine reg_pure 9 rfl (by kernel_rfl) (by kernel_rfl) ?_; apply Exists.intro; refine ⟨fun w' => ?_, ?_⟩; · go_simp; exact rfl
      refine reg_pure 10 rfl (by kernel_rfl) (by kernel_rfl) ?_; apply Exists.intro; refine ⟨fun w' => ?_, ?_⟩; · go_simp; exact rfl
      refine reg_store 11 ⟨x.b, 15, none⟩ (.slice va' (s.said.length + 1) vc') rfl (by kernel_rfl) (by kernel_rfl) rfl (by decide) (by go_simp) (by go_simp) (by kernel_rfl) rfl rfl (fun w16 hw16 => ?_) (fun w16 hw16 => ?_)
      · exact ⟨⟨_, (HSD15.out.later hw16).cell rfl⟩, (HSD15.out.later hw16).free 15⟩
      obtain ⟨own3, hm3, hk3, ho3⟩ := HPUSH.out w16 hw16
      rw [setSide_setSide] at hm3
      have HM3 := hid hm3
      have HK3 := hid ((HK.out.trans HO.out (HT.out.2.mono (T2 := SpeakT i) (fun t ht => .inr ht))).trans HO.out (hk3.mono (T2 := SpeakT i) (fun t ht => .inr ht)))
      have HO3 := hid (HO.out.trans ho3 (Nat.le_trans HK.out.size HT.out.2.size))
      clear hm3 hk3 ho3 hw16 HPUSH HSD15
      generalize World.setCell w16 _ _ = w17 at *
      refine reg_done (by kernel_rfl) (fun w18 hw18 => ?_) _
      have HM4 := hid (HM3.out.later hw18)
      have HK4 := hid (HK3.out.trans HO3.out (Kept.of (T := SpeakT i) (Same.of_ext hw18) (fun b t hb => (HM3.out.owns b t hb).2)))
      clear hw18 HM3 HK3
      go_simp
      rw [HQ.out]
      clear HQ Q2
      go_wp2_with fail
      go_ret
      rw [HEQ.out]
      refine ⟨rfl, own3, _, ⟨v2, HM4.out⟩, ⟨rfl, rfl, rfl, rfl, rfl, ?_⟩, HPO.out.setSide i _, HK4.out, HO3.out⟩
      show (m.sd.set i { x with vs := .slice va' (s.said.length + 1) vc' }).map SB.b = m.sd.map SB.b
      obtain ⟨hl, he⟩ := List.getElem?_eq_some_iff.1 HX.out
      rw [List.map_set]
      show (m.sd.map SB.b).set i x.b = m.sd.map SB.b
      rw [← he]
      have : (m.sd.map SB.b)[i]'(by simpa using hl) = m.sd[i].b := by simp
      rw [← this]
      exact List.set_getElem_self _
  · have HEQ : Hid (μ.say f P i s n = (μ, 4)) := hid (by unfold MS.say; rw [if_pos hst])
    go_enter Tryz.func43, Tryz.ntmps43
    go_wp2_with fail
    go_ret
    rw [HEQ.out]
    exact ⟨rfl, own, m, v, HM.out, Core.refl _, HP.out, (Kept.of (Same.refl _ _) (fun b t hb => (HM.out.owns b t hb).2)), Owns.refl _ _⟩

end Go.Proofs.YtjodmedgkmeklaaGreat
