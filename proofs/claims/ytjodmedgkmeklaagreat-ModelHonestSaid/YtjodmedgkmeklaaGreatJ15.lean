/-
  Texts merged: Q10, Q11, Q12.
-/
import Derived.Test.YtjodmedgkmeklaaGreatJ14
/-
  What a side says next (parts).
-/
namespace Go.Proofs.YtjodmedgkmeklaaGreat
open Go Go.RowKit Go.Maps
attribute [local go_sem] extUpon run_store_tm
attribute [local go_sem ↓] Tm.val_cell eval_put_ne eval_put_none eval_put_same size_put eval_const
attribute [local go_sem ↓] meth_Atom meth_Public meth_Shared meth_Chain meth_Digest meth_Box meth_Empty
attribute [local go_sem ↓] run_build_chain run_build_digest run_build_box
attribute [local go_sem] ta_Atom_Atom ta_Public_Atom ta_Shared_Atom ta_Chain_Atom ta_Digest_Atom ta_Box_Atom ta_Empty_Atom ta_Nil_Atom ta_Atom_Public ta_Public_Public ta_Shared_Public ta_Chain_Public ta_Digest_Public ta_Box_Public ta_Empty_Public ta_Nil_Public ta_Atom_Shared ta_Public_Shared ta_Shared_Shared ta_Chain_Shared ta_Digest_Shared ta_Box_Shared ta_Empty_Shared ta_Nil_Shared ta_Atom_Chain ta_Public_Chain ta_Shared_Chain ta_Chain_Chain ta_Digest_Chain ta_Box_Chain ta_Empty_Chain ta_Nil_Chain ta_Atom_Digest ta_Public_Digest ta_Shared_Digest ta_Chain_Digest ta_Digest_Digest ta_Box_Digest ta_Empty_Digest ta_Nil_Digest ta_Atom_Box ta_Public_Box ta_Shared_Box ta_Chain_Box ta_Digest_Box ta_Box_Box ta_Empty_Box ta_Nil_Box ta_Atom_Empty ta_Public_Empty ta_Shared_Empty ta_Chain_Empty ta_Digest_Empty ta_Box_Empty ta_Empty_Empty ta_Nil_Empty
variable {w w2 W W2 : World} {b B sb ob : Nat} {s : Sd} {vs va v : Value} {l : List Tm} {f : Int → List UInt8}

/-- A side that may go on. -/
structure Gd (k : Int) (s : Sd) : Prop where
  hash : s.hash ≠ .non
  chain : s.chain ≠ .non
  n0 : 0 ≤ s.n
  n : s.n ≤ k
theorem Gd.mix {k : Int} (h : Gd k s) (t : Tm) : Gd k (s.mix t) := ⟨by simp [Sd.mix], h.chain, h.n0, h.n⟩
theorem Gd.mixKey {k : Int} (hk : 0 ≤ k) (h : Gd k s) (t : Tm) : Gd k (s.mixKey t) := ⟨h.hash, by simp [Sd.mixKey], Int.le_refl _, hk⟩
theorem Gd.dh {k : Int} (hk : 0 ≤ k) (h : Gd k s) (x : Int) (t : Tm) : Gd k (s.dh x t) := by
  cases t <;> first | exact h.mixKey hk _ | exact h
theorem Gd.ee {k : Int} (hk : 0 ≤ k) (h : Gd k s) : Gd k s.ee := h.dh hk _ _
theorem Gd.es {k : Int} (hk : 0 ≤ k) (h : Gd k s) : Gd k s.es := by unfold Sd.es; split <;> exact h.dh hk _ _
theorem Gd.se {k : Int} (hk : 0 ≤ k) (h : Gd k s) : Gd k s.se := by unfold Sd.se; split <;> exact h.dh hk _ _
theorem Gd.seal {k : Int} (h : Gd k s) (t : Tm) : Gd (k + 1) (s.seal t).1 := by
  unfold Sd.seal
  split
  · exact ⟨by simp [Sd.mix], h.chain, h.n0, by have := h.n; show s.n ≤ k + 1; omega⟩
  · exact ⟨by simp [Sd.mix], h.chain, by have := h.n0; show 0 ≤ s.n + 1; omega, by have := h.n; show s.n + 1 ≤ k + 1; omega⟩
theorem static_dh (x : Int) (t : Tm) : (s.dh x t).static = s.static := by cases t <;> rfl
theorem step_mix (t : Tm) : (s.mix t).step = s.step := rfl
theorem step_dh (x : Int) (t : Tm) : (s.dh x t).step = s.step := by cases t <;> rfl
theorem step_ee : s.ee.step = s.step := step_dh _ _
theorem step_es : s.es.step = s.step := by unfold Sd.es; split <;> exact step_dh _ _
theorem step_se : s.se.step = s.step := by unfold Sd.se; split <;> exact step_dh _ _
theorem step_seal (t : Tm) : (s.seal t).1.step = s.step := by unfold Sd.seal; split <;> rfl

set_option maxHeartbeats 4000000 in
set_option maxRecDepth 100000 in
theorem parts_any (hg : Gd 2 s) (h0 : 0 ≤ s.step) (h3 : s.step ≤ 2) (h : SdAt w b s vs va) :
    Calls Tryz.prog 54 #[ptr b] w fun e w' => ∃ v', e = .returned v' ∧ w'.ownsRow w.heap.size 29 1 v' s.parts.2.length (s.parts.2.map Tm.val) ∧ SdAt w' b s.parts.1 vs va ∧ Same w w' (OnlyB b) := by
  have e61 : ∀ args w, (callFunc 61 args).run Tryz.prog w = .ok (.enter 61 args) w := enters_of Tryz.func61 (by kernel_rfl) rfl
  have e63 : ∀ args w, (callFunc 63 args).run Tryz.prog w = .ok (.enter 63 args) w := enters_of Tryz.func63 (by kernel_rfl) rfl
  have hE : Ext w ((w.alloc (.cells #[ptr b] 65 (0, 0))).alloc (.cells #[.slice none 0 0] 40 (0, 0))) := (Ext.alloc _ _).trans (Ext.alloc _ _)
  have hPT : PT w.heap.size b w.heap.size (w.heap.size + 1) ((w.alloc (.cells #[ptr b] 65 (0, 0))).alloc (.cells #[.slice none 0 0] 40 (0, 0))) s vs va (.slice none 0 0) [] :=
    ⟨h.later hE, (Ext.alloc _ _).blk (blk_new _ _), ⟨blk_at (by simp), World.ownsRow_nil _ _ _ _⟩, h.lt, Nat.le_refl _, by omega, by simp, by simp; omega⟩
  have HPT := hid hPT
  have HSM := hid (Same.of_ext (p := Low w.heap.size b) hE)
  have HGD := hid hg
  clear hPT hE
  obtain ⟨st, hst⟩ : ∃ st, s.step = st := ⟨_, rfl⟩
  have HST0 := hid hst
  clear h hg
  go_enter Tryz.func54, Tryz.ntmps54
  go_upto_region 4 with fail
  generalize World.alloc _ _ = W0 at *
  generalize hsb : w.heap.size + 1 = ob at *
  generalize hB : w.heap.size = sb at *
  have c1 : W0.cell? ⟨sb, 0, none⟩ = some (ptr b) := cell_blk HPT.out.sbox rfl
  have c3 : W0.cell? ⟨b, 3, none⟩ = some (.int .i64 st) := by rw [← HST0.out]; exact HPT.out.sd.cell rfl
  have HSZ := hid hB
  clear hsb hB
  rw [hst] at h0 h3
  clear hst
  have HP := hid HPT.out
  have HS := hid HSM.out
  have HG := hid HGD.out
  clear HPT HSM HGD
  rcases (show st = 0 ∨ st = 1 ∨ st = 2 by omega) with rfl | rfl | rfl
  · have HEQ : Hid (s.parts = (((s.mix (.pub s.fresh)).seal .empty).1.next, [.pub s.fresh])) := hid (by unfold Sd.parts; rw [if_pos HST0.out])
    go_wp2_with fail
    clear c3
    refine (own_any HP.out HG.out.hash (by simp)).mono ?_
    rintro e w1 ⟨⟨x, rfl⟩, v1, h1, h2⟩
    have hs2 := HS.out.trans h2
    clear HP HS c1 h2
    have HP := hid h1
    have HS := hid hs2
    clear h1 hs2
    replace HG := hid (HG.out.mix (.pub s.fresh))
    have c1 : w1.cell? ⟨sb, 0, none⟩ = some (ptr b) := cell_blk HP.out.sbox rfl
    go_wp2_with fail
    obtain ⟨ru, rd, hrv⟩ := Va.of (seal_ne (s := s.mix (.pub s.fresh)) (t := .empty) (by simp))
    have HRV := hid hrv
    have HPL := hid (seal_any (s := s.mix (.pub s.fresh)) (t := .empty) (u := 80) (d := .agg #[]) ⟨rfl⟩ HG.out.hash HG.out.n0 (by have := HG.out.n; omega) HP.out.sd)
    rw [hrv.eq] at HPL
    clear hrv
    refine HPL.out.mono ?_
    rintro e wp ⟨rfl, h1, h2⟩
    clear HPL
    have hp2 := HP.out.side h1 h2
    have hs2 := HS.out.trans (h2.mono (fun k hk => hk.2))
    clear HP HS h1 h2 c1
    have HP := hid hp2
    have HS := hid hs2
    clear hp2 hs2
    replace HG := hid (HG.out.seal .empty)
    have c1 : wp.cell? ⟨sb, 0, none⟩ = some (ptr b) := cell_blk HP.out.sbox rfl
    have HST : Hid (((s.mix (.pub s.fresh)).seal .empty).1.step = 0) := hid (by rw [step_seal]; exact HST0.out)
    have c3 : wp.cell? ⟨b, 3, none⟩ = some (.int .i64 0) := by rw [← HST.out]; exact HP.out.sd.cell rfl
    go_wp2_with fail
    clear c3
    refine (next_any (s := ((s.mix (.pub s.fresh)).seal .empty).1) HG.out.hash (by rw [HST.out]; omega) (by rw [HST.out]; omega) HP.out.sd).mono ?_
    rintro e wn ⟨⟨x, rfl⟩, h1, h2⟩
    have hp2 := HP.out.side h1 h2
    have hs2 := HS.out.trans (h2.mono (fun k hk => hk.2))
    clear HP HS h1 h2 c1
    have HP := hid hp2
    have HS := hid hs2
    clear hp2 hs2
    have c2 := HP.out.box.cell
    go_wp2_with fail
    go_ret
    rw [HEQ.out]
    exact ⟨_, rfl, by rw [HSZ.out]; have := HP.out.box.own; rwa [List.length_map] at this, HP.out.sd, ⟨HS.out.1, HS.out.2.1, HS.out.2.2.1, HS.out.2.2.2.1, fun k hk hp => HS.out.2.2.2.2 k hk ⟨by have := HSZ.out; omega, hp⟩⟩⟩
  · have HEQ : Hid (s.parts = ((((s.mix (.pub s.fresh)).ee.seal (.pub s.static)).1.es.seal .empty).1.next, [.pub s.fresh, ((s.mix (.pub s.fresh)).ee.seal (.pub s.static)).2, (((s.mix (.pub s.fresh)).ee.seal (.pub s.static)).1.es.seal .empty).2])) := hid (by unfold Sd.parts; rw [if_neg (by have := HST0.out; omega), if_pos HST0.out])
    have HSS : Hid ((s.mix (.pub s.fresh)).ee.static = s.static) := hid (by unfold Sd.ee; rw [static_dh]; rfl)
    go_wp2_with fail
    clear c3
    refine (own_any HP.out HG.out.hash (by simp)).mono ?_
    rintro e w1 ⟨⟨x, rfl⟩, v1, h1, h2⟩
    have hs2 := HS.out.trans h2
    clear HP HS c1 h2
    have HP := hid h1
    have HS := hid hs2
    clear h1 hs2
    replace HG := hid (HG.out.mix (.pub s.fresh))
    have c1 : w1.cell? ⟨sb, 0, none⟩ = some (ptr b) := cell_blk HP.out.sbox rfl
    go_wp2_with fail
    refine (ee_any HG.out.chain HP.out.sd).mono ?_
    rintro e w2 ⟨⟨x, rfl⟩, h1, h2⟩
    have hp2 := HP.out.side h1 h2
    have hs2 := HS.out.trans (h2.mono (fun k hk => hk.2))
    clear HP HS h1 h2 c1
    have HP := hid hp2
    have HS := hid hs2
    clear hp2 hs2
    replace HG := hid (HG.out.ee (by omega))
    have c1 : w2.cell? ⟨sb, 0, none⟩ = some (ptr b) := cell_blk HP.out.sbox rfl
    go_wp2_with fail
    refine (static_any (s := (s.mix (.pub s.fresh)).ee) HP.out HG.out.hash HG.out.n0 (by have := HG.out.n; omega) (by simp)).mono ?_
    rintro e w3 ⟨⟨x, rfl⟩, v3, h1, h2⟩
    have hs2 := HS.out.trans h2
    clear HP HS c1 h2
    have HP := hid h1
    have HS := hid hs2
    clear h1 hs2
    replace HG := hid (HG.out.seal (.pub ((s.mix (.pub s.fresh)).ee).static))
    have c1 : w3.cell? ⟨sb, 0, none⟩ = some (ptr b) := cell_blk HP.out.sbox rfl
    go_wp2_with fail
    refine (es_any HG.out.chain HP.out.sd).mono ?_
    rintro e w4 ⟨⟨x, rfl⟩, h1, h2⟩
    have hp2 := HP.out.side h1 h2
    have hs2 := HS.out.trans (h2.mono (fun k hk => hk.2))
    clear HP HS h1 h2 c1
    have HP := hid hp2
    have HS := hid hs2
    clear hp2 hs2
    replace HG := hid (HG.out.es (by omega))
    have c1 : w4.cell? ⟨sb, 0, none⟩ = some (ptr b) := cell_blk HP.out.sbox rfl
    go_wp2_with fail
    obtain ⟨ru, rd, hrv⟩ := Va.of (seal_ne (s := ((s.mix (.pub s.fresh)).ee.seal (.pub (s.mix (.pub s.fresh)).ee.static)).1.es) (t := .empty) (by simp))
    have HRV := hid hrv
    have HPL := hid (seal_any (s := ((s.mix (.pub s.fresh)).ee.seal (.pub (s.mix (.pub s.fresh)).ee.static)).1.es) (t := .empty) (u := 80) (d := .agg #[]) ⟨rfl⟩ HG.out.hash HG.out.n0 (by have := HG.out.n; omega) HP.out.sd)
    rw [hrv.eq] at HPL
    clear hrv
    refine HPL.out.mono ?_
    rintro e wp ⟨rfl, h1, h2⟩
    clear HPL
    have hp2 := HP.out.side h1 h2
    have hs2 := HS.out.trans (h2.mono (fun k hk => hk.2))
    clear HP HS h1 h2 c1
    have HP := hid hp2
    have HS := hid hs2
    clear hp2 hs2
    replace HG := hid (HG.out.seal .empty)
    have c1 : wp.cell? ⟨sb, 0, none⟩ = some (ptr b) := cell_blk HP.out.sbox rfl
    have HST : Hid ((((s.mix (.pub s.fresh)).ee.seal (.pub (s.mix (.pub s.fresh)).ee.static)).1.es.seal .empty).1.step = 1) := hid (by rw [step_seal, step_es, step_seal, step_ee]; exact HST0.out)
    have c3 : wp.cell? ⟨b, 3, none⟩ = some (.int .i64 1) := by rw [← HST.out]; exact HP.out.sd.cell rfl
    have c2 := HP.out.box.cell
    have HA := hid (Ext.alloc wp (.cells #[.iface ru rd] 29 (0, 0)))
    have HBA := hid (blk_new wp (.cells #[.iface ru rd] 29 (0, 0)))
    have hsz : sb ≤ (wp.alloc (.cells #[.iface ru rd] 29 (0, 0))).heap.size := Nat.le_trans HP.out.size HA.out.size
    go_upto_region 17 with (first
      | (at_builtin; refine wpl_app1 (.tmp 42) (.tmp 44) rfl rfl rfl sb _ 2 _ (by rfl) (by exact (own_ext HA.out HP.out.box.own)) wp.heap.size (.iface ru rd) (by rfl) (cell_blk HBA.out rfl) rfl (by omega) hsz ?_; intro v' w4 hown hgr hnb hv1; obtain ⟨va', vc', hve, _⟩ := row_cells hown; subst hve; obtain ⟨cO, fO⟩ := Boxed.grown (HP.out.box.ext HA.out) (by decide) hgr))
    have hap := PT.app (t := (((s.mix (.pub s.fresh)).ee.seal (.pub (s.mix (.pub s.fresh)).ee.static)).1.es.seal .empty).2) (HP.out.later HA.out) hgr (by rw [HRV.out.eq]; exact hown) (by simp)
    have hs2 := (HS.out.trans (Same.of_ext HA.out)).trans hap.2
    clear HP HS c1 c2 cO fO hown hgr hnb hv1 hsz c3
    have HP := hid hap.1
    have HS := hid hs2
    clear hap hs2
    generalize World.setCell w4 _ _ = wq at *
    have c1 : wq.cell? ⟨sb, 0, none⟩ = some (ptr b) := cell_blk HP.out.sbox rfl
    go_wp2_with fail
    refine (next_any (s := (((s.mix (.pub s.fresh)).ee.seal (.pub (s.mix (.pub s.fresh)).ee.static)).1.es.seal .empty).1) HG.out.hash (by rw [HST.out]; omega) (by rw [HST.out]; omega) HP.out.sd).mono ?_
    rintro e wn ⟨⟨x, rfl⟩, h1, h2⟩
    have hp2 := HP.out.side h1 h2
    have hs2 := HS.out.trans (h2.mono (fun k hk => hk.2))
    clear HP HS h1 h2 c1
    have HP := hid hp2
    have HS := hid hs2
    clear hp2 hs2
    have c2 := HP.out.box.cell
    go_wp2_with fail
    go_ret
    rw [HEQ.out]
    rw [HSS.out] at HP
    exact ⟨_, rfl, by rw [HSZ.out]; have := HP.out.box.own; rwa [List.length_map] at this, HP.out.sd, ⟨HS.out.1, HS.out.2.1, HS.out.2.2.1, HS.out.2.2.2.1, fun k hk hp => HS.out.2.2.2.2 k hk ⟨by have := HSZ.out; omega, hp⟩⟩⟩
  · have HEQ : Hid (s.parts = (((s.seal (.pub s.static)).1.se.seal .empty).1.next, [(s.seal (.pub s.static)).2, ((s.seal (.pub s.static)).1.se.seal .empty).2])) := hid (by unfold Sd.parts; rw [if_neg (by have := HST0.out; omega), if_neg (by have := HST0.out; omega)])
    go_wp2_with fail
    clear c3
    refine (static_any (s := s) HP.out HG.out.hash HG.out.n0 (by have := HG.out.n; omega) (by simp)).mono ?_
    rintro e w3 ⟨⟨x, rfl⟩, v3, h1, h2⟩
    have hs2 := HS.out.trans h2
    clear HP HS c1 h2
    have HP := hid h1
    have HS := hid hs2
    clear h1 hs2
    replace HG := hid (HG.out.seal (.pub (s).static))
    have c1 : w3.cell? ⟨sb, 0, none⟩ = some (ptr b) := cell_blk HP.out.sbox rfl
    go_wp2_with fail
    refine (se_any HG.out.chain HP.out.sd).mono ?_
    rintro e w4 ⟨⟨x, rfl⟩, h1, h2⟩
    have hp2 := HP.out.side h1 h2
    have hs2 := HS.out.trans (h2.mono (fun k hk => hk.2))
    clear HP HS h1 h2 c1
    have HP := hid hp2
    have HS := hid hs2
    clear hp2 hs2
    replace HG := hid (HG.out.se (by omega))
    have c1 : w4.cell? ⟨sb, 0, none⟩ = some (ptr b) := cell_blk HP.out.sbox rfl
    go_wp2_with fail
    obtain ⟨ru, rd, hrv⟩ := Va.of (seal_ne (s := (s.seal (.pub s.static)).1.se) (t := .empty) (by simp))
    have HRV := hid hrv
    have HPL := hid (seal_any (s := (s.seal (.pub s.static)).1.se) (t := .empty) (u := 80) (d := .agg #[]) ⟨rfl⟩ HG.out.hash HG.out.n0 (by have := HG.out.n; omega) HP.out.sd)
    rw [hrv.eq] at HPL
    clear hrv
    refine HPL.out.mono ?_
    rintro e wp ⟨rfl, h1, h2⟩
    clear HPL
    have hp2 := HP.out.side h1 h2
    have hs2 := HS.out.trans (h2.mono (fun k hk => hk.2))
    clear HP HS h1 h2 c1
    have HP := hid hp2
    have HS := hid hs2
    clear hp2 hs2
    replace HG := hid (HG.out.seal .empty)
    have c1 : wp.cell? ⟨sb, 0, none⟩ = some (ptr b) := cell_blk HP.out.sbox rfl
    have HST : Hid ((((s.seal (.pub s.static)).1.se).seal .empty).1.step = 2) := hid (by rw [step_seal, step_se, step_seal]; exact HST0.out)
    have c3 : wp.cell? ⟨b, 3, none⟩ = some (.int .i64 2) := by rw [← HST.out]; exact HP.out.sd.cell rfl
    have c2 := HP.out.box.cell
    have HA := hid (Ext.alloc wp (.cells #[.iface ru rd] 29 (0, 0)))
    have HBA := hid (blk_new wp (.cells #[.iface ru rd] 29 (0, 0)))
    have hsz : sb ≤ (wp.alloc (.cells #[.iface ru rd] 29 (0, 0))).heap.size := Nat.le_trans HP.out.size HA.out.size
    go_upto_region 17 with (first
      | (at_builtin; refine wpl_app1 (.tmp 42) (.tmp 44) rfl rfl rfl sb _ 1 _ (by rfl) (by exact (own_ext HA.out HP.out.box.own)) wp.heap.size (.iface ru rd) (by rfl) (cell_blk HBA.out rfl) rfl (by omega) hsz ?_; intro v' w4 hown hgr hnb hv1; obtain ⟨va', vc', hve, _⟩ := row_cells hown; subst hve; obtain ⟨cO, fO⟩ := Boxed.grown (HP.out.box.ext HA.out) (by decide) hgr))
    have hap := PT.app (t := ((s.seal (.pub s.static)).1.se.seal .empty).2) (HP.out.later HA.out) hgr (by rw [HRV.out.eq]; exact hown) (by simp)
    have hs2 := (HS.out.trans (Same.of_ext HA.out)).trans hap.2
    clear HP HS c1 c2 cO fO hown hgr hnb hv1 hsz c3
    have HP := hid hap.1
    have HS := hid hs2
    clear hap hs2
    generalize World.setCell w4 _ _ = wq at *
    have c1 : wq.cell? ⟨sb, 0, none⟩ = some (ptr b) := cell_blk HP.out.sbox rfl
    go_wp2_with fail
    refine (next_any (s := ((s.seal (.pub s.static)).1.se.seal .empty).1) HG.out.hash (by rw [HST.out]; omega) (by rw [HST.out]; omega) HP.out.sd).mono ?_
    rintro e wn ⟨⟨x, rfl⟩, h1, h2⟩
    have hp2 := HP.out.side h1 h2
    have hs2 := HS.out.trans (h2.mono (fun k hk => hk.2))
    clear HP HS h1 h2 c1
    have HP := hid hp2
    have HS := hid hs2
    clear hp2 hs2
    have c2 := HP.out.box.cell
    go_wp2_with fail
    go_ret
    rw [HEQ.out]
    exact ⟨_, rfl, by rw [HSZ.out]; have := HP.out.box.own; rwa [List.length_map] at this, HP.out.sd, ⟨HS.out.1, HS.out.2.1, HS.out.2.2.1, HS.out.2.2.2.1, fun k hk hp => HS.out.2.2.2.2 k hk ⟨by have := HSZ.out; omega, hp⟩⟩⟩

end Go.Proofs.YtjodmedgkmeklaaGreat

/-
  What a side hears: bounds, plain.
-/
namespace Go.Proofs.YtjodmedgkmeklaaGreat
open Go Go.RowKit Go.Maps
variable {s : Sd} {f : Int → List UInt8}

/-- A term that may be opened. -/
structure Ht (c : Int) (t : Tm) : Prop where
  ne : t ≠ .non
  all : t.all Small
  sz : sz t ≤ c
  parts : ∀ k n a x, t = .box k n a x → k ≠ .non ∧ a ≠ .non ∧ x ≠ .non
theorem Tm.ok.box {P : Int → Prop} {t : Tm} (h : t.ok P) : ∀ k n a x, t = .box k n a x → k ≠ .non ∧ a ≠ .non ∧ x ≠ .non := fun k n a x e => by
  subst e
  exact ⟨h.2.1.ne, h.2.2.1.ne, h.2.2.2.ne⟩
theorem Ht.of {P : Int → Prop} (hP : ∀ n, P n → Small n) {c : Int} {t : Tm} (h : t.ok P) (hs : Go.Proofs.YtjodmedgkmeklaaGreat.sz t ≤ c) : Ht c t := ⟨h.ne, h.all hP, hs, h.box⟩
/-- A side, within bounds. -/
structure Gh (k z : Int) (s : Sd) : Prop where
  gd : Gd k s
  hall : s.hash.all Small
  hsz : sz s.hash ≤ z
  call : s.chain.all Small
  csz : sz s.chain ≤ z
  kall : s.key.all Small
  ksz : sz s.key ≤ z
  st : Small s.static
  fr : Small s.fresh
theorem Gh.mono {k k2 z z2 : Int} (h : Gh k z s) (hk : k ≤ k2) (hz : z ≤ z2) : Gh k2 z2 s :=
  ⟨⟨h.gd.hash, h.gd.chain, h.gd.n0, by have := h.gd.n; omega⟩, h.hall, by have := h.hsz; omega, h.call, by have := h.csz; omega, h.kall, by have := h.ksz; omega, h.st, h.fr⟩
theorem Gh.mix {k z c : Int} (h : Gh k z s) {t : Tm} (ha : t.all Small) (hs : sz t ≤ c) (hc : 0 ≤ c) : Gh k (z + c + 1) (s.mix t) :=
  ⟨h.gd.mix t, ⟨h.hall, ha⟩, by have := h.hsz; show sz (.digest s.hash t) ≤ _; simp only [sz]; omega, h.call, by have := h.csz; show sz s.chain ≤ _; omega, h.kall, by have := h.ksz; show sz s.key ≤ _; omega, h.st, h.fr⟩
theorem Gh.dh {k z : Int} (hk : 0 ≤ k) (h : Gh k z s) {x : Int} (hx : Small x) {t : Tm} (ht : t.all Small) : Gh k (z + 2) (s.dh x t) := by
  cases t with
  | pub p =>
    have hmin : Small (min x p) := by unfold Small at hx ⊢; have : Small p := ht; unfold Small at this; omega
    have hmax : Small (max x p) := by unfold Small at hx ⊢; have : Small p := ht; unfold Small at this; omega
    have h1 : Small 1 := by unfold Small; omega
    have h2 : Small 2 := by unfold Small; omega
    refine ⟨h.gd.mixKey hk _, h.hall, by have := h.hsz; show sz s.hash ≤ _; omega, ⟨h1, h.call, hmin, hmax⟩, ?_, ⟨h2, h.call, hmin, hmax⟩, ?_, h.st, h.fr⟩
    · have := h.csz; show sz (.chain 1 s.chain (.shared _ _)) ≤ _; simp only [sz]; omega
    · have := h.csz; show sz (.chain 2 s.chain (.shared _ _)) ≤ _; simp only [sz]; omega
  | _ => exact h.mono (Int.le_refl _) (by omega)
theorem Gh.ee {k z : Int} (hk : 0 ≤ k) (h : Gh k z s) (ht : s.theirs.all Small) : Gh k (z + 2) s.ee := h.dh hk h.fr ht
theorem Gh.es {k z : Int} (hk : 0 ≤ k) (h : Gh k z s) (ht : s.theirs.all Small) (hp : s.peer.all Small) : Gh k (z + 2) s.es := by
  unfold Sd.es; split
  · exact h.dh hk h.fr hp
  · exact h.dh hk h.st ht
theorem Gh.se {k z : Int} (hk : 0 ≤ k) (h : Gh k z s) (ht : s.theirs.all Small) (hp : s.peer.all Small) : Gh k (z + 2) s.se := by
  unfold Sd.se; split
  · exact h.dh hk h.st ht
  · exact h.dh hk h.fr hp
theorem theirs_dh (x : Int) (t : Tm) : (s.dh x t).theirs = s.theirs ∧ (s.dh x t).peer = s.peer := by cases t <;> exact ⟨rfl, rfl⟩
/-- What is opened. -/
theorem opens_some {k z c : Int} {t x : Tm} {s2 : Sd} (h : Gh k z s) (ht : Ht c t) (hc : 0 ≤ c) (ho : s.opens f t = some (s2, x)) :
    Gh (k + 1) (z + c + 1) s2 ∧ x ≠ .non ∧ x.all Small ∧ sz x ≤ c ∧ s2.step = s.step ∧ s2.theirs = s.theirs ∧ s2.peer = s.peer := by
  unfold Sd.opens at ho
  split at ho
  · simp only [Option.some.injEq, Prod.mk.injEq] at ho
    obtain ⟨rfl, rfl⟩ := ho
    exact ⟨(h.mix ht.all ht.sz hc).mono (by omega) (by omega), ht.ne, ht.all, ht.sz, rfl, rfl, rfl⟩
  · cases t <;> simp only [] at ho <;> try cases ho
    case box kk n a y =>
      split at ho
      · simp only [Option.some.injEq, Prod.mk.injEq] at ho
        obtain ⟨rfl, rfl⟩ := ho
        have hp := ht.parts kk n a y rfl
        have h1 := ht.sz
        have p1 := sz_pos kk; have p2 := sz_pos a; have p3 := sz_pos y
        have hg : Gh (k + 1) z ({ s with n := s.n + 1 } : Sd) := ⟨⟨h.gd.hash, h.gd.chain, by have := h.gd.n0; show 0 ≤ s.n + 1; omega, by have := h.gd.n; show s.n + 1 ≤ k + 1; omega⟩, h.hall, h.hsz, h.call, h.csz, h.kall, h.ksz, h.st, h.fr⟩
        refine ⟨hg.mix ht.all ht.sz hc, hp.2.2, ht.all.2.2.2, ?_, rfl, rfl, rfl⟩
        simp only [sz] at h1
        omega
      · cases ho

/-- What is left, once the first box is opened. -/
def Sd.body2 (f : Int → List UInt8) (s4 : Sd) (x4 c : Tm) : Option Sd :=
  match x4 with
  | .pub p => (if s4.step = 1 then ({ s4 with peer := .pub p, peerN := p } : Sd).es else ({ s4 with peer := .pub p, peerN := p } : Sd).se).close f c
  | _ => none
theorem body_none {b c : Tm} (h : s.opens f b = none) : s.body f b c = none := by unfold Sd.body; rw [h]
theorem body_some {b c x4 : Tm} {s4 : Sd} (h : s.opens f b = some (s4, x4)) : s.body f b c = Sd.body2 f s4 x4 c := by
  unfold Sd.body; rw [h]
  cases x4 <;> rfl

end Go.Proofs.YtjodmedgkmeklaaGreat

/-
  What a side hears (hears).
-/
namespace Go.Proofs.YtjodmedgkmeklaaGreat
open Go Go.RowKit Go.Maps
attribute [local go_sem] extUpon run_store_tm
attribute [local go_sem ↓] Tm.val_cell eval_put_ne eval_put_none eval_put_same size_put eval_const
attribute [local go_sem ↓] meth_Atom meth_Public meth_Shared meth_Chain meth_Digest meth_Box meth_Empty
attribute [local go_sem ↓] run_build_chain run_build_digest run_build_box
attribute [local go_sem] ta_Atom_Atom ta_Public_Atom ta_Shared_Atom ta_Chain_Atom ta_Digest_Atom ta_Box_Atom ta_Empty_Atom ta_Nil_Atom ta_Atom_Public ta_Public_Public ta_Shared_Public ta_Chain_Public ta_Digest_Public ta_Box_Public ta_Empty_Public ta_Nil_Public ta_Atom_Shared ta_Public_Shared ta_Shared_Shared ta_Chain_Shared ta_Digest_Shared ta_Box_Shared ta_Empty_Shared ta_Nil_Shared ta_Atom_Chain ta_Public_Chain ta_Shared_Chain ta_Chain_Chain ta_Digest_Chain ta_Box_Chain ta_Empty_Chain ta_Nil_Chain ta_Atom_Digest ta_Public_Digest ta_Shared_Digest ta_Chain_Digest ta_Digest_Digest ta_Box_Digest ta_Empty_Digest ta_Nil_Digest ta_Atom_Box ta_Public_Box ta_Shared_Box ta_Chain_Box ta_Digest_Box ta_Box_Box ta_Empty_Box ta_Nil_Box ta_Atom_Empty ta_Public_Empty ta_Shared_Empty ta_Chain_Empty ta_Digest_Empty ta_Box_Empty ta_Empty_Empty ta_Nil_Empty
variable {w w2 W W2 : World} {b g cap : Nat} {s : Sd} {vs va v : Value} {l : List Tm} {f : Int → List UInt8}

/-- The row that is heard. -/
structure Heard (w : World) (b g cap : Nat) (l : List Tm) : Prop where
  terms : ∀ t ∈ l, Ht 1600 t
  row : ∀ i t, l[i]? = some t → w.cell? ⟨g, i, none⟩ = some t.val
  ne : g ≠ b
  lt : g < w.heap.size
  cap : l.length ≤ cap
theorem Heard.at {w W : World} {b g cap : Nat} {l : List Tm} (h : Heard w b g cap l) (hs : Same w W (OnlyB b)) {i : Nat} {t : Tm} (hi : l[i]? = some t) : W.cell? ⟨g, i, none⟩ = some t.val :=
  hs.cell h.lt h.ne (h.row i t hi)

set_option maxHeartbeats 4000000 in
set_option maxRecDepth 100000 in
theorem hears0_any (hg : Gh 3 4000 s) (hI : ∀ W, Same w W (OnlyB b) → Itoa W Small f) (h : SdAt w b s vs va) {a : Tm} (hr : Heard w b g cap [a]) (hst : s.step = 0) :
    Calls Tryz.prog 56 #[ptr b, .slice (some ⟨g, 0, none⟩) 1 cap] w fun e w' => e = .returned (.bool (s.hears f [a]).isSome) ∧ (∀ s2, s.hears f [a] = some s2 → SdAt w' b s2 vs va) ∧ Same w w' (OnlyB b) := by
  obtain ⟨l, hl⟩ : ∃ l, l = [a] := ⟨_, rfl⟩
  rw [← hl]
  have hta := hr.terms a (by simp)
  obtain ⟨au, ad, hav⟩ := Va.of hta.ne
  have c0 : w.cell? ⟨g, 0, none⟩ = some (.iface au ad) := hav.eq ▸ hr.row 0 a rfl
  have c3 : w.cell? ⟨b, 3, none⟩ = some (.int .i64 0) := by rw [← hst]; exact h.cell rfl
  have HR := hid hr
  have HI := hid hI
  have HSD := hid h
  have HGS := hid hg
  have HAV := hid hav
  have HL := hid hl
  have HS0 := hid hst
  have hh := half_any a w
  rw [hav.eq] at hh
  have HH := hid hh
  have hca := hr.cap
  simp only [List.length_singleton] at hca
  clear hr hI h hg hav hl hst hh hta
  go_enter Tryz.func56, Tryz.ntmps56
  go_wp2_with fail
  refine HH.out.mono ?_
  rintro e w1 ⟨rfl, hE1⟩
  have hp1 := HSD.out.later hE1
  have hs1 := Same.of_ext (p := OnlyB b) hE1
  have c0b := hE1.cell c0
  have c3b := hE1.cell c3
  have f13 := hp1.free 13
  have HP := hid hp1
  have HS := hid hs1
  clear hE1 hp1 hs1 c0 c3 HH
  cases hpb : a.isPub
  · have HRES : Hid (s.hears f l = none) := hid (by rw [HL.out]; unfold Sd.hears; rw [if_pos HS0.out]; cases a <;> first | rfl | cases hpb)
    go_wp2_with fail
    go_ret
    exact ⟨by rw [HRES.out]; rfl, fun s2 h => (by rw [HRES.out] at h; cases h), HS.out⟩
  · obtain ⟨p, rfl⟩ : ∃ p, a = .pub p := by cases a <;> first | exact ⟨_, rfl⟩ | cases hpb
    have hav2 : au = 82 ∧ ad = .agg #[.int .i64 p] := by have := HAV.out.eq; simp only [Tm.val, Value.iface.injEq] at this; exact ⟨this.1.symm, this.2.symm⟩
    obtain ⟨rfl, rfl⟩ := hav2
    clear hpb
    obtain ⟨m, hm⟩ : ∃ m, s.theirs.val = m := ⟨_, rfl⟩
    have c13 : w1.cell? ⟨b, 13, none⟩ = some m := hm ▸ HP.out.cell rfl
    have hst2 := HP.out.sets (s2 := { s with theirs := .pub p }) (vs2 := vs) (va2 := va) 13 (.iface 82 (.agg #[.int .i64 p])) (by simp [Sd.cells, Tm.val])
    have HST2 := hid hst2
    clear hst2 hm
    go_upto_region 5 with fail
    generalize World.setCell w1 _ _ = W3 at *
    have hs3 := HS.out.trans HST2.out.2
    clear HP HS c0b c3b f13 c13
    have HP := hid HST2.out.1
    have HS := hid hs3
    clear hs3 HST2
    have c0 : W3.cell? ⟨g, 0, none⟩ = some (.iface 82 (.agg #[.int .i64 p])) := HR.out.at HS.out (t := .pub p) rfl
    have HM := hid (mixHash_any (s := ({ s with theirs := .pub p } : Sd)) (t := .pub p) (u := 82) (d := .agg #[.int .i64 p]) ⟨rfl⟩ HGS.out.gd.hash HP.out)
    go_wp2_with fail
    refine HM.out.mono ?_
    rintro e w4 ⟨⟨x, rfl⟩, h1, h2⟩
    have hs4 := HS.out.trans h2
    clear HP HS h2 c0 HM
    have HP := hid h1
    have HS := hid hs4
    clear h1 hs4
    have c3 : w4.cell? ⟨b, 3, none⟩ = some (.int .i64 0) := by rw [← HS0.out]; exact HP.out.cell rfl
    have HG : Hid (Gh 3 4002 (({ s with theirs := .pub p } : Sd).mix (.pub p))) := hid (by
      have h5 : Gh 3 4000 ({ s with theirs := .pub p } : Sd) := ⟨⟨HGS.out.gd.hash, HGS.out.gd.chain, HGS.out.gd.n0, HGS.out.gd.n⟩, HGS.out.hall, HGS.out.hsz, HGS.out.call, HGS.out.csz, HGS.out.kall, HGS.out.ksz, HGS.out.st, HGS.out.fr⟩
      have h6 := HR.out.terms (.pub p) (by simp)
      have := h5.mix (t := .pub p) (c := 1) h6.all (by simp [sz]) (by omega)
      exact this.mono (by omega) (by omega))
    have HST : Hid ((({ s with theirs := .pub p } : Sd).mix (.pub p)).step = 0) := hid HS0.out
    have HEQ : Hid (s.hears f l = (({ s with theirs := .pub p } : Sd).mix (.pub p)).close f .empty) := hid (by rw [HL.out]; unfold Sd.hears; rw [if_pos HS0.out])
    have HTC : Hid (Ht 1600 .empty) := hid ⟨by simp, trivial, by simp [sz], fun k n a x h => by cases h⟩
    have HCV : Hid (Va .empty 80 (.agg #[])) := hid ⟨rfl⟩
    have hal := Ext.alloc w4 (.cells #[.iface 80 (.agg #[])] 29 (0, 0))
    have hbk := blk_new w4 (.cells #[.iface 80 (.agg #[])] 29 (0, 0))
    have HP4 := hid HP.out
    have HS4 := hid HS.out
    clear HP HS
    have HP := hid (HP4.out.later hal)
    have HS := hid (HS4.out.trans (Same.of_ext hal))
    have HBK := hid hbk
    clear HP4 HS4 hal hbk
    rcases (show cap = 1 ∨ 1 < cap by omega) with rfl | hcc
    · go_upto_region 9 with fail
      generalize World.alloc w4 _ = W5 at *
      generalize w4.heap.size = q at *
      clear c3
      have c3 : W5.cell? ⟨b, 3, none⟩ = some (.int .i64 0) := by rw [← HS0.out]; exact HP.out.cell rfl
      have c0 : W5.cell? ⟨q, 0, none⟩ = some (.iface 80 (.agg #[])) := cell_blk HBK.out rfl
      have hop := open_any (s := (({ s with theirs := .pub p } : Sd).mix (.pub p))) (f := f) .empty HTC.out.ne (HI.out _ HS.out) HTC.out.all HTC.out.parts (by have := HTC.out.sz; omega) HG.out.hall (by have := HG.out.hsz; omega) HG.out.kall (by have := HG.out.ksz; omega) HG.out.gd.hash HG.out.gd.n0 (by have := HG.out.gd.n; omega) HP.out
      rw [HCV.out.eq] at hop
      cases hr : Sd.opens f ((({ s with theirs := .pub p } : Sd).mix (.pub p))) .empty with
      | none =>
        rw [hr] at hop
        simp only [opened] at hop
        have HRES : Hid (s.hears f l = none) := hid (by rw [HEQ.out]; unfold Sd.close; rw [hr])
        have HOP := hid hop
        clear hop hr
        go_wp2_with fail
        refine HOP.out.mono ?_
        rintro e wo ⟨rfl, h1, h2⟩
        replace HS := hid (HS.out.trans h2)
        clear h1 h2
        go_wp2_with fail
        go_ret
        exact ⟨by rw [HRES.out]; rfl, fun s2 h => (by rw [HRES.out] at h; cases h), HS.out⟩
      | some p =>
        obtain ⟨s5, x5⟩ := p
        rw [hr] at hop
        simp only [opened] at hop
        obtain ⟨g5, ne5, all5, sz5, st5, _, _⟩ := opens_some HG.out HTC.out (by omega) hr
        obtain ⟨xu, xd, hxv⟩ := Va.of ne5
        rw [hxv.eq] at hop
        have HSA : Hid (∀ W, Same w W (OnlyB b) → Calls Tryz.prog 15 #[.iface xu xd, .iface 80 (.agg #[])] W fun e w' => e = .returned (.bool (decide (nm f x5 = nm f .empty))) ∧ Ext W w') := hid (fun W hW => by
          have := same_any (R := Small) (f := f) x5 .empty W (HI.out W hW) all5 trivial (by omega) (by simp [sz])
          rwa [hxv.eq] at this)
        have HOP := hid hop
        have HG5 := hid g5
        have HST5 : Hid (s5.step = 0) := hid (st5.trans HST.out)
        have hc5 : Sd.close f ((({ s with theirs := .pub p } : Sd).mix (.pub p))) .empty = if nm f x5 = nm f .empty then some s5.next else none := by unfold Sd.close; rw [hr]
        have HC5 := hid hc5
        clear hop g5 hc5 hr st5 sz5 all5 ne5 hxv
        go_wp2_with fail
        refine HOP.out.mono ?_
        rintro e wo ⟨rfl, h1, h2⟩
        have hs2 := HS.out.trans h2
        clear HP HS h2
        have HP := hid h1
        have HS := hid hs2
        clear h1 hs2 HOP
        go_wp2_with fail
        refine (HSA.out wo HS.out).mono ?_
        rintro e wp ⟨rfl, hE⟩
        have hp2 := HP.out.later hE
        have hs2 := HS.out.trans (Same.of_ext hE)
        clear HP HS hE
        have HP := hid hp2
        have HS := hid hs2
        clear hp2 hs2
        by_cases hx : nm f x5 = nm f .empty
        · have HRES : Hid (s.hears f l = some s5.next) := hid (by rw [HEQ.out, HC5.out, if_pos hx])
          rw [decide_eq_true hx]
          clear hx
          go_wp2_with fail
          refine (next_any HG5.out.gd.hash (by rw [HST5.out]; omega) (by rw [HST5.out]; omega) HP.out).mono ?_
          rintro e wn ⟨⟨x, rfl⟩, h1, h2⟩
          have HPN := hid h1
          have HSN := hid (HS.out.trans h2)
          clear h1 h2
          go_wp2_with fail
          go_ret
          exact ⟨by rw [HRES.out]; rfl, fun s2 h => (by rw [HRES.out] at h; cases h; exact HPN.out), HSN.out⟩
        · have HRES : Hid (s.hears f l = none) := hid (by rw [HEQ.out, HC5.out, if_neg hx])
          rw [decide_eq_false hx]
          clear hx
          go_wp2_with fail
          go_ret
          exact ⟨by rw [HRES.out]; rfl, fun s2 h => (by rw [HRES.out] at h; cases h), HS.out⟩
    · go_upto_region 9 with fail
      generalize World.alloc w4 _ = W5 at *
      generalize w4.heap.size = q at *
      clear c3
      have c3 : W5.cell? ⟨b, 3, none⟩ = some (.int .i64 0) := by rw [← HS0.out]; exact HP.out.cell rfl
      have c0 : W5.cell? ⟨q, 0, none⟩ = some (.iface 80 (.agg #[])) := cell_blk HBK.out rfl
      have hop := open_any (s := (({ s with theirs := .pub p } : Sd).mix (.pub p))) (f := f) .empty HTC.out.ne (HI.out _ HS.out) HTC.out.all HTC.out.parts (by have := HTC.out.sz; omega) HG.out.hall (by have := HG.out.hsz; omega) HG.out.kall (by have := HG.out.ksz; omega) HG.out.gd.hash HG.out.gd.n0 (by have := HG.out.gd.n; omega) HP.out
      rw [HCV.out.eq] at hop
      cases hr : Sd.opens f ((({ s with theirs := .pub p } : Sd).mix (.pub p))) .empty with
      | none =>
        rw [hr] at hop
        simp only [opened] at hop
        have HRES : Hid (s.hears f l = none) := hid (by rw [HEQ.out]; unfold Sd.close; rw [hr])
        have HOP := hid hop
        clear hop hr
        go_wp2_with fail
        refine HOP.out.mono ?_
        rintro e wo ⟨rfl, h1, h2⟩
        replace HS := hid (HS.out.trans h2)
        clear h1 h2
        go_wp2_with fail
        go_ret
        exact ⟨by rw [HRES.out]; rfl, fun s2 h => (by rw [HRES.out] at h; cases h), HS.out⟩
      | some p =>
        obtain ⟨s5, x5⟩ := p
        rw [hr] at hop
        simp only [opened] at hop
        obtain ⟨g5, ne5, all5, sz5, st5, _, _⟩ := opens_some HG.out HTC.out (by omega) hr
        obtain ⟨xu, xd, hxv⟩ := Va.of ne5
        rw [hxv.eq] at hop
        have HSA : Hid (∀ W, Same w W (OnlyB b) → Calls Tryz.prog 15 #[.iface xu xd, .iface 80 (.agg #[])] W fun e w' => e = .returned (.bool (decide (nm f x5 = nm f .empty))) ∧ Ext W w') := hid (fun W hW => by
          have := same_any (R := Small) (f := f) x5 .empty W (HI.out W hW) all5 trivial (by omega) (by simp [sz])
          rwa [hxv.eq] at this)
        have HOP := hid hop
        have HG5 := hid g5
        have HST5 : Hid (s5.step = 0) := hid (st5.trans HST.out)
        have hc5 : Sd.close f ((({ s with theirs := .pub p } : Sd).mix (.pub p))) .empty = if nm f x5 = nm f .empty then some s5.next else none := by unfold Sd.close; rw [hr]
        have HC5 := hid hc5
        clear hop g5 hc5 hr st5 sz5 all5 ne5 hxv
        go_wp2_with fail
        refine HOP.out.mono ?_
        rintro e wo ⟨rfl, h1, h2⟩
        have hs2 := HS.out.trans h2
        clear HP HS h2
        have HP := hid h1
        have HS := hid hs2
        clear h1 hs2 HOP
        go_wp2_with fail
        refine (HSA.out wo HS.out).mono ?_
        rintro e wp ⟨rfl, hE⟩
        have hp2 := HP.out.later hE
        have hs2 := HS.out.trans (Same.of_ext hE)
        clear HP HS hE
        have HP := hid hp2
        have HS := hid hs2
        clear hp2 hs2
        by_cases hx : nm f x5 = nm f .empty
        · have HRES : Hid (s.hears f l = some s5.next) := hid (by rw [HEQ.out, HC5.out, if_pos hx])
          rw [decide_eq_true hx]
          clear hx
          go_wp2_with fail
          refine (next_any HG5.out.gd.hash (by rw [HST5.out]; omega) (by rw [HST5.out]; omega) HP.out).mono ?_
          rintro e wn ⟨⟨x, rfl⟩, h1, h2⟩
          have HPN := hid h1
          have HSN := hid (HS.out.trans h2)
          clear h1 h2
          go_wp2_with fail
          go_ret
          exact ⟨by rw [HRES.out]; rfl, fun s2 h => (by rw [HRES.out] at h; cases h; exact HPN.out), HSN.out⟩
        · have HRES : Hid (s.hears f l = none) := hid (by rw [HEQ.out, HC5.out, if_neg hx])
          rw [decide_eq_false hx]
          clear hx
          go_wp2_with fail
          go_ret
          exact ⟨by rw [HRES.out]; rfl, fun s2 h => (by rw [HRES.out] at h; cases h), HS.out⟩

theorem regR_store {md : Region.Mode} {R : World → World → Prop} {Q : Exit → Act → World → Prop} {fuel : Nat} {l tl : List Oper} {oi : Oper} {listed : Array Bool} {a : Act} {w : World} (i : Nat) {x y : Operand} {t : TypeId} (p : Addr) (u : Value)
    (hi : l.drop i = oi :: tl) (hr : (Region.ready md l.toArray listed == [i]) = true) (hw : Region.wanted oi (yielded l.toArray a.tmps) = true) (ho : oi.op = .store t x y)
    (hx : a.eval x = .pointer (some p)) (hy : a.eval y = u) (hz : (Tryz.prog.info? t).map (·.size) = some 1) (hu : u.cells = #[u]) (h1 : u.oneCell' = true)
    (hc : ∀ w', Ext w w' → (∃ v, w'.cell? p = some v) ∧ w'.frozen? p = false)
    (h : ∀ w', Ext w w' → R w' (w'.setCell p u) ∧ wpAnyR Tryz.prog md l.toArray R (calm Q) fuel (listed.setIfInBounds i true) (a.put oi.dst undef) (w'.setCell p u)) :
    wpAnyR Tryz.prog md l.toArray R (calm Q) (fuel + 1) listed a w :=
  regR_one i hi hr hw fun w' hw' => by
    obtain ⟨⟨v, hv⟩, hf⟩ := hc w' hw'
    unfold Oper.wp execOp
    simp only [ho, hx, hy, Sem.run_bind, run_storeAt_one hz hu h1 hv hf, Result.andThen_ok]
    exact h w' hw'
theorem keeps_set {q b j : Nat} {u : Value} {w : World} (h : q ≠ b) : Keeps q w (w.setCell ⟨b, j, none⟩ u) := Keeps.same (same_set w b j u) h

end Go.Proofs.YtjodmedgkmeklaaGreat
