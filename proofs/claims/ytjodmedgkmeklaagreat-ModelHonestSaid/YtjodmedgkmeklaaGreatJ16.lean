/-
  Texts merged: Q13, Q14.
-/
import Derived.Test.YtjodmedgkmeklaaGreatJ15
import Derived.Test.YtjodmedgkmeklaaGreatJ09
/-
  What a side hears, behind the first message.
-/
namespace Go.Proofs.YtjodmedgkmeklaaGreat
open Go Go.RowKit Go.Maps


attribute [local go_sem] extUpon run_store_tm
attribute [local go_sem ↓] Tm.val_cell eval_put_ne eval_put_none eval_put_same size_put eval_const
attribute [local go_sem ↓] meth_Atom meth_Public meth_Shared meth_Chain meth_Digest meth_Box meth_Empty
attribute [local go_sem ↓] run_build_chain run_build_digest run_build_box
attribute [local go_sem] ta_Atom_Atom ta_Public_Atom ta_Shared_Atom ta_Chain_Atom ta_Digest_Atom ta_Box_Atom ta_Empty_Atom ta_Nil_Atom ta_Atom_Public ta_Public_Public ta_Shared_Public ta_Chain_Public ta_Digest_Public ta_Box_Public ta_Empty_Public ta_Nil_Public ta_Atom_Shared ta_Public_Shared ta_Shared_Shared ta_Chain_Shared ta_Digest_Shared ta_Box_Shared ta_Empty_Shared ta_Nil_Shared ta_Atom_Chain ta_Public_Chain ta_Shared_Chain ta_Chain_Chain ta_Digest_Chain ta_Box_Chain ta_Empty_Chain ta_Nil_Chain ta_Atom_Digest ta_Public_Digest ta_Shared_Digest ta_Chain_Digest ta_Digest_Digest ta_Box_Digest ta_Empty_Digest ta_Nil_Digest ta_Atom_Box ta_Public_Box ta_Shared_Box ta_Chain_Box ta_Digest_Box ta_Box_Box ta_Empty_Box ta_Nil_Box ta_Atom_Empty ta_Public_Empty ta_Shared_Empty ta_Chain_Empty ta_Digest_Empty ta_Box_Empty ta_Empty_Empty ta_Nil_Empty
variable {w w2 W W2 : World} {b g cap : Nat} {s : Sd} {vs va v : Value} {l : List Tm} {f : Int → List UInt8}

set_option maxHeartbeats 8000000 in
set_option maxRecDepth 100000 in
theorem hears2_any (hg : Gh 3 4000 s) (hI : ∀ W, Same w W (OnlyB b) → Itoa W Small f) (h : SdAt w b s vs va) {a c : Tm} (hr : Heard w b g cap [a, c]) (hst : s.step = 2) (hth : s.theirs.all Small) :
    Calls Tryz.prog 56 #[ptr b, .slice (some ⟨g, 0, none⟩) 2 cap] w fun e w' => e = .returned (.bool (s.hears f [a, c]).isSome) ∧ (∀ s2, s.hears f [a, c] = some s2 → SdAt w' b s2 vs va) ∧ Same w w' (OnlyB b) := by
  obtain ⟨l, hl⟩ : ∃ l, l = [a, c] := ⟨_, rfl⟩
  rw [← hl]
  have HTB := hid (hr.terms a (by simp))
  have HTC := hid (hr.terms c (by simp))
  obtain ⟨au, ad, hav⟩ := Va.of HTB.out.ne
  obtain ⟨cu, cd, hcv⟩ := Va.of HTC.out.ne
  have c0 : w.cell? ⟨g, 0, none⟩ = some (.iface au ad) := hav.eq ▸ hr.row 0 a rfl
  have c3 : w.cell? ⟨b, 3, none⟩ = some (.int .i64 2) := by rw [← hst]; exact h.cell rfl
  have HR := hid hr
  have HI := hid hI
  have HP := hid h
  have HS := hid (Same.refl w (OnlyB b))
  have HG := hid hg
  have HBV := hid hav
  have HCV := hid hcv
  have HTH := hid hth
  have HJ : Hid ([a, c][1]? = some c) := hid rfl
  have HST := hid hst
  have HST5 : Hid (∀ (s4 : Sd) (p : Int), s4.step = 2 → ({ s4 with peer := .pub p, peerN := p } : Sd).se.step = 2) := hid (fun s4 p h => by rw [step_se]; exact h)
  have HEB : Hid (s.hears f l = s.body f a c) := hid (by rw [hl]; unfold Sd.hears; rw [if_neg (by omega), if_neg (by omega)])
  have hca := hr.cap
  simp only [List.length_cons, List.length_nil] at hca
  have hc1 : 1 < cap := by omega
  clear hr hI h hg hav hcv hst hth hl
  go_enter Tryz.func56, Tryz.ntmps56
  have hob := open_any (s := s) (f := f) a HTB.out.ne (HI.out _ HS.out) HTB.out.all HTB.out.parts (by have := HTB.out.sz; omega) HG.out.hall (by have := HG.out.hsz; omega) HG.out.kall (by have := HG.out.ksz; omega) HG.out.gd.hash HG.out.gd.n0 (by have := HG.out.gd.n; omega) HP.out
  rw [HBV.out.eq] at hob
  cases hrb : Sd.opens f (s) a with
  | none =>
    rw [hrb] at hob
    simp only [opened] at hob
    have HRES : Hid (s.hears f l = none) := hid (HEB.out.trans (body_none hrb))
    have HOP := hid hob
    clear hob hrb
    go_wp2_with fail
    refine HOP.out.mono ?_
    rintro e wo ⟨rfl, h1, h2⟩
    replace HS := hid (HS.out.trans h2)
    clear h1 h2
    go_wp2_with fail
    go_ret
    exact ⟨by rw [HRES.out]; rfl, fun s2 h => (by rw [HRES.out] at h; cases h), HS.out⟩
  | some p =>
    obtain ⟨s4, x4⟩ := p
    rw [hrb] at hob
    simp only [opened] at hob
    obtain ⟨g4, ne4, all4, sz4, st4, th4, pe4⟩ := opens_some HG.out HTB.out (by omega) hrb
    have HST4 : Hid (s4.step = 2) := hid (st4.trans HST.out)
    have HTH4 : Hid (s4.theirs.all Small) := hid (th4 ▸ HTH.out)
    have HG4 := hid g4
    have HAL4 := hid all4
    have HEB2 : Hid (s.hears f l = Sd.body2 f s4 x4 c) := hid (HEB.out.trans (body_some hrb))
    have HOP := hid hob
    clear hob hrb g4 all4 st4 th4 pe4 sz4
    cases x4 with
    | pub p =>
      simp only [Sd.body2] at HEB2
      rw [if_neg (by have := HST4.out; omega)] at HEB2
      unfold Tm.val at HOP
      go_wp2_with fail
      refine HOP.out.mono ?_
      rintro e wo ⟨rfl, h1, h2⟩
      have hs2 := HS.out.trans h2
      clear HP HS h2
      have HP := hid h1
      have HS := hid hs2
      clear h1 hs2 HOP c0 c3
      have hal := Ext.alloc wo (.cells #[.int .i64 p] 82 (0, 0))
      have hbk := blk_new wo (.cells #[.int .i64 p] 82 (0, 0))
      have HQB : Hid (wo.heap.size ≠ b) := hid (by have := HP.out.lt; omega)
      have HP4 := hid HP.out
      have HS4 := hid HS.out
      clear HP HS
      have HP := hid (HP4.out.later hal)
      have HS := hid (HS4.out.trans (Same.of_ext hal))
      have HBK := hid hbk
      clear HP4 HS4 hal hbk
      go_wp2_with fail
      generalize World.alloc wo _ = W5 at *
      generalize wo.heap.size = q at *
      refine regR_begin (Keeps q) (by kernel_rfl) ?_
      refine regR_hide (fun Q2 HQ => ?_)
      generalize hW : World.drew _ = W6
      have hEW : Ext W5 W6 := by rw [← hW]; exact Ext.drew _
      have HP5 := hid (HP.out.later hEW)
      have HS5 := hid (HS.out.trans (Same.of_ext hEW))
      have HBK6 := hid (hEW.blk HBK.out)
      clear HP HS HBK hW hEW
      have HP := hid HP5.out
      have HS := hid HS5.out
      clear HP5 HS5
      refine regR_quiet (Keeps.ok _) 0 rfl (by kernel_rfl) (by kernel_rfl) ?_
      apply Exists.intro
      refine ⟨fun w' hw' => ?_, ?_⟩
      · go_simp
        exact ⟨rfl, Ext.refl _⟩
      refine regR_quiet (Keeps.ok _) 1 rfl (by kernel_rfl) (by kernel_rfl) ?_
      apply Exists.intro
      refine ⟨fun w' hw' => ?_, ?_⟩
      · go_simp
        exact ⟨rfl, Ext.refl _⟩
      refine regR_quiet (Keeps.ok _) 2 rfl (by kernel_rfl) (by kernel_rfl) ?_
      apply Exists.intro
      refine ⟨fun w' hw' => ?_, ?_⟩
      · go_simp
        exact ⟨rfl, Ext.refl _⟩
      refine regR_quiet (Keeps.ok _) 3 rfl (by kernel_rfl) (by kernel_rfl) ?_
      apply Exists.intro
      refine ⟨fun w' hw' => ?_, ?_⟩
      · go_simp
        exact ⟨rfl, Ext.refl _⟩
      refine regR_quiet (Keeps.ok _) 4 rfl (by kernel_rfl) (by kernel_rfl) ?_
      apply Exists.intro
      refine ⟨fun w' hw' => ?_, ?_⟩
      · have q0 : w'.cell? ⟨q, 0, none⟩ = some (.int .i64 p) := cell_blk (hw'.blk HBK6.out) rfl
        go_simp
        exact ⟨rfl, Ext.refl _⟩
      refine regR_quiet (Keeps.ok _) 5 rfl (by kernel_rfl) (by kernel_rfl) ?_
      apply Exists.intro
      refine ⟨fun w' hw' => ?_, ?_⟩
      · go_simp
        exact ⟨rfl, Ext.refl _⟩
      refine regR_quiet (Keeps.ok _) 6 rfl (by kernel_rfl) (by kernel_rfl) ?_
      apply Exists.intro
      refine ⟨fun w' hw' => ?_, ?_⟩
      · go_simp
        exact ⟨rfl, Ext.refl _⟩
      refine regR_store 7 ⟨b, 14, none⟩ (.iface 82 (.agg #[.int .i64 p])) rfl (by kernel_rfl) (by kernel_rfl) rfl (by go_simp) (by go_simp) (by kernel_rfl) rfl rfl (fun w' hw' => ?_) (fun w' hw' => ?_)
      · exact ⟨⟨_, (HP.out.later hw').cell rfl⟩, (HP.out.later hw').free 14⟩
      refine ⟨keeps_set HQB.out, ?_⟩
      have hp1 := (HP.out.later hw').put (s2 := { s4 with peer := .pub p }) (vs2 := vs) (va2 := va) 14 (.iface 82 (.agg #[.int .i64 p])) (by simp [Sd.cells, Tm.val])
      have hp2 := (HS.out.trans (Same.of_ext hw')).trans (same_set w' b 14 (.iface 82 (.agg #[.int .i64 p])))
      clear HP HS
      have HP := hid hp1
      have HS := hid hp2
      clear hp1 hp2 hw'
      generalize World.setCell w' _ _ = W3 at *
      clear w'
      refine regR_quiet (Keeps.ok _) 8 rfl (by kernel_rfl) (by kernel_rfl) ?_
      apply Exists.intro
      refine ⟨fun w' hw' => ?_, ?_⟩
      · go_simp
        exact ⟨rfl, Ext.refl _⟩
      refine regR_quiet (Keeps.ok _) 9 rfl (by kernel_rfl) (by kernel_rfl) ?_
      apply Exists.intro
      refine ⟨fun w' hw' => ?_, ?_⟩
      · go_simp
        exact ⟨rfl, Ext.refl _⟩
      refine regR_quiet (Keeps.ok _) 10 rfl (by kernel_rfl) (by kernel_rfl) ?_
      apply Exists.intro
      refine ⟨fun w' hw' => ?_, ?_⟩
      · go_simp
        exact ⟨rfl, Ext.refl _⟩
      refine regR_store 11 ⟨b, 5, none⟩ (.int .i64 p) rfl (by kernel_rfl) (by kernel_rfl) rfl (by go_simp) (by go_simp) (by kernel_rfl) rfl rfl (fun w' hw' => ?_) (fun w' hw' => ?_)
      · exact ⟨⟨_, (HP.out.later hw').cell rfl⟩, (HP.out.later hw').free 5⟩
      refine ⟨keeps_set HQB.out, ?_⟩
      have hp1 := (HP.out.later hw').put (s2 := { s4 with peer := .pub p, peerN := p }) (vs2 := vs) (va2 := va) 5 (.int .i64 p) (by simp [Sd.cells, Tm.val])
      have hp2 := (HS.out.trans (Same.of_ext hw')).trans (same_set w' b 5 (.int .i64 p))
      clear HP HS
      have HP := hid hp1
      have HS := hid hp2
      clear hp1 hp2 hw'
      generalize World.setCell w' _ _ = W3 at *
      clear w'
      refine regR_done (by kernel_rfl) (fun W7 hw7 => ?_) _
      have hp7 := HP.out.later hw7
      have hs7 := HS.out.trans (Same.of_ext hw7)
      clear HP HS hw7 HBK6 HQB
      have HP := hid hp7
      have HS := hid hs7
      clear hp7 hs7
      go_simp
      rw [HQ.out]
      clear HQ Q2
      have c3 : W7.cell? ⟨b, 3, none⟩ = some (.int .i64 2) := by rw [← HST4.out]; exact HP.out.cell rfl
      have c0 : W7.cell? ⟨g, 1, none⟩ = some (.iface cu cd) := HCV.out.eq ▸ HR.out.at HS.out HJ.out
      have HG5 : Hid (Gh 4 8000 ({ s4 with peer := .pub p, peerN := p } : Sd)) := hid (by
        have h5 := HG4.out
        exact ⟨⟨h5.gd.hash, h5.gd.chain, h5.gd.n0, by have := h5.gd.n; show s4.n ≤ 4; omega⟩, h5.hall, by have := h5.hsz; show sz s4.hash ≤ 8000; omega, h5.call, by have := h5.csz; show sz s4.chain ≤ 8000; omega, h5.kall, by have := h5.ksz; show sz s4.key ≤ 8000; omega, h5.st, h5.fr⟩)
      go_wp2_with fail
      refine (se_any (s := ({ s4 with peer := .pub p, peerN := p } : Sd)) HG5.out.gd.chain HP.out).mono ?_
      rintro e w8 ⟨⟨x, rfl⟩, h1, h2⟩
      have hs8 := HS.out.trans h2
      clear HP HS h2 c0 c3 HG
      have HP := hid h1
      have HS := hid hs8
      have HG : Hid (Gh 4 8002 _) := hid (Gh.se (s := ({ s4 with peer := .pub p, peerN := p } : Sd)) (by omega : (0 : Int) ≤ 4) HG5.out HTH4.out HAL4.out)
      clear h1 hs8
      have c0 : w8.cell? ⟨g, 1, none⟩ = some (.iface cu cd) := HCV.out.eq ▸ HR.out.at HS.out HJ.out
      have HEQ := hid HEB2.out
      have HST := hid (HST5.out s4 p HST4.out)
      have hop := open_any (s := ({ s4 with peer := .pub p, peerN := p } : Sd).se) (f := f) c HTC.out.ne (HI.out _ HS.out) HTC.out.all HTC.out.parts (by have := HTC.out.sz; omega) HG.out.hall (by have := HG.out.hsz; omega) HG.out.kall (by have := HG.out.ksz; omega) HG.out.gd.hash HG.out.gd.n0 (by have := HG.out.gd.n; omega) HP.out
      rw [HCV.out.eq] at hop
      cases hr : Sd.opens f (({ s4 with peer := .pub p, peerN := p } : Sd).se) c with
      | none =>
        rw [hr] at hop
        simp only [opened] at hop
        have HRES : Hid (s.hears f l = none) := hid (by rw [HEQ.out]; unfold Sd.close; rw [hr])
        have HOP := hid hop
        clear hop hr
        go_wp2_with fail
        refine HOP.out.mono ?_
        rintro e wo ⟨rfl, h1, h2⟩
        replace HS := hid (HS.out.trans h2)
        clear h1 h2
        go_wp2_with fail
        go_ret
        exact ⟨by rw [HRES.out]; rfl, fun s2 h => (by rw [HRES.out] at h; cases h), HS.out⟩
      | some p =>
        obtain ⟨s5, x5⟩ := p
        rw [hr] at hop
        simp only [opened] at hop
        obtain ⟨g5, ne5, all5, sz5, st5, _, _⟩ := opens_some HG.out HTC.out (by omega) hr
        obtain ⟨xu, xd, hxv⟩ := Va.of ne5
        rw [hxv.eq] at hop
        have HSA : Hid (∀ W, Same w W (OnlyB b) → Calls Tryz.prog 15 #[.iface xu xd, .iface 80 (.agg #[])] W fun e w' => e = .returned (.bool (decide (nm f x5 = nm f .empty))) ∧ Ext W w') := hid (fun W hW => by
          have := same_any (R := Small) (f := f) x5 .empty W (HI.out W hW) all5 trivial (by omega) (by simp [sz])
          rwa [hxv.eq] at this)
        have HOP := hid hop
        have HG5 := hid g5
        have HST5 : Hid (s5.step = 2) := hid (st5.trans HST.out)
        have hc5 : Sd.close f (({ s4 with peer := .pub p, peerN := p } : Sd).se) c = if nm f x5 = nm f .empty then some s5.next else none := by unfold Sd.close; rw [hr]
        have HC5 := hid hc5
        clear hop g5 hc5 hr st5 sz5 all5 ne5 hxv
        go_wp2_with fail
        refine HOP.out.mono ?_
        rintro e wo ⟨rfl, h1, h2⟩
        have hs2 := HS.out.trans h2
        clear HP HS h2
        have HP := hid h1
        have HS := hid hs2
        clear h1 hs2 HOP
        go_wp2_with fail
        refine (HSA.out wo HS.out).mono ?_
        rintro e wp ⟨rfl, hE⟩
        have hp2 := HP.out.later hE
        have hs2 := HS.out.trans (Same.of_ext hE)
        clear HP HS hE
        have HP := hid hp2
        have HS := hid hs2
        clear hp2 hs2
        by_cases hx : nm f x5 = nm f .empty
        · have HRES : Hid (s.hears f l = some s5.next) := hid (by rw [HEQ.out, HC5.out, if_pos hx])
          rw [decide_eq_true hx]
          clear hx
          go_wp2_with fail
          refine (next_any HG5.out.gd.hash (by rw [HST5.out]; omega) (by rw [HST5.out]; omega) HP.out).mono ?_
          rintro e wn ⟨⟨x, rfl⟩, h1, h2⟩
          have HPN := hid h1
          have HSN := hid (HS.out.trans h2)
          clear h1 h2
          go_wp2_with fail
          go_ret
          exact ⟨by rw [HRES.out]; rfl, fun s2 h => (by rw [HRES.out] at h; cases h; exact HPN.out), HSN.out⟩
        · have HRES : Hid (s.hears f l = none) := hid (by rw [HEQ.out, HC5.out, if_neg hx])
          rw [decide_eq_false hx]
          clear hx
          go_wp2_with fail
          go_ret
          exact ⟨by rw [HRES.out]; rfl, fun s2 h => (by rw [HRES.out] at h; cases h), HS.out⟩
    | _ =>
      have HRES : Hid (s.hears f l = none) := hid HEB2.out
      unfold Tm.val at HOP
      go_wp2_with fail
      refine HOP.out.mono ?_
      rintro e wo ⟨rfl, h1, h2⟩
      replace HS := hid (HS.out.trans h2)
      clear h1 h2 HOP c0 c3
      go_wp2_with fail
      go_ret
      exact ⟨by rw [HRES.out]; rfl, fun s2 h => (by rw [HRES.out] at h; cases h), HS.out.trans (Same.of_ext (Ext.alloc _ _))⟩

set_option maxHeartbeats 8000000 in
set_option maxRecDepth 100000 in
theorem hears1_any (hg : Gh 3 4000 s) (hI : ∀ W, Same w W (OnlyB b) → Itoa W Small f) (h : SdAt w b s vs va) {a0 a c : Tm} (hr : Heard w b g cap [a0, a, c]) (hst : s.step = 1) :
    Calls Tryz.prog 56 #[ptr b, .slice (some ⟨g, 0, none⟩) 3 cap] w fun e w' => e = .returned (.bool (s.hears f [a0, a, c]).isSome) ∧ (∀ s2, s.hears f [a0, a, c] = some s2 → SdAt w' b s2 vs va) ∧ Same w w' (OnlyB b) := by
  obtain ⟨l, hl⟩ : ∃ l, l = [a0, a, c] := ⟨_, rfl⟩
  rw [← hl]
  have hta := hr.terms a0 (by simp)
  have HTB := hid (hr.terms a (by simp))
  have HTC := hid (hr.terms c (by simp))
  obtain ⟨zu, zd, hzv⟩ := Va.of hta.ne
  obtain ⟨au, ad, hav⟩ := Va.of HTB.out.ne
  obtain ⟨cu, cd, hcv⟩ := Va.of HTC.out.ne
  have c0 : w.cell? ⟨g, 0, none⟩ = some (.iface zu zd) := hzv.eq ▸ hr.row 0 a0 rfl
  have c3 : w.cell? ⟨b, 3, none⟩ = some (.int .i64 1) := by rw [← hst]; exact h.cell rfl
  have HR := hid hr
  have HI := hid hI
  have HSD := hid h
  have HGS := hid hg
  have HZV := hid hzv
  have HBV := hid hav
  have HCV := hid hcv
  have HS0 := hid hst
  have HL := hid hl
  have hh := half_any a0 w
  rw [hzv.eq] at hh
  have HH := hid hh
  have HJ : Hid ([a0, a, c][2]? = some c) := hid rfl
  have hca := hr.cap
  simp only [List.length_cons, List.length_nil] at hca
  have hc1 : 1 < cap := by omega
  have hc2 : 1 < cap - 1 := by omega
  have hc3 : 2 ≤ cap - 1 := by omega
  clear hr hI h hg hzv hav hcv hst hl hh hta
  go_enter Tryz.func56, Tryz.ntmps56
  go_wp2_with fail
  refine HH.out.mono ?_
  rintro e w1 ⟨rfl, hE1⟩
  have hp1 := HSD.out.later hE1
  have hs1 := Same.of_ext (p := OnlyB b) hE1
  have c0b := hE1.cell c0
  have c3b := hE1.cell c3
  have f13 := hp1.free 13
  have HP := hid hp1
  have HS := hid hs1
  clear hE1 hp1 hs1 c0 c3 HH
  cases hpb : a0.isPub
  · have HRES : Hid (s.hears f l = none) := hid (by rw [HL.out]; unfold Sd.hears; rw [if_neg (by have := HS0.out; omega), if_pos HS0.out]; cases a0 <;> first | rfl | cases hpb)
    go_wp2_with fail
    go_ret
    exact ⟨by rw [HRES.out]; rfl, fun s2 h => (by rw [HRES.out] at h; cases h), HS.out⟩
  · obtain ⟨p, rfl⟩ : ∃ p, a0 = .pub p := by cases a0 <;> first | exact ⟨_, rfl⟩ | cases hpb
    have hav2 : zu = 82 ∧ zd = .agg #[.int .i64 p] := by have := HZV.out.eq; simp only [Tm.val, Value.iface.injEq] at this; exact ⟨this.1.symm, this.2.symm⟩
    obtain ⟨rfl, rfl⟩ := hav2
    clear hpb
    obtain ⟨m, hm⟩ : ∃ m, s.theirs.val = m := ⟨_, rfl⟩
    have c13 : w1.cell? ⟨b, 13, none⟩ = some m := hm ▸ HP.out.cell rfl
    have hst2 := HP.out.sets (s2 := { s with theirs := .pub p }) (vs2 := vs) (va2 := va) 13 (.iface 82 (.agg #[.int .i64 p])) (by simp [Sd.cells, Tm.val])
    have HST2 := hid hst2
    clear hst2 hm
    go_upto_region 5 with fail
    generalize World.setCell w1 _ _ = W3 at *
    have hs3 := HS.out.trans HST2.out.2
    clear HP HS c0b c3b f13 c13
    have HP := hid HST2.out.1
    have HS := hid hs3
    clear hs3 HST2
    have c0 : W3.cell? ⟨g, 0, none⟩ = some (.iface 82 (.agg #[.int .i64 p])) := HR.out.at HS.out (t := .pub p) rfl
    have HM := hid (mixHash_any (s := ({ s with theirs := .pub p } : Sd)) (t := .pub p) (u := 82) (d := .agg #[.int .i64 p]) ⟨rfl⟩ HGS.out.gd.hash HP.out)
    have HAP := hid (HR.out.terms (.pub p) (by simp)).all
    go_wp2_with fail
    refine HM.out.mono ?_
    rintro e w4 ⟨⟨x, rfl⟩, h1, h2⟩
    have hs4 := HS.out.trans h2
    clear HP HS h2 c0 HM
    have HP := hid h1
    have HS := hid hs4
    clear h1 hs4
    have c3 : w4.cell? ⟨b, 3, none⟩ = some (.int .i64 1) := by rw [← HS0.out]; exact HP.out.cell rfl
    have HG2 : Hid (Gh 3 4002 (({ s with theirs := .pub p } : Sd).mix (.pub p))) := hid (by
      have h5 : Gh 3 4000 ({ s with theirs := .pub p } : Sd) := ⟨⟨HGS.out.gd.hash, HGS.out.gd.chain, HGS.out.gd.n0, HGS.out.gd.n⟩, HGS.out.hall, HGS.out.hsz, HGS.out.call, HGS.out.csz, HGS.out.kall, HGS.out.ksz, HGS.out.st, HGS.out.fr⟩
      have := h5.mix (t := .pub p) (c := 1) HAP.out (by simp [sz]) (by omega)
      exact this.mono (by omega) (by omega))
    go_wp2_with fail
    refine (ee_any (s := (({ s with theirs := .pub p } : Sd).mix (.pub p))) HG2.out.gd.chain HP.out).mono ?_
    rintro e w5 ⟨⟨x, rfl⟩, h1, h2⟩
    have hs5 := HS.out.trans h2
    clear HP HS h2 c3
    have HP := hid h1
    have HS := hid hs5
    clear h1 hs5
    have HG : Hid (Gh 3 4004 (({ s with theirs := .pub p } : Sd).mix (.pub p)).ee) := hid (Gh.ee (by omega) HG2.out HAP.out)
    have HST : Hid ((({ s with theirs := .pub p } : Sd).mix (.pub p)).ee.step = 1) := hid (by rw [step_ee]; exact HS0.out)
    have HTH : Hid ((({ s with theirs := .pub p } : Sd).mix (.pub p)).ee.theirs.all Small) := hid (by unfold Sd.ee; rw [(theirs_dh _ _).1]; exact HAP.out)
    have HST5 : Hid (∀ (s4 : Sd) (p : Int), s4.step = 1 → ({ s4 with peer := .pub p, peerN := p } : Sd).es.step = 1) := hid (fun s4 p h => by rw [step_es]; exact h)
    have HEB : Hid (s.hears f l = (({ s with theirs := .pub p } : Sd).mix (.pub p)).ee.body f a c) := hid (by rw [HL.out]; unfold Sd.hears; rw [if_neg (by have := HS0.out; omega), if_pos HS0.out])
    have c0 : w5.cell? ⟨g, 1, none⟩ = some (.iface au ad) := HBV.out.eq ▸ HR.out.at HS.out (i := 1) (t := a) rfl
    have c3 : w5.cell? ⟨b, 3, none⟩ = some (.int .i64 1) := by rw [← HST.out]; exact HP.out.cell rfl
    clear HG2 HAP
    have hob := open_any (s := (({ s with theirs := .pub p } : Sd).mix (.pub p)).ee) (f := f) a HTB.out.ne (HI.out _ HS.out) HTB.out.all HTB.out.parts (by have := HTB.out.sz; omega) HG.out.hall (by have := HG.out.hsz; omega) HG.out.kall (by have := HG.out.ksz; omega) HG.out.gd.hash HG.out.gd.n0 (by have := HG.out.gd.n; omega) HP.out
    rw [HBV.out.eq] at hob
    cases hrb : Sd.opens f ((({ s with theirs := .pub p } : Sd).mix (.pub p)).ee) a with
    | none =>
      rw [hrb] at hob
      simp only [opened] at hob
      have HRES : Hid (s.hears f l = none) := hid (HEB.out.trans (body_none hrb))
      have HOP := hid hob
      clear hob hrb
      go_wp2_with fail
      refine HOP.out.mono ?_
      rintro e wo ⟨rfl, h1, h2⟩
      replace HS := hid (HS.out.trans h2)
      clear h1 h2
      go_wp2_with fail
      go_ret
      exact ⟨by rw [HRES.out]; rfl, fun s2 h => (by rw [HRES.out] at h; cases h), HS.out⟩
    | some p =>
      obtain ⟨s4, x4⟩ := p
      rw [hrb] at hob
      simp only [opened] at hob
      obtain ⟨g4, ne4, all4, sz4, st4, th4, pe4⟩ := opens_some HG.out HTB.out (by omega) hrb
      have HST4 : Hid (s4.step = 1) := hid (st4.trans HST.out)
      have HTH4 : Hid (s4.theirs.all Small) := hid (th4 ▸ HTH.out)
      have HG4 := hid g4
      have HAL4 := hid all4
      have HEB2 : Hid (s.hears f l = Sd.body2 f s4 x4 c) := hid (HEB.out.trans (body_some hrb))
      have HOP := hid hob
      clear hob hrb g4 all4 st4 th4 pe4 sz4
      cases x4 with
      | pub p =>
        simp only [Sd.body2] at HEB2
        rw [if_pos HST4.out] at HEB2
        unfold Tm.val at HOP
        go_wp2_with fail
        refine HOP.out.mono ?_
        rintro e wo ⟨rfl, h1, h2⟩
        have hs2 := HS.out.trans h2
        clear HP HS h2
        have HP := hid h1
        have HS := hid hs2
        clear h1 hs2 HOP c0 c3
        have hal := Ext.alloc wo (.cells #[.int .i64 p] 82 (0, 0))
        have hbk := blk_new wo (.cells #[.int .i64 p] 82 (0, 0))
        have HQB : Hid (wo.heap.size ≠ b) := hid (by have := HP.out.lt; omega)
        have HP4 := hid HP.out
        have HS4 := hid HS.out
        clear HP HS
        have HP := hid (HP4.out.later hal)
        have HS := hid (HS4.out.trans (Same.of_ext hal))
        have HBK := hid hbk
        clear HP4 HS4 hal hbk
        go_wp2_with fail
        generalize World.alloc wo _ = W5 at *
        generalize wo.heap.size = q at *
        refine regR_begin (Keeps q) (by kernel_rfl) ?_
        refine regR_hide (fun Q2 HQ => ?_)
        generalize hW : World.drew _ = W6
        have hEW : Ext W5 W6 := by rw [← hW]; exact Ext.drew _
        have HP5 := hid (HP.out.later hEW)
        have HS5 := hid (HS.out.trans (Same.of_ext hEW))
        have HBK6 := hid (hEW.blk HBK.out)
        clear HP HS HBK hW hEW
        have HP := hid HP5.out
        have HS := hid HS5.out
        clear HP5 HS5
        refine regR_quiet (Keeps.ok _) 0 rfl (by kernel_rfl) (by kernel_rfl) ?_
        apply Exists.intro
        refine ⟨fun w' hw' => ?_, ?_⟩
        · go_simp
          exact ⟨rfl, Ext.refl _⟩
        refine regR_quiet (Keeps.ok _) 1 rfl (by kernel_rfl) (by kernel_rfl) ?_
        apply Exists.intro
        refine ⟨fun w' hw' => ?_, ?_⟩
        · go_simp
          exact ⟨rfl, Ext.refl _⟩
        refine regR_quiet (Keeps.ok _) 2 rfl (by kernel_rfl) (by kernel_rfl) ?_
        apply Exists.intro
        refine ⟨fun w' hw' => ?_, ?_⟩
        · go_simp
          exact ⟨rfl, Ext.refl _⟩
        refine regR_quiet (Keeps.ok _) 3 rfl (by kernel_rfl) (by kernel_rfl) ?_
        apply Exists.intro
        refine ⟨fun w' hw' => ?_, ?_⟩
        · go_simp
          exact ⟨rfl, Ext.refl _⟩
        refine regR_quiet (Keeps.ok _) 4 rfl (by kernel_rfl) (by kernel_rfl) ?_
        apply Exists.intro
        refine ⟨fun w' hw' => ?_, ?_⟩
        · have q0 : w'.cell? ⟨q, 0, none⟩ = some (.int .i64 p) := cell_blk (hw'.blk HBK6.out) rfl
          go_simp
          exact ⟨rfl, Ext.refl _⟩
        refine regR_quiet (Keeps.ok _) 5 rfl (by kernel_rfl) (by kernel_rfl) ?_
        apply Exists.intro
        refine ⟨fun w' hw' => ?_, ?_⟩
        · go_simp
          exact ⟨rfl, Ext.refl _⟩
        refine regR_quiet (Keeps.ok _) 6 rfl (by kernel_rfl) (by kernel_rfl) ?_
        apply Exists.intro
        refine ⟨fun w' hw' => ?_, ?_⟩
        · go_simp
          exact ⟨rfl, Ext.refl _⟩
        refine regR_store 7 ⟨b, 14, none⟩ (.iface 82 (.agg #[.int .i64 p])) rfl (by kernel_rfl) (by kernel_rfl) rfl (by go_simp) (by go_simp) (by kernel_rfl) rfl rfl (fun w' hw' => ?_) (fun w' hw' => ?_)
        · exact ⟨⟨_, (HP.out.later hw').cell rfl⟩, (HP.out.later hw').free 14⟩
        refine ⟨keeps_set HQB.out, ?_⟩
        have hp1 := (HP.out.later hw').put (s2 := { s4 with peer := .pub p }) (vs2 := vs) (va2 := va) 14 (.iface 82 (.agg #[.int .i64 p])) (by simp [Sd.cells, Tm.val])
        have hp2 := (HS.out.trans (Same.of_ext hw')).trans (same_set w' b 14 (.iface 82 (.agg #[.int .i64 p])))
        clear HP HS
        have HP := hid hp1
        have HS := hid hp2
        clear hp1 hp2 hw'
        generalize World.setCell w' _ _ = W3 at *
        clear w'
        refine regR_quiet (Keeps.ok _) 8 rfl (by kernel_rfl) (by kernel_rfl) ?_
        apply Exists.intro
        refine ⟨fun w' hw' => ?_, ?_⟩
        · go_simp
          exact ⟨rfl, Ext.refl _⟩
        refine regR_quiet (Keeps.ok _) 9 rfl (by kernel_rfl) (by kernel_rfl) ?_
        apply Exists.intro
        refine ⟨fun w' hw' => ?_, ?_⟩
        · go_simp
          exact ⟨rfl, Ext.refl _⟩
        refine regR_quiet (Keeps.ok _) 10 rfl (by kernel_rfl) (by kernel_rfl) ?_
        apply Exists.intro
        refine ⟨fun w' hw' => ?_, ?_⟩
        · go_simp
          exact ⟨rfl, Ext.refl _⟩
        refine regR_store 11 ⟨b, 5, none⟩ (.int .i64 p) rfl (by kernel_rfl) (by kernel_rfl) rfl (by go_simp) (by go_simp) (by kernel_rfl) rfl rfl (fun w' hw' => ?_) (fun w' hw' => ?_)
        · exact ⟨⟨_, (HP.out.later hw').cell rfl⟩, (HP.out.later hw').free 5⟩
        refine ⟨keeps_set HQB.out, ?_⟩
        have hp1 := (HP.out.later hw').put (s2 := { s4 with peer := .pub p, peerN := p }) (vs2 := vs) (va2 := va) 5 (.int .i64 p) (by simp [Sd.cells, Tm.val])
        have hp2 := (HS.out.trans (Same.of_ext hw')).trans (same_set w' b 5 (.int .i64 p))
        clear HP HS
        have HP := hid hp1
        have HS := hid hp2
        clear hp1 hp2 hw'
        generalize World.setCell w' _ _ = W3 at *
        clear w'
        refine regR_done (by kernel_rfl) (fun W7 hw7 => ?_) _
        have hp7 := HP.out.later hw7
        have hs7 := HS.out.trans (Same.of_ext hw7)
        clear HP HS hw7 HBK6 HQB
        have HP := hid hp7
        have HS := hid hs7
        clear hp7 hs7
        go_simp
        rw [HQ.out]
        clear HQ Q2
        have c3 : W7.cell? ⟨b, 3, none⟩ = some (.int .i64 1) := by rw [← HST4.out]; exact HP.out.cell rfl
        have c0 : W7.cell? ⟨g, 2, none⟩ = some (.iface cu cd) := HCV.out.eq ▸ HR.out.at HS.out HJ.out
        have HG5 : Hid (Gh 4 8000 ({ s4 with peer := .pub p, peerN := p } : Sd)) := hid (by
          have h5 := HG4.out
          exact ⟨⟨h5.gd.hash, h5.gd.chain, h5.gd.n0, by have := h5.gd.n; show s4.n ≤ 4; omega⟩, h5.hall, by have := h5.hsz; show sz s4.hash ≤ 8000; omega, h5.call, by have := h5.csz; show sz s4.chain ≤ 8000; omega, h5.kall, by have := h5.ksz; show sz s4.key ≤ 8000; omega, h5.st, h5.fr⟩)
        go_wp2_with fail
        refine (es_any (s := ({ s4 with peer := .pub p, peerN := p } : Sd)) HG5.out.gd.chain HP.out).mono ?_
        rintro e w8 ⟨⟨x, rfl⟩, h1, h2⟩
        have hs8 := HS.out.trans h2
        clear HP HS h2 c0 c3 HG
        have HP := hid h1
        have HS := hid hs8
        have HG : Hid (Gh 4 8002 _) := hid (Gh.es (s := ({ s4 with peer := .pub p, peerN := p } : Sd)) (by omega : (0 : Int) ≤ 4) HG5.out HTH4.out HAL4.out)
        clear h1 hs8
        have c0 : w8.cell? ⟨g, 2, none⟩ = some (.iface cu cd) := HCV.out.eq ▸ HR.out.at HS.out HJ.out
        have HEQ := hid HEB2.out
        have HST := hid (HST5.out s4 p HST4.out)
        have hop := open_any (s := ({ s4 with peer := .pub p, peerN := p } : Sd).es) (f := f) c HTC.out.ne (HI.out _ HS.out) HTC.out.all HTC.out.parts (by have := HTC.out.sz; omega) HG.out.hall (by have := HG.out.hsz; omega) HG.out.kall (by have := HG.out.ksz; omega) HG.out.gd.hash HG.out.gd.n0 (by have := HG.out.gd.n; omega) HP.out
        rw [HCV.out.eq] at hop
        cases hr : Sd.opens f (({ s4 with peer := .pub p, peerN := p } : Sd).es) c with
        | none =>
          rw [hr] at hop
          simp only [opened] at hop
          have HRES : Hid (s.hears f l = none) := hid (by rw [HEQ.out]; unfold Sd.close; rw [hr])
          have HOP := hid hop
          clear hop hr
          go_wp2_with fail
          refine HOP.out.mono ?_
          rintro e wo ⟨rfl, h1, h2⟩
          replace HS := hid (HS.out.trans h2)
          clear h1 h2
          go_wp2_with fail
          go_ret
          exact ⟨by rw [HRES.out]; rfl, fun s2 h => (by rw [HRES.out] at h; cases h), HS.out⟩
        | some p =>
          obtain ⟨s5, x5⟩ := p
          rw [hr] at hop
          simp only [opened] at hop
          obtain ⟨g5, ne5, all5, sz5, st5, _, _⟩ := opens_some HG.out HTC.out (by omega) hr
          obtain ⟨xu, xd, hxv⟩ := Va.of ne5
          rw [hxv.eq] at hop
          have HSA : Hid (∀ W, Same w W (OnlyB b) → Calls Tryz.prog 15 #[.iface xu xd, .iface 80 (.agg #[])] W fun e w' => e = .returned (.bool (decide (nm f x5 = nm f .empty))) ∧ Ext W w') := hid (fun W hW => by
            have := same_any (R := Small) (f := f) x5 .empty W (HI.out W hW) all5 trivial (by omega) (by simp [sz])
            rwa [hxv.eq] at this)
          have HOP := hid hop
          have HG5 := hid g5
          have HST5 : Hid (s5.step = 1) := hid (st5.trans HST.out)
          have hc5 : Sd.close f (({ s4 with peer := .pub p, peerN := p } : Sd).es) c = if nm f x5 = nm f .empty then some s5.next else none := by unfold Sd.close; rw [hr]
          have HC5 := hid hc5
          clear hop g5 hc5 hr st5 sz5 all5 ne5 hxv
          go_wp2_with fail
          refine HOP.out.mono ?_
          rintro e wo ⟨rfl, h1, h2⟩
          have hs2 := HS.out.trans h2
          clear HP HS h2
          have HP := hid h1
          have HS := hid hs2
          clear h1 hs2 HOP
          go_wp2_with fail
          refine (HSA.out wo HS.out).mono ?_
          rintro e wp ⟨rfl, hE⟩
          have hp2 := HP.out.later hE
          have hs2 := HS.out.trans (Same.of_ext hE)
          clear HP HS hE
          have HP := hid hp2
          have HS := hid hs2
          clear hp2 hs2
          by_cases hx : nm f x5 = nm f .empty
          · have HRES : Hid (s.hears f l = some s5.next) := hid (by rw [HEQ.out, HC5.out, if_pos hx])
            rw [decide_eq_true hx]
            clear hx
            go_wp2_with fail
            refine (next_any HG5.out.gd.hash (by rw [HST5.out]; omega) (by rw [HST5.out]; omega) HP.out).mono ?_
            rintro e wn ⟨⟨x, rfl⟩, h1, h2⟩
            have HPN := hid h1
            have HSN := hid (HS.out.trans h2)
            clear h1 h2
            go_wp2_with fail
            go_ret
            exact ⟨by rw [HRES.out]; rfl, fun s2 h => (by rw [HRES.out] at h; cases h; exact HPN.out), HSN.out⟩
          · have HRES : Hid (s.hears f l = none) := hid (by rw [HEQ.out, HC5.out, if_neg hx])
            rw [decide_eq_false hx]
            clear hx
            go_wp2_with fail
            go_ret
            exact ⟨by rw [HRES.out]; rfl, fun s2 h => (by rw [HRES.out] at h; cases h), HS.out⟩
      | _ =>
        have HRES : Hid (s.hears f l = none) := hid HEB2.out
        unfold Tm.val at HOP
        go_wp2_with fail
        refine HOP.out.mono ?_
        rintro e wo ⟨rfl, h1, h2⟩
        replace HS := hid (HS.out.trans h2)
        clear h1 h2 HOP c0 c3
        go_wp2_with fail
        go_ret
        exact ⟨by rw [HRES.out]; rfl, fun s2 h => (by rw [HRES.out] at h; cases h), HS.out.trans (Same.of_ext (Ext.alloc _ _))⟩

end Go.Proofs.YtjodmedgkmeklaaGreat

/-
  A world of sides and a listener: plain.
-/
namespace Go.Proofs.YtjodmedgkmeklaaGreat
open Go Go.RowKit

structure MS where
  statics : List Int
  sides : List Sd
  pool : List Tm
  leaked : List Int
  x : Int → Bool
  S : List UInt8 → Bool

section
variable (f : Int → List UInt8) (P : Int → Prop)
open Classical in
/-- The least closed set of names over some. -/
noncomputable def Clo (sec : Int → Bool) (S : List UInt8 → Bool) (s : List UInt8) : Bool := decide (∀ C, Closed f P sec C → (∀ s, S s = true → C s = true) → C s = true)
variable {f P}
open Classical in
theorem clo_iff {sec : Int → Bool} {S : List UInt8 → Bool} {s : List UInt8} : Clo f P sec S s = true ↔ ∀ C, Closed f P sec C → (∀ s, S s = true → C s = true) → C s = true := by
  unfold Clo; exact decide_eq_true_iff
theorem Cl.eq_clo {sec : Int → Bool} {S S2 : List UInt8 → Bool} (h : Cl f P sec S S2) : S2 = Clo f P sec S := by
  funext s
  rw [Bool.eq_iff_iff, clo_iff]
  exact ⟨fun hs C hC hS => h.least C hC hS s hs, fun hs => hs S2 h.closed h.le⟩
theorem clo_closed (sec : Int → Bool) (S : List UInt8 → Bool) : Closed f P sec (Clo f P sec S) := by
  intro k n a t hF h
  rw [clo_iff] at h ⊢
  refine ⟨fun C hC hS => (hC k n a t hF (h C hC hS)).1, fun hk => clo_iff.2 fun C hC hS => ?_⟩
  exact (hC k n a t hF (h C hC hS)).2 (can_mono (fun _ h => h) (fun s hs => clo_iff.1 hs C hC hS) k hk)
theorem clo_cl (sec : Int → Bool) (S : List UInt8 → Bool) : Cl f P sec S (Clo f P sec S) :=
  ⟨fun s hs => clo_iff.2 fun _ _ hS => hS s hs, clo_closed sec S, fun C hC hS _ hs => clo_iff.1 hs C hC hS⟩
variable (f P)

def MS.add (μ : MS) (t : Tm) : MS := if names f μ.pool (nm f t) then μ else { μ with pool := μ.pool ++ [t] }
noncomputable def MS.see (μ : MS) (t : Tm) : MS := { μ with S := Clo f P μ.x (plus μ.S (nm f t)) }
noncomputable def MS.sent (μ : MS) (l : List Tm) : MS := l.foldl (fun μ t => (μ.add f t).see f P t) μ
/-- The names among these that the pool has not. -/
def newsL (pool : List Tm) (l : List Tm) : List (List UInt8) := l.foldl (fun acc t => if names f pool (nm f t) || decide (nm f t ∈ acc) then acc else acc ++ [nm f t]) []
def MS.room (μ : MS) (l : List Tm) : Bool := decide (μ.pool.length + (newsL f μ.pool l).length ≤ 300)
def MS.place (μ : MS) (k : Int) : Tm := if 0 ≤ k ∧ k < μ.pool.length then μ.pool.getD k.toNat .non else .non
def MS.setSide (μ : MS) (i : Nat) (s : Sd) : MS := { μ with sides := μ.sides.set i s }
def newSide (first : Bool) (static fresh : Int) : Sd := ⟨first, static, fresh, 0, 0, 0, .digest .empty .empty, .non, 0, 0, .empty, .non, 0, .non, .non, [], []⟩
def MS.begin (μ : MS) (first : Bool) (static : Int) : MS × Int :=
  if static ∈ μ.statics then (if 12 ≤ μ.sides.length then (μ, 2) else ({ μ with sides := μ.sides ++ [newSide first static (100 + μ.sides.length)] }, 0)) else (μ, 1)
noncomputable def MS.speak (μ : MS) (i : Nat) (s : Sd) : MS × Int :=
  if s.turn true = false then (μ, 4)
  else if μ.room f s.parts.2 = false then (μ, 2)
  else ((μ.sent f P s.parts.2).setSide i s.parts.1, 0)
def hearAt (s : Sd) (b c : Int) : List Int := if s.step = 0 then [b] else if s.step = 1 then [b, c, c + 1] else [b, c]
def MS.hear (μ : MS) (i : Nat) (s : Sd) (b c : Int) : MS × Int :=
  if s.turn false = false then (μ, 4)
  else if Tm.non ∈ (hearAt s b c).map μ.place then (μ, 1)
  else match s.hears f ((hearAt s b c).map μ.place) with
    | some s2 => (μ.setSide i s2, 0)
    | none => (μ.setSide i { s with state := 2 }, 8)
def textOf (n : Int) : Tm := .atom (-1 - min (max n 0) 999)
noncomputable def MS.say (μ : MS) (i : Nat) (s : Sd) (n : Int) : MS × Int :=
  if s.state ≠ 1 then (μ, 4)
  else if μ.room f [.box s.keys.1 s.sent .empty (textOf n)] = false then (μ, 2)
  else ((μ.sent f P [.box s.keys.1 s.sent .empty (textOf n)]).setSide i { s with sent := s.sent + 1, said := s.said ++ [textOf n] }, 0)
def MS.take (μ : MS) (i : Nat) (s : Sd) (k : Int) : MS × Int :=
  if s.state ≠ 1 then (μ, 4)
  else match μ.place k with
    | .non => (μ, 1)
    | .box kk n a x => if nm f kk = nm f s.keys.2 ∧ n = s.got ∧ nm f a = nm f .empty then (μ.setSide i { s with got := s.got + 1, took := s.took ++ [x] }, 0) else (μ, 8)
    | _ => (μ, 8)
noncomputable def MS.leak (μ : MS) (a : Int) : MS × Int :=
  if a ∈ μ.statics then
    let x2 : Int → Bool := fun n => μ.x n || decide (n = a)
    ({ μ with leaked := if a ∈ μ.leaked then μ.leaked else μ.leaked ++ [a], x := x2, S := Clo f P x2 μ.S }, 0)
  else (μ, 1)
/-- What the listener makes. -/
def MS.made (μ : MS) (kind a b c : Int) : Option Tm :=
  let x := μ.place a; let y := μ.place b; let z := μ.place c
  if kind = 7 then (if (50 ≤ a ∧ a < 60) ∨ a ∈ μ.leaked then (match y with | .pub p => some (.shared (min a p) (max a p)) | _ => none) else none)
  else if kind = 8 then (if (1 ≤ a ∧ a ≤ 3) ∧ y ≠ .non ∧ z ≠ .non then some (.chain a y z) else none)
  else if kind = 9 then (if y ≠ .non ∧ z ≠ .non then some (.digest y z) else none)
  else if kind = 10 then (if x ≠ .non ∧ y ≠ .non ∧ z ≠ .non then some (.box x 0 y z) else none)
  else if kind = 11 then (match x with | .box k _ ad t => if can f μ.x μ.S k = true ∧ 0 ≤ b ∧ b ≤ 99 then some (.box k b ad t) else none | _ => none)
  else if kind = 12 then (match x with | .box k _ _ t => if can f μ.x μ.S k = true then some t else none | _ => none)
  else none
def MS.put (μ : MS) (t : Tm) : MS × Int := if 1500 < sz t ∨ μ.room f [t] = false then (μ, 2) else (μ.add f t, 0)
/-- An op is played. -/
noncomputable def MS.play (μ : MS) (kind a b c : Int) : MS × Int :=
  if kind = 1 then μ.begin (decide (a = 1)) b
  else if 2 ≤ kind ∧ kind ≤ 5 then
    match (if 0 ≤ a then μ.sides[a.toNat]? else none) with
    | none => (μ, 1)
    | some s =>
      if kind = 2 then μ.speak f P a.toNat s
      else if kind = 3 then μ.hear f a.toNat s b c
      else if kind = 4 then μ.say f P a.toNat s b
      else μ.take f a.toNat s b
  else if kind = 6 then μ.leak f P a
  else match μ.made f kind a b c with
    | none => (μ, 1)
    | some t => μ.put f t
end

end Go.Proofs.YtjodmedgkmeklaaGreat
