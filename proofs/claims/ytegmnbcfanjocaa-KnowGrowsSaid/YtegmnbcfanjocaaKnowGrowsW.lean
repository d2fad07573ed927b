/-
  The walk of KnowGrows.
-/
import Derived.Test.YtegmnbcfanjocaaKnowGrowsP
namespace Go.Proofs.Ytegmnbcfanjocaa
open Go Go.RowKit Go.Maps
attribute [local go_sem] extUpon run_store_tm
attribute [local go_sem ↓] Tm.val_cell eval_put_ne eval_put_none eval_put_same size_put eval_const
attribute [local go_sem ↓] meth_Atom meth_Public meth_Shared meth_Chain meth_Digest meth_Box meth_Empty
attribute [local go_sem ↓] run_build_chain run_build_digest run_build_box
attribute [local go_sem] ta_Atom_Atom ta_Public_Atom ta_Shared_Atom ta_Chain_Atom ta_Digest_Atom ta_Box_Atom ta_Empty_Atom ta_Nil_Atom ta_Atom_Public ta_Public_Public ta_Shared_Public ta_Chain_Public ta_Digest_Public ta_Box_Public ta_Empty_Public ta_Nil_Public ta_Atom_Shared ta_Public_Shared ta_Shared_Shared ta_Chain_Shared ta_Digest_Shared ta_Box_Shared ta_Empty_Shared ta_Nil_Shared ta_Atom_Chain ta_Public_Chain ta_Shared_Chain ta_Chain_Chain ta_Digest_Chain ta_Box_Chain ta_Empty_Chain ta_Nil_Chain ta_Atom_Digest ta_Public_Digest ta_Shared_Digest ta_Chain_Digest ta_Digest_Digest ta_Box_Digest ta_Empty_Digest ta_Nil_Digest ta_Atom_Box ta_Public_Box ta_Shared_Box ta_Chain_Box ta_Digest_Box ta_Box_Box ta_Empty_Box ta_Nil_Box ta_Atom_Empty ta_Public_Empty ta_Shared_Empty ta_Chain_Empty ta_Digest_Empty ta_Box_Empty ta_Empty_Empty ta_Nil_Empty

set_option maxHeartbeats 8000000 in
set_option maxRecDepth 100000 in
theorem KnowGrows_walk (T : Nat → Int) (av : Option Addr) (cap : Nat) (l : List Raw) (sa0 : Option Addr) (scap0 : Nat) (ss : List Int) (cut more : Int) (w : World) (hT : TabAt w T) (hl : l.length ≤ 9223372036854775807) (hr : RawAt w av l) (hsl : ss.length ≤ 9223372036854775807) (hsr : IntsAt w sa0 ss) :
    Calls Try.prog 3 #[.slice av l.length cap, .slice sa0 ss.length scap0, .int .i64 cut, .int .i64 more] w fun e w' => e = .returned (.bool true) ∧ Ext w w' := by
  have HT := hid (Terms_any av cap l w hl hr)
  obtain ⟨hn0, hn1⟩ := terms_len l
  have HO := hid (fun j (h : j < (terms l).length) => One.of l h)
  have HMD := hid (terms_made l)
  have HFN := hid (terms_fine l)
  have HI := hid (itoa_tab hT)
  have HN := hid (nums_tab T)
  have HSC := hid hsr
  have i3 : (Try.prog.info? 3).map (fun i => (i.zero, i.size, i.bytes)) = some (some (.int .i64 0), 1, 8) := by kernel_rfl
  obtain ⟨j0, hi', hz0', hz1', hz2'⟩ := info_parts i3
  have HIN := hid (And.intro hi' (And.intro hz0' (And.intro hz1' hz2')))
  clear hr hl hT hsr i3 hi' hz0' hz1' hz2' hsl
  generalize itoaT T = f at *
  generalize terms l = ts at *
  go_enter Try.func3, Try.ntmps3
  go_wp2_with fail
  refine HT.out.mono ?_
  rintro e w1 ⟨v, rfl, hown, hE1⟩
  obtain ⟨g, cap2, hv, hg⟩ := hown.form hn0
  subst hv
  have hcap : ts.length ≤ cap2 := by
    obtain ⟨a5, c5, e5, h5, _⟩ := own_row hown
    cases e5
    exact h5
  have HRD := hid (rd_own hown (by simp))
  have HE1 := hid hE1
  clear hown hg hE1 HT
  go_wp2_with fail
  go_loopw [10, 11] (fun sv iv wr => ∃ j : Nat, iv = .int .i64 j ∧ j ≤ ss.length ∧ j ≤ 3 ∧ Hid (Ext w1 wr) ∧ Hid (wr.ownsRow w1.heap.size 3 1 sv j ((secL (ss.take j)).map (Value.int .i64)))) (fun _ iv _ => 3 - (intOf iv).toNat)
  case atStart => exact ⟨0, rfl, by omega, by omega, hid (Ext.refl _), hid (World.ownsRow_nil _ _ _ _)⟩
  case round =>
    obtain ⟨j, rfl, hj, hj3, HX, HS⟩ := hrel
    by_cases hlt : j < ss.length ∧ j < 3
    · obtain ⟨hlt1, hlt3⟩ := hlt
      have i1 : (j : Int) < (ss.length : Int) := by omega
      have i3 : (j : Int) < 3 := by omega
      obtain ⟨b, o, rfl, hc⟩ := HSC.out j hlt1
      have q0 := HX.out.cell (HE1.out.cell hc)
      have HSX := hid (secL_succ hlt1 hlt3)
      have HO1 := hid (fun ob => own_ext ((Ext.refl wr).alloc' ob) HS.out)
      have hsz : w1.heap.size ≤ wr.heap.size := HX.out.size
      clear hc
      generalize ss[j] = x at *
      go_wp2_with fail
      refine (pick_any x 9 _ (by omega) (by omega)).mono ?_
      rintro e w2 ⟨rfl, rfl⟩
      go_wp2_with (first
        | (at_builtin; refine wpList_append_lies _ rfl (.tmp 30) (.tmp 37) _ rfl w1.heap.size 3 j0 (.int .i64 0) 1 8 Try.underlying23 HIN.out.1 HIN.out.2.1 HIN.out.2.2.1 HIN.out.2.2.2 rfl (by omega) u10 j ((secL (ss.take j)).map (Value.int .i64)) (by rfl) (HO1.out _) ⟨wr.heap.size, 0, none⟩ 1 1 [.int .i64 (1 + x % 9)] (by rfl) (by rfl) (World.news_of_block (blk_new wr _)) (by intro u hu; simp at hu; subst hu; rfl) (by omega) (by unfold maxLen; omega) (by omega) (by simp; omega) (wr.heap.size + 1) (by simp) ?_; intro g2 cap3 w2 hown hgrow hat hlt2))
      have HF := hid (Below.grown (HX.out.alloc' _) hgrow (by simp; omega) (fun k hk => (HS.out.lt k hk).1))
      have HO2 := hid hown
      clear hown hgrow hat q0
      go_roundw
      case rel => exact ⟨j + 1, by go_num, by omega, by omega, HF, hid (by rw [HSX.out, List.map_append]; exact HO2.out)⟩
      case measure => simp [intOf]; omega
    · obtain ⟨hse, hjl⟩ := secL_end hj hj3 hlt
      have hso := HS.out
      rw [hse] at hso
      obtain ⟨sa, scap, hsv, hsc, hrd⟩ := own_row hso
      subst hsv
      have HSR := hid hrd
      have HE2 := hid (HE1.out.trans HX.out)
      have HRD2 := hid (HRD.out.later HX.out)
      have hslen := secL_len ss
      have HSOK := hid (secL_ok ss)
      have hcs : ¬ (j : Int) < (ss.length : Int) ∨ ((j : Int) < (ss.length : Int) ∧ ¬ (j : Int) < 3) := by omega
      have HOWN := hid hso
      clear hse hso hrd HS hj hj3 hlt HE1 HRD HX HSC
      generalize secL ss = sl at *
      subst hjl
      rcases hcs with hcs | ⟨hcs, hcs3⟩
      all_goals
      go_wp2_with fail
      refine (pick_any cut (ts.length + 1) _ (by omega) (by omega)).mono ?_
      rintro e w2 ⟨rfl, rfl⟩
      obtain ⟨n, hn, hn'⟩ : ∃ n : Nat, cut % ((ts.length : Int) + 1) = (n : Int) ∧ n < ts.length + 1 := by
        have h1 := Int.emod_nonneg cut (b := (ts.length : Int) + 1) (by omega)
        have h2 := Int.emod_lt_of_pos cut (b := (ts.length : Int) + 1) (by omega)
        exact ⟨(cut % ((ts.length : Int) + 1)).toNat, by omega, by omega⟩
      rw [hn]
      have hnc : n ≤ cap2 := by omega
      have hnl : n ≤ ts.length := by omega
      have HNEW := hid (new_take HN.out HMD.out HFN.out hn1 HI.out HE2.out (ts.map (nm f)) (by simp; omega) (univ_ts HN.out HMD.out) (fun t ht => List.mem_map_of_mem ht) HSOK.out (by omega) HSR.out HRD2.out hnl scap cap2)
      clear hn hn'
      go_wp2_with fail
      refine HNEW.out.mono ?_
      rintro e w3 ⟨ka, va, rfl, hE3, hq1, hq2, hq3, hq4, hB⟩
      have HE3 := hid (HE2.out.trans hE3)
      have HRD3 := hid (HRD2.out.later hE3)
      have HSR3 := hid (HSR.out.later hE3)
      have HA := hid hB
      clear hE3 hB HE2 HRD2 HNEW HSR HOWN hq1 hq2 hq3 hq4
      obtain ⟨x9, hx9⟩ : ∃ z : Int, more % 9 = z := ⟨_, rfl⟩
      have hx9b : 0 ≤ x9 ∧ x9 < 9 := by
        have h1 := Int.emod_nonneg more (b := 9) (by omega)
        have h2 := Int.emod_lt_of_pos more (b := 9) (by omega)
        omega
      go_wp2_with (first
        | (at_builtin; refine wpl_app (.tmp 49) (.tmp 50) rfl rfl rfl w3.heap.size (.slice (some ⟨w3.heap.size, 0, none⟩) 0 0) 0 [] (by rfl) (own_none w3 _ (Nat.le_refl _)) sa sl.length scap sl (by rfl) rfl hsc (HSR3.out.later (Ext.alloc _ _)) (by omega) (by simp) ?_; intro v4 w4 hown4 hg4))
      have HE4 : Hid (Ext w3 w4) := hid (Below.grown (Ext.alloc w3 _) hg4 (by simp) (fun k hk => by cases hk; exact Nat.le_refl _))
      have HOWN4 := hid hown4
      have hsz4 : w3.heap.size ≤ w4.heap.size := HE4.out.size
      clear hown4 hg4
      refine (pick_any more 9 _ (by omega) (by omega)).mono ?_
      rintro e w4b ⟨rfl, rfl⟩
      rw [hx9]
      go_wp2_with (first
        | (at_builtin; refine wpl_app (.tmp 51) (.tmp 55) rfl rfl rfl w3.heap.size v4 (0 + sl.length) ([] ++ sl.map (Value.int .i64)) (by rfl) (own_ext (Ext.alloc _ _) HOWN4.out) (some ⟨w4.heap.size, 0, none⟩) 1 1 [1 + x9] (by rfl) rfl (Nat.le_refl _) (rd_new _ w4.heap.size _ _ _ (blk_new w4 _) rfl) (by omega) (by simp; omega) ?_; intro v5 w5 hown5 hg5))
      have HE5 : Hid (Ext w3 w5) := hid (Below.grown (HE4.out.alloc' _) hg5 (by simp; omega) (fun k hk => (HOWN4.out.lt k hk).1))
      have hlen5 : 0 + sl.length + 1 = (sl ++ [1 + x9]).length := by simp
      have hown6 : w5.ownsRow w3.heap.size 3 1 v5 (sl ++ [1 + x9]).length ((sl ++ [1 + x9]).map (Value.int .i64)) := by
        rw [hlen5] at hown5
        simpa using hown5
      obtain ⟨sb, sbcap, hv5, hsb, hrd5⟩ := own_row hown6
      rw [← hlen5] at hv5
      have HSB := hid hrd5
      have HRD5 := hid (HRD3.out.later HE5.out)
      have HA5 := hid (HA.out.later HE5.out)
      have HSR5 := hid (HSR3.out.later HE5.out)
      have HE6 := hid (HE3.out.trans HE5.out)
      have hnew2 := new_take HN.out HMD.out HFN.out hn1 HI.out HE6.out (ts.map (nm f)) (by simp; omega) (univ_ts HN.out HMD.out) (fun t ht => List.mem_map_of_mem ht) (sl := sl ++ [1 + x9]) (by
        intro m hm
        rcases List.mem_append.1 hm with hm | hm
        · exact HSOK.out m hm
        · simp at hm; omega) (by simp; omega) HSB.out HRD5.out (Nat.le_refl ts.length) sbcap cap2
      rw [← hlen5] at hnew2
      have HNEW2 := hid hnew2
      subst hv5
      clear hnew2 hown5 hown6 hrd5 hg5 HE4 HOWN4 HE5 HRD3 HSR3 HA HE3 hsb hx9 hlen5
      refine HNEW2.out.mono ?_
      rintro e w6 ⟨kb, vb, rfl, hE7, hq1, hq2, hq3, hq4, hB⟩
      have HE7 := hid (HE6.out.trans hE7)
      have HRD7 := hid (HRD5.out.later hE7)
      have HSR7 := hid (HSR5.out.later hE7)
      have HA7 := hid (HA5.out.later hE7)
      have HB7 := hid hB
      clear hE7 hB HE6 HRD5 HSR5 HA5 HNEW2 hq1 hq2 hq3 hq4 HSB
      go_wp2_with fail
      refine (known13 HN.out w6 (HI.out.later HE7.out)).mono ?_
      rintro e w7 ⟨rfl, hE8⟩
      have HE8 := hid (HE7.out.trans hE8)
      have HRD8 := hid (HRD7.out.later hE8)
      have HSR8 := hid (HSR7.out.later hE8)
      have HA8 := hid (HA7.out.later hE8)
      have HB8 := hid (HB7.out.later hE8)
      clear hE8 HE7 HRD7 HSR7 HA7 HB7
      have HNEW3 := hid (new_take HN.out HMD.out HFN.out hn1 HI.out HE8.out (ts.map (nm f)) (by simp; omega) (univ_ts HN.out HMD.out) (fun t ht => List.mem_map_of_mem ht) HSOK.out (by omega) HSR8.out HRD8.out hnl scap cap2)
      go_wp2_with fail
      refine HNEW3.out.mono ?_
      rintro e w9 ⟨kc, vc, rfl, hE9, hq1, hq2, hq3, hq4, hC⟩
      have HG := hid (GI.start HMD.out hn1 hnl hC hE9 hq4 hq3)
      have HCA := hid (fun W (hW : Ext w7 W) x u d j (h : One ts j x u d) => h.can HI.out (HE8.out.trans hW) (HA8.out.at_.later hW))
      have HCB := hid (fun W (hW : Ext w7 W) x u d j (h : One ts j x u d) => h.can HI.out (HE8.out.trans hW) (HB8.out.at_.later hW))
      have HMO : Hid (∀ x, can f va.x va.S x = true → can f vb.x vb.S x = true) := hid (fun x h => can_mono (fun n hn => by
          rw [HA8.out.x] at hn
          rw [HB8.out.x]
          simp only [secs, decide_eq_true_eq, List.mem_append] at hn ⊢
          exact .inl hn) (fun s hs => by
          rw [HA8.out.S] at hs
          rw [HB8.out.S]
          obtain ⟨u, hu, e⟩ := names_iff.1 hs
          exact names_iff.2 ⟨u, take_up hnl u hu, e⟩) x h)
      have HAX := hid HA8.out.x
      have HAS := hid HA8.out.S
      have HCL := hid (closed_names HN.out HMD.out n (secs sl))
      have HU := hid (univ_ts HN.out HMD.out)
      have HUM : Hid (∀ j x u d, One ts j x u d → nm f x ∈ ts.map (nm f)) := hid (fun j x u d h => List.mem_map_of_mem (List.mem_of_getElem? h.at_))
      clear hC hE9 hq1 hq2 hq3 hq4 HNEW3 HA8 HB8 HSR8 HMD HFN HIN HSOK
      go_wp2_with fail
      go_loopw [16] (fun iv wr => ∃ (j : Nat) (v : KV), iv = .int .i64 j ∧ j ≤ ts.length ∧ Hid (GI f (ts.map (nm f)) w7 kc sl (names f (ts.take n)) j wr v)) (fun iv _ => ts.length - (intOf iv).toNat)
      case atStart => exact ⟨0, vc, rfl, by omega, HG⟩
      case round =>
        clear HG
        obtain ⟨j, v, rfl, hj, HG⟩ := hrel
        by_cases hlt : j < ts.length
        · have hlt2 : (j : Int) < (ts.length : Int) := by omega
          obtain ⟨x, u, d, hone⟩ := HO.out j hlt
          have HONE := hid hone
          have cx := hone.cell (HRD8.out.later HG.out.ext)
          obtain ⟨cA, hcA⟩ : ∃ c, can f va.x va.S x = c := ⟨_, rfl⟩
          have hca := HCA.out wr HG.out.ext x u d j hone
          rw [hcA] at hca
          have HC1 := hid hca
          have HCAE := hid hcA
          clear hone hca hcA
          go_wp2_with fail
          refine HC1.out.mono ?_
          rintro e wa ⟨rfl, hE10⟩
          have HG1 := hid (HG.out.later hE10)
          clear hE10 HG HC1 cx
          cases cA
          · go_wp2_with fail
            go_roundw
            case rel => exact ⟨j + 1, v, by go_num, by omega, hid HG1.out.skip⟩
            case measure => simp [intOf]; omega
          · have cx := HONE.out.cell (HRD8.out.later HG1.out.ext)
            have hcb := HCB.out wa HG1.out.ext x u d j HONE.out
            rw [HMO.out x HCAE.out] at hcb
            have HC2 := hid hcb
            clear hcb
            go_wp2_with fail
            refine HC2.out.mono ?_
            rintro e wb ⟨rfl, hE11⟩
            have HG2 := hid (HG1.out.later hE11)
            clear hE11 HG1 HC2 cx
            have cx := HONE.out.cell (HRD8.out.later HG2.out.ext)
            go_wp2_with fail
            refine (GI.seen HN.out (by simp; omega) HU.out HI.out HE8.out HCL.out HG2.out (by omega) HONE.out (HUM.out j x u d HONE.out) (by rw [← HAX.out, ← HAS.out]; exact HCAE.out)).mono ?_
            rintro e wc ⟨rfl, v2, hG3⟩
            have HG3 := hid hG3
            clear hG3 HG2 cx
            go_wp2_with fail
            go_roundw
            case rel => exact ⟨j + 1, v2, by go_num, by omega, HG3⟩
            case measure => simp [intOf]; omega
        · have hlt2 : ¬ (j : Int) < (ts.length : Int) := by omega
          go_wp2_with fail
          generalize wr = wo at *
          go_loopw [17] (fun iv wq => ∃ (i : Nat), iv = .int .i64 i ∧ i ≤ ts.length ∧ Hid (Ext wo wq)) (fun iv _ => ts.length - (intOf iv).toNat)
          case atStart => exact ⟨0, rfl, by omega, hid (Ext.refl _)⟩
          case round =>
            obtain ⟨i, rfl, hi, HX⟩ := hrel
            by_cases hlti : i < ts.length
            · have hlti2 : (i : Int) < (ts.length : Int) := by omega
              obtain ⟨x, u, d, hone⟩ := HO.out i hlti
              have HX2 := hid (HG.out.ext.trans HX.out)
              have HC := hid (hone.cell (HRD8.out.later HX2.out))
              have HK1 : Hid (∀ W, Ext wr W → Calls Try.prog 13 #[.pointer (some ⟨ka.kb, 0, none⟩), .iface u d] W fun e w' => e = .returned (.bool (can f va.x va.S x)) ∧ Ext W w') := hid (fun W hW => HCA.out W (HX2.out.trans hW) x u d i hone)
              have HK2 : Hid (∀ W, Ext wr W → Calls Try.prog 13 #[.pointer (some ⟨kc.kb, 0, none⟩), .iface u d] W fun e w' => e = .returned (.bool (can f va.x va.S x)) ∧ Ext W w') := hid (fun W hW => by
                have h5 := hone.can HI.out (HE8.out.trans (HX2.out.trans hW)) (HG.out.at_.later (HX.out.trans hW))
                have h6 := HG.out.more.can_eq HN.out hone.lit.ok
                rw [HG.out.x, h6, ← HAS.out, ← HAX.out] at h5
                exact h5)
              clear hone
              generalize can f va.x va.S x = b at *
              go_wp2_with fail
              refine reg_begin 13 (by kernel_rfl) ?_
              refine reg_hide (fun Q2 HQ => ?_)
              generalize hW : World.drew _ = W
              have HE : Hid (Ext wr W) := hid (by rw [← hW]; exact Ext.drew _)
              clear hW
              refine reg_quiet 0 rfl (by kernel_rfl) (by kernel_rfl) ?_
              apply Exists.intro
              refine ⟨fun w' hw' => ?_, ?_⟩
              · go_simp
                exact ⟨rfl, Ext.refl _⟩
              refine reg_quiet 1 rfl (by kernel_rfl) (by kernel_rfl) ?_
              apply Exists.intro
              refine ⟨fun w' hw' => ?_, ?_⟩
              · go_simp
                exact ⟨rfl, Ext.refl _⟩
              refine reg_quiet 2 rfl (by kernel_rfl) (by kernel_rfl) ?_
              apply Exists.intro
              refine ⟨fun w' hw' => ?_, ?_⟩
              · go_simp
                exact ⟨rfl, Ext.refl _⟩
              refine reg_quiet 3 rfl (by kernel_rfl) (by kernel_rfl) ?_
              apply Exists.intro
              refine ⟨fun w' hw' => ?_, ?_⟩
              · go_simp
                exact ⟨rfl, Ext.refl _⟩
              refine reg_quiet 4 rfl (by kernel_rfl) (by kernel_rfl) ?_
              apply Exists.intro
              refine ⟨fun w' hw' => ?_, ?_⟩
              · have q0 := (HE.out.trans hw').cell HC.out
                go_simp
                exact ⟨rfl, Ext.refl _⟩
              refine reg_quiet 5 rfl (by kernel_rfl) (by kernel_rfl) ?_
              apply Exists.intro
              refine ⟨fun w' hw' => ?_, ?_⟩
              · go_simp
                exact HK2.out w' (HE.out.trans hw')
              refine reg_quiet 6 rfl (by kernel_rfl) (by kernel_rfl) ?_
              apply Exists.intro
              refine ⟨fun w' hw' => ?_, ?_⟩
              · go_simp
                exact ⟨rfl, Ext.refl _⟩
              refine reg_quiet 7 rfl (by kernel_rfl) (by kernel_rfl) ?_
              apply Exists.intro
              refine ⟨fun w' hw' => ?_, ?_⟩
              · go_simp
                exact ⟨rfl, Ext.refl _⟩
              refine reg_quiet 8 rfl (by kernel_rfl) (by kernel_rfl) ?_
              apply Exists.intro
              refine ⟨fun w' hw' => ?_, ?_⟩
              · go_simp
                exact ⟨rfl, Ext.refl _⟩
              refine reg_quiet 9 rfl (by kernel_rfl) (by kernel_rfl) ?_
              apply Exists.intro
              refine ⟨fun w' hw' => ?_, ?_⟩
              · go_simp
                exact ⟨rfl, Ext.refl _⟩
              refine reg_quiet 10 rfl (by kernel_rfl) (by kernel_rfl) ?_
              apply Exists.intro
              refine ⟨fun w' hw' => ?_, ?_⟩
              · have q0 := (HE.out.trans hw').cell HC.out
                go_simp
                exact ⟨rfl, Ext.refl _⟩
              refine reg_quiet 11 rfl (by kernel_rfl) (by kernel_rfl) ?_
              apply Exists.intro
              refine ⟨fun w' hw' => ?_, ?_⟩
              · go_simp
                exact HK1.out w' (HE.out.trans hw')
              refine reg_quiet 12 rfl (by kernel_rfl) (by kernel_rfl) ?_
              apply Exists.intro
              refine ⟨fun w' hw' => ?_, ?_⟩
              · go_simp
                exact ⟨rfl, Ext.refl _⟩
              refine reg_done (by kernel_rfl) (fun W2 hw2 => ?_) _
              replace HX := hid (HX.out.trans (HE.out.trans hw2))
              clear hw2 HE HC HK1 HK2 HX2
              go_simp
              rw [HQ.out]
              clear HQ Q2
              go_wp2_with fail
              go_roundw
              case rel => exact ⟨i + 1, by go_num, by omega, HX⟩
              case measure => simp [intOf]; omega
            · have hlti2 : ¬ (i : Int) < (ts.length : Int) := by omega
              go_wp2_with fail
              go_ret
              exact ⟨rfl, HE8.out.trans (HG.out.ext.trans HX.out)⟩

end Go.Proofs.Ytegmnbcfanjocaa
