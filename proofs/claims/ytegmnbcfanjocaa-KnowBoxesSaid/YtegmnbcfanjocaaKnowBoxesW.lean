/-
  The walk of KnowBoxes.
-/
import Derived.Test.YtegmnbcfanjocaaK19
import Derived.Test.YtegmnbcfanjocaaKnowBoxesP
namespace Go.Proofs.Ytegmnbcfanjocaa
open Go Go.RowKit Go.Maps
attribute [local go_sem] extUpon run_store_tm
attribute [local go_sem ↓] Tm.val_cell eval_put_ne eval_put_none eval_put_same size_put eval_const
attribute [local go_sem ↓] meth_Atom meth_Public meth_Shared meth_Chain meth_Digest meth_Box meth_Empty
attribute [local go_sem ↓] run_build_chain run_build_digest run_build_box
attribute [local go_sem] ta_Atom_Atom ta_Public_Atom ta_Shared_Atom ta_Chain_Atom ta_Digest_Atom ta_Box_Atom ta_Empty_Atom ta_Nil_Atom ta_Atom_Public ta_Public_Public ta_Shared_Public ta_Chain_Public ta_Digest_Public ta_Box_Public ta_Empty_Public ta_Nil_Public ta_Atom_Shared ta_Public_Shared ta_Shared_Shared ta_Chain_Shared ta_Digest_Shared ta_Box_Shared ta_Empty_Shared ta_Nil_Shared ta_Atom_Chain ta_Public_Chain ta_Shared_Chain ta_Chain_Chain ta_Digest_Chain ta_Box_Chain ta_Empty_Chain ta_Nil_Chain ta_Atom_Digest ta_Public_Digest ta_Shared_Digest ta_Chain_Digest ta_Digest_Digest ta_Box_Digest ta_Empty_Digest ta_Nil_Digest ta_Atom_Box ta_Public_Box ta_Shared_Box ta_Chain_Box ta_Digest_Box ta_Box_Box ta_Empty_Box ta_Nil_Box ta_Atom_Empty ta_Public_Empty ta_Shared_Empty ta_Chain_Empty ta_Digest_Empty ta_Box_Empty ta_Empty_Empty ta_Nil_Empty

set_option maxHeartbeats 4000000 in
set_option maxRecDepth 100000 in
theorem KnowBoxes_walk (T : Nat → Int) (av : Option Addr) (cap : Nat) (l : List Raw) (sa0 : Option Addr) (scap0 : Nat) (ss : List Int) (cut a b : Int) (w : World) (hT : TabAt w T) (hl : l.length ≤ 9223372036854775807) (hr : RawAt w av l) (hsl : ss.length ≤ 9223372036854775807) (hsr : IntsAt w sa0 ss) :
    Calls Try.prog 5 #[.slice av l.length cap, .slice sa0 ss.length scap0, .int .i64 cut, .int .i64 a, .int .i64 b] w fun e w' => e = .returned (.bool true) ∧ Ext w w' := by
  have HFAR := hid (far_num T)
  have HT := hid (Terms_any av cap l w hl hr)
  obtain ⟨hn0, hn1⟩ := terms_len l
  have HO := hid (fun j (h : j < (terms l).length) => One.of l h)
  have HMD := hid (terms_made l)
  have HFN := hid (terms_fine l)
  have HI := hid (itoa_tab hT)
  have HN := hid (nums_tab T)
  have HSC := hid hsr
  have i3 : (Try.prog.info? 3).map (fun i => (i.zero, i.size, i.bytes)) = some (some (.int .i64 0), 1, 8) := by kernel_rfl
  obtain ⟨j0, hi', hz0', hz1', hz2'⟩ := info_parts i3
  have HIN := hid (And.intro hi' (And.intro hz0' (And.intro hz1' hz2')))
  clear hr hl hT hsr i3 hi' hz0' hz1' hz2' hsl
  generalize itoaT T = f at *
  generalize terms l = ts at *
  go_enter Try.func5, Try.ntmps5
  go_wp2_with fail
  refine HT.out.mono ?_
  rintro e w1 ⟨v, rfl, hown, hE1⟩
  obtain ⟨g, cap2, hv, hg⟩ := hown.form hn0
  subst hv
  have hcap : ts.length ≤ cap2 := by
    obtain ⟨a5, c5, e5, h5, _⟩ := own_row hown
    cases e5
    exact h5
  have HRD := hid (rd_own hown (by simp))
  have HE1 := hid hE1
  clear hown hg hE1 HT
  go_wp2_with fail
  go_loopw [12, 13] (fun sv iv wr => ∃ j : Nat, iv = .int .i64 j ∧ j ≤ ss.length ∧ j ≤ 3 ∧ Hid (Ext w1 wr) ∧ Hid (wr.ownsRow w1.heap.size 3 1 sv j ((secL (ss.take j)).map (Value.int .i64)))) (fun _ iv _ => 3 - (intOf iv).toNat)
  case atStart => exact ⟨0, rfl, by omega, by omega, hid (Ext.refl _), hid (World.ownsRow_nil _ _ _ _)⟩
  case round =>
    obtain ⟨j, rfl, hj, hj3, HX, HS⟩ := hrel
    by_cases hlt : j < ss.length ∧ j < 3
    · obtain ⟨hlt1, hlt3⟩ := hlt
      have i1 : (j : Int) < (ss.length : Int) := by omega
      have i3 : (j : Int) < 3 := by omega
      obtain ⟨b, o, rfl, hc⟩ := HSC.out j hlt1
      have q0 := HX.out.cell (HE1.out.cell hc)
      have HSX := hid (secL_succ hlt1 hlt3)
      have HO1 := hid (fun ob => own_ext ((Ext.refl wr).alloc' ob) HS.out)
      have hsz : w1.heap.size ≤ wr.heap.size := HX.out.size
      clear hc
      generalize ss[j] = x at *
      go_wp2_with fail
      refine (pick_any x 9 _ (by omega) (by omega)).mono ?_
      rintro e w2 ⟨rfl, rfl⟩
      go_wp2_with (first
        | (at_builtin; refine wpList_append_lies _ rfl (.tmp 30) (.tmp 37) _ rfl w1.heap.size 3 j0 (.int .i64 0) 1 8 Try.underlying23 HIN.out.1 HIN.out.2.1 HIN.out.2.2.1 HIN.out.2.2.2 rfl (by omega) u12 j ((secL (ss.take j)).map (Value.int .i64)) (by rfl) (HO1.out _) ⟨wr.heap.size, 0, none⟩ 1 1 [.int .i64 (1 + x % 9)] (by rfl) (by rfl) (World.news_of_block (blk_new wr _)) (by intro u hu; simp at hu; subst hu; rfl) (by omega) (by unfold maxLen; omega) (by omega) (by simp; omega) (wr.heap.size + 1) (by simp) ?_; intro g2 cap3 w2 hown hgrow hat hlt2))
      have HF := hid (Below.grown (HX.out.alloc' _) hgrow (by simp; omega) (fun k hk => (HS.out.lt k hk).1))
      have HO2 := hid hown
      clear hown hgrow hat q0
      go_roundw
      case rel => exact ⟨j + 1, by go_num, by omega, by omega, HF, hid (by rw [HSX.out, List.map_append]; exact HO2.out)⟩
      case measure => simp [intOf]; omega
    · obtain ⟨hse, hjl⟩ := secL_end hj hj3 hlt
      have hso := HS.out
      rw [hse] at hso
      obtain ⟨sa, scap, hsv, hsc, hrd⟩ := own_row hso
      subst hsv
      have HSR := hid hrd
      have HE2 := hid (HE1.out.trans HX.out)
      have HRD2 := hid (HRD.out.later HX.out)
      have hslen := secL_len ss
      have HSOK := hid (secL_ok ss)
      have hcs : ¬ (j : Int) < (ss.length : Int) ∨ ((j : Int) < (ss.length : Int) ∧ ¬ (j : Int) < 3) := by omega
      have HOWN := hid hso
      clear hse hso hrd HS hj hj3 hlt HE1 HRD HX HSC
      generalize secL ss = sl at *
      subst hjl
      rcases hcs with hcs | ⟨hcs, hcs3⟩
      all_goals
      go_wp2_with fail
      refine (pick_any cut (ts.length + 1) _ (by omega) (by omega)).mono ?_
      rintro e w2 ⟨rfl, rfl⟩
      obtain ⟨n, hn, hn'⟩ : ∃ n : Nat, cut % ((ts.length : Int) + 1) = (n : Int) ∧ n < ts.length + 1 := by
        have h1 := Int.emod_nonneg cut (b := (ts.length : Int) + 1) (by omega)
        have h2 := Int.emod_lt_of_pos cut (b := (ts.length : Int) + 1) (by omega)
        exact ⟨(cut % ((ts.length : Int) + 1)).toNat, by omega, by omega⟩
      rw [hn]
      have hnc : n ≤ cap2 := by omega
      obtain ⟨i, hi, hi'⟩ := idx_of a ts.length hn0
      obtain ⟨x, ux, vx, hx⟩ := HO.out i hi'
      obtain ⟨zb, hz⟩ : ∃ zb : Int, b % 1000 = zb := ⟨_, rfl⟩
      have hzb : 0 ≤ zb ∧ zb < 1000 := by
        have h1 := Int.emod_nonneg b (b := 1000) (by omega)
        have h2 := Int.emod_lt_of_pos b (b := 1000) (by omega)
        omega
      have hz1 : -1999 ≤ -1000 - zb ∧ -1000 - zb ≤ -1000 := by omega
      have HZF := hid (fun m => HFAR.out (-1000 - zb) m hz1)
      have HNEW := hid (new_take HN.out HMD.out HFN.out hn1 HI.out HE2.out (Ub f ts x (-1000 - zb)) (by simp [Ub]; omega) (univ_ub HN.out HMD.out hx.lit.ok hz1) (fun t ht => List.mem_append_left _ (List.mem_map_of_mem ht)) HSOK.out (by omega) HSR.out HRD2.out (show n ≤ ts.length by omega) scap cap2)
      have HZ := hid hz
      have HX := hid hx
      have HII := hid hi
      clear hz hx hi HFAR
      go_wp2_with fail
      refine HNEW.out.mono ?_
      rintro e w3 ⟨k, v, rfl, hE3, hq1, hq2, hq3, hq4, hB⟩
      have hq5 : w.heap.size ≤ wr.heap.size := HE2.out.size
      have HQ : Hid (w.heap.size ≤ k.kb ∧ w.heap.size ≤ k.sb ∧ w.heap.size ≤ k.nb ∧ w.heap.size ≤ k.ab) := hid ⟨by omega, by omega, by omega, by omega⟩
      have HE3 := hid (HE2.out.trans hE3)
      have HRD3 := hid (HRD2.out.later hE3)
      have HB := hid hB
      clear hE3 hB HE2 HRD2 HNEW HSR HOWN hq1 hq2 hq3 hq4 hq5
      go_wp2_with fail
      refine (known13 HN.out w3 (HI.out.later HE3.out)).mono ?_
      rintro e w4 ⟨rfl, hE4⟩
      have HE4 := hid (HE3.out.trans hE4)
      have HRD4 := hid (HRD3.out.later hE4)
      have HB4 := hid (HB.out.later hE4)
      clear hE4 HE3 HRD3 HB
      have cx := HX.out.cell HRD4.out
      have ii : (i : Int) < (ts.length : Int) := by omega
      go_wp2_with fail
      refine (pick_any _ _ _ (by omega) (by omega)).mono ?_
      rintro e w' ⟨rfl, rfl⟩
      rw [HII.out]
      go_wp2_with fail
      refine (pick_any b 1000 _ (by omega) (by omega)).mono ?_
      rintro e w5 ⟨rfl, rfl⟩
      rw [HZ.out]
      obtain ⟨cX, hcX⟩ : ∃ c, can f v.x v.S x = c := ⟨_, rfl⟩
      have hsz4 : w.heap.size ≤ w4.heap.size := HE4.out.size
      have hx1 := HX.out
      have hb0 := boxes0 HN.out HMD.out (sec := v.x) HB4.out.S HZF.out hz1
      have HB1 := hid (fun S2 h => (boxes1 HN.out HMD.out (sec := v.x) (S2 := S2) HB4.out.S HZF.out hz1 hx1.lit hx1.sz h).trans hcX)
      have oz : Tm.ok P0 (.atom (-1000 - zb)) := by show Small (-1000 - zb); unfold Small; omega
      have H1 := hid (can_val HI.out HE4.out HB4.out.at_ hx1.val hx1.lit.ok (by have := hx1.sz; omega) hcX)
      have H2 := hid (can_val HI.out HE4.out HB4.out.at_ (t := .atom (-1000 - zb)) (V := .iface 37 (.agg #[.int .i64 (-1000 - zb)])) rfl oz (by simp [sz]) hb0)
      have hvx := hx1.val
      have hFB := fine_bx hx1.lit.ok hx1.sz hz1
      have hvb : (bx x (-1000 - zb)).val = .iface 39 (.agg #[.iface ux vx, .int .i64 0, .iface 44 (.agg #[]), .iface 37 (.agg #[.int .i64 (-1000 - zb)])]) := by simp [bx, Tm.val, hvx]
      have hvn : v.n < 400 := by
        have h4 := HB4.out.n
        simp at h4
        omega
      have HSEE : Hid (∀ W, Ext w4 W → Calls Try.prog 14 #[.pointer (some ⟨k.kb, 0, none⟩), .iface 39 (.agg #[.iface ux vx, .int .i64 0, .iface 44 (.agg #[]), .iface 37 (.agg #[.int .i64 (-1000 - zb)])])] W fun e w' => e = .returned (.bool true) ∧ ∃ v2, KAt f P0 w' k v2 ∧ Same W w' (KP k) ∧ SeeR f P0 (Ub f ts x (-1000 - zb)) v v2 (nm f (bx x (-1000 - zb)))) := hid (fun W hW => by
        have := see_said HN.out (Ub f ts x (-1000 - zb)) (by simp [Ub]; omega) (univ_ub HN.out HMD.out hx1.lit.ok hz1) (bx x (-1000 - zb)) W k v (fun W2 hW2 => HI.out.later (Same.ext (HE4.out.trans hW) hW2 (fun b hb => ⟨by have := HQ.out.2.2.2; omega, by have := HQ.out.2.2.1; omega⟩))) (HB4.out.at_.later hW) hFB hvn HB4.out.inU (by simp [Ub]) HB4.out.kc
        rwa [hvb] at this)
      have HKLT : Hid (k.ab < w4.heap.size ∧ k.nb < w4.heap.size) := hid ⟨HB4.out.at_.all.lt, HB4.out.at_.seen.lt⟩
      have HOZ := hid oz
      clear hx1 hb0 oz hvx hFB hvb hcX HX HO HMD HFN HRD4 hnc hn hn' HII HZ
      have hE6 := Ext.alloc w4 (.cells #[.int .i64 (-1000 - zb)] 37 (0, 0))
      have hbk := blk_new w4 (.cells #[.int .i64 (-1000 - zb)] 37 (0, 0))
      have HE6 := hid hE6
      have HBK := hid hbk
      have HNE : Hid (w4.heap.size ≠ k.ab ∧ w4.heap.size ≠ k.nb) := hid ⟨by have := HKLT.out.1; omega, by have := HKLT.out.2; omega⟩
      clear hE6 hbk HKLT
      go_wp2_with fail
      generalize World.alloc w4 _ = W6 at *
      generalize w4.heap.size = b0 at *
      refine (H1.out W6 HE6.out).mono ?_
      rintro e w7 ⟨rfl, hE7⟩
      have HE7 := hid (HE6.out.trans hE7)
      have d0 := cell_blk (j := 0) (hE7.blk HBK.out) rfl
      have HBK7 := hid (hE7.blk HBK.out)
      clear hE7 HBK HE6
      go_wp2_with fail
      refine (H2.out w7 HE7.out).mono ?_
      rintro e w8 ⟨rfl, hE8⟩
      have HE8 := hid (HE7.out.trans hE8)
      have HBK8 := hid (hE8.blk HBK7.out)
      clear hE8 HBK7 HE7 d0
      have d0 := cell_blk (j := 0) HBK8.out rfl
      go_wp2_with fail
      refine (HSEE.out w8 HE8.out).mono ?_
      rintro e w9 ⟨rfl, v2, hK9, hS9, hR9⟩
      have hsec : v2.x = v.x := by unfold KV.x; rw [hR9.sec]
      have hcl := hR9.cl
      have hb9 : can f v2.x v2.S (.atom (-1000 - zb)) = cX := by rw [hsec]; exact HB1.out v2.S hcl
      have HE9 : Hid (Ext w w9) := hid (Same.ext (HE4.out.trans HE8.out) hS9 (fun b hb => ⟨by have := HQ.out.2.2.2; omega, by have := HQ.out.2.2.1; omega⟩))
      have d9 := hS9.cell (Array.getElem?_eq_some_iff.1 HBK8.out).1 ⟨HNE.out.1, HNE.out.2⟩ d0
      have H9 := hid (can_val HI.out HE9.out hK9 (t := .atom (-1000 - zb)) (V := .iface 37 (.agg #[.int .i64 (-1000 - zb)])) rfl HOZ.out (by simp [sz]) hb9)
      clear hK9 hS9 hR9 hsec hcl hb9 d0 HE8 HBK8 HB1 HSEE H1 H2
      go_wp2_with fail
      refine (H9.out w9 (Ext.refl _)).mono ?_
      rintro e w10 ⟨rfl, hE10⟩
      have HE10 := hid (HE9.out.trans hE10)
      clear hE10 d9
      cases cX <;> (go_wp2_with fail; go_ret; exact ⟨rfl, HE10.out⟩)

end Go.Proofs.Ytegmnbcfanjocaa
