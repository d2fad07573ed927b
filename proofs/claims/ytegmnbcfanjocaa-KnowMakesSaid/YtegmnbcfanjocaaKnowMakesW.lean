/-
  The walk of KnowMakes.
-/
import Derived.Test.YtegmnbcfanjocaaK19
namespace Go.Proofs.Ytegmnbcfanjocaa
open Go Go.RowKit Go.Maps
attribute [local go_sem] extUpon run_store_tm
attribute [local go_sem ↓] Tm.val_cell eval_put_ne eval_put_none eval_put_same size_put eval_const
attribute [local go_sem ↓] meth_Atom meth_Public meth_Shared meth_Chain meth_Digest meth_Box meth_Empty
attribute [local go_sem ↓] run_build_chain run_build_digest run_build_box
attribute [local go_sem] ta_Atom_Atom ta_Public_Atom ta_Shared_Atom ta_Chain_Atom ta_Digest_Atom ta_Box_Atom ta_Empty_Atom ta_Nil_Atom ta_Atom_Public ta_Public_Public ta_Shared_Public ta_Chain_Public ta_Digest_Public ta_Box_Public ta_Empty_Public ta_Nil_Public ta_Atom_Shared ta_Public_Shared ta_Shared_Shared ta_Chain_Shared ta_Digest_Shared ta_Box_Shared ta_Empty_Shared ta_Nil_Shared ta_Atom_Chain ta_Public_Chain ta_Shared_Chain ta_Chain_Chain ta_Digest_Chain ta_Box_Chain ta_Empty_Chain ta_Nil_Chain ta_Atom_Digest ta_Public_Digest ta_Shared_Digest ta_Chain_Digest ta_Digest_Digest ta_Box_Digest ta_Empty_Digest ta_Nil_Digest ta_Atom_Box ta_Public_Box ta_Shared_Box ta_Chain_Box ta_Digest_Box ta_Box_Box ta_Empty_Box ta_Nil_Box ta_Atom_Empty ta_Public_Empty ta_Shared_Empty ta_Chain_Empty ta_Digest_Empty ta_Box_Empty ta_Empty_Empty ta_Nil_Empty

set_option maxHeartbeats 4000000 in
set_option maxRecDepth 100000 in
theorem KnowMakes_walk (T : Nat → Int) (av : Option Addr) (cap : Nat) (l : List Raw) (sa0 : Option Addr) (scap0 : Nat) (ss : List Int) (cut a b : Int) (w : World) (hT : TabAt w T) (hl : l.length ≤ 9223372036854775807) (hr : RawAt w av l) (hsl : ss.length ≤ 9223372036854775807) (hsr : IntsAt w sa0 ss) :
    Calls Try.prog 4 #[.slice av l.length cap, .slice sa0 ss.length scap0, .int .i64 cut, .int .i64 a, .int .i64 b] w fun e w' => e = .returned (.bool true) ∧ Ext w w' := by
  have HT := hid (Terms_any av cap l w hl hr)
  obtain ⟨hn0, hn1⟩ := terms_len l
  have HO := hid (fun j (h : j < (terms l).length) => One.of l h)
  have HMD := hid (terms_made l)
  have HFN := hid (terms_fine l)
  have HI := hid (itoa_tab hT)
  have HN := hid (nums_tab T)
  have HSC := hid hsr
  have i3 : (Try.prog.info? 3).map (fun i => (i.zero, i.size, i.bytes)) = some (some (.int .i64 0), 1, 8) := by kernel_rfl
  obtain ⟨j0, hi', hz0', hz1', hz2'⟩ := info_parts i3
  have HIN := hid (And.intro hi' (And.intro hz0' (And.intro hz1' hz2')))
  clear hr hl hT hsr i3 hi' hz0' hz1' hz2' hsl
  generalize itoaT T = f at *
  generalize terms l = ts at *
  go_enter Try.func4, Try.ntmps4
  go_wp2_with fail
  refine HT.out.mono ?_
  rintro e w1 ⟨v, rfl, hown, hE1⟩
  obtain ⟨g, cap2, hv, hg⟩ := hown.form hn0
  subst hv
  have hcap : ts.length ≤ cap2 := by
    obtain ⟨a5, c5, e5, h5, _⟩ := own_row hown
    cases e5
    exact h5
  have HRD := hid (rd_own hown (by simp))
  have HE1 := hid hE1
  clear hown hg hE1 HT
  go_wp2_with fail
  go_loopw [12, 13] (fun sv iv wr => ∃ j : Nat, iv = .int .i64 j ∧ j ≤ ss.length ∧ j ≤ 3 ∧ Hid (Ext w1 wr) ∧ Hid (wr.ownsRow w1.heap.size 3 1 sv j ((secL (ss.take j)).map (Value.int .i64)))) (fun _ iv _ => 3 - (intOf iv).toNat)
  case atStart => exact ⟨0, rfl, by omega, by omega, hid (Ext.refl _), hid (World.ownsRow_nil _ _ _ _)⟩
  case round =>
    obtain ⟨j, rfl, hj, hj3, HX, HS⟩ := hrel
    by_cases hlt : j < ss.length ∧ j < 3
    · obtain ⟨hlt1, hlt3⟩ := hlt
      have i1 : (j : Int) < (ss.length : Int) := by omega
      have i3 : (j : Int) < 3 := by omega
      obtain ⟨b, o, rfl, hc⟩ := HSC.out j hlt1
      have q0 := HX.out.cell (HE1.out.cell hc)
      have HSX := hid (secL_succ hlt1 hlt3)
      have HO1 := hid (fun ob => own_ext ((Ext.refl wr).alloc' ob) HS.out)
      have hsz : w1.heap.size ≤ wr.heap.size := HX.out.size
      clear hc
      generalize ss[j] = x at *
      go_wp2_with fail
      refine (pick_any x 9 _ (by omega) (by omega)).mono ?_
      rintro e w2 ⟨rfl, rfl⟩
      go_wp2_with (first
        | (at_builtin; refine wpList_append_lies _ rfl (.tmp 32) (.tmp 39) _ rfl w1.heap.size 3 j0 (.int .i64 0) 1 8 Try.underlying23 HIN.out.1 HIN.out.2.1 HIN.out.2.2.1 HIN.out.2.2.2 rfl (by omega) u12 j ((secL (ss.take j)).map (Value.int .i64)) (by rfl) (HO1.out _) ⟨wr.heap.size, 0, none⟩ 1 1 [.int .i64 (1 + x % 9)] (by rfl) (by rfl) (World.news_of_block (blk_new wr _)) (by intro u hu; simp at hu; subst hu; rfl) (by omega) (by unfold maxLen; omega) (by omega) (by simp; omega) (wr.heap.size + 1) (by simp) ?_; intro g2 cap3 w2 hown hgrow hat hlt2))
      have HF := hid (Below.grown (HX.out.alloc' _) hgrow (by simp; omega) (fun k hk => (HS.out.lt k hk).1))
      have HO2 := hid hown
      clear hown hgrow hat q0
      go_roundw
      case rel => exact ⟨j + 1, by go_num, by omega, by omega, HF, hid (by rw [HSX.out, List.map_append]; exact HO2.out)⟩
      case measure => simp [intOf]; omega
    · obtain ⟨hse, hjl⟩ := secL_end hj hj3 hlt
      have hso := HS.out
      rw [hse] at hso
      obtain ⟨sa, scap, hsv, hsc, hrd⟩ := own_row hso
      subst hsv
      have HSR := hid hrd
      have HE2 := hid (HE1.out.trans HX.out)
      have HRD2 := hid (HRD.out.later HX.out)
      have hslen := secL_len ss
      have HSOK := hid (secL_ok ss)
      have hcs : ¬ (j : Int) < (ss.length : Int) ∨ ((j : Int) < (ss.length : Int) ∧ ¬ (j : Int) < 3) := by omega
      have HOWN := hid hso
      clear hse hso hrd HS hj hj3 hlt HE1 HRD HX HSC
      generalize secL ss = sl at *
      subst hjl
      rcases hcs with hcs | ⟨hcs, hcs3⟩
      all_goals
      go_wp2_with fail
      refine (pick_any cut (ts.length + 1) _ (by omega) (by omega)).mono ?_
      rintro e w2 ⟨rfl, rfl⟩
      obtain ⟨n, hn, hn'⟩ : ∃ n : Nat, cut % ((ts.length : Int) + 1) = (n : Int) ∧ n < ts.length + 1 := by
        have h1 := Int.emod_nonneg cut (b := (ts.length : Int) + 1) (by omega)
        have h2 := Int.emod_lt_of_pos cut (b := (ts.length : Int) + 1) (by omega)
        exact ⟨(cut % ((ts.length : Int) + 1)).toNat, by omega, by omega⟩
      rw [hn]
      have hnc : n ≤ cap2 := by omega
      have HNEW := hid (new_take HN.out HMD.out HFN.out hn1 HI.out HE2.out (ts.map (nm f)) (by simp; omega) (univ_ts HN.out HMD.out) (fun t ht => List.mem_map_of_mem ht) HSOK.out (by omega) HSR.out HRD2.out (show n ≤ ts.length by omega) scap cap2)
      go_wp2_with fail
      refine HNEW.out.mono ?_
      rintro e w3 ⟨k, v, rfl, hE3, hq1, hq2, hq3, hq4, hB⟩
      have HE3 := hid (HE2.out.trans hE3)
      have HRD3 := hid (HRD2.out.later hE3)
      have HB := hid hB
      clear hE3 hB HE2 HRD2 HNEW HSR HOWN hq1 hq2 hq3 hq4
      go_wp2_with fail
      refine (known13 HN.out w3 (HI.out.later HE3.out)).mono ?_
      rintro e w4 ⟨rfl, hE4⟩
      have HE4 := hid (HE3.out.trans hE4)
      have HRD4 := hid (HRD3.out.later hE4)
      have HB4 := hid (HB.out.later hE4)
      clear hE4 HE3 HRD3 HB
      obtain ⟨i, hi, hi'⟩ := idx_of a ts.length hn0
      obtain ⟨j, hj, hj'⟩ := idx_of b ts.length hn0
      obtain ⟨x, ux, vx, hx⟩ := HO.out i hi'
      obtain ⟨y, uy, vy, hy⟩ := HO.out j hj'
      have cx := hx.cell HRD4.out
      have cy := hy.cell HRD4.out
      have ii : (i : Int) < (ts.length : Int) := by omega
      have jj : (j : Int) < (ts.length : Int) := by omega
      obtain ⟨m1, m2, m3⟩ := makes HN.out HMD.out (sec := v.x) HB4.out.S hx.lit.ok hy.lit.ok
      obtain ⟨cX, hcX⟩ : ∃ c, can f v.x v.S x = c := ⟨_, rfl⟩
      obtain ⟨cY, hcY⟩ : ∃ c, can f v.x v.S y = c := ⟨_, rfl⟩
      rw [hcX, hcY] at m1 m2 m3
      obtain ⟨bo, hbo⟩ : ∃ c, (cX && cY) = c := ⟨_, rfl⟩
      rw [hbo] at m1 m2 m3
      have HBO := hid hbo
      clear hbo
      have sx := hx.sz; have sy := hy.sz
      have hvx := hx.val; have hvy := hy.val
      have s9 : P0 9 := by unfold P0; omega
      have s99 : P0 99 := by unfold P0; omega
      have s77 : Tm.ok P0 (.atom 77) := by show Small 77; unfold Small; omega
      have ox := hx.lit.ok; have oy := hy.lit.ok
      have H1 := hid (can_val HI.out HE4.out HB4.out.at_ hvx ox (by omega) hcX)
      have H2 := hid (can_val HI.out HE4.out HB4.out.at_ hvy oy (by omega) hcY)
      have H3 := hid (can_val HI.out HE4.out HB4.out.at_ (t := .digest (.digest (.digest x y) (.atom 77)) y) (V := .iface 35 (.agg #[.iface 35 (.agg #[.iface 35 (.agg #[.iface ux vx, .iface uy vy]), .iface 37 (.agg #[.int .i64 77])]), .iface uy vy])) (by simp [Tm.val, hvx, hvy]) ⟨⟨⟨ox, oy⟩, s77⟩, oy⟩ (by simp only [sz]; omega) m1)
      have H4 := hid (can_val HI.out HE4.out HB4.out.at_ (t := .box x 99 y x) (V := .iface 39 (.agg #[.iface ux vx, .int .i64 99, .iface uy vy, .iface ux vx])) (by simp [Tm.val, hvx, hvy]) ⟨s99, ox, oy, ox⟩ (by simp only [sz]; omega) m2)
      have H5 := hid (can_val HI.out HE4.out HB4.out.at_ (t := .chain 9 x y) (V := .iface 41 (.agg #[.int .i64 9, .iface ux vx, .iface uy vy])) (by simp [Tm.val, hvx, hvy]) ⟨s9, ox, oy⟩ (by simp only [sz]; omega) m3)
      have HII := hid hi; have HJJ := hid hj
      clear hx hy hvx hvy hi hj m1 m2 m3 hcX hcY sx sy s9 s99 s77 ox oy HO HMD HFN HB4 HRD4 hn hn' hnc
      go_wp2_with fail
      refine (pick_any _ _ _ (by omega) (by omega)).mono ?_
      rintro e w' ⟨rfl, rfl⟩
      rw [HII.out]
      go_wp2_with fail
      refine (pick_any _ _ _ (by omega) (by omega)).mono ?_
      rintro e w' ⟨rfl, rfl⟩
      rw [HJJ.out]
      clear cx
      go_wp2_with fail
      refine (H1.out _ (Ext.refl _)).mono ?_
      rintro e w5 ⟨rfl, hE5⟩
      have HE5 := hid hE5
      clear hE5 cy
      cases cX
      · obtain rfl : bo = false := HBO.out.symm
        go_wp2_with fail
        have hE6 : Ext w5 ((w5.alloc (.cells #[.iface 35 (.agg #[.iface 35 (.agg #[.iface ux vx, .iface uy vy]), .iface 37 (.agg #[.int .i64 77])]), .iface uy vy] 35 (0, 0))).alloc (.cells #[.iface ux vx, .int .i64 99, .iface uy vy, .iface ux vx] 39 (0, 0))) := (Ext.alloc _ _).trans (Ext.alloc _ _)
        have hbk := blk_at (w := w5.alloc (.cells #[.iface 35 (.agg #[.iface 35 (.agg #[.iface ux vx, .iface uy vy]), .iface 37 (.agg #[.int .i64 77])]), .iface uy vy] 35 (0, 0))) (o := .cells #[.iface ux vx, .int .i64 99, .iface uy vy, .iface ux vx] 39 (0, 0)) (g := w5.heap.size + 1) (by simp)
        have HBK := hid hbk
        have HE6 := hid (HE5.out.trans hE6)
        clear hbk hE6
        generalize World.alloc _ _ = W6 at *
        generalize w5.heap.size + 1 = b1 at *
        generalize w5.heap.size = b0 at *
        refine (H3.out W6 HE6.out).mono ?_
        rintro e w7 ⟨rfl, hE7⟩
        have HE7 := hid (HE6.out.trans hE7)
        have d0 := cell_blk (j := 0) (hE7.blk HBK.out) rfl
        have d1 := cell_blk (j := 1) (hE7.blk HBK.out) rfl
        have d2 := cell_blk (j := 2) (hE7.blk HBK.out) rfl
        have d3 := cell_blk (j := 3) (hE7.blk HBK.out) rfl
        clear hE7 HBK HE6
        go_wp2_with fail
        refine (H4.out w7 HE7.out).mono ?_
        rintro e w8 ⟨rfl, hE8⟩
        have HE8 := hid (HE7.out.trans hE8)
        clear hE8 d0 d1 d2 d3 HE7
        go_wp2_with fail
        refine (H5.out w8 HE8.out).mono ?_
        rintro e w9 ⟨rfl, hE9⟩
        have HE9 := hid (HE8.out.trans hE9)
        clear hE9 HE8
        go_wp2_with fail
        go_ret
        exact ⟨rfl, HE4.out.trans HE9.out⟩
      · go_wp2_with fail
        refine (H2.out w5 HE5.out).mono ?_
        rintro e w6 ⟨rfl, hE5b⟩
        have HE5b := hid (HE5.out.trans hE5b)
        clear hE5b
        cases cY
        · obtain rfl : bo = false := HBO.out.symm
          go_wp2_with fail
          have hE6 : Ext w6 ((w6.alloc (.cells #[.iface 35 (.agg #[.iface 35 (.agg #[.iface ux vx, .iface uy vy]), .iface 37 (.agg #[.int .i64 77])]), .iface uy vy] 35 (0, 0))).alloc (.cells #[.iface ux vx, .int .i64 99, .iface uy vy, .iface ux vx] 39 (0, 0))) := (Ext.alloc _ _).trans (Ext.alloc _ _)
          have hbk := blk_at (w := w6.alloc (.cells #[.iface 35 (.agg #[.iface 35 (.agg #[.iface ux vx, .iface uy vy]), .iface 37 (.agg #[.int .i64 77])]), .iface uy vy] 35 (0, 0))) (o := .cells #[.iface ux vx, .int .i64 99, .iface uy vy, .iface ux vx] 39 (0, 0)) (g := w6.heap.size + 1) (by simp)
          have HBK := hid hbk
          have HE6 := hid (HE5b.out.trans hE6)
          clear hbk hE6
          generalize World.alloc _ _ = W6 at *
          generalize w6.heap.size + 1 = b1 at *
          generalize w6.heap.size = b0 at *
          refine (H3.out W6 HE6.out).mono ?_
          rintro e w7 ⟨rfl, hE7⟩
          have HE7 := hid (HE6.out.trans hE7)
          have d0 := cell_blk (j := 0) (hE7.blk HBK.out) rfl
          have d1 := cell_blk (j := 1) (hE7.blk HBK.out) rfl
          have d2 := cell_blk (j := 2) (hE7.blk HBK.out) rfl
          have d3 := cell_blk (j := 3) (hE7.blk HBK.out) rfl
          clear hE7 HBK HE6
          go_wp2_with fail
          refine (H4.out w7 HE7.out).mono ?_
          rintro e w8 ⟨rfl, hE8⟩
          have HE8 := hid (HE7.out.trans hE8)
          clear hE8 d0 d1 d2 d3 HE7
          go_wp2_with fail
          refine (H5.out w8 HE8.out).mono ?_
          rintro e w9 ⟨rfl, hE9⟩
          have HE9 := hid (HE8.out.trans hE9)
          clear hE9 HE8
          go_wp2_with fail
          go_ret
          exact ⟨rfl, HE4.out.trans HE9.out⟩
        · obtain rfl : bo = true := HBO.out.symm
          go_wp2_with fail
          have hE6 : Ext w6 ((w6.alloc (.cells #[.iface 35 (.agg #[.iface 35 (.agg #[.iface ux vx, .iface uy vy]), .iface 37 (.agg #[.int .i64 77])]), .iface uy vy] 35 (0, 0))).alloc (.cells #[.iface ux vx, .int .i64 99, .iface uy vy, .iface ux vx] 39 (0, 0))) := (Ext.alloc _ _).trans (Ext.alloc _ _)
          have hbk := blk_at (w := w6.alloc (.cells #[.iface 35 (.agg #[.iface 35 (.agg #[.iface ux vx, .iface uy vy]), .iface 37 (.agg #[.int .i64 77])]), .iface uy vy] 35 (0, 0))) (o := .cells #[.iface ux vx, .int .i64 99, .iface uy vy, .iface ux vx] 39 (0, 0)) (g := w6.heap.size + 1) (by simp)
          have HBK := hid hbk
          have HE6 := hid (HE5b.out.trans hE6)
          clear hbk hE6
          generalize World.alloc _ _ = W6 at *
          generalize w6.heap.size + 1 = b1 at *
          generalize w6.heap.size = b0 at *
          refine (H3.out W6 HE6.out).mono ?_
          rintro e w7 ⟨rfl, hE7⟩
          have HE7 := hid (HE6.out.trans hE7)
          have d0 := cell_blk (j := 0) (hE7.blk HBK.out) rfl
          have d1 := cell_blk (j := 1) (hE7.blk HBK.out) rfl
          have d2 := cell_blk (j := 2) (hE7.blk HBK.out) rfl
          have d3 := cell_blk (j := 3) (hE7.blk HBK.out) rfl
          clear hE7 HBK HE6
          go_wp2_with fail
          refine (H4.out w7 HE7.out).mono ?_
          rintro e w8 ⟨rfl, hE8⟩
          have HE8 := hid (HE7.out.trans hE8)
          clear hE8 d0 d1 d2 d3 HE7
          go_wp2_with fail
          refine (H5.out w8 HE8.out).mono ?_
          rintro e w9 ⟨rfl, hE9⟩
          have HE9 := hid (HE8.out.trans hE9)
          clear hE9 HE8
          go_wp2_with fail
          go_ret
          exact ⟨rfl, HE4.out.trans HE9.out⟩

end Go.Proofs.Ytegmnbcfanjocaa
