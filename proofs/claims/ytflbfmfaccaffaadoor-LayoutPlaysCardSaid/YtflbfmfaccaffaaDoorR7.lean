/-
  The document's rect and Split.
-/
import Derived.Test.YtflbfmfaccaffaaDoorR6
namespace Go.Proofs.YtflbfmfaccaffaaDoor
open Go Go.RowKit
attribute [local go_sem] extUpon
attribute [local go_sem ↓] eval_put_ne eval_put_none eval_put_same size_put eval_const

theorem first_idx {p : Int} : ∀ {l : List Int}, p ∈ l → ∃ i : Nat, l[i]? = some p ∧ ∀ j : Nat, j < i → l[j]? ≠ some p
  | [], h => by cases h
  | q :: l, h => by
    by_cases hq : q = p
    · exact ⟨0, by simp [hq], fun j hj => by omega⟩
    · have hp : p ∈ l := by simpa [Ne.symm hq] using h
      obtain ⟨i, h1, h2⟩ := first_idx hp
      refine ⟨i + 1, by simpa using h1, fun j hj => ?_⟩
      cases j with
      | zero => simp [hq]
      | succ j => simpa using h2 j (by omega)

set_option maxHeartbeats 2000000 in
set_option maxRecDepth 100000 in
theorem rect_any (t : LT) (p rows cols : Int) (w : World) (h : RtAt w t) (hz : t.size ≤ 1000) (h1 : rows ≤ 1000000) (h2 : cols ≤ 1000000) (hp : p ∈ t.panes) :
    Calls Tryd.prog 46 #[ptr t.b, .int .i64 p, .int .i64 rows, .int .i64 cols] w fun e w' => e = .returned (t.tipBox p (allB rows cols)).val ∧ Ext w w' := by
  have HP := hid (fun w' (he : Ext w w') => rpanes_any t w' (h.ext he) hz)
  have HL := hid (fun w' (he : Ext w w') => Placesr_any t rows cols w' (h.ext he) hz h1 h2)
  obtain ⟨i0, hi1, hi2⟩ := first_idx hp
  have hpl := hid (first_place p t (allB rows cols) i0 hi1 hi2)
  have hlen := panes_len_size t
  have hpos := panes_pos t
  have hi0 : i0 < t.panes.length := (List.getElem?_eq_some_iff.1 hi1).1
  have hlp := panes_len t (allB rows cols)
  replace hi1 := hid hi1
  replace hi2 := hid hi2
  clear h h1 h2 hp
  generalize t.tipBox p (allB rows cols) = bx at *
  generalize t.places (allB rows cols) = pl at *
  generalize t.panes = ps at *
  generalize allB rows cols = R at *
  generalize t.b = b at *
  unfold ptr at *
  go_enter Tryd.func46, Tryd.ntmps46
  go_wp2_with fail
  have hb0 := blk_new w (.cells #[.int .i64 0, .int .i64 0, .int .i64 0, .int .i64 0] 32 (0, 0))
  refine (HP.out _ (Ext.alloc _ _)).mono ?_
  rintro e w1 ⟨v, rfl, hown, hE1⟩
  obtain ⟨g, cap, rfl, hg, hc⟩ := panes_row hown hpos
  have HB1 := hid (hE1.blk hb0)
  have HE1 := hid ((Ext.alloc w _).trans hE1)
  replace hc := hid hc
  clear hown hE1 hb0 hg
  go_wp2_with fail
  refine (HL.out w1 HE1.out).mono ?_
  rintro e w2 ⟨v2, rfl, hown, hE2⟩
  obtain ⟨a2, cap2, rfl, hc2⟩ := own_form hown
  obtain ⟨g2, rfl, hcc2⟩ := hc2 (by omega)
  have HC : Hid (∀ j (hj : j < ps.length), w2.cell? ⟨g, j, none⟩ = some (.int .i64 ps[j])) := hid (fun j hj => hE2.cell (hc.out j hj))
  have HC2 := hid hcc2
  have HB2 := hid (hE2.blk HB1.out)
  have HE2 := hid (HE1.out.trans hE2)
  clear hown hE2 hc2 hcc2 hc HB1 HE1 HP HL
  go_wp2_with fail
  go_loopw [11] (fun i wr => ∃ k : Nat, i = .int .i64 k ∧ k ≤ i0 ∧ Hid (Ext w2 wr)) (fun i _ => i0 - (intOf i).toNat)
  case atStart => exact ⟨0, rfl, by omega, hid (Ext.refl _)⟩
  case round =>
    obtain ⟨k, rfl, hk, hE⟩ := hrel
    have hlt2 : (k : Int) < (ps.length : Int) := by omega
    have hkl : k < ps.length := by omega
    have c0 := hE.out.cell (HC.out k hkl)
    by_cases hlt : k < i0
    · have hne : ¬ ps[k] = p := fun e => hi2.out k hlt (by rw [List.getElem?_eq_getElem hkl, e])
      generalize ps[k] = q at *
      go_wp2_with fail
      go_roundw
      case rel => exact ⟨k + 1, by go_num, by omega, hE⟩
      case measure => simp [intOf]; omega
    · have hki : k = i0 := by omega
      subst hki
      have heq : ps[k] = p := by have := hi1.out; rw [List.getElem?_eq_getElem hkl] at this; simpa using this
      rw [heq] at c0
      have e0 : w2.cell? ⟨g2, k * 4, none⟩ = some (.int .i64 bx.row) := HC2.out _ _ (vals_at hpl.out 0 _ rfl)
      have e1 : w2.cell? ⟨g2, k * 4 + 1, none⟩ = some (.int .i64 bx.col) := HC2.out _ _ (vals_at hpl.out 1 _ rfl)
      have e2 : w2.cell? ⟨g2, k * 4 + 2, none⟩ = some (.int .i64 bx.rows) := HC2.out _ _ (vals_at hpl.out 2 _ rfl)
      have e3 : w2.cell? ⟨g2, k * 4 + 3, none⟩ = some (.int .i64 bx.cols) := HC2.out _ _ (vals_at hpl.out 3 _ rfl)
      replace e0 := hE.out.cell e0
      replace e1 := hE.out.cell e1
      replace e2 := hE.out.cell e2
      replace e3 := hE.out.cell e3
      have hb3 := hE.out.blk HB2.out
      have HE3 := hid (HE2.out.trans hE.out)
      have z0 : ∀ j, wr.frozen? ⟨w.heap.size, j, none⟩ = false := fun j => by simp [World.frozen?, hb3]
      have y0 : wr.cell? ⟨w.heap.size, 0, none⟩ = some (.int .i64 0) := cell_blk (j := 0) hb3 rfl
      have y1 : wr.cell? ⟨w.heap.size, 1, none⟩ = some (.int .i64 0) := cell_blk (j := 1) hb3 rfl
      have y2 : wr.cell? ⟨w.heap.size, 2, none⟩ = some (.int .i64 0) := cell_blk (j := 2) hb3 rfl
      have y3 : wr.cell? ⟨w.heap.size, 3, none⟩ = some (.int .i64 0) := cell_blk (j := 3) hb3 rfl
      have HB3 := hid hb3
      clear hb3 HC HC2 hE HE2 HB2
      go_wp2_with fail
      have hb4 := set4_blk (a := .int .i64 bx.row) (b := .int .i64 bx.col) (c := .int .i64 bx.rows) (d := .int .i64 bx.cols) HB3.out
      have hE4 := set4_ext (q := w.heap.size) (a := .int .i64 bx.row) (b := .int .i64 bx.col) (c := .int .i64 bx.rows) (d := .int .i64 bx.cols) HE3.out (Nat.le_refl _)
      unfold set4 at hb4 hE4
      generalize World.setCell _ _ _ = W4 at *
      have q0 := cell_blk (j := 0) hb4 rfl
      have q1 := cell_blk (j := 1) hb4 rfl
      have q2 := cell_blk (j := 2) hb4 rfl
      have q3 := cell_blk (j := 3) hb4 rfl
      unfold Bx.val
      simp [bodyPost, results, Tryd.results46, go_sem, q0, q1, q2, q3, hE4]

theorem run_build_rleaf (p : Int) (w : World) : (Instr.build 48 #[(0, .int .i64 p)]).run Tryd.prog w = .ok (.agg #[.int .i64 p, .bool false, .int .i64 0, .pointer none, .pointer none]) w := by kernel_rfl
theorem run_build_rpair (x y : Nat) (a : Bool) (k : Int) (w : World) : (Instr.build 48 #[(1, .bool a), (2, .int .i64 k), (3, .pointer (some ⟨x, 0, none⟩)), (4, .pointer (some ⟨y, 0, none⟩))]).run Tryd.prog w = .ok (.agg #[.int .i64 0, .bool a, .int .i64 k, .pointer (some ⟨x, 0, none⟩), .pointer (some ⟨y, 0, none⟩)]) w := by kernel_rfl
attribute [local go_sem ↓] run_build_rleaf run_build_rpair

theorem seek_dec (p : Int) (t : LT) : (p ∈ t.panes → t.seek p = some (t.tip p).b) ∧ (p ∉ t.panes → t.seek p = none) := ⟨seek_some p t, seek_none p t⟩

set_option maxHeartbeats 4000000 in
set_option maxRecDepth 100000 in
theorem rSplit_any (B : Nat) (t : LT) (p more rows cols : Int) (across : Bool) (w : World) (h : RTr B w t) (h1 : rows ≤ 1000000) (h2 : cols ≤ 1000000)
    (hm : -9223372036854775808 ≤ more ∧ more ≤ 9223372036854775807) (hB : B ≤ w.heap.size) :
    Calls Tryd.prog 25 #[ptr t.b, .int .i64 p, .int .i64 more, .bool across, .int .i64 rows, .int .i64 cols] w fun e w' => ∃ b1 b2, e = .returned (.int .i64 (t.split p more across (allB rows cols) b1 b2).1) ∧
      RTr B w' (t.split p more across (allB rows cols) b1 b2).2 ∧ Wr t (t.split p more across (allB rows cols) b1 b2).2 w w' ∧ (t.split p more across (allB rows cols) b1 b2).2.b = t.b := by
  have HP := hid (fun w' (he : Ext w w') => rfind_any p t w' (h.ext he).at_)
  have HM := hid (fun w' (he : Ext w w') => rfind_any more t w' (h.ext he).at_)
  have HL := hid (fun w' (he : Ext w w') => rpanes_any t w' (h.ext he).at_ h.size)
  have HRC := hid (fun w' (he : Ext w w') (hp : p ∈ t.panes) => rect_any t p rows cols w' (h.ext he).at_ h.size h1 h2 hp)
  have hbok := tipBox_ok p t _ (allB_ok h1 h2)
  have HH := hid h
  have HMM := hid hm
  have HBB := hid hB
  clear h h1 h2 hm hB
  generalize allB rows cols = R at *
  have hlen : t.panes.length ≤ 12 := HH.out.many
  have hpos := panes_pos t
  unfold ptr at *
  by_cases hp : p ∈ t.panes
  · rw [seek_some p t hp] at HP
    by_cases hmo : more ∈ t.panes
    · have HS : Hid (∀ b1 b2, t.split p more across R b1 b2 = (15, t)) := hid (fun b1 b2 => by simp [LT.split, hp, hmo])
      rw [seek_some more t hmo] at HM
      unfold optr at *
      clear hp hmo
      generalize hbb : t.b = bb at *
      go_enter Tryd.func25, Tryd.ntmps25
      go_wp2_with fail
      refine (HP.out _ (Ext.refl _)).mono ?_
      rintro e w1 ⟨rfl, rfl⟩
      go_wp2_with fail
      refine (HM.out _ (Ext.refl _)).mono ?_
      rintro e w2 ⟨rfl, rfl⟩
      go_wp2_with fail
      go_ret
      exact ⟨0, 0, by rw [HS.out]; rfl, by rw [HS.out]; exact HH.out, by rw [HS.out]; exact Wr.of_ext (Ext.refl _), by rw [HS.out]; exact hbb⟩
    · rw [seek_none more t hmo] at HM
      by_cases hfull : 12 ≤ t.panes.length
      · have HS : Hid (∀ b1 b2, t.split p more across R b1 b2 = (2, t)) := hid (fun b1 b2 => by simp [LT.split, hp, hmo, hfull])
        unfold optr at *
        clear hp hmo
        generalize hbb : t.b = bb at *
        go_enter Tryd.func25, Tryd.ntmps25
        go_wp2_with fail
        refine (HP.out _ (Ext.refl _)).mono ?_
        rintro e w1 ⟨rfl, rfl⟩
        go_wp2_with fail
        refine (HM.out _ (Ext.refl _)).mono ?_
        rintro e w2 ⟨rfl, rfl⟩
        go_wp2_with fail
        refine (HL.out _ (Ext.refl _)).mono ?_
        rintro e w3 ⟨v, rfl, hown, hE3⟩
        obtain ⟨sa, cap, rfl, _⟩ := own_form hown
        clear hown
        go_wp2_with fail
        go_ret
        exact ⟨0, 0, by rw [HS.out]; rfl, by rw [HS.out]; exact HH.out.ext hE3, by rw [HS.out]; exact Wr.of_ext hE3, by rw [HS.out]; exact hbb⟩
      · obtain ⟨tib, htib⟩ := tip_leaf p t hp
        have HTI := hid htib
        have hbb0 : Hid ((t.tip p).b = tib) := hid (by rw [htib]; rfl)
        have HS := hid (fun b1 b2 => show t.split p more across R b1 b2 = if wide across (t.tipBox p R) < 3 then (17, t) else (0, plug (t.path p) (.node (t.tip p).b (.leaf b1 p) (.leaf b2 more) across (wide across (t.tipBox p R) / 2))) from by simp [LT.split, hp, hmo, hfull])
        have HNP := hid hmo
        replace HRC := hid (fun w' (he : Ext w w') => HRC.out w' he hp)
        rw [hbb0.out] at HP
        unfold optr at *
        clear hp hmo htib
        have hd0 : 0 ≤ wide across (t.tipBox p R) ∧ wide across (t.tipBox p R) ≤ 1000000 := by
          obtain ⟨g0, g1, g2, g3, g4, g5⟩ := hbok
          unfold wide; split <;> omega
        obtain ⟨hd1, hd2⟩ := hd0
        clear hbok
        generalize hbx : t.tipBox p R = bx at *
        have hwd : Hid ((across = true → bx.cols = wide across bx) ∧ (across = false → bx.rows = wide across bx)) := hid ⟨fun h => by simp [wide, h], fun h => by simp [wide, h]⟩
        generalize wide across bx = d at *
        generalize hbb : t.b = bb at *
        unfold Bx.val at *
        go_enter Tryd.func25, Tryd.ntmps25
        go_wp2_with fail
        refine (HP.out _ (Ext.refl _)).mono ?_
        rintro e w1 ⟨rfl, rfl⟩
        go_wp2_with fail
        refine (HM.out _ (Ext.refl _)).mono ?_
        rintro e w2 ⟨rfl, rfl⟩
        go_wp2_with fail
        refine (HL.out _ (Ext.refl _)).mono ?_
        rintro e w3 ⟨v, rfl, hown, hE3⟩
        obtain ⟨sa, cap, rfl, _⟩ := own_form hown
        clear hown
        go_wp2_with fail
        refine (HRC.out _ hE3).mono ?_
        rintro e w4 ⟨rfl, hE4⟩
        replace hE4 := hE3.trans hE4
        clear hE3
        have HTL : Hid (w4.heap[tib]? = some (.cells #[.int .i64 p, .bool false, .int .i64 0, .pointer none, .pointer none] 48 (0, 0))) := hid (by
          have h5 := (HH.out.ext hE4).at_
          rw [← plug_path p t, HTI.out] at h5
          exact rplug_at h5)
        have y0 : ∀ o o2 o3, (((w4.alloc o).alloc o2).alloc o3).cell? ⟨tib, 0, none⟩ = some (.int .i64 p) := fun o o2 o3 => (((Ext.alloc w4 o).alloc' o2).alloc' o3).cell (cell_blk HTL.out rfl)
        have y1 : ∀ o o2 o3, (((w4.alloc o).alloc o2).alloc o3).cell? ⟨tib, 1, none⟩ = some (.bool false) := fun o o2 o3 => (((Ext.alloc w4 o).alloc' o2).alloc' o3).cell (cell_blk HTL.out rfl)
        have y2 : ∀ o o2 o3, (((w4.alloc o).alloc o2).alloc o3).cell? ⟨tib, 2, none⟩ = some (.int .i64 0) := fun o o2 o3 => (((Ext.alloc w4 o).alloc' o2).alloc' o3).cell (cell_blk HTL.out rfl)
        have y3 : ∀ o o2 o3, (((w4.alloc o).alloc o2).alloc o3).cell? ⟨tib, 3, none⟩ = some (.pointer none) := fun o o2 o3 => (((Ext.alloc w4 o).alloc' o2).alloc' o3).cell (cell_blk HTL.out rfl)
        have y4 : ∀ o o2 o3, (((w4.alloc o).alloc o2).alloc o3).cell? ⟨tib, 4, none⟩ = some (.pointer none) := fun o o2 o3 => (((Ext.alloc w4 o).alloc' o2).alloc' o3).cell (cell_blk HTL.out rfl)
        have z1 : ∀ o o2 o3 j, (((w4.alloc o).alloc o2).alloc o3).frozen? ⟨tib, j, none⟩ = false := fun o o2 o3 j => by
          have h5 := (((Ext.alloc w4 o).alloc' o2).alloc' o3).blk HTL.out
          simp [World.frozen?, h5]
        have v0 : d.tdiv 2 = d / 2 := Int.tdiv_eq_ediv_of_nonneg hd1
        have v1 : IntKind.i64.wrap (d / 2) = d / 2 := by rw [IntKind.wrap_i64]; omega
        cases across
        · have hw := hwd.out.2 rfl
          clear hwd
          by_cases hsm : d < 3
          · go_wp2_with fail
            go_ret
            have HS3 := fun b1 b2 => (HS.out b1 b2).trans (if_pos hsm)
            exact ⟨0, 0, by rw [HS3]; rfl, by rw [HS3]; exact HH.out.ext (hE4.alloc' _), by rw [HS3]; exact Wr.of_ext (hE4.alloc' _), by rw [HS3]; exact hbb⟩
          · go_wp2_with fail
            go_ret
            have HS3 := fun b1 b2 => (HS.out b1 b2).trans (if_neg (by omega))
            refine ⟨w4.heap.size + 1, w4.heap.size + 1 + 1, by rw [HS3]; rfl, ?_⟩
            rw [HS3, HTI.out]
            have hpl : plug (t.path p) (.leaf tib p) = t := by rw [← HTI.out]; exact plug_path p t
            have htl : tib < w2.heap.size := HH.out.at_.lt tib (by rw [← hpl]; exact (plug_blocks _ _).mem_iff.2 (List.mem_append_right _ (by simp [LT.blocks])))
            have hs4 := hE4.size
            have hT : RTr B w2 (plug (t.path p) (.leaf tib p)) := by rw [hpl]; exact HH.out
            generalize hW : World.alloc (World.alloc (World.alloc w4 _) _) _ = W
            have hEW : Ext w4 W := by rw [← hW]; exact ((Ext.alloc _ _).alloc' _).alloc' _
            have F1 : W.heap[w4.heap.size + 1]? = some (.cells (LT.leaf (w4.heap.size + 1) p).rcells 48 (0, 0)) := by rw [← hW]; exact (Ext.alloc _ _).blk (blk_at (by simp))
            have F2 : W.heap[w4.heap.size + 1 + 1]? = some (.cells (LT.leaf (w4.heap.size + 1 + 1) more).rcells 48 (0, 0)) := by rw [← hW]; exact blk_at (by simp)
            have hres := RTr.turn (s' := .node tib (.leaf (w4.heap.size + 1) p) (.leaf (w4.heap.size + 1 + 1) more) false (d / 2)) hT (hE4.trans hEW) (set5_set1 W tib (.int .i64 0) (.bool false) (.int .i64 (d / 2)) (.pointer (some ⟨w4.heap.size + 1, 0, none⟩)) (.pointer (some ⟨w4.heap.size + 1 + 1, 0, none⟩))) (set5_blk (hEW.blk HTL.out)) rfl
              ⟨F1, F2⟩
              (by intro k hk; simp [LT.blocks] at hk ⊢; omega) HBB.out (by simp [LT.blocks]; omega)
              ⟨by omega, plug_small' (s := .leaf tib p) (A := t.path p) (by rw [hpl]; exact HH.out.small), HMM.out⟩
              (by have h5 := plug_panes (t.path p) (.leaf tib p); rw [hpl] at h5; rw [plug_panes]; have h6 := congrArg List.length h5; simp [LT.panes] at h6 ⊢; omega)
            rw [hpl] at hres
            exact ⟨hres.1, hres.2, (plug_b (A := t.path p) (s := .leaf tib p) (s' := .node tib (.leaf (w4.heap.size + 1) p) (.leaf (w4.heap.size + 1 + 1) more) false (d / 2)) rfl).trans (by rw [hpl]; exact hbb)⟩
        · have hw := hwd.out.1 rfl
          clear hwd
          by_cases hsm : d < 3
          · go_wp2_with fail
            go_ret
            have HS3 := fun b1 b2 => (HS.out b1 b2).trans (if_pos hsm)
            exact ⟨0, 0, by rw [HS3]; rfl, by rw [HS3]; exact HH.out.ext (hE4.alloc' _), by rw [HS3]; exact Wr.of_ext (hE4.alloc' _), by rw [HS3]; exact hbb⟩
          · go_wp2_with fail
            go_ret
            have HS3 := fun b1 b2 => (HS.out b1 b2).trans (if_neg (by omega))
            refine ⟨w4.heap.size + 1, w4.heap.size + 1 + 1, by rw [HS3]; rfl, ?_⟩
            rw [HS3, HTI.out]
            have hpl : plug (t.path p) (.leaf tib p) = t := by rw [← HTI.out]; exact plug_path p t
            have htl : tib < w2.heap.size := HH.out.at_.lt tib (by rw [← hpl]; exact (plug_blocks _ _).mem_iff.2 (List.mem_append_right _ (by simp [LT.blocks])))
            have hs4 := hE4.size
            have hT : RTr B w2 (plug (t.path p) (.leaf tib p)) := by rw [hpl]; exact HH.out
            generalize hW : World.alloc (World.alloc (World.alloc w4 _) _) _ = W
            have hEW : Ext w4 W := by rw [← hW]; exact ((Ext.alloc _ _).alloc' _).alloc' _
            have F1 : W.heap[w4.heap.size + 1]? = some (.cells (LT.leaf (w4.heap.size + 1) p).rcells 48 (0, 0)) := by rw [← hW]; exact (Ext.alloc _ _).blk (blk_at (by simp))
            have F2 : W.heap[w4.heap.size + 1 + 1]? = some (.cells (LT.leaf (w4.heap.size + 1 + 1) more).rcells 48 (0, 0)) := by rw [← hW]; exact blk_at (by simp)
            have hres := RTr.turn (s' := .node tib (.leaf (w4.heap.size + 1) p) (.leaf (w4.heap.size + 1 + 1) more) true (d / 2)) hT (hE4.trans hEW) (set5_set1 W tib (.int .i64 0) (.bool true) (.int .i64 (d / 2)) (.pointer (some ⟨w4.heap.size + 1, 0, none⟩)) (.pointer (some ⟨w4.heap.size + 1 + 1, 0, none⟩))) (set5_blk (hEW.blk HTL.out)) rfl
              ⟨F1, F2⟩
              (by intro k hk; simp [LT.blocks] at hk ⊢; omega) HBB.out (by simp [LT.blocks]; omega)
              ⟨by omega, plug_small' (s := .leaf tib p) (A := t.path p) (by rw [hpl]; exact HH.out.small), HMM.out⟩
              (by have h5 := plug_panes (t.path p) (.leaf tib p); rw [hpl] at h5; rw [plug_panes]; have h6 := congrArg List.length h5; simp [LT.panes] at h6 ⊢; omega)
            rw [hpl] at hres
            exact ⟨hres.1, hres.2, (plug_b (A := t.path p) (s := .leaf tib p) (s' := .node tib (.leaf (w4.heap.size + 1) p) (.leaf (w4.heap.size + 1 + 1) more) true (d / 2)) rfl).trans (by rw [hpl]; exact hbb)⟩
  · have HS : Hid (∀ b1 b2, t.split p more across R b1 b2 = (3, t)) := hid (fun b1 b2 => by simp [LT.split, hp])
    rw [seek_none p t hp] at HP
    unfold optr at *
    clear hp
    generalize hbb : t.b = bb at *
    go_enter Tryd.func25, Tryd.ntmps25
    go_wp2_with fail
    refine (HP.out _ (Ext.refl _)).mono ?_
    rintro e w1 ⟨rfl, rfl⟩
    go_wp2_with fail
    go_ret
    exact ⟨0, 0, by rw [HS.out]; rfl, by rw [HS.out]; exact HH.out, by rw [HS.out]; exact Wr.of_ext (Ext.refl _), by rw [HS.out]; exact hbb⟩

end Go.Proofs.YtflbfmfaccaffaaDoor
