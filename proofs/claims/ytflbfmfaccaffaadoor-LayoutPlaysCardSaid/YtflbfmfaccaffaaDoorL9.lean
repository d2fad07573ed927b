/-
  New and Split.
-/
import Derived.Test.YtflbfmfaccaffaaDoorL8
namespace Go.Proofs.YtflbfmfaccaffaaDoor
open Go Go.RowKit
attribute [local go_sem] extUpon
attribute [local go_sem ↓] eval_put_ne eval_put_none eval_put_same size_put eval_const

theorem run_build_leaf (p : Int) (w : World) : (Instr.build 52 #[(0, .int .i64 p)]).run Tryd.prog w = .ok (.agg #[.int .i64 p, .pointer none, .pointer none, .bool false, .int .i64 0]) w := by kernel_rfl
theorem run_build_pair (x y : Nat) (a : Bool) (w : World) : (Instr.build 52 #[(1, .pointer (some ⟨x, 0, none⟩)), (2, .pointer (some ⟨y, 0, none⟩)), (3, .bool a)]).run Tryd.prog w = .ok (.agg #[.int .i64 0, .pointer (some ⟨x, 0, none⟩), .pointer (some ⟨y, 0, none⟩), .bool a, .int .i64 0]) w := by kernel_rfl
theorem run_build_tree2 (b : Nat) (w : World) : (Instr.build 54 #[(0, .pointer (some ⟨b, 0, none⟩))]).run Tryd.prog w = .ok (.agg #[.pointer (some ⟨b, 0, none⟩)]) w := by kernel_rfl
attribute [local go_sem ↓] run_build_leaf run_build_pair run_build_tree2

theorem New_any (p : Int) (w : World) (hp : -9223372036854775808 ≤ p ∧ p ≤ 9223372036854775807) :
    Calls Tryd.prog 10 #[.int .i64 p] w fun e w' => e = .returned (ptr (w.heap.size + 1)) ∧ Tr w.heap.size w' (w.heap.size + 1) (.leaf w.heap.size p) ∧ Ext w w' := by
  have HP := hid hp
  clear hp
  unfold ptr
  go_enter Tryd.func10, Tryd.ntmps10
  go_wp2_with fail
  go_ret
  refine ⟨rfl, ⟨⟨cell_blk (blk_at (by simp)) rfl, (Ext.alloc _ _).blk (blk_new _ _), HP.out, by simp [LT.size]⟩, by simp [LT.blocks], by simp [LT.blocks], by simp [LT.blocks], by omega, by simp [LT.panes]⟩, (Ext.alloc _ _).trans (Ext.alloc _ _)⟩

theorem Ext.set_far {w W : World} (h : Ext w W) {g : Nat} (hg : w.heap.size ≤ g) (j : Nat) (v : Value) : Ext w (W.setCell ⟨g, j, none⟩ v) :=
  ⟨h.os, h.tape, h.output, by simpa [World.setCell] using h.size, fun k hk => (Below.heap_setCell _ _ _ _ (by simp; omega)).trans (h.block k hk)⟩
def set5 (W : World) (q : Nat) (a b c d e : Value) : World := ((((W.setCell ⟨q, 0, none⟩ a).setCell ⟨q, 1, none⟩ b).setCell ⟨q, 2, none⟩ c).setCell ⟨q, 3, none⟩ d).setCell ⟨q, 4, none⟩ e
theorem set5_blk {W : World} {q : Nat} {x y z u v a b c d e : Value} {t : TypeId} {fr : Nat × Nat} (h : W.heap[q]? = some (.cells #[x, y, z, u, v] t fr)) : (set5 W q a b c d e).heap[q]? = some (.cells #[a, b, c, d, e] t fr) := by
  simp [set5, World.setCell, Array.getElem?_modify, h]
theorem set5_set1 (W : World) (q : Nat) (a b c d e : Value) : Set1 q W (set5 W q a b c d e) := (((((Set1.refl q W).set 0 a).set 1 b).set 2 c).set 3 d).set 4 e

/-- What Split does. -/
def LT.split (t : LT) (p more : Int) (across : Bool) (R : Bx) (b1 b2 : Nat) : Int × LT :=
  if p ∉ t.panes then (3, t)
  else if more ∈ t.panes then (15, t)
  else if 12 ≤ t.panes.length then (2, t)
  else if wide across (t.tipBox p R) < 3 then (17, t)
  else (0, plug (t.path p) (.node (t.tip p).b (.leaf b1 p) (.leaf b2 more) across (wide across (t.tipBox p R) / 2)))

theorem tipBox_ok (p : Int) : ∀ (t : LT) (r : Bx), r.ok → (t.tipBox p r).ok
  | .leaf .., _, h => h
  | .node b x y a k, r, h => by
    have := parts_ok (a := a) (k := k) h
    by_cases hp : p ∈ x.panes
    · simp only [LT.tipBox, hp, if_true]; exact tipBox_ok p x _ this.1
    · simp only [LT.tipBox, hp, if_false]; exact tipBox_ok p y _ this.2

set_option maxHeartbeats 4000000 in
set_option maxRecDepth 100000 in
theorem Split_any (B tb : Nat) (t : LT) (p more rows cols : Int) (across : Bool) (w : World) (h : Tr B w tb t) (h1 : rows ≤ 1000000) (h2 : cols ≤ 1000000)
    (hm : -9223372036854775808 ≤ more ∧ more ≤ 9223372036854775807) (hB : B ≤ w.heap.size) :
    Calls Tryd.prog 13 #[ptr tb, .int .i64 p, .int .i64 more, .bool across, .int .i64 rows, .int .i64 cols] w fun e w' => ∃ b1 b2, e = .returned (.int .i64 (t.split p more across (allB rows cols) b1 b2).1) ∧
      Tr B w' tb (t.split p more across (allB rows cols) b1 b2).2 ∧ Wr t (t.split p more across (allB rows cols) b1 b2).2 w w' := by
  have HP := hid (fun w' (he : Ext w w') => Has_any tb t p w' (h.at_.ext he))
  have HM := hid (fun w' (he : Ext w w') => Has_any tb t more w' (h.at_.ext he))
  have HL := hid (fun w' (he : Ext w w') => Panes_any tb t w' (h.at_.ext he))
  have HF := hid (fun w' (he : Ext w w') => find_any tb t p rows cols w' (h.at_.ext he) h1 h2)
  have hbok := tipBox_ok p t _ (allB_ok h1 h2)
  have HH := hid h
  have HMM := hid hm
  have HBB := hid hB
  clear h h1 h2 hm hB
  generalize allB rows cols = R at *
  have hlen : t.panes.length ≤ 12 := HH.out.many
  unfold ptr at *
  by_cases hp : p ∈ t.panes
  · by_cases hmo : more ∈ t.panes
    · have HS : Hid (∀ b1 b2, t.split p more across R b1 b2 = (15, t)) := hid (fun b1 b2 => by simp [LT.split, hp, hmo])
      rw [decide_eq_true hp] at HP
      rw [decide_eq_true hmo] at HM
      clear hp hmo
      go_enter Tryd.func13, Tryd.ntmps13
      go_wp2_with fail
      refine (HP.out _ (Ext.refl _)).mono ?_
      rintro e w1 ⟨rfl, hE⟩
      go_wp2_with fail
      refine (HM.out _ hE).mono ?_
      rintro e w2 ⟨rfl, hE2⟩
      go_wp2_with fail
      go_ret
      exact ⟨0, 0, by rw [HS.out]; rfl, by rw [HS.out]; exact HH.out.ext (hE.trans hE2), by rw [HS.out]; exact Wr.of_ext (hE.trans hE2)⟩
    · by_cases hfull : 12 ≤ t.panes.length
      · have HS : Hid (∀ b1 b2, t.split p more across R b1 b2 = (2, t)) := hid (fun b1 b2 => by simp [LT.split, hp, hmo, hfull])
        rw [decide_eq_true hp] at HP
        rw [decide_eq_false hmo] at HM
        clear hp hmo
        go_enter Tryd.func13, Tryd.ntmps13
        go_wp2_with fail
        refine (HP.out _ (Ext.refl _)).mono ?_
        rintro e w1 ⟨rfl, hE⟩
        go_wp2_with fail
        refine (HM.out _ hE).mono ?_
        rintro e w2 ⟨rfl, hE2⟩
        go_wp2_with fail
        refine (HL.out _ (hE.trans hE2)).mono ?_
        rintro e w3 ⟨v, rfl, hown, hE3⟩
        obtain ⟨sa, cap, rfl, _⟩ := own_form hown
        clear hown
        go_wp2_with fail
        go_ret
        exact ⟨0, 0, by rw [HS.out]; rfl, by rw [HS.out]; exact HH.out.ext ((hE.trans hE2).trans hE3), by rw [HS.out]; exact Wr.of_ext ((hE.trans hE2).trans hE3)⟩
      · obtain ⟨tib, htib⟩ := tip_leaf p t hp
        have HTI := hid htib
        have hbb : Hid ((t.tip p).b = tib) := hid (by rw [htib]; rfl)
        have HS := hid (fun b1 b2 => show t.split p more across R b1 b2 = if wide across (t.tipBox p R) < 3 then (17, t) else (0, plug (t.path p) (.node (t.tip p).b (.leaf b1 p) (.leaf b2 more) across (wide across (t.tipBox p R) / 2))) from by simp [LT.split, hp, hmo, hfull])
        rw [decide_eq_true hp] at HP
        rw [decide_eq_false hmo] at HM
        have HNP := hid hmo
        clear hp hmo htib
        have hd0 : 0 ≤ wide across (t.tipBox p R) ∧ wide across (t.tipBox p R) ≤ 1000000 := by
          obtain ⟨g0, g1, g2, g3, g4, g5⟩ := hbok
          unfold wide; split <;> omega
        obtain ⟨hd1, hd2⟩ := hd0
        clear hbok
        generalize hbx : t.tipBox p R = bx at *
        have HW := hid (fun b w' (hc : w'.cell? ⟨b, 3, none⟩ = some (.bool across)) => wide_any b across bx w' hc)
        generalize wide across bx = d at *
        rw [hbb.out] at HF
        unfold ptr Bx.val at *
        go_enter Tryd.func13, Tryd.ntmps13
        go_wp2_with fail
        refine (HP.out _ (Ext.refl _)).mono ?_
        rintro e w1 ⟨rfl, hE⟩
        go_wp2_with fail
        refine (HM.out _ hE).mono ?_
        rintro e w2 ⟨rfl, hE2⟩
        replace hE2 := hE.trans hE2
        clear hE
        go_wp2_with fail
        refine (HL.out _ hE2).mono ?_
        rintro e w3 ⟨v, rfl, hown, hE3⟩
        obtain ⟨sa, cap, rfl, _⟩ := own_form hown
        replace hE3 := hE2.trans hE3
        clear hown hE2
        go_wp2_with fail
        refine (HF.out _ hE3).mono ?_
        rintro e w4 ⟨va, vb, rfl, hA, hB, hE4⟩
        replace hE4 := hE3.trans hE4
        clear hE3 hA hB
        go_wp2_with fail
        generalize hW8 : World.alloc _ _ = W8
        have HE8 : Hid (Ext w W8) := hid (by rw [← hW8]; exact (((hE4.alloc' _).alloc' _).alloc' _).alloc' _)
        have F1 : Hid (W8.heap[w4.heap.size + 1]? = some (.cells #[.int .i64 p, .pointer none, .pointer none, .bool false, .int .i64 0] 52 (0, 0))) := hid (by rw [← hW8]; exact (Ext.alloc _ _).blk ((Ext.alloc _ _).blk (blk_at (by simp))))
        have F2 : Hid (W8.heap[w4.heap.size + 1 + 1]? = some (.cells #[.int .i64 more, .pointer none, .pointer none, .bool false, .int .i64 0] 52 (0, 0))) := hid (by rw [← hW8]; exact (Ext.alloc _ _).blk (blk_at (by simp)))
        have F3 : Hid (W8.heap[w4.heap.size + 1 + 1 + 1]? = some (.cells #[.int .i64 0, .pointer (some ⟨w4.heap.size + 1, 0, none⟩), .pointer (some ⟨w4.heap.size + 1 + 1, 0, none⟩), .bool across, .int .i64 0] 52 (0, 0))) := hid (by rw [← hW8]; exact blk_at (by simp))
        have hs4 : Hid (w.heap.size ≤ w4.heap.size) := hid hE4.size
        clear hW8 hE4
        generalize hl1 : w4.heap.size + 1 = l1 at *
        generalize hl2 : l1 + 1 = l2 at *
        generalize hnx : l2 + 1 = nx at *
        have HN : Hid (w.heap.size ≤ l1 ∧ l1 < l2 ∧ l2 < nx) := hid ⟨by have := hs4.out; omega, by omega, by omega⟩
        clear hl1 hl2 hnx hs4
        refine (HW.out nx W8 (cell_blk F3.out rfl)).mono ?_
        rintro e w9 ⟨rfl, hE9⟩
        replace HE8 := hid (HE8.out.trans hE9)
        replace F1 := hid (hE9.blk F1.out)
        replace F2 := hid (hE9.blk F2.out)
        replace F3 := hid (hE9.blk F3.out)
        clear hE9
        by_cases hd3 : d < 3
        · have HS3 : Hid (∀ b1 b2, t.split p more across R b1 b2 = (17, t)) := hid (fun b1 b2 => by rw [HS.out, if_pos hd3])
          go_wp2_with fail
          go_ret
          exact ⟨0, 0, by rw [HS3.out]; rfl, by rw [HS3.out]; exact HH.out.ext HE8.out, by rw [HS3.out]; exact Wr.of_ext HE8.out⟩
        · have HS3 : Hid (∀ b1 b2, t.split p more across R b1 b2 = (0, plug (t.path p) (.node (t.tip p).b (.leaf b1 p) (.leaf b2 more) across (d / 2)))) := hid (fun b1 b2 => by rw [HS.out, if_neg hd3])
          have v1 : IntKind.i64.wrap (d.tdiv 2) = d / 2 := by rw [Int.tdiv_eq_ediv_of_nonneg hd1, IntKind.wrap_i64]; omega
          have x0 := cell_blk (j := 0) F3.out rfl
          have x1 := cell_blk (j := 1) F3.out rfl
          have x2 := cell_blk (j := 2) F3.out rfl
          have x3 := cell_blk (j := 3) F3.out rfl
          have x4 := cell_blk (j := 4) F3.out rfl
          have z0 : ∀ j, w9.frozen? ⟨nx, j, none⟩ = false := fun j => by simp [World.frozen?, F3.out]
          have hLT := (HH.out.ext HE8.out).at_.at_
          have HTL : Hid (LtAt w9 (.leaf tib p)) := hid (by rw [← plug_path p t, HTI.out] at hLT; exact plug_at hLT)
          clear hLT
          have y0 := node_cells HTL.out 0 _ rfl
          have y1 := node_cells HTL.out 1 _ rfl
          have y2 := node_cells HTL.out 2 _ rfl
          have y3 := node_cells HTL.out 3 _ rfl
          have y4 := node_cells HTL.out 4 _ rfl
          have z1 : ∀ j, w9.frozen? ⟨tib, j, none⟩ = false := fun j => by simp [World.frozen?, (show w9.heap[tib]? = _ from HTL.out)]
          have hne : tib ≠ nx := fun e => by
            have h1 := HN.out
            have h2 : tib < w.heap.size := HH.out.at_.at_.lt tib (by rw [← plug_path p t, HTI.out]; exact (plug_blocks _ _).mem_iff.2 (List.mem_append_right _ (by simp [LT.blocks])))
            omega
          have hne2 : nx ≠ tib := Ne.symm hne
          simp only [LT.b] at y0 y1 y2 y3 y4
          go_wp2_with fail
          go_ret
          have hpl : plug (t.path p) (.leaf tib p) = t := by rw [← HTI.out]; exact plug_path p t
          have htl : tib < w.heap.size := HH.out.at_.at_.lt tib (by rw [← hpl]; exact (plug_blocks _ _).mem_iff.2 (List.mem_append_right _ (by simp [LT.blocks])))
          have hn := HN.out
          have hW : Ext w (w9.setCell ⟨nx, 4, none⟩ (.int .i64 (d / 2))) := HE8.out.set_far (by omega) _ _
          have hT : Tr B w tb (plug (t.path p) (.leaf tib p)) := by rw [hpl]; exact HH.out
          have hb10 : (w9.setCell ⟨nx, 4, none⟩ (.int .i64 (d / 2))).heap[tib]? = _ := (Below.heap_setCell w9 ⟨nx, 4, none⟩ (.int .i64 (d / 2)) tib hne).trans (show w9.heap[tib]? = _ from HTL.out)
          have hres := Tr.turn (s' := .node tib (.leaf l1 p) (.leaf l2 more) across (d / 2)) hT hW (set5_set1 _ tib _ _ _ _ _) (set5_blk hb10) rfl
            ⟨(Below.heap_setCell w9 ⟨nx, 4, none⟩ _ l1 (by simp; omega)).trans F1.out, (Below.heap_setCell w9 ⟨nx, 4, none⟩ _ l2 (by simp; omega)).trans F2.out⟩
            (by intro k hk; simp [LT.blocks] at hk ⊢; omega) HBB.out (by simp [LT.blocks]; omega)
            ⟨by omega, plug_small' (s := .leaf tib p) (A := t.path p) (by rw [hpl]; exact HH.out.at_.small), HMM.out⟩
            (by have h5 := plug_panes (t.path p) (.leaf tib p); rw [hpl] at h5; rw [plug_panes]; have h6 := congrArg List.length h5; simp [LT.panes] at h6 ⊢; omega)
          refine ⟨l1, l2, by rw [HS3.out]; rfl, ?_⟩
          rw [HS3.out, HTI.out]
          rw [hpl] at hres
          exact hres
  · have HS : Hid (∀ b1 b2, t.split p more across R b1 b2 = (3, t)) := hid (fun b1 b2 => by simp [LT.split, hp])
    rw [decide_eq_false hp] at HP
    clear hp
    go_enter Tryd.func13, Tryd.ntmps13
    go_wp2_with fail
    refine (HP.out _ (Ext.refl _)).mono ?_
    rintro e w1 ⟨rfl, hE⟩
    go_wp2_with fail
    go_ret
    exact ⟨0, 0, by rw [HS.out]; rfl, by rw [HS.out]; exact HH.out.ext hE, by rw [HS.out]; exact Wr.of_ext hE⟩

end Go.Proofs.YtflbfmfaccaffaaDoor
