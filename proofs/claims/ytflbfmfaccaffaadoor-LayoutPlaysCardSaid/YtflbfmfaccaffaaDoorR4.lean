/-
  The document's borders.
-/
import Derived.Test.YtflbfmfaccaffaaDoorR3
namespace Go.Proofs.YtflbfmfaccaffaaDoor
open Go Go.RowKit
attribute [local go_sem] extUpon
attribute [local go_sem ↓] eval_put_ne eval_put_none eval_put_same size_put eval_const

theorem borders_len (t : LT) (r : Bx) : (t.borders r).length ≤ t.size := by simp only [LT.borders, List.length_map]; exact lines_len t r


set_option maxHeartbeats 8000000 in
set_option maxRecDepth 100000 in
theorem rborders_any : ∀ (t : LT) (r : Bx) (w : World), RtAt w t → t.size ≤ 1000 → r.ok →
    Calls Tryd.prog 49 #[ptr t.b, r.val] w fun e w' => ∃ v, e = .returned v ∧ w'.ownsRow w.heap.size 32 4 v (t.borders r).length ((t.borders r).flatMap Bx.vals) ∧ Ext w w' := by
  intro t
  induction t with
  | leaf b q =>
    intro r w h _ _
    have c3 : ∀ o, (w.alloc o).cell? ⟨b, 3, none⟩ = some (.pointer none) := fun o => (Ext.alloc w o).cell (rnode_cells h 3 _ rfl)
    clear h
    unfold ptr LT.b Bx.val
    go_enter Tryd.func49, Tryd.ntmps49
    go_wp2_with fail
    go_ret
    exact ⟨_, rfl, World.ownsRow_nil _ _ _ _, Ext.alloc _ _⟩
  | node b x y a k ihx ihy =>
    intro r w h hz hr
    simp only [LT.size] at hz
    have hpo := parts_ok (a := a) (k := k) hr
    have hlx : (x.borders (parts a k r).1).length ≤ 1000 := by have := borders_len x (parts a k r).1; omega
    have hly : (y.borders (parts a k r).2).length ≤ 1000 := by have := borders_len y (parts a k r).2; omega
    have HX := hid (fun w' (he : Ext w w') => ihx (parts a k r).1 w' (h.ext he).2.1 (by omega) hpo.1)
    have HY := hid (fun w' (he : Ext w w') => ihy (parts a k r).2 w' (h.ext he).2.2 (by omega) hpo.2)
    have HB := hid (fun w' (he : Ext w w') => rboxes_any b a k r w' (rnode_cells (h.ext he) 1 _ rfl) (rnode_cells (h.ext he) 2 _ rfl) hr)
    have c3 : ∀ o, (w.alloc o).cell? ⟨b, 3, none⟩ = some (ptr x.b) := fun o => (Ext.alloc w o).cell (rnode_cells h 3 _ rfl)
    have HC1 : Hid (w.cell? ⟨b, 1, none⟩ = some (.bool a)) := hid (rnode_cells h 1 _ rfl)
    have HC3 : Hid (w.cell? ⟨b, 3, none⟩ = some (ptr x.b)) := hid (rnode_cells h 3 _ rfl)
    have HC4 : Hid (w.cell? ⟨b, 4, none⟩ = some (ptr y.b)) := hid (rnode_cells h 4 _ rfl)
    have HN0 := hid (borders_node b x y a k r)
    have hline : Hid (3 ≤ wide a r → (a = true → slc a r (held k (wide a r)) 1 = ⟨r.row, (parts a k r).1.col + (parts a k r).1.cols, r.rows, 1⟩) ∧ (a = false → slc a r (held k (wide a r)) 1 = ⟨(parts a k r).1.row + (parts a k r).1.rows, r.col, 1, r.cols⟩)) := hid (by
      intro hd
      have hd' : ¬ wide a r < 3 := by omega
      refine ⟨fun ha => ?_, fun ha => ?_⟩ <;> subst ha <;> simp [parts, hd', slc])
    have hbd : 0 ≤ (parts a k r).1.row ∧ 0 ≤ (parts a k r).1.col ∧ (parts a k r).1.row + (parts a k r).1.rows ≤ 1000000 ∧ (parts a k r).1.col + (parts a k r).1.cols ≤ 1000000 ∧ 0 ≤ (parts a k r).1.rows ∧ 0 ≤ (parts a k r).1.cols := by have := hpo.1; unfold Bx.ok at this; omega
    obtain ⟨hbd1, hbd2, hbd3, hbd4, hbd5, hbd6⟩ := hbd
    clear h ihx ihy hpo
    generalize (LT.node b x y a k).borders r = pn at *
    generalize slc a r (held k (wide a r)) 1 = ln at *
    generalize parts a k r = ab at *
    obtain ⟨ra, rb⟩ := ab
    simp only at HX HY HB HN0 hlx hly hline hbd1 hbd2 hbd3 hbd4 hbd5 hbd6
    generalize x.borders ra = px at *
    generalize y.borders rb = py at *
    generalize x.b = bx at *
    generalize y.b = by_ at *
    generalize wide a r = wd at *
    unfold ptr LT.b Bx.val at *
    go_enter Tryd.func49, Tryd.ntmps49
    go_wp2_with fail
    refine (HB.out _ (Ext.alloc _ _)).mono ?_
    rintro e w1 ⟨rfl, hE1⟩
    have HP0 := hid (hE1.blk (blk_new w (.cells #[.int .i64 r.row, .int .i64 r.col, .int .i64 r.rows, .int .i64 r.cols] 32 (0, 0))))
    have HE1 := hid ((Ext.alloc w _).trans hE1)
    clear hE1 c3 HB
    have c1 : ∀ o o2, ((w1.alloc o).alloc o2).cell? ⟨b, 1, none⟩ = some (.bool a) := fun o o2 => ((HE1.out.alloc' o).alloc' o2).cell HC1.out
    have c1' : ∀ o o2 o3, (((w1.alloc o).alloc o2).alloc o3).cell? ⟨b, 1, none⟩ = some (.bool a) := fun o o2 o3 => (((HE1.out.alloc' o).alloc' o2).alloc' o3).cell HC1.out
    by_cases hd : 3 ≤ wd
    · rw [if_pos hd] at HN0
      have HN : Hid (pn = [ln] ++ (px ++ py)) := HN0
      clear HN0
      have hl := hline.out hd
      clear hline
      cases a
      · have hle := hid (hl.2 rfl)
        clear hl
        have p0 : ∀ o o2, ((w1.alloc o).alloc o2).cell? ⟨w.heap.size, 0, none⟩ = some (.int .i64 r.row) := fun o o2 => ((Ext.alloc w1 o).alloc' o2).cell (cell_blk HP0.out rfl)
        have p1 : ∀ o o2, ((w1.alloc o).alloc o2).cell? ⟨w.heap.size, 1, none⟩ = some (.int .i64 r.col) := fun o o2 => ((Ext.alloc w1 o).alloc' o2).cell (cell_blk HP0.out rfl)
        have p2 : ∀ o o2, ((w1.alloc o).alloc o2).cell? ⟨w.heap.size, 2, none⟩ = some (.int .i64 r.rows) := fun o o2 => ((Ext.alloc w1 o).alloc' o2).cell (cell_blk HP0.out rfl)
        have p3 : ∀ o o2, ((w1.alloc o).alloc o2).cell? ⟨w.heap.size, 3, none⟩ = some (.int .i64 r.cols) := fun o o2 => ((Ext.alloc w1 o).alloc' o2).cell (cell_blk HP0.out rfl)
        go_wp2_with fail
        refine reg_begin 14 (by kernel_rfl) ?_
        generalize hW : World.drew _ = W
        have HE := hid (by rw [← hW]; exact (((HE1.out.alloc' _).alloc' _).alloc' _).drew' : Ext w W)
        have hb1 : W.heap[w1.heap.size]? = some (.cells #[.int .i64 ra.row, .int .i64 ra.col, .int .i64 ra.rows, .int .i64 ra.cols] 32 (0, 0)) := by rw [← hW]; exact (Ext.alloc _ _).blk ((Ext.alloc _ _).blk (blk_new _ _))
        have hb2 : W.heap[w1.heap.size + 1]? = some (.cells #[.int .i64 rb.row, .int .i64 rb.col, .int .i64 rb.rows, .int .i64 rb.cols] 32 (0, 0)) := by rw [← hW]; exact (Ext.alloc _ _).blk (blk_at (by simp))
        have hb3 : W.heap[w1.heap.size + 1 + 1]? = some (.cells #[.int .i64 (ra.row + ra.rows), .int .i64 r.col, .int .i64 1, .int .i64 r.cols] 32 (0, 0)) := by rw [← hW]; exact blk_at (by simp)
        have HOW : Hid (W.ownsRow w.heap.size 32 4 (.slice (some ⟨w1.heap.size + 1 + 1, 0, none⟩) 1 1) 1 ([ln].flatMap Bx.vals)) := hid ⟨by simp [Bx.vals], .inr ⟨_, _, _, rfl, by have := HE1.out.size; omega, hb3, Nat.le_refl _, by decide, rfl, by rw [hle.out]; rfl⟩⟩
        clear hW HE1 c1 c1' HP0 p0 p1 p2 p3 hb3
        have HA0 := hid (cell_blk (j := 0) hb1 rfl)
        have HA1 := hid (cell_blk (j := 1) hb1 rfl)
        have HA2 := hid (cell_blk (j := 2) hb1 rfl)
        have HA3 := hid (cell_blk (j := 3) hb1 rfl)
        have HB0 := hid (cell_blk (j := 0) hb2 rfl)
        have HB1 := hid (cell_blk (j := 1) hb2 rfl)
        have HB2 := hid (cell_blk (j := 2) hb2 rfl)
        have HB3 := hid (cell_blk (j := 3) hb2 rfl)
        clear hb1 hb2
        replace HC3 := hid (HE.out.cell HC3.out)
        replace HC4 := hid (HE.out.cell HC4.out)
        refine reg_quiet 0 rfl (by kernel_rfl) (by kernel_rfl) ?_
        apply Exists.intro
        refine ⟨fun w' hw' => ?_, ?_⟩
        · go_simp
          exact ⟨rfl, Ext.refl _⟩
        refine reg_quiet 1 rfl (by kernel_rfl) (by kernel_rfl) ?_
        apply Exists.intro
        refine ⟨fun w' hw' => ?_, ?_⟩
        · go_simp
          exact ⟨rfl, Ext.refl _⟩
        refine reg_quiet 2 rfl (by kernel_rfl) (by kernel_rfl) ?_
        apply Exists.intro
        refine ⟨fun w' hw' => ?_, ?_⟩
        · go_simp
          exact ⟨rfl, Ext.refl _⟩
        refine reg_quiet 3 rfl (by kernel_rfl) (by kernel_rfl) ?_
        apply Exists.intro
        refine ⟨fun w' hw' => ?_, ?_⟩
        · go_simp
          exact ⟨rfl, Ext.refl _⟩
        refine reg_quiet 4 rfl (by kernel_rfl) (by kernel_rfl) ?_
        apply Exists.intro
        refine ⟨fun w' hw' => ?_, ?_⟩
        · have q0 := hw'.cell HC3.out
          go_simp
          exact ⟨rfl, Ext.refl _⟩
        refine reg_quiet 5 rfl (by kernel_rfl) (by kernel_rfl) ?_
        apply Exists.intro
        refine ⟨fun w' hw' => ?_, ?_⟩
        · have q0 := hw'.cell HA0.out; have q1 := hw'.cell HA1.out; have q2 := hw'.cell HA2.out; have q3 := hw'.cell HA3.out
          go_simp
          exact ⟨rfl, Ext.refl _⟩
        refine reg_quiet 8 rfl (by kernel_rfl) (by kernel_rfl) ?_
        apply Exists.intro
        refine ⟨fun w' hw' => ?_, ?_⟩
        · go_simp
          exact ⟨rfl, Ext.refl _⟩
        refine reg_quiet 9 rfl (by kernel_rfl) (by kernel_rfl) ?_
        apply Exists.intro
        refine ⟨fun w' hw' => ?_, ?_⟩
        · go_simp
          exact ⟨rfl, Ext.refl _⟩
        refine reg_quiet 10 rfl (by kernel_rfl) (by kernel_rfl) ?_
        apply Exists.intro
        refine ⟨fun w' hw' => ?_, ?_⟩
        · go_simp
          exact ⟨rfl, Ext.refl _⟩
        refine reg_quiet 11 rfl (by kernel_rfl) (by kernel_rfl) ?_
        apply Exists.intro
        refine ⟨fun w' hw' => ?_, ?_⟩
        · have q0 := hw'.cell HC4.out
          go_simp
          exact ⟨rfl, Ext.refl _⟩
        refine reg_quiet 12 rfl (by kernel_rfl) (by kernel_rfl) ?_
        apply Exists.intro
        refine ⟨fun w' hw' => ?_, ?_⟩
        · have q0 := hw'.cell HB0.out; have q1 := hw'.cell HB1.out; have q2 := hw'.cell HB2.out; have q3 := hw'.cell HB3.out
          go_simp
          exact ⟨rfl, Ext.refl _⟩
        refine reg_one 6 rfl (by kernel_rfl) rfl (fun w' hw' => ?_)
        go_simp
        refine (HX.out w' (HE.out.trans hw')).mono ?_
        rintro e w2 ⟨v1, rfl, ho1, hE2⟩
        have HE2 := hid ((HE.out.trans hw').trans hE2)
        replace HOW := hid (own_ext (hw'.trans hE2) HOW.out)
        have HO1 := hid ho1
        refine ⟨hE2, ?_⟩
        clear hw' ho1 HE HC3 HC4 HA0 HA1 HA2 HA3 HB0 HB1 HB2 HB3
        refine reg_one 7 rfl (by kernel_rfl) rfl (fun w3 hw3 => ?_)
        replace HE2 := hid (HE2.out.trans hw3)
        replace HOW := hid (own_ext hw3 HOW.out)
        replace HO1 := hid (own_ext hw3 HO1.out)
        clear hw3
        refine wp_join (.tmp 60) (.tmp 66) rfl rfl w.heap.size _ (.slice (some ⟨w1.heap.size + 1 + 1, 0, none⟩) 1 1) v1 1 px.length [ln] px (by rfl) (by rfl) HOW.out HO1.out (by omega) HE2.out.size ?_
        intro v3 w4 hown4 _ hx1 hx0
        have hE4 : Ext w3 w4 := hx1 rfl _ rfl
        refine ⟨fun _ => hE4, ?_⟩
        have HE4 := hid (HE2.out.trans hE4)
        have HO4 := hid hown4
        clear hown4 hx1 hx0 hE4 HE2 HOW HO1
        refine reg_one 13 rfl (by kernel_rfl) rfl (fun w5 hw5 => ?_)
        go_simp
        refine (HY.out w5 (HE4.out.trans hw5)).mono ?_
        rintro e w6 ⟨v2, rfl, ho2, hE6⟩
        have HE6 := hid ((HE4.out.trans hw5).trans hE6)
        replace HO4 := hid (own_ext (hw5.trans hE6) HO4.out)
        have HO2 := hid ho2
        refine ⟨hE6, ?_⟩
        clear ho2 hE6 hw5 HE4
        refine reg_one 14 rfl (by kernel_rfl) rfl (fun w7 hw7 => ?_)
        replace HE6 := hid (HE6.out.trans hw7)
        replace HO4 := hid (own_ext hw7 HO4.out)
        replace HO2 := hid (own_ext hw7 HO2.out)
        clear hw7
        refine wp_join (.tmp 67) (.tmp 73) rfl rfl w.heap.size _ v3 v2 (1 + px.length) py.length ([ln] ++ px) py (by rfl) (by rfl) HO4.out HO2.out (by omega) HE6.out.size ?_
        intro v8 w8 hown8 hgrow8 _ _
        refine ⟨fun h => absurd h (by decide), ?_⟩
        have HE8 : Hid (Ext w w8) := hid (Below.grown HE6.out hgrow8 HE6.out.size (fun k hk => (HO4.out.lt k hk).1))
        have HO8 := hid hown8
        clear hown8 hgrow8 HE6 HO4 HO2
        refine reg_pure 15 rfl (by kernel_rfl) rfl ?_
        apply Exists.intro
        refine ⟨fun w' => ?_, ?_⟩
        · go_simp
          exact rfl
        refine reg_done (by kernel_rfl) (fun w9 hw9 => ?_) _
        replace HE8 := hid (HE8.out.trans hw9)
        replace HO8 := hid (own_ext hw9 HO8.out)
        clear hw9
        go_simp
        go_wp2_with fail
        go_ret
        refine ⟨_, rfl, ?_, HE8.out⟩
        rw [HN.out, ← List.append_assoc, List.length_append, List.length_append]
        exact HO8.out
      · have hle := hid (hl.1 rfl)
        clear hl
        have p0 : ∀ o o2, ((w1.alloc o).alloc o2).cell? ⟨w.heap.size, 0, none⟩ = some (.int .i64 r.row) := fun o o2 => ((Ext.alloc w1 o).alloc' o2).cell (cell_blk HP0.out rfl)
        have p1 : ∀ o o2, ((w1.alloc o).alloc o2).cell? ⟨w.heap.size, 1, none⟩ = some (.int .i64 r.col) := fun o o2 => ((Ext.alloc w1 o).alloc' o2).cell (cell_blk HP0.out rfl)
        have p2 : ∀ o o2, ((w1.alloc o).alloc o2).cell? ⟨w.heap.size, 2, none⟩ = some (.int .i64 r.rows) := fun o o2 => ((Ext.alloc w1 o).alloc' o2).cell (cell_blk HP0.out rfl)
        have p3 : ∀ o o2, ((w1.alloc o).alloc o2).cell? ⟨w.heap.size, 3, none⟩ = some (.int .i64 r.cols) := fun o o2 => ((Ext.alloc w1 o).alloc' o2).cell (cell_blk HP0.out rfl)
        go_wp2_with fail
        refine reg_begin 14 (by kernel_rfl) ?_
        generalize hW : World.drew _ = W
        have HE := hid (by rw [← hW]; exact (((HE1.out.alloc' _).alloc' _).alloc' _).drew' : Ext w W)
        have hb1 : W.heap[w1.heap.size]? = some (.cells #[.int .i64 ra.row, .int .i64 ra.col, .int .i64 ra.rows, .int .i64 ra.cols] 32 (0, 0)) := by rw [← hW]; exact (Ext.alloc _ _).blk ((Ext.alloc _ _).blk (blk_new _ _))
        have hb2 : W.heap[w1.heap.size + 1]? = some (.cells #[.int .i64 rb.row, .int .i64 rb.col, .int .i64 rb.rows, .int .i64 rb.cols] 32 (0, 0)) := by rw [← hW]; exact (Ext.alloc _ _).blk (blk_at (by simp))
        have hb3 : W.heap[w1.heap.size + 1 + 1]? = some (.cells #[.int .i64 r.row, .int .i64 (ra.col + ra.cols), .int .i64 r.rows, .int .i64 1] 32 (0, 0)) := by rw [← hW]; exact blk_at (by simp)
        have HOW : Hid (W.ownsRow w.heap.size 32 4 (.slice (some ⟨w1.heap.size + 1 + 1, 0, none⟩) 1 1) 1 ([ln].flatMap Bx.vals)) := hid ⟨by simp [Bx.vals], .inr ⟨_, _, _, rfl, by have := HE1.out.size; omega, hb3, Nat.le_refl _, by decide, rfl, by rw [hle.out]; rfl⟩⟩
        clear hW HE1 c1 c1' HP0 p0 p1 p2 p3 hb3
        have HA0 := hid (cell_blk (j := 0) hb1 rfl)
        have HA1 := hid (cell_blk (j := 1) hb1 rfl)
        have HA2 := hid (cell_blk (j := 2) hb1 rfl)
        have HA3 := hid (cell_blk (j := 3) hb1 rfl)
        have HB0 := hid (cell_blk (j := 0) hb2 rfl)
        have HB1 := hid (cell_blk (j := 1) hb2 rfl)
        have HB2 := hid (cell_blk (j := 2) hb2 rfl)
        have HB3 := hid (cell_blk (j := 3) hb2 rfl)
        clear hb1 hb2
        replace HC3 := hid (HE.out.cell HC3.out)
        replace HC4 := hid (HE.out.cell HC4.out)
        refine reg_quiet 0 rfl (by kernel_rfl) (by kernel_rfl) ?_
        apply Exists.intro
        refine ⟨fun w' hw' => ?_, ?_⟩
        · go_simp
          exact ⟨rfl, Ext.refl _⟩
        refine reg_quiet 1 rfl (by kernel_rfl) (by kernel_rfl) ?_
        apply Exists.intro
        refine ⟨fun w' hw' => ?_, ?_⟩
        · go_simp
          exact ⟨rfl, Ext.refl _⟩
        refine reg_quiet 2 rfl (by kernel_rfl) (by kernel_rfl) ?_
        apply Exists.intro
        refine ⟨fun w' hw' => ?_, ?_⟩
        · go_simp
          exact ⟨rfl, Ext.refl _⟩
        refine reg_quiet 3 rfl (by kernel_rfl) (by kernel_rfl) ?_
        apply Exists.intro
        refine ⟨fun w' hw' => ?_, ?_⟩
        · go_simp
          exact ⟨rfl, Ext.refl _⟩
        refine reg_quiet 4 rfl (by kernel_rfl) (by kernel_rfl) ?_
        apply Exists.intro
        refine ⟨fun w' hw' => ?_, ?_⟩
        · have q0 := hw'.cell HC3.out
          go_simp
          exact ⟨rfl, Ext.refl _⟩
        refine reg_quiet 5 rfl (by kernel_rfl) (by kernel_rfl) ?_
        apply Exists.intro
        refine ⟨fun w' hw' => ?_, ?_⟩
        · have q0 := hw'.cell HA0.out; have q1 := hw'.cell HA1.out; have q2 := hw'.cell HA2.out; have q3 := hw'.cell HA3.out
          go_simp
          exact ⟨rfl, Ext.refl _⟩
        refine reg_quiet 8 rfl (by kernel_rfl) (by kernel_rfl) ?_
        apply Exists.intro
        refine ⟨fun w' hw' => ?_, ?_⟩
        · go_simp
          exact ⟨rfl, Ext.refl _⟩
        refine reg_quiet 9 rfl (by kernel_rfl) (by kernel_rfl) ?_
        apply Exists.intro
        refine ⟨fun w' hw' => ?_, ?_⟩
        · go_simp
          exact ⟨rfl, Ext.refl _⟩
        refine reg_quiet 10 rfl (by kernel_rfl) (by kernel_rfl) ?_
        apply Exists.intro
        refine ⟨fun w' hw' => ?_, ?_⟩
        · go_simp
          exact ⟨rfl, Ext.refl _⟩
        refine reg_quiet 11 rfl (by kernel_rfl) (by kernel_rfl) ?_
        apply Exists.intro
        refine ⟨fun w' hw' => ?_, ?_⟩
        · have q0 := hw'.cell HC4.out
          go_simp
          exact ⟨rfl, Ext.refl _⟩
        refine reg_quiet 12 rfl (by kernel_rfl) (by kernel_rfl) ?_
        apply Exists.intro
        refine ⟨fun w' hw' => ?_, ?_⟩
        · have q0 := hw'.cell HB0.out; have q1 := hw'.cell HB1.out; have q2 := hw'.cell HB2.out; have q3 := hw'.cell HB3.out
          go_simp
          exact ⟨rfl, Ext.refl _⟩
        refine reg_one 6 rfl (by kernel_rfl) rfl (fun w' hw' => ?_)
        go_simp
        refine (HX.out w' (HE.out.trans hw')).mono ?_
        rintro e w2 ⟨v1, rfl, ho1, hE2⟩
        have HE2 := hid ((HE.out.trans hw').trans hE2)
        replace HOW := hid (own_ext (hw'.trans hE2) HOW.out)
        have HO1 := hid ho1
        refine ⟨hE2, ?_⟩
        clear hw' ho1 HE HC3 HC4 HA0 HA1 HA2 HA3 HB0 HB1 HB2 HB3
        refine reg_one 7 rfl (by kernel_rfl) rfl (fun w3 hw3 => ?_)
        replace HE2 := hid (HE2.out.trans hw3)
        replace HOW := hid (own_ext hw3 HOW.out)
        replace HO1 := hid (own_ext hw3 HO1.out)
        clear hw3
        refine wp_join (.tmp 60) (.tmp 66) rfl rfl w.heap.size _ (.slice (some ⟨w1.heap.size + 1 + 1, 0, none⟩) 1 1) v1 1 px.length [ln] px (by rfl) (by rfl) HOW.out HO1.out (by omega) HE2.out.size ?_
        intro v3 w4 hown4 _ hx1 hx0
        have hE4 : Ext w3 w4 := hx1 rfl _ rfl
        refine ⟨fun _ => hE4, ?_⟩
        have HE4 := hid (HE2.out.trans hE4)
        have HO4 := hid hown4
        clear hown4 hx1 hx0 hE4 HE2 HOW HO1
        refine reg_one 13 rfl (by kernel_rfl) rfl (fun w5 hw5 => ?_)
        go_simp
        refine (HY.out w5 (HE4.out.trans hw5)).mono ?_
        rintro e w6 ⟨v2, rfl, ho2, hE6⟩
        have HE6 := hid ((HE4.out.trans hw5).trans hE6)
        replace HO4 := hid (own_ext (hw5.trans hE6) HO4.out)
        have HO2 := hid ho2
        refine ⟨hE6, ?_⟩
        clear ho2 hE6 hw5 HE4
        refine reg_one 14 rfl (by kernel_rfl) rfl (fun w7 hw7 => ?_)
        replace HE6 := hid (HE6.out.trans hw7)
        replace HO4 := hid (own_ext hw7 HO4.out)
        replace HO2 := hid (own_ext hw7 HO2.out)
        clear hw7
        refine wp_join (.tmp 67) (.tmp 73) rfl rfl w.heap.size _ v3 v2 (1 + px.length) py.length ([ln] ++ px) py (by rfl) (by rfl) HO4.out HO2.out (by omega) HE6.out.size ?_
        intro v8 w8 hown8 hgrow8 _ _
        refine ⟨fun h => absurd h (by decide), ?_⟩
        have HE8 : Hid (Ext w w8) := hid (Below.grown HE6.out hgrow8 HE6.out.size (fun k hk => (HO4.out.lt k hk).1))
        have HO8 := hid hown8
        clear hown8 hgrow8 HE6 HO4 HO2
        refine reg_pure 15 rfl (by kernel_rfl) rfl ?_
        apply Exists.intro
        refine ⟨fun w' => ?_, ?_⟩
        · go_simp
          exact rfl
        refine reg_done (by kernel_rfl) (fun w9 hw9 => ?_) _
        replace HE8 := hid (HE8.out.trans hw9)
        replace HO8 := hid (own_ext hw9 HO8.out)
        clear hw9
        go_simp
        go_wp2_with fail
        go_ret
        refine ⟨_, rfl, ?_, HE8.out⟩
        rw [HN.out, ← List.append_assoc, List.length_append, List.length_append]
        exact HO8.out
    · rw [if_neg hd] at HN0
      have HN : Hid (pn = [] ++ (px ++ py)) := HN0
      clear HN0 hline
      go_wp2_with fail
      refine reg_begin 14 (by kernel_rfl) ?_
      generalize hW : World.drew _ = W
      have HE := hid (by rw [← hW]; exact ((HE1.out.alloc' _).alloc' _).drew' : Ext w W)
      have hb1 : W.heap[w1.heap.size]? = some (.cells #[.int .i64 ra.row, .int .i64 ra.col, .int .i64 ra.rows, .int .i64 ra.cols] 32 (0, 0)) := by rw [← hW]; exact (Ext.alloc _ _).blk (blk_new _ _)
      have hb2 : W.heap[w1.heap.size + 1]? = some (.cells #[.int .i64 rb.row, .int .i64 rb.col, .int .i64 rb.rows, .int .i64 rb.cols] 32 (0, 0)) := by rw [← hW]; exact blk_at (by simp)
      have HOW := hid (World.ownsRow_nil W w.heap.size 32 4)
      clear hW HE1 c1 c1' HP0
      have HA0 := hid (cell_blk (j := 0) hb1 rfl)
      have HA1 := hid (cell_blk (j := 1) hb1 rfl)
      have HA2 := hid (cell_blk (j := 2) hb1 rfl)
      have HA3 := hid (cell_blk (j := 3) hb1 rfl)
      have HB0 := hid (cell_blk (j := 0) hb2 rfl)
      have HB1 := hid (cell_blk (j := 1) hb2 rfl)
      have HB2 := hid (cell_blk (j := 2) hb2 rfl)
      have HB3 := hid (cell_blk (j := 3) hb2 rfl)
      clear hb1 hb2
      replace HC3 := hid (HE.out.cell HC3.out)
      replace HC4 := hid (HE.out.cell HC4.out)
      refine reg_quiet 0 rfl (by kernel_rfl) (by kernel_rfl) ?_
      apply Exists.intro
      refine ⟨fun w' hw' => ?_, ?_⟩
      · go_simp
        exact ⟨rfl, Ext.refl _⟩
      refine reg_quiet 1 rfl (by kernel_rfl) (by kernel_rfl) ?_
      apply Exists.intro
      refine ⟨fun w' hw' => ?_, ?_⟩
      · go_simp
        exact ⟨rfl, Ext.refl _⟩
      refine reg_quiet 2 rfl (by kernel_rfl) (by kernel_rfl) ?_
      apply Exists.intro
      refine ⟨fun w' hw' => ?_, ?_⟩
      · go_simp
        exact ⟨rfl, Ext.refl _⟩
      refine reg_quiet 3 rfl (by kernel_rfl) (by kernel_rfl) ?_
      apply Exists.intro
      refine ⟨fun w' hw' => ?_, ?_⟩
      · go_simp
        exact ⟨rfl, Ext.refl _⟩
      refine reg_quiet 4 rfl (by kernel_rfl) (by kernel_rfl) ?_
      apply Exists.intro
      refine ⟨fun w' hw' => ?_, ?_⟩
      · have q0 := hw'.cell HC3.out
        go_simp
        exact ⟨rfl, Ext.refl _⟩
      refine reg_quiet 5 rfl (by kernel_rfl) (by kernel_rfl) ?_
      apply Exists.intro
      refine ⟨fun w' hw' => ?_, ?_⟩
      · have q0 := hw'.cell HA0.out; have q1 := hw'.cell HA1.out; have q2 := hw'.cell HA2.out; have q3 := hw'.cell HA3.out
        go_simp
        exact ⟨rfl, Ext.refl _⟩
      refine reg_quiet 8 rfl (by kernel_rfl) (by kernel_rfl) ?_
      apply Exists.intro
      refine ⟨fun w' hw' => ?_, ?_⟩
      · go_simp
        exact ⟨rfl, Ext.refl _⟩
      refine reg_quiet 9 rfl (by kernel_rfl) (by kernel_rfl) ?_
      apply Exists.intro
      refine ⟨fun w' hw' => ?_, ?_⟩
      · go_simp
        exact ⟨rfl, Ext.refl _⟩
      refine reg_quiet 10 rfl (by kernel_rfl) (by kernel_rfl) ?_
      apply Exists.intro
      refine ⟨fun w' hw' => ?_, ?_⟩
      · go_simp
        exact ⟨rfl, Ext.refl _⟩
      refine reg_quiet 11 rfl (by kernel_rfl) (by kernel_rfl) ?_
      apply Exists.intro
      refine ⟨fun w' hw' => ?_, ?_⟩
      · have q0 := hw'.cell HC4.out
        go_simp
        exact ⟨rfl, Ext.refl _⟩
      refine reg_quiet 12 rfl (by kernel_rfl) (by kernel_rfl) ?_
      apply Exists.intro
      refine ⟨fun w' hw' => ?_, ?_⟩
      · have q0 := hw'.cell HB0.out; have q1 := hw'.cell HB1.out; have q2 := hw'.cell HB2.out; have q3 := hw'.cell HB3.out
        go_simp
        exact ⟨rfl, Ext.refl _⟩
      refine reg_one 6 rfl (by kernel_rfl) rfl (fun w' hw' => ?_)
      go_simp
      refine (HX.out w' (HE.out.trans hw')).mono ?_
      rintro e w2 ⟨v1, rfl, ho1, hE2⟩
      have HE2 := hid ((HE.out.trans hw').trans hE2)
      replace HOW := hid (own_ext (hw'.trans hE2) HOW.out)
      have HO1 := hid ho1
      refine ⟨hE2, ?_⟩
      clear hw' ho1 HE HC3 HC4 HA0 HA1 HA2 HA3 HB0 HB1 HB2 HB3
      refine reg_one 7 rfl (by kernel_rfl) rfl (fun w3 hw3 => ?_)
      replace HE2 := hid (HE2.out.trans hw3)
      replace HOW := hid (own_ext hw3 HOW.out)
      replace HO1 := hid (own_ext hw3 HO1.out)
      clear hw3
      refine wp_join (.tmp 60) (.tmp 66) rfl rfl w.heap.size _ (.slice none 0 0) v1 0 px.length ([] : List Bx) px (by rfl) (by rfl) HOW.out HO1.out (by omega) HE2.out.size ?_
      intro v3 w4 hown4 _ hx1 hx0
      have hE4 : Ext w3 w4 := hx0 rfl rfl
      refine ⟨fun _ => hE4, ?_⟩
      have HE4 := hid (HE2.out.trans hE4)
      have HO4 := hid hown4
      clear hown4 hx1 hx0 hE4 HE2 HOW HO1
      refine reg_one 13 rfl (by kernel_rfl) rfl (fun w5 hw5 => ?_)
      go_simp
      refine (HY.out w5 (HE4.out.trans hw5)).mono ?_
      rintro e w6 ⟨v2, rfl, ho2, hE6⟩
      have HE6 := hid ((HE4.out.trans hw5).trans hE6)
      replace HO4 := hid (own_ext (hw5.trans hE6) HO4.out)
      have HO2 := hid ho2
      refine ⟨hE6, ?_⟩
      clear ho2 hE6 hw5 HE4
      refine reg_one 14 rfl (by kernel_rfl) rfl (fun w7 hw7 => ?_)
      replace HE6 := hid (HE6.out.trans hw7)
      replace HO4 := hid (own_ext hw7 HO4.out)
      replace HO2 := hid (own_ext hw7 HO2.out)
      clear hw7
      refine wp_join (.tmp 67) (.tmp 73) rfl rfl w.heap.size _ v3 v2 (0 + px.length) py.length (([] : List Bx) ++ px) py (by rfl) (by rfl) HO4.out HO2.out (by omega) HE6.out.size ?_
      intro v8 w8 hown8 hgrow8 _ _
      refine ⟨fun h => absurd h (by decide), ?_⟩
      have HE8 : Hid (Ext w w8) := hid (Below.grown HE6.out hgrow8 HE6.out.size (fun k hk => (HO4.out.lt k hk).1))
      have HO8 := hid hown8
      clear hown8 hgrow8 HE6 HO4 HO2
      refine reg_pure 15 rfl (by kernel_rfl) rfl ?_
      apply Exists.intro
      refine ⟨fun w' => ?_, ?_⟩
      · go_simp
        exact rfl
      refine reg_done (by kernel_rfl) (fun w9 hw9 => ?_) _
      replace HE8 := hid (HE8.out.trans hw9)
      replace HO8 := hid (own_ext hw9 HO8.out)
      clear hw9
      go_simp
      go_wp2_with fail
      go_ret
      refine ⟨_, rfl, ?_, HE8.out⟩
      rw [HN.out, ← List.append_assoc, List.length_append, List.length_append]
      exact HO8.out

end Go.Proofs.YtflbfmfaccaffaaDoor
