/-
  The document's places and borders.
-/
import Derived.Test.YtflbfmfaccaffaaDoorR1
import Derived.ArgAppend
namespace Go.Proofs.YtflbfmfaccaffaaDoor
open Go Go.RowKit
attribute [local go_sem] extUpon
attribute [local go_sem ↓] eval_put_ne eval_put_none eval_put_same size_put eval_const

/-- Two rows of boxes are joined. -/
theorem join_run (B B2 : Nat) (v v2 : Value) (n m : Nat) (l1 l2 : List Bx) (w : World) (h1 : w.ownsRow B 32 4 v n (l1.flatMap Bx.vals)) (h2 : w.ownsRow B2 32 4 v2 m (l2.flatMap Bx.vals)) (hb : n + m ≤ 1000000) (hB : B ≤ w.heap.size) :
    ∃ v' w', (Builtin.append_ #[29, 29] 29 #[v, v2]).run Tryd.prog w = .ok v' w' ∧ w'.ownsRow B 32 4 v' (n + m) ((l1 ++ l2).flatMap Bx.vals) ∧ w.grownBy w' v.ownBlock ∧ (n = 1 → (∀ a, v = .slice a 1 1 → Ext w w')) ∧ (n = 0 → v = .slice none 0 0 → Ext w w') := by
  obtain ⟨i, hi, hz, hz1, hz2⟩ := info_parts (show (Tryd.prog.info? 32).map (fun i => (i.zero, i.size, i.bytes)) = some (some (.agg #[.int .i64 0, .int .i64 0, .int .i64 0, .int .i64 0]), 4, 32) by kernel_rfl)
  have ht := Tryd.underlying29
  have hgb : w.grownBy w v.ownBlock := ⟨rfl, rfl, rfl, Nat.le_refl _, fun _ _ _ => rfl⟩
  by_cases hm : m = 0
  · subst hm
    have hl2 : l2.flatMap Bx.vals = [] := List.length_eq_zero_iff.1 (by have := h2.1; simpa using this)
    have hrun : (Builtin.append_ #[29, 29] 29 #[v, v2]).run Tryd.prog w = .ok v w := by
      rcases h2.2 with ⟨rfl, _⟩ | ⟨g2, cap2, cur2, rfl, _⟩
      · exact run_append_owned_none w B 29 29 32 i 4 ht hi v n _ h1
      · rcases h1.2 with ⟨rfl, rfl⟩ | ⟨g', cap, cur, rfl, _, _, hnc, _⟩
        · simp [Builtin.append_, run_underlying ht, sizeOf, typeInfo, hi, Builtin.lenOf, Builtin.firstCells, go_sem, storeCells]
        · simp [Builtin.append_, run_underlying ht, sizeOf, typeInfo, hi, Builtin.lenOf, Builtin.firstCells, hnc, go_sem, storeCells]
    exact ⟨v, w, hrun, by rw [List.flatMap_append, hl2]; simpa using h1, hgb, fun _ _ _ => Ext.refl _, fun _ _ => Ext.refl _⟩
  · obtain ⟨a2, cap2, rfl, hc2⟩ := own_form h2
    obtain ⟨g2, rfl, hcc⟩ := hc2 (by omega)
    have hnews : ∀ j u, (l2.flatMap Bx.vals)[j]? = some u → w.cell? ((⟨g2, 0, none⟩ : Addr).add j) = some u := fun j u hu => by
      rw [show (⟨g2, 0, none⟩ : Addr).add j = ⟨g2, j, none⟩ by unfold Addr.add; split <;> simp_all]
      exact hcc j u hu
    by_cases hfull : n = 1 ∧ ∃ a, v = .slice a 1 1
    · obtain ⟨rfl, a, rfl⟩ := hfull
      obtain ⟨a1, cap1, hv1, hc1⟩ := own_form h1
      simp only [Value.slice.injEq] at hv1
      obtain ⟨rfl, _, rfl⟩ := hv1
      obtain ⟨g1, rfl, hcc1⟩ := hc1 (by omega)
      obtain ⟨v', w', hr, h3, h4⟩ := run_append_arg_grows (P := Tryd.prog) w 29 29 32 i (.agg #[.int .i64 0, .int .i64 0, .int .i64 0, .int .i64 0]) 4 32 ht hi hz hz1 hz2 rfl (by omega) ⟨g1, 0, none⟩ 1 1 (l1.flatMap Bx.vals) h1.1
        (fun j u hu => by
          rw [show (⟨g1, 0, none⟩ : Addr).add j = ⟨g1, j, none⟩ by unfold Addr.add; split <;> simp_all]
          exact hcc1 j u hu) ⟨g2, 0, none⟩ m cap2 (l2.flatMap Bx.vals) h2.1 hnews (by omega) (by unfold maxLen; omega) (by omega)
      have hE : Ext w w' := ⟨h4.os, h4.tape, h4.output, h4.size, fun k hk => h4.block k hk (by simp)⟩
      exact ⟨v', w', hr, own_low (by rw [List.flatMap_append]; exact h3) hB, ⟨h4.os, h4.tape, h4.output, h4.size, fun k hk _ => h4.block k hk (by simp)⟩, fun _ _ _ => hE, fun h => by omega⟩
    · obtain ⟨g', cap', w', hr, h3, h4, h5, _⟩ := run_append_lies (P := Tryd.prog) w 29 29 B 32 i (.agg #[.int .i64 0, .int .i64 0, .int .i64 0, .int .i64 0]) 4 32 ht hi hz hz1 hz2 rfl (by omega) v n _ h1 ⟨g2, 0, none⟩ m cap2 (l2.flatMap Bx.vals) h2.1 hnews
        (fun u hu => by
          obtain ⟨q, _, hq⟩ := List.mem_flatMap.1 hu
          simp [Bx.vals] at hq
          rcases hq with rfl | rfl | rfl | rfl <;> rfl) (by omega) (by unfold maxLen; omega) (by omega) hB w.heap.size rfl
      refine ⟨_, w', hr, by rw [List.flatMap_append]; exact h3, h4, fun hn a ha => absurd ⟨hn, a, ha⟩ hfull, fun hn hv => ?_⟩
      subst hv
      exact ⟨h4.os, h4.tape, h4.output, h4.size, fun k hk => h4.block k hk (by simp [Value.ownBlock])⟩

theorem wp_join {o : Oper} {a : Act} {w : World} {K : Act → World → Prop} {Q : Exit → Act → World → Prop} (s x : Operand) (ho : o.op = .call { callee := .builtin .append, args := #[s, x], argTypes := #[29, 29] }) (hty : o.type = 29)
    (B B2 : Nat) (v v2 : Value) (n m : Nat) (l1 l2 : List Bx) (hs : a.eval s = v) (hx : a.eval x = v2) (h1 : w.ownsRow B 32 4 v n (l1.flatMap Bx.vals)) (h2 : w.ownsRow B2 32 4 v2 m (l2.flatMap Bx.vals)) (hb : n + m ≤ 1000000) (hB : B ≤ w.heap.size)
    (h : ∀ v' w', w'.ownsRow B 32 4 v' (n + m) ((l1 ++ l2).flatMap Bx.vals) → w.grownBy w' v.ownBlock → (n = 1 → (∀ a, v = .slice a 1 1 → Ext w w')) → (n = 0 → v = .slice none 0 0 → Ext w w') → K (a.put o.dst v') w') : o.wp Tryd.prog a w K Q := by
  obtain ⟨v', w', hr, h2, h3, h4, h5⟩ := join_run B B2 v v2 n m l1 l2 w h1 h2 hb hB
  unfold Oper.wp execOp
  simp only [ho, hty, resolve, invoke, builtin, Sem.run_bind, Sem.run_pure, Result.andThen_ok, List.map_toArray, List.map_cons, List.map_nil, hs, hx, hr]
  exact h v' w' h2 h3 h4 h5

set_option maxHeartbeats 4000000 in
set_option maxRecDepth 100000 in
theorem rin_any : ∀ (t : LT) (r : Bx) (w : World), RtAt w t → t.size ≤ 1000 → r.ok →
    Calls Tryd.prog 48 #[ptr t.b, r.val] w fun e w' => ∃ v, e = .returned v ∧ w'.ownsRow w.heap.size 32 4 v (t.places r).length ((t.places r).flatMap Bx.vals) ∧ Ext w w' := by
  intro t
  induction t with
  | leaf b q =>
    intro r w h _ _
    have c3 : ∀ o, (w.alloc o).cell? ⟨b, 3, none⟩ = some (.pointer none) := fun o => (Ext.alloc w o).cell (rnode_cells h 3 _ rfl)
    clear h
    unfold ptr LT.b Bx.val
    go_enter Tryd.func48, Tryd.ntmps48
    go_wp2_with fail
    go_ret
    refine ⟨_, rfl, ?_, (Ext.alloc _ _).alloc' _⟩
    have h5 := World.ownsRow_lit (base := w.heap.size) (size := 4) (e := 32) (w.alloc (.cells #[.int .i64 r.row, .int .i64 r.col, .int .i64 r.rows, .int .i64 r.cols] 32 (0, 0))) #[.int .i64 r.row, .int .i64 r.col, .int .i64 r.rows, .int .i64 r.cols] 1 (by simp) (by decide) rfl
    rw [show (w.alloc (.cells #[.int .i64 r.row, .int .i64 r.col, .int .i64 r.rows, .int .i64 r.cols] 32 (0, 0))).heap.size = w.heap.size + 1 by simp] at h5
    exact h5
  | node b x y a k ihx ihy =>
    intro r w h hz hr
    simp only [LT.size] at hz
    have hpo := parts_ok (a := a) (k := k) hr
    have hlx : (x.places (parts a k r).1).length ≤ 1000 := by rw [← panes_len]; have := panes_len_size x; omega
    have hly : (y.places (parts a k r).2).length ≤ 1000 := by rw [← panes_len]; have := panes_len_size y; omega
    have HX := hid (fun w' (he : Ext w w') => ihx (parts a k r).1 w' (h.ext he).2.1 (by omega) hpo.1)
    have HY := hid (fun w' (he : Ext w w') => ihy (parts a k r).2 w' (h.ext he).2.2 (by omega) hpo.2)
    have HB := hid (fun w' (he : Ext w w') => rboxes_any b a k r w' (rnode_cells (h.ext he) 1 _ rfl) (rnode_cells (h.ext he) 2 _ rfl) hr)
    have c3 : ∀ o, (w.alloc o).cell? ⟨b, 3, none⟩ = some (ptr x.b) := fun o => (Ext.alloc w o).cell (rnode_cells h 3 _ rfl)
    have HC3 : Hid (w.cell? ⟨b, 3, none⟩ = some (ptr x.b)) := hid (rnode_cells h 3 _ rfl)
    have HC4 : Hid (w.cell? ⟨b, 4, none⟩ = some (ptr y.b)) := hid (rnode_cells h 4 _ rfl)
    have HN : Hid ((LT.node b x y a k).places r = x.places (parts a k r).1 ++ y.places (parts a k r).2) := hid rfl
    clear h ihx ihy hpo
    generalize (LT.node b x y a k).places r = pn at *
    generalize parts a k r = ab at *
    obtain ⟨ra, rb⟩ := ab
    simp only at HX HY HB HN hlx hly
    generalize x.places ra = px at *
    generalize y.places rb = py at *
    generalize x.b = bx at *
    generalize y.b = by_ at *
    generalize wide a r = wd at *
    unfold ptr LT.b Bx.val at *
    go_enter Tryd.func48, Tryd.ntmps48
    go_wp2_with fail
    refine (HB.out _ (Ext.alloc _ _)).mono ?_
    rintro e w1 ⟨rfl, hE1⟩
    have HE1 := hid ((Ext.alloc w _).trans hE1)
    clear hE1 c3 HB
    go_wp2_with fail
    refine reg_begin 12 (by kernel_rfl) ?_
    generalize hW : World.drew _ = W
    have HE := hid (by rw [← hW]; exact ((HE1.out.alloc' _).alloc' _).drew' : Ext w W)
    have hb1 : W.heap[w1.heap.size]? = some (.cells #[.int .i64 ra.row, .int .i64 ra.col, .int .i64 ra.rows, .int .i64 ra.cols] 32 (0, 0)) := by rw [← hW]; exact (Ext.alloc _ _).blk (blk_new _ _)
    have hb2 : W.heap[w1.heap.size + 1]? = some (.cells #[.int .i64 rb.row, .int .i64 rb.col, .int .i64 rb.rows, .int .i64 rb.cols] 32 (0, 0)) := by rw [← hW]; exact blk_at (by simp)
    clear hW HE1
    have HA0 := hid (cell_blk (j := 0) hb1 rfl)
    have HA1 := hid (cell_blk (j := 1) hb1 rfl)
    have HA2 := hid (cell_blk (j := 2) hb1 rfl)
    have HA3 := hid (cell_blk (j := 3) hb1 rfl)
    have HB0 := hid (cell_blk (j := 0) hb2 rfl)
    have HB1 := hid (cell_blk (j := 1) hb2 rfl)
    have HB2 := hid (cell_blk (j := 2) hb2 rfl)
    have HB3 := hid (cell_blk (j := 3) hb2 rfl)
    clear hb1 hb2
    replace HC3 := hid (HE.out.cell HC3.out)
    replace HC4 := hid (HE.out.cell HC4.out)
    refine reg_quiet 0 rfl (by kernel_rfl) (by kernel_rfl) ?_
    apply Exists.intro
    refine ⟨fun w' hw' => ?_, ?_⟩
    · go_simp
      exact ⟨rfl, Ext.refl _⟩
    refine reg_quiet 1 rfl (by kernel_rfl) (by kernel_rfl) ?_
    apply Exists.intro
    refine ⟨fun w' hw' => ?_, ?_⟩
    · go_simp
      exact ⟨rfl, Ext.refl _⟩
    refine reg_quiet 2 rfl (by kernel_rfl) (by kernel_rfl) ?_
    apply Exists.intro
    refine ⟨fun w' hw' => ?_, ?_⟩
    · go_simp
      exact ⟨rfl, Ext.refl _⟩
    refine reg_quiet 3 rfl (by kernel_rfl) (by kernel_rfl) ?_
    apply Exists.intro
    refine ⟨fun w' hw' => ?_, ?_⟩
    · have q0 := hw'.cell HC3.out
      go_simp
      exact ⟨rfl, Ext.refl _⟩
    refine reg_quiet 4 rfl (by kernel_rfl) (by kernel_rfl) ?_
    apply Exists.intro
    refine ⟨fun w' hw' => ?_, ?_⟩
    · have q0 := hw'.cell HA0.out; have q1 := hw'.cell HA1.out; have q2 := hw'.cell HA2.out; have q3 := hw'.cell HA3.out
      go_simp
      exact ⟨rfl, Ext.refl _⟩
    refine reg_quiet 6 rfl (by kernel_rfl) (by kernel_rfl) ?_
    apply Exists.intro
    refine ⟨fun w' hw' => ?_, ?_⟩
    · go_simp
      exact ⟨rfl, Ext.refl _⟩
    refine reg_quiet 7 rfl (by kernel_rfl) (by kernel_rfl) ?_
    apply Exists.intro
    refine ⟨fun w' hw' => ?_, ?_⟩
    · go_simp
      exact ⟨rfl, Ext.refl _⟩
    refine reg_quiet 8 rfl (by kernel_rfl) (by kernel_rfl) ?_
    apply Exists.intro
    refine ⟨fun w' hw' => ?_, ?_⟩
    · go_simp
      exact ⟨rfl, Ext.refl _⟩
    refine reg_quiet 9 rfl (by kernel_rfl) (by kernel_rfl) ?_
    apply Exists.intro
    refine ⟨fun w' hw' => ?_, ?_⟩
    · have q0 := hw'.cell HC4.out
      go_simp
      exact ⟨rfl, Ext.refl _⟩
    refine reg_quiet 10 rfl (by kernel_rfl) (by kernel_rfl) ?_
    apply Exists.intro
    refine ⟨fun w' hw' => ?_, ?_⟩
    · have q0 := hw'.cell HB0.out; have q1 := hw'.cell HB1.out; have q2 := hw'.cell HB2.out; have q3 := hw'.cell HB3.out
      go_simp
      exact ⟨rfl, Ext.refl _⟩
    refine reg_one 5 rfl (by kernel_rfl) rfl (fun w' hw' => ?_)
    go_simp
    refine (HX.out w' (HE.out.trans hw')).mono ?_
    rintro e w2 ⟨v1, rfl, ho1, hE2⟩
    have HE2 := hid ((HE.out.trans hw').trans hE2)
    have HO1 := hid (own_low ho1 (HE.out.trans hw').size)
    refine ⟨hE2, ?_⟩
    clear hw' ho1 HE HC3 HC4 HA0 HA1 HA2 HA3 HB0 HB1 HB2 HB3
    refine reg_one 11 rfl (by kernel_rfl) rfl (fun w3 hw3 => ?_)
    go_simp
    refine (HY.out w3 (HE2.out.trans hw3)).mono ?_
    rintro e w4 ⟨v2, rfl, ho2, hE4⟩
    have HE4 := hid ((HE2.out.trans hw3).trans hE4)
    replace HO1 := hid (own_ext (hw3.trans hE4) HO1.out)
    have HO2 := hid ho2
    refine ⟨hE4, ?_⟩
    clear ho2 hE4 hw3 HE2
    refine reg_one 12 rfl (by kernel_rfl) rfl (fun w5 hw5 => ?_)
    replace HE4 := hid (HE4.out.trans hw5)
    replace HO1 := hid (own_ext hw5 HO1.out)
    replace HO2 := hid (own_ext hw5 HO2.out)
    clear hw5
    refine wp_join (.tmp 27) (.tmp 33) rfl rfl w.heap.size _ v1 v2 px.length py.length px py (by rfl) (by rfl) HO1.out HO2.out (by omega) HE4.out.size ?_
    intro v6 w6 hown6 hgrow6 _ _
    refine ⟨fun h => absurd h (by decide), ?_⟩
    have HE6 : Hid (Ext w w6) := hid (Below.grown HE4.out hgrow6 HE4.out.size (fun k hk => (HO1.out.lt k hk).1))
    have HO6 := hid hown6
    clear hown6 hgrow6 HE4 HO1 HO2
    refine reg_pure 13 rfl (by kernel_rfl) rfl ?_
    apply Exists.intro
    refine ⟨fun w' => ?_, ?_⟩
    · go_simp
      exact rfl
    refine reg_done (by kernel_rfl) (fun w7 hw7 => ?_) _
    replace HE6 := hid (HE6.out.trans hw7)
    replace HO6 := hid (own_ext hw7 HO6.out)
    clear hw7
    go_simp
    go_wp2_with fail
    go_ret
    refine ⟨_, rfl, ?_, HE6.out⟩
    rw [HN.out, List.length_append]
    exact HO6.out

end Go.Proofs.YtflbfmfaccaffaaDoor
