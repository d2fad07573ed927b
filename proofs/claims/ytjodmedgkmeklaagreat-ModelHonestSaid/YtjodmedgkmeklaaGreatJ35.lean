/-
  Texts merged: Q45.
-/
import Derived.Test.YtjodmedgkmeklaaGreatJ34
/-
  An op out of a raw one (Ops, of one raw one, of the listener's kinds).
-/
namespace Go.Proofs.YtjodmedgkmeklaaGreat
open Go Go.RowKit Go.Maps
attribute [local go_sem] extUpon run_store_tm
attribute [local go_sem ↓] Tm.val_cell eval_put_ne eval_put_none eval_put_same size_put eval_const
attribute [local go_sem ↓] meth_Atom meth_Public meth_Shared meth_Chain meth_Digest meth_Box meth_Empty
attribute [local go_sem ↓] run_build_chain run_build_digest run_build_box
attribute [local go_sem] ta_Atom_Atom ta_Public_Atom ta_Shared_Atom ta_Chain_Atom ta_Digest_Atom ta_Box_Atom ta_Empty_Atom ta_Nil_Atom ta_Atom_Public ta_Public_Public ta_Shared_Public ta_Chain_Public ta_Digest_Public ta_Box_Public ta_Empty_Public ta_Nil_Public ta_Atom_Shared ta_Public_Shared ta_Shared_Shared ta_Chain_Shared ta_Digest_Shared ta_Box_Shared ta_Empty_Shared ta_Nil_Shared ta_Atom_Chain ta_Public_Chain ta_Shared_Chain ta_Chain_Chain ta_Digest_Chain ta_Box_Chain ta_Empty_Chain ta_Nil_Chain ta_Atom_Digest ta_Public_Digest ta_Shared_Digest ta_Chain_Digest ta_Digest_Digest ta_Box_Digest ta_Empty_Digest ta_Nil_Digest ta_Atom_Box ta_Public_Box ta_Shared_Box ta_Chain_Box ta_Digest_Box ta_Box_Box ta_Empty_Box ta_Nil_Box ta_Atom_Empty ta_Public_Empty ta_Shared_Empty ta_Chain_Empty ta_Digest_Empty ta_Box_Empty ta_Empty_Empty ta_Nil_Empty
variable {f : Int → List UInt8} {P : Int → Prop} {w0 w W W2 W3 : World} {μ μ2 : MS} {c d wb : Nat} {B : Int}

/-- An op of the listener's. -/
structure OpIn (k a b c : Int) : Prop where
  k : 7 ≤ k ∧ k ≤ 12
  a : 0 ≤ a ∧ a ≤ 60
  b : 0 ≤ b ∧ b ≤ 60
  c : 0 ≤ c ∧ c ≤ 60
theorem pick_at (n m : Int) (hm0 : 0 < m) (hm1 : m ≤ 1000) (W : World) : Calls Tryz.prog 17 #[.int .i64 n, .int .i64 m] W fun e w' => e = .returned (.int .i64 (n % m)) ∧ Ext W w' :=
  (pick_any n m W hm0 (by omega)).mono fun _ _ h => ⟨h.1, h.2 ▸ Ext.refl _⟩

theorem set_blk4 {q : Nat} {a0 a1 a2 a3 : Value} {ty : TypeId} (h : W.heap[q]? = some (.cells #[a0, a1, a2, a3] ty (0, 0))) (u : Value) : (W.setCell ⟨q, 1, none⟩ u).heap[q]? = some (.cells #[a0, u, a2, a3] ty (0, 0)) := by
  simp only [World.setCell, Array.getElem?_modify, h, if_true, Option.map_some]; rfl
set_option maxHeartbeats 16000000 in
set_option maxRecDepth 100000 in
theorem ops_one {g cap : Nat} {rk rn ra rb rc : Int} (hk : 6 ≤ rk ∧ rk ≤ 11) (h0 : W.cell? ⟨g, 0, none⟩ = some (.int .i64 rk)) (h1 : W.cell? ⟨g, 1, none⟩ = some (.int .i64 rn)) (h2 : W.cell? ⟨g, 2, none⟩ = some (.int .i64 ra)) (h3 : W.cell? ⟨g, 3, none⟩ = some (.int .i64 rb)) (h4 : W.cell? ⟨g, 4, none⟩ = some (.int .i64 rc)) :
    Calls Tryz.prog 28 #[.slice (some ⟨g, 0, none⟩) 1 cap] W fun e w' => ∃ v k a b c, e = .returned v ∧ OpIn k a b c ∧ w'.ownsRow W.heap.size 39 4 v 1 [.int .i64 k, .int .i64 a, .int .i64 b, .int .i64 c] ∧ Ext W w' := by
  have i0 : (Tryz.prog.info? 39).map (fun i => (i.zero, i.size, i.bytes)) = some (some (.agg #[.int .i64 0, .int .i64 0, .int .i64 0, .int .i64 0]), 4, 32) := by kernel_rfl
  obtain ⟨j0, hi0, hz0, hz1, hz2⟩ := info_parts i0
  have HI0 := hid (And.intro hi0 (And.intro hz0 (And.intro hz1 hz2)))
  have HC := hid (And.intro h0 (And.intro h1 (And.intro h2 (And.intro h3 h4))))
  clear i0 hi0 hz0 hz1 hz2 h0 h1 h2 h3 h4
  go_enter Tryz.func28, Tryz.ntmps28
  go_wp2_with fail
  go_loopw [3, 4] (fun ov iv wr => ∃ j : Nat, iv = .int .i64 j ∧ Hid (Ext W wr) ∧ ((j = 0 ∧ ov = .slice none 0 0) ∨ (j = 1 ∧ ∃ k a b c, OpIn k a b c ∧ Hid (wr.ownsRow W.heap.size 39 4 ov 1 [.int .i64 k, .int .i64 a, .int .i64 b, .int .i64 c])))) (fun _ iv _ => 1 - (intOf iv).toNat)
  case atStart => exact ⟨0, rfl, hid (Ext.refl _), .inl ⟨rfl, rfl⟩⟩
  case round =>
    obtain ⟨j, rfl, HX, ⟨rfl, hov⟩ | ⟨rfl, k, a, b, c, hin, HO⟩⟩ := hrel
    · subst hov
      have q0 := HX.out.cell HC.out.1
      have q1 := HX.out.cell HC.out.2.1
      have q2 := HX.out.cell HC.out.2.2.1
      have q3 := HX.out.cell HC.out.2.2.2.1
      have q4 := HX.out.cell HC.out.2.2.2.2
      go_upto_region 6 with fail
      have HE1 := hid (HX.out.alloc' (.cells #[.int .i64 rk, .int .i64 rn, .int .i64 ra, .int .i64 rb, .int .i64 rc] 57 (0, 0)))
      have HB1 := hid (blk_new wr (.cells #[.int .i64 rk, .int .i64 rn, .int .i64 ra, .int .i64 rb, .int .i64 rc] 57 (0, 0)))
      generalize World.alloc wr _ = W1 at *
      generalize wr.heap.size = p at *
      clear q0 q1 q2 q3 q4 HX
      refine reg_begin 15 (by kernel_rfl) ?_
      refine reg_hide (fun Q2 HQ => ?_)
      generalize hW : World.drew _ = W2
      have HE2 : Hid (Ext W1 W2) := hid (by rw [← hW]; exact Ext.drew _)
      clear hW
      refine reg_pure 0 rfl (by kernel_rfl) (by kernel_rfl) ?_; apply Exists.intro; refine ⟨fun w' => ?_, ?_⟩; · go_simp; exact rfl
      refine reg_quiet 1 rfl (by kernel_rfl) (by kernel_rfl) ?_; apply Exists.intro; refine ⟨fun w' hw' => ?_, ?_⟩; · have q0 : w'.cell? ⟨p, 0, none⟩ = some (.int .i64 rk) := cell_blk ((HE2.out.trans hw').blk HB1.out) rfl; go_simp; exact ⟨rfl, Ext.refl _⟩
      refine reg_quiet 2 rfl (by kernel_rfl) (by kernel_rfl) ?_; apply Exists.intro; refine ⟨fun w' hw' => ?_, ?_⟩; · go_simp; exact pick_at rk 12 (by omega) (by omega) w'
      refine reg_pure 3 rfl (by kernel_rfl) (by kernel_rfl) ?_; apply Exists.intro; refine ⟨fun w' => ?_, ?_⟩; · go_simp; exact rfl
      refine reg_pure 4 rfl (by kernel_rfl) (by kernel_rfl) ?_; apply Exists.intro; refine ⟨fun w' => ?_, ?_⟩; · go_simp; exact rfl
      refine reg_quiet 5 rfl (by kernel_rfl) (by kernel_rfl) ?_; apply Exists.intro; refine ⟨fun w' hw' => ?_, ?_⟩; · have q0 : w'.cell? ⟨p, 2, none⟩ = some (.int .i64 ra) := cell_blk ((HE2.out.trans hw').blk HB1.out) rfl; go_simp; exact ⟨rfl, Ext.refl _⟩
      refine reg_quiet 6 rfl (by kernel_rfl) (by kernel_rfl) ?_; apply Exists.intro; refine ⟨fun w' hw' => ?_, ?_⟩; · go_simp; exact pick_at ra 12 (by omega) (by omega) w'
      refine reg_pure 7 rfl (by kernel_rfl) (by kernel_rfl) ?_; apply Exists.intro; refine ⟨fun w' => ?_, ?_⟩; · go_simp; exact rfl
      refine reg_quiet 8 rfl (by kernel_rfl) (by kernel_rfl) ?_; apply Exists.intro; refine ⟨fun w' hw' => ?_, ?_⟩; · have q0 : w'.cell? ⟨p, 3, none⟩ = some (.int .i64 rb) := cell_blk ((HE2.out.trans hw').blk HB1.out) rfl; go_simp; exact ⟨rfl, Ext.refl _⟩
      refine reg_quiet 9 rfl (by kernel_rfl) (by kernel_rfl) ?_; apply Exists.intro; refine ⟨fun w' hw' => ?_, ?_⟩; · go_simp; exact pick_at rb 60 (by omega) (by omega) w'
      refine reg_pure 10 rfl (by kernel_rfl) (by kernel_rfl) ?_; apply Exists.intro; refine ⟨fun w' => ?_, ?_⟩; · go_simp; exact rfl
      refine reg_quiet 11 rfl (by kernel_rfl) (by kernel_rfl) ?_; apply Exists.intro; refine ⟨fun w' hw' => ?_, ?_⟩; · have q0 : w'.cell? ⟨p, 4, none⟩ = some (.int .i64 rc) := cell_blk ((HE2.out.trans hw').blk HB1.out) rfl; go_simp; exact ⟨rfl, Ext.refl _⟩
      refine reg_quiet 12 rfl (by kernel_rfl) (by kernel_rfl) ?_; apply Exists.intro; refine ⟨fun w' hw' => ?_, ?_⟩; · go_simp; exact pick_at rc 60 (by omega) (by omega) w'
      refine reg_pure 13 rfl (by kernel_rfl) (by kernel_rfl) ?_; apply Exists.intro; refine ⟨fun w' => ?_, ?_⟩; · go_simp; exact rfl
      refine reg_one 14 rfl (by kernel_rfl) (by kernel_rfl) (fun w3 hw3 => ?_)
      go_simp
      refine ⟨Ext.alloc _ _, ?_⟩
      have HBA := hid (blk_new w3 (.cells #[.int .i64 0, .int .i64 0, .int .i64 0, .int .i64 0] 39 (0, 0)))
      have HEA := hid ((HE1.out.trans (HE2.out.trans hw3)).alloc' (.cells #[.int .i64 0, .int .i64 0, .int .i64 0, .int .i64 0] 39 (0, 0)))
      have HB4 := hid ((Ext.alloc w3 (.cells #[.int .i64 0, .int .i64 0, .int .i64 0, .int .i64 0] 39 (0, 0))).blk ((HE2.out.trans hw3).blk HB1.out))
      have hqp : W.heap.size ≤ w3.heap.size ∧ p ≠ w3.heap.size := ⟨(HE1.out.trans (HE2.out.trans hw3)).size, fun e => by have h5 := (Array.getElem?_eq_some_iff.1 ((HE2.out.trans hw3).blk HB1.out)).1; omega⟩
      have HQP := hid hqp
      clear hqp hw3 HE2 HE1 HB1
      generalize World.alloc w3 _ = w4 at *
      generalize w3.heap.size = q at *
      refine reg_one 15 rfl (by kernel_rfl) (by kernel_rfl) (fun w5 hw5 => ?_)
      refine wp_store_mid 39 (.tmp 6) (.tmp 34) rfl q 0 #[.int .i64 (1 + rk % 12), .int .i64 (ra % 12), .int .i64 (rb % 60), .int .i64 (rc % 60)] (by go_simp) (by go_simp; rw [IntKind.wrap_i64]; omega) (fun j hj => ?_) (by kernel_rfl) (by have e1 : ∀ k n, (Value.int k n).oneCell' = true := fun _ _ => rfl; simp [e1]) ?_
      · have hj4 : j < 4 := hj
        rw [Nat.zero_add]
        refine ⟨?_, blk_frozen (hw5.blk HBA.out)⟩
        rcases (show j = 0 ∨ j = 1 ∨ j = 2 ∨ j = 3 by omega) with rfl | rfl | rfl | rfl <;> (rw [cell_blk (hw5.blk HBA.out) rfl]; rfl)
      refine ⟨fun h => absurd h (by decide), ?_⟩
      have hb6 := setCells_blk q [.int .i64 (1 + rk % 12), .int .i64 (ra % 12), .int .i64 (rb % 60), .int .i64 (rc % 60)] 0 w5 _ (hw5.blk HBA.out)
      have hs6 := setCells_same q [.int .i64 (1 + rk % 12), .int .i64 (ra % 12), .int .i64 (rb % 60), .int .i64 (rc % 60)] 0 w5
      have HB6a := hid hb6
      have HE6a := hid (Same.ext (HEA.out.trans hw5) hs6 (fun k hk e => by have := HQP.out.1; omega))
      have HR6a := hid ((hs6.2.2.2.2 p (Array.getElem?_eq_some_iff.1 (hw5.blk HB4.out)).1 HQP.out.2).trans (hw5.blk HB4.out))
      clear hb6 hs6 hw5 HBA HEA HB4
      change wpAnyU _ _ _ _ _ _ _ _ (w5.setCells q 0 [.int .i64 (1 + rk % 12), .int .i64 (ra % 12), .int .i64 (rb % 60), .int .i64 (rc % 60)])
      generalize World.setCells w5 _ _ _ = w7 at *
      refine reg_done (by kernel_rfl) (fun W6 hw6 => ?_) _
      rw [HQ.out]
      clear HQ Q2
      have HB6 := hid (hw6.blk HB6a.out)
      have HE6 := hid (HE6a.out.trans hw6)
      have HR6 := hid (hw6.blk HR6a.out)
      clear hw6 HB6a HE6a HR6a
      go_simp
      have hk12 : 1 + rk % 12 = 7 ∨ 1 + rk % 12 = 8 ∨ 1 + rk % 12 = 9 ∨ 1 + rk % 12 = 10 ∨ 1 + rk % 12 = 11 ∨ 1 + rk % 12 = 12 := by omega
      have HB6 : Hid (W6.heap[q]? = some (.cells #[.int .i64 (1 + rk % 12), .int .i64 (ra % 12), .int .i64 (rb % 60), .int .i64 (rc % 60)] 39 (0, 0))) := hid HB6.out
      generalize 1 + rk % 12 = kk at *
      rcases hk12 with rfl | rfl | rfl | rfl | rfl | rfl
      ·
        have r2 : W6.cell? ⟨p, 2, none⟩ = some (.int .i64 ra) := cell_blk HR6.out rfl
        have e0 : W6.cell? ⟨q, 0, none⟩ = some (.int .i64 7) := cell_blk HB6.out rfl
        have e1 : W6.cell? ⟨q, 1, none⟩ = some (.int .i64 (ra % 12)) := cell_blk HB6.out rfl
        have f1 : W6.frozen? ⟨q, 1, none⟩ = false := blk_frozen HB6.out
        have hblk := set_blk4 HB6.out (.int .i64 (50 + ra % 4))
        have hex := Same.ext HE6.out (same_set W6 q 1 (.int .i64 (50 + ra % 4))) (fun k hk e => by have := HQP.out.1; omega)
        have HRx := hid ((Below.heap_setCell W6 ⟨q, 1, none⟩ (.int .i64 (50 + ra % 4)) p HQP.out.2).trans HR6.out)
        have hwr : IntKind.i64.wrap (50 + ra % 4) = 50 + ra % 4 := by rw [IntKind.wrap_i64]; omega
        have hwr2 : IntKind.i64.wrap (1 + ra % 4) = 1 + ra % 4 := by rw [IntKind.wrap_i64]; omega
        go_wp2_with fail
        refine (pick_any ra 4 _ (by omega) (by omega)).mono ?_
        rintro e wx ⟨rfl, rfl⟩
        go_upto_region 15 with fail
        generalize World.setCell W6 _ _ = W7 at *
        clear r2 e0 e1 f1 HB6 HE6 HR6
        have HB7 := hid hblk
        have HE7 := hid hex
        clear hblk hex
        have r2 : W7.cell? ⟨p, 2, none⟩ = some (.int .i64 ra) := cell_blk HRx.out rfl
        have r4 : W7.cell? ⟨p, 4, none⟩ = some (.int .i64 rc) := cell_blk HRx.out rfl
        have e1 : W7.cell? ⟨q, 1, none⟩ = some (.int .i64 (50 + ra % 4)) := cell_blk HB7.out rfl
        have f1 : W7.frozen? ⟨q, 1, none⟩ = false := blk_frozen HB7.out
        by_cases h3 : rc.tmod 3 = 0
        ·
          have hblk := set_blk4 HB7.out (.int .i64 (1 + ra % 4))
          have hex := Same.ext HE7.out (same_set W7 q 1 (.int .i64 (1 + ra % 4))) (fun k hk e => by have := HQP.out.1; omega)
          go_wp2_with fail
          refine (pick_any ra 4 _ (by omega) (by omega)).mono ?_
          rintro e wx ⟨rfl, rfl⟩
          go_upto_region 24 with fail
          generalize World.setCell W7 _ _ = W8 at *
          clear r2 r4 e1 f1 HB7 HE7 HRx
          have HBK8 := hid hblk
          have HE8 := hid hex
          clear hblk hex
          have d0 : W8.cell? ⟨q, 0, none⟩ = some (.int .i64 7) := cell_blk HBK8.out rfl
          have d1 : W8.cell? ⟨q, 1, none⟩ = some (.int .i64 (1 + ra % 4)) := cell_blk HBK8.out rfl
          have d2 : W8.cell? ⟨q, 2, none⟩ = some (.int .i64 (rb % 60)) := cell_blk HBK8.out rfl
          have d3 : W8.cell? ⟨q, 3, none⟩ = some (.int .i64 (rc % 60)) := cell_blk HBK8.out rfl
          have HIN2 : Hid (OpIn 7 (1 + ra % 4) (rb % 60) (rc % 60)) := hid ⟨by omega, by omega, by omega, by omega⟩
          go_wp2_with (first | (at_builtin; refine wpList_append_lies _ rfl (.tmp 87) (.tmp 89) _ rfl W.heap.size 39 j0 (.agg #[.int .i64 0, .int .i64 0, .int .i64 0, .int .i64 0]) 4 32 Tryz.underlying58 HI0.out.1 HI0.out.2.1 HI0.out.2.2.1 HI0.out.2.2.2 rfl (by omega) (.slice none 0 0) 0 [] (by rfl) (World.ownsRow_nil _ _ _ _) ⟨W8.heap.size, 0, none⟩ 1 1 [.int .i64 7, .int .i64 (1 + ra % 4), .int .i64 (rb % 60), .int .i64 (rc % 60)] (by rfl) (by rfl) (World.news_of_block (blk_new W8 _)) (by intro u hu; simp at hu; rcases hu with rfl | rfl | rfl | rfl <;> rfl) (by omega) (by unfold maxLen; omega) (by omega) (by have := HE8.out.size; simp; omega) (W8.heap.size + 1) (by simp) ?_; intro g1 cap1 w9 hown9 hgrow9 hat9 hlt9; clear hlt9))
          have HF : Hid (Ext W w9) := hid (Below.grown (HE8.out.alloc' _) hgrow9 (by have := HE8.out.size; simp; omega) (fun k hk => by cases hk))
          have HO9 := hid hown9
          clear hown9 hgrow9 hat9 d0 d1 d2 d3
          go_roundw
          case rel => exact ⟨1, by go_num, HF, .inr ⟨rfl, _, _, _, _, HIN2.out, HO9⟩⟩
          case measure => simp [intOf]
        ·
          have hblk := HB7.out
          have hex := HE7.out
          go_upto_region 24 with fail
          clear r2 r4 e1 f1 HB7 HE7 HRx
          generalize W7 = W8 at *
          have HBK8 := hid hblk
          have HE8 := hid hex
          clear hblk hex
          have d0 : W8.cell? ⟨q, 0, none⟩ = some (.int .i64 7) := cell_blk HBK8.out rfl
          have d1 : W8.cell? ⟨q, 1, none⟩ = some (.int .i64 (50 + ra % 4)) := cell_blk HBK8.out rfl
          have d2 : W8.cell? ⟨q, 2, none⟩ = some (.int .i64 (rb % 60)) := cell_blk HBK8.out rfl
          have d3 : W8.cell? ⟨q, 3, none⟩ = some (.int .i64 (rc % 60)) := cell_blk HBK8.out rfl
          have HIN2 : Hid (OpIn 7 (50 + ra % 4) (rb % 60) (rc % 60)) := hid ⟨by omega, by omega, by omega, by omega⟩
          go_wp2_with (first | (at_builtin; refine wpList_append_lies _ rfl (.tmp 87) (.tmp 89) _ rfl W.heap.size 39 j0 (.agg #[.int .i64 0, .int .i64 0, .int .i64 0, .int .i64 0]) 4 32 Tryz.underlying58 HI0.out.1 HI0.out.2.1 HI0.out.2.2.1 HI0.out.2.2.2 rfl (by omega) (.slice none 0 0) 0 [] (by rfl) (World.ownsRow_nil _ _ _ _) ⟨W8.heap.size, 0, none⟩ 1 1 [.int .i64 7, .int .i64 (50 + ra % 4), .int .i64 (rb % 60), .int .i64 (rc % 60)] (by rfl) (by rfl) (World.news_of_block (blk_new W8 _)) (by intro u hu; simp at hu; rcases hu with rfl | rfl | rfl | rfl <;> rfl) (by omega) (by unfold maxLen; omega) (by omega) (by have := HE8.out.size; simp; omega) (W8.heap.size + 1) (by simp) ?_; intro g1 cap1 w9 hown9 hgrow9 hat9 hlt9; clear hlt9))
          have HF : Hid (Ext W w9) := hid (Below.grown (HE8.out.alloc' _) hgrow9 (by have := HE8.out.size; simp; omega) (fun k hk => by cases hk))
          have HO9 := hid hown9
          clear hown9 hgrow9 hat9 d0 d1 d2 d3
          go_roundw
          case rel => exact ⟨1, by go_num, HF, .inr ⟨rfl, _, _, _, _, HIN2.out, HO9⟩⟩
          case measure => simp [intOf]
      ·
        have r2 : W6.cell? ⟨p, 2, none⟩ = some (.int .i64 ra) := cell_blk HR6.out rfl
        have e0 : W6.cell? ⟨q, 0, none⟩ = some (.int .i64 8) := cell_blk HB6.out rfl
        have e1 : W6.cell? ⟨q, 1, none⟩ = some (.int .i64 (ra % 12)) := cell_blk HB6.out rfl
        have f1 : W6.frozen? ⟨q, 1, none⟩ = false := blk_frozen HB6.out
        have hblk := set_blk4 HB6.out (.int .i64 (1 + ra % 3))
        have hex := Same.ext HE6.out (same_set W6 q 1 (.int .i64 (1 + ra % 3))) (fun k hk e => by have := HQP.out.1; omega)
        have hwr : IntKind.i64.wrap (1 + ra % 3) = 1 + ra % 3 := by rw [IntKind.wrap_i64]; omega
        go_wp2_with fail
        refine (pick_any ra 3 _ (by omega) (by omega)).mono ?_
        rintro e wx ⟨rfl, rfl⟩
        go_upto_region 24 with fail
        generalize World.setCell W6 _ _ = W8 at *
        clear r2 e0 e1 f1 HB6 HE6 HR6
        have HBK8 := hid hblk
        have HE8 := hid hex
        clear hblk hex
        have d0 : W8.cell? ⟨q, 0, none⟩ = some (.int .i64 8) := cell_blk HBK8.out rfl
        have d1 : W8.cell? ⟨q, 1, none⟩ = some (.int .i64 (1 + ra % 3)) := cell_blk HBK8.out rfl
        have d2 : W8.cell? ⟨q, 2, none⟩ = some (.int .i64 (rb % 60)) := cell_blk HBK8.out rfl
        have d3 : W8.cell? ⟨q, 3, none⟩ = some (.int .i64 (rc % 60)) := cell_blk HBK8.out rfl
        have HIN2 : Hid (OpIn 8 (1 + ra % 3) (rb % 60) (rc % 60)) := hid ⟨by omega, by omega, by omega, by omega⟩
        go_wp2_with (first | (at_builtin; refine wpList_append_lies _ rfl (.tmp 87) (.tmp 89) _ rfl W.heap.size 39 j0 (.agg #[.int .i64 0, .int .i64 0, .int .i64 0, .int .i64 0]) 4 32 Tryz.underlying58 HI0.out.1 HI0.out.2.1 HI0.out.2.2.1 HI0.out.2.2.2 rfl (by omega) (.slice none 0 0) 0 [] (by rfl) (World.ownsRow_nil _ _ _ _) ⟨W8.heap.size, 0, none⟩ 1 1 [.int .i64 8, .int .i64 (1 + ra % 3), .int .i64 (rb % 60), .int .i64 (rc % 60)] (by rfl) (by rfl) (World.news_of_block (blk_new W8 _)) (by intro u hu; simp at hu; rcases hu with rfl | rfl | rfl | rfl <;> rfl) (by omega) (by unfold maxLen; omega) (by omega) (by have := HE8.out.size; simp; omega) (W8.heap.size + 1) (by simp) ?_; intro g1 cap1 w9 hown9 hgrow9 hat9 hlt9; clear hlt9))
        have HF : Hid (Ext W w9) := hid (Below.grown (HE8.out.alloc' _) hgrow9 (by have := HE8.out.size; simp; omega) (fun k hk => by cases hk))
        have HO9 := hid hown9
        clear hown9 hgrow9 hat9 d0 d1 d2 d3
        go_roundw
        case rel => exact ⟨1, by go_num, HF, .inr ⟨rfl, _, _, _, _, HIN2.out, HO9⟩⟩
        case measure => simp [intOf]
      ·
        have r2 : W6.cell? ⟨p, 2, none⟩ = some (.int .i64 ra) := cell_blk HR6.out rfl
        have e0 : W6.cell? ⟨q, 0, none⟩ = some (.int .i64 9) := cell_blk HB6.out rfl
        have e1 : W6.cell? ⟨q, 1, none⟩ = some (.int .i64 (ra % 12)) := cell_blk HB6.out rfl
        have f1 : W6.frozen? ⟨q, 1, none⟩ = false := blk_frozen HB6.out
        have hblk := set_blk4 HB6.out (.int .i64 (ra % 60))
        have hex := Same.ext HE6.out (same_set W6 q 1 (.int .i64 (ra % 60))) (fun k hk e => by have := HQP.out.1; omega)
        have hwr : IntKind.i64.wrap (1 + ra % 3) = 1 + ra % 3 := by rw [IntKind.wrap_i64]; omega
        go_wp2_with fail
        refine (pick_any ra 60 _ (by omega) (by omega)).mono ?_
        rintro e wx ⟨rfl, rfl⟩
        go_upto_region 24 with fail
        generalize World.setCell W6 _ _ = W8 at *
        clear r2 e0 e1 f1 HB6 HE6 HR6
        have HBK8 := hid hblk
        have HE8 := hid hex
        clear hblk hex
        have d0 : W8.cell? ⟨q, 0, none⟩ = some (.int .i64 9) := cell_blk HBK8.out rfl
        have d1 : W8.cell? ⟨q, 1, none⟩ = some (.int .i64 (ra % 60)) := cell_blk HBK8.out rfl
        have d2 : W8.cell? ⟨q, 2, none⟩ = some (.int .i64 (rb % 60)) := cell_blk HBK8.out rfl
        have d3 : W8.cell? ⟨q, 3, none⟩ = some (.int .i64 (rc % 60)) := cell_blk HBK8.out rfl
        have HIN2 : Hid (OpIn 9 (ra % 60) (rb % 60) (rc % 60)) := hid ⟨by omega, by omega, by omega, by omega⟩
        go_wp2_with (first | (at_builtin; refine wpList_append_lies _ rfl (.tmp 87) (.tmp 89) _ rfl W.heap.size 39 j0 (.agg #[.int .i64 0, .int .i64 0, .int .i64 0, .int .i64 0]) 4 32 Tryz.underlying58 HI0.out.1 HI0.out.2.1 HI0.out.2.2.1 HI0.out.2.2.2 rfl (by omega) (.slice none 0 0) 0 [] (by rfl) (World.ownsRow_nil _ _ _ _) ⟨W8.heap.size, 0, none⟩ 1 1 [.int .i64 9, .int .i64 (ra % 60), .int .i64 (rb % 60), .int .i64 (rc % 60)] (by rfl) (by rfl) (World.news_of_block (blk_new W8 _)) (by intro u hu; simp at hu; rcases hu with rfl | rfl | rfl | rfl <;> rfl) (by omega) (by unfold maxLen; omega) (by omega) (by have := HE8.out.size; simp; omega) (W8.heap.size + 1) (by simp) ?_; intro g1 cap1 w9 hown9 hgrow9 hat9 hlt9; clear hlt9))
        have HF : Hid (Ext W w9) := hid (Below.grown (HE8.out.alloc' _) hgrow9 (by have := HE8.out.size; simp; omega) (fun k hk => by cases hk))
        have HO9 := hid hown9
        clear hown9 hgrow9 hat9 d0 d1 d2 d3
        go_roundw
        case rel => exact ⟨1, by go_num, HF, .inr ⟨rfl, _, _, _, _, HIN2.out, HO9⟩⟩
        case measure => simp [intOf]
      ·
        have r2 : W6.cell? ⟨p, 2, none⟩ = some (.int .i64 ra) := cell_blk HR6.out rfl
        have e0 : W6.cell? ⟨q, 0, none⟩ = some (.int .i64 10) := cell_blk HB6.out rfl
        have e1 : W6.cell? ⟨q, 1, none⟩ = some (.int .i64 (ra % 12)) := cell_blk HB6.out rfl
        have f1 : W6.frozen? ⟨q, 1, none⟩ = false := blk_frozen HB6.out
        have hblk := set_blk4 HB6.out (.int .i64 (ra % 60))
        have hex := Same.ext HE6.out (same_set W6 q 1 (.int .i64 (ra % 60))) (fun k hk e => by have := HQP.out.1; omega)
        have hwr : IntKind.i64.wrap (1 + ra % 3) = 1 + ra % 3 := by rw [IntKind.wrap_i64]; omega
        go_wp2_with fail
        refine (pick_any ra 60 _ (by omega) (by omega)).mono ?_
        rintro e wx ⟨rfl, rfl⟩
        go_upto_region 24 with fail
        generalize World.setCell W6 _ _ = W8 at *
        clear r2 e0 e1 f1 HB6 HE6 HR6
        have HBK8 := hid hblk
        have HE8 := hid hex
        clear hblk hex
        have d0 : W8.cell? ⟨q, 0, none⟩ = some (.int .i64 10) := cell_blk HBK8.out rfl
        have d1 : W8.cell? ⟨q, 1, none⟩ = some (.int .i64 (ra % 60)) := cell_blk HBK8.out rfl
        have d2 : W8.cell? ⟨q, 2, none⟩ = some (.int .i64 (rb % 60)) := cell_blk HBK8.out rfl
        have d3 : W8.cell? ⟨q, 3, none⟩ = some (.int .i64 (rc % 60)) := cell_blk HBK8.out rfl
        have HIN2 : Hid (OpIn 10 (ra % 60) (rb % 60) (rc % 60)) := hid ⟨by omega, by omega, by omega, by omega⟩
        go_wp2_with (first | (at_builtin; refine wpList_append_lies _ rfl (.tmp 87) (.tmp 89) _ rfl W.heap.size 39 j0 (.agg #[.int .i64 0, .int .i64 0, .int .i64 0, .int .i64 0]) 4 32 Tryz.underlying58 HI0.out.1 HI0.out.2.1 HI0.out.2.2.1 HI0.out.2.2.2 rfl (by omega) (.slice none 0 0) 0 [] (by rfl) (World.ownsRow_nil _ _ _ _) ⟨W8.heap.size, 0, none⟩ 1 1 [.int .i64 10, .int .i64 (ra % 60), .int .i64 (rb % 60), .int .i64 (rc % 60)] (by rfl) (by rfl) (World.news_of_block (blk_new W8 _)) (by intro u hu; simp at hu; rcases hu with rfl | rfl | rfl | rfl <;> rfl) (by omega) (by unfold maxLen; omega) (by omega) (by have := HE8.out.size; simp; omega) (W8.heap.size + 1) (by simp) ?_; intro g1 cap1 w9 hown9 hgrow9 hat9 hlt9; clear hlt9))
        have HF : Hid (Ext W w9) := hid (Below.grown (HE8.out.alloc' _) hgrow9 (by have := HE8.out.size; simp; omega) (fun k hk => by cases hk))
        have HO9 := hid hown9
        clear hown9 hgrow9 hat9 d0 d1 d2 d3
        go_roundw
        case rel => exact ⟨1, by go_num, HF, .inr ⟨rfl, _, _, _, _, HIN2.out, HO9⟩⟩
        case measure => simp [intOf]
      ·
        have r2 : W6.cell? ⟨p, 2, none⟩ = some (.int .i64 ra) := cell_blk HR6.out rfl
        have e0 : W6.cell? ⟨q, 0, none⟩ = some (.int .i64 11) := cell_blk HB6.out rfl
        have e1 : W6.cell? ⟨q, 1, none⟩ = some (.int .i64 (ra % 12)) := cell_blk HB6.out rfl
        have f1 : W6.frozen? ⟨q, 1, none⟩ = false := blk_frozen HB6.out
        have hblk := set_blk4 HB6.out (.int .i64 (ra % 60))
        have hex := Same.ext HE6.out (same_set W6 q 1 (.int .i64 (ra % 60))) (fun k hk e => by have := HQP.out.1; omega)
        have hwr : IntKind.i64.wrap (1 + ra % 3) = 1 + ra % 3 := by rw [IntKind.wrap_i64]; omega
        go_wp2_with fail
        refine (pick_any ra 60 _ (by omega) (by omega)).mono ?_
        rintro e wx ⟨rfl, rfl⟩
        go_upto_region 24 with fail
        generalize World.setCell W6 _ _ = W8 at *
        clear r2 e0 e1 f1 HB6 HE6 HR6
        have HBK8 := hid hblk
        have HE8 := hid hex
        clear hblk hex
        have d0 : W8.cell? ⟨q, 0, none⟩ = some (.int .i64 11) := cell_blk HBK8.out rfl
        have d1 : W8.cell? ⟨q, 1, none⟩ = some (.int .i64 (ra % 60)) := cell_blk HBK8.out rfl
        have d2 : W8.cell? ⟨q, 2, none⟩ = some (.int .i64 (rb % 60)) := cell_blk HBK8.out rfl
        have d3 : W8.cell? ⟨q, 3, none⟩ = some (.int .i64 (rc % 60)) := cell_blk HBK8.out rfl
        have HIN2 : Hid (OpIn 11 (ra % 60) (rb % 60) (rc % 60)) := hid ⟨by omega, by omega, by omega, by omega⟩
        go_wp2_with (first | (at_builtin; refine wpList_append_lies _ rfl (.tmp 87) (.tmp 89) _ rfl W.heap.size 39 j0 (.agg #[.int .i64 0, .int .i64 0, .int .i64 0, .int .i64 0]) 4 32 Tryz.underlying58 HI0.out.1 HI0.out.2.1 HI0.out.2.2.1 HI0.out.2.2.2 rfl (by omega) (.slice none 0 0) 0 [] (by rfl) (World.ownsRow_nil _ _ _ _) ⟨W8.heap.size, 0, none⟩ 1 1 [.int .i64 11, .int .i64 (ra % 60), .int .i64 (rb % 60), .int .i64 (rc % 60)] (by rfl) (by rfl) (World.news_of_block (blk_new W8 _)) (by intro u hu; simp at hu; rcases hu with rfl | rfl | rfl | rfl <;> rfl) (by omega) (by unfold maxLen; omega) (by omega) (by have := HE8.out.size; simp; omega) (W8.heap.size + 1) (by simp) ?_; intro g1 cap1 w9 hown9 hgrow9 hat9 hlt9; clear hlt9))
        have HF : Hid (Ext W w9) := hid (Below.grown (HE8.out.alloc' _) hgrow9 (by have := HE8.out.size; simp; omega) (fun k hk => by cases hk))
        have HO9 := hid hown9
        clear hown9 hgrow9 hat9 d0 d1 d2 d3
        go_roundw
        case rel => exact ⟨1, by go_num, HF, .inr ⟨rfl, _, _, _, _, HIN2.out, HO9⟩⟩
        case measure => simp [intOf]
      ·
        have r2 : W6.cell? ⟨p, 2, none⟩ = some (.int .i64 ra) := cell_blk HR6.out rfl
        have e0 : W6.cell? ⟨q, 0, none⟩ = some (.int .i64 12) := cell_blk HB6.out rfl
        have e1 : W6.cell? ⟨q, 1, none⟩ = some (.int .i64 (ra % 12)) := cell_blk HB6.out rfl
        have f1 : W6.frozen? ⟨q, 1, none⟩ = false := blk_frozen HB6.out
        have hblk := set_blk4 HB6.out (.int .i64 (ra % 60))
        have hex := Same.ext HE6.out (same_set W6 q 1 (.int .i64 (ra % 60))) (fun k hk e => by have := HQP.out.1; omega)
        have hwr : IntKind.i64.wrap (1 + ra % 3) = 1 + ra % 3 := by rw [IntKind.wrap_i64]; omega
        go_wp2_with fail
        refine (pick_any ra 60 _ (by omega) (by omega)).mono ?_
        rintro e wx ⟨rfl, rfl⟩
        go_upto_region 24 with fail
        generalize World.setCell W6 _ _ = W8 at *
        clear r2 e0 e1 f1 HB6 HE6 HR6
        have HBK8 := hid hblk
        have HE8 := hid hex
        clear hblk hex
        have d0 : W8.cell? ⟨q, 0, none⟩ = some (.int .i64 12) := cell_blk HBK8.out rfl
        have d1 : W8.cell? ⟨q, 1, none⟩ = some (.int .i64 (ra % 60)) := cell_blk HBK8.out rfl
        have d2 : W8.cell? ⟨q, 2, none⟩ = some (.int .i64 (rb % 60)) := cell_blk HBK8.out rfl
        have d3 : W8.cell? ⟨q, 3, none⟩ = some (.int .i64 (rc % 60)) := cell_blk HBK8.out rfl
        have HIN2 : Hid (OpIn 12 (ra % 60) (rb % 60) (rc % 60)) := hid ⟨by omega, by omega, by omega, by omega⟩
        go_wp2_with (first | (at_builtin; refine wpList_append_lies _ rfl (.tmp 87) (.tmp 89) _ rfl W.heap.size 39 j0 (.agg #[.int .i64 0, .int .i64 0, .int .i64 0, .int .i64 0]) 4 32 Tryz.underlying58 HI0.out.1 HI0.out.2.1 HI0.out.2.2.1 HI0.out.2.2.2 rfl (by omega) (.slice none 0 0) 0 [] (by rfl) (World.ownsRow_nil _ _ _ _) ⟨W8.heap.size, 0, none⟩ 1 1 [.int .i64 12, .int .i64 (ra % 60), .int .i64 (rb % 60), .int .i64 (rc % 60)] (by rfl) (by rfl) (World.news_of_block (blk_new W8 _)) (by intro u hu; simp at hu; rcases hu with rfl | rfl | rfl | rfl <;> rfl) (by omega) (by unfold maxLen; omega) (by omega) (by have := HE8.out.size; simp; omega) (W8.heap.size + 1) (by simp) ?_; intro g1 cap1 w9 hown9 hgrow9 hat9 hlt9; clear hlt9))
        have HF : Hid (Ext W w9) := hid (Below.grown (HE8.out.alloc' _) hgrow9 (by have := HE8.out.size; simp; omega) (fun k hk => by cases hk))
        have HO9 := hid hown9
        clear hown9 hgrow9 hat9 d0 d1 d2 d3
        go_roundw
        case rel => exact ⟨1, by go_num, HF, .inr ⟨rfl, _, _, _, _, HIN2.out, HO9⟩⟩
        case measure => simp [intOf]
    · have HOX := hid HO.out
      have hins := hin
      clear HO
      go_wp2_with fail
      go_ret
      exact ⟨_, k, a, b, c, rfl, hins, HOX.out, HX.out⟩

end Go.Proofs.YtjodmedgkmeklaaGreat
