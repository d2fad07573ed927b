/-
  The walk of LayoutTiles.
-/
import Derived.Test.YtflbfmfaccaffaaDoorL18
import Derived.Deep.DeepMust
namespace Go.Proofs.YtflbfmfaccaffaaDoor
open Go Go.RowKit
attribute [local go_sem] extUpon
attribute [local go_sem ↓] eval_put_ne eval_put_none eval_put_same size_put eval_const

theorem split_ok_or (c : Int) (t : LT) (x : Int × LT) (h : x = (c, t)) : x.1 = c ∧ x.2 = t := by subst h; exact ⟨rfl, rfl⟩
theorem mul_bd {a C R : Int} (h0 : 0 ≤ a) (h1 : a < R) (hC : 0 ≤ C) : 0 ≤ a * C ∧ a * C + C ≤ R * C := by
  have h2 := Int.mul_nonneg h0 hC
  have h3 := Int.mul_le_mul_of_nonneg_right (show a + 1 ≤ R by omega) hC
  rw [Int.add_mul] at h3
  omega


set_option maxHeartbeats 8000000 in
set_option maxRecDepth 100000 in
theorem LayoutTiles_walk (av : Option Addr) (cap : Nat) (l : List Stp) (rows cols : Int) (w : World) (hT : TabW w) (hl : l.length ≤ 9223372036854775807) (hr : StpAt w av l) :
    Calls Tryd.prog 6 #[.slice av l.length cap, .int .i64 rows, .int .i64 cols] w fun e w' => e = .returned (.bool true) ∧ Ext w w' := by
  have HT := hid hT
  have HR := hid hr
  clear hT hr
  have hR1 := Int.emod_nonneg rows (show (24 : Int) ≠ 0 by decide)
  have hR2 := Int.emod_lt_of_pos rows (show (0 : Int) < 24 by decide)
  have hC1 := Int.emod_nonneg cols (show (40 : Int) ≠ 0 by decide)
  have hC2 := Int.emod_lt_of_pos cols (show (0 : Int) < 40 by decide)
  have HPR := hid (fun w => pick_any rows 24 w (by decide) (by decide))
  have HPC := hid (fun w => pick_any cols 40 w (by decide) (by decide))
  generalize rows % 24 = R at *
  generalize cols % 40 = C at *
  go_enter Tryd.func6, Tryd.ntmps6
  go_wp2_with fail
  refine (St.new w 0 (by decide) (Ext.refl w)).mono ?_
  rintro e w1 ⟨tb, rfl, hS, _⟩
  go_wp2_with fail
  refine (known22 w1 (HT.out.later hS.ext)).mono ?_
  rintro e w2 ⟨rfl, hE⟩
  replace hS := hS.later hE
  clear hE
  go_wp2_with fail
  refine (HPR.out _).mono ?_
  rintro e w3 ⟨rfl, rfl⟩
  go_wp2_with fail
  refine (HPC.out _).mono ?_
  rintro e w3 ⟨rfl, rfl⟩
  go_wp2_with fail
  go_loopw [8, 9] (fun nx i wr => ∃ (k : Nat) (t : LT) (n : Int), nx = .int .i64 n ∧ i = .int .i64 k ∧ k ≤ l.length ∧ k ≤ 20 ∧ 1 ≤ n ∧ n ≤ k + 1 ∧ Hid (St w wr (tb + 1) t)) (fun _ i _ => 20 - (intOf i).toNat)
  case atStart => exact ⟨0, .leaf tb 0, 1, rfl, rfl, by omega, by omega, by omega, by omega, hid hS⟩
  case round =>
    clear hS
    obtain ⟨k, t, n, rfl, rfl, hk1, hk2, hn1, hn2, hS⟩ := hrel
    by_cases hlt : k < l.length ∧ k < 20
    · obtain ⟨hlt1, hlt2⟩ := hlt
      obtain ⟨sb, so, rfl, c0, c1, c2, c3, c4, c5, c6⟩ := HR.out k hlt1
      have HC0 := hid (hS.out.ext.cell c0)
      have HC1 := hid (hS.out.ext.cell c1)
      have HC3 := hid (hS.out.ext.cell c3)
      have HC4 := hid (hS.out.ext.cell c4)
      clear c0 c1 c2 c3 c4 c5 c6
      generalize l[k].a = sa at *
      generalize l[k].across = sx at *
      generalize l[k].what = sw' at *
      generalize l[k].by_ = sy at *
      have hlt3 : (k : Int) < (l.length : Int) := by omega
      have hm := hS.out.tr.many
      have hpos := panes_pos t
      have v1' : IntKind.i64.wrap ((k : Int) + 1) = (k : Int) + 1 := by rw [IntKind.wrap_i64]; omega
      go_wp2_with fail
      refine hS.out.panes.mono ?_
      rintro e w3 ⟨v, rfl, ho, hE3⟩
      obtain ⟨g, cap2, rfl, hg, hc⟩ := panes_row' ho hpos
      have HCC := hid hc
      have HS3 := hid (hS.out.later hE3)
      replace HC0 := hid (hE3.cell HC0.out)
      replace HC1 := hid (hE3.cell HC1.out)
      replace HC3 := hid (hE3.cell HC3.out)
      replace HC4 := hid (hE3.cell HC4.out)
      clear ho hc hE3 hg hS
      generalize hnn : t.panes.length = nn at *
      clear hnn
      have q1 := HC1.out
      go_wp2_with fail
      refine (pick_any _ _ _ (by omega) (by omega)).mono ?_
      rintro e w4 ⟨rfl, rfl⟩
      generalize hX : (_ : Int) % ((nn : Nat) : Int) = m
      have hm0 : 0 ≤ m := by rw [← hX]; exact Int.emod_nonneg _ (by omega)
      have hm1 : m < nn := by rw [← hX]; exact Int.emod_lt_of_pos _ (by omega)
      clear hX
      obtain ⟨i, rfl⟩ : ∃ i : Nat, m = i := ⟨m.toNat, by omega⟩
      obtain ⟨p, _, q0⟩ := HCC.out i (by omega)
      have q2 := HC0.out
      go_wp2_with fail
      refine (pick_any _ 6 _ (by decide) (by decide)).mono ?_
      rintro e w4 ⟨rfl, rfl⟩
      have hz1 := Int.emod_nonneg sw' (show (6 : Int) ≠ 0 by decide)
      generalize sw' % 6 = z at *
      clear q0 q1 q2 hm0 hm1 HCC HC0 HC1
      by_cases hz4 : z = 4
      · subst hz4
        go_wp2_with fail
        refine reg_begin 16 (by kernel_rfl) ?_
        generalize hW : World.drew _ = W
        replace HS3 := hid (by rw [← hW]; exact HS3.out.later (Ext.drew _) : St w W (tb + 1) t)
        replace HC3 : Hid (W.cell? ⟨sb, so + k * 7 + 3, none⟩ = some (.bool sx)) := hid (by rw [← hW]; exact HC3.out)
        replace HC4 : Hid (W.cell? ⟨sb, so + k * 7 + 4, none⟩ = some (.int .i64 sy)) := hid (by rw [← hW]; exact HC4.out)
        clear hW
        have hy1 := Int.emod_nonneg sy (show (20 : Int) ≠ 0 by decide)
        have hy2 := Int.emod_lt_of_pos sy (show (0 : Int) < 20 by decide)
        have HPY : Hid (∀ w, Calls Tryd.prog 9 #[.int .i64 sy, .int .i64 20] w fun e w' => e = .returned (.int .i64 (sy % 20)) ∧ Ext w w') := hid (fun w => (pick_any sy 20 w (by decide) (by decide)).mono fun _ _ ⟨h1, h2⟩ => ⟨h1, h2 ▸ Ext.refl _⟩)
        generalize sy % 20 = y at *
        have v2 : IntKind.i64.wrap (y - 10) = y - 10 := by rw [IntKind.wrap_i64]; omega
        refine reg_quiet 0 rfl (by kernel_rfl) (by kernel_rfl) ?_
        apply Exists.intro
        refine ⟨fun w' hw' => ?_, ?_⟩
        · go_simp
          exact ⟨rfl, Ext.refl _⟩
        refine reg_quiet 1 rfl (by kernel_rfl) (by kernel_rfl) ?_
        apply Exists.intro
        refine ⟨fun w' hw' => ?_, ?_⟩
        · go_simp
          exact ⟨rfl, Ext.refl _⟩
        refine reg_quiet 2 rfl (by kernel_rfl) (by kernel_rfl) ?_
        apply Exists.intro
        refine ⟨fun w' hw' => ?_, ?_⟩
        · go_simp
          exact ⟨rfl, Ext.refl _⟩
        refine reg_quiet 3 rfl (by kernel_rfl) (by kernel_rfl) ?_
        apply Exists.intro
        refine ⟨fun w' hw' => ?_, ?_⟩
        · go_simp
          exact ⟨rfl, Ext.refl _⟩
        refine reg_quiet 4 rfl (by kernel_rfl) (by kernel_rfl) ?_
        apply Exists.intro
        refine ⟨fun w' hw' => ?_, ?_⟩
        · go_simp
          exact ⟨rfl, Ext.refl _⟩
        refine reg_quiet 5 rfl (by kernel_rfl) (by kernel_rfl) ?_
        apply Exists.intro
        refine ⟨fun w' hw' => ?_, ?_⟩
        · go_simp
          exact ⟨rfl, Ext.refl _⟩
        refine reg_quiet 6 rfl (by kernel_rfl) (by kernel_rfl) ?_
        apply Exists.intro
        refine ⟨fun w' hw' => ?_, ?_⟩
        · have q0 := hw'.cell HC3.out
          go_simp
          exact ⟨rfl, Ext.refl _⟩
        refine reg_quiet 7 rfl (by kernel_rfl) (by kernel_rfl) ?_
        apply Exists.intro
        refine ⟨fun w' hw' => ?_, ?_⟩
        · go_simp
          exact ⟨rfl, Ext.refl _⟩
        refine reg_quiet 8 rfl (by kernel_rfl) (by kernel_rfl) ?_
        apply Exists.intro
        refine ⟨fun w' hw' => ?_, ?_⟩
        · go_simp
          exact ⟨rfl, Ext.refl _⟩
        refine reg_quiet 9 rfl (by kernel_rfl) (by kernel_rfl) ?_
        apply Exists.intro
        refine ⟨fun w' hw' => ?_, ?_⟩
        · go_simp
          exact ⟨rfl, Ext.refl _⟩
        refine reg_quiet 10 rfl (by kernel_rfl) (by kernel_rfl) ?_
        apply Exists.intro
        refine ⟨fun w' hw' => ?_, ?_⟩
        · go_simp
          exact ⟨rfl, Ext.refl _⟩
        refine reg_quiet 11 rfl (by kernel_rfl) (by kernel_rfl) ?_
        apply Exists.intro
        refine ⟨fun w' hw' => ?_, ?_⟩
        · have q0 := hw'.cell HC4.out
          go_simp
          exact ⟨rfl, Ext.refl _⟩
        refine reg_quiet 12 rfl (by kernel_rfl) (by kernel_rfl) ?_
        apply Exists.intro
        refine ⟨fun w' hw' => ?_, ?_⟩
        · go_simp
          exact HPY.out w'
        refine reg_quiet 13 rfl (by kernel_rfl) (by kernel_rfl) ?_
        apply Exists.intro
        refine ⟨fun w' hw' => ?_, ?_⟩
        · go_simp
          exact ⟨rfl, Ext.refl _⟩
        refine reg_quiet 14 rfl (by kernel_rfl) (by kernel_rfl) ?_
        apply Exists.intro
        refine ⟨fun w' hw' => ?_, ?_⟩
        · go_simp
          exact ⟨rfl, Ext.refl _⟩
        refine reg_quiet 15 rfl (by kernel_rfl) (by kernel_rfl) ?_
        apply Exists.intro
        refine ⟨fun w' hw' => ?_, ?_⟩
        · go_simp
          exact ⟨rfl, Ext.refl _⟩
        refine reg_one 16 rfl (by kernel_rfl) rfl (fun w' hw' => ?_)
        go_simp
        refine ((HS3.out.later hw').grow p (y - 10) R C sx (by omega) (by omega)).mono ?_
        rintro e w5 ⟨rfl, hS5, _⟩
        generalize t.grow p sx (y - 10) (allB R C) = ts at *
        refine reg_done (by kernel_rfl) (fun w6 hw6 => ?_) _
        have HS6 := hid (hS5.later hw6)
        clear hS5 hw6 hw' HS3 HC3 HC4
        go_simp
        go_wp2_with fail
        go_roundw
        case rel => exact ⟨k + 1, ts.2, n, rfl, by go_num, by omega, by omega, by omega, by omega, HS6⟩
        case measure => simp [intOf]; omega
      · by_cases hz5 : z = 5
        · subst hz5
          go_wp2_with fail
          refine (HS3.out.kill p).mono ?_
          rintro e w5 ⟨rfl, hS5, _⟩
          generalize t.kill p = ts at *
          have HS6 := hid hS5
          clear hS5 HS3 HC3 HC4
          go_wp2_with fail
          go_roundw
          case rel => exact ⟨k + 1, ts.2, n, rfl, by go_num, by omega, by omega, by omega, by omega, HS6⟩
          case measure => simp [intOf]; omega
        · have q3 := HC3.out
          have v2 : IntKind.i64.wrap (n + 1) = n + 1 := by rw [IntKind.wrap_i64]; omega
          go_wp2_with fail
          all_goals (
            refine (HS3.out.split p n _ _ sx (by omega) (by omega) (by omega)).mono ?_
            rintro e w5 ⟨b1, b2, rfl, hS5, _⟩
            generalize t.split p n sx _ b1 b2 = ts at *
            have HS6 := hid hS5
            clear hS5 HC3 HC4 q3
            generalize hco : ts.1 = code at *
            by_cases hc0 : code = 0
            · subst hc0
              clear hco
              go_wp2_with fail
              go_roundw
              case rel => exact ⟨k + 1, ts.2, n + 1, rfl, by go_num, by omega, by omega, by omega, by omega, HS6⟩
              case measure => simp [intOf]; omega
            · clear hco
              go_wp2_with fail
              go_roundw
              case rel => exact ⟨k + 1, ts.2, n, rfl, by go_num, by omega, by omega, by omega, by omega, HS6⟩
              case measure => simp [intOf]; omega)
    · by_cases hk3 : k < l.length
      · have hk4 : k = 20 := by omega
        subst hk4
        have hlt3 : (20 : Int) < (l.length : Int) := by omega
        go_wp2_with fail
        refine (hS.out.places R C (by omega) (by omega)).mono ?_
        rintro e w1 ⟨v1, rfl, ho1, hE1⟩
        rw [panes_len t (allB R C)] at ho1
        have HS1 := hid (hS.out.later hE1)
        have HZ1 := hid hE1.size
        have HO1 := hid ho1
        have HBL : Hid (∀ q ∈ t.blocks, q < wr.heap.size) := hid hS.out.tr.at_.at_.lt
        have HTB := hid hS.out.tr.at_.here
        have HEX := hid hS.out.ext.size
        have hll : (t.places (allB R C)).length ≤ 12 := by rw [← panes_len t (allB R C)]; exact hS.out.tr.many
        have hlb : (t.borders (allB R C)).length ≤ 1000 := by
          have h5 := lines_len t (allB R C); have h6 := hS.out.tr.at_.size; simp only [LT.borders, List.length_map]; omega
        have hlp : 0 < (t.places (allB R C)).length := by rw [← panes_len t (allB R C)]; exact panes_pos t
        clear ho1 hE1 hS
        go_wp2_with fail
        refine (HS1.out.borders R C (by omega) (by omega)).mono ?_
        rintro e w2 ⟨v2, rfl, ho2, hE2⟩
        have HS2 := hid (HS1.out.later hE2)
        have HO2 := hid ho2
        replace HO1 := hid (own_ext hE2 HO1.out)
        have HZ2 := hid (Nat.le_trans HZ1.out hE2.size)
        clear ho2 hE2 HS1
        have hti := tiles t (allB R C) (by simp only [allB]; omega) (by simp only [allB]; omega)
        have hin := all_inside t (allB R C) (by simp only [allB]; omega) (by simp only [allB]; omega)
        have HTI := hid hti
        have HIN := hid hin
        have HPLN := hid (panes_len t (allB R C))
        clear hti hin
        generalize t.places (allB R C) = L1 at *
        generalize t.borders (allB R C) = L2 at *
        obtain ⟨N, hN⟩ : ∃ N : Nat, (N : Int) = R * C := ⟨(R * C).toNat, by have := Int.mul_nonneg hR1 hC1; omega⟩
        have hN2 : N ≤ 1000 := by
          have h5 := Int.mul_le_mul (show R ≤ 24 by omega) (show C ≤ 40 by omega) hC1 (by omega)
          omega
        have HN := hid hN
        have vN : IntKind.i64.wrap (R * C) = (N : Int) := by rw [hN, IntKind.wrap_i64]; omega
        clear hN
        obtain ⟨j0, hi0, hz0, hz1, hz2⟩ := info_parts (show (Tryd.prog.info? 3).map (fun i => (i.zero, i.size, i.bytes)) = some (some (.int .i64 0), 1, 8) by kernel_rfl)
        have HI0 := hid (And.intro hi0 (And.intro hz0 (And.intro hz1 hz2)))
        clear hi0 hz0 hz1 hz2
        go_wp2_with (first
          | (at_builtin; go_must (refine wpl_join (.tmp 102) (.tmp 106) rfl rfl rfl _ _ v1 v2 _ _ L1 L2 (by rfl) (by rfl) HO1.out HO2.out (by omega) HZ2.out ?_); intro a3 cap3 w3 hown3 hgrow3)
          | (at_make; go_must (refine wpList_make_full _ rfl _ _ 35 rfl w3.heap.size 3 j0 (.int .i64 0) 1 Tryd.underlying35 HI0.out.1 HI0.out.2.1 HI0.out.2.2.1 .i64 .i64 (N : Int) (N : Int) N rfl rfl rfl rfl (by rw [HI0.out.2.2.2]; omega) (by unfold maxLen; omega) (Nat.le_refl _) ?_); intro w4 hown4 hgrow4))
        have hrow : (madeCells (Value.int IntKind.i64 0).cells (N * 1)).toList = rowOf N (fun z => covs (([] : List Bx)) ((z : Int) / C) ((z : Int) % C)) := by
          rw [show (Value.int .i64 0).cells = #[.int .i64 0] from rfl, toList_madeCells_one, Nat.mul_one]
          apply List.ext_getElem?
          intro i
          by_cases hi : i < N <;> simp [rowOf, hi, covs]
        rw [hrow] at hown4
        clear hrow
        obtain ⟨ga, capA, hva, hcA⟩ := rects_at (l := L1 ++ L2) hown3 (by omega)
        simp only [Value.slice.injEq, true_and] at hva
        obtain ⟨rfl, rfl⟩ := hva
        have hga := hown3.lt ga rfl
        have HS3 := hid (HS2.out.grown hgrow3 (fun k hk => ⟨Nat.le_trans HEX.out (HO1.out.lt k hk).1, fun h' => by have := HBL.out k h'; have := (HO1.out.lt k hk).1; omega, fun e => by have := HTB.out; have := (HO1.out.lt k hk).1; omega⟩))
        have HS4 := hid (HS3.out.grown hgrow4 (fun k hk => by cases hk))
        have hgc4 := hown4.lt w3.heap.size rfl
        have hz3 : Hid (wr.heap.size ≤ w3.heap.size) := hid (Nat.le_trans HZ2.out hgrow3.size)
        have HALL : Hid (∀ i r, (L1 ++ L2)[i]? = some r → (w4.cell? ⟨ga, i * 4, none⟩ = some (.int .i64 r.row) ∧ w4.cell? ⟨ga, i * 4 + 1, none⟩ = some (.int .i64 r.col)) ∧ w4.cell? ⟨ga, i * 4 + 2, none⟩ = some (.int .i64 r.rows) ∧ w4.cell? ⟨ga, i * 4 + 3, none⟩ = some (.int .i64 r.cols)) := hid (fun i r hr => by
          obtain ⟨x0, x1, x2, x3⟩ := hcA i r hr
          have hb := hgrow4.block ga hga.2 (by simp)
          exact ⟨⟨(World.cell?_of_block (a := ⟨ga, i * 4, none⟩) hb).trans x0, (World.cell?_of_block (a := ⟨ga, i * 4 + 1, none⟩) hb).trans x1⟩, (World.cell?_of_block (a := ⟨ga, i * 4 + 2, none⟩) hb).trans x2, (World.cell?_of_block (a := ⟨ga, i * 4 + 3, none⟩) hb).trans x3⟩)
        have HO4 := hid hown4
        have HROW : Hid (∀ k, some w3.heap.size = some k → w.heap.size ≤ k ∧ k ∉ t.blocks ∧ k ≠ tb + 1) := hid (fun k hk => by
          simp only [Option.some.injEq] at hk
          subst hk
          exact ⟨Nat.le_trans HEX.out hz3.out, fun h' => by have := HBL.out _ h'; have := hz3.out; omega, fun e => by have := HTB.out; have := hz3.out; omega⟩)
        clear hown3 hown4 hgrow3 hgrow4 hcA HO1 HO2 HS2 HS3 HZ1 HZ2 hz3 HI0 vN
        have HGA := hid hga.2
        have HGC := hid hgc4.2
        clear hga hgc4
        generalize w3.heap.size = gc at *
        have hnl0 : (L1 ++ L2).length = L1.length + L2.length := by simp
        generalize L1 ++ L2 = LL at *
        have hnLb : L1.length + L2.length ≤ 2000 := by omega
        generalize hnL : L1.length + L2.length = nL at *
        have HNL := hid hnl0
        clear hnl0 hnL
        go_loopw [14] (fun i wr => ∃ kk : Nat, i = .int .i64 kk ∧ kk ≤ nL ∧ Hid (w4.grownBy wr (some gc)) ∧ Hid (wr.ownsRow gc 3 1 (.slice (some ⟨gc, 0, none⟩) N N) N (rowOf N (fun z => covs (LL.take kk) ((z : Int) / C) ((z : Int) % C))))) (fun i _ => nL - (intOf i).toNat)
        case atStart => exact ⟨0, rfl, by omega, hid (grown_of_ext (Ext.refl _)), HO4⟩
        case round =>
          clear HO4
          obtain ⟨kk, rfl, hkk, hG, hO⟩ := hrel
          by_cases hlk : kk < nL
          · have hlk2 : (kk : Int) < (nL : Int) := by omega
            obtain ⟨q, hq⟩ : ∃ q, LL[kk]? = some q := ⟨_, List.getElem?_eq_getElem (by have := HNL.out; omega)⟩
            have hqi := HIN.out q (List.mem_of_getElem? hq)
            simp only [Bx.inside, allB] at hqi
            obtain ⟨i1, i2, i3, i4, i5, i6⟩ := hqi
            have b3 : q.row + q.rows ≤ R := by omega
            have b6 : q.col + q.cols ≤ C := by omega
            clear i3 i6
            obtain ⟨⟨x0, x1⟩, x2, x3⟩ := HALL.out kk q hq
            have hbk := hG.out.block ga (by have := HGA.out; have := HGC.out; omega) (fun e => by have := HGA.out; simp only [Option.some.injEq] at e; omega)
            replace x0 := (World.cell?_of_block (a := ⟨ga, kk * 4, none⟩) hbk).trans x0
            replace x1 := (World.cell?_of_block (a := ⟨ga, kk * 4 + 1, none⟩) hbk).trans x1
            replace x2 := (World.cell?_of_block (a := ⟨ga, kk * 4 + 2, none⟩) hbk).trans x2
            replace x3 := (World.cell?_of_block (a := ⟨ga, kk * 4 + 3, none⟩) hbk).trans x3
            have HTK : Hid (LL.take (kk + 1) = LL.take kk ++ [q]) := hid (by rw [List.take_add_one, hq]; rfl)
            have htl : (LL.take kk).length ≤ 2000 := by have := HNL.out; simp; omega
            clear hbk hq
            have u1 : IntKind.i64.wrap (q.row + q.rows) = q.row + q.rows := by rw [IntKind.wrap_i64]; omega
            have u2 : IntKind.i64.wrap (q.col + q.cols) = q.col + q.cols := by rw [IntKind.wrap_i64]; omega
            go_wp2_with fail
            have HBX := hid (blk_new wr (.cells #[.int .i64 q.row, .int .i64 q.col, .int .i64 q.rows, .int .i64 q.cols] 32 (0, 0)))
            have HEI := hid (Ext.alloc wr (.cells #[.int .i64 q.row, .int .i64 q.col, .int .i64 q.rows, .int .i64 q.cols] 32 (0, 0)))
            have HOI := hid (hO.out.alloc (.cells #[.int .i64 q.row, .int .i64 q.col, .int .i64 q.rows, .int .i64 q.cols] 32 (0, 0)))
            have HNB : Hid (wr.heap.size ≠ gc) := hid (by have := (hO.out.lt gc rfl).2; omega)
            clear x0 x1 x2 x3 hO
            generalize World.alloc wr _ = wi at *
            generalize wr.heap.size = nb at *
            have HNBL := hid (Array.getElem?_eq_some_iff.1 HBX.out).1
            go_loopw [16] (fun v wr => ∃ aa : Int, v = .int .i64 aa ∧ q.row ≤ aa ∧ aa ≤ q.row + q.rows ∧ Hid (wi.grownBy wr (some gc)) ∧ Hid (wr.ownsRow gc 3 1 (.slice (some ⟨gc, 0, none⟩) N N) N (rowOf N (cell (LL.take kk) q C aa q.col)))) (fun v _ => (q.row + q.rows - intOf v).toNat)
            case atStart => exact ⟨q.row, rfl, by omega, by omega, hid (grown_of_ext (Ext.refl _)), hid (by rw [rowOf_congr (fun z _ => cell_start (LL.take kk) q C z)]; exact HOI.out)⟩
            case round =>
              clear HOI
              obtain ⟨aa, rfl, ha1, ha2, hG2, hO2⟩ := hrel
              have hb2 := (hG2.out.block nb HNBL.out (fun e => HNB.out (by simpa using e))).trans HBX.out
              have y0 : wr.cell? ⟨nb, 0, none⟩ = some (.int .i64 q.row) := cell_blk hb2 rfl
              have y1 : wr.cell? ⟨nb, 1, none⟩ = some (.int .i64 q.col) := cell_blk hb2 rfl
              have y2 : wr.cell? ⟨nb, 2, none⟩ = some (.int .i64 q.rows) := cell_blk hb2 rfl
              have y3 : wr.cell? ⟨nb, 3, none⟩ = some (.int .i64 q.cols) := cell_blk hb2 rfl
              clear hb2
              by_cases hla : aa < q.row + q.rows
              · go_wp2_with fail
                go_loopw [17] (fun v wr => ∃ bb : Int, v = .int .i64 bb ∧ q.col ≤ bb ∧ bb ≤ q.col + q.cols ∧ Hid (wi.grownBy wr (some gc)) ∧ Hid (wr.ownsRow gc 3 1 (.slice (some ⟨gc, 0, none⟩) N N) N (rowOf N (cell (LL.take kk) q C aa bb)))) (fun v _ => (q.col + q.cols - intOf v).toNat)
                case atStart => exact ⟨q.col, rfl, by omega, by omega, hG2, hO2⟩
                case round =>
                  clear hG2 hO2 y0 y1 y2 y3
                  obtain ⟨bb, rfl, hb1, hb2, hG3, hO3⟩ := hrel
                  have hbk := (hG3.out.block nb HNBL.out (fun e => HNB.out (by simpa using e))).trans HBX.out
                  have y0 : wr.cell? ⟨nb, 0, none⟩ = some (.int .i64 q.row) := cell_blk hbk rfl
                  have y1 : wr.cell? ⟨nb, 1, none⟩ = some (.int .i64 q.col) := cell_blk hbk rfl
                  have y2 : wr.cell? ⟨nb, 2, none⟩ = some (.int .i64 q.rows) := cell_blk hbk rfl
                  have y3 : wr.cell? ⟨nb, 3, none⟩ = some (.int .i64 q.cols) := cell_blk hbk rfl
                  clear hbk
                  by_cases hlb : bb < q.col + q.cols
                  · obtain ⟨m1, m2⟩ := mul_bd (a := aa) (C := C) (R := R) (by omega) (by omega) hC1
                    obtain ⟨j, hj⟩ : ∃ j : Nat, aa * C + bb = (j : Int) := ⟨(aa * C + bb).toNat, by omega⟩
                    have hjN : j < N := by have := HN.out; omega
                    obtain ⟨s1, s2⟩ := cell_step (l := LL.take kk) hj (by omega) (by omega) hb1
                    have cj : wr.cell? ⟨gc, j, none⟩ = some (.int .i64 (cell (LL.take kk) q C aa bb j)) := by rw [hO3.out.cellAt j (by omega)]; exact rowOf_at hjN
                    have zj := hO3.out.frozenAt j
                    obtain ⟨bd1, bd2⟩ := cell_bd (LL.take kk) q C aa bb j
                    have hst := hO3.out.stored j (.int .i64 (cell (LL.take kk) q C aa (bb + 1) j))
                    rw [rowOf_set (f' := cell (LL.take kk) q C aa (bb + 1)) rfl (fun z _ hz => s2 z hz)] at hst
                    rw [s1] at hst
                    have HST := hid hst
                    have hvm : aa * C ≤ 2000 := by have := HN.out; omega
                    generalize hcv : cell (LL.take kk) q C aa bb j = cv at *
                    have hjj : (j : Int) < (N : Int) := by omega
                    have vm : IntKind.i64.wrap (aa * C) = aa * C := by rw [IntKind.wrap_i64]; omega
                    have vj : IntKind.i64.wrap (aa * C + bb) = (j : Int) := by rw [hj, IntKind.wrap_i64]; omega
                    have vs : IntKind.i64.wrap (cv + 1) = cv + 1 := by rw [IntKind.wrap_i64]; omega
                    have vb : IntKind.i64.wrap (bb + 1) = bb + 1 := by rw [IntKind.wrap_i64]; omega
                    clear hst hcv hj m1 m2 s1 s2 hO3
                    go_wp2_with fail
                    go_roundw
                    case rel => exact ⟨bb + 1, rfl, by omega, by omega, hid (grown_trans hG3.out HST.out.2), hid HST.out.1⟩
                    case measure => simp [intOf]; omega
                  · have hbe : bb = q.col + q.cols := by omega
                    subst hbe
                    have va : IntKind.i64.wrap (aa + 1) = aa + 1 := by rw [IntKind.wrap_i64]; omega
                    go_wp2_with fail
                    go_roundw
                    case rel => exact ⟨aa + 1, rfl, by omega, by omega, hG3, hid (by rw [rowOf_congr (fun z _ => (cell_row ha1 z).symm)]; exact hO3.out)⟩
                    case measure => simp [intOf]; omega
              · have hae : aa = q.row + q.rows := by omega
                subst hae
                go_wp2_with fail
                go_roundw
                case rel => exact ⟨kk + 1, by go_num, by omega, hid (grown_trans (grown_trans hG.out (grown_of_ext HEI.out)) hG2.out), hid (by rw [HTK.out, rowOf_congr (fun z _ => (cell_end z).symm)]; exact hO2.out)⟩
                case measure => simp [intOf]; omega
          · have hke : kk = nL := by omega
            subst hke
            have hlk2 : ¬ (kk : Int) < (kk : Int) := by omega
            have hone : rowOf N (fun z => covs (LL.take kk) ((z : Int) / C) ((z : Int) % C)) = rowOf N (fun _ => 1) := rowOf_congr (fun z hz => by
              rw [List.take_of_length_le (by have := HNL.out; omega), HTI.out]
              have h1 := HN.out
              have hCp : 0 < C := by
                rcases Int.lt_or_le 0 C with h | h
                · exact h
                · have h0 : C = 0 := by omega
                  rw [h0, Int.mul_zero] at h1; omega
              have h2 : (0 : Int) ≤ (z : Int) / C := Int.ediv_nonneg (by omega) (by omega)
              have h3 : (z : Int) / C < R := Int.ediv_lt_of_lt_mul hCp (by omega)
              have h4 := Int.emod_nonneg (z : Int) (show C ≠ 0 by omega)
              have h5 := Int.emod_lt_of_pos (z : Int) hCp
              unfold cov
              rw [if_pos (by simp only [allB]; omega)])
            have hO1 := hO.out
            rw [hone] at hO1
            have HO1 := hid hO1
            have HSF := hid (HS4.out.grown hG.out (fun k hk => HROW.out k hk))
            clear hone hO hO1 hG HS4
            go_wp2_with fail
            go_loopw [18] (fun v wx4 => ∃ z : Nat, v = .int .i64 z ∧ z ≤ N ∧ Hid (Ext wr wx4)) (fun v _ => N - (intOf v).toNat)
            case atStart => exact ⟨0, rfl, by omega, hid (Ext.refl _)⟩
            case round =>
              obtain ⟨z, rfl, hz, hE4⟩ := hrel
              by_cases hlz : z < N
              · have hlz2 : (z : Int) < (N : Int) := by omega
                have cz : wr.cell? ⟨gc, z, none⟩ = some (.int .i64 1) := hE4.out.cell (by rw [HO1.out.cellAt z (by omega)]; exact rowOf_at hlz)
                go_wp2_with fail
                go_roundw
                case rel => exact ⟨z + 1, by go_num, by omega, hE4⟩
                case measure => simp [intOf]; omega
              · have hlz2 : ¬ (z : Int) < (N : Int) := by omega
                go_wp2_with fail
                refine (HSF.out.later hE4.out).panes.mono ?_
                rintro e w7 ⟨v7, rfl, ho7, hE7⟩
                obtain ⟨a7, cap7, rfl, _⟩ := own_form ho7
                have HS7 := hid ((HSF.out.later hE4.out).later hE7)
                clear ho7 hE7
                go_wp2_with fail
                refine (HS7.out.places R C (by omega) (by omega)).mono ?_
                rintro e w8 ⟨v8, rfl, ho8, hE8⟩
                obtain ⟨a8, cap8, rfl, _⟩ := own_form ho8
                have HS8 := hid (HS7.out.later hE8)
                clear ho8 hE8
                go_wp2_with fail
                go_ret
                exact ⟨rfl, HS8.out.ext⟩
      · have hk4 : k = l.length := by omega
        subst hk4
        go_wp2_with fail
        refine (hS.out.places R C (by omega) (by omega)).mono ?_
        rintro e w1 ⟨v1, rfl, ho1, hE1⟩
        rw [panes_len t (allB R C)] at ho1
        have HS1 := hid (hS.out.later hE1)
        have HZ1 := hid hE1.size
        have HO1 := hid ho1
        have HBL : Hid (∀ q ∈ t.blocks, q < wr.heap.size) := hid hS.out.tr.at_.at_.lt
        have HTB := hid hS.out.tr.at_.here
        have HEX := hid hS.out.ext.size
        have hll : (t.places (allB R C)).length ≤ 12 := by rw [← panes_len t (allB R C)]; exact hS.out.tr.many
        have hlb : (t.borders (allB R C)).length ≤ 1000 := by
          have h5 := lines_len t (allB R C); have h6 := hS.out.tr.at_.size; simp only [LT.borders, List.length_map]; omega
        have hlp : 0 < (t.places (allB R C)).length := by rw [← panes_len t (allB R C)]; exact panes_pos t
        clear ho1 hE1 hS
        go_wp2_with fail
        refine (HS1.out.borders R C (by omega) (by omega)).mono ?_
        rintro e w2 ⟨v2, rfl, ho2, hE2⟩
        have HS2 := hid (HS1.out.later hE2)
        have HO2 := hid ho2
        replace HO1 := hid (own_ext hE2 HO1.out)
        have HZ2 := hid (Nat.le_trans HZ1.out hE2.size)
        clear ho2 hE2 HS1
        have hti := tiles t (allB R C) (by simp only [allB]; omega) (by simp only [allB]; omega)
        have hin := all_inside t (allB R C) (by simp only [allB]; omega) (by simp only [allB]; omega)
        have HTI := hid hti
        have HIN := hid hin
        have HPLN := hid (panes_len t (allB R C))
        clear hti hin
        generalize t.places (allB R C) = L1 at *
        generalize t.borders (allB R C) = L2 at *
        obtain ⟨N, hN⟩ : ∃ N : Nat, (N : Int) = R * C := ⟨(R * C).toNat, by have := Int.mul_nonneg hR1 hC1; omega⟩
        have hN2 : N ≤ 1000 := by
          have h5 := Int.mul_le_mul (show R ≤ 24 by omega) (show C ≤ 40 by omega) hC1 (by omega)
          omega
        have HN := hid hN
        have vN : IntKind.i64.wrap (R * C) = (N : Int) := by rw [hN, IntKind.wrap_i64]; omega
        clear hN
        obtain ⟨j0, hi0, hz0, hz1, hz2⟩ := info_parts (show (Tryd.prog.info? 3).map (fun i => (i.zero, i.size, i.bytes)) = some (some (.int .i64 0), 1, 8) by kernel_rfl)
        have HI0 := hid (And.intro hi0 (And.intro hz0 (And.intro hz1 hz2)))
        clear hi0 hz0 hz1 hz2
        go_wp2_with (first
          | (at_builtin; go_must (refine wpl_join (.tmp 102) (.tmp 106) rfl rfl rfl _ _ v1 v2 _ _ L1 L2 (by rfl) (by rfl) HO1.out HO2.out (by omega) HZ2.out ?_); intro a3 cap3 w3 hown3 hgrow3)
          | (at_make; go_must (refine wpList_make_full _ rfl _ _ 35 rfl w3.heap.size 3 j0 (.int .i64 0) 1 Tryd.underlying35 HI0.out.1 HI0.out.2.1 HI0.out.2.2.1 .i64 .i64 (N : Int) (N : Int) N rfl rfl rfl rfl (by rw [HI0.out.2.2.2]; omega) (by unfold maxLen; omega) (Nat.le_refl _) ?_); intro w4 hown4 hgrow4))
        have hrow : (madeCells (Value.int IntKind.i64 0).cells (N * 1)).toList = rowOf N (fun z => covs (([] : List Bx)) ((z : Int) / C) ((z : Int) % C)) := by
          rw [show (Value.int .i64 0).cells = #[.int .i64 0] from rfl, toList_madeCells_one, Nat.mul_one]
          apply List.ext_getElem?
          intro i
          by_cases hi : i < N <;> simp [rowOf, hi, covs]
        rw [hrow] at hown4
        clear hrow
        obtain ⟨ga, capA, hva, hcA⟩ := rects_at (l := L1 ++ L2) hown3 (by omega)
        simp only [Value.slice.injEq, true_and] at hva
        obtain ⟨rfl, rfl⟩ := hva
        have hga := hown3.lt ga rfl
        have HS3 := hid (HS2.out.grown hgrow3 (fun k hk => ⟨Nat.le_trans HEX.out (HO1.out.lt k hk).1, fun h' => by have := HBL.out k h'; have := (HO1.out.lt k hk).1; omega, fun e => by have := HTB.out; have := (HO1.out.lt k hk).1; omega⟩))
        have HS4 := hid (HS3.out.grown hgrow4 (fun k hk => by cases hk))
        have hgc4 := hown4.lt w3.heap.size rfl
        have hz3 : Hid (wr.heap.size ≤ w3.heap.size) := hid (Nat.le_trans HZ2.out hgrow3.size)
        have HALL : Hid (∀ i r, (L1 ++ L2)[i]? = some r → (w4.cell? ⟨ga, i * 4, none⟩ = some (.int .i64 r.row) ∧ w4.cell? ⟨ga, i * 4 + 1, none⟩ = some (.int .i64 r.col)) ∧ w4.cell? ⟨ga, i * 4 + 2, none⟩ = some (.int .i64 r.rows) ∧ w4.cell? ⟨ga, i * 4 + 3, none⟩ = some (.int .i64 r.cols)) := hid (fun i r hr => by
          obtain ⟨x0, x1, x2, x3⟩ := hcA i r hr
          have hb := hgrow4.block ga hga.2 (by simp)
          exact ⟨⟨(World.cell?_of_block (a := ⟨ga, i * 4, none⟩) hb).trans x0, (World.cell?_of_block (a := ⟨ga, i * 4 + 1, none⟩) hb).trans x1⟩, (World.cell?_of_block (a := ⟨ga, i * 4 + 2, none⟩) hb).trans x2, (World.cell?_of_block (a := ⟨ga, i * 4 + 3, none⟩) hb).trans x3⟩)
        have HO4 := hid hown4
        have HROW : Hid (∀ k, some w3.heap.size = some k → w.heap.size ≤ k ∧ k ∉ t.blocks ∧ k ≠ tb + 1) := hid (fun k hk => by
          simp only [Option.some.injEq] at hk
          subst hk
          exact ⟨Nat.le_trans HEX.out hz3.out, fun h' => by have := HBL.out _ h'; have := hz3.out; omega, fun e => by have := HTB.out; have := hz3.out; omega⟩)
        clear hown3 hown4 hgrow3 hgrow4 hcA HO1 HO2 HS2 HS3 HZ1 HZ2 hz3 HI0 vN
        have HGA := hid hga.2
        have HGC := hid hgc4.2
        clear hga hgc4
        generalize w3.heap.size = gc at *
        have hnl0 : (L1 ++ L2).length = L1.length + L2.length := by simp
        generalize L1 ++ L2 = LL at *
        have hnLb : L1.length + L2.length ≤ 2000 := by omega
        generalize hnL : L1.length + L2.length = nL at *
        have HNL := hid hnl0
        clear hnl0 hnL
        go_loopw [14] (fun i wr => ∃ kk : Nat, i = .int .i64 kk ∧ kk ≤ nL ∧ Hid (w4.grownBy wr (some gc)) ∧ Hid (wr.ownsRow gc 3 1 (.slice (some ⟨gc, 0, none⟩) N N) N (rowOf N (fun z => covs (LL.take kk) ((z : Int) / C) ((z : Int) % C))))) (fun i _ => nL - (intOf i).toNat)
        case atStart => exact ⟨0, rfl, by omega, hid (grown_of_ext (Ext.refl _)), HO4⟩
        case round =>
          clear HO4
          obtain ⟨kk, rfl, hkk, hG, hO⟩ := hrel
          by_cases hlk : kk < nL
          · have hlk2 : (kk : Int) < (nL : Int) := by omega
            obtain ⟨q, hq⟩ : ∃ q, LL[kk]? = some q := ⟨_, List.getElem?_eq_getElem (by have := HNL.out; omega)⟩
            have hqi := HIN.out q (List.mem_of_getElem? hq)
            simp only [Bx.inside, allB] at hqi
            obtain ⟨i1, i2, i3, i4, i5, i6⟩ := hqi
            have b3 : q.row + q.rows ≤ R := by omega
            have b6 : q.col + q.cols ≤ C := by omega
            clear i3 i6
            obtain ⟨⟨x0, x1⟩, x2, x3⟩ := HALL.out kk q hq
            have hbk := hG.out.block ga (by have := HGA.out; have := HGC.out; omega) (fun e => by have := HGA.out; simp only [Option.some.injEq] at e; omega)
            replace x0 := (World.cell?_of_block (a := ⟨ga, kk * 4, none⟩) hbk).trans x0
            replace x1 := (World.cell?_of_block (a := ⟨ga, kk * 4 + 1, none⟩) hbk).trans x1
            replace x2 := (World.cell?_of_block (a := ⟨ga, kk * 4 + 2, none⟩) hbk).trans x2
            replace x3 := (World.cell?_of_block (a := ⟨ga, kk * 4 + 3, none⟩) hbk).trans x3
            have HTK : Hid (LL.take (kk + 1) = LL.take kk ++ [q]) := hid (by rw [List.take_add_one, hq]; rfl)
            have htl : (LL.take kk).length ≤ 2000 := by have := HNL.out; simp; omega
            clear hbk hq
            have u1 : IntKind.i64.wrap (q.row + q.rows) = q.row + q.rows := by rw [IntKind.wrap_i64]; omega
            have u2 : IntKind.i64.wrap (q.col + q.cols) = q.col + q.cols := by rw [IntKind.wrap_i64]; omega
            go_wp2_with fail
            have HBX := hid (blk_new wr (.cells #[.int .i64 q.row, .int .i64 q.col, .int .i64 q.rows, .int .i64 q.cols] 32 (0, 0)))
            have HEI := hid (Ext.alloc wr (.cells #[.int .i64 q.row, .int .i64 q.col, .int .i64 q.rows, .int .i64 q.cols] 32 (0, 0)))
            have HOI := hid (hO.out.alloc (.cells #[.int .i64 q.row, .int .i64 q.col, .int .i64 q.rows, .int .i64 q.cols] 32 (0, 0)))
            have HNB : Hid (wr.heap.size ≠ gc) := hid (by have := (hO.out.lt gc rfl).2; omega)
            clear x0 x1 x2 x3 hO
            generalize World.alloc wr _ = wi at *
            generalize wr.heap.size = nb at *
            have HNBL := hid (Array.getElem?_eq_some_iff.1 HBX.out).1
            go_loopw [16] (fun v wr => ∃ aa : Int, v = .int .i64 aa ∧ q.row ≤ aa ∧ aa ≤ q.row + q.rows ∧ Hid (wi.grownBy wr (some gc)) ∧ Hid (wr.ownsRow gc 3 1 (.slice (some ⟨gc, 0, none⟩) N N) N (rowOf N (cell (LL.take kk) q C aa q.col)))) (fun v _ => (q.row + q.rows - intOf v).toNat)
            case atStart => exact ⟨q.row, rfl, by omega, by omega, hid (grown_of_ext (Ext.refl _)), hid (by rw [rowOf_congr (fun z _ => cell_start (LL.take kk) q C z)]; exact HOI.out)⟩
            case round =>
              clear HOI
              obtain ⟨aa, rfl, ha1, ha2, hG2, hO2⟩ := hrel
              have hb2 := (hG2.out.block nb HNBL.out (fun e => HNB.out (by simpa using e))).trans HBX.out
              have y0 : wr.cell? ⟨nb, 0, none⟩ = some (.int .i64 q.row) := cell_blk hb2 rfl
              have y1 : wr.cell? ⟨nb, 1, none⟩ = some (.int .i64 q.col) := cell_blk hb2 rfl
              have y2 : wr.cell? ⟨nb, 2, none⟩ = some (.int .i64 q.rows) := cell_blk hb2 rfl
              have y3 : wr.cell? ⟨nb, 3, none⟩ = some (.int .i64 q.cols) := cell_blk hb2 rfl
              clear hb2
              by_cases hla : aa < q.row + q.rows
              · go_wp2_with fail
                go_loopw [17] (fun v wr => ∃ bb : Int, v = .int .i64 bb ∧ q.col ≤ bb ∧ bb ≤ q.col + q.cols ∧ Hid (wi.grownBy wr (some gc)) ∧ Hid (wr.ownsRow gc 3 1 (.slice (some ⟨gc, 0, none⟩) N N) N (rowOf N (cell (LL.take kk) q C aa bb)))) (fun v _ => (q.col + q.cols - intOf v).toNat)
                case atStart => exact ⟨q.col, rfl, by omega, by omega, hG2, hO2⟩
                case round =>
                  clear hG2 hO2 y0 y1 y2 y3
                  obtain ⟨bb, rfl, hb1, hb2, hG3, hO3⟩ := hrel
                  have hbk := (hG3.out.block nb HNBL.out (fun e => HNB.out (by simpa using e))).trans HBX.out
                  have y0 : wr.cell? ⟨nb, 0, none⟩ = some (.int .i64 q.row) := cell_blk hbk rfl
                  have y1 : wr.cell? ⟨nb, 1, none⟩ = some (.int .i64 q.col) := cell_blk hbk rfl
                  have y2 : wr.cell? ⟨nb, 2, none⟩ = some (.int .i64 q.rows) := cell_blk hbk rfl
                  have y3 : wr.cell? ⟨nb, 3, none⟩ = some (.int .i64 q.cols) := cell_blk hbk rfl
                  clear hbk
                  by_cases hlb : bb < q.col + q.cols
                  · obtain ⟨m1, m2⟩ := mul_bd (a := aa) (C := C) (R := R) (by omega) (by omega) hC1
                    obtain ⟨j, hj⟩ : ∃ j : Nat, aa * C + bb = (j : Int) := ⟨(aa * C + bb).toNat, by omega⟩
                    have hjN : j < N := by have := HN.out; omega
                    obtain ⟨s1, s2⟩ := cell_step (l := LL.take kk) hj (by omega) (by omega) hb1
                    have cj : wr.cell? ⟨gc, j, none⟩ = some (.int .i64 (cell (LL.take kk) q C aa bb j)) := by rw [hO3.out.cellAt j (by omega)]; exact rowOf_at hjN
                    have zj := hO3.out.frozenAt j
                    obtain ⟨bd1, bd2⟩ := cell_bd (LL.take kk) q C aa bb j
                    have hst := hO3.out.stored j (.int .i64 (cell (LL.take kk) q C aa (bb + 1) j))
                    rw [rowOf_set (f' := cell (LL.take kk) q C aa (bb + 1)) rfl (fun z _ hz => s2 z hz)] at hst
                    rw [s1] at hst
                    have HST := hid hst
                    have hvm : aa * C ≤ 2000 := by have := HN.out; omega
                    generalize hcv : cell (LL.take kk) q C aa bb j = cv at *
                    have hjj : (j : Int) < (N : Int) := by omega
                    have vm : IntKind.i64.wrap (aa * C) = aa * C := by rw [IntKind.wrap_i64]; omega
                    have vj : IntKind.i64.wrap (aa * C + bb) = (j : Int) := by rw [hj, IntKind.wrap_i64]; omega
                    have vs : IntKind.i64.wrap (cv + 1) = cv + 1 := by rw [IntKind.wrap_i64]; omega
                    have vb : IntKind.i64.wrap (bb + 1) = bb + 1 := by rw [IntKind.wrap_i64]; omega
                    clear hst hcv hj m1 m2 s1 s2 hO3
                    go_wp2_with fail
                    go_roundw
                    case rel => exact ⟨bb + 1, rfl, by omega, by omega, hid (grown_trans hG3.out HST.out.2), hid HST.out.1⟩
                    case measure => simp [intOf]; omega
                  · have hbe : bb = q.col + q.cols := by omega
                    subst hbe
                    have va : IntKind.i64.wrap (aa + 1) = aa + 1 := by rw [IntKind.wrap_i64]; omega
                    go_wp2_with fail
                    go_roundw
                    case rel => exact ⟨aa + 1, rfl, by omega, by omega, hG3, hid (by rw [rowOf_congr (fun z _ => (cell_row ha1 z).symm)]; exact hO3.out)⟩
                    case measure => simp [intOf]; omega
              · have hae : aa = q.row + q.rows := by omega
                subst hae
                go_wp2_with fail
                go_roundw
                case rel => exact ⟨kk + 1, by go_num, by omega, hid (grown_trans (grown_trans hG.out (grown_of_ext HEI.out)) hG2.out), hid (by rw [HTK.out, rowOf_congr (fun z _ => (cell_end z).symm)]; exact hO2.out)⟩
                case measure => simp [intOf]; omega
          · have hke : kk = nL := by omega
            subst hke
            have hlk2 : ¬ (kk : Int) < (kk : Int) := by omega
            have hone : rowOf N (fun z => covs (LL.take kk) ((z : Int) / C) ((z : Int) % C)) = rowOf N (fun _ => 1) := rowOf_congr (fun z hz => by
              rw [List.take_of_length_le (by have := HNL.out; omega), HTI.out]
              have h1 := HN.out
              have hCp : 0 < C := by
                rcases Int.lt_or_le 0 C with h | h
                · exact h
                · have h0 : C = 0 := by omega
                  rw [h0, Int.mul_zero] at h1; omega
              have h2 : (0 : Int) ≤ (z : Int) / C := Int.ediv_nonneg (by omega) (by omega)
              have h3 : (z : Int) / C < R := Int.ediv_lt_of_lt_mul hCp (by omega)
              have h4 := Int.emod_nonneg (z : Int) (show C ≠ 0 by omega)
              have h5 := Int.emod_lt_of_pos (z : Int) hCp
              unfold cov
              rw [if_pos (by simp only [allB]; omega)])
            have hO1 := hO.out
            rw [hone] at hO1
            have HO1 := hid hO1
            have HSF := hid (HS4.out.grown hG.out (fun k hk => HROW.out k hk))
            clear hone hO hO1 hG HS4
            go_wp2_with fail
            go_loopw [18] (fun v wx4 => ∃ z : Nat, v = .int .i64 z ∧ z ≤ N ∧ Hid (Ext wr wx4)) (fun v _ => N - (intOf v).toNat)
            case atStart => exact ⟨0, rfl, by omega, hid (Ext.refl _)⟩
            case round =>
              obtain ⟨z, rfl, hz, hE4⟩ := hrel
              by_cases hlz : z < N
              · have hlz2 : (z : Int) < (N : Int) := by omega
                have cz : wr.cell? ⟨gc, z, none⟩ = some (.int .i64 1) := hE4.out.cell (by rw [HO1.out.cellAt z (by omega)]; exact rowOf_at hlz)
                go_wp2_with fail
                go_roundw
                case rel => exact ⟨z + 1, by go_num, by omega, hE4⟩
                case measure => simp [intOf]; omega
              · have hlz2 : ¬ (z : Int) < (N : Int) := by omega
                go_wp2_with fail
                refine (HSF.out.later hE4.out).panes.mono ?_
                rintro e w7 ⟨v7, rfl, ho7, hE7⟩
                obtain ⟨a7, cap7, rfl, _⟩ := own_form ho7
                have HS7 := hid ((HSF.out.later hE4.out).later hE7)
                clear ho7 hE7
                go_wp2_with fail
                refine (HS7.out.places R C (by omega) (by omega)).mono ?_
                rintro e w8 ⟨v8, rfl, ho8, hE8⟩
                obtain ⟨a8, cap8, rfl, _⟩ := own_form ho8
                have HS8 := hid (HS7.out.later hE8)
                clear ho8 hE8
                go_wp2_with fail
                go_ret
                exact ⟨rfl, HS8.out.ext⟩

end Go.Proofs.YtflbfmfaccaffaaDoor
