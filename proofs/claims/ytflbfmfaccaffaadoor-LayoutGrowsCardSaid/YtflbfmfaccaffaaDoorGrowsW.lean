/-
  The walk of LayoutGrows.
-/
import Derived.Test.YtflbfmfaccaffaaDoorL12
import Derived.Test.YtflbfmfaccaffaaDoorPick
namespace Go.Proofs.YtflbfmfaccaffaaDoor
open Go Go.RowKit
attribute [local go_sem] extUpon
attribute [local go_sem ↓] eval_put_ne eval_put_none eval_put_same size_put eval_const

theorem grow_leaf (b : Nat) (p by_ rows cols : Int) (a : Bool) : (LT.leaf b p).grow p a by_ (allB rows cols) = (3, .leaf b p) := by
  simp [LT.grow, LT.panes, LT.path, gAt]
theorem grow_first (b b1 b2 : Nat) (p q by_ rows cols k : Int) (hk : 1 ≤ k ∧ k ≤ cols - 2) (hc : 3 ≤ cols) (hb : -1000 ≤ by_ ∧ by_ ≤ 1000) :
    (LT.node b (.leaf b1 p) (.leaf b2 q) true k).grow p true by_ (allB rows cols) = (0, .node b (.leaf b1 p) (.leaf b2 q) true (min (cols - 2) (max 1 (k + by_)))) := by
  have hw : wide true (allB rows cols) = cols := by simp only [wide, allB, if_true]; omega
  have h1 : held k cols = k := by unfold held; omega
  have h2 : min (max by_ (-1000)) 1000 = by_ := by omega
  simp [LT.grow, LT.panes, LT.path, LT.bxs, gAt, hw, h1, h2, plug, LT.tip, Fr.fill, show ¬ cols < 3 by omega]
  omega
theorem grow_second (b b1 b2 : Nat) (p q by_ rows cols k : Int) (hpq : q ≠ p) (hk : 1 ≤ k ∧ k ≤ cols - 2) (hc : 3 ≤ cols) (hb : -1000 ≤ by_ ∧ by_ ≤ 1000) :
    (LT.node b (.leaf b1 p) (.leaf b2 q) true k).grow q true by_ (allB rows cols) = (0, .node b (.leaf b1 p) (.leaf b2 q) true (min (cols - 2) (max 1 (k - by_)))) := by
  have hw : wide true (allB rows cols) = cols := by simp only [wide, allB, if_true]; omega
  have h1 : held k cols = k := by unfold held; omega
  have h2 : min (max by_ (-1000)) 1000 = by_ := by omega
  simp [LT.grow, LT.panes, LT.path, LT.bxs, gAt, hw, h1, h2, plug, LT.tip, Fr.fill, show ¬ cols < 3 by omega, hpq]
  omega
theorem places_two (b b1 b2 : Nat) (p q rows cols k : Int) (hk : 1 ≤ k ∧ k ≤ cols - 2) (hc : 3 ≤ cols) :
    (LT.node b (.leaf b1 p) (.leaf b2 q) true k).places (allB rows cols) = [⟨0, 0, max rows 0, k⟩, ⟨0, k + 1, max rows 0, cols - k - 1⟩] := by
  have hw : wide true (allB rows cols) = cols := by simp only [wide, allB, if_true]; omega
  have h1 : held k cols = k := by unfold held; omega
  have hp : parts true k (allB rows cols) = (⟨0, 0, max rows 0, k⟩, ⟨0, k + 1, max rows 0, cols - k - 1⟩) := by
    unfold parts
    rw [hw, h1, if_neg (by omega)]
    simp [slc, allB]
  simp [LT.places, hp]

set_option maxHeartbeats 2000000 in
set_option maxRecDepth 100000 in
theorem LayoutGrows_walk (by_ cols : Int) (second : Bool) (w : World) (hT : TabW w) :
    Calls Tryd.prog 3 #[.int .i64 by_, .int .i64 cols, .bool second] w fun e w' => e = .returned (.bool true) ∧ Ext w w' := by
  have HT := hid hT
  clear hT
  have hc1 := Int.emod_nonneg cols (show (60 : Int) ≠ 0 by decide)
  have hc2 := Int.emod_lt_of_pos cols (show (0 : Int) < 60 by decide)
  have hb1 := Int.emod_nonneg by_ (show (80 : Int) ≠ 0 by decide)
  have hb2 := Int.emod_lt_of_pos by_ (show (0 : Int) < 80 by decide)
  have HPC := hid (fun w => pick_any cols 60 w (by decide) (by decide))
  have HPB := hid (fun w => pick_any by_ 80 w (by decide) (by decide))
  generalize cols % 60 = c0 at *
  generalize by_ % 80 = y0 at *
  obtain ⟨c, hc⟩ : ∃ c, c = 3 + c0 := ⟨_, rfl⟩
  obtain ⟨y, hy⟩ : ∃ y, y = y0 - 40 := ⟨_, rfl⟩
  have v1 : IntKind.i64.wrap (3 + c0) = c := by rw [IntKind.wrap_i64]; omega
  have v2 : IntKind.i64.wrap (y0 - 40) = y := by rw [IntKind.wrap_i64]; omega
  have hcc1 : 3 ≤ c := by omega
  have hcc2 : c ≤ 63 := by omega
  have hyy1 : -40 ≤ y := by omega
  have hyy2 : y < 40 := by omega
  clear hc hy
  go_enter Tryd.func3, Tryd.ntmps3
  go_wp2_with fail
  refine (HPC.out _).mono ?_
  rintro e w1 ⟨rfl, rfl⟩
  go_wp2_with fail
  refine (HPB.out _).mono ?_
  rintro e w1 ⟨rfl, rfl⟩
  go_wp2_with fail
  refine (St.new w 0 (by decide) (Ext.refl w)).mono ?_
  rintro e w1 ⟨b, rfl, hS, _⟩
  go_wp2_with fail
  refine (known22 w1 (HT.out.later hS.ext)).mono ?_
  rintro e w2 ⟨rfl, hE⟩
  replace hS := hS.later hE
  clear hE
  go_wp2_with fail
  refine (hS.grow 0 y 5 c true (by decide) (by omega)).mono ?_
  rintro e w3 ⟨rfl, hS2, _⟩
  rw [grow_leaf] at *
  replace hS := hS2
  clear hS2
  go_wp2_with fail
  refine (hS.split 0 1 5 c true (by decide) (by omega) (by decide)).mono ?_
  rintro e w4 ⟨b1, b2, rfl, hS2, _⟩
  have hw5 : wide true (allB 5 c) = c := by simp only [wide, allB, if_true]; omega
  rw [split_leaf b b1 b2 0 1 5 c true (by decide) (by omega), hw5] at hS2 ⊢
  dsimp only at hS2 ⊢
  replace hS := hid hS2
  clear hS2 hw5
  have v3 : IntKind.i64.wrap (c - 2) = c - 2 := by rw [IntKind.wrap_i64]; omega
  have v4 : IntKind.i64.wrap (c.tdiv 2) = c / 2 := by rw [Int.tdiv_eq_ediv_of_nonneg (by omega), IntKind.wrap_i64]; omega
  have v5 : IntKind.i64.wrap (c / 2 + y) = c / 2 + y := by rw [IntKind.wrap_i64]; omega
  have v6 : IntKind.i64.wrap (c / 2 + -y) = c / 2 - y := by rw [IntKind.wrap_i64]; omega
  cases second
  · have hK : 1 ≤ min (c - 2) (max 1 (c / 2 + y)) ∧ min (c - 2) (max 1 (c / 2 + y)) ≤ c - 2 := by omega
    have HG := hid (hS.out.grow 0 y 5 c true (by decide) (by omega))
    rw [grow_first b b1 b2 0 1 y 5 c (c / 2) (by omega) (by omega) (by omega)] at HG
    generalize hKK : min (c - 2) (max 1 (c / 2 + y)) = K at *
    obtain ⟨hK1, hK2⟩ := hK
    have v7 : IntKind.i64.wrap (K + 1) = K + 1 := by rw [IntKind.wrap_i64]; omega
    have v8 : IntKind.i64.wrap (c - 1) = c - 1 := by rw [IntKind.wrap_i64]; omega
    have v9 : IntKind.i64.wrap (c - 1 - K) = c - 1 - K := by rw [IntKind.wrap_i64]; omega
    have HP := hid (places_two b b1 b2 0 1 5 c K ⟨hK1, hK2⟩ (by omega))
    have hcases : (c / 2 + y ≤ 1 ∧ K ≤ 1) ∨ (1 < c / 2 + y ∧ c - 2 ≤ c / 2 + y ∧ c - 2 ≤ K) ∨ (1 < c / 2 + y ∧ c / 2 + y < c - 2 ∧ K ≤ c / 2 + y ∧ c / 2 + y ≤ K) := by omega
    clear hKK
    rcases hcases with ⟨g1, g2⟩ | ⟨g1, g2, g3⟩ | ⟨g1, g2, g3, g4⟩
    all_goals (
      go_wp2_with fail
      refine HG.out.mono ?_
      rintro e w5 ⟨rfl, hS5, _⟩
      go_wp2_with fail
      refine (hS5.places 5 c (by decide) (by omega)).mono ?_
      rintro e w6 ⟨v, rfl, ho, hE6⟩
      have hS6 := hid (hS5.later hE6)
      rw [HP.out] at ho
      obtain ⟨g, cap, rfl, hc⟩ := rects_at (n := 2) ho (by decide)
      obtain ⟨a0, a1, a2, a3⟩ := hc 0 _ rfl
      obtain ⟨d0, d1, d2, d3⟩ := hc 1 _ rfl
      clear hc ho hE6 hS5
      simp only at a0 a1 a2 a3 d0 d1 d2 d3
      go_wp2_with fail
      all_goals go_ret
      all_goals exact ⟨rfl, hS6.out.ext⟩)
  · have hK : 1 ≤ min (c - 2) (max 1 (c / 2 - y)) ∧ min (c - 2) (max 1 (c / 2 - y)) ≤ c - 2 := by omega
    have HG := hid (hS.out.grow 1 y 5 c true (by decide) (by omega))
    rw [grow_second b b1 b2 0 1 y 5 c (c / 2) (by decide) (by omega) (by omega) (by omega)] at HG
    generalize hKK : min (c - 2) (max 1 (c / 2 - y)) = K at *
    obtain ⟨hK1, hK2⟩ := hK
    have v7 : IntKind.i64.wrap (K + 1) = K + 1 := by rw [IntKind.wrap_i64]; omega
    have v8 : IntKind.i64.wrap (c - 1) = c - 1 := by rw [IntKind.wrap_i64]; omega
    have v9 : IntKind.i64.wrap (c - 1 - K) = c - 1 - K := by rw [IntKind.wrap_i64]; omega
    have HP := hid (places_two b b1 b2 0 1 5 c K ⟨hK1, hK2⟩ (by omega))
    have hcases : (c / 2 - y ≤ 1 ∧ K ≤ 1) ∨ (1 < c / 2 - y ∧ c - 2 ≤ c / 2 - y ∧ c - 2 ≤ K) ∨ (1 < c / 2 - y ∧ c / 2 - y < c - 2 ∧ K ≤ c / 2 - y ∧ c / 2 - y ≤ K) := by omega
    clear hKK
    rcases hcases with ⟨g1, g2⟩ | ⟨g1, g2, g3⟩ | ⟨g1, g2, g3, g4⟩
    all_goals (
      go_wp2_with fail
      refine HG.out.mono ?_
      rintro e w5 ⟨rfl, hS5, _⟩
      go_wp2_with fail
      refine (hS5.places 5 c (by decide) (by omega)).mono ?_
      rintro e w6 ⟨v, rfl, ho, hE6⟩
      have hS6 := hid (hS5.later hE6)
      rw [HP.out] at ho
      obtain ⟨g, cap, rfl, hc⟩ := rects_at (n := 2) ho (by decide)
      obtain ⟨a0, a1, a2, a3⟩ := hc 0 _ rfl
      obtain ⟨d0, d1, d2, d3⟩ := hc 1 _ rfl
      clear hc ho hE6 hS5
      simp only at a0 a1 a2 a3 d0 d1 d2 d3
      go_wp2_with fail
      all_goals go_ret
      all_goals exact ⟨rfl, hS6.out.ext⟩)

end Go.Proofs.YtflbfmfaccaffaaDoor
