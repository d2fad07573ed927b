/-
  The walk of LayoutKnown.
-/
import Derived.Test.YtflbfmfaccaffaaDoorL15
namespace Go.Proofs.YtflbfmfaccaffaaDoor
open Go Go.RowKit
attribute [local go_sem] extUpon
attribute [local go_sem ↓] eval_put_ne eval_put_none eval_put_same size_put eval_const

set_option maxHeartbeats 4000000 in
set_option maxRecDepth 100000 in
theorem LayoutKnown_walk (w : World) (hT : TabW w) : Calls Tryd.prog 7 #[] w fun e w' => e = .returned (.bool true) ∧ Ext w w' := by
  have HT := hid hT
  clear hT
  go_enter Tryd.func7, Tryd.ntmps7
  go_wp2_with fail
  refine (St.new w 0 (by decide) (Ext.refl w)).mono ?_
  rintro e w1 ⟨b, rfl, hS, _⟩
  go_wp2_with fail
  refine (known22 w1 (HT.out.later hS.ext)).mono ?_
  rintro e w2 ⟨rfl, hE⟩
  replace hS := hS.later hE
  clear hE
  go_wp2_with fail
  refine (hS.kill 0).mono ?_
  rintro e w3 ⟨rfl, hS2, hW⟩
  have heq : (LT.leaf b 0).kill 0 = (2, LT.leaf b 0) := by kernel_rfl
  rw [heq] at hS2 hW ⊢
  dsimp only at hS2 hW ⊢
  have HS := hid hS2
  clear hS heq hS2
  have hS := HS.out
  clear HS
  clear hW
  go_wp2_with fail
  refine (hS.split 5 1 10 21 true (by decide) (by decide) (by decide)).mono ?_
  rintro e w3 ⟨b1, b2, rfl, hS2, hW⟩
  have heq : (LT.leaf b 0).split 5 1 true (allB 10 21) b1 b2 = (3, LT.leaf b 0) := by kernel_rfl
  rw [heq] at hS2 hW ⊢
  dsimp only at hS2 hW ⊢
  have HS := hid hS2
  clear hS heq hS2 hW
  have hS := HS.out
  clear HS
  go_wp2_with fail
  refine (hS.split 0 0 10 21 true (by decide) (by decide) (by decide)).mono ?_
  rintro e w3 ⟨b1, b2, rfl, hS2, hW⟩
  have heq : (LT.leaf b 0).split 0 0 true (allB 10 21) b1 b2 = (15, LT.leaf b 0) := by kernel_rfl
  rw [heq] at hS2 hW ⊢
  dsimp only at hS2 hW ⊢
  have HS := hid hS2
  clear hS heq hS2 hW
  have hS := HS.out
  clear HS
  go_wp2_with fail
  refine (hS.split 0 1 10 2 true (by decide) (by decide) (by decide)).mono ?_
  rintro e w3 ⟨b1, b2, rfl, hS2, hW⟩
  have heq : (LT.leaf b 0).split 0 1 true (allB 10 2) b1 b2 = (17, LT.leaf b 0) := by kernel_rfl
  rw [heq] at hS2 hW ⊢
  dsimp only at hS2 hW ⊢
  have HS := hid hS2
  clear hS heq hS2 hW
  have hS := HS.out
  clear HS
  clear b1 b2
  go_wp2_with fail
  refine (hS.split 0 1 10 21 true (by decide) (by decide) (by decide)).mono ?_
  rintro e w3 ⟨b1, b2, rfl, hS2, hW⟩
  have heq : (LT.leaf b 0).split 0 1 true (allB 10 21) b1 b2 = (0, LT.node b (.leaf b1 0) (.leaf b2 1) true 10) := by kernel_rfl
  rw [heq] at hS2 hW ⊢
  dsimp only at hS2 hW ⊢
  have HS := hid hS2
  clear hS heq hS2 hW
  have hS := HS.out
  clear HS
  go_wp2_with fail
  refine (hS.split 1 2 10 21 false (by decide) (by decide) (by decide)).mono ?_
  rintro e w3 ⟨d1, d2, rfl, hS2, hW⟩
  have heq : (LT.node b (.leaf b1 0) (.leaf b2 1) true 10).split 1 2 false (allB 10 21) d1 d2 = (0, LT.node b (.leaf b1 0) (.node b2 (.leaf d1 1) (.leaf d2 2) false 5) true 10) := by kernel_rfl
  rw [heq] at hS2 hW ⊢
  dsimp only at hS2 hW ⊢
  have HS := hid hS2
  clear hS heq hS2 hW
  have hS := HS.out
  clear HS
  go_wp2_with fail
  refine (hS.grow 1 3 10 21 true (by decide) (by decide)).mono ?_
  rintro e w3 ⟨rfl, hS2, hW⟩
  have heq : (LT.node b (.leaf b1 0) (.node b2 (.leaf d1 1) (.leaf d2 2) false 5) true 10).grow 1 true 3 (allB 10 21) = (0, LT.node b (.leaf b1 0) (.node b2 (.leaf d1 1) (.leaf d2 2) false 5) true 7) := by kernel_rfl
  rw [heq] at hS2 hW ⊢
  dsimp only at hS2 hW ⊢
  have HS := hid hS2
  clear hS heq hS2
  have hS := HS.out
  clear HS
  clear hW
  go_wp2_with fail
  refine (hS.grow 0 3 10 21 false (by decide) (by decide)).mono ?_
  rintro e w3 ⟨rfl, hS2, hW⟩
  have heq : (LT.node b (.leaf b1 0) (.node b2 (.leaf d1 1) (.leaf d2 2) false 5) true 7).grow 0 false 3 (allB 10 21) = (3, LT.node b (.leaf b1 0) (.node b2 (.leaf d1 1) (.leaf d2 2) false 5) true 7) := by kernel_rfl
  rw [heq] at hS2 hW ⊢
  dsimp only at hS2 hW ⊢
  have HS := hid hS2
  clear hS heq hS2
  have hS := HS.out
  clear HS
  clear hW
  go_wp2_with fail
  refine (hS.text HT.out).mono ?_
  rintro e w4 ⟨rfl, hE⟩
  have htx : LT.text (.node b (.leaf b1 0) (.node b2 (.leaf d1 1) (.leaf d2 2) false 5) true 7) = [40, 48, 124, 55, 58, 40, 49, 45, 53, 58, 50, 41, 41] := by kernel_rfl
  rw [htx]
  replace hS := hS.later hE
  clear hE htx
  go_wp2_with fail
  refine (hS.borders 10 21 (by decide) (by decide)).mono ?_
  rintro e w5 ⟨v, rfl, ho, hE⟩
  obtain ⟨g, cap, rfl, hc⟩ := rects_at (n := 2) ho (by decide)
  have hg := ho.lt g rfl
  have hgt : ∀ k ∈ (LT.node b (.leaf b1 0) (.node b2 (.leaf d1 1) (.leaf d2 2) false 5) true 7).blocks, k ≠ g := fun k hk e => by
    have := hS.tr.at_.at_.lt k hk; omega
  have HG := hid hgt
  have HGL := hid hg.2
  replace hS := hS.later hE
  obtain ⟨a0, a1, a2, a3⟩ := hc 0 ⟨0, 7, 10, 1⟩ (by kernel_rfl)
  obtain ⟨c0, c1, c2, c3⟩ := hc 1 ⟨5, 8, 1, 13⟩ (by kernel_rfl)
  have HCC := hid (And.intro (And.intro (And.intro a0 a1) (And.intro a2 a3)) (And.intro (And.intro c0 c1) (And.intro c2 c3)))
  clear hc ho hg hgt hE a0 a1 a2 a3 c0 c1 c2 c3
  go_wp2_with fail
  refine (hS.swap (by simp [LT.panes]) 0 2).mono ?_
  rintro e w3 ⟨rfl, hS2, hW⟩
  have heq : (LT.node b (.leaf b1 0) (.node b2 (.leaf d1 1) (.leaf d2 2) false 5) true 7).swap 0 2 = (0, LT.node b (.leaf b1 2) (.node b2 (.leaf d1 1) (.leaf d2 0) false 5) true 7) := by kernel_rfl
  rw [heq] at hS2 hW ⊢
  dsimp only at hS2 hW ⊢
  have HS := hid hS2
  clear hS heq hS2
  have hS := HS.out
  clear HS
  have HK1 := hid (hW.block g HGL.out (fun h => HG.out _ h rfl))
  have hgl3 := hid (Nat.lt_of_lt_of_le HGL.out hW.size)
  clear hW
  go_wp2_with fail
  refine (hS.text HT.out).mono ?_
  rintro e w6 ⟨rfl, hE⟩
  have htx : LT.text (.node b (.leaf b1 2) (.node b2 (.leaf d1 1) (.leaf d2 0) false 5) true 7) = [40, 50, 124, 55, 58, 40, 49, 45, 53, 58, 48, 41, 41] := by kernel_rfl
  rw [htx]
  replace hS := hS.later hE
  have HK2 := hid (hE.block g hgl3.out)
  have hgl6 := hid (Nat.lt_of_lt_of_le hgl3.out hE.size)
  clear hE htx
  go_wp2_with fail
  refine (hS.kill 1).mono ?_
  rintro e w3 ⟨rfl, hS2, hW⟩
  have heq : (LT.node b (.leaf b1 2) (.node b2 (.leaf d1 1) (.leaf d2 0) false 5) true 7).kill 1 = (0, LT.node b (.leaf b1 2) (.leaf b2 0) true 7) := by kernel_rfl
  rw [heq] at hS2 hW ⊢
  dsimp only at hS2 hW ⊢
  have HS := hid hS2
  clear hS heq hS2
  have hS := HS.out
  clear HS
  have HK3 := hid (hW.block g hgl6.out (fun h => HG.out _ h rfl))
  have hgl7 := hid (Nat.lt_of_lt_of_le hgl6.out hW.size)
  clear hW
  have hb : w3.heap[g]? = w5.heap[g]? := HK3.out.trans (HK2.out.trans HK1.out)
  have HB := hid (fun (j : Nat) v (h : w5.cell? ⟨g, j, none⟩ = some v) => ((World.cell?_of_block (a := ⟨g, j, none⟩) hb).trans h : w3.cell? ⟨g, j, none⟩ = some v))
  obtain ⟨⟨⟨a0, a1⟩, a2, a3⟩, ⟨c0, c1⟩, c2, c3⟩ := HCC.out
  replace a0 := HB.out _ _ a0; replace a1 := HB.out _ _ a1; replace a2 := HB.out _ _ a2; replace a3 := HB.out _ _ a3
  replace c0 := HB.out _ _ c0; replace c1 := HB.out _ _ c1; replace c2 := HB.out _ _ c2; replace c3 := HB.out _ _ c3
  clear HK1 HK2 HK3 hgl3 hgl6 hb HCC HB HG HGL hgl7
  try simp only at a0 a1 a2 a3 c0 c1 c2 c3
  go_wp2_with fail
  refine (hS.text HT.out).mono ?_
  rintro e w8 ⟨rfl, hE⟩
  have htx : LT.text (.node b (.leaf b1 2) (.leaf b2 0) true 7) = [40, 50, 124, 55, 58, 48, 41] := by kernel_rfl
  rw [htx]
  replace hS := hS.later hE
  clear hE htx
  go_wp2_with fail
  refine (hS.has 2).mono ?_
  rintro e w9 ⟨rfl, hE⟩
  rw [decide_eq_true (show (2 : Int) ∈ (LT.node b (.leaf b1 2) (.leaf b2 0) true 7).panes by simp [LT.panes])]
  replace hS := hS.later hE
  clear hE
  go_wp2_with fail
  refine (hS.has 1).mono ?_
  rintro e w10 ⟨rfl, hE⟩
  rw [decide_eq_false (show ¬ (1 : Int) ∈ (LT.node b (.leaf b1 2) (.leaf b2 0) true 7).panes by simp [LT.panes])]
  replace hS := hid (hS.later hE)
  clear hE
  go_wp2_with fail
  go_ret
  exact ⟨rfl, hS.out.ext⟩

end Go.Proofs.YtflbfmfaccaffaaDoor
