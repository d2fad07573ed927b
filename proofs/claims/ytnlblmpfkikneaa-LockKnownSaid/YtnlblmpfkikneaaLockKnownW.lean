/-
  The walk of LockKnown.
-/
import Derived.Test.YtnlblmpfkikneaaM6
namespace Go.Proofs.Ytnlblmpfkikneaa
open Go Go.RowKit Go.Maps
attribute [local go_sem] extUpon
attribute [local go_sem ↓] eval_put_ne eval_put_none eval_put_same size_put eval_const

theorem cfg_one : Cfg.Ok ⟨1, 10, 5⟩ := ⟨by decide, by decide, by decide, by decide, by decide, by decide⟩
def kw (tb : Nat) : TV := ⟨tb, ⟨1, 10, 5⟩, 0, fun _ => none⟩
theorem kw_1 (tb : Nat) : ((kw tb).put 7 1).til 7 1 = 6 := by kernel_rfl
theorem kw_2 (tb : Nat) : (((kw tb).put 7 1).put 7 10).til 7 10 = 20 := by kernel_rfl
theorem kw_3 (tb : Nat) : (((kw tb).put 7 1).put 7 10).til 8 1 = 0 := by kernel_rfl
theorem kw_4 (tb : Nat) : ((((kw tb).put 7 1).put 7 10).less 7).til 7 10 = 0 := by kernel_rfl
theorem kw_5 (tb : Nat) : ((((kw tb).put 7 1).put 7 10).less 7).n = 0 := by kernel_rfl

set_option maxHeartbeats 1000000 in
set_option maxRecDepth 100000 in
theorem LockKnown_walk (w : World) : Calls Try.prog 7 #[] w fun e w' => e = .returned (.bool true) ∧ Ext w w' := by
  have hN := hid ((Tabs.start w).new 0 rfl 1 10 5 cfg_one)
  have hu : U32 7 := by unfold U32; omega
  have hu8 : U32 8 := by unfold U32; omega
  go_enter Try.func7, Try.ntmps7
  go_wp2_with fail
  refine (new_bad 0 1 1 (.inl rfl) (by decide) _).mono ?_
  rintro e w1 ⟨rfl, rfl⟩
  go_wp2_with fail
  refine (new_bad 21 1 1 (.inr (by decide)) (by decide) _).mono ?_
  rintro e w1 ⟨rfl, rfl⟩
  go_wp2_with fail
  refine hN.out.mono ?_
  rintro e w1 ⟨tb, rfl, hT, _⟩
  have HT := hid hT
  clear hT hN
  unfold ptr
  go_wp2_with fail
  refine (known18 _).mono ?_
  rintro e w2 ⟨rfl, hE⟩
  replace HT := hid (HT.out.later hE)
  clear hE
  go_wp2_with fail
  refine (HT.out.fail (i := 0) (v := kw tb) rfl hu (now := 1) (by decide) (.inr (show (0 : Nat) < 32 by decide))).mono ?_
  rintro e w3 ⟨rfl, hT, _⟩
  have HT2 := hid hT
  clear hT HT
  generalize TV.hit _ _ _ = b1
  go_wp2_with fail
  refine (HT2.out.until (i := 0) (v := (kw tb).put 7 1) rfl hu (now := 1)).mono ?_
  rintro e w4 ⟨rfl, rfl⟩
  rw [kw_1]
  go_wp2_with fail
  refine (HT2.out.fail (i := 0) (v := (kw tb).put 7 1) rfl hu (now := 10) (by decide) (.inr (show (1 : Nat) < 32 by decide))).mono ?_
  rintro e w5 ⟨rfl, hT, _⟩
  have HT3 := hid hT
  clear hT HT2
  generalize TV.hit _ _ _ = b2
  go_wp2_with fail
  refine (HT3.out.until (i := 0) (v := ((kw tb).put 7 1).put 7 10) rfl hu (now := 10)).mono ?_
  rintro e w6 ⟨rfl, rfl⟩
  rw [kw_2]
  go_wp2_with fail
  refine (HT3.out.until (i := 0) (v := ((kw tb).put 7 1).put 7 10) rfl hu8 (now := 1)).mono ?_
  rintro e w6 ⟨rfl, rfl⟩
  rw [kw_3]
  go_wp2_with fail
  refine (HT3.out.clear (i := 0) (v := ((kw tb).put 7 1).put 7 10) rfl hu).mono ?_
  rintro e w7 ⟨⟨x, rfl⟩, hT, _⟩
  have HT4 := hid hT
  clear hT HT3
  go_wp2_with fail
  refine (HT4.out.until (i := 0) (v := (((kw tb).put 7 1).put 7 10).less 7) rfl hu (now := 10)).mono ?_
  rintro e w8 ⟨rfl, rfl⟩
  rw [kw_4]
  go_wp2_with fail
  refine (HT4.out.len (i := 0) (v := (((kw tb).put 7 1).put 7 10).less 7) rfl).mono ?_
  rintro e w9 ⟨rfl, rfl⟩
  rw [kw_5]
  go_wp2_with fail
  go_ret
  exact ⟨rfl, HT4.out.ext⟩

end Go.Proofs.Ytnlblmpfkikneaa
