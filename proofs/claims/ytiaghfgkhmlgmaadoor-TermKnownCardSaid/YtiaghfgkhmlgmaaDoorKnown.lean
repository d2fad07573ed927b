/-
  The example that every law of chapter 12 asks.
-/
import Derived.Test.YtiaghfgkhmlgmaaDoorSize
import Derived.Test.YtiaghfgkhmlgmaaDoorOwn
import Derived.Deep.DeepCutAuto
import Derived.Deep.CutBlock
import Derived.Test.YtiaghfgkhmlgmaaDoorShelf
namespace Go.Proofs.YtiaghfgkhmlgmaaDoor
open Go Go.RowKit
attribute [local go_sem] extUpon run_store_tm
attribute [local go_sem ↓] Tm.val_cell eval_put_ne eval_put_none eval_put_same size_put eval_const
attribute [local go_sem ↓] meth_Atom meth_Public meth_Shared meth_Chain meth_Digest meth_Box meth_Empty
attribute [local go_sem ↓] run_build_chain run_build_digest run_build_box
attribute [local go_sem] ta_Atom_Atom ta_Public_Atom ta_Shared_Atom ta_Chain_Atom ta_Digest_Atom ta_Box_Atom ta_Empty_Atom ta_Nil_Atom ta_Atom_Public ta_Public_Public ta_Shared_Public ta_Chain_Public ta_Digest_Public ta_Box_Public ta_Empty_Public ta_Nil_Public ta_Atom_Shared ta_Public_Shared ta_Shared_Shared ta_Chain_Shared ta_Digest_Shared ta_Box_Shared ta_Empty_Shared ta_Nil_Shared ta_Atom_Chain ta_Public_Chain ta_Shared_Chain ta_Chain_Chain ta_Digest_Chain ta_Box_Chain ta_Empty_Chain ta_Nil_Chain ta_Atom_Digest ta_Public_Digest ta_Shared_Digest ta_Chain_Digest ta_Digest_Digest ta_Box_Digest ta_Empty_Digest ta_Nil_Digest ta_Atom_Box ta_Public_Box ta_Shared_Box ta_Chain_Box ta_Digest_Box ta_Box_Box ta_Empty_Box ta_Nil_Box ta_Atom_Empty ta_Public_Empty ta_Shared_Empty ta_Chain_Empty ta_Digest_Empty ta_Box_Empty ta_Empty_Empty ta_Nil_Empty

def decS (i : Nat) : ByteArray := ⟨(Lib.decDigits i).toArray⟩

theorem itoa_small (i : Nat) (hi : i < 100) (w : World) : Calls Tryd.prog 14 #[.int .i64 i] w fun e w' => e = .returned (.string (decS i)) ∧ Ext w w' :=
  (Tryd.strconv_Itoa_small i hi w).mono fun _ _ ⟨he, hw⟩ => ⟨he, hw ▸ Ext.refl _⟩

theorem sz1 (b : UInt8) : (⟨#[b]⟩ : ByteArray).size = 1 := rfl
def sharedS (a b : ByteArray) : ByteArray := ⟨#[115]⟩ ++ a ++ ⟨#[46]⟩ ++ b

theorem shared_name (a b : Int) (sa sb : ByteArray) (w : World) (hsa : sa.size ≤ 1000) (hsb : sb.size ≤ 1000)
    (ha : ∀ w', Ext w w' → Calls Tryd.prog 14 #[.int .i64 a] w' fun e w'' => e = .returned (.string sa) ∧ Ext w' w'')
    (hb : ∀ w', Ext w w' → Calls Tryd.prog 14 #[.int .i64 b] w' fun e w'' => e = .returned (.string sb) ∧ Ext w' w'') :
    Calls Tryd.prog 57 #[.agg #[.int .i64 a, .int .i64 b]] w fun e w' => e = .returned (.string (sharedS sa sb)) ∧ Ext w w' := by
  have Ha := hid ha; have Hb := hid hb
  clear ha hb
  go_enter Tryd.func57, Tryd.ntmps57
  go_wp2_with fail
  refine reg_begin 10 (by kernel_rfl) ?_
  generalize hW : World.drew _ = W
  have c0 : W.cell? ⟨w.heap.size, 0, none⟩ = some (.int .i64 a) := by rw [← hW]; exact cell_drew (cell_new rfl)
  have c1 : W.cell? ⟨w.heap.size, 1, none⟩ = some (.int .i64 b) := by rw [← hW]; exact cell_drew (cell_new rfl)
  have hE : Ext w W := by rw [← hW]; exact (Ext.alloc _ _).trans (Ext.drew _)
  clear hW
  refine reg_quiet 0 rfl (by kernel_rfl) rfl ?_
  apply Exists.intro
  refine ⟨fun w' hw' => ?_, ?_⟩
  · go_simp
    exact ⟨rfl, Ext.refl _⟩
  refine reg_quiet 1 rfl (by kernel_rfl) rfl ?_
  apply Exists.intro
  refine ⟨fun w' hw' => ?_, ?_⟩
  · have hc := hw'.cell c0
    go_simp
    exact ⟨rfl, Ext.refl _⟩
  refine reg_quiet 2 rfl (by kernel_rfl) rfl ?_
  apply Exists.intro
  refine ⟨fun w' hw' => ?_, ?_⟩
  · go_simp
    exact Ha.out w' (hE.trans hw')
  refine reg_add 3 (⟨#[115]⟩) (sa) rfl (by kernel_rfl) (by simp only [sz1]; omega) (by go_simp) (by go_simp) ?_
  refine reg_add 4 (⟨#[115]⟩ ++ sa) (⟨#[46]⟩) rfl (by kernel_rfl) (by simp only [ByteArray.size_append, sz1]; omega) (by go_simp) (by go_simp) ?_
  refine reg_quiet 5 rfl (by kernel_rfl) rfl ?_
  apply Exists.intro
  refine ⟨fun w' hw' => ?_, ?_⟩
  · go_simp
    exact ⟨rfl, Ext.refl _⟩
  refine reg_quiet 6 rfl (by kernel_rfl) rfl ?_
  apply Exists.intro
  refine ⟨fun w' hw' => ?_, ?_⟩
  · have hc := hw'.cell c1
    go_simp
    exact ⟨rfl, Ext.refl _⟩
  refine reg_quiet 7 rfl (by kernel_rfl) rfl ?_
  apply Exists.intro
  refine ⟨fun w' hw' => ?_, ?_⟩
  · go_simp
    exact Hb.out w' (hE.trans hw')
  refine reg_add 8 (⟨#[115]⟩ ++ sa ++ ⟨#[46]⟩) (sb) rfl (by kernel_rfl) (by simp only [ByteArray.size_append, sz1]; omega) (by go_simp) (by go_simp) ?_
  refine reg_quiet 9 rfl (by kernel_rfl) rfl ?_
  apply Exists.intro
  refine ⟨fun w' hw' => ?_, ?_⟩
  · go_simp
    exact ⟨rfl, Ext.refl _⟩
  refine reg_done (by kernel_rfl) (fun w' hw' => ?_) _
  go_simp
  go_wp2
  go_ret
  exact ⟨rfl, hE.trans hw'⟩

theorem Dh_pub (s n : Int) (w : World) :
    Calls Tryd.prog 4 #[.int .i64 s, .iface 23 (.agg #[.int .i64 n])] w fun e w' => e = .returned (.tuple #[.iface 46 (.agg #[.int .i64 (min s n), .int .i64 (max s n)]), .bool true]) ∧ Ext w w' := by
  rcases Int.lt_trichotomy s n with hh | rfl | hh
  · have H1 := hid (Int.min_eq_left (Int.le_of_lt hh))
    have H2 := hid (Int.max_eq_right (Int.le_of_lt hh))
    go_enter Tryd.func4, Tryd.ntmps4
    go_wp2
    go_ret2
    exact ⟨by rw [H1.out, H2.out]; rfl, Ext.alloc _ _⟩
  · have H1 := hid (Int.min_self s)
    have H2 := hid (Int.max_self s)
    go_enter Tryd.func4, Tryd.ntmps4
    go_wp2
    go_ret2
    exact ⟨by rw [H1.out, H2.out]; rfl, Ext.alloc _ _⟩
  · have H1 := hid (Int.min_eq_right (Int.le_of_lt hh))
    have H2 := hid (Int.max_eq_left (Int.le_of_lt hh))
    go_enter Tryd.func4, Tryd.ntmps4
    go_wp2
    go_ret2
    exact ⟨by rw [H1.out, H2.out]; rfl, Ext.alloc _ _⟩

set_option maxRecDepth 100000 in
theorem known12 (w : World) : Calls Tryd.prog 5 #[] w fun e w' => e = .returned (.bool true) ∧ Ext w w' := by
  go_enter Tryd.func5, Tryd.ntmps5
  go_wp2_with fail
  refine (Dh_pub 5 3 _).mono ?_
  rintro e w1 ⟨rfl, hE1⟩
  have m1 : min (5 : Int) 3 = 3 := by decide
  have m2 : max (5 : Int) 3 = 5 := by decide
  rw [m1, m2]
  clear m1 m2
  go_wp2_with fail
  refine (shared_name 3 5 (decS 3) (decS 5) _ (by decide +kernel) (by decide +kernel) (fun _ _ => itoa_small 3 (by omega) _) (fun _ _ => itoa_small 5 (by omega) _)).mono ?_
  rintro e w2 ⟨rfl, hE2⟩
  have hs : (sharedS (decS 3) (decS 5) == ⟨#[115, 51, 46, 53]⟩) = true := by decide +kernel
  have hs2 : sharedS (decS 3) (decS 5) = ⟨#[115, 51, 46, 53]⟩ := by decide +kernel
  rw [hs2]
  clear hs hs2
  go_wp2
  go_ret
  exact ⟨rfl, (hE1.alloc' _).trans hE2⟩

end Go.Proofs.YtiaghfgkhmlgmaaDoor
