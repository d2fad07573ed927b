/-
  The walk of TermKnown: chapter 12's example.
-/
import Derived.Test.YtiaghfgkhmlgmaaDoorKnown
import Derived.Test.YtiaghfgkhmlgmaaDoorName
import Derived.Test.YtiaghfgkhmlgmaaDoorPan
import Derived.Sort.Grow
namespace Go.Proofs.YtiaghfgkhmlgmaaDoor
open Go Go.RowKit
attribute [local go_sem] extUpon run_store_tm
attribute [local go_sem ↓] Tm.val_cell eval_put_ne eval_put_none eval_put_same size_put eval_const
attribute [local go_sem ↓] meth_Atom meth_Public meth_Shared meth_Chain meth_Digest meth_Box meth_Empty
attribute [local go_sem ↓] run_build_chain run_build_digest run_build_box
attribute [local go_sem] ta_Atom_Atom ta_Public_Atom ta_Shared_Atom ta_Chain_Atom ta_Digest_Atom ta_Box_Atom ta_Empty_Atom ta_Nil_Atom ta_Atom_Public ta_Public_Public ta_Shared_Public ta_Chain_Public ta_Digest_Public ta_Box_Public ta_Empty_Public ta_Nil_Public ta_Atom_Shared ta_Public_Shared ta_Shared_Shared ta_Chain_Shared ta_Digest_Shared ta_Box_Shared ta_Empty_Shared ta_Nil_Shared ta_Atom_Chain ta_Public_Chain ta_Shared_Chain ta_Chain_Chain ta_Digest_Chain ta_Box_Chain ta_Empty_Chain ta_Nil_Chain ta_Atom_Digest ta_Public_Digest ta_Shared_Digest ta_Chain_Digest ta_Digest_Digest ta_Box_Digest ta_Empty_Digest ta_Nil_Digest ta_Atom_Box ta_Public_Box ta_Shared_Box ta_Chain_Box ta_Digest_Box ta_Box_Box ta_Empty_Box ta_Nil_Box ta_Atom_Empty ta_Public_Empty ta_Shared_Empty ta_Chain_Empty ta_Digest_Empty ta_Box_Empty ta_Empty_Empty ta_Nil_Empty

theorem Ext.grown (w : World) (k : Nat) (os : Array Obj) : Ext w (Sort.grow (w.drewN k) os) :=
  ⟨rfl, rfl, rfl, by simp, fun i hi => by rw [Sort.heap_grow_old _ _ (by simpa using hi)]; rfl⟩
def TabW (w : World) : Prop := Lib.TabIs Tryd.prog w "internal/strconv.uint64pow10" .u64 Lib.pow10Tab
theorem TabW.later {w w1 : World} (h : TabW w) (he : Ext w w1) : TabW w1 := by
  unfold TabW Lib.TabIs World.var? at h ⊢
  rw [show Tryd.prog.globalNamed "internal/strconv.uint64pow10" = some 0 by kernel_rfl] at h ⊢
  simp only [Option.bind_some] at h ⊢
  rw [he.block _ (by
    rcases Nat.lt_or_ge 0 w.heap.size with h' | h'
    · exact h'
    · rw [Array.getElem?_eq_none h'] at h; cases h)]
  exact h

def num (n : Int) : List UInt8 := if n = -3 then [45, 51] else if n = 1 then [49] else if n = 2 then [50] else []
def Num (n : Int) : Prop := n = -3 ∨ n = 1 ∨ n = 2
theorem num_itoa {w : World} (h : TabW w) : Itoa w Num num := by
  refine ⟨fun n => ?_, fun n hn w' he => ?_⟩
  · unfold num; split
    · simp
    · split
      · simp
      · split <;> simp
  · rcases hn with rfl | rfl | rfl
    · refine (Tryd.strconv_Itoa (-3) (by omega) (by omega) w' (h.later he)).mono ?_
      rintro e w2 ⟨rfl, k, os, rfl⟩
      exact ⟨by rw [show Lib.itoa (-3) = num (-3) by decide +kernel], Ext.grown _ _ _⟩
    · refine (itoa_small 1 (by omega) w').mono ?_
      rintro e w2 ⟨rfl, hE⟩
      exact ⟨by rw [show decS 1 = ⟨(num 1).toArray⟩ by decide +kernel], hE⟩
    · refine (itoa_small 2 (by omega) w').mono ?_
      rintro e w2 ⟨rfl, hE⟩
      exact ⟨by rw [show decS 2 = ⟨(num 2).toArray⟩ by decide +kernel], hE⟩

def tb : Tm := .box (.pub 1) 2 .empty (.atom (-3))
def tc : Tm := .chain 1 tb .non
def ab : Value := .agg #[.iface 23 (.agg #[.int .i64 1]), .int .i64 2, .iface 25 (.agg #[]), .iface 27 (.agg #[.int .i64 (-3)])]
def vb : Value := .iface 31 ab
def ac : Value := .agg #[.int .i64 1, vb, .nilIface]
def vc : Value := .iface 33 ac
theorem tb_val : tb.val = vb := rfl
theorem tc_val : tc.val = vc := rfl
theorem tb_all : tb.all Num := by simp [tb, Tm.all, Num]
theorem tc_all : tc.all Num := by simp [tc, tb, Tm.all, Num]
theorem tb_sz : sz tb = 4 := rfl
theorem tc_sz : sz tc = 6 := rfl

theorem named_of {w : World} (h : TabW w) {t : Tm} (ha : t.all Num) (hs : sz t ≤ 100) : Named num w t :=
  ⟨fun w' h' => name_any trivial t w' ((num_itoa h).later h') ha (by omega), by have := nm_len (num_itoa h).1 t; omega⟩

theorem name_b {w0 : World} (h0 : TabW w0) (w : World) (he : Ext w0 w) : Calls Tryd.prog 6 #[ab] w fun e w' => e = .returned (.string ⟨#[98, 50, 40, 112, 49, 44, 95, 44, 97, 45, 51, 41]⟩) ∧ Ext w w' := by
  have h := h0.later he
  refine (name_box (.pub 1) 2 .empty (.atom (-3)) w (num_itoa h) (by simp [Num]) (named_of h (by simp [Tm.all, Num]) (by decide)) (named_of h (by simp [Tm.all]) (by decide)) (named_of h (by simp [Tm.all, Num]) (by decide))).mono ?_
  rintro e w' ⟨rfl, hE⟩
  exact ⟨by rw [show nm num (.box (.pub 1) 2 .empty (.atom (-3))) = [98, 50, 40, 112, 49, 44, 95, 44, 97, 45, 51, 41] by decide +kernel], hE⟩
theorem name_c {w0 : World} (h0 : TabW w0) (w : World) (he : Ext w0 w) : Calls Tryd.prog 7 #[ac] w fun e w' => e = .returned (.string ⟨#[99, 49, 40, 98, 50, 40, 112, 49, 44, 95, 44, 97, 45, 51, 41, 44, 63, 41]⟩) ∧ Ext w w' := by
  have h := h0.later he
  refine (name_chain 1 tb .non w (num_itoa h) (by simp [Num]) (named_of h tb_all (by decide)) (named_of h (by simp [Tm.all]) (by decide))).mono ?_
  rintro e w' ⟨rfl, hE⟩
  exact ⟨by rw [show nm num (.chain 1 tb .non) = [99, 49, 40, 98, 50, 40, 112, 49, 44, 95, 44, 97, 45, 51, 41, 44, 63, 41] by decide +kernel], hE⟩
theorem name_d {w0 : World} (h0 : TabW w0) (w : World) (he : Ext w0 w) : Calls Tryd.prog 8 #[.agg #[vb, vb]] w fun e w' => e = .returned (.string ⟨#[104, 40, 98, 50, 40, 112, 49, 44, 95, 44, 97, 45, 51, 41, 44, 98, 50, 40, 112, 49, 44, 95, 44, 97, 45, 51, 41, 41]⟩) ∧ Ext w w' := by
  have h := h0.later he
  refine (name_digest tb tb w (named_of h tb_all (by decide)) (named_of h tb_all (by decide))).mono ?_
  rintro e w' ⟨rfl, hE⟩
  exact ⟨by rw [show nm num (.digest tb tb) = [104, 40, 98, 50, 40, 112, 49, 44, 95, 44, 97, 45, 51, 41, 44, 98, 50, 40, 112, 49, 44, 95, 44, 97, 45, 51, 41, 41] by decide +kernel], hE⟩
theorem same_bb {w0 : World} (h0 : TabW w0) (w : World) (he : Ext w0 w) : Calls Tryd.prog 9 #[vb, vb] w fun e w' => e = .returned (.bool true) ∧ Ext w w' := by
  refine (same_any tb tb w (num_itoa (h0.later he)) tb_all tb_all (by decide) (by decide)).mono ?_
  rintro e w' ⟨rfl, hE⟩
  exact ⟨by simp, hE⟩
theorem same_bc {w0 : World} (h0 : TabW w0) (w : World) (he : Ext w0 w) : Calls Tryd.prog 9 #[vb, vc] w fun e w' => e = .returned (.bool false) ∧ Ext w w' := by
  refine (same_any tb tc w (num_itoa (h0.later he)) tb_all tc_all (by decide) (by decide)).mono ?_
  rintro e w' ⟨rfl, hE⟩
  exact ⟨by rw [decide_eq_false (by decide +kernel)], hE⟩
theorem size_c (w : World) : Calls Tryd.prog 11 #[vc] w fun e w' => e = .returned (.int .i64 6) ∧ Ext w w' := Size_any tc w
theorem Dh_no (w : World) : Calls Tryd.prog 4 #[.int .i64 5, .iface 27 (.agg #[.int .i64 3])] w fun e w' => e = .returned (.tuple #[.nilIface, .bool false]) ∧ Ext w w' := by
  go_enter Tryd.func4, Tryd.ntmps4
  go_wp2
  go_ret2
  exact ⟨rfl, by first | exact Ext.refl _ | exact Ext.alloc _ _⟩
theorem must_b (w : World) : Calls Tryd.prog 10 #[vb] w fun e w' => e = .returned ab ∧ Ext w w' := must_box _ _ _ _ _ _ _ w
theorem pan_b (w : World) : Calls Tryd.prog 12 #[vb] w fun e w' => e = .returned (.bool false) ∧ Ext w w' := panics_not vb w fun w => ⟨_, must_b w⟩
theorem pan_c (w : World) : Calls Tryd.prog 12 #[vc] w fun e w' => e = .returned (.bool true) ∧ Ext w w' := panics_is vc w fun w => must_not vc w (by
  obtain ⟨o, ho⟩ := no_box 33 (by decide)
  exact ⟨o, fun w => ho ac w⟩)
theorem pan_n (w : World) : Calls Tryd.prog 12 #[.nilIface] w fun e w' => e = .returned (.bool true) ∧ Ext w w' := panics_is .nilIface w fun w => must_not _ w no_nil


/-- The two blocks of the law. -/
def Rooms (w W : World) (p q : Nat) (u v : Array Value) : Prop :=
  Ext w W ∧ W.heap[p]? = some (.cells u 31 (0, 0)) ∧ W.heap[q]? = some (.cells v 33 (0, 0))
theorem Rooms.later {w W W2 : World} {p q : Nat} {u v : Array Value} (h : Rooms w W p q u v) (he : Ext W W2) : Rooms w W2 p q u v :=
  ⟨h.1.trans he, he.blk h.2.1, he.blk h.2.2⟩
theorem Rooms.new (W : World) (u v : Array Value) : Rooms W ((W.alloc (.cells u 31 (0, 0))).alloc (.cells v 33 (0, 0))) W.heap.size (W.heap.size + 1) u v :=
  ⟨(Ext.alloc _ _).trans (Ext.alloc _ _), (Ext.alloc _ _).blk (blk_new _ _), blk_at (by simp)⟩
theorem size_n (w : World) : Calls Tryd.prog 11 #[.nilIface] w fun e w' => e = .returned (.int .i64 1) ∧ Ext w w' := Size_any .non w

set_option maxHeartbeats 2000000 in
set_option maxRecDepth 100000 in
theorem TermKnown_walk (w : World) (hT : TabW w) : Calls Tryd.prog 3 #[] w fun e w' => e = .returned (.bool true) ∧ Ext w w' := by
  have HT := hid hT
  clear hT
  go_enter Tryd.func3, Tryd.ntmps3
  go_wp2_with fail
  have HR := hid (Rooms.new w #[.iface 23 (.agg #[.int .i64 1]), .int .i64 2, .iface 25 (.agg #[]), .iface 27 (.agg #[.int .i64 (-3)])] #[.int .i64 1, .iface 31 (.agg #[.iface 23 (.agg #[.int .i64 1]), .int .i64 2, .iface 25 (.agg #[]), .iface 27 (.agg #[.int .i64 (-3)])]), .nilIface])
  generalize World.alloc _ _ = W1 at *
  generalize w.heap.size + 1 = q at *
  generalize w.heap.size = p at *
  go_wp2_with fail
  refine (Dh_no _).mono ?_
  rintro e w2 ⟨rfl, hE⟩
  replace HR := hid (HR.out.later hE)
  clear hE
  try clear c0 c1 c2 e0 e1 e2 e3
  have e0 := cell_blk (j := 0) HR.out.2.1 rfl
  have e1 := cell_blk (j := 1) HR.out.2.1 rfl
  have e2 := cell_blk (j := 2) HR.out.2.1 rfl
  have e3 := cell_blk (j := 3) HR.out.2.1 rfl
  have c0 := cell_blk (j := 0) HR.out.2.2 rfl
  have c1 := cell_blk (j := 1) HR.out.2.2 rfl
  have c2 := cell_blk (j := 2) HR.out.2.2 rfl
  go_wp2_with fail
  refine reg_begin 66 (by kernel_rfl) ?_
  generalize hW : World.drew _ = W
  replace HR := hid (by rw [← hW]; exact HR.out.later (Ext.drew _) : Rooms w W p q _ _)
  clear hW e0 e1 e2 e3 c0 c1 c2
  have HE := hid HR.out.1
  have HB0 := hid (cell_blk (j := 0) HR.out.2.1 rfl)
  have HB1 := hid (cell_blk (j := 1) HR.out.2.1 rfl)
  have HB2 := hid (cell_blk (j := 2) HR.out.2.1 rfl)
  have HB3 := hid (cell_blk (j := 3) HR.out.2.1 rfl)
  have HC0 := hid (cell_blk (j := 0) HR.out.2.2 rfl)
  have HC1 := hid (cell_blk (j := 1) HR.out.2.2 rfl)
  have HC2 := hid (cell_blk (j := 2) HR.out.2.2 rfl)
  clear HR
  refine reg_quiet 0 rfl (by kernel_rfl) (by kernel_rfl) ?_
  apply Exists.intro
  refine ⟨fun w' hw' => ?_, ?_⟩
  · go_simp
    exact known12 w'
  refine reg_quiet 1 rfl (by kernel_rfl) (by kernel_rfl) ?_
  apply Exists.intro
  refine ⟨fun w' hw' => ?_, ?_⟩
  · go_simp
    exact ⟨rfl, Ext.refl _⟩
  refine reg_quiet 2 rfl (by kernel_rfl) (by kernel_rfl) ?_
  apply Exists.intro
  refine ⟨fun w' hw' => ?_, ?_⟩
  · have q0 := hw'.cell HB0.out; have q1 := hw'.cell HB1.out; have q2 := hw'.cell HB2.out; have q3 := hw'.cell HB3.out
    go_simp
    exact ⟨rfl, Ext.refl _⟩
  refine reg_quiet 3 rfl (by kernel_rfl) (by kernel_rfl) ?_
  apply Exists.intro
  refine ⟨fun w' hw' => ?_, ?_⟩
  · go_simp
    exact name_b HT.out w' (HE.out.trans hw')
  refine reg_quiet 4 rfl (by kernel_rfl) (by kernel_rfl) ?_
  apply Exists.intro
  refine ⟨fun w' hw' => ?_, ?_⟩
  · go_simp
    exact ⟨rfl, Ext.refl _⟩
  refine reg_quiet 5 rfl (by kernel_rfl) (by kernel_rfl) ?_
  apply Exists.intro
  refine ⟨fun w' hw' => ?_, ?_⟩
  · go_simp
    exact ⟨rfl, Ext.refl _⟩
  refine reg_quiet 6 rfl (by kernel_rfl) (by kernel_rfl) ?_
  apply Exists.intro
  refine ⟨fun w' hw' => ?_, ?_⟩
  · go_simp
    exact ⟨rfl, Ext.refl _⟩
  refine reg_quiet 7 rfl (by kernel_rfl) (by kernel_rfl) ?_
  apply Exists.intro
  refine ⟨fun w' hw' => ?_, ?_⟩
  · have q0 := hw'.cell HC0.out; have q1 := hw'.cell HC1.out; have q2 := hw'.cell HC2.out
    go_simp
    exact ⟨rfl, Ext.refl _⟩
  refine reg_quiet 8 rfl (by kernel_rfl) (by kernel_rfl) ?_
  apply Exists.intro
  refine ⟨fun w' hw' => ?_, ?_⟩
  · go_simp
    exact name_c HT.out w' (HE.out.trans hw')
  refine reg_quiet 9 rfl (by kernel_rfl) (by kernel_rfl) ?_
  apply Exists.intro
  refine ⟨fun w' hw' => ?_, ?_⟩
  · go_simp
    exact ⟨rfl, Ext.refl _⟩
  refine reg_quiet 10 rfl (by kernel_rfl) (by kernel_rfl) ?_
  apply Exists.intro
  refine ⟨fun w' hw' => ?_, ?_⟩
  · go_simp
    exact ⟨rfl, Ext.refl _⟩
  refine reg_quiet 11 rfl (by kernel_rfl) (by kernel_rfl) ?_
  apply Exists.intro
  refine ⟨fun w' hw' => ?_, ?_⟩
  · go_simp
    exact ⟨rfl, Ext.refl _⟩
  refine reg_quiet 12 rfl (by kernel_rfl) (by kernel_rfl) ?_
  apply Exists.intro
  refine ⟨fun w' hw' => ?_, ?_⟩
  · have q0 := hw'.cell HB0.out; have q1 := hw'.cell HB1.out; have q2 := hw'.cell HB2.out; have q3 := hw'.cell HB3.out
    go_simp
    exact ⟨rfl, Ext.refl _⟩
  refine reg_quiet 13 rfl (by kernel_rfl) (by kernel_rfl) ?_
  apply Exists.intro
  refine ⟨fun w' hw' => ?_, ?_⟩
  · go_simp
    exact ⟨rfl, Ext.refl _⟩
  refine reg_quiet 14 rfl (by kernel_rfl) (by kernel_rfl) ?_
  apply Exists.intro
  refine ⟨fun w' hw' => ?_, ?_⟩
  · have q0 := hw'.cell HB0.out; have q1 := hw'.cell HB1.out; have q2 := hw'.cell HB2.out; have q3 := hw'.cell HB3.out
    go_simp
    exact ⟨rfl, Ext.refl _⟩
  refine reg_quiet 15 rfl (by kernel_rfl) (by kernel_rfl) ?_
  apply Exists.intro
  refine ⟨fun w' hw' => ?_, ?_⟩
  · go_simp
    exact ⟨rfl, Ext.refl _⟩
  refine reg_quiet 16 rfl (by kernel_rfl) (by kernel_rfl) ?_
  apply Exists.intro
  refine ⟨fun w' hw' => ?_, ?_⟩
  · go_simp
    exact ⟨rfl, Ext.refl _⟩
  refine reg_quiet 17 rfl (by kernel_rfl) (by kernel_rfl) ?_
  apply Exists.intro
  refine ⟨fun w' hw' => ?_, ?_⟩
  · go_simp
    exact name_d HT.out w' (HE.out.trans hw')
  refine reg_quiet 18 rfl (by kernel_rfl) (by kernel_rfl) ?_
  apply Exists.intro
  refine ⟨fun w' hw' => ?_, ?_⟩
  · go_simp
    exact ⟨rfl, Ext.refl _⟩
  refine reg_quiet 19 rfl (by kernel_rfl) (by kernel_rfl) ?_
  apply Exists.intro
  refine ⟨fun w' hw' => ?_, ?_⟩
  · go_simp
    exact ⟨rfl, Ext.refl _⟩
  refine reg_quiet 20 rfl (by kernel_rfl) (by kernel_rfl) ?_
  apply Exists.intro
  refine ⟨fun w' hw' => ?_, ?_⟩
  · go_simp
    exact ⟨rfl, Ext.refl _⟩
  refine reg_quiet 21 rfl (by kernel_rfl) (by kernel_rfl) ?_
  apply Exists.intro
  refine ⟨fun w' hw' => ?_, ?_⟩
  · go_simp
    exact ⟨rfl, Ext.refl _⟩
  refine reg_quiet 22 rfl (by kernel_rfl) (by kernel_rfl) ?_
  apply Exists.intro
  refine ⟨fun w' hw' => ?_, ?_⟩
  · go_simp
    exact ⟨rfl, Ext.refl _⟩
  refine reg_quiet 23 rfl (by kernel_rfl) (by kernel_rfl) ?_
  apply Exists.intro
  refine ⟨fun w' hw' => ?_, ?_⟩
  · go_simp
    exact ⟨rfl, Ext.refl _⟩
  refine reg_quiet 24 rfl (by kernel_rfl) (by kernel_rfl) ?_
  apply Exists.intro
  refine ⟨fun w' hw' => ?_, ?_⟩
  · go_simp
    exact ⟨rfl, Ext.refl _⟩
  refine reg_quiet 25 rfl (by kernel_rfl) (by kernel_rfl) ?_
  apply Exists.intro
  refine ⟨fun w' hw' => ?_, ?_⟩
  · have q0 := hw'.cell HB0.out; have q1 := hw'.cell HB1.out; have q2 := hw'.cell HB2.out; have q3 := hw'.cell HB3.out
    go_simp
    exact ⟨rfl, Ext.refl _⟩
  refine reg_quiet 26 rfl (by kernel_rfl) (by kernel_rfl) ?_
  apply Exists.intro
  refine ⟨fun w' hw' => ?_, ?_⟩
  · go_simp
    exact ⟨rfl, Ext.refl _⟩
  refine reg_quiet 27 rfl (by kernel_rfl) (by kernel_rfl) ?_
  apply Exists.intro
  refine ⟨fun w' hw' => ?_, ?_⟩
  · have q0 := hw'.cell HB0.out; have q1 := hw'.cell HB1.out; have q2 := hw'.cell HB2.out; have q3 := hw'.cell HB3.out
    go_simp
    exact ⟨rfl, Ext.refl _⟩
  refine reg_quiet 28 rfl (by kernel_rfl) (by kernel_rfl) ?_
  apply Exists.intro
  refine ⟨fun w' hw' => ?_, ?_⟩
  · go_simp
    exact ⟨rfl, Ext.refl _⟩
  refine reg_quiet 29 rfl (by kernel_rfl) (by kernel_rfl) ?_
  apply Exists.intro
  refine ⟨fun w' hw' => ?_, ?_⟩
  · go_simp
    exact must_b w'
  refine reg_quiet 30 rfl (by kernel_rfl) (by kernel_rfl) ?_
  apply Exists.intro
  refine ⟨fun w' hw' => ?_, ?_⟩
  · go_simp
    exact ⟨rfl, Ext.refl _⟩
  refine reg_quiet 31 rfl (by kernel_rfl) (by kernel_rfl) ?_
  apply Exists.intro
  refine ⟨fun w' hw' => ?_, ?_⟩
  · go_simp
    exact same_bb HT.out w' (HE.out.trans hw')
  refine reg_quiet 32 rfl (by kernel_rfl) (by kernel_rfl) ?_
  apply Exists.intro
  refine ⟨fun w' hw' => ?_, ?_⟩
  · go_simp
    exact ⟨rfl, Ext.refl _⟩
  refine reg_quiet 33 rfl (by kernel_rfl) (by kernel_rfl) ?_
  apply Exists.intro
  refine ⟨fun w' hw' => ?_, ?_⟩
  · go_simp
    exact ⟨rfl, Ext.refl _⟩
  refine reg_quiet 34 rfl (by kernel_rfl) (by kernel_rfl) ?_
  apply Exists.intro
  refine ⟨fun w' hw' => ?_, ?_⟩
  · have q0 := hw'.cell HB0.out; have q1 := hw'.cell HB1.out; have q2 := hw'.cell HB2.out; have q3 := hw'.cell HB3.out
    go_simp
    exact ⟨rfl, Ext.refl _⟩
  refine reg_quiet 35 rfl (by kernel_rfl) (by kernel_rfl) ?_
  apply Exists.intro
  refine ⟨fun w' hw' => ?_, ?_⟩
  · go_simp
    exact ⟨rfl, Ext.refl _⟩
  refine reg_quiet 36 rfl (by kernel_rfl) (by kernel_rfl) ?_
  apply Exists.intro
  refine ⟨fun w' hw' => ?_, ?_⟩
  · have q0 := hw'.cell HC0.out; have q1 := hw'.cell HC1.out; have q2 := hw'.cell HC2.out
    go_simp
    exact ⟨rfl, Ext.refl _⟩
  refine reg_quiet 37 rfl (by kernel_rfl) (by kernel_rfl) ?_
  apply Exists.intro
  refine ⟨fun w' hw' => ?_, ?_⟩
  · go_simp
    exact ⟨rfl, Ext.refl _⟩
  refine reg_quiet 38 rfl (by kernel_rfl) (by kernel_rfl) ?_
  apply Exists.intro
  refine ⟨fun w' hw' => ?_, ?_⟩
  · go_simp
    exact same_bc HT.out w' (HE.out.trans hw')
  refine reg_quiet 39 rfl (by kernel_rfl) (by kernel_rfl) ?_
  apply Exists.intro
  refine ⟨fun w' hw' => ?_, ?_⟩
  · go_simp
    exact ⟨rfl, Ext.refl _⟩
  refine reg_quiet 40 rfl (by kernel_rfl) (by kernel_rfl) ?_
  apply Exists.intro
  refine ⟨fun w' hw' => ?_, ?_⟩
  · go_simp
    exact ⟨rfl, Ext.refl _⟩
  refine reg_quiet 41 rfl (by kernel_rfl) (by kernel_rfl) ?_
  apply Exists.intro
  refine ⟨fun w' hw' => ?_, ?_⟩
  · go_simp
    exact ⟨rfl, Ext.refl _⟩
  refine reg_quiet 42 rfl (by kernel_rfl) (by kernel_rfl) ?_
  apply Exists.intro
  refine ⟨fun w' hw' => ?_, ?_⟩
  · have q0 := hw'.cell HC0.out; have q1 := hw'.cell HC1.out; have q2 := hw'.cell HC2.out
    go_simp
    exact ⟨rfl, Ext.refl _⟩
  refine reg_quiet 43 rfl (by kernel_rfl) (by kernel_rfl) ?_
  apply Exists.intro
  refine ⟨fun w' hw' => ?_, ?_⟩
  · go_simp
    exact ⟨rfl, Ext.refl _⟩
  refine reg_quiet 44 rfl (by kernel_rfl) (by kernel_rfl) ?_
  apply Exists.intro
  refine ⟨fun w' hw' => ?_, ?_⟩
  · go_simp
    exact size_c w'
  refine reg_quiet 45 rfl (by kernel_rfl) (by kernel_rfl) ?_
  apply Exists.intro
  refine ⟨fun w' hw' => ?_, ?_⟩
  · go_simp
    exact ⟨rfl, Ext.refl _⟩
  refine reg_quiet 46 rfl (by kernel_rfl) (by kernel_rfl) ?_
  apply Exists.intro
  refine ⟨fun w' hw' => ?_, ?_⟩
  · go_simp
    exact ⟨rfl, Ext.refl _⟩
  refine reg_quiet 47 rfl (by kernel_rfl) (by kernel_rfl) ?_
  apply Exists.intro
  refine ⟨fun w' hw' => ?_, ?_⟩
  · go_simp
    exact ⟨rfl, Ext.refl _⟩
  refine reg_quiet 48 rfl (by kernel_rfl) (by kernel_rfl) ?_
  apply Exists.intro
  refine ⟨fun w' hw' => ?_, ?_⟩
  · have q0 := hw'.cell HC0.out; have q1 := hw'.cell HC1.out; have q2 := hw'.cell HC2.out
    go_simp
    exact ⟨rfl, Ext.refl _⟩
  refine reg_quiet 49 rfl (by kernel_rfl) (by kernel_rfl) ?_
  apply Exists.intro
  refine ⟨fun w' hw' => ?_, ?_⟩
  · go_simp
    exact ⟨rfl, Ext.refl _⟩
  refine reg_quiet 50 rfl (by kernel_rfl) (by kernel_rfl) ?_
  apply Exists.intro
  refine ⟨fun w' hw' => ?_, ?_⟩
  · go_simp
    exact pan_c w'
  refine reg_quiet 51 rfl (by kernel_rfl) (by kernel_rfl) ?_
  apply Exists.intro
  refine ⟨fun w' hw' => ?_, ?_⟩
  · go_simp
    exact ⟨rfl, Ext.refl _⟩
  refine reg_quiet 52 rfl (by kernel_rfl) (by kernel_rfl) ?_
  apply Exists.intro
  refine ⟨fun w' hw' => ?_, ?_⟩
  · go_simp
    exact ⟨rfl, Ext.refl _⟩
  refine reg_quiet 53 rfl (by kernel_rfl) (by kernel_rfl) ?_
  apply Exists.intro
  refine ⟨fun w' hw' => ?_, ?_⟩
  · go_simp
    exact pan_n w'
  refine reg_quiet 54 rfl (by kernel_rfl) (by kernel_rfl) ?_
  apply Exists.intro
  refine ⟨fun w' hw' => ?_, ?_⟩
  · go_simp
    exact ⟨rfl, Ext.refl _⟩
  refine reg_quiet 55 rfl (by kernel_rfl) (by kernel_rfl) ?_
  apply Exists.intro
  refine ⟨fun w' hw' => ?_, ?_⟩
  · go_simp
    exact ⟨rfl, Ext.refl _⟩
  refine reg_quiet 56 rfl (by kernel_rfl) (by kernel_rfl) ?_
  apply Exists.intro
  refine ⟨fun w' hw' => ?_, ?_⟩
  · have q0 := hw'.cell HB0.out; have q1 := hw'.cell HB1.out; have q2 := hw'.cell HB2.out; have q3 := hw'.cell HB3.out
    go_simp
    exact ⟨rfl, Ext.refl _⟩
  refine reg_quiet 57 rfl (by kernel_rfl) (by kernel_rfl) ?_
  apply Exists.intro
  refine ⟨fun w' hw' => ?_, ?_⟩
  · go_simp
    exact ⟨rfl, Ext.refl _⟩
  refine reg_quiet 58 rfl (by kernel_rfl) (by kernel_rfl) ?_
  apply Exists.intro
  refine ⟨fun w' hw' => ?_, ?_⟩
  · go_simp
    exact pan_b w'
  refine reg_quiet 59 rfl (by kernel_rfl) (by kernel_rfl) ?_
  apply Exists.intro
  refine ⟨fun w' hw' => ?_, ?_⟩
  · go_simp
    exact ⟨rfl, Ext.refl _⟩
  refine reg_quiet 60 rfl (by kernel_rfl) (by kernel_rfl) ?_
  apply Exists.intro
  refine ⟨fun w' hw' => ?_, ?_⟩
  · go_simp
    exact ⟨rfl, Ext.refl _⟩
  refine reg_quiet 61 rfl (by kernel_rfl) (by kernel_rfl) ?_
  apply Exists.intro
  refine ⟨fun w' hw' => ?_, ?_⟩
  · go_simp
    exact ⟨rfl, Ext.refl _⟩
  refine reg_quiet 62 rfl (by kernel_rfl) (by kernel_rfl) ?_
  apply Exists.intro
  refine ⟨fun w' hw' => ?_, ?_⟩
  · go_simp
    exact size_n w'
  refine reg_quiet 63 rfl (by kernel_rfl) (by kernel_rfl) ?_
  apply Exists.intro
  refine ⟨fun w' hw' => ?_, ?_⟩
  · go_simp
    exact ⟨rfl, Ext.refl _⟩
  refine reg_quiet 64 rfl (by kernel_rfl) (by kernel_rfl) ?_
  apply Exists.intro
  refine ⟨fun w' hw' => ?_, ?_⟩
  · go_simp
    exact ⟨rfl, Ext.refl _⟩
  refine reg_quiet 65 rfl (by kernel_rfl) (by kernel_rfl) ?_
  apply Exists.intro
  refine ⟨fun w' hw' => ?_, ?_⟩
  · go_simp
    exact ⟨rfl, Ext.refl _⟩
  refine reg_done (by kernel_rfl) (fun w' hw' => ?_) _
  go_simp
  go_wp2
  go_ret
  exact ⟨rfl, HE.out.trans hw'⟩

end Go.Proofs.YtiaghfgkhmlgmaaDoor
