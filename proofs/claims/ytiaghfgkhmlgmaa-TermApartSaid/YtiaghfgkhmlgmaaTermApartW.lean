/-
  The walk of TermApart: terms that are made unlike have unlike names.
-/
import Derived.Test.YtiaghfgkhmlgmaaSizes0
import Derived.Test.YtiaghfgkhmlgmaaKnown
import Derived.Test.YtiaghfgkhmlgmaaTerms
import Derived.Test.YtiaghfgkhmlgmaaPlain
import Derived.Test.YtiaghfgkhmlgmaaTermSizesW
namespace Go.Proofs.Ytiaghfgkhmlgmaa
open Go Go.RowKit
attribute [local go_sem] extUpon run_store_tm
attribute [local go_sem ↓] Tm.val_cell eval_put_ne eval_put_none eval_put_same size_put eval_const
attribute [local go_sem ↓] meth_Atom meth_Public meth_Shared meth_Chain meth_Digest meth_Box meth_Empty
attribute [local go_sem ↓] run_build_chain run_build_digest run_build_box
attribute [local go_sem] ta_Atom_Atom ta_Public_Atom ta_Shared_Atom ta_Chain_Atom ta_Digest_Atom ta_Box_Atom ta_Empty_Atom ta_Nil_Atom ta_Atom_Public ta_Public_Public ta_Shared_Public ta_Chain_Public ta_Digest_Public ta_Box_Public ta_Empty_Public ta_Nil_Public ta_Atom_Shared ta_Public_Shared ta_Shared_Shared ta_Chain_Shared ta_Digest_Shared ta_Box_Shared ta_Empty_Shared ta_Nil_Shared ta_Atom_Chain ta_Public_Chain ta_Shared_Chain ta_Chain_Chain ta_Digest_Chain ta_Box_Chain ta_Empty_Chain ta_Nil_Chain ta_Atom_Digest ta_Public_Digest ta_Shared_Digest ta_Chain_Digest ta_Digest_Digest ta_Box_Digest ta_Empty_Digest ta_Nil_Digest ta_Atom_Box ta_Public_Box ta_Shared_Box ta_Chain_Box ta_Digest_Box ta_Box_Box ta_Empty_Box ta_Nil_Box ta_Atom_Empty ta_Public_Empty ta_Shared_Empty ta_Chain_Empty ta_Digest_Empty ta_Box_Empty ta_Empty_Empty ta_Nil_Empty

/-- Are two values, that are terms', the same? -/
theorem same_val {R : Int → Prop} {f : Int → List UInt8} {w0 : World} (hI : Itoa w0 R f) {x y : Tm} {vx vy : Value} {b : Bool} (hx : x.val = vx) (hy : y.val = vy) (ax : x.all R) (ay : y.all R) (sx : sz x ≤ 10000) (sy : sz y ≤ 10000) (hb : decide (nm f x = nm f y) = b) :
    ∀ w, Ext w0 w → Calls Try.prog 10 #[vx, vy] w fun e w' => e = .returned (.bool b) ∧ Ext w w' := by
  intro w he
  subst hx hy hb
  exact same_any x y w (hI.later he) ax ay sx sy

/-- The four blocks of the law. -/
def Rooms (w W : World) (p q r s : Nat) (u v x y : Array Value) : Prop :=
  Ext w W ∧ W.heap[p]? = some (.cells u 29 (0, 0)) ∧ W.heap[q]? = some (.cells v 31 (0, 0)) ∧ W.heap[r]? = some (.cells x 33 (0, 0)) ∧ W.heap[s]? = some (.cells y 33 (0, 0))
theorem Rooms.later {w W W2 : World} {p q r s : Nat} {u v x y : Array Value} (h : Rooms w W p q r s u v x y) (he : Ext W W2) : Rooms w W2 p q r s u v x y :=
  ⟨h.1.trans he, he.blk h.2.1, he.blk h.2.2.1, he.blk h.2.2.2.1, he.blk h.2.2.2.2⟩
theorem Rooms.new {w W : World} (h : Ext w W) (u v x y : Array Value) : Rooms w ((((W.alloc (.cells u 29 (0, 0))).alloc (.cells v 31 (0, 0))).alloc (.cells x 33 (0, 0))).alloc (.cells y 33 (0, 0))) W.heap.size (W.heap.size + 1) (W.heap.size + 1 + 1) (W.heap.size + 1 + 1 + 1) u v x y :=
  ⟨(((h.trans (Ext.alloc _ _)).trans (Ext.alloc _ _)).trans (Ext.alloc _ _)).trans (Ext.alloc _ _),
    (Ext.alloc _ _).blk ((Ext.alloc _ _).blk ((Ext.alloc _ _).blk (blk_new _ _))), (Ext.alloc _ _).blk ((Ext.alloc _ _).blk (blk_at (by simp))), (Ext.alloc _ _).blk (blk_at (by simp)), blk_at (by simp)⟩

set_option maxHeartbeats 2000000 in
set_option maxRecDepth 100000 in
theorem TermApart_walk (T : Nat → Int) (av : Option Addr) (cap : Nat) (l : List Raw) (a b c : Int) (w : World) (hT : TabAt w T) (hl : l.length ≤ 9223372036854775807) (hr : RawAt w av l) :
    Calls Try.prog 3 #[.slice av l.length cap, .int .i64 a, .int .i64 b, .int .i64 c] w fun e w' => e = .returned (.bool true) ∧ Ext w w' := by
  have HT := hid (Terms_any av cap l w hl hr)
  obtain ⟨hn0, hn1⟩ := terms_len l
  have hne := terms_ne l
  have hsz := terms_sz l
  have hal := terms_all l
  clear hr hl
  generalize terms l = ts at *
  obtain ⟨i, hi, hi'⟩ := idx_of a ts.length hn0
  obtain ⟨j, hj, hj'⟩ := idx_of b ts.length hn0
  obtain ⟨k, hk, hk'⟩ : ∃ k : Nat, c % 100 = (k : Int) ∧ k < 100 := idx_of c 100 (by decide)
  have hx := hne _ (List.getElem_mem hi'); have hy := hne _ (List.getElem_mem hj')
  have sx := hsz _ (List.getElem_mem hi'); have sy := hsz _ (List.getElem_mem hj')
  have ax := hal _ (List.getElem_mem hi'); have ay := hal _ (List.getElem_mem hj')
  have hgx : ts[i]? = some ts[i] := List.getElem?_eq_getElem hi'
  have hgy : ts[j]? = some ts[j] := List.getElem?_eq_getElem hj'
  generalize ts[i] = x at *
  generalize ts[j] = y at *
  have px := sz_pos x; have py := sz_pos y
  obtain ⟨ux, vx, hvx⟩ := Tm.val_iface hx
  obtain ⟨uy, vy, hvy⟩ := Tm.val_iface hy
  have hI := itoa_tab hT
  have hd := itoaT_dig T
  have hk1 : Small (k : Int) := by unfold Small; omega
  have hk2 : Small (1 + (k : Int)) := by unfold Small; omega
  have hk3 : Small (2 + (k : Int)) := by unfold Small; omega
  have hk4 : Small ((k : Int) + 1) := by unfold Small; omega
  have n1 : itoaT T (1 + (k : Int)) ≠ itoaT T (2 + (k : Int)) := by
    have := itoaT_next T (1 + (k : Int)) (by omega) (by omega)
    rwa [show 1 + (k : Int) + 1 = 2 + (k : Int) by omega] at this
  have n2 : itoaT T (k : Int) ≠ itoaT T ((k : Int) + 1) := itoaT_next T k (by omega) (by omega)
  have hsame : ∃ sm : Bool, decide (nm (itoaT T) x = nm (itoaT T) y) = sm := ⟨_, rfl⟩
  obtain ⟨sm, hsm⟩ := hsame
  have vc : (Tm.chain (1 + (k : Int)) x y).val = .iface 29 (.agg #[.int .i64 (1 + (k : Int)), .iface ux vx, .iface uy vy]) := by simp [Tm.val, hvx, hvy]
  have vc2 : (Tm.chain (2 + (k : Int)) x y).val = .iface 29 (.agg #[.int .i64 (2 + (k : Int)), .iface ux vx, .iface uy vy]) := by simp [Tm.val, hvx, hvy]
  have vd : (Tm.digest x y).val = .iface 31 (.agg #[.iface ux vx, .iface uy vy]) := by simp [Tm.val, hvx, hvy]
  have vd2 : (Tm.digest y x).val = .iface 31 (.agg #[.iface uy vy, .iface ux vx]) := by simp [Tm.val, hvx, hvy]
  have ve : (Tm.box x (k : Int) y x).val = .iface 33 (.agg #[.iface ux vx, .int .i64 (k : Int), .iface uy vy, .iface ux vx]) := by simp [Tm.val, hvx, hvy]
  have vf : (Tm.box x (k : Int) x y).val = .iface 33 (.agg #[.iface ux vx, .int .i64 (k : Int), .iface ux vx, .iface uy vy]) := by simp [Tm.val, hvx, hvy]
  have ve2 : (Tm.box x ((k : Int) + 1) y x).val = .iface 33 (.agg #[.iface ux vx, .int .i64 ((k : Int) + 1), .iface uy vy, .iface ux vx]) := by simp [Tm.val, hvx, hvy]
  have zc : ∀ i, sz (.chain i x y) ≤ 10000 := fun i => by simp only [sz]; omega
  have zd : sz (.digest x y) ≤ 10000 := by simp only [sz]; omega
  have zd2 : sz (.digest y x) ≤ 10000 := by simp only [sz]; omega
  have ze : ∀ i, sz (.box x i y x) ≤ 10000 := fun i => by simp only [sz]; omega
  have zf : sz (.box x k x y) ≤ 10000 := by simp only [sz]; omega
  have S0 := hid (same_val hI hvx hvy ax ay (by omega) (by omega) hsm)
  have S1 := hid (same_val hI vc vd ⟨hk2, ax, ay⟩ ⟨ax, ay⟩ (zc _) zd (decide_eq_false (apart_cd _ _ _ _ _)))
  have S2 := hid (same_val hI vd ve ⟨ax, ay⟩ ⟨hk1, ax, ay, ax⟩ zd (ze _) (decide_eq_false (apart_db _ _ _ _ _ _)))
  have S3 := hid (same_val hI vc vc2 ⟨hk2, ax, ay⟩ ⟨hk3, ax, ay⟩ (zc _) (zc _) (decide_eq_false (apart_cc hd hk2 hk3 n1 _ _)))
  have S4 := hid (same_val hI ve vf ⟨hk1, ax, ay, ax⟩ ⟨hk1, ax, ax, ay⟩ (ze _) zf ((decide_eq_decide.2 (apart_bb hd ax ay _)).trans hsm))
  have S5 := hid (same_val hI vd vd2 ⟨ax, ay⟩ ⟨ay, ax⟩ zd zd2 ((decide_eq_decide.2 (apart_dd hd ax ay)).trans hsm))
  have S6 := hid (same_val hI ve ve2 ⟨hk1, ax, ay, ax⟩ ⟨hk4, ax, ay, ax⟩ (ze _) (ze _) (decide_eq_false (apart_bn hd hk1 hk4 n2 _ _ _)))
  have S7 := hid (same_val hI vc hvx ⟨hk2, ax, ay⟩ ax (zc _) (by omega) (decide_eq_false (apart_cx _ _ _)))
  have S8 := hid (same_val hI vd hvy ⟨ax, ay⟩ ay zd (by omega) (decide_eq_false (apart_dy _ _)))
  have HI := hid hi; have HJ := hid hj; have HK := hid hk
  have HGX := hid hgx; have HGY := hid hgy
  have HVX := hid hvx; have HVY := hid hvy
  clear hi hj hk hgx hgy hvx hvy hx hy hne hsz hal hI hd hk1 hk2 hk3 hk4 n1 n2 hsm vc vc2 vd vd2 ve vf ve2 zc zd zd2 ze zf ax ay hT sx sy px py
  go_enter Try.func3, Try.ntmps3
  go_wp2_with fail
  refine HT.out.mono ?_
  rintro e w1 ⟨v, rfl, hown, hE1⟩
  obtain ⟨g, cap2, hv, hg⟩ := hown.form hn0
  subst hv
  have cx : w1.cell? ⟨g, i, none⟩ = some (.iface ux vx) := own_ints_at hown i hi' _ (by simp [HGX.out, HVX.out])
  have cy : w1.cell? ⟨g, j, none⟩ = some (.iface uy vy) := own_ints_at hown j hj' _ (by simp [HGY.out, HVY.out])
  have HE1 := hid hE1
  clear hown hg hE1 HT
  have ii : (i : Int) < (ts.length : Int) := by omega
  have jj : (j : Int) < (ts.length : Int) := by omega
  generalize ts.length = n at *
  go_wp2_with fail
  refine (pick_any _ _ _ (by omega) (by omega)).mono ?_
  rintro e w' ⟨rfl, rfl⟩
  rw [HI.out]
  go_wp2_with fail
  refine (pick_any _ _ _ (by omega) (by omega)).mono ?_
  rintro e w' ⟨rfl, rfl⟩
  rw [HJ.out]
  go_wp2_with fail
  refine (pick_any _ _ _ (by omega) (by omega)).mono ?_
  rintro e w' ⟨rfl, rfl⟩
  rw [HK.out]
  clear cx cy
  go_wp2_with fail
  have HR := hid (Rooms.new HE1.out #[.int .i64 (1 + (k : Int)), .iface ux vx, .iface uy vy] #[.iface ux vx, .iface uy vy] #[.iface ux vx, .int .i64 (k : Int), .iface uy vy, .iface ux vx] #[.iface ux vx, .int .i64 (k : Int), .iface ux vx, .iface uy vy])
  generalize World.alloc _ _ = W1 at *
  generalize w1.heap.size + 1 + 1 + 1 = p3 at *
  generalize w1.heap.size + 1 + 1 = p2 at *
  generalize w1.heap.size + 1 = p1 at *
  generalize w1.heap.size = p0 at *
  go_wp2_with fail
  refine (S0.out _ HR.out.1).mono ?_
  rintro e w2 ⟨rfl, hE⟩
  replace HR := hid (HR.out.later hE)
  clear hE
  try clear c0 c1 c2 d0 d1 e0 e1 e2 e3 f0 f1 f2 f3
  have c0 := cell_blk (j := 0) HR.out.2.1 rfl
  have c1 := cell_blk (j := 1) HR.out.2.1 rfl
  have c2 := cell_blk (j := 2) HR.out.2.1 rfl
  have d0 := cell_blk (j := 0) HR.out.2.2.1 rfl
  have d1 := cell_blk (j := 1) HR.out.2.2.1 rfl
  have e0 := cell_blk (j := 0) HR.out.2.2.2.1 rfl
  have e1 := cell_blk (j := 1) HR.out.2.2.2.1 rfl
  have e2 := cell_blk (j := 2) HR.out.2.2.2.1 rfl
  have e3 := cell_blk (j := 3) HR.out.2.2.2.1 rfl
  have f0 := cell_blk (j := 0) HR.out.2.2.2.2 rfl
  have f1 := cell_blk (j := 1) HR.out.2.2.2.2 rfl
  have f2 := cell_blk (j := 2) HR.out.2.2.2.2 rfl
  have f3 := cell_blk (j := 3) HR.out.2.2.2.2 rfl
  have SK := hid (fun w' (_ : Ext w w') => known12 w')
  go_wp2_with fail
  refine (SK.out _ HR.out.1).mono ?_
  rintro e w2 ⟨rfl, hE⟩
  replace HR := hid (HR.out.later hE)
  clear hE
  try clear c0 c1 c2 d0 d1 e0 e1 e2 e3 f0 f1 f2 f3
  have c0 := cell_blk (j := 0) HR.out.2.1 rfl
  have c1 := cell_blk (j := 1) HR.out.2.1 rfl
  have c2 := cell_blk (j := 2) HR.out.2.1 rfl
  have d0 := cell_blk (j := 0) HR.out.2.2.1 rfl
  have d1 := cell_blk (j := 1) HR.out.2.2.1 rfl
  have e0 := cell_blk (j := 0) HR.out.2.2.2.1 rfl
  have e1 := cell_blk (j := 1) HR.out.2.2.2.1 rfl
  have e2 := cell_blk (j := 2) HR.out.2.2.2.1 rfl
  have e3 := cell_blk (j := 3) HR.out.2.2.2.1 rfl
  have f0 := cell_blk (j := 0) HR.out.2.2.2.2 rfl
  have f1 := cell_blk (j := 1) HR.out.2.2.2.2 rfl
  have f2 := cell_blk (j := 2) HR.out.2.2.2.2 rfl
  have f3 := cell_blk (j := 3) HR.out.2.2.2.2 rfl
  go_wp2_with fail
  refine (S1.out _ HR.out.1).mono ?_
  rintro e w2 ⟨rfl, hE⟩
  replace HR := hid (HR.out.later hE)
  clear hE
  try clear c0 c1 c2 d0 d1 e0 e1 e2 e3 f0 f1 f2 f3
  have c0 := cell_blk (j := 0) HR.out.2.1 rfl
  have c1 := cell_blk (j := 1) HR.out.2.1 rfl
  have c2 := cell_blk (j := 2) HR.out.2.1 rfl
  have d0 := cell_blk (j := 0) HR.out.2.2.1 rfl
  have d1 := cell_blk (j := 1) HR.out.2.2.1 rfl
  have e0 := cell_blk (j := 0) HR.out.2.2.2.1 rfl
  have e1 := cell_blk (j := 1) HR.out.2.2.2.1 rfl
  have e2 := cell_blk (j := 2) HR.out.2.2.2.1 rfl
  have e3 := cell_blk (j := 3) HR.out.2.2.2.1 rfl
  have f0 := cell_blk (j := 0) HR.out.2.2.2.2 rfl
  have f1 := cell_blk (j := 1) HR.out.2.2.2.2 rfl
  have f2 := cell_blk (j := 2) HR.out.2.2.2.2 rfl
  have f3 := cell_blk (j := 3) HR.out.2.2.2.2 rfl
  go_wp2_with fail
  refine (S2.out _ HR.out.1).mono ?_
  rintro e w2 ⟨rfl, hE⟩
  replace HR := hid (HR.out.later hE)
  clear hE
  try clear c0 c1 c2 d0 d1 e0 e1 e2 e3 f0 f1 f2 f3
  have c0 := cell_blk (j := 0) HR.out.2.1 rfl
  have c1 := cell_blk (j := 1) HR.out.2.1 rfl
  have c2 := cell_blk (j := 2) HR.out.2.1 rfl
  have d0 := cell_blk (j := 0) HR.out.2.2.1 rfl
  have d1 := cell_blk (j := 1) HR.out.2.2.1 rfl
  have e0 := cell_blk (j := 0) HR.out.2.2.2.1 rfl
  have e1 := cell_blk (j := 1) HR.out.2.2.2.1 rfl
  have e2 := cell_blk (j := 2) HR.out.2.2.2.1 rfl
  have e3 := cell_blk (j := 3) HR.out.2.2.2.1 rfl
  have f0 := cell_blk (j := 0) HR.out.2.2.2.2 rfl
  have f1 := cell_blk (j := 1) HR.out.2.2.2.2 rfl
  have f2 := cell_blk (j := 2) HR.out.2.2.2.2 rfl
  have f3 := cell_blk (j := 3) HR.out.2.2.2.2 rfl
  go_wp2_with fail
  refine (S3.out _ HR.out.1).mono ?_
  rintro e w2 ⟨rfl, hE⟩
  replace HR := hid (HR.out.later hE)
  clear hE
  try clear c0 c1 c2 d0 d1 e0 e1 e2 e3 f0 f1 f2 f3
  have c0 := cell_blk (j := 0) HR.out.2.1 rfl
  have c1 := cell_blk (j := 1) HR.out.2.1 rfl
  have c2 := cell_blk (j := 2) HR.out.2.1 rfl
  have d0 := cell_blk (j := 0) HR.out.2.2.1 rfl
  have d1 := cell_blk (j := 1) HR.out.2.2.1 rfl
  have e0 := cell_blk (j := 0) HR.out.2.2.2.1 rfl
  have e1 := cell_blk (j := 1) HR.out.2.2.2.1 rfl
  have e2 := cell_blk (j := 2) HR.out.2.2.2.1 rfl
  have e3 := cell_blk (j := 3) HR.out.2.2.2.1 rfl
  have f0 := cell_blk (j := 0) HR.out.2.2.2.2 rfl
  have f1 := cell_blk (j := 1) HR.out.2.2.2.2 rfl
  have f2 := cell_blk (j := 2) HR.out.2.2.2.2 rfl
  have f3 := cell_blk (j := 3) HR.out.2.2.2.2 rfl
  go_wp2_with fail
  refine (S4.out _ HR.out.1).mono ?_
  rintro e w2 ⟨rfl, hE⟩
  replace HR := hid (HR.out.later hE)
  clear hE
  try clear c0 c1 c2 d0 d1 e0 e1 e2 e3 f0 f1 f2 f3
  have c0 := cell_blk (j := 0) HR.out.2.1 rfl
  have c1 := cell_blk (j := 1) HR.out.2.1 rfl
  have c2 := cell_blk (j := 2) HR.out.2.1 rfl
  have d0 := cell_blk (j := 0) HR.out.2.2.1 rfl
  have d1 := cell_blk (j := 1) HR.out.2.2.1 rfl
  have e0 := cell_blk (j := 0) HR.out.2.2.2.1 rfl
  have e1 := cell_blk (j := 1) HR.out.2.2.2.1 rfl
  have e2 := cell_blk (j := 2) HR.out.2.2.2.1 rfl
  have e3 := cell_blk (j := 3) HR.out.2.2.2.1 rfl
  have f0 := cell_blk (j := 0) HR.out.2.2.2.2 rfl
  have f1 := cell_blk (j := 1) HR.out.2.2.2.2 rfl
  have f2 := cell_blk (j := 2) HR.out.2.2.2.2 rfl
  have f3 := cell_blk (j := 3) HR.out.2.2.2.2 rfl
  go_wp2_with fail
  refine (S5.out _ HR.out.1).mono ?_
  rintro e w2 ⟨rfl, hE⟩
  replace HR := hid (HR.out.later hE)
  clear hE
  try clear c0 c1 c2 d0 d1 e0 e1 e2 e3 f0 f1 f2 f3
  have c0 := cell_blk (j := 0) HR.out.2.1 rfl
  have c1 := cell_blk (j := 1) HR.out.2.1 rfl
  have c2 := cell_blk (j := 2) HR.out.2.1 rfl
  have d0 := cell_blk (j := 0) HR.out.2.2.1 rfl
  have d1 := cell_blk (j := 1) HR.out.2.2.1 rfl
  have e0 := cell_blk (j := 0) HR.out.2.2.2.1 rfl
  have e1 := cell_blk (j := 1) HR.out.2.2.2.1 rfl
  have e2 := cell_blk (j := 2) HR.out.2.2.2.1 rfl
  have e3 := cell_blk (j := 3) HR.out.2.2.2.1 rfl
  have f0 := cell_blk (j := 0) HR.out.2.2.2.2 rfl
  have f1 := cell_blk (j := 1) HR.out.2.2.2.2 rfl
  have f2 := cell_blk (j := 2) HR.out.2.2.2.2 rfl
  have f3 := cell_blk (j := 3) HR.out.2.2.2.2 rfl
  go_wp2_with fail
  refine (S6.out _ HR.out.1).mono ?_
  rintro e w2 ⟨rfl, hE⟩
  replace HR := hid (HR.out.later hE)
  clear hE
  try clear c0 c1 c2 d0 d1 e0 e1 e2 e3 f0 f1 f2 f3
  have c0 := cell_blk (j := 0) HR.out.2.1 rfl
  have c1 := cell_blk (j := 1) HR.out.2.1 rfl
  have c2 := cell_blk (j := 2) HR.out.2.1 rfl
  have d0 := cell_blk (j := 0) HR.out.2.2.1 rfl
  have d1 := cell_blk (j := 1) HR.out.2.2.1 rfl
  have e0 := cell_blk (j := 0) HR.out.2.2.2.1 rfl
  have e1 := cell_blk (j := 1) HR.out.2.2.2.1 rfl
  have e2 := cell_blk (j := 2) HR.out.2.2.2.1 rfl
  have e3 := cell_blk (j := 3) HR.out.2.2.2.1 rfl
  have f0 := cell_blk (j := 0) HR.out.2.2.2.2 rfl
  have f1 := cell_blk (j := 1) HR.out.2.2.2.2 rfl
  have f2 := cell_blk (j := 2) HR.out.2.2.2.2 rfl
  have f3 := cell_blk (j := 3) HR.out.2.2.2.2 rfl
  go_wp2_with fail
  refine (S7.out _ HR.out.1).mono ?_
  rintro e w2 ⟨rfl, hE⟩
  replace HR := hid (HR.out.later hE)
  clear hE
  try clear c0 c1 c2 d0 d1 e0 e1 e2 e3 f0 f1 f2 f3
  have c0 := cell_blk (j := 0) HR.out.2.1 rfl
  have c1 := cell_blk (j := 1) HR.out.2.1 rfl
  have c2 := cell_blk (j := 2) HR.out.2.1 rfl
  have d0 := cell_blk (j := 0) HR.out.2.2.1 rfl
  have d1 := cell_blk (j := 1) HR.out.2.2.1 rfl
  have e0 := cell_blk (j := 0) HR.out.2.2.2.1 rfl
  have e1 := cell_blk (j := 1) HR.out.2.2.2.1 rfl
  have e2 := cell_blk (j := 2) HR.out.2.2.2.1 rfl
  have e3 := cell_blk (j := 3) HR.out.2.2.2.1 rfl
  have f0 := cell_blk (j := 0) HR.out.2.2.2.2 rfl
  have f1 := cell_blk (j := 1) HR.out.2.2.2.2 rfl
  have f2 := cell_blk (j := 2) HR.out.2.2.2.2 rfl
  have f3 := cell_blk (j := 3) HR.out.2.2.2.2 rfl
  go_wp2_with fail
  refine (S8.out _ HR.out.1).mono ?_
  rintro e w2 ⟨rfl, hE⟩
  replace HR := hid (HR.out.later hE)
  clear hE
  try clear c0 c1 c2 d0 d1 e0 e1 e2 e3 f0 f1 f2 f3
  have c0 := cell_blk (j := 0) HR.out.2.1 rfl
  have c1 := cell_blk (j := 1) HR.out.2.1 rfl
  have c2 := cell_blk (j := 2) HR.out.2.1 rfl
  have d0 := cell_blk (j := 0) HR.out.2.2.1 rfl
  have d1 := cell_blk (j := 1) HR.out.2.2.1 rfl
  have e0 := cell_blk (j := 0) HR.out.2.2.2.1 rfl
  have e1 := cell_blk (j := 1) HR.out.2.2.2.1 rfl
  have e2 := cell_blk (j := 2) HR.out.2.2.2.1 rfl
  have e3 := cell_blk (j := 3) HR.out.2.2.2.1 rfl
  have f0 := cell_blk (j := 0) HR.out.2.2.2.2 rfl
  have f1 := cell_blk (j := 1) HR.out.2.2.2.2 rfl
  have f2 := cell_blk (j := 2) HR.out.2.2.2.2 rfl
  have f3 := cell_blk (j := 3) HR.out.2.2.2.2 rfl
  go_wp2_with fail
  go_ret
  exact ⟨rfl, HR.out.1⟩

end Go.Proofs.Ytiaghfgkhmlgmaa
