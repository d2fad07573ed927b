/-
  Is a term made of what is open to all? (portholelaw13.open)
-/
import Derived.Test.YtegmnbcfanjocaaK1
import Derived.Deep.DeepCutAuto
import Derived.Deep.Cut
import Derived.Deep.CutRange
import Derived.Deep.CutBlock
namespace Go.Proofs.Ytegmnbcfanjocaa
open Go Go.RowKit Go.Maps
attribute [local go_sem] extUpon run_store_tm
attribute [local go_sem ↓] Tm.val_cell eval_put_ne eval_put_none eval_put_same size_put eval_const
attribute [local go_sem ↓] meth_Atom meth_Public meth_Shared meth_Chain meth_Digest meth_Box meth_Empty
attribute [local go_sem ↓] run_build_chain run_build_digest run_build_box
attribute [local go_sem] ta_Atom_Atom ta_Public_Atom ta_Shared_Atom ta_Chain_Atom ta_Digest_Atom ta_Box_Atom ta_Empty_Atom ta_Nil_Atom ta_Atom_Public ta_Public_Public ta_Shared_Public ta_Chain_Public ta_Digest_Public ta_Box_Public ta_Empty_Public ta_Nil_Public ta_Atom_Shared ta_Public_Shared ta_Shared_Shared ta_Chain_Shared ta_Digest_Shared ta_Box_Shared ta_Empty_Shared ta_Nil_Shared ta_Atom_Chain ta_Public_Chain ta_Shared_Chain ta_Chain_Chain ta_Digest_Chain ta_Box_Chain ta_Empty_Chain ta_Nil_Chain ta_Atom_Digest ta_Public_Digest ta_Shared_Digest ta_Chain_Digest ta_Digest_Digest ta_Box_Digest ta_Empty_Digest ta_Nil_Digest ta_Atom_Box ta_Public_Box ta_Shared_Box ta_Chain_Box ta_Digest_Box ta_Box_Box ta_Empty_Box ta_Nil_Box ta_Atom_Empty ta_Public_Empty ta_Shared_Empty ta_Chain_Empty ta_Digest_Empty ta_Box_Empty ta_Empty_Empty ta_Nil_Empty

def opn : Tm → Bool
  | .empty => true
  | .atom n => decide (0 ≤ n)
  | .chain _ x y => opn x && opn y
  | .digest x y => opn x && opn y
  | .box k _ a t => (opn k && opn a) && opn t
  | _ => false
def OpnSaid (t : Tm) : Prop := ∀ (w : World), Calls Try.prog 15 #[t.val] w fun e w' => e = .returned (.bool (opn t)) ∧ Ext w w'

set_option maxRecDepth 100000 in
theorem opn_non : OpnSaid .non := by
  intro w
  unfold Tm.val
  go_enter Try.func15, Try.ntmps15
  go_wp2_with fail
  go_ret
  exact ⟨rfl, Ext.refl _⟩
set_option maxRecDepth 100000 in
theorem opn_empty : OpnSaid .empty := by
  intro w
  unfold Tm.val
  go_enter Try.func15, Try.ntmps15
  go_wp2_with fail
  go_ret
  exact ⟨rfl, Ext.alloc _ _⟩
set_option maxRecDepth 100000 in
theorem opn_atom (n : Int) : OpnSaid (.atom n) := by
  intro w
  unfold Tm.val
  have c1 := cell_new (w := w) (cs := #[.int .i64 n]) (t := 37) (fr := (0, 0)) (j := 0) rfl
  go_enter Try.func15, Try.ntmps15
  go_wp2_with fail
  go_ret
  exact ⟨rfl, Ext.alloc _ _⟩
set_option maxRecDepth 100000 in
theorem opn_pub (n : Int) : OpnSaid (.pub n) := by
  intro w
  unfold Tm.val
  go_enter Try.func15, Try.ntmps15
  go_wp2_with fail
  go_ret
  exact ⟨rfl, Ext.refl _⟩
set_option maxRecDepth 100000 in
theorem opn_shared (a b : Int) : OpnSaid (.shared a b) := by
  intro w
  unfold Tm.val
  go_enter Try.func15, Try.ntmps15
  go_wp2_with fail
  go_ret
  exact ⟨rfl, Ext.refl _⟩


set_option maxHeartbeats 4000000 in
set_option maxRecDepth 100000 in
theorem opn_chain (i : Int) (x y : Tm) (ihx : OpnSaid x) (ihy : OpnSaid y) : OpnSaid (.chain i x y) := by
  intro w
  have hop : opn (.chain i x y) = (opn x && opn y) := rfl
  rw [hop]
  clear hop
  generalize hcx : opn x = cx at *
  generalize hcy : opn y = cy at *
  have HCX := hid hcx
  have HCY := hid hcy
  clear hcx hcy
  unfold Tm.val
  go_enter Try.func15, Try.ntmps15
  go_upto_region 10 with fail
  have c1 := cell_new (w := w) (cs := #[.int .i64 i, x.val, y.val]) (t := 41) (fr := (0, 0)) (j := 1) rfl
  have c2 := cell_new (w := w) (cs := #[.int .i64 i, x.val, y.val]) (t := 41) (fr := (0, 0)) (j := 1 + 1) rfl
  have hE3 : Ext w (w.alloc (.cells #[.int .i64 i, x.val, y.val] 41 (0, 0))) := Ext.alloc _ _
  have HE := hid hE3
  have HC2 := hid c2
  clear hE3 c2
  generalize World.alloc w _ = W3 at *
  go_wp2_with fail
  refine (ihx _).mono ?_
  rintro e W5 ⟨rfl, hE5⟩
  replace HE := hid (HE.out.trans hE5)
  rw [HCX.out]
  clear c1
  have q2 := hE5.cell HC2.out
  clear hE5
  cases cx
  · skip
    go_wp2_with fail
    go_ret
    exact ⟨rfl, HE.out⟩
  · go_wp2_with fail
    refine (ihy _).mono ?_
    rintro e W6 ⟨rfl, hE5⟩
    replace HE := hid (HE.out.trans hE5)
    rw [HCY.out]
    clear hE5 q2
    go_wp2_with fail
    go_ret
    exact ⟨rfl, HE.out⟩
set_option maxHeartbeats 4000000 in
set_option maxRecDepth 100000 in
theorem opn_digest (x y : Tm) (ihx : OpnSaid x) (ihy : OpnSaid y) : OpnSaid (.digest x y) := by
  intro w
  have hop : opn (.digest x y) = (opn x && opn y) := rfl
  rw [hop]
  clear hop
  generalize hcx : opn x = cx at *
  generalize hcy : opn y = cy at *
  have HCX := hid hcx
  have HCY := hid hcy
  clear hcx hcy
  unfold Tm.val
  go_enter Try.func15, Try.ntmps15
  go_upto_region 13 with fail
  have c1 := cell_new (w := w) (cs := #[x.val, y.val]) (t := 35) (fr := (0, 0)) (j := 0) rfl
  have c2 := cell_new (w := w) (cs := #[x.val, y.val]) (t := 35) (fr := (0, 0)) (j := 0 + 1) rfl
  have hE3 : Ext w (w.alloc (.cells #[x.val, y.val] 35 (0, 0))) := Ext.alloc _ _
  have HE := hid hE3
  have HC2 := hid c2
  clear hE3 c2
  generalize World.alloc w _ = W3 at *
  go_wp2_with fail
  refine (ihx _).mono ?_
  rintro e W5 ⟨rfl, hE5⟩
  replace HE := hid (HE.out.trans hE5)
  rw [HCX.out]
  clear c1
  have q2 := hE5.cell HC2.out
  clear hE5
  cases cx
  · skip
    go_wp2_with fail
    go_ret
    exact ⟨rfl, HE.out⟩
  · go_wp2_with fail
    refine (ihy _).mono ?_
    rintro e W6 ⟨rfl, hE5⟩
    replace HE := hid (HE.out.trans hE5)
    rw [HCY.out]
    clear hE5 q2
    go_wp2_with fail
    go_ret
    exact ⟨rfl, HE.out⟩

set_option maxHeartbeats 4000000 in
set_option maxRecDepth 100000 in
theorem opn_box (kk : Tm) (n : Int) (x y : Tm) (ihk : OpnSaid kk) (ihx : OpnSaid x) (ihy : OpnSaid y) : OpnSaid (.box kk n x y) := by
  intro w
  have hop : opn (.box kk n x y) = ((opn kk && opn x) && opn y) := rfl
  rw [hop]
  clear hop
  generalize hck : opn kk = ck at *
  generalize hcx : opn x = cx at *
  generalize hcy : opn y = cy at *
  have HCK := hid hck
  have HCX := hid hcx
  have HCY := hid hcy
  clear hck hcx hcy
  unfold Tm.val
  go_enter Try.func15, Try.ntmps15
  go_upto_region 16 with fail
  have c0 := cell_new (w := w) (cs := #[kk.val, .int .i64 n, x.val, y.val]) (t := 39) (fr := (0, 0)) (j := 0) rfl
  have c2 := cell_new (w := w) (cs := #[kk.val, .int .i64 n, x.val, y.val]) (t := 39) (fr := (0, 0)) (j := 2) rfl
  have c3 := cell_new (w := w) (cs := #[kk.val, .int .i64 n, x.val, y.val]) (t := 39) (fr := (0, 0)) (j := 3) rfl
  have hE3 : Ext w (w.alloc (.cells #[kk.val, .int .i64 n, x.val, y.val] 39 (0, 0))) := Ext.alloc _ _
  have HE := hid hE3
  have HC2 := hid c2
  have HC3 := hid c3
  clear hE3 c2 c3
  generalize World.alloc w _ = W3 at *
  go_wp2_with fail
  refine (ihk _).mono ?_
  rintro e W5 ⟨rfl, hE5⟩
  replace HE := hid (HE.out.trans hE5)
  rw [HCK.out]
  clear c0
  have q2 := hE5.cell HC2.out
  replace HC3 := hid (hE5.cell HC3.out)
  clear hE5
  cases ck
  · go_wp2_with fail
    go_ret
    exact ⟨rfl, HE.out⟩
  · go_wp2_with fail
    refine (ihx _).mono ?_
    rintro e W6 ⟨rfl, hE5⟩
    replace HE := hid (HE.out.trans hE5)
    rw [HCX.out]
    clear q2
    have q3 := hE5.cell HC3.out
    clear hE5
    cases cx
    · go_wp2_with fail
      go_ret
      exact ⟨rfl, HE.out⟩
    · go_wp2_with fail
      refine (ihy _).mono ?_
      rintro e W7 ⟨rfl, hE5⟩
      replace HE := hid (HE.out.trans hE5)
      rw [HCY.out]
      clear hE5 q3
      go_wp2_with fail
      go_ret
      exact ⟨rfl, HE.out⟩

theorem opn_any : ∀ t : Tm, OpnSaid t
  | .non => opn_non
  | .empty => opn_empty
  | .atom n => opn_atom n
  | .pub n => opn_pub n
  | .shared a b => opn_shared a b
  | .chain i x y => opn_chain i x y (opn_any x) (opn_any y)
  | .digest x y => opn_digest x y (opn_any x) (opn_any y)
  | .box k n x y => opn_box k n x y (opn_any k) (opn_any x) (opn_any y)

end Go.Proofs.Ytegmnbcfanjocaa
