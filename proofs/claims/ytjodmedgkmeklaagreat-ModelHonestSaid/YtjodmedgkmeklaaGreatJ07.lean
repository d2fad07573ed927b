/-
  Texts merged: K2.
-/
import Derived.Deep.DeepCutAuto
import Derived.Deep.Cut
import Derived.Deep.CutRange
import Derived.Deep.CutBlock
import Derived.Test.YtjodmedgkmeklaaGreatJ06
/-
  Can a term be made? (know.Can)
-/
namespace Go.Proofs.YtjodmedgkmeklaaGreat
open Go Go.RowKit Go.Maps
attribute [local go_sem] extUpon run_store_tm
attribute [local go_sem ↓] Tm.val_cell eval_put_ne eval_put_none eval_put_same size_put eval_const
attribute [local go_sem ↓] meth_Atom meth_Public meth_Shared meth_Chain meth_Digest meth_Box meth_Empty
attribute [local go_sem ↓] run_build_chain run_build_digest run_build_box
attribute [local go_sem] ta_Atom_Atom ta_Public_Atom ta_Shared_Atom ta_Chain_Atom ta_Digest_Atom ta_Box_Atom ta_Empty_Atom ta_Nil_Atom ta_Atom_Public ta_Public_Public ta_Shared_Public ta_Chain_Public ta_Digest_Public ta_Box_Public ta_Empty_Public ta_Nil_Public ta_Atom_Shared ta_Public_Shared ta_Shared_Shared ta_Chain_Shared ta_Digest_Shared ta_Box_Shared ta_Empty_Shared ta_Nil_Shared ta_Atom_Chain ta_Public_Chain ta_Shared_Chain ta_Chain_Chain ta_Digest_Chain ta_Box_Chain ta_Empty_Chain ta_Nil_Chain ta_Atom_Digest ta_Public_Digest ta_Shared_Digest ta_Chain_Digest ta_Digest_Digest ta_Box_Digest ta_Empty_Digest ta_Nil_Digest ta_Atom_Box ta_Public_Box ta_Shared_Box ta_Chain_Box ta_Digest_Box ta_Box_Box ta_Empty_Box ta_Nil_Box ta_Atom_Empty ta_Public_Empty ta_Shared_Empty ta_Chain_Empty ta_Digest_Empty ta_Box_Empty ta_Empty_Empty ta_Nil_Empty
variable {f : Int → List UInt8} {P : Int → Prop}

def CanSaid (f : Int → List UInt8) (P : Int → Prop) (t : Tm) : Prop := ∀ (w : World) (k : KS) (v : KV), Itoa w Small f → KAt f P w k v → t.all Small → sz t ≤ 10000 →
  Calls Tryz.prog 21 #[.pointer (some ⟨k.kb, 0, none⟩), t.val] w fun e w' => e = .returned (.bool (can f v.x v.S t)) ∧ Ext w w'


set_option maxRecDepth 100000 in
theorem can_non : CanSaid f P .non := by
  intro w k v hI hK ha hs
  unfold Tm.val
  go_enter Tryz.func21, Tryz.ntmps21
  go_wp2_with fail
  go_ret
  exact ⟨rfl, Ext.refl _⟩

theorem reg_skip {P : Program} {md : Region.Mode} {Q : Exit → Act → World → Prop} {E fuel : Nat} {l tl : List Oper} {oi : Oper} {listed : Array Bool} {a : Act} {w : World} (i : Nat) (hi : l.drop i = oi :: tl) (hB : takeB md l.toArray E listed i = true)
    (hw : Region.wanted oi (yielded l.toArray a.tmps) = false) (h : wpAnyU P md l.toArray (calm Q) E fuel (listed.setIfInBounds i true) (a.put oi.dst undef) w) : wpAnyU P md l.toArray (calm Q) E (fuel + 1) listed a w :=
  reg_take (at_drop hi) hB (.inr ⟨hw, rfl⟩) h

set_option maxHeartbeats 2000000 in
set_option maxRecDepth 100000 in
theorem can_empty : CanSaid f P .empty := by
  intro w k v hI hK ha hs
  have hcan : can f v.x v.S .empty = (v.S (nm f .empty) || true) := by simp [can]
  rw [hcan]
  clear hcan
  unfold Tm.val
  have hno := nm_ok hI (Tm.empty) hs
  obtain ⟨xv, hlk⟩ := hK.look (nm f (Tm.empty)) hno
  have hnm : ∀ W, Ext w W → Calls Tryz.prog 130 #[.agg #[]] W fun e w' => e = .returned (str (nm f (Tm.empty))) ∧ Ext W w' := fun W hW => call_name (Tm.empty) w (by simp) hI ha hs W hW
  have HLK := hid hlk
  have HC := hid (cell_blk (j := 2) hK.blk rfl)
  have HNM := hid hnm
  have HK := hid hK
  have HI := hid hI
  clear hlk hnm hK hI hno
  generalize hnt : nm f (Tm.empty) = nt at *
  have HNT := hid hnt
  clear hnt
  go_enter Tryz.func21, Tryz.ntmps21
  go_wp2_with fail
  refine reg_begin 12 (by kernel_rfl) ?_
  generalize hW : World.drew _ = W
  have HE : Hid (Ext w W) := hid (by rw [← hW]; exact Ext.drew _)
  clear hW
  refine reg_quiet 0 rfl (by kernel_rfl) (by kernel_rfl) ?_; apply Exists.intro; refine ⟨fun w' hw' => ?_, ?_⟩; · go_simp; exact ⟨rfl, Ext.refl _⟩
  refine reg_quiet 1 rfl (by kernel_rfl) (by kernel_rfl) ?_; apply Exists.intro; refine ⟨fun w' hw' => ?_, ?_⟩; · go_simp; exact ⟨rfl, Ext.refl _⟩
  refine reg_quiet 2 rfl (by kernel_rfl) (by kernel_rfl) ?_; apply Exists.intro; refine ⟨fun w' hw' => ?_, ?_⟩; · go_simp; exact ⟨rfl, Ext.refl _⟩
  refine reg_quiet 3 rfl (by kernel_rfl) (by kernel_rfl) ?_; apply Exists.intro; refine ⟨fun w' hw' => ?_, ?_⟩; · have q0 := (HE.out.trans hw').cell HC.out; go_simp; exact ⟨rfl, Ext.refl _⟩
  refine reg_quiet 4 rfl (by kernel_rfl) (by kernel_rfl) ?_; apply Exists.intro; refine ⟨fun w' hw' => ?_, ?_⟩; · go_simp; exact ⟨rfl, Ext.refl _⟩
  refine reg_quiet 5 rfl (by kernel_rfl) (by kernel_rfl) ?_; apply Exists.intro; refine ⟨fun w' hw' => ?_, ?_⟩; · go_simp; exact HNM.out w' (HE.out.trans hw')
  refine reg_quiet 6 rfl (by kernel_rfl) (by kernel_rfl) ?_; apply Exists.intro; refine ⟨fun w' hw' => ?_, ?_⟩; · have q0 := HLK.out w' (HE.out.trans hw'); go_simp; exact ⟨rfl, Ext.refl _⟩
  refine reg_quiet 7 rfl (by kernel_rfl) (by kernel_rfl) ?_; apply Exists.intro; refine ⟨fun w' hw' => ?_, ?_⟩; · go_simp; exact ⟨rfl, Ext.refl _⟩
  refine reg_quiet 8 rfl (by kernel_rfl) (by kernel_rfl) ?_; apply Exists.intro; refine ⟨fun w' hw' => ?_, ?_⟩; · go_simp; exact ⟨rfl, Ext.refl _⟩
  refine reg_quiet 9 rfl (by kernel_rfl) (by kernel_rfl) ?_; apply Exists.intro; refine ⟨fun w' hw' => ?_, ?_⟩; · go_simp; exact ⟨rfl, Ext.refl _⟩
  refine reg_quiet 10 rfl (by kernel_rfl) (by kernel_rfl) ?_; apply Exists.intro; refine ⟨fun w' hw' => ?_, ?_⟩; · go_simp; exact ⟨rfl, Ext.refl _⟩
  refine reg_quiet 11 rfl (by kernel_rfl) (by kernel_rfl) ?_; apply Exists.intro; refine ⟨fun w' hw' => ?_, ?_⟩; · go_simp; exact ⟨rfl, Ext.refl _⟩
  refine reg_done (by kernel_rfl) (fun W2 hw2 => ?_) _
  replace HE := hid (HE.out.trans hw2)
  clear hw2 HLK HNM HC
  go_simp
  cases hS : v.S nt
  · go_wp2_with fail
    go_ret
    exact ⟨by rw [hS]; rfl, HE.out.trans (Ext.alloc _ _)⟩
  · skip
    go_wp2_with fail
    go_ret
    exact ⟨by rw [hS]; rfl, HE.out⟩

set_option maxHeartbeats 2000000 in
set_option maxRecDepth 100000 in
theorem can_atom (n : Int) : CanSaid f P (.atom n) := by
  intro w k v hI hK ha hs
  unfold Tm.val
  have hcan : can f v.x v.S (Tm.atom n) = (v.S (nm f (Tm.atom n)) || (decide (0 ≤ n))) := rfl
  rw [hcan]
  clear hcan
  have hno := nm_ok hI (Tm.atom n) hs
  obtain ⟨xv, hlk⟩ := hK.look (nm f (Tm.atom n)) hno
  have hnm : ∀ W, Ext w W → Calls Tryz.prog 116 #[.agg #[.int .i64 n]] W fun e w' => e = .returned (str (nm f (Tm.atom n))) ∧ Ext W w' := fun W hW => call_name (Tm.atom n) w (by simp) hI ha hs W hW
  have HLK := hid hlk
  have HC := hid (cell_blk (j := 2) hK.blk rfl)
  have HNM := hid hnm
  have HK := hid hK
  have HI := hid hI
  clear hlk hnm hK hI hno
  generalize hnt : nm f (Tm.atom n) = nt at *
  have HNT := hid hnt
  clear hnt
  go_enter Tryz.func21, Tryz.ntmps21
  go_wp2_with fail
  refine reg_begin 12 (by kernel_rfl) ?_
  generalize hW : World.drew _ = W
  have HE : Hid (Ext w W) := hid (by rw [← hW]; exact Ext.drew _)
  clear hW
  refine reg_quiet 0 rfl (by kernel_rfl) (by kernel_rfl) ?_; apply Exists.intro; refine ⟨fun w' hw' => ?_, ?_⟩; · go_simp; exact ⟨rfl, Ext.refl _⟩
  refine reg_quiet 1 rfl (by kernel_rfl) (by kernel_rfl) ?_; apply Exists.intro; refine ⟨fun w' hw' => ?_, ?_⟩; · go_simp; exact ⟨rfl, Ext.refl _⟩
  refine reg_quiet 2 rfl (by kernel_rfl) (by kernel_rfl) ?_; apply Exists.intro; refine ⟨fun w' hw' => ?_, ?_⟩; · go_simp; exact ⟨rfl, Ext.refl _⟩
  refine reg_quiet 3 rfl (by kernel_rfl) (by kernel_rfl) ?_; apply Exists.intro; refine ⟨fun w' hw' => ?_, ?_⟩; · have q0 := (HE.out.trans hw').cell HC.out; go_simp; exact ⟨rfl, Ext.refl _⟩
  refine reg_quiet 4 rfl (by kernel_rfl) (by kernel_rfl) ?_; apply Exists.intro; refine ⟨fun w' hw' => ?_, ?_⟩; · go_simp; exact ⟨rfl, Ext.refl _⟩
  refine reg_quiet 5 rfl (by kernel_rfl) (by kernel_rfl) ?_; apply Exists.intro; refine ⟨fun w' hw' => ?_, ?_⟩; · go_simp; exact HNM.out w' (HE.out.trans hw')
  refine reg_quiet 6 rfl (by kernel_rfl) (by kernel_rfl) ?_; apply Exists.intro; refine ⟨fun w' hw' => ?_, ?_⟩; · have q0 := HLK.out w' (HE.out.trans hw'); go_simp; exact ⟨rfl, Ext.refl _⟩
  refine reg_quiet 7 rfl (by kernel_rfl) (by kernel_rfl) ?_; apply Exists.intro; refine ⟨fun w' hw' => ?_, ?_⟩; · go_simp; exact ⟨rfl, Ext.refl _⟩
  refine reg_quiet 8 rfl (by kernel_rfl) (by kernel_rfl) ?_; apply Exists.intro; refine ⟨fun w' hw' => ?_, ?_⟩; · go_simp; exact ⟨rfl, Ext.refl _⟩
  refine reg_quiet 9 rfl (by kernel_rfl) (by kernel_rfl) ?_; apply Exists.intro; refine ⟨fun w' hw' => ?_, ?_⟩; · go_simp; exact ⟨rfl, Ext.refl _⟩
  refine reg_quiet 10 rfl (by kernel_rfl) (by kernel_rfl) ?_; apply Exists.intro; refine ⟨fun w' hw' => ?_, ?_⟩; · go_simp; exact ⟨rfl, Ext.refl _⟩
  refine reg_quiet 11 rfl (by kernel_rfl) (by kernel_rfl) ?_; apply Exists.intro; refine ⟨fun w' hw' => ?_, ?_⟩; · go_simp; exact ⟨rfl, Ext.refl _⟩
  refine reg_done (by kernel_rfl) (fun W2 hw2 => ?_) _
  replace HE := hid (HE.out.trans hw2)
  clear hw2 HLK HNM HC
  go_simp
  cases hS : v.S nt
  · go_wp2_with fail
    go_ret
    exact ⟨by rw [hS]; rfl, HE.out.trans (Ext.alloc _ _)⟩
  · skip
    go_wp2_with fail
    go_ret
    exact ⟨by rw [hS]; rfl, HE.out⟩

set_option maxHeartbeats 2000000 in
set_option maxRecDepth 100000 in
theorem can_pub (n : Int) : CanSaid f P (.pub n) := by
  intro w k v hI hK ha hs
  have hn : IntOk n := by have : Small n := ha; unfold Small at this; unfold IntOk; omega
  have HS0 := hid (cell_blk (j := 0) hK.blk rfl)
  have HSE := hid (hK.secret n hn)
  clear hn
  unfold Tm.val
  have hcan : can f v.x v.S (Tm.pub n) = (v.S (nm f (Tm.pub n)) || (v.x n)) := rfl
  rw [hcan]
  clear hcan
  have hno := nm_ok hI (Tm.pub n) hs
  obtain ⟨xv, hlk⟩ := hK.look (nm f (Tm.pub n)) hno
  have hnm : ∀ W, Ext w W → Calls Tryz.prog 131 #[.agg #[.int .i64 n]] W fun e w' => e = .returned (str (nm f (Tm.pub n))) ∧ Ext W w' := fun W hW => call_name (Tm.pub n) w (by simp) hI ha hs W hW
  have HLK := hid hlk
  have HC := hid (cell_blk (j := 2) hK.blk rfl)
  have HNM := hid hnm
  have HK := hid hK
  have HI := hid hI
  clear hlk hnm hK hI hno
  generalize hnt : nm f (Tm.pub n) = nt at *
  have HNT := hid hnt
  clear hnt
  go_enter Tryz.func21, Tryz.ntmps21
  go_wp2_with fail
  refine reg_begin 12 (by kernel_rfl) ?_
  generalize hW : World.drew _ = W
  have HE : Hid (Ext w W) := hid (by rw [← hW]; exact Ext.drew _)
  clear hW
  refine reg_quiet 0 rfl (by kernel_rfl) (by kernel_rfl) ?_; apply Exists.intro; refine ⟨fun w' hw' => ?_, ?_⟩; · go_simp; exact ⟨rfl, Ext.refl _⟩
  refine reg_quiet 1 rfl (by kernel_rfl) (by kernel_rfl) ?_; apply Exists.intro; refine ⟨fun w' hw' => ?_, ?_⟩; · go_simp; exact ⟨rfl, Ext.refl _⟩
  refine reg_quiet 2 rfl (by kernel_rfl) (by kernel_rfl) ?_; apply Exists.intro; refine ⟨fun w' hw' => ?_, ?_⟩; · go_simp; exact ⟨rfl, Ext.refl _⟩
  refine reg_quiet 3 rfl (by kernel_rfl) (by kernel_rfl) ?_; apply Exists.intro; refine ⟨fun w' hw' => ?_, ?_⟩; · have q0 := (HE.out.trans hw').cell HC.out; go_simp; exact ⟨rfl, Ext.refl _⟩
  refine reg_quiet 4 rfl (by kernel_rfl) (by kernel_rfl) ?_; apply Exists.intro; refine ⟨fun w' hw' => ?_, ?_⟩; · go_simp; exact ⟨rfl, Ext.refl _⟩
  refine reg_quiet 5 rfl (by kernel_rfl) (by kernel_rfl) ?_; apply Exists.intro; refine ⟨fun w' hw' => ?_, ?_⟩; · go_simp; exact HNM.out w' (HE.out.trans hw')
  refine reg_quiet 6 rfl (by kernel_rfl) (by kernel_rfl) ?_; apply Exists.intro; refine ⟨fun w' hw' => ?_, ?_⟩; · have q0 := HLK.out w' (HE.out.trans hw'); go_simp; exact ⟨rfl, Ext.refl _⟩
  refine reg_quiet 7 rfl (by kernel_rfl) (by kernel_rfl) ?_; apply Exists.intro; refine ⟨fun w' hw' => ?_, ?_⟩; · go_simp; exact ⟨rfl, Ext.refl _⟩
  refine reg_quiet 8 rfl (by kernel_rfl) (by kernel_rfl) ?_; apply Exists.intro; refine ⟨fun w' hw' => ?_, ?_⟩; · go_simp; exact ⟨rfl, Ext.refl _⟩
  refine reg_quiet 9 rfl (by kernel_rfl) (by kernel_rfl) ?_; apply Exists.intro; refine ⟨fun w' hw' => ?_, ?_⟩; · go_simp; exact ⟨rfl, Ext.refl _⟩
  refine reg_quiet 10 rfl (by kernel_rfl) (by kernel_rfl) ?_; apply Exists.intro; refine ⟨fun w' hw' => ?_, ?_⟩; · go_simp; exact ⟨rfl, Ext.refl _⟩
  refine reg_quiet 11 rfl (by kernel_rfl) (by kernel_rfl) ?_; apply Exists.intro; refine ⟨fun w' hw' => ?_, ?_⟩; · go_simp; exact ⟨rfl, Ext.refl _⟩
  refine reg_done (by kernel_rfl) (fun W2 hw2 => ?_) _
  replace HE := hid (HE.out.trans hw2)
  clear hw2 HLK HNM HC
  go_simp
  cases hS : v.S nt
  · go_wp2_with fail
    refine reg_begin 8 (by kernel_rfl) ?_
    generalize hW : World.drew _ = W3
    have hE3 : Ext W2 W3 := by rw [← hW]; exact (Ext.alloc _ _).trans (Ext.drew _)
    have c1 : W3.cell? ⟨W2.heap.size, 0, none⟩ = some (.int .i64 n) := by rw [← hW]; exact cell_drew (cell_new rfl)
    replace HE := hid (HE.out.trans hE3)
    have HC1 := hid c1
    clear hW hE3 c1
    refine reg_quiet 0 rfl (by kernel_rfl) (by kernel_rfl) ?_; apply Exists.intro; refine ⟨fun w' hw' => ?_, ?_⟩; · go_simp; exact ⟨rfl, Ext.refl _⟩
    refine reg_quiet 1 rfl (by kernel_rfl) (by kernel_rfl) ?_; apply Exists.intro; refine ⟨fun w' hw' => ?_, ?_⟩; · go_simp; exact ⟨rfl, Ext.refl _⟩
    refine reg_quiet 2 rfl (by kernel_rfl) (by kernel_rfl) ?_; apply Exists.intro; refine ⟨fun w' hw' => ?_, ?_⟩; · go_simp; exact ⟨rfl, Ext.refl _⟩
    refine reg_quiet 3 rfl (by kernel_rfl) (by kernel_rfl) ?_; apply Exists.intro; refine ⟨fun w' hw' => ?_, ?_⟩; · have q0 := (HE.out.trans hw').cell HS0.out; go_simp; exact ⟨rfl, Ext.refl _⟩
    refine reg_quiet 4 rfl (by kernel_rfl) (by kernel_rfl) ?_; apply Exists.intro; refine ⟨fun w' hw' => ?_, ?_⟩; · go_simp; exact ⟨rfl, Ext.refl _⟩
    refine reg_quiet 5 rfl (by kernel_rfl) (by kernel_rfl) ?_; apply Exists.intro; refine ⟨fun w' hw' => ?_, ?_⟩; · have q0 := hw'.cell HC1.out; go_simp; exact ⟨rfl, Ext.refl _⟩
    refine reg_quiet 6 rfl (by kernel_rfl) (by kernel_rfl) ?_; apply Exists.intro; refine ⟨fun w' hw' => ?_, ?_⟩; · have q0 := HSE.out w' (HE.out.trans hw'); go_simp; exact ⟨rfl, Ext.refl _⟩
    refine reg_quiet 7 rfl (by kernel_rfl) (by kernel_rfl) ?_; apply Exists.intro; refine ⟨fun w' hw' => ?_, ?_⟩; · go_simp; exact ⟨rfl, Ext.refl _⟩
    refine reg_done (by kernel_rfl) (fun W4 hw4 => ?_) _
    replace HE := hid (HE.out.trans hw4)
    clear hw4
    go_simp
    go_wp2_with fail
    go_ret
    exact ⟨by rw [hS]; rfl, HE.out⟩
  · skip
    go_wp2_with fail
    go_ret
    exact ⟨by rw [hS]; rfl, HE.out⟩

set_option maxHeartbeats 4000000 in
set_option maxRecDepth 100000 in
theorem can_shared (a b : Int) : CanSaid f P (.shared a b) := by
  intro w k v hI hK ha hs
  have hna : IntOk a := by have : Small a := ha.1; unfold Small at this; unfold IntOk; omega
  have hnb : IntOk b := by have : Small b := ha.2; unfold Small at this; unfold IntOk; omega
  have HS0 := hid (cell_blk (j := 0) hK.blk rfl)
  have HSA := hid (hK.secret a hna)
  have HSB := hid (hK.secret b hnb)
  clear hna hnb
  unfold Tm.val
  have hcan : can f v.x v.S (Tm.shared a b) = (v.S (nm f (Tm.shared a b)) || (v.x a || v.x b)) := rfl
  rw [hcan]
  clear hcan
  have hno := nm_ok hI (Tm.shared a b) hs
  obtain ⟨xv, hlk⟩ := hK.look (nm f (Tm.shared a b)) hno
  have hnm : ∀ W, Ext w W → Calls Tryz.prog 132 #[.agg #[.int .i64 a, .int .i64 b]] W fun e w' => e = .returned (str (nm f (Tm.shared a b))) ∧ Ext W w' := fun W hW => call_name (Tm.shared a b) w (by simp) hI ha hs W hW
  have HLK := hid hlk
  have HC := hid (cell_blk (j := 2) hK.blk rfl)
  have HNM := hid hnm
  have HK := hid hK
  have HI := hid hI
  clear hlk hnm hK hI hno
  generalize hnt : nm f (Tm.shared a b) = nt at *
  have HNT := hid hnt
  clear hnt
  go_enter Tryz.func21, Tryz.ntmps21
  go_wp2_with fail
  refine reg_begin 12 (by kernel_rfl) ?_
  generalize hW : World.drew _ = W
  have HE : Hid (Ext w W) := hid (by rw [← hW]; exact Ext.drew _)
  clear hW
  refine reg_quiet 0 rfl (by kernel_rfl) (by kernel_rfl) ?_; apply Exists.intro; refine ⟨fun w' hw' => ?_, ?_⟩; · go_simp; exact ⟨rfl, Ext.refl _⟩
  refine reg_quiet 1 rfl (by kernel_rfl) (by kernel_rfl) ?_; apply Exists.intro; refine ⟨fun w' hw' => ?_, ?_⟩; · go_simp; exact ⟨rfl, Ext.refl _⟩
  refine reg_quiet 2 rfl (by kernel_rfl) (by kernel_rfl) ?_; apply Exists.intro; refine ⟨fun w' hw' => ?_, ?_⟩; · go_simp; exact ⟨rfl, Ext.refl _⟩
  refine reg_quiet 3 rfl (by kernel_rfl) (by kernel_rfl) ?_; apply Exists.intro; refine ⟨fun w' hw' => ?_, ?_⟩; · have q0 := (HE.out.trans hw').cell HC.out; go_simp; exact ⟨rfl, Ext.refl _⟩
  refine reg_quiet 4 rfl (by kernel_rfl) (by kernel_rfl) ?_; apply Exists.intro; refine ⟨fun w' hw' => ?_, ?_⟩; · go_simp; exact ⟨rfl, Ext.refl _⟩
  refine reg_quiet 5 rfl (by kernel_rfl) (by kernel_rfl) ?_; apply Exists.intro; refine ⟨fun w' hw' => ?_, ?_⟩; · go_simp; exact HNM.out w' (HE.out.trans hw')
  refine reg_quiet 6 rfl (by kernel_rfl) (by kernel_rfl) ?_; apply Exists.intro; refine ⟨fun w' hw' => ?_, ?_⟩; · have q0 := HLK.out w' (HE.out.trans hw'); go_simp; exact ⟨rfl, Ext.refl _⟩
  refine reg_quiet 7 rfl (by kernel_rfl) (by kernel_rfl) ?_; apply Exists.intro; refine ⟨fun w' hw' => ?_, ?_⟩; · go_simp; exact ⟨rfl, Ext.refl _⟩
  refine reg_quiet 8 rfl (by kernel_rfl) (by kernel_rfl) ?_; apply Exists.intro; refine ⟨fun w' hw' => ?_, ?_⟩; · go_simp; exact ⟨rfl, Ext.refl _⟩
  refine reg_quiet 9 rfl (by kernel_rfl) (by kernel_rfl) ?_; apply Exists.intro; refine ⟨fun w' hw' => ?_, ?_⟩; · go_simp; exact ⟨rfl, Ext.refl _⟩
  refine reg_quiet 10 rfl (by kernel_rfl) (by kernel_rfl) ?_; apply Exists.intro; refine ⟨fun w' hw' => ?_, ?_⟩; · go_simp; exact ⟨rfl, Ext.refl _⟩
  refine reg_quiet 11 rfl (by kernel_rfl) (by kernel_rfl) ?_; apply Exists.intro; refine ⟨fun w' hw' => ?_, ?_⟩; · go_simp; exact ⟨rfl, Ext.refl _⟩
  refine reg_done (by kernel_rfl) (fun W2 hw2 => ?_) _
  replace HE := hid (HE.out.trans hw2)
  clear hw2 HLK HNM HC
  go_simp
  generalize hxa : v.x a = xa at HSA ⊢
  generalize hxb : v.x b = xb at HSB ⊢
  have HXA := hid hxa
  have HXB := hid hxb
  clear hxa hxb
  cases hS : v.S nt
  · go_wp2_with fail
    refine reg_begin 17 (by kernel_rfl) ?_
    generalize hW : World.drew _ = W3
    have hE3 : Ext W2 W3 := by rw [← hW]; exact (Ext.alloc _ _).trans (Ext.drew _)
    have c1 : W3.cell? ⟨W2.heap.size, 0, none⟩ = some (.int .i64 a) := by rw [← hW]; exact cell_drew (cell_new rfl)
    have c2 : W3.cell? ⟨W2.heap.size, 1, none⟩ = some (.int .i64 b) := by rw [← hW]; exact cell_drew (cell_new rfl)
    replace HE := hid (HE.out.trans hE3)
    have HC1 := hid c1
    have HC2 := hid c2
    clear hW hE3 c1 c2
    cases xa
    · skip
      refine reg_quiet 0 rfl (by kernel_rfl) (by kernel_rfl) ?_; apply Exists.intro; refine ⟨fun w' hw' => ?_, ?_⟩; · go_simp; exact ⟨rfl, Ext.refl _⟩
      refine reg_quiet 1 rfl (by kernel_rfl) (by kernel_rfl) ?_; apply Exists.intro; refine ⟨fun w' hw' => ?_, ?_⟩; · go_simp; exact ⟨rfl, Ext.refl _⟩
      refine reg_quiet 2 rfl (by kernel_rfl) (by kernel_rfl) ?_; apply Exists.intro; refine ⟨fun w' hw' => ?_, ?_⟩; · go_simp; exact ⟨rfl, Ext.refl _⟩
      refine reg_quiet 3 rfl (by kernel_rfl) (by kernel_rfl) ?_; apply Exists.intro; refine ⟨fun w' hw' => ?_, ?_⟩; · have q0 := (HE.out.trans hw').cell HS0.out; go_simp; exact ⟨rfl, Ext.refl _⟩
      refine reg_quiet 4 rfl (by kernel_rfl) (by kernel_rfl) ?_; apply Exists.intro; refine ⟨fun w' hw' => ?_, ?_⟩; · go_simp; exact ⟨rfl, Ext.refl _⟩
      refine reg_quiet 5 rfl (by kernel_rfl) (by kernel_rfl) ?_; apply Exists.intro; refine ⟨fun w' hw' => ?_, ?_⟩; · have q0 := hw'.cell HC1.out; go_simp; exact ⟨rfl, Ext.refl _⟩
      refine reg_quiet 6 rfl (by kernel_rfl) (by kernel_rfl) ?_; apply Exists.intro; refine ⟨fun w' hw' => ?_, ?_⟩; · have q0 := HSA.out w' (HE.out.trans hw'); go_simp; exact ⟨rfl, Ext.refl _⟩
      refine reg_quiet 7 rfl (by kernel_rfl) (by kernel_rfl) ?_; apply Exists.intro; refine ⟨fun w' hw' => ?_, ?_⟩; · go_simp; exact ⟨rfl, Ext.refl _⟩
      refine reg_quiet 8 rfl (by kernel_rfl) (by kernel_rfl) ?_; apply Exists.intro; refine ⟨fun w' hw' => ?_, ?_⟩; · go_simp; exact ⟨rfl, Ext.refl _⟩
      refine reg_quiet 9 rfl (by kernel_rfl) (by kernel_rfl) ?_; apply Exists.intro; refine ⟨fun w' hw' => ?_, ?_⟩; · go_simp; exact ⟨rfl, Ext.refl _⟩
      refine reg_quiet 10 rfl (by kernel_rfl) (by kernel_rfl) ?_; apply Exists.intro; refine ⟨fun w' hw' => ?_, ?_⟩; · go_simp; exact ⟨rfl, Ext.refl _⟩
      refine reg_quiet 11 rfl (by kernel_rfl) (by kernel_rfl) ?_; apply Exists.intro; refine ⟨fun w' hw' => ?_, ?_⟩; · have q0 := (HE.out.trans hw').cell HS0.out; go_simp; exact ⟨rfl, Ext.refl _⟩
      refine reg_quiet 12 rfl (by kernel_rfl) (by kernel_rfl) ?_; apply Exists.intro; refine ⟨fun w' hw' => ?_, ?_⟩; · go_simp; exact ⟨rfl, Ext.refl _⟩
      refine reg_quiet 13 rfl (by kernel_rfl) (by kernel_rfl) ?_; apply Exists.intro; refine ⟨fun w' hw' => ?_, ?_⟩; · have q0 := hw'.cell HC2.out; go_simp; exact ⟨rfl, Ext.refl _⟩
      refine reg_quiet 14 rfl (by kernel_rfl) (by kernel_rfl) ?_; apply Exists.intro; refine ⟨fun w' hw' => ?_, ?_⟩; · have q0 := HSB.out w' (HE.out.trans hw'); go_simp; exact ⟨rfl, Ext.refl _⟩
      refine reg_quiet 15 rfl (by kernel_rfl) (by kernel_rfl) ?_; apply Exists.intro; refine ⟨fun w' hw' => ?_, ?_⟩; · go_simp; exact ⟨rfl, Ext.refl _⟩
      refine reg_quiet 16 rfl (by kernel_rfl) (by kernel_rfl) ?_; apply Exists.intro; refine ⟨fun w' hw' => ?_, ?_⟩; · go_simp; exact ⟨rfl, Ext.refl _⟩
      refine reg_done (by kernel_rfl) (fun W4 hw4 => ?_) _
      replace HE := hid (HE.out.trans hw4)
      clear hw4
      go_simp
      go_wp2_with fail
      go_ret
      exact ⟨by rw [hS, HXA.out, HXB.out]; rfl, HE.out⟩
    · skip
      refine reg_quiet 0 rfl (by kernel_rfl) (by kernel_rfl) ?_; apply Exists.intro; refine ⟨fun w' hw' => ?_, ?_⟩; · go_simp; exact ⟨rfl, Ext.refl _⟩
      refine reg_quiet 1 rfl (by kernel_rfl) (by kernel_rfl) ?_; apply Exists.intro; refine ⟨fun w' hw' => ?_, ?_⟩; · go_simp; exact ⟨rfl, Ext.refl _⟩
      refine reg_quiet 2 rfl (by kernel_rfl) (by kernel_rfl) ?_; apply Exists.intro; refine ⟨fun w' hw' => ?_, ?_⟩; · go_simp; exact ⟨rfl, Ext.refl _⟩
      refine reg_quiet 3 rfl (by kernel_rfl) (by kernel_rfl) ?_; apply Exists.intro; refine ⟨fun w' hw' => ?_, ?_⟩; · have q0 := (HE.out.trans hw').cell HS0.out; go_simp; exact ⟨rfl, Ext.refl _⟩
      refine reg_quiet 4 rfl (by kernel_rfl) (by kernel_rfl) ?_; apply Exists.intro; refine ⟨fun w' hw' => ?_, ?_⟩; · go_simp; exact ⟨rfl, Ext.refl _⟩
      refine reg_quiet 5 rfl (by kernel_rfl) (by kernel_rfl) ?_; apply Exists.intro; refine ⟨fun w' hw' => ?_, ?_⟩; · have q0 := hw'.cell HC1.out; go_simp; exact ⟨rfl, Ext.refl _⟩
      refine reg_quiet 6 rfl (by kernel_rfl) (by kernel_rfl) ?_; apply Exists.intro; refine ⟨fun w' hw' => ?_, ?_⟩; · have q0 := HSA.out w' (HE.out.trans hw'); go_simp; exact ⟨rfl, Ext.refl _⟩
      refine reg_quiet 7 rfl (by kernel_rfl) (by kernel_rfl) ?_; apply Exists.intro; refine ⟨fun w' hw' => ?_, ?_⟩; · go_simp; exact ⟨rfl, Ext.refl _⟩
      refine reg_skip 8 rfl (by kernel_rfl) (by kernel_rfl) ?_
      refine reg_skip 9 rfl (by kernel_rfl) (by kernel_rfl) ?_
      refine reg_skip 10 rfl (by kernel_rfl) (by kernel_rfl) ?_
      refine reg_skip 11 rfl (by kernel_rfl) (by kernel_rfl) ?_
      refine reg_skip 12 rfl (by kernel_rfl) (by kernel_rfl) ?_
      refine reg_skip 13 rfl (by kernel_rfl) (by kernel_rfl) ?_
      refine reg_skip 14 rfl (by kernel_rfl) (by kernel_rfl) ?_
      refine reg_quiet 15 rfl (by kernel_rfl) (by kernel_rfl) ?_; apply Exists.intro; refine ⟨fun w' hw' => ?_, ?_⟩; · go_simp; exact ⟨rfl, Ext.refl _⟩
      refine reg_quiet 16 rfl (by kernel_rfl) (by kernel_rfl) ?_; apply Exists.intro; refine ⟨fun w' hw' => ?_, ?_⟩; · go_simp; exact ⟨rfl, Ext.refl _⟩
      refine reg_done (by kernel_rfl) (fun W4 hw4 => ?_) _
      replace HE := hid (HE.out.trans hw4)
      clear hw4
      go_simp
      go_wp2_with fail
      go_ret
      exact ⟨by rw [hS, HXA.out, HXB.out]; rfl, HE.out⟩
  · skip
    go_wp2_with fail
    go_ret
    exact ⟨by rw [hS]; rfl, HE.out⟩


set_option maxHeartbeats 4000000 in
set_option maxRecDepth 100000 in
theorem can_chain (i : Int) (x y : Tm) (ihx : CanSaid f P x) (ihy : CanSaid f P y) : CanSaid f P (.chain i x y) := by
  intro w k v hI hK ha hs
  have hax : x.all Small := ha.2.1
  have hay : y.all Small := ha.2.2
  have px := sz_pos x
  have py := sz_pos y
  have hsz : sz (Tm.chain i x y) = 1 + sz x + sz y := by simp only [sz]
  have hsx : sz x ≤ 10000 := by omega
  have hsy : sz y ≤ 10000 := by omega
  clear px py hsz
  have hcan : can f v.x v.S (Tm.chain i x y) = (v.S (nm f (Tm.chain i x y)) || (can f v.x v.S x && can f v.x v.S y)) := rfl
  rw [hcan]
  clear hcan
  generalize hcx : can f v.x v.S x = cx
  generalize hcy : can f v.x v.S y = cy
  have HCX := hid hcx
  have HCY := hid hcy
  clear hcx hcy
  unfold Tm.val
  have hno := nm_ok hI (Tm.chain i x y) hs
  obtain ⟨xv, hlk⟩ := hK.look (nm f (Tm.chain i x y)) hno
  have hnm : ∀ W, Ext w W → Calls Tryz.prog 133 #[.agg #[.int .i64 i, x.val, y.val]] W fun e w' => e = .returned (str (nm f (Tm.chain i x y))) ∧ Ext W w' := fun W hW => call_name (Tm.chain i x y) w (by simp) hI ha hs W hW
  have HLK := hid hlk
  have HC := hid (cell_blk (j := 2) hK.blk rfl)
  have HNM := hid hnm
  have HK := hid hK
  have HI := hid hI
  clear hlk hnm hK hI hno
  generalize hnt : nm f (Tm.chain i x y) = nt at *
  have HNT := hid hnt
  clear hnt
  go_enter Tryz.func21, Tryz.ntmps21
  go_wp2_with fail
  refine reg_begin 12 (by kernel_rfl) ?_
  generalize hW : World.drew _ = W
  have HE : Hid (Ext w W) := hid (by rw [← hW]; exact Ext.drew _)
  clear hW
  refine reg_quiet 0 rfl (by kernel_rfl) (by kernel_rfl) ?_; apply Exists.intro; refine ⟨fun w' hw' => ?_, ?_⟩; · go_simp; exact ⟨rfl, Ext.refl _⟩
  refine reg_quiet 1 rfl (by kernel_rfl) (by kernel_rfl) ?_; apply Exists.intro; refine ⟨fun w' hw' => ?_, ?_⟩; · go_simp; exact ⟨rfl, Ext.refl _⟩
  refine reg_quiet 2 rfl (by kernel_rfl) (by kernel_rfl) ?_; apply Exists.intro; refine ⟨fun w' hw' => ?_, ?_⟩; · go_simp; exact ⟨rfl, Ext.refl _⟩
  refine reg_quiet 3 rfl (by kernel_rfl) (by kernel_rfl) ?_; apply Exists.intro; refine ⟨fun w' hw' => ?_, ?_⟩; · have q0 := (HE.out.trans hw').cell HC.out; go_simp; exact ⟨rfl, Ext.refl _⟩
  refine reg_quiet 4 rfl (by kernel_rfl) (by kernel_rfl) ?_; apply Exists.intro; refine ⟨fun w' hw' => ?_, ?_⟩; · go_simp; exact ⟨rfl, Ext.refl _⟩
  refine reg_quiet 5 rfl (by kernel_rfl) (by kernel_rfl) ?_; apply Exists.intro; refine ⟨fun w' hw' => ?_, ?_⟩; · go_simp; exact HNM.out w' (HE.out.trans hw')
  refine reg_quiet 6 rfl (by kernel_rfl) (by kernel_rfl) ?_; apply Exists.intro; refine ⟨fun w' hw' => ?_, ?_⟩; · have q0 := HLK.out w' (HE.out.trans hw'); go_simp; exact ⟨rfl, Ext.refl _⟩
  refine reg_quiet 7 rfl (by kernel_rfl) (by kernel_rfl) ?_; apply Exists.intro; refine ⟨fun w' hw' => ?_, ?_⟩; · go_simp; exact ⟨rfl, Ext.refl _⟩
  refine reg_quiet 8 rfl (by kernel_rfl) (by kernel_rfl) ?_; apply Exists.intro; refine ⟨fun w' hw' => ?_, ?_⟩; · go_simp; exact ⟨rfl, Ext.refl _⟩
  refine reg_quiet 9 rfl (by kernel_rfl) (by kernel_rfl) ?_; apply Exists.intro; refine ⟨fun w' hw' => ?_, ?_⟩; · go_simp; exact ⟨rfl, Ext.refl _⟩
  refine reg_quiet 10 rfl (by kernel_rfl) (by kernel_rfl) ?_; apply Exists.intro; refine ⟨fun w' hw' => ?_, ?_⟩; · go_simp; exact ⟨rfl, Ext.refl _⟩
  refine reg_quiet 11 rfl (by kernel_rfl) (by kernel_rfl) ?_; apply Exists.intro; refine ⟨fun w' hw' => ?_, ?_⟩; · go_simp; exact ⟨rfl, Ext.refl _⟩
  refine reg_done (by kernel_rfl) (fun W2 hw2 => ?_) _
  replace HE := hid (HE.out.trans hw2)
  clear hw2 HLK HNM HC
  go_simp
  cases hS : v.S nt
  · go_upto_region 21 with fail
    have c1 := cell_new (w := W2) (cs := #[.int .i64 i, x.val, y.val]) (t := 86) (fr := (0, 0)) (j := 1) rfl
    have c2 := cell_new (w := W2) (cs := #[.int .i64 i, x.val, y.val]) (t := 86) (fr := (0, 0)) (j := 1 + 1) rfl
    have hE3 : Ext W2 (W2.alloc (.cells #[.int .i64 i, x.val, y.val] 86 (0, 0))) := Ext.alloc _ _
    replace HE := hid (HE.out.trans hE3)
    have HC2 := hid c2
    clear hE3 c2
    generalize World.alloc W2 _ = W3 at *
    go_wp2_with fail
    refine (ihx _ k v (HI.out.later HE.out) (HK.out.later HE.out) hax hsx).mono ?_
    rintro e W5 ⟨rfl, hE5⟩
    replace HE := hid (HE.out.trans hE5)
    rw [HCX.out]
    clear c1
    have q2 := hE5.cell HC2.out
    clear hE5
    cases cx
    · skip
      go_wp2_with fail
      go_ret
      exact ⟨by rw [hS]; rfl, HE.out⟩
    · go_wp2_with fail
      refine (ihy _ k v (HI.out.later HE.out) (HK.out.later HE.out) hay hsy).mono ?_
      rintro e W6 ⟨rfl, hE5⟩
      replace HE := hid (HE.out.trans hE5)
      rw [HCY.out]
      clear hE5 q2
      go_wp2_with fail
      go_ret
      exact ⟨by rw [hS]; rfl, HE.out⟩
  · skip
    go_wp2_with fail
    go_ret
    exact ⟨by rw [hS]; rfl, HE.out⟩
set_option maxHeartbeats 4000000 in
set_option maxRecDepth 100000 in
theorem can_digest (x y : Tm) (ihx : CanSaid f P x) (ihy : CanSaid f P y) : CanSaid f P (.digest x y) := by
  intro w k v hI hK ha hs
  have hax : x.all Small := ha.1
  have hay : y.all Small := ha.2
  have px := sz_pos x
  have py := sz_pos y
  have hsz : sz (Tm.digest x y) = 1 + sz x + sz y := by simp only [sz]
  have hsx : sz x ≤ 10000 := by omega
  have hsy : sz y ≤ 10000 := by omega
  clear px py hsz
  have hcan : can f v.x v.S (Tm.digest x y) = (v.S (nm f (Tm.digest x y)) || (can f v.x v.S x && can f v.x v.S y)) := rfl
  rw [hcan]
  clear hcan
  generalize hcx : can f v.x v.S x = cx
  generalize hcy : can f v.x v.S y = cy
  have HCX := hid hcx
  have HCY := hid hcy
  clear hcx hcy
  unfold Tm.val
  have hno := nm_ok hI (Tm.digest x y) hs
  obtain ⟨xv, hlk⟩ := hK.look (nm f (Tm.digest x y)) hno
  have hnm : ∀ W, Ext w W → Calls Tryz.prog 143 #[.agg #[x.val, y.val]] W fun e w' => e = .returned (str (nm f (Tm.digest x y))) ∧ Ext W w' := fun W hW => call_name (Tm.digest x y) w (by simp) hI ha hs W hW
  have HLK := hid hlk
  have HC := hid (cell_blk (j := 2) hK.blk rfl)
  have HNM := hid hnm
  have HK := hid hK
  have HI := hid hI
  clear hlk hnm hK hI hno
  generalize hnt : nm f (Tm.digest x y) = nt at *
  have HNT := hid hnt
  clear hnt
  go_enter Tryz.func21, Tryz.ntmps21
  go_wp2_with fail
  refine reg_begin 12 (by kernel_rfl) ?_
  generalize hW : World.drew _ = W
  have HE : Hid (Ext w W) := hid (by rw [← hW]; exact Ext.drew _)
  clear hW
  refine reg_quiet 0 rfl (by kernel_rfl) (by kernel_rfl) ?_; apply Exists.intro; refine ⟨fun w' hw' => ?_, ?_⟩; · go_simp; exact ⟨rfl, Ext.refl _⟩
  refine reg_quiet 1 rfl (by kernel_rfl) (by kernel_rfl) ?_; apply Exists.intro; refine ⟨fun w' hw' => ?_, ?_⟩; · go_simp; exact ⟨rfl, Ext.refl _⟩
  refine reg_quiet 2 rfl (by kernel_rfl) (by kernel_rfl) ?_; apply Exists.intro; refine ⟨fun w' hw' => ?_, ?_⟩; · go_simp; exact ⟨rfl, Ext.refl _⟩
  refine reg_quiet 3 rfl (by kernel_rfl) (by kernel_rfl) ?_; apply Exists.intro; refine ⟨fun w' hw' => ?_, ?_⟩; · have q0 := (HE.out.trans hw').cell HC.out; go_simp; exact ⟨rfl, Ext.refl _⟩
  refine reg_quiet 4 rfl (by kernel_rfl) (by kernel_rfl) ?_; apply Exists.intro; refine ⟨fun w' hw' => ?_, ?_⟩; · go_simp; exact ⟨rfl, Ext.refl _⟩
  refine reg_quiet 5 rfl (by kernel_rfl) (by kernel_rfl) ?_; apply Exists.intro; refine ⟨fun w' hw' => ?_, ?_⟩; · go_simp; exact HNM.out w' (HE.out.trans hw')
  refine reg_quiet 6 rfl (by kernel_rfl) (by kernel_rfl) ?_; apply Exists.intro; refine ⟨fun w' hw' => ?_, ?_⟩; · have q0 := HLK.out w' (HE.out.trans hw'); go_simp; exact ⟨rfl, Ext.refl _⟩
  refine reg_quiet 7 rfl (by kernel_rfl) (by kernel_rfl) ?_; apply Exists.intro; refine ⟨fun w' hw' => ?_, ?_⟩; · go_simp; exact ⟨rfl, Ext.refl _⟩
  refine reg_quiet 8 rfl (by kernel_rfl) (by kernel_rfl) ?_; apply Exists.intro; refine ⟨fun w' hw' => ?_, ?_⟩; · go_simp; exact ⟨rfl, Ext.refl _⟩
  refine reg_quiet 9 rfl (by kernel_rfl) (by kernel_rfl) ?_; apply Exists.intro; refine ⟨fun w' hw' => ?_, ?_⟩; · go_simp; exact ⟨rfl, Ext.refl _⟩
  refine reg_quiet 10 rfl (by kernel_rfl) (by kernel_rfl) ?_; apply Exists.intro; refine ⟨fun w' hw' => ?_, ?_⟩; · go_simp; exact ⟨rfl, Ext.refl _⟩
  refine reg_quiet 11 rfl (by kernel_rfl) (by kernel_rfl) ?_; apply Exists.intro; refine ⟨fun w' hw' => ?_, ?_⟩; · go_simp; exact ⟨rfl, Ext.refl _⟩
  refine reg_done (by kernel_rfl) (fun W2 hw2 => ?_) _
  replace HE := hid (HE.out.trans hw2)
  clear hw2 HLK HNM HC
  go_simp
  cases hS : v.S nt
  · go_upto_region 24 with fail
    have c1 := cell_new (w := W2) (cs := #[x.val, y.val]) (t := 88) (fr := (0, 0)) (j := 0) rfl
    have c2 := cell_new (w := W2) (cs := #[x.val, y.val]) (t := 88) (fr := (0, 0)) (j := 0 + 1) rfl
    have hE3 : Ext W2 (W2.alloc (.cells #[x.val, y.val] 88 (0, 0))) := Ext.alloc _ _
    replace HE := hid (HE.out.trans hE3)
    have HC2 := hid c2
    clear hE3 c2
    generalize World.alloc W2 _ = W3 at *
    go_wp2_with fail
    refine (ihx _ k v (HI.out.later HE.out) (HK.out.later HE.out) hax hsx).mono ?_
    rintro e W5 ⟨rfl, hE5⟩
    replace HE := hid (HE.out.trans hE5)
    rw [HCX.out]
    clear c1
    have q2 := hE5.cell HC2.out
    clear hE5
    cases cx
    · skip
      go_wp2_with fail
      go_ret
      exact ⟨by rw [hS]; rfl, HE.out⟩
    · go_wp2_with fail
      refine (ihy _ k v (HI.out.later HE.out) (HK.out.later HE.out) hay hsy).mono ?_
      rintro e W6 ⟨rfl, hE5⟩
      replace HE := hid (HE.out.trans hE5)
      rw [HCY.out]
      clear hE5 q2
      go_wp2_with fail
      go_ret
      exact ⟨by rw [hS]; rfl, HE.out⟩
  · skip
    go_wp2_with fail
    go_ret
    exact ⟨by rw [hS]; rfl, HE.out⟩

set_option maxHeartbeats 4000000 in
set_option maxRecDepth 100000 in
theorem can_box (kk : Tm) (n : Int) (x y : Tm) (ihk : CanSaid f P kk) (ihx : CanSaid f P x) (ihy : CanSaid f P y) : CanSaid f P (.box kk n x y) := by
  intro w k v hI hK ha hs
  have hak : kk.all Small := ha.2.1
  have hax : x.all Small := ha.2.2.1
  have hay : y.all Small := ha.2.2.2
  have pk := sz_pos kk
  have px := sz_pos x
  have py := sz_pos y
  have hsz : sz (.box kk n x y) = 1 + sz kk + sz x + sz y := by simp only [sz]
  have hsk : sz kk ≤ 10000 := by omega
  have hsx : sz x ≤ 10000 := by omega
  have hsy : sz y ≤ 10000 := by omega
  clear pk px py hsz
  have hcan : can f v.x v.S (.box kk n x y) = (v.S (nm f (.box kk n x y)) || ((can f v.x v.S kk && can f v.x v.S x) && can f v.x v.S y)) := rfl
  rw [hcan]
  clear hcan
  generalize hck : can f v.x v.S kk = ck
  generalize hcx : can f v.x v.S x = cx
  generalize hcy : can f v.x v.S y = cy
  have HCK := hid hck
  have HCX := hid hcx
  have HCY := hid hcy
  clear hck hcx hcy
  unfold Tm.val
  have hno := nm_ok hI (Tm.box kk n x y) hs
  obtain ⟨xv, hlk⟩ := hK.look (nm f (Tm.box kk n x y)) hno
  have hnm : ∀ W, Ext w W → Calls Tryz.prog 144 #[.agg #[kk.val, .int .i64 n, x.val, y.val]] W fun e w' => e = .returned (str (nm f (Tm.box kk n x y))) ∧ Ext W w' := fun W hW => call_name (Tm.box kk n x y) w (by simp) hI ha hs W hW
  have HLK := hid hlk
  have HC := hid (cell_blk (j := 2) hK.blk rfl)
  have HNM := hid hnm
  have HK := hid hK
  have HI := hid hI
  clear hlk hnm hK hI hno
  generalize hnt : nm f (Tm.box kk n x y) = nt at *
  have HNT := hid hnt
  clear hnt
  go_enter Tryz.func21, Tryz.ntmps21
  go_wp2_with fail
  refine reg_begin 12 (by kernel_rfl) ?_
  generalize hW : World.drew _ = W
  have HE : Hid (Ext w W) := hid (by rw [← hW]; exact Ext.drew _)
  clear hW
  refine reg_quiet 0 rfl (by kernel_rfl) (by kernel_rfl) ?_; apply Exists.intro; refine ⟨fun w' hw' => ?_, ?_⟩; · go_simp; exact ⟨rfl, Ext.refl _⟩
  refine reg_quiet 1 rfl (by kernel_rfl) (by kernel_rfl) ?_; apply Exists.intro; refine ⟨fun w' hw' => ?_, ?_⟩; · go_simp; exact ⟨rfl, Ext.refl _⟩
  refine reg_quiet 2 rfl (by kernel_rfl) (by kernel_rfl) ?_; apply Exists.intro; refine ⟨fun w' hw' => ?_, ?_⟩; · go_simp; exact ⟨rfl, Ext.refl _⟩
  refine reg_quiet 3 rfl (by kernel_rfl) (by kernel_rfl) ?_; apply Exists.intro; refine ⟨fun w' hw' => ?_, ?_⟩; · have q0 := (HE.out.trans hw').cell HC.out; go_simp; exact ⟨rfl, Ext.refl _⟩
  refine reg_quiet 4 rfl (by kernel_rfl) (by kernel_rfl) ?_; apply Exists.intro; refine ⟨fun w' hw' => ?_, ?_⟩; · go_simp; exact ⟨rfl, Ext.refl _⟩
  refine reg_quiet 5 rfl (by kernel_rfl) (by kernel_rfl) ?_; apply Exists.intro; refine ⟨fun w' hw' => ?_, ?_⟩; · go_simp; exact HNM.out w' (HE.out.trans hw')
  refine reg_quiet 6 rfl (by kernel_rfl) (by kernel_rfl) ?_; apply Exists.intro; refine ⟨fun w' hw' => ?_, ?_⟩; · have q0 := HLK.out w' (HE.out.trans hw'); go_simp; exact ⟨rfl, Ext.refl _⟩
  refine reg_quiet 7 rfl (by kernel_rfl) (by kernel_rfl) ?_; apply Exists.intro; refine ⟨fun w' hw' => ?_, ?_⟩; · go_simp; exact ⟨rfl, Ext.refl _⟩
  refine reg_quiet 8 rfl (by kernel_rfl) (by kernel_rfl) ?_; apply Exists.intro; refine ⟨fun w' hw' => ?_, ?_⟩; · go_simp; exact ⟨rfl, Ext.refl _⟩
  refine reg_quiet 9 rfl (by kernel_rfl) (by kernel_rfl) ?_; apply Exists.intro; refine ⟨fun w' hw' => ?_, ?_⟩; · go_simp; exact ⟨rfl, Ext.refl _⟩
  refine reg_quiet 10 rfl (by kernel_rfl) (by kernel_rfl) ?_; apply Exists.intro; refine ⟨fun w' hw' => ?_, ?_⟩; · go_simp; exact ⟨rfl, Ext.refl _⟩
  refine reg_quiet 11 rfl (by kernel_rfl) (by kernel_rfl) ?_; apply Exists.intro; refine ⟨fun w' hw' => ?_, ?_⟩; · go_simp; exact ⟨rfl, Ext.refl _⟩
  refine reg_done (by kernel_rfl) (fun W2 hw2 => ?_) _
  replace HE := hid (HE.out.trans hw2)
  clear hw2 HLK HNM HC
  go_simp
  cases hS : v.S nt
  · go_upto_region 27 with fail
    have c0 := cell_new (w := W2) (cs := #[kk.val, .int .i64 n, x.val, y.val]) (t := 90) (fr := (0, 0)) (j := 0) rfl
    have c2 := cell_new (w := W2) (cs := #[kk.val, .int .i64 n, x.val, y.val]) (t := 90) (fr := (0, 0)) (j := 2) rfl
    have c3 := cell_new (w := W2) (cs := #[kk.val, .int .i64 n, x.val, y.val]) (t := 90) (fr := (0, 0)) (j := 3) rfl
    have hE3 : Ext W2 (W2.alloc (.cells #[kk.val, .int .i64 n, x.val, y.val] 90 (0, 0))) := Ext.alloc _ _
    replace HE := hid (HE.out.trans hE3)
    have HC2 := hid c2
    have HC3 := hid c3
    clear hE3 c2 c3
    generalize World.alloc W2 _ = W3 at *
    go_wp2_with fail
    refine (ihk _ k v (HI.out.later HE.out) (HK.out.later HE.out) hak hsk).mono ?_
    rintro e W5 ⟨rfl, hE5⟩
    replace HE := hid (HE.out.trans hE5)
    rw [HCK.out]
    clear c0
    have q2 := hE5.cell HC2.out
    replace HC3 := hid (hE5.cell HC3.out)
    clear hE5
    cases ck
    · go_wp2_with fail
      go_ret
      exact ⟨by rw [hS]; rfl, HE.out⟩
    · go_wp2_with fail
      refine (ihx _ k v (HI.out.later HE.out) (HK.out.later HE.out) hax hsx).mono ?_
      rintro e W6 ⟨rfl, hE5⟩
      replace HE := hid (HE.out.trans hE5)
      rw [HCX.out]
      clear q2
      have q3 := hE5.cell HC3.out
      clear hE5
      cases cx
      · go_wp2_with fail
        go_ret
        exact ⟨by rw [hS]; rfl, HE.out⟩
      · go_wp2_with fail
        refine (ihy _ k v (HI.out.later HE.out) (HK.out.later HE.out) hay hsy).mono ?_
        rintro e W7 ⟨rfl, hE5⟩
        replace HE := hid (HE.out.trans hE5)
        rw [HCY.out]
        clear hE5 q3
        go_wp2_with fail
        go_ret
        exact ⟨by rw [hS]; rfl, HE.out⟩
  · skip
    go_wp2_with fail
    go_ret
    exact ⟨by rw [hS]; rfl, HE.out⟩

theorem can_any : ∀ t : Tm, CanSaid f P t
  | .non => can_non
  | .empty => can_empty
  | .atom n => can_atom n
  | .pub n => can_pub n
  | .shared a b => can_shared a b
  | .chain i x y => can_chain i x y (can_any x) (can_any y)
  | .digest x y => can_digest x y (can_any x) (can_any y)
  | .box k n x y => can_box k n x y (can_any k) (can_any x) (can_any y)

end Go.Proofs.YtjodmedgkmeklaaGreat
