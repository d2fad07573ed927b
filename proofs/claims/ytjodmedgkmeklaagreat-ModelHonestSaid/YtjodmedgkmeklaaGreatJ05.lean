/-
  Texts merged: Dig, Tab, PlainN.
-/
import Derived.Shelf.Abstract
import Derived.Lib.ItoaMem
import Derived.Laws.IdiomStrings
import Derived.Test.YtjodmedgkmeklaaGreatJ04
import Derived.Test.YtjodmedgkmeklaaGreatJ03
/-
  formatBase10 at up to four places, whatever the number.
-/
namespace Go.Proofs.YtjodmedgkmeklaaGreat
open Go Go.RowKit
attribute [local go_sem] extUpon run_store_tm
attribute [local go_sem ↓] Tm.val_cell eval_put_ne eval_put_none eval_put_same size_put eval_const
attribute [local go_sem] w64_0 w64_1 w64_2 w64_3 w64_4

/-- A block of bytes, as numbers. -/
def bytesBlk (w : World) (g : Nat) (cs : List Int) : Prop := w.heap[g]? = some (.cells (cs.map (Value.int .u8)).toArray 169 (0, 0))

theorem bytes_cell {w : World} {g : Nat} {cs : List Int} (h : bytesBlk w g cs) (i : Nat) (x : Int) (hx : cs[i]? = some x) : w.cell? ⟨g, i, none⟩ = some (.int .u8 x) :=
  cell_blk h (by simp [hx])
theorem bytes_frozen {w : World} {g : Nat} {cs : List Int} (h : bytesBlk w g cs) (i : Nat) : w.frozen? ⟨g, i, none⟩ = false := by
  simp [World.frozen?, show w.heap[g]? = _ from h]
theorem bytes_set {w : World} {g : Nat} {cs : List Int} (h : bytesBlk w g cs) (i : Nat) (x : Int) : bytesBlk (w.setCell ⟨g, i, none⟩ (.int .u8 x)) g (cs.set i x) := by
  unfold bytesBlk at *
  simp only [World.setCell, Array.getElem?_modify, if_true, h]
  simp [List.map_set]
theorem bytes_ext {w w1 : World} {g : Nat} {cs : List Int} (h : bytesBlk w g cs) (he : Ext w w1) : bytesBlk w1 g cs := he.blk h

/-- Of two worlds only block g may part, and what is new. -/
def But (g : Nat) (w w' : World) : Prop := w'.os = w.os ∧ w'.tape = w.tape ∧ w'.output = w.output ∧ w.heap.size ≤ w'.heap.size ∧ ∀ k, k < w.heap.size → k ≠ g → w'.heap[k]? = w.heap[k]?
theorem But.refl (g : Nat) (w : World) : But g w w := ⟨rfl, rfl, rfl, Nat.le_refl _, fun _ _ _ => rfl⟩
theorem But.ext {g : Nat} {w w1 w2 : World} (h : But g w w1) (he : Ext w1 w2) : But g w w2 :=
  ⟨he.os.trans h.1, he.tape.trans h.2.1, he.output.trans h.2.2.1, Nat.le_trans h.2.2.2.1 he.size, fun k hk hg => (he.block k (Nat.lt_of_lt_of_le hk h.2.2.2.1)).trans (h.2.2.2.2 k hk hg)⟩
theorem But.set {g : Nat} {w w1 : World} (h : But g w w1) (i : Nat) (x : Value) : But g w (w1.setCell ⟨g, i, none⟩ x) :=
  ⟨h.1, h.2.1, h.2.2.1, by simpa [World.setCell] using h.2.2.2.1, fun k hk hg => (Below.heap_setCell _ _ _ _ hg).trans (h.2.2.2.2 k hk hg)⟩
theorem But.trans {g : Nat} {a b c : World} (h : But g a b) (k : But g b c) : But g a c :=
  ⟨k.1.trans h.1, k.2.1.trans h.2.1, k.2.2.1.trans h.2.2.1, Nat.le_trans h.2.2.2.1 k.2.2.2.1, fun i hi hg => (k.2.2.2.2 i (Nat.lt_of_lt_of_le hi h.2.2.2.1) hg).trans (h.2.2.2.2 i hi hg)⟩

/-- What formatBase10 writes, so many places, from a place on. -/
def wrote (cs : List Int) : Nat → Int → List Int
  | 0, _ => cs
  | 1, u => cs.set 1 ((48 + u) % 256)
  | 2, u => (cs.set 2 (48 + u % 100 % 10)).set 1 (48 + u % 100 / 10)
  | 3, u => ((cs.set 3 (48 + u % 100 % 10)).set 2 (48 + u % 100 / 10)).set 1 (48 + u / 100)
  | _, u => (((cs.set 4 (48 + u % 100 % 10)).set 3 (48 + u % 100 / 10)).set 2 (48 + u % 10000 / 100 % 10)).set 1 (48 + u % 10000 / 100 / 10)

def FbSaid (nd : Nat) : Prop := ∀ (g : Nat) (u : Int) (cs : List Int) (w : World), bytesBlk w g cs → cs.length = 24 → 0 ≤ u → u < 10000 →
    Calls Tryz.prog 122 #[.slice (some ⟨g, 1, none⟩) nd 23, .int .u64 u] w fun e w' => e = .returned (.tuple #[]) ∧ bytesBlk w' g (wrote cs nd u) ∧ But g w w'

set_option maxRecDepth 100000 in
theorem fb0 : FbSaid 0 := by
  intro g u cs w hb hc h0 h
  go_enter Tryz.func122, Tryz.ntmps122
  go_wp2
  refine wp_loop_once ?_
  go_wp2
  go_end0
  exact ⟨rfl, hb, But.refl _ _⟩

set_option maxRecDepth 100000 in
theorem fb1 : FbSaid 1 := by
  intro g u cs w hb hc h0 h
  have h1 := bytes_cell hb 1 _ (List.getElem?_eq_getElem (show 1 < cs.length by omega))
  have f1 := bytes_frozen hb 1
  have HB := hid hb
  clear hb
  generalize cs[1] = v1 at *
  go_enter Tryz.func122, Tryz.ntmps122
  go_wp2
  refine wp_loop_once ?_
  go_wp2
  go_end0
  exact ⟨rfl, bytes_set HB.out 1 _, (But.refl _ _).set 1 _⟩

set_option maxRecDepth 100000 in
theorem fb2 : FbSaid 2 := by
  intro g u cs w hb hc h0 h
  have HB := hid hb
  have HU := hid (But.refl g w)
  clear hb
  go_enter Tryz.func122, Tryz.ntmps122
  go_wp2
  refine wp_loop_once ?_
  go_wp2
  obtain ⟨k, hk⟩ : ∃ k : Nat, u % 100 = (k : Int) := ⟨(u % 100).toNat, by omega⟩
  have hk1 : k < 100 := by omega
  rw [hk]
  have HKk := hid hk
  have hw32 := w32 (x := (k : Int) * 2 + 1) (by omega) (by omega)
  clear hk
  refine reg_begin 0 (by kernel_rfl) ?_
  refine reg_pure 0 rfl (by kernel_rfl) rfl ?_
  apply Exists.intro
  refine ⟨fun w' => ?_, ?_⟩
  · go_simp
    exact rfl
  refine reg_pure 1 rfl (by kernel_rfl) rfl ?_
  apply Exists.intro
  refine ⟨fun w' => ?_, ?_⟩
  · go_simp
    exact rfl
  refine reg_pure 2 rfl (by kernel_rfl) rfl ?_
  apply Exists.intro
  refine ⟨fun w' => ?_, ?_⟩
  · go_simp
    exact rfl
  refine reg_pure 3 rfl (by kernel_rfl) rfl ?_
  apply Exists.intro
  refine ⟨fun w' => ?_, ?_⟩
  · go_simp
    exact rfl
  refine reg_pure 4 rfl (by kernel_rfl) rfl ?_
  apply Exists.intro
  refine ⟨fun w' => ?_, ?_⟩
  · go_simp
    exact rfl
  refine reg_pure 5 rfl (by kernel_rfl) rfl ?_
  apply Exists.intro
  refine ⟨fun w' => ?_, ?_⟩
  · go_simp
    exact rfl
  refine reg_pure 6 rfl (by kernel_rfl) rfl ?_
  apply Exists.intro
  refine ⟨fun w' => ?_, ?_⟩
  · go_simp
    exact rfl
  refine reg_pure 7 rfl (by kernel_rfl) rfl ?_
  apply Exists.intro
  refine ⟨fun w' => ?_, ?_⟩
  · go_simp
    exact rfl
  refine reg_index 8 (.int .u8 (48 + (k : Int) % 10)) rfl (by kernel_rfl) (by go_simp) (sm1 k hk1) ?_
  refine reg_pure 9 rfl (by kernel_rfl) rfl ?_
  apply Exists.intro
  refine ⟨fun w' => ?_, ?_⟩
  · go_simp
    exact rfl
  refine reg_index 10 (.int .u8 (48 + (k : Int) / 10)) rfl (by kernel_rfl) (by go_simp) (sm0 k hk1) ?_
  clear hw32 hk1
  generalize hW : World.drew _ = W
  have HBW := hid (show bytesBlk W g (cs) by rw [← hW]; exact bytes_ext HB.out (Ext.drew _))
  have HUW := hid (show But g w W by rw [← hW]; exact HU.out.ext (Ext.drew _))
  clear hW HB HU
  refine reg_one 11 rfl (by kernel_rfl) rfl (fun w' hw' => ?_)
  have HB1 := hid (bytes_ext HBW.out hw')
  have HU1 := hid (HUW.out.ext hw')
  clear HBW HUW hw'
  go_simp
  refine reg_one 12 rfl (by kernel_rfl) rfl (fun w' hw' => ?_)
  have HB2 := hid (bytes_ext HB1.out hw')
  have HU2 := hid (HU1.out.ext hw')
  clear HB1 HU1 hw'
  have c2 := bytes_cell HB2.out 2 _ (List.getElem?_eq_getElem (show 2 < (cs).length by first | omega | (simp only [List.length_set]; omega)))
  have f2 := bytes_frozen HB2.out 2
  go_simp
  clear c2 f2
  have HB3 := hid (bytes_set HB2.out 2 (48 + (k : Int) % 10))
  have HU3 := hid (HU2.out.set 2 (.int .u8 (48 + (k : Int) % 10)))
  clear HB2 HU2
  generalize World.setCell _ _ _ = W3 at *
  refine reg_one 13 rfl (by kernel_rfl) rfl (fun w' hw' => ?_)
  have HB4 := hid (bytes_ext HB3.out hw')
  have HU4 := hid (HU3.out.ext hw')
  clear HB3 HU3 hw'
  go_simp
  refine reg_one 14 rfl (by kernel_rfl) rfl (fun w' hw' => ?_)
  have HB5 := hid (bytes_ext HB4.out hw')
  have HU5 := hid (HU4.out.ext hw')
  clear HB4 HU4 hw'
  have c2 := bytes_cell HB5.out 1 _ (List.getElem?_eq_getElem (show 1 < (List.set (cs) 2 (48 + (k : Int) % 10)).length by first | omega | (simp only [List.length_set]; omega)))
  have f2 := bytes_frozen HB5.out 1
  go_simp
  clear c2 f2
  have HB := hid (bytes_set HB5.out 1 (48 + (k : Int) / 10))
  have HU := hid (HU5.out.set 1 (.int .u8 (48 + (k : Int) / 10)))
  clear HB5 HU5
  generalize World.setCell _ _ _ = W6 at *
  refine reg_done (by kernel_rfl) (fun w' hw' => ?_) _
  replace HB := hid (bytes_ext HB.out hw')
  replace HU := hid (HU.out.ext hw')
  clear hw'
  go_simp
  go_wp2
  go_end0
  exact ⟨rfl, by have := HB.out; simp only [wrote, HKk.out]; exact this, HU.out⟩

set_option maxRecDepth 100000 in
theorem fb3 : FbSaid 3 := by
  intro g u cs w hb hc h0 h
  have HB := hid hb
  have HU := hid (But.refl g w)
  clear hb
  go_enter Tryz.func122, Tryz.ntmps122
  go_wp2
  refine wp_loop_once ?_
  go_wp2
  obtain ⟨k, hk⟩ : ∃ k : Nat, u % 100 = (k : Int) := ⟨(u % 100).toNat, by omega⟩
  have hk1 : k < 100 := by omega
  rw [hk]
  have HKk := hid hk
  have hw32 := w32 (x := (k : Int) * 2 + 1) (by omega) (by omega)
  clear hk
  refine reg_begin 0 (by kernel_rfl) ?_
  refine reg_pure 0 rfl (by kernel_rfl) rfl ?_
  apply Exists.intro
  refine ⟨fun w' => ?_, ?_⟩
  · go_simp
    exact rfl
  refine reg_pure 1 rfl (by kernel_rfl) rfl ?_
  apply Exists.intro
  refine ⟨fun w' => ?_, ?_⟩
  · go_simp
    exact rfl
  refine reg_pure 2 rfl (by kernel_rfl) rfl ?_
  apply Exists.intro
  refine ⟨fun w' => ?_, ?_⟩
  · go_simp
    exact rfl
  refine reg_pure 3 rfl (by kernel_rfl) rfl ?_
  apply Exists.intro
  refine ⟨fun w' => ?_, ?_⟩
  · go_simp
    exact rfl
  refine reg_pure 4 rfl (by kernel_rfl) rfl ?_
  apply Exists.intro
  refine ⟨fun w' => ?_, ?_⟩
  · go_simp
    exact rfl
  refine reg_pure 5 rfl (by kernel_rfl) rfl ?_
  apply Exists.intro
  refine ⟨fun w' => ?_, ?_⟩
  · go_simp
    exact rfl
  refine reg_pure 6 rfl (by kernel_rfl) rfl ?_
  apply Exists.intro
  refine ⟨fun w' => ?_, ?_⟩
  · go_simp
    exact rfl
  refine reg_pure 7 rfl (by kernel_rfl) rfl ?_
  apply Exists.intro
  refine ⟨fun w' => ?_, ?_⟩
  · go_simp
    exact rfl
  refine reg_index 8 (.int .u8 (48 + (k : Int) % 10)) rfl (by kernel_rfl) (by go_simp) (sm1 k hk1) ?_
  refine reg_pure 9 rfl (by kernel_rfl) rfl ?_
  apply Exists.intro
  refine ⟨fun w' => ?_, ?_⟩
  · go_simp
    exact rfl
  refine reg_index 10 (.int .u8 (48 + (k : Int) / 10)) rfl (by kernel_rfl) (by go_simp) (sm0 k hk1) ?_
  clear hw32 hk1
  generalize hW : World.drew _ = W
  have HBW := hid (show bytesBlk W g (cs) by rw [← hW]; exact bytes_ext HB.out (Ext.drew _))
  have HUW := hid (show But g w W by rw [← hW]; exact HU.out.ext (Ext.drew _))
  clear hW HB HU
  refine reg_one 11 rfl (by kernel_rfl) rfl (fun w' hw' => ?_)
  have HB1 := hid (bytes_ext HBW.out hw')
  have HU1 := hid (HUW.out.ext hw')
  clear HBW HUW hw'
  go_simp
  refine reg_one 12 rfl (by kernel_rfl) rfl (fun w' hw' => ?_)
  have HB2 := hid (bytes_ext HB1.out hw')
  have HU2 := hid (HU1.out.ext hw')
  clear HB1 HU1 hw'
  have c2 := bytes_cell HB2.out 3 _ (List.getElem?_eq_getElem (show 3 < (cs).length by first | omega | (simp only [List.length_set]; omega)))
  have f2 := bytes_frozen HB2.out 3
  go_simp
  clear c2 f2
  have HB3 := hid (bytes_set HB2.out 3 (48 + (k : Int) % 10))
  have HU3 := hid (HU2.out.set 3 (.int .u8 (48 + (k : Int) % 10)))
  clear HB2 HU2
  generalize World.setCell _ _ _ = W3 at *
  refine reg_one 13 rfl (by kernel_rfl) rfl (fun w' hw' => ?_)
  have HB4 := hid (bytes_ext HB3.out hw')
  have HU4 := hid (HU3.out.ext hw')
  clear HB3 HU3 hw'
  go_simp
  refine reg_one 14 rfl (by kernel_rfl) rfl (fun w' hw' => ?_)
  have HB5 := hid (bytes_ext HB4.out hw')
  have HU5 := hid (HU4.out.ext hw')
  clear HB4 HU4 hw'
  have c2 := bytes_cell HB5.out 2 _ (List.getElem?_eq_getElem (show 2 < (List.set (cs) 3 (48 + (k : Int) % 10)).length by first | omega | (simp only [List.length_set]; omega)))
  have f2 := bytes_frozen HB5.out 2
  go_simp
  clear c2 f2
  have HB := hid (bytes_set HB5.out 2 (48 + (k : Int) / 10))
  have HU := hid (HU5.out.set 2 (.int .u8 (48 + (k : Int) / 10)))
  clear HB5 HU5
  generalize World.setCell _ _ _ = W6 at *
  refine reg_done (by kernel_rfl) (fun w' hw' => ?_) _
  replace HB := hid (bytes_ext HB.out hw')
  replace HU := hid (HU.out.ext hw')
  clear hw'
  go_simp
  have c1 := bytes_cell HB.out 1 _ (List.getElem?_eq_getElem (show 1 < (List.set (List.set cs 3 (48 + (k : Int) % 10)) 2 (48 + (k : Int) / 10)).length by simp only [List.length_set]; omega))
  have f1 := bytes_frozen HB.out 1
  go_wp2
  go_end0
  exact ⟨rfl, by have := bytes_set HB.out 1 (48 + u / 100); simp only [wrote, HKk.out]; exact this, HU.out.set 1 _⟩

set_option maxRecDepth 100000 in
theorem fb4 : FbSaid 4 := by
  intro g u cs w hb hc h0 h
  have HB := hid hb
  have HU := hid (But.refl g w)
  clear hb
  go_enter Tryz.func122, Tryz.ntmps122
  go_wp2
  refine wp_loop_once ?_
  go_wp2
  obtain ⟨k, hk⟩ : ∃ k : Nat, u % 100 = (k : Int) := ⟨(u % 100).toNat, by omega⟩
  have hk1 : k < 100 := by omega
  rw [hk]
  have HKk := hid hk
  have hw32 := w32 (x := (k : Int) * 2 + 1) (by omega) (by omega)
  clear hk
  refine reg_begin 0 (by kernel_rfl) ?_
  refine reg_pure 0 rfl (by kernel_rfl) rfl ?_
  apply Exists.intro
  refine ⟨fun w' => ?_, ?_⟩
  · go_simp
    exact rfl
  refine reg_pure 1 rfl (by kernel_rfl) rfl ?_
  apply Exists.intro
  refine ⟨fun w' => ?_, ?_⟩
  · go_simp
    exact rfl
  refine reg_pure 2 rfl (by kernel_rfl) rfl ?_
  apply Exists.intro
  refine ⟨fun w' => ?_, ?_⟩
  · go_simp
    exact rfl
  refine reg_pure 3 rfl (by kernel_rfl) rfl ?_
  apply Exists.intro
  refine ⟨fun w' => ?_, ?_⟩
  · go_simp
    exact rfl
  refine reg_pure 4 rfl (by kernel_rfl) rfl ?_
  apply Exists.intro
  refine ⟨fun w' => ?_, ?_⟩
  · go_simp
    exact rfl
  refine reg_pure 5 rfl (by kernel_rfl) rfl ?_
  apply Exists.intro
  refine ⟨fun w' => ?_, ?_⟩
  · go_simp
    exact rfl
  refine reg_pure 6 rfl (by kernel_rfl) rfl ?_
  apply Exists.intro
  refine ⟨fun w' => ?_, ?_⟩
  · go_simp
    exact rfl
  refine reg_pure 7 rfl (by kernel_rfl) rfl ?_
  apply Exists.intro
  refine ⟨fun w' => ?_, ?_⟩
  · go_simp
    exact rfl
  refine reg_index 8 (.int .u8 (48 + (k : Int) % 10)) rfl (by kernel_rfl) (by go_simp) (sm1 k hk1) ?_
  refine reg_pure 9 rfl (by kernel_rfl) rfl ?_
  apply Exists.intro
  refine ⟨fun w' => ?_, ?_⟩
  · go_simp
    exact rfl
  refine reg_index 10 (.int .u8 (48 + (k : Int) / 10)) rfl (by kernel_rfl) (by go_simp) (sm0 k hk1) ?_
  clear hw32 hk1
  generalize hW : World.drew _ = W
  have HBW := hid (show bytesBlk W g (cs) by rw [← hW]; exact bytes_ext HB.out (Ext.drew _))
  have HUW := hid (show But g w W by rw [← hW]; exact HU.out.ext (Ext.drew _))
  clear hW HB HU
  refine reg_one 11 rfl (by kernel_rfl) rfl (fun w' hw' => ?_)
  have HB1 := hid (bytes_ext HBW.out hw')
  have HU1 := hid (HUW.out.ext hw')
  clear HBW HUW hw'
  go_simp
  refine reg_one 12 rfl (by kernel_rfl) rfl (fun w' hw' => ?_)
  have HB2 := hid (bytes_ext HB1.out hw')
  have HU2 := hid (HU1.out.ext hw')
  clear HB1 HU1 hw'
  have c2 := bytes_cell HB2.out 4 _ (List.getElem?_eq_getElem (show 4 < (cs).length by first | omega | (simp only [List.length_set]; omega)))
  have f2 := bytes_frozen HB2.out 4
  go_simp
  clear c2 f2
  have HB3 := hid (bytes_set HB2.out 4 (48 + (k : Int) % 10))
  have HU3 := hid (HU2.out.set 4 (.int .u8 (48 + (k : Int) % 10)))
  clear HB2 HU2
  generalize World.setCell _ _ _ = W3 at *
  refine reg_one 13 rfl (by kernel_rfl) rfl (fun w' hw' => ?_)
  have HB4 := hid (bytes_ext HB3.out hw')
  have HU4 := hid (HU3.out.ext hw')
  clear HB3 HU3 hw'
  go_simp
  refine reg_one 14 rfl (by kernel_rfl) rfl (fun w' hw' => ?_)
  have HB5 := hid (bytes_ext HB4.out hw')
  have HU5 := hid (HU4.out.ext hw')
  clear HB4 HU4 hw'
  have c2 := bytes_cell HB5.out 3 _ (List.getElem?_eq_getElem (show 3 < (List.set (cs) 4 (48 + (k : Int) % 10)).length by first | omega | (simp only [List.length_set]; omega)))
  have f2 := bytes_frozen HB5.out 3
  go_simp
  clear c2 f2
  have HB := hid (bytes_set HB5.out 3 (48 + (k : Int) / 10))
  have HU := hid (HU5.out.set 3 (.int .u8 (48 + (k : Int) / 10)))
  clear HB5 HU5
  generalize World.setCell _ _ _ = W6 at *
  refine reg_done (by kernel_rfl) (fun w' hw' => ?_) _
  replace HB := hid (bytes_ext HB.out hw')
  replace HU := hid (HU.out.ext hw')
  clear hw'
  go_simp
  go_wp2
  obtain ⟨j, hk⟩ : ∃ j : Nat, u % 10000 / 100 = (j : Int) := ⟨(u % 10000 / 100).toNat, by omega⟩
  have hk1 : j < 100 := by omega
  rw [hk]
  have HKj := hid hk
  have hw32 := w32 (x := (j : Int) * 2 + 1) (by omega) (by omega)
  clear hk
  refine reg_begin 0 (by kernel_rfl) ?_
  refine reg_pure 0 rfl (by kernel_rfl) rfl ?_
  apply Exists.intro
  refine ⟨fun w' => ?_, ?_⟩
  · go_simp
    exact rfl
  refine reg_pure 1 rfl (by kernel_rfl) rfl ?_
  apply Exists.intro
  refine ⟨fun w' => ?_, ?_⟩
  · go_simp
    exact rfl
  refine reg_pure 2 rfl (by kernel_rfl) rfl ?_
  apply Exists.intro
  refine ⟨fun w' => ?_, ?_⟩
  · go_simp
    exact rfl
  refine reg_pure 3 rfl (by kernel_rfl) rfl ?_
  apply Exists.intro
  refine ⟨fun w' => ?_, ?_⟩
  · go_simp
    exact rfl
  refine reg_pure 4 rfl (by kernel_rfl) rfl ?_
  apply Exists.intro
  refine ⟨fun w' => ?_, ?_⟩
  · go_simp
    exact rfl
  refine reg_pure 5 rfl (by kernel_rfl) rfl ?_
  apply Exists.intro
  refine ⟨fun w' => ?_, ?_⟩
  · go_simp
    exact rfl
  refine reg_pure 6 rfl (by kernel_rfl) rfl ?_
  apply Exists.intro
  refine ⟨fun w' => ?_, ?_⟩
  · go_simp
    exact rfl
  refine reg_pure 7 rfl (by kernel_rfl) rfl ?_
  apply Exists.intro
  refine ⟨fun w' => ?_, ?_⟩
  · go_simp
    exact rfl
  refine reg_index 8 (.int .u8 (48 + (j : Int) % 10)) rfl (by kernel_rfl) (by go_simp) (sm1 j hk1) ?_
  refine reg_pure 9 rfl (by kernel_rfl) rfl ?_
  apply Exists.intro
  refine ⟨fun w' => ?_, ?_⟩
  · go_simp
    exact rfl
  refine reg_index 10 (.int .u8 (48 + (j : Int) / 10)) rfl (by kernel_rfl) (by go_simp) (sm0 j hk1) ?_
  clear hw32 hk1
  generalize hW : World.drew _ = W
  have HBW := hid (show bytesBlk W g (List.set (List.set cs 4 (48 + (k : Int) % 10)) 3 (48 + (k : Int) / 10)) by rw [← hW]; exact bytes_ext HB.out (Ext.drew _))
  have HUW := hid (show But g w W by rw [← hW]; exact HU.out.ext (Ext.drew _))
  clear hW HB HU
  refine reg_one 11 rfl (by kernel_rfl) rfl (fun w' hw' => ?_)
  have HB1 := hid (bytes_ext HBW.out hw')
  have HU1 := hid (HUW.out.ext hw')
  clear HBW HUW hw'
  go_simp
  refine reg_one 12 rfl (by kernel_rfl) rfl (fun w' hw' => ?_)
  have HB2 := hid (bytes_ext HB1.out hw')
  have HU2 := hid (HU1.out.ext hw')
  clear HB1 HU1 hw'
  have c2 := bytes_cell HB2.out 2 _ (List.getElem?_eq_getElem (show 2 < (List.set (List.set cs 4 (48 + (k : Int) % 10)) 3 (48 + (k : Int) / 10)).length by first | omega | (simp only [List.length_set]; omega)))
  have f2 := bytes_frozen HB2.out 2
  go_simp
  clear c2 f2
  have HB3 := hid (bytes_set HB2.out 2 (48 + (j : Int) % 10))
  have HU3 := hid (HU2.out.set 2 (.int .u8 (48 + (j : Int) % 10)))
  clear HB2 HU2
  generalize World.setCell _ _ _ = W3 at *
  refine reg_one 13 rfl (by kernel_rfl) rfl (fun w' hw' => ?_)
  have HB4 := hid (bytes_ext HB3.out hw')
  have HU4 := hid (HU3.out.ext hw')
  clear HB3 HU3 hw'
  go_simp
  refine reg_one 14 rfl (by kernel_rfl) rfl (fun w' hw' => ?_)
  have HB5 := hid (bytes_ext HB4.out hw')
  have HU5 := hid (HU4.out.ext hw')
  clear HB4 HU4 hw'
  have c2 := bytes_cell HB5.out 1 _ (List.getElem?_eq_getElem (show 1 < (List.set (List.set (List.set cs 4 (48 + (k : Int) % 10)) 3 (48 + (k : Int) / 10)) 2 (48 + (j : Int) % 10)).length by first | omega | (simp only [List.length_set]; omega)))
  have f2 := bytes_frozen HB5.out 1
  go_simp
  clear c2 f2
  have HB := hid (bytes_set HB5.out 1 (48 + (j : Int) / 10))
  have HU := hid (HU5.out.set 1 (.int .u8 (48 + (j : Int) / 10)))
  clear HB5 HU5
  generalize World.setCell _ _ _ = W6 at *
  refine reg_done (by kernel_rfl) (fun w' hw' => ?_) _
  replace HB := hid (bytes_ext HB.out hw')
  replace HU := hid (HU.out.ext hw')
  clear hw'
  go_simp
  go_wp2
  go_end0
  exact ⟨rfl, by have := HB.out; simp only [wrote, HKk.out, HKj.out]; exact this, HU.out⟩

theorem fb_any (nd : Nat) (h : nd ≤ 4) : FbSaid nd := by
  match nd, h with
  | 0, _ => exact fb0
  | 1, _ => exact fb1
  | 2, _ => exact fb2
  | 3, _ => exact fb3
  | 4, _ => exact fb4

end Go.Proofs.YtjodmedgkmeklaaGreat

/-
  strconv.Itoa over any digit table, for numbers under 8192.
-/
namespace Go.Proofs.YtjodmedgkmeklaaGreat
open Go Go.RowKit
attribute [local go_sem] extUpon run_store_tm
attribute [local go_sem ↓] Tm.val_cell eval_put_ne eval_put_none eval_put_same size_put eval_const

/-- The digit table holds these numbers. -/
def TabAt (w : World) (T : Nat → Int) : Prop := ∀ i, i < 20 → w.cell? ⟨0, i, none⟩ = some (.int .u64 (T i))
theorem TabAt.later {w w1 : World} {T : Nat → Int} (h : TabAt w T) (he : Ext w w1) : TabAt w1 T := fun i hi => he.cell (h i hi)

def nd (T : Nat → Int) (u : Nat) : Nat := Lib.l10 (Lib.bitLen u) + if T (Lib.l10 (Lib.bitLen u)) ≤ u then 1 else 0
theorem l10_le : ∀ x, x < 14 → Lib.l10 x ≤ 3 := by decide
theorem l10_bit {u : Nat} (h : u < 8192) : Lib.l10 (Lib.bitLen u) ≤ 3 := l10_le _ (by have := Lib.bitLen_le u 13 (by omega) (by omega); omega)
theorem nd_le (T : Nat → Int) {u : Nat} (h : u < 8192) : nd T u ≤ 4 := by
  have := l10_bit h
  unfold nd; split <;> omega

set_option maxRecDepth 100000 in
theorem numDigits_any (T : Nat → Int) (u : Nat) (h1 : 1 ≤ u) (h2 : u < 8192) (w : World) (hT : TabAt w T) :
    Calls Tryz.prog 121 #[.int .u64 u] w fun e w' => e = .returned (.int .i64 (nd T u)) ∧ w' = w := by
  have hL : Lib.bitLen u ≤ 64 := Nat.le_trans (Lib.bitLen_le u 13 (by omega) (by omega)) (by omega)
  have hq3 := l10_bit h2
  have hcell := hT (Lib.l10 (Lib.bitLen u)) (by omega)
  have hto : ((u : Int)).toNat = u := by omega
  have hnd : nd T u = Lib.l10 (Lib.bitLen u) + if T (Lib.l10 (Lib.bitLen u)) ≤ u then 1 else 0 := rfl
  generalize hq : Lib.l10 (Lib.bitLen u) = q at hnd hq3 hcell
  generalize T q = tq at hnd hcell
  have Hnd := hid hnd
  clear hnd hT
  go_enter Tryz.func121, Tryz.ntmps121
  go_wp2_with (first
    | (go_at_call 93; refine (Tryz.bits_Len64 _ _ (by omega) (by omega)).mono ?_; rintro e w' ⟨rfl, rfl⟩)
    | (go_at_call 124; refine (Tryz.internal_strconv_log10Pow2 _ (by first | exact hL | (rw [hto]; exact hL)) _).mono ?_; rintro e w' ⟨rfl, rfl⟩)
    | (go_at_call 125; refine (Tryz.internal_strconv_bool2_int _ _).mono ?_; rintro e w' ⟨rfl, rfl⟩))
  all_goals go_ret
  all_goals (
    refine ⟨?_, rfl⟩
    have hnd := Hnd.out
    congr 2
    split at hnd <;> simp_all <;> omega)

def zero24 : List Int := List.replicate 24 0
def bt (i : Int) : UInt8 := UInt8.ofNat i.toNat
theorem bt_int {i : Int} (h0 : 0 ≤ i) (h : i < 256) : ((bt i).toNat : Int) = i := by
  simp [bt]; omega
def dgs (T : Nat → Int) (u : Nat) : List Int := ((wrote zero24 (nd T u) u).drop 1).take (nd T u)
def dg (T : Nat → Int) (u : Nat) : List UInt8 := (dgs T u).map bt
def itoaT (T : Nat → Int) (n : Int) : List UInt8 := if n < 0 then 45 :: dg T n.natAbs else if n < 100 then Lib.decDigits n.toNat else dg T n.toNat

theorem wrote_len (cs : List Int) (n : Nat) (u : Int) : (wrote cs n u).length = cs.length := by
  unfold wrote; split <;> simp
theorem all_set {p : Int → Prop} {cs : List Int} {i : Nat} {x : Int} (h : ∀ c ∈ cs, p c) (hx : p x) : ∀ c ∈ cs.set i x, p c := by
  intro c hc
  rcases List.mem_or_eq_of_mem_set hc with h1 | rfl
  · exact h c h1
  · exact hx
theorem wrote_ok (n : Nat) (u : Int) (h0 : 0 ≤ u) (h : u < 8192) : ∀ c ∈ wrote zero24 n u, 0 ≤ c ∧ c < 256 := by
  have hz : ∀ c ∈ zero24, 0 ≤ c ∧ c < 256 := by
    intro c hc; rw [zero24, List.mem_replicate] at hc; omega
  by_cases h100 : u < 1000
  · unfold wrote; split <;> repeat' first | exact hz | refine all_set ?_ (by omega)
  · unfold wrote; split
    · exact hz
    · exact all_set hz (by omega)
    · exact all_set (all_set hz (by omega)) (by omega)
    · exact all_set (all_set (all_set hz (by omega)) (by omega)) (by omega)
    · exact all_set (all_set (all_set (all_set hz (by omega)) (by omega)) (by omega)) (by omega)

theorem dgs_len (T : Nat → Int) {u : Nat} (h : u < 8192) : (dgs T u).length = nd T u := by
  have := nd_le T h
  simp [dgs, wrote_len, zero24]; omega
theorem dg_len (T : Nat → Int) {u : Nat} (h : u < 8192) : (dg T u).length = nd T u := by rw [dg, List.length_map, dgs_len T h]
theorem dgs_at (T : Nat → Int) (u : Nat) (j : Nat) (h : j < nd T u) : (dgs T u)[j]? = (wrote zero24 (nd T u) u)[1 + j]? := by
  simp [dgs, h, Nat.add_comm]
theorem dg_at (T : Nat → Int) {u : Nat} (hu : u < 8192) (j : Nat) (h : j < (dg T u).length) : (wrote zero24 (nd T u) u)[1 + j]? = some ((dg T u)[j].toNat : Int) := by
  have hl : j < nd T u := by rw [dg_len T hu] at h; exact h
  have hl2 : j < (dgs T u).length := by rw [dgs_len T hu]; exact hl
  rw [← dgs_at T u j hl, List.getElem?_eq_getElem hl2]
  have hm : (dgs T u)[j] ∈ wrote zero24 (nd T u) u := List.mem_of_mem_drop (List.mem_of_mem_take (List.getElem_mem hl2))
  have ho := wrote_ok _ _ (by omega) (by omega) _ hm
  simp only [dg, List.getElem_map]
  rw [bt_int ho.1 ho.2]

theorem zeros24_blk (w : World) (t : TypeId) (ht : t = 169) : bytesBlk (w.alloc (.cells Lib.zeros24 t (0, 0))) w.heap.size zero24 := by
  subst ht
  unfold bytesBlk
  rw [blk_new]
  rfl

theorem But.toExt {w w1 w2 : World} (he : Ext w w1) (hb : But w.heap.size w1 w2) : Ext w w2 :=
  ⟨hb.1.trans he.os, hb.2.1.trans he.tape, hb.2.2.1.trans he.output, Nat.le_trans he.size hb.2.2.2.1, fun k hk => (hb.2.2.2.2 k (Nat.lt_of_lt_of_le hk he.size) (by omega)).trans (he.block k hk)⟩

set_option maxHeartbeats 2000000 in
set_option maxRecDepth 100000 in
theorem format_neg (T : Nat → Int) (u : Nat) (h1 : 1 ≤ u) (h2 : u < 8192) (w : World) (hT : TabAt w T) :
    Calls Tryz.prog 119 #[.int .i64 (-(u : Int)), .int .i64 10] w fun e w' => e = .returned (str (45 :: dg T u)) ∧ Ext w w' := by
  have hn4 := nd_le T h2
  have hwr : IntKind.u64.wrap (-IntKind.u64.wrap (-(u : Int))) = (u : Int) := by rw [IntKind.wrap_u64, IntKind.wrap_u64]; omega
  have hal : Tryz.prog.arrayLen 169 = 24 := by kernel_rfl
  have hel : Tryz.prog.elem 169 = 5 := by kernel_rfl
  have hsl1 : ∀ W, (Instr.sliceAt 169 (.pointer (some ⟨w.heap.size, 0, none⟩)) (some (.int .i64 1)) (some (.int .i64 (1 + (nd T u : Int)))) none).run Tryz.prog W = .ok (.slice (some ⟨w.heap.size, 1, none⟩) (nd T u) 23) W := by
    intro W
    rw [run_sliceAt_array_lh W 169 ⟨w.heap.size, 0, none⟩ (by kernel_rfl) .i64 .i64 1 (1 + (nd T u : Int)) (by omega) (by omega) (by rw [hal]; omega)]
    go_simp
    omega
  have hsl2 : ∀ W, (Instr.sliceAt 169 (.pointer (some ⟨w.heap.size, 0, none⟩)) none (some (.int .i64 (1 + (nd T u : Int)))) none).run Tryz.prog W = .ok (.slice (some ⟨w.heap.size, 0, none⟩) (1 + nd T u) 24) W := by
    intro W
    rw [run_sliceAt_array_h W 169 ⟨w.heap.size, 0, none⟩ (by kernel_rfl) .i64 (1 + (nd T u : Int)) (by omega) (by rw [hal]; omega)]
    go_simp
    omega
  have HND := hid (fun w' => numDigits_any T u h1 h2 w')
  have HFB := hid (fun w' h => fb_any (nd T u) hn4 w.heap.size u zero24 w' h (by rfl) (by omega) (by omega))
  have HDG := hid (fun j h => dg_at T h2 j h)
  have HDL := hid (dg_len T h2)
  have HT := hid hT
  clear hT hal hel
  generalize hdg : dg T u = D at *
  clear hdg
  generalize nd T u = N at *
  have HCS := hid (wrote_len zero24 N u)
  generalize hcs : wrote zero24 N u = CS at *
  go_enter Tryz.func119, Tryz.ntmps119
  go_wp2_with (first
    | (go_at_call 121; refine (HND.out _ (HT.out.later (Ext.alloc _ _))).mono ?_; rintro e w' ⟨rfl, rfl⟩))
  go_at_call 122
  refine (HFB.out _ (zeros24_blk w _ rfl)).mono ?_
  rintro e w' ⟨rfl, hb, hbut⟩
  clear hcs
  have c0 := bytes_cell hb 0 _ (List.getElem?_eq_getElem (show 0 < CS.length by rw [HCS.out]; decide))
  have f0 := bytes_frozen hb 0
  have HB := hid (bytes_set hb 0 45)
  have HBUT := hid (hbut.set 0 (.int .u8 45))
  have hcv : (convert 127 9 (.slice (some ⟨w.heap.size, 0, none⟩) (1 + N) 24)).run Tryz.prog (w'.setCell ⟨w.heap.size, 0, none⟩ (.int .u8 45)) = .ok (str (45 :: D)) (w'.setCell ⟨w.heap.size, 0, none⟩ (.int .u8 45)) := by
    have h := run_convert_bytes_back (P := Tryz.prog) (w'.setCell ⟨w.heap.size, 0, none⟩ (.int .u8 45)) 127 9 5 ⟨w.heap.size, 0, none⟩ 24 (45 :: D) (by kernel_rfl) (by kernel_rfl) (by kernel_rfl) (by
      intro j hj
      rw [Lib.add_plain, Nat.zero_add]
      refine (bytes_cell HB.out j _ ?_)
      cases j with
      | zero => simp [HCS.out, zero24]
      | succ i =>
        have hi : i < D.length := by simpa using hj
        refine (List.getElem?_set_ne (by omega)).trans ?_
        have h := HDG.out i hi
        rw [Nat.add_comm 1 i] at h
        exact h)
    rw [List.length_cons, HDL.out, Nat.add_comm] at h
    exact h
  clear hb hbut
  go_wp2
  go_ret
  exact ⟨rfl, HBUT.out.toExt (Ext.alloc _ _)⟩

set_option maxHeartbeats 2000000 in
set_option maxRecDepth 100000 in
theorem format_pos (T : Nat → Int) (u : Nat) (h1 : 100 ≤ u) (h2 : u < 8192) (w : World) (hT : TabAt w T) :
    Calls Tryz.prog 119 #[.int .i64 (u : Int), .int .i64 10] w fun e w' => e = .returned (str (dg T u)) ∧ Ext w w' := by
  have hn4 := nd_le T h2
  have hal : Tryz.prog.arrayLen 169 = 24 := by kernel_rfl
  have hel : Tryz.prog.elem 169 = 5 := by kernel_rfl
  have hsl1 : ∀ W, (Instr.sliceAt 169 (.pointer (some ⟨w.heap.size, 0, none⟩)) (some (.int .i64 1)) (some (.int .i64 (1 + (nd T u : Int)))) none).run Tryz.prog W = .ok (.slice (some ⟨w.heap.size, 1, none⟩) (nd T u) 23) W := by
    intro W
    rw [run_sliceAt_array_lh W 169 ⟨w.heap.size, 0, none⟩ (by kernel_rfl) .i64 .i64 1 (1 + (nd T u : Int)) (by omega) (by omega) (by rw [hal]; omega)]
    go_simp
    omega
  have HND := hid (fun w' => numDigits_any T u (by omega) h2 w')
  have HFB := hid (fun w' h => fb_any (nd T u) hn4 w.heap.size u zero24 w' h (by rfl) (by omega) (by omega))
  have HDG := hid (fun j h => dg_at T h2 j h)
  have HDL := hid (dg_len T h2)
  have HT := hid hT
  clear hT hal hel
  generalize hdg : dg T u = D at *
  clear hdg
  generalize nd T u = N at *
  have HCS := hid (wrote_len zero24 N u)
  generalize hcs : wrote zero24 N u = CS at *
  go_enter Tryz.func119, Tryz.ntmps119
  go_wp2_with (first
    | (go_at_call 121; refine (HND.out _ (HT.out.later (Ext.alloc _ _))).mono ?_; rintro e w' ⟨rfl, rfl⟩))
  go_at_call 122
  refine (HFB.out _ (zeros24_blk w _ rfl)).mono ?_
  rintro e w' ⟨rfl, hb, hbut⟩
  clear hcs
  have HB := hid hb
  have HBUT := hid hbut
  have hcv : (convert 127 9 (.slice (some ⟨w.heap.size, 1, none⟩) N 23)).run Tryz.prog w' = .ok (str D) w' := by
    have h := run_convert_bytes_back (P := Tryz.prog) w' 127 9 5 ⟨w.heap.size, 1, none⟩ 23 D (by kernel_rfl) (by kernel_rfl) (by kernel_rfl) (by
      intro j hj
      rw [Lib.add_plain]
      exact bytes_cell HB.out (1 + j) _ (HDG.out j hj))
    rw [HDL.out] at h
    exact h
  clear hb hbut
  go_wp2
  go_ret
  exact ⟨rfl, HBUT.out.toExt (Ext.alloc _ _)⟩

set_option maxRecDepth 100000 in
theorem format_small (u : Nat) (h : u < 100) (w : World) :
    Calls Tryz.prog 119 #[.int .i64 (u : Int), .int .i64 10] w fun e w' => e = .returned (str (Lib.decDigits u)) ∧ Ext w w' := by
  go_enter Tryz.func119, Tryz.ntmps119
  go_wp2_with (go_at_call 120; refine (Tryz.internal_strconv_small u h _).mono ?_; rintro e w' ⟨rfl, rfl⟩)
  go_ret
  exact ⟨rfl, Ext.refl _⟩

theorem format_any (T : Nat → Int) (n : Int) (h0 : -8192 < n) (h1 : n < 8192) (w : World) (hT : TabAt w T) :
    Calls Tryz.prog 119 #[.int .i64 n, .int .i64 10] w fun e w' => e = .returned (str (itoaT T n)) ∧ Ext w w' := by
  by_cases hn : n < 0
  · have h := format_neg T n.natAbs (by omega) (by omega) w hT
    have e : (-(n.natAbs : Int)) = n := by omega
    rw [e] at h
    simpa only [itoaT, if_pos hn] using h
  · by_cases hs : n < 100
    · have h := format_small n.toNat (by omega) w
      have e : ((n.toNat : Nat) : Int) = n := by omega
      rw [e] at h
      simpa only [itoaT, if_neg hn, if_pos hs] using h
    · have h := format_pos T n.toNat (by omega) (by omega) w hT
      have e : ((n.toNat : Nat) : Int) = n := by omega
      rw [e] at h
      simpa only [itoaT, if_neg hn, if_neg hs] using h

theorem itoa_in (T : Nat → Int) (n : Int) (h0 : -8192 < n) (h1 : n < 8192) (w : World) (hT : TabAt w T) :
    Calls Tryz.prog 118 #[.int .i64 n] w fun e w' => e = .returned (str (itoaT T n)) ∧ Ext w w' := by
  have H := hid (format_any T n h0 h1 w hT)
  clear hT
  generalize itoaT T n = s at *
  go_enter Tryz.func118, Tryz.ntmps118
  go_wp2_with (go_at_call 119; refine H.out.mono ?_; rintro e w' ⟨rfl, hE⟩)
  go_ret
  exact ⟨rfl, hE⟩

theorem itoa_out (T : Nat → Int) (n : Int) (h0 : -8192 < n) (h1 : n < 8192) (w : World) (hT : TabAt w T) :
    Calls Tryz.prog 117 #[.int .i64 n] w fun e w' => e = .returned (str (itoaT T n)) ∧ Ext w w' := by
  have H := hid (itoa_in T n h0 h1 w hT)
  clear hT
  generalize itoaT T n = s at *
  go_enter Tryz.func117, Tryz.ntmps117
  go_wp2_with (go_at_call 118; refine H.out.mono ?_; rintro e w' ⟨rfl, hE⟩)
  go_ret
  exact ⟨rfl, hE⟩

theorem dg_len_all (T : Nat → Int) (u : Nat) : (dg T u).length ≤ 24 := by
  have h := wrote_len zero24 (nd T u) (u : Int)
  have hz : zero24.length = 24 := rfl
  simp only [dg, dgs, List.length_map, List.length_take, List.length_drop, h, hz]
  omega
theorem dec_len : ∀ u, u < 100 → (Lib.decDigits u).length ≤ 2 := by decide +kernel
theorem itoaT_len (T : Nat → Int) (n : Int) : (itoaT T n).length ≤ 40 := by
  have h1 := dg_len_all T n.natAbs
  have h2 := dg_len_all T n.toNat
  unfold itoaT
  split
  · simp only [List.length_cons]; omega
  · split
    · have := dec_len n.toNat (by omega); omega
    · omega

end Go.Proofs.YtjodmedgkmeklaaGreat

/-
  Names can be told apart: the plain law.
-/
namespace Go.Proofs.YtjodmedgkmeklaaGreat
open Go Go.RowKit

/-- Up to the first comma that no bracket holds. -/
def scan : Nat → List UInt8 → List UInt8
  | _, [] => []
  | d, c :: l => if d = 0 ∧ c = 44 then [] else c :: scan (if c = 40 then d + 1 else if c = 41 then d - 1 else d) l
def Dig (s : List UInt8) : Prop := ∀ c ∈ s, c ≠ 40 ∧ c ≠ 41 ∧ c ≠ 44
theorem scan_plain (d : Nat) (c : UInt8) (l : List UInt8) (h1 : c ≠ 40) (h2 : c ≠ 41) (h3 : c ≠ 44) : scan d (c :: l) = c :: scan d l := by simp [scan, h1, h2, h3]
theorem scan_open (d : Nat) (l : List UInt8) : scan d (40 :: l) = 40 :: scan (d + 1) l := by simp [scan]
theorem scan_close (d : Nat) (l : List UInt8) : scan (d + 1) (41 :: l) = 41 :: scan d l := by simp [scan]
theorem scan_comma (d : Nat) (l : List UInt8) : scan (d + 1) (44 :: l) = 44 :: scan (d + 1) l := by simp [scan]
theorem scan_end (l : List UInt8) : scan 0 (44 :: l) = [] := by simp [scan]
theorem scan_dig (d : Nat) : ∀ (s r : List UInt8), Dig s → scan d (s ++ r) = s ++ scan d r
  | [], _, _ => rfl
  | c :: s, r, h => by
    have hc := h c (by simp)
    rw [List.cons_append, scan_plain d c _ hc.1 hc.2.1 hc.2.2, scan_dig d s r (fun x hx => h x (by simp [hx]))]
    rfl

section
variable {R : Int → Prop} {f : Int → List UInt8}

theorem scan_nm (hf : ∀ n, R n → Dig (f n)) : ∀ (t : Tm), t.all R → ∀ d r, scan d (nm f t ++ r) = nm f t ++ scan d r
  | .non, _, d, r => by simp only [nm, List.cons_append, List.nil_append]; rw [scan_plain d _ _ (by decide) (by decide) (by decide)]
  | .empty, _, d, r => by simp only [nm, List.cons_append, List.nil_append]; rw [scan_plain d _ _ (by decide) (by decide) (by decide)]
  | .atom n, h, d, r => by
    simp only [nm, List.cons_append]; rw [scan_plain d _ _ (by decide) (by decide) (by decide), scan_dig d _ _ (hf n h)]
  | .pub n, h, d, r => by
    simp only [nm, List.cons_append]; rw [scan_plain d _ _ (by decide) (by decide) (by decide), scan_dig d _ _ (hf n h)]
  | .shared a b, h, d, r => by
    simp only [nm, List.cons_append, List.append_assoc]
    rw [scan_plain d _ _ (by decide) (by decide) (by decide), scan_dig d _ _ (hf a h.1), scan_plain d _ _ (by decide) (by decide) (by decide), scan_dig d _ _ (hf b h.2)]
  | .chain i x y, h, d, r => by
    simp only [nm, join2, List.cons_append, List.append_assoc, List.nil_append]
    rw [scan_plain d _ _ (by decide) (by decide) (by decide), scan_dig d _ _ (hf i h.1), scan_open, scan_nm hf x h.2.1, scan_comma, scan_nm hf y h.2.2, scan_close]
  | .digest x y, h, d, r => by
    simp only [nm, join2, List.cons_append, List.append_assoc, List.nil_append]
    rw [scan_plain d _ _ (by decide) (by decide) (by decide), scan_open, scan_nm hf x h.1, scan_comma, scan_nm hf y h.2, scan_close]
  | .box k n a t, h, d, r => by
    simp only [nm, join3, List.cons_append, List.append_assoc, List.nil_append]
    rw [scan_plain d _ _ (by decide) (by decide) (by decide), scan_dig d _ _ (hf n h.1), scan_open, scan_nm hf k h.2.1, scan_comma, scan_nm hf a h.2.2.1, scan_comma, scan_nm hf t h.2.2.2, scan_close]

theorem nm_head (hf : ∀ n, R n → Dig (f n)) {x y : Tm} (hx : x.all R) (hy : y.all R) {r s : List UInt8} (h : nm f x ++ 44 :: r = nm f y ++ 44 :: s) : nm f x = nm f y := by
  have h := congrArg (scan 0) h
  rw [scan_nm hf x hx, scan_nm hf y hy, scan_end, scan_end, List.append_nil, List.append_nil] at h
  exact h

theorem dig_head : ∀ {a b r s : List UInt8}, Dig a → Dig b → a ++ 40 :: r = b ++ 40 :: s → a = b
  | [], [], _, _, _, _, _ => rfl
  | [], c :: b, _, _, _, hb, h => by
    simp only [List.nil_append, List.cons_append, List.cons.injEq] at h
    exact absurd h.1.symm (hb c (by simp)).1
  | c :: a, [], _, _, ha, _, h => by
    simp only [List.nil_append, List.cons_append, List.cons.injEq] at h
    exact absurd h.1 (ha c (by simp)).1
  | c :: a, d :: b, r, s, ha, hb, h => by
    simp only [List.cons_append, List.cons.injEq] at h
    rw [h.1, dig_head (fun x hx => ha x (by simp [hx])) (fun x hx => hb x (by simp [hx])) h.2]

theorem apart_cd (i : Int) (x y z v : Tm) : nm f (.chain i x y) ≠ nm f (.digest z v) := by simp [nm]
theorem apart_db (n : Int) (x y z v k : Tm) : nm f (.digest x y) ≠ nm f (.box z n v k) := by simp [nm]
theorem apart_cc (hf : ∀ n, R n → Dig (f n)) {i j : Int} (hi : R i) (hj : R j) (hn : f i ≠ f j) (x y : Tm) : nm f (.chain i x y) ≠ nm f (.chain j x y) := by
  intro h
  simp only [nm, List.cons_append, List.cons.injEq, true_and] at h
  exact hn (dig_head (hf i hi) (hf j hj) h)
theorem apart_bn (hf : ∀ n, R n → Dig (f n)) {i j : Int} (hi : R i) (hj : R j) (hn : f i ≠ f j) (x y z : Tm) : nm f (.box x i y z) ≠ nm f (.box x j y z) := by
  intro h
  simp only [nm, List.cons_append, List.cons.injEq, true_and] at h
  exact hn (dig_head (hf i hi) (hf j hj) h)
theorem apart_bb (hf : ∀ n, R n → Dig (f n)) {x y : Tm} (hx : x.all R) (hy : y.all R) (n : Int) : nm f (.box x n y x) = nm f (.box x n x y) ↔ nm f x = nm f y := by
  constructor
  · intro h
    simp only [nm, join3, List.cons_append, List.append_assoc, List.nil_append, List.cons.injEq, true_and] at h
    have h := List.append_cancel_left h
    simp only [List.cons.injEq, true_and] at h
    have h := List.append_cancel_left h
    simp only [List.cons.injEq, true_and] at h
    exact (nm_head hf hy hx h).symm
  · intro h; simp only [nm, h]
theorem apart_dd (hf : ∀ n, R n → Dig (f n)) {x y : Tm} (hx : x.all R) (hy : y.all R) : nm f (.digest x y) = nm f (.digest y x) ↔ nm f x = nm f y := by
  constructor
  · intro h
    simp only [nm, join2, List.cons_append, List.append_assoc, List.nil_append, List.cons.injEq, true_and] at h
    exact nm_head hf hx hy h
  · intro h; simp only [nm, h]
theorem apart_cx (i : Int) (x y : Tm) : nm f (.chain i x y) ≠ nm f x := by
  intro h
  have h := congrArg List.length h
  simp [nm, join2] at h; omega
theorem apart_dy (x y : Tm) : nm f (.digest x y) ≠ nm f y := by
  intro h
  have h := congrArg List.length h
  simp [nm, join2] at h; omega
end

/-! ### the numbers -/
def Small (n : Int) : Prop := -8192 < n ∧ n < 8192
theorem nd_big (T : Nat → Int) {u : Nat} (h : u < 8192) (h1 : nd T u = 1) : u < 64 := by
  have hq : ∀ a, a < 128 → ∀ b, b < 64 → 1 ≤ a → 2 ≤ Lib.l10 (Lib.bitLen (a * 64 + b)) := by decide +kernel
  rcases Nat.lt_or_ge u 64 with hl | hl
  · exact hl
  · have := hq (u / 64) (by omega) (u % 64) (by omega) (by omega)
    rw [show u / 64 * 64 + u % 64 = u by omega] at this
    unfold nd at h1; omega
theorem dgs_ok (T : Nat → Int) {u : Nat} (h : u < 8192) : ∀ c ∈ dgs T u, 48 ≤ c ∧ c < 256 := by
  have h4 := nd_le T h
  have h1 := nd_big T h
  unfold dgs
  generalize nd T u = n at *
  match n, h4 with
  | 0, _ => simp
  | 1, _ => simp [wrote, zero24]; omega
  | 2, _ => simp [wrote, zero24]; omega
  | 3, _ => simp [wrote, zero24]; omega
  | 4, _ => simp [wrote, zero24]; omega
theorem bt_ok {c : Int} (h : 48 ≤ c ∧ c < 256) : bt c ≠ 40 ∧ bt c ≠ 41 ∧ bt c ≠ 44 := by
  have hb := bt_int (by omega : 0 ≤ c) h.2
  refine ⟨fun e => ?_, fun e => ?_, fun e => ?_⟩ <;> (rw [e] at hb; simp at hb; omega)
theorem dg_dig (T : Nat → Int) {u : Nat} (h : u < 8192) : Dig (dg T u) := by
  intro c hc
  obtain ⟨i, hi, rfl⟩ := List.mem_map.1 hc
  exact bt_ok (dgs_ok T h i hi)
theorem dec_dig : ∀ u, u < 100 → Dig (Lib.decDigits u) := by unfold Dig; decide +kernel
theorem itoaT_dig (T : Nat → Int) (n : Int) (h : Small n) : Dig (itoaT T n) := by
  obtain ⟨h0, h1⟩ := h
  unfold itoaT
  split
  · intro c hc
    rcases List.mem_cons.1 hc with rfl | hc
    · decide
    · exact dg_dig T (by omega) c hc
  · split
    · exact dec_dig _ (by omega)
    · exact dg_dig T (by omega)
theorem dg100 (T : Nat → Int) : dg T 100 = if T 2 ≤ 100 then [49, 48, 48] else [48, 48] := by
  have e : Lib.l10 (Lib.bitLen 100) = 2 := by decide +kernel
  unfold dg dgs nd
  rw [e]
  by_cases h : T 2 ≤ 100
  · simp only [if_pos h, show T 2 ≤ ((100 : Nat) : Int) from h, if_true]; decide +kernel
  · simp only [if_neg h, show ¬ T 2 ≤ ((100 : Nat) : Int) from h, if_false]; decide +kernel
theorem dg101 (T : Nat → Int) : dg T 101 = if T 2 ≤ 101 then [49, 48, 49] else [48, 49] := by
  have e : Lib.l10 (Lib.bitLen 101) = 2 := by decide +kernel
  unfold dg dgs nd
  rw [e]
  by_cases h : T 2 ≤ 101
  · simp only [if_pos h, show T 2 ≤ ((101 : Nat) : Int) from h, if_true]; decide +kernel
  · simp only [if_neg h, show ¬ T 2 ≤ ((101 : Nat) : Int) from h, if_false]; decide +kernel
theorem itoaT_next (T : Nat → Int) (n : Int) (h0 : 0 ≤ n) (h1 : n ≤ 100) : itoaT T n ≠ itoaT T (n + 1) := by
  have h99 : ∀ u, u < 99 → Lib.decDigits u ≠ Lib.decDigits (u + 1) := by decide +kernel
  have hd : Lib.decDigits 99 = [57, 57] := by decide +kernel
  by_cases h : n < 99
  · have e : (n + 1).toNat = n.toNat + 1 := by omega
    simp only [itoaT, if_neg (show ¬ n < 0 by omega), if_pos (show n < 100 by omega), if_neg (show ¬ n + 1 < 0 by omega), if_pos (show n + 1 < 100 by omega), e]
    exact h99 _ (by omega)
  · rcases (show n = 99 ∨ n = 100 by omega) with rfl | rfl
    · simp only [itoaT]
      simp [hd, dg100]; split <;> decide
    · simp only [itoaT]
      simp [dg100, dg101]; split <;> split <;> decide

theorem itoa_tab {w : World} {T : Nat → Int} (h : TabAt w T) : Itoa w Small (itoaT T) :=
  ⟨itoaT_len T, fun n hn w' he => itoa_out T n hn.1 hn.2 w' (h.later he)⟩

end Go.Proofs.YtjodmedgkmeklaaGreat
