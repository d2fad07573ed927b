/-
  formatBase10 at up to four places, whatever the number.
-/
import Derived.Test.YtegmnbcfanjocaaDig0
import Derived.Shelf.Abstract
namespace Go.Proofs.Ytegmnbcfanjocaa
open Go Go.RowKit
attribute [local go_sem] extUpon run_store_tm
attribute [local go_sem ↓] Tm.val_cell eval_put_ne eval_put_none eval_put_same size_put eval_const
attribute [local go_sem] w64_0 w64_1 w64_2 w64_3 w64_4

/-- A block of bytes, as numbers. -/
def bytesBlk (w : World) (g : Nat) (cs : List Int) : Prop := w.heap[g]? = some (.cells (cs.map (Value.int .u8)).toArray 144 (0, 0))

theorem bytes_cell {w : World} {g : Nat} {cs : List Int} (h : bytesBlk w g cs) (i : Nat) (x : Int) (hx : cs[i]? = some x) : w.cell? ⟨g, i, none⟩ = some (.int .u8 x) :=
  cell_blk h (by simp [hx])
theorem bytes_frozen {w : World} {g : Nat} {cs : List Int} (h : bytesBlk w g cs) (i : Nat) : w.frozen? ⟨g, i, none⟩ = false := by
  simp [World.frozen?, show w.heap[g]? = _ from h]
theorem bytes_set {w : World} {g : Nat} {cs : List Int} (h : bytesBlk w g cs) (i : Nat) (x : Int) : bytesBlk (w.setCell ⟨g, i, none⟩ (.int .u8 x)) g (cs.set i x) := by
  unfold bytesBlk at *
  simp only [World.setCell, Array.getElem?_modify, if_true, h]
  simp [List.map_set]
theorem bytes_ext {w w1 : World} {g : Nat} {cs : List Int} (h : bytesBlk w g cs) (he : Ext w w1) : bytesBlk w1 g cs := he.blk h

/-- Of two worlds only block g may part, and what is new. -/
def But (g : Nat) (w w' : World) : Prop := w'.os = w.os ∧ w'.tape = w.tape ∧ w'.output = w.output ∧ w.heap.size ≤ w'.heap.size ∧ ∀ k, k < w.heap.size → k ≠ g → w'.heap[k]? = w.heap[k]?
theorem But.refl (g : Nat) (w : World) : But g w w := ⟨rfl, rfl, rfl, Nat.le_refl _, fun _ _ _ => rfl⟩
theorem But.ext {g : Nat} {w w1 w2 : World} (h : But g w w1) (he : Ext w1 w2) : But g w w2 :=
  ⟨he.os.trans h.1, he.tape.trans h.2.1, he.output.trans h.2.2.1, Nat.le_trans h.2.2.2.1 he.size, fun k hk hg => (he.block k (Nat.lt_of_lt_of_le hk h.2.2.2.1)).trans (h.2.2.2.2 k hk hg)⟩
theorem But.set {g : Nat} {w w1 : World} (h : But g w w1) (i : Nat) (x : Value) : But g w (w1.setCell ⟨g, i, none⟩ x) :=
  ⟨h.1, h.2.1, h.2.2.1, by simpa [World.setCell] using h.2.2.2.1, fun k hk hg => (Below.heap_setCell _ _ _ _ hg).trans (h.2.2.2.2 k hk hg)⟩
theorem But.trans {g : Nat} {a b c : World} (h : But g a b) (k : But g b c) : But g a c :=
  ⟨k.1.trans h.1, k.2.1.trans h.2.1, k.2.2.1.trans h.2.2.1, Nat.le_trans h.2.2.2.1 k.2.2.2.1, fun i hi hg => (k.2.2.2.2 i (Nat.lt_of_lt_of_le hi h.2.2.2.1) hg).trans (h.2.2.2.2 i hi hg)⟩

/-- What formatBase10 writes, so many places, from a place on. -/
def wrote (cs : List Int) : Nat → Int → List Int
  | 0, _ => cs
  | 1, u => cs.set 1 ((48 + u) % 256)
  | 2, u => (cs.set 2 (48 + u % 100 % 10)).set 1 (48 + u % 100 / 10)
  | 3, u => ((cs.set 3 (48 + u % 100 % 10)).set 2 (48 + u % 100 / 10)).set 1 (48 + u / 100)
  | _, u => (((cs.set 4 (48 + u % 100 % 10)).set 3 (48 + u % 100 / 10)).set 2 (48 + u % 10000 / 100 % 10)).set 1 (48 + u % 10000 / 100 / 10)

def FbSaid (nd : Nat) : Prop := ∀ (g : Nat) (u : Int) (cs : List Int) (w : World), bytesBlk w g cs → cs.length = 24 → 0 ≤ u → u < 10000 →
    Calls Try.prog 95 #[.slice (some ⟨g, 1, none⟩) nd 23, .int .u64 u] w fun e w' => e = .returned (.tuple #[]) ∧ bytesBlk w' g (wrote cs nd u) ∧ But g w w'

set_option maxRecDepth 100000 in
theorem fb0 : FbSaid 0 := by
  intro g u cs w hb hc h0 h
  go_enter Try.func95, Try.ntmps95
  go_wp2
  refine wp_loop_once ?_
  go_wp2
  go_end0
  exact ⟨rfl, hb, But.refl _ _⟩

set_option maxRecDepth 100000 in
theorem fb1 : FbSaid 1 := by
  intro g u cs w hb hc h0 h
  have h1 := bytes_cell hb 1 _ (List.getElem?_eq_getElem (show 1 < cs.length by omega))
  have f1 := bytes_frozen hb 1
  have HB := hid hb
  clear hb
  generalize cs[1] = v1 at *
  go_enter Try.func95, Try.ntmps95
  go_wp2
  refine wp_loop_once ?_
  go_wp2
  go_end0
  exact ⟨rfl, bytes_set HB.out 1 _, (But.refl _ _).set 1 _⟩

set_option maxRecDepth 100000 in
theorem fb2 : FbSaid 2 := by
  intro g u cs w hb hc h0 h
  have HB := hid hb
  have HU := hid (But.refl g w)
  clear hb
  go_enter Try.func95, Try.ntmps95
  go_wp2
  refine wp_loop_once ?_
  go_wp2
  obtain ⟨k, hk⟩ : ∃ k : Nat, u % 100 = (k : Int) := ⟨(u % 100).toNat, by omega⟩
  have hk1 : k < 100 := by omega
  rw [hk]
  have HKk := hid hk
  have hw32 := w32 (x := (k : Int) * 2 + 1) (by omega) (by omega)
  clear hk
  refine reg_begin 0 (by kernel_rfl) ?_
  refine reg_pure 0 rfl (by kernel_rfl) rfl ?_
  apply Exists.intro
  refine ⟨fun w' => ?_, ?_⟩
  · go_simp
    exact rfl
  refine reg_pure 1 rfl (by kernel_rfl) rfl ?_
  apply Exists.intro
  refine ⟨fun w' => ?_, ?_⟩
  · go_simp
    exact rfl
  refine reg_pure 2 rfl (by kernel_rfl) rfl ?_
  apply Exists.intro
  refine ⟨fun w' => ?_, ?_⟩
  · go_simp
    exact rfl
  refine reg_pure 3 rfl (by kernel_rfl) rfl ?_
  apply Exists.intro
  refine ⟨fun w' => ?_, ?_⟩
  · go_simp
    exact rfl
  refine reg_pure 4 rfl (by kernel_rfl) rfl ?_
  apply Exists.intro
  refine ⟨fun w' => ?_, ?_⟩
  · go_simp
    exact rfl
  refine reg_pure 5 rfl (by kernel_rfl) rfl ?_
  apply Exists.intro
  refine ⟨fun w' => ?_, ?_⟩
  · go_simp
    exact rfl
  refine reg_pure 6 rfl (by kernel_rfl) rfl ?_
  apply Exists.intro
  refine ⟨fun w' => ?_, ?_⟩
  · go_simp
    exact rfl
  refine reg_pure 7 rfl (by kernel_rfl) rfl ?_
  apply Exists.intro
  refine ⟨fun w' => ?_, ?_⟩
  · go_simp
    exact rfl
  refine reg_index 8 (.int .u8 (48 + (k : Int) % 10)) rfl (by kernel_rfl) (by go_simp) (sm1 k hk1) ?_
  refine reg_pure 9 rfl (by kernel_rfl) rfl ?_
  apply Exists.intro
  refine ⟨fun w' => ?_, ?_⟩
  · go_simp
    exact rfl
  refine reg_index 10 (.int .u8 (48 + (k : Int) / 10)) rfl (by kernel_rfl) (by go_simp) (sm0 k hk1) ?_
  clear hw32 hk1
  generalize hW : World.drew _ = W
  have HBW := hid (show bytesBlk W g (cs) by rw [← hW]; exact bytes_ext HB.out (Ext.drew _))
  have HUW := hid (show But g w W by rw [← hW]; exact HU.out.ext (Ext.drew _))
  clear hW HB HU
  refine reg_one 11 rfl (by kernel_rfl) rfl (fun w' hw' => ?_)
  have HB1 := hid (bytes_ext HBW.out hw')
  have HU1 := hid (HUW.out.ext hw')
  clear HBW HUW hw'
  go_simp
  refine reg_one 12 rfl (by kernel_rfl) rfl (fun w' hw' => ?_)
  have HB2 := hid (bytes_ext HB1.out hw')
  have HU2 := hid (HU1.out.ext hw')
  clear HB1 HU1 hw'
  have c2 := bytes_cell HB2.out 2 _ (List.getElem?_eq_getElem (show 2 < (cs).length by first | omega | (simp only [List.length_set]; omega)))
  have f2 := bytes_frozen HB2.out 2
  go_simp
  clear c2 f2
  have HB3 := hid (bytes_set HB2.out 2 (48 + (k : Int) % 10))
  have HU3 := hid (HU2.out.set 2 (.int .u8 (48 + (k : Int) % 10)))
  clear HB2 HU2
  generalize World.setCell _ _ _ = W3 at *
  refine reg_one 13 rfl (by kernel_rfl) rfl (fun w' hw' => ?_)
  have HB4 := hid (bytes_ext HB3.out hw')
  have HU4 := hid (HU3.out.ext hw')
  clear HB3 HU3 hw'
  go_simp
  refine reg_one 14 rfl (by kernel_rfl) rfl (fun w' hw' => ?_)
  have HB5 := hid (bytes_ext HB4.out hw')
  have HU5 := hid (HU4.out.ext hw')
  clear HB4 HU4 hw'
  have c2 := bytes_cell HB5.out 1 _ (List.getElem?_eq_getElem (show 1 < (List.set (cs) 2 (48 + (k : Int) % 10)).length by first | omega | (simp only [List.length_set]; omega)))
  have f2 := bytes_frozen HB5.out 1
  go_simp
  clear c2 f2
  have HB := hid (bytes_set HB5.out 1 (48 + (k : Int) / 10))
  have HU := hid (HU5.out.set 1 (.int .u8 (48 + (k : Int) / 10)))
  clear HB5 HU5
  generalize World.setCell _ _ _ = W6 at *
  refine reg_done (by kernel_rfl) (fun w' hw' => ?_) _
  replace HB := hid (bytes_ext HB.out hw')
  replace HU := hid (HU.out.ext hw')
  clear hw'
  go_simp
  go_wp2
  go_end0
  exact ⟨rfl, by have := HB.out; simp only [wrote, HKk.out]; exact this, HU.out⟩

set_option maxRecDepth 100000 in
theorem fb3 : FbSaid 3 := by
  intro g u cs w hb hc h0 h
  have HB := hid hb
  have HU := hid (But.refl g w)
  clear hb
  go_enter Try.func95, Try.ntmps95
  go_wp2
  refine wp_loop_once ?_
  go_wp2
  obtain ⟨k, hk⟩ : ∃ k : Nat, u % 100 = (k : Int) := ⟨(u % 100).toNat, by omega⟩
  have hk1 : k < 100 := by omega
  rw [hk]
  have HKk := hid hk
  have hw32 := w32 (x := (k : Int) * 2 + 1) (by omega) (by omega)
  clear hk
  refine reg_begin 0 (by kernel_rfl) ?_
  refine reg_pure 0 rfl (by kernel_rfl) rfl ?_
  apply Exists.intro
  refine ⟨fun w' => ?_, ?_⟩
  · go_simp
    exact rfl
  refine reg_pure 1 rfl (by kernel_rfl) rfl ?_
  apply Exists.intro
  refine ⟨fun w' => ?_, ?_⟩
  · go_simp
    exact rfl
  refine reg_pure 2 rfl (by kernel_rfl) rfl ?_
  apply Exists.intro
  refine ⟨fun w' => ?_, ?_⟩
  · go_simp
    exact rfl
  refine reg_pure 3 rfl (by kernel_rfl) rfl ?_
  apply Exists.intro
  refine ⟨fun w' => ?_, ?_⟩
  · go_simp
    exact rfl
  refine reg_pure 4 rfl (by kernel_rfl) rfl ?_
  apply Exists.intro
  refine ⟨fun w' => ?_, ?_⟩
  · go_simp
    exact rfl
  refine reg_pure 5 rfl (by kernel_rfl) rfl ?_
  apply Exists.intro
  refine ⟨fun w' => ?_, ?_⟩
  · go_simp
    exact rfl
  refine reg_pure 6 rfl (by kernel_rfl) rfl ?_
  apply Exists.intro
  refine ⟨fun w' => ?_, ?_⟩
  · go_simp
    exact rfl
  refine reg_pure 7 rfl (by kernel_rfl) rfl ?_
  apply Exists.intro
  refine ⟨fun w' => ?_, ?_⟩
  · go_simp
    exact rfl
  refine reg_index 8 (.int .u8 (48 + (k : Int) % 10)) rfl (by kernel_rfl) (by go_simp) (sm1 k hk1) ?_
  refine reg_pure 9 rfl (by kernel_rfl) rfl ?_
  apply Exists.intro
  refine ⟨fun w' => ?_, ?_⟩
  · go_simp
    exact rfl
  refine reg_index 10 (.int .u8 (48 + (k : Int) / 10)) rfl (by kernel_rfl) (by go_simp) (sm0 k hk1) ?_
  clear hw32 hk1
  generalize hW : World.drew _ = W
  have HBW := hid (show bytesBlk W g (cs) by rw [← hW]; exact bytes_ext HB.out (Ext.drew _))
  have HUW := hid (show But g w W by rw [← hW]; exact HU.out.ext (Ext.drew _))
  clear hW HB HU
  refine reg_one 11 rfl (by kernel_rfl) rfl (fun w' hw' => ?_)
  have HB1 := hid (bytes_ext HBW.out hw')
  have HU1 := hid (HUW.out.ext hw')
  clear HBW HUW hw'
  go_simp
  refine reg_one 12 rfl (by kernel_rfl) rfl (fun w' hw' => ?_)
  have HB2 := hid (bytes_ext HB1.out hw')
  have HU2 := hid (HU1.out.ext hw')
  clear HB1 HU1 hw'
  have c2 := bytes_cell HB2.out 3 _ (List.getElem?_eq_getElem (show 3 < (cs).length by first | omega | (simp only [List.length_set]; omega)))
  have f2 := bytes_frozen HB2.out 3
  go_simp
  clear c2 f2
  have HB3 := hid (bytes_set HB2.out 3 (48 + (k : Int) % 10))
  have HU3 := hid (HU2.out.set 3 (.int .u8 (48 + (k : Int) % 10)))
  clear HB2 HU2
  generalize World.setCell _ _ _ = W3 at *
  refine reg_one 13 rfl (by kernel_rfl) rfl (fun w' hw' => ?_)
  have HB4 := hid (bytes_ext HB3.out hw')
  have HU4 := hid (HU3.out.ext hw')
  clear HB3 HU3 hw'
  go_simp
  refine reg_one 14 rfl (by kernel_rfl) rfl (fun w' hw' => ?_)
  have HB5 := hid (bytes_ext HB4.out hw')
  have HU5 := hid (HU4.out.ext hw')
  clear HB4 HU4 hw'
  have c2 := bytes_cell HB5.out 2 _ (List.getElem?_eq_getElem (show 2 < (List.set (cs) 3 (48 + (k : Int) % 10)).length by first | omega | (simp only [List.length_set]; omega)))
  have f2 := bytes_frozen HB5.out 2
  go_simp
  clear c2 f2
  have HB := hid (bytes_set HB5.out 2 (48 + (k : Int) / 10))
  have HU := hid (HU5.out.set 2 (.int .u8 (48 + (k : Int) / 10)))
  clear HB5 HU5
  generalize World.setCell _ _ _ = W6 at *
  refine reg_done (by kernel_rfl) (fun w' hw' => ?_) _
  replace HB := hid (bytes_ext HB.out hw')
  replace HU := hid (HU.out.ext hw')
  clear hw'
  go_simp
  have c1 := bytes_cell HB.out 1 _ (List.getElem?_eq_getElem (show 1 < (List.set (List.set cs 3 (48 + (k : Int) % 10)) 2 (48 + (k : Int) / 10)).length by simp only [List.length_set]; omega))
  have f1 := bytes_frozen HB.out 1
  go_wp2
  go_end0
  exact ⟨rfl, by have := bytes_set HB.out 1 (48 + u / 100); simp only [wrote, HKk.out]; exact this, HU.out.set 1 _⟩

set_option maxRecDepth 100000 in
theorem fb4 : FbSaid 4 := by
  intro g u cs w hb hc h0 h
  have HB := hid hb
  have HU := hid (But.refl g w)
  clear hb
  go_enter Try.func95, Try.ntmps95
  go_wp2
  refine wp_loop_once ?_
  go_wp2
  obtain ⟨k, hk⟩ : ∃ k : Nat, u % 100 = (k : Int) := ⟨(u % 100).toNat, by omega⟩
  have hk1 : k < 100 := by omega
  rw [hk]
  have HKk := hid hk
  have hw32 := w32 (x := (k : Int) * 2 + 1) (by omega) (by omega)
  clear hk
  refine reg_begin 0 (by kernel_rfl) ?_
  refine reg_pure 0 rfl (by kernel_rfl) rfl ?_
  apply Exists.intro
  refine ⟨fun w' => ?_, ?_⟩
  · go_simp
    exact rfl
  refine reg_pure 1 rfl (by kernel_rfl) rfl ?_
  apply Exists.intro
  refine ⟨fun w' => ?_, ?_⟩
  · go_simp
    exact rfl
  refine reg_pure 2 rfl (by kernel_rfl) rfl ?_
  apply Exists.intro
  refine ⟨fun w' => ?_, ?_⟩
  · go_simp
    exact rfl
  refine reg_pure 3 rfl (by kernel_rfl) rfl ?_
  apply Exists.intro
  refine ⟨fun w' => ?_, ?_⟩
  · go_simp
    exact rfl
  refine reg_pure 4 rfl (by kernel_rfl) rfl ?_
  apply Exists.intro
  refine ⟨fun w' => ?_, ?_⟩
  · go_simp
    exact rfl
  refine reg_pure 5 rfl (by kernel_rfl) rfl ?_
  apply Exists.intro
  refine ⟨fun w' => ?_, ?_⟩
  · go_simp
    exact rfl
  refine reg_pure 6 rfl (by kernel_rfl) rfl ?_
  apply Exists.intro
  refine ⟨fun w' => ?_, ?_⟩
  · go_simp
    exact rfl
  refine reg_pure 7 rfl (by kernel_rfl) rfl ?_
  apply Exists.intro
  refine ⟨fun w' => ?_, ?_⟩
  · go_simp
    exact rfl
  refine reg_index 8 (.int .u8 (48 + (k : Int) % 10)) rfl (by kernel_rfl) (by go_simp) (sm1 k hk1) ?_
  refine reg_pure 9 rfl (by kernel_rfl) rfl ?_
  apply Exists.intro
  refine ⟨fun w' => ?_, ?_⟩
  · go_simp
    exact rfl
  refine reg_index 10 (.int .u8 (48 + (k : Int) / 10)) rfl (by kernel_rfl) (by go_simp) (sm0 k hk1) ?_
  clear hw32 hk1
  generalize hW : World.drew _ = W
  have HBW := hid (show bytesBlk W g (cs) by rw [← hW]; exact bytes_ext HB.out (Ext.drew _))
  have HUW := hid (show But g w W by rw [← hW]; exact HU.out.ext (Ext.drew _))
  clear hW HB HU
  refine reg_one 11 rfl (by kernel_rfl) rfl (fun w' hw' => ?_)
  have HB1 := hid (bytes_ext HBW.out hw')
  have HU1 := hid (HUW.out.ext hw')
  clear HBW HUW hw'
  go_simp
  refine reg_one 12 rfl (by kernel_rfl) rfl (fun w' hw' => ?_)
  have HB2 := hid (bytes_ext HB1.out hw')
  have HU2 := hid (HU1.out.ext hw')
  clear HB1 HU1 hw'
  have c2 := bytes_cell HB2.out 4 _ (List.getElem?_eq_getElem (show 4 < (cs).length by first | omega | (simp only [List.length_set]; omega)))
  have f2 := bytes_frozen HB2.out 4
  go_simp
  clear c2 f2
  have HB3 := hid (bytes_set HB2.out 4 (48 + (k : Int) % 10))
  have HU3 := hid (HU2.out.set 4 (.int .u8 (48 + (k : Int) % 10)))
  clear HB2 HU2
  generalize World.setCell _ _ _ = W3 at *
  refine reg_one 13 rfl (by kernel_rfl) rfl (fun w' hw' => ?_)
  have HB4 := hid (bytes_ext HB3.out hw')
  have HU4 := hid (HU3.out.ext hw')
  clear HB3 HU3 hw'
  go_simp
  refine reg_one 14 rfl (by kernel_rfl) rfl (fun w' hw' => ?_)
  have HB5 := hid (bytes_ext HB4.out hw')
  have HU5 := hid (HU4.out.ext hw')
  clear HB4 HU4 hw'
  have c2 := bytes_cell HB5.out 3 _ (List.getElem?_eq_getElem (show 3 < (List.set (cs) 4 (48 + (k : Int) % 10)).length by first | omega | (simp only [List.length_set]; omega)))
  have f2 := bytes_frozen HB5.out 3
  go_simp
  clear c2 f2
  have HB := hid (bytes_set HB5.out 3 (48 + (k : Int) / 10))
  have HU := hid (HU5.out.set 3 (.int .u8 (48 + (k : Int) / 10)))
  clear HB5 HU5
  generalize World.setCell _ _ _ = W6 at *
  refine reg_done (by kernel_rfl) (fun w' hw' => ?_) _
  replace HB := hid (bytes_ext HB.out hw')
  replace HU := hid (HU.out.ext hw')
  clear hw'
  go_simp
  go_wp2
  obtain ⟨j, hk⟩ : ∃ j : Nat, u % 10000 / 100 = (j : Int) := ⟨(u % 10000 / 100).toNat, by omega⟩
  have hk1 : j < 100 := by omega
  rw [hk]
  have HKj := hid hk
  have hw32 := w32 (x := (j : Int) * 2 + 1) (by omega) (by omega)
  clear hk
  refine reg_begin 0 (by kernel_rfl) ?_
  refine reg_pure 0 rfl (by kernel_rfl) rfl ?_
  apply Exists.intro
  refine ⟨fun w' => ?_, ?_⟩
  · go_simp
    exact rfl
  refine reg_pure 1 rfl (by kernel_rfl) rfl ?_
  apply Exists.intro
  refine ⟨fun w' => ?_, ?_⟩
  · go_simp
    exact rfl
  refine reg_pure 2 rfl (by kernel_rfl) rfl ?_
  apply Exists.intro
  refine ⟨fun w' => ?_, ?_⟩
  · go_simp
    exact rfl
  refine reg_pure 3 rfl (by kernel_rfl) rfl ?_
  apply Exists.intro
  refine ⟨fun w' => ?_, ?_⟩
  · go_simp
    exact rfl
  refine reg_pure 4 rfl (by kernel_rfl) rfl ?_
  apply Exists.intro
  refine ⟨fun w' => ?_, ?_⟩
  · go_simp
    exact rfl
  refine reg_pure 5 rfl (by kernel_rfl) rfl ?_
  apply Exists.intro
  refine ⟨fun w' => ?_, ?_⟩
  · go_simp
    exact rfl
  refine reg_pure 6 rfl (by kernel_rfl) rfl ?_
  apply Exists.intro
  refine ⟨fun w' => ?_, ?_⟩
  · go_simp
    exact rfl
  refine reg_pure 7 rfl (by kernel_rfl) rfl ?_
  apply Exists.intro
  refine ⟨fun w' => ?_, ?_⟩
  · go_simp
    exact rfl
  refine reg_index 8 (.int .u8 (48 + (j : Int) % 10)) rfl (by kernel_rfl) (by go_simp) (sm1 j hk1) ?_
  refine reg_pure 9 rfl (by kernel_rfl) rfl ?_
  apply Exists.intro
  refine ⟨fun w' => ?_, ?_⟩
  · go_simp
    exact rfl
  refine reg_index 10 (.int .u8 (48 + (j : Int) / 10)) rfl (by kernel_rfl) (by go_simp) (sm0 j hk1) ?_
  clear hw32 hk1
  generalize hW : World.drew _ = W
  have HBW := hid (show bytesBlk W g (List.set (List.set cs 4 (48 + (k : Int) % 10)) 3 (48 + (k : Int) / 10)) by rw [← hW]; exact bytes_ext HB.out (Ext.drew _))
  have HUW := hid (show But g w W by rw [← hW]; exact HU.out.ext (Ext.drew _))
  clear hW HB HU
  refine reg_one 11 rfl (by kernel_rfl) rfl (fun w' hw' => ?_)
  have HB1 := hid (bytes_ext HBW.out hw')
  have HU1 := hid (HUW.out.ext hw')
  clear HBW HUW hw'
  go_simp
  refine reg_one 12 rfl (by kernel_rfl) rfl (fun w' hw' => ?_)
  have HB2 := hid (bytes_ext HB1.out hw')
  have HU2 := hid (HU1.out.ext hw')
  clear HB1 HU1 hw'
  have c2 := bytes_cell HB2.out 2 _ (List.getElem?_eq_getElem (show 2 < (List.set (List.set cs 4 (48 + (k : Int) % 10)) 3 (48 + (k : Int) / 10)).length by first | omega | (simp only [List.length_set]; omega)))
  have f2 := bytes_frozen HB2.out 2
  go_simp
  clear c2 f2
  have HB3 := hid (bytes_set HB2.out 2 (48 + (j : Int) % 10))
  have HU3 := hid (HU2.out.set 2 (.int .u8 (48 + (j : Int) % 10)))
  clear HB2 HU2
  generalize World.setCell _ _ _ = W3 at *
  refine reg_one 13 rfl (by kernel_rfl) rfl (fun w' hw' => ?_)
  have HB4 := hid (bytes_ext HB3.out hw')
  have HU4 := hid (HU3.out.ext hw')
  clear HB3 HU3 hw'
  go_simp
  refine reg_one 14 rfl (by kernel_rfl) rfl (fun w' hw' => ?_)
  have HB5 := hid (bytes_ext HB4.out hw')
  have HU5 := hid (HU4.out.ext hw')
  clear HB4 HU4 hw'
  have c2 := bytes_cell HB5.out 1 _ (List.getElem?_eq_getElem (show 1 < (List.set (List.set (List.set cs 4 (48 + (k : Int) % 10)) 3 (48 + (k : Int) / 10)) 2 (48 + (j : Int) % 10)).length by first | omega | (simp only [List.length_set]; omega)))
  have f2 := bytes_frozen HB5.out 1
  go_simp
  clear c2 f2
  have HB := hid (bytes_set HB5.out 1 (48 + (j : Int) / 10))
  have HU := hid (HU5.out.set 1 (.int .u8 (48 + (j : Int) / 10)))
  clear HB5 HU5
  generalize World.setCell _ _ _ = W6 at *
  refine reg_done (by kernel_rfl) (fun w' hw' => ?_) _
  replace HB := hid (bytes_ext HB.out hw')
  replace HU := hid (HU.out.ext hw')
  clear hw'
  go_simp
  go_wp2
  go_end0
  exact ⟨rfl, by have := HB.out; simp only [wrote, HKk.out, HKj.out]; exact this, HU.out⟩

theorem fb_any (nd : Nat) (h : nd ≤ 4) : FbSaid nd := by
  match nd, h with
  | 0, _ => exact fb0
  | 1, _ => exact fb1
  | 2, _ => exact fb2
  | 3, _ => exact fb3
  | 4, _ => exact fb4

end Go.Proofs.Ytegmnbcfanjocaa
