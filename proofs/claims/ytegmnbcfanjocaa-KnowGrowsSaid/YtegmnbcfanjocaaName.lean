/-
  The names of terms, over any way of writing numbers.
-/
import Derived.Test.YtegmnbcfanjocaaName0
import Derived.Shelf.Abstract
namespace Go.Proofs.Ytegmnbcfanjocaa
open Go Go.RowKit
attribute [local go_sem] extUpon run_store_tm
attribute [local go_sem ↓] Tm.val_cell eval_put_ne eval_put_none eval_put_same size_put eval_const
attribute [local go_sem ↓] meth_Atom meth_Public meth_Shared meth_Chain meth_Digest meth_Box meth_Empty
attribute [local go_sem ↓] run_build_chain run_build_digest run_build_box
attribute [local go_sem] ta_Atom_Atom ta_Public_Atom ta_Shared_Atom ta_Chain_Atom ta_Digest_Atom ta_Box_Atom ta_Empty_Atom ta_Nil_Atom ta_Atom_Public ta_Public_Public ta_Shared_Public ta_Chain_Public ta_Digest_Public ta_Box_Public ta_Empty_Public ta_Nil_Public ta_Atom_Shared ta_Public_Shared ta_Shared_Shared ta_Chain_Shared ta_Digest_Shared ta_Box_Shared ta_Empty_Shared ta_Nil_Shared ta_Atom_Chain ta_Public_Chain ta_Shared_Chain ta_Chain_Chain ta_Digest_Chain ta_Box_Chain ta_Empty_Chain ta_Nil_Chain ta_Atom_Digest ta_Public_Digest ta_Shared_Digest ta_Chain_Digest ta_Digest_Digest ta_Box_Digest ta_Empty_Digest ta_Nil_Digest ta_Atom_Box ta_Public_Box ta_Shared_Box ta_Chain_Box ta_Digest_Box ta_Box_Box ta_Empty_Box ta_Nil_Box ta_Atom_Empty ta_Public_Empty ta_Shared_Empty ta_Chain_Empty ta_Digest_Empty ta_Box_Empty ta_Empty_Empty ta_Nil_Empty

/-- All numbers of a term are such. -/
def Tm.all (R : Int → Prop) : Tm → Prop
  | .non => True
  | .atom n => R n
  | .pub n => R n
  | .shared a b => R a ∧ R b
  | .chain i x y => R i ∧ x.all R ∧ y.all R
  | .digest x y => x.all R ∧ y.all R
  | .box k n a t => R n ∧ k.all R ∧ a.all R ∧ t.all R
  | .empty => True

/-- From w on, numbers that are such are written so. -/
def Itoa (w : World) (R : Int → Prop) (f : Int → List UInt8) : Prop := (∀ n, (f n).length ≤ 40) ∧ ∀ n, R n → Tells w 90 #[.int .i64 n] (f n)
theorem Itoa.later {w w1 : World} {R : Int → Prop} {f : Int → List UInt8} (h : Itoa w R f) (he : Ext w w1) : Itoa w1 R f := ⟨h.1, fun n hn => (h.2 n hn).later he⟩

variable {R : Int → Prop} {f : Int → List UInt8}

theorem name_atom (n : Int) (w : World) (hI : Itoa w R f) (hn : R n) : Calls Try.prog 89 #[.agg #[.int .i64 n]] w fun e w' => e = .returned (str (nm f (.atom n))) ∧ Ext w w' := by
  have hl := hI.1 n
  have HI := hid hI
  clear hI
  go_enter Try.func89, Try.ntmps89
  go_wp2_with (first
    | (go_at_call 90; refine ((HI.out.2 n hn) _ (Ext.alloc _ _)).mono ?_; rintro e w1 ⟨rfl, hE1⟩)
    | (refine wpl_adds [97] (f n) ?_; refine ⟨rfl, _, _, _, _, rfl, rfl, rfl, (by simp; omega), ?_⟩))
  go_ret
  exact ⟨rfl, (Ext.alloc _ _).trans hE1⟩

theorem name_pub (n : Int) (w : World) (hI : Itoa w R f) (hn : R n) : Calls Try.prog 106 #[.agg #[.int .i64 n]] w fun e w' => e = .returned (str (nm f (.pub n))) ∧ Ext w w' := by
  have hl := hI.1 n
  have HI := hid hI
  clear hI
  go_enter Try.func106, Try.ntmps106
  go_wp2_with (first
    | (go_at_call 90; refine ((HI.out.2 n hn) _ (Ext.alloc _ _)).mono ?_; rintro e w1 ⟨rfl, hE1⟩)
    | (refine wpl_adds [112] (f n) ?_; refine ⟨rfl, _, _, _, _, rfl, rfl, rfl, (by simp; omega), ?_⟩))
  go_ret
  exact ⟨rfl, (Ext.alloc _ _).trans hE1⟩

theorem name_empty (w : World) : Calls Try.prog 105 #[.agg #[]] w fun e w' => e = .returned (str (nm f .empty)) ∧ Ext w w' := by
  go_enter Try.func105, Try.ntmps105
  go_wp2_with fail
  go_ret
  exact ⟨rfl, Ext.alloc _ _⟩

theorem name_shared (a b : Int) (w : World) (hI : Itoa w R f) (ha : R a) (hb : R b) : Calls Try.prog 107 #[.agg #[.int .i64 a, .int .i64 b]] w fun e w' => e = .returned (str (nm f (.shared a b))) ∧ Ext w w' := by
  have hla := hI.1 a
  have hlb := hI.1 b
  have HI := hid hI
  clear hI
  go_enter Try.func107, Try.ntmps107
  go_wp2_with fail
  refine reg_begin 10 (by kernel_rfl) ?_
  generalize hW : World.drew _ = W
  have c0 : W.cell? ⟨w.heap.size, 0, none⟩ = some (.int .i64 a) := by rw [← hW]; exact cell_drew (cell_new rfl)
  have c1 : W.cell? ⟨w.heap.size, 1, none⟩ = some (.int .i64 b) := by rw [← hW]; exact cell_drew (cell_new rfl)
  have hE : Ext w W := by rw [← hW]; exact (Ext.alloc _ _).trans (Ext.drew _)
  clear hW
  refine reg_quiet 0 rfl (by kernel_rfl) rfl ?_
  apply Exists.intro
  refine ⟨fun w' hw' => ?_, ?_⟩
  · go_simp
    exact ⟨rfl, Ext.refl _⟩
  refine reg_quiet 1 rfl (by kernel_rfl) rfl ?_
  apply Exists.intro
  refine ⟨fun w' hw' => ?_, ?_⟩
  · have hc := hw'.cell c0
    go_simp
    exact ⟨rfl, Ext.refl _⟩
  refine reg_quiet 2 rfl (by kernel_rfl) rfl ?_
  apply Exists.intro
  refine ⟨fun w' hw' => ?_, ?_⟩
  · go_simp
    exact (HI.out.2 a ha) w' (hE.trans hw')
  refine reg_adds 3 ([115]) (f a) rfl (by kernel_rfl) (by simp; omega) (by go_simp) (by go_simp) ?_
  refine reg_adds 4 ([115] ++ f a) ([46]) rfl (by kernel_rfl) (by simp; omega) (by go_simp) (by go_simp) ?_
  refine reg_quiet 5 rfl (by kernel_rfl) rfl ?_
  apply Exists.intro
  refine ⟨fun w' hw' => ?_, ?_⟩
  · go_simp
    exact ⟨rfl, Ext.refl _⟩
  refine reg_quiet 6 rfl (by kernel_rfl) rfl ?_
  apply Exists.intro
  refine ⟨fun w' hw' => ?_, ?_⟩
  · have hc := hw'.cell c1
    go_simp
    exact ⟨rfl, Ext.refl _⟩
  refine reg_quiet 7 rfl (by kernel_rfl) rfl ?_
  apply Exists.intro
  refine ⟨fun w' hw' => ?_, ?_⟩
  · go_simp
    exact (HI.out.2 b hb) w' (hE.trans hw')
  refine reg_adds 8 ([115] ++ f a ++ [46]) (f b) rfl (by kernel_rfl) (by simp; omega) (by go_simp) (by go_simp) ?_
  refine reg_quiet 9 rfl (by kernel_rfl) rfl ?_
  apply Exists.intro
  refine ⟨fun w' hw' => ?_, ?_⟩
  · go_simp
    exact ⟨rfl, Ext.refl _⟩
  refine reg_done (by kernel_rfl) (fun w' hw' => ?_) _
  go_simp
  go_wp2
  go_ret
  exact ⟨rfl, hE.trans hw'⟩

/-- What is asked of a part: that its name is told. -/
def Named (f : Int → List UInt8) (w : World) (t : Tm) : Prop := Tells w 80 #[t.val] (nm f t) ∧ (nm f t).length ≤ 1000000000

theorem get2 {α : Type} {p : α → Prop} {x y : α} (hx : p x) (hy : p y) : ∀ i (h : i < [x, y].length), p [x, y][i] := by
  intro i h
  match i, h with
  | 0, _ => exact hx
  | 1, _ => exact hy
theorem get3 {α : Type} {p : α → Prop} {x y z : α} (hx : p x) (hy : p y) (hz : p z) : ∀ i (h : i < [x, y, z].length), p [x, y, z][i] := by
  intro i h
  match i, h with
  | 0, _ => exact hx
  | 1, _ => exact hy
  | 2, _ => exact hz

theorem row2 (head : List UInt8) (b cap : Nat) (x y : Tm) (w : World) (hh : head.length ≤ 1000000) (hx : Named f w x) (hy : Named f w y)
    (cx : w.cell? ⟨b, 0, none⟩ = some x.val) (cy : w.cell? ⟨b, 1, none⟩ = some y.val) :
    Calls Try.prog 79 #[str head, .slice (some ⟨b, 0, none⟩) 2 cap] w fun e w' => e = .returned (str (head ++ 40 :: (Lib.join [nm f x, nm f y] [44] ++ [41]))) ∧ Ext w w' := by
  refine row_any head b cap [x, y] [nm f x, nm f y] w hh (by simp) (by simp) rfl ?_ ?_ ?_
  · intro l hl
    simp only [List.mem_cons, List.not_mem_nil, or_false] at hl
    rcases hl with rfl | rfl
    · exact hx.2
    · exact hy.2
  · intro i h
    match i, h with
    | 0, _ => exact cx
    | 1, _ => exact cy
  · intro i h h'
    match i, h, h' with
    | 0, _, _ => exact hx.1
    | 1, _, _ => exact hy.1
theorem row3 (head : List UInt8) (b cap : Nat) (x y z : Tm) (w : World) (hh : head.length ≤ 1000000) (hx : Named f w x) (hy : Named f w y) (hz : Named f w z)
    (cx : w.cell? ⟨b, 0, none⟩ = some x.val) (cy : w.cell? ⟨b, 1, none⟩ = some y.val) (cz : w.cell? ⟨b, 2, none⟩ = some z.val) :
    Calls Try.prog 79 #[str head, .slice (some ⟨b, 0, none⟩) 3 cap] w fun e w' => e = .returned (str (head ++ 40 :: (Lib.join [nm f x, nm f y, nm f z] [44] ++ [41]))) ∧ Ext w w' := by
  refine row_any head b cap [x, y, z] [nm f x, nm f y, nm f z] w hh (by simp) (by simp) rfl ?_ ?_ ?_
  · intro l hl
    simp only [List.mem_cons, List.not_mem_nil, or_false] at hl
    rcases hl with rfl | rfl | rfl
    · exact hx.2
    · exact hy.2
    · exact hz.2
  · intro i h
    match i, h with
    | 0, _ => exact cx
    | 1, _ => exact cy
    | 2, _ => exact cz
  · intro i h h'
    match i, h, h' with
    | 0, _, _ => exact hx.1
    | 1, _, _ => exact hy.1
    | 2, _, _ => exact hz.1
theorem Named.later {w w1 : World} {t : Tm} (h : Named f w t) (he : Ext w w1) : Named f w1 t := ⟨h.1.later he, h.2⟩

theorem name_digest (x y : Tm) (w : World) (hx : Named f w x) (hy : Named f w y) : Calls Try.prog 78 #[.agg #[x.val, y.val]] w fun e w' => e = .returned (str (nm f (.digest x y))) ∧ Ext w w' := by
  have HX := hid hx; have HY := hid hy
  clear hx hy
  go_enter Try.func78, Try.ntmps78
  go_wp2_with (first
    | (refine wpl_bs ?_; refine ⟨rfl, _, _, _, [(0, x.val), (1, y.val)], _, _, rfl, rfl, run_bs2 x y _, ?_⟩)
    | (go_at_call 79; refine (row2 [104] _ 2 x y _ (by simp) (HX.out.later ((Ext.alloc _ _).alloc' _)) (HY.out.later ((Ext.alloc _ _).alloc' _)) (cell_blk (blk_at (by simp)) rfl) (cell_blk (blk_at (by simp)) rfl)).mono ?_; rintro e w1 ⟨rfl, hE1⟩))
  go_ret
  exact ⟨rfl, ((Ext.alloc _ _).alloc' _).trans hE1⟩

set_option maxRecDepth 100000 in
theorem name_chain (i : Int) (x y : Tm) (w : World) (hI : Itoa w R f) (hi : R i) (hx : Named f w x) (hy : Named f w y) : Calls Try.prog 104 #[.agg #[.int .i64 i, x.val, y.val]] w fun e w' => e = .returned (str (nm f (.chain i x y))) ∧ Ext w w' := by
  have hl := hI.1 i
  have HI := hid hI; have HX := hid hx; have HY := hid hy
  clear hI hx hy
  go_enter Try.func104, Try.ntmps104
  go_wp2_with fail
  refine reg_begin 11 (by kernel_rfl) ?_
  generalize hW : World.drew _ = W
  have c0 : W.cell? ⟨w.heap.size, 0, none⟩ = some (.int .i64 i) := by rw [← hW]; exact cell_drew (cell_new rfl)
  have c1 : W.cell? ⟨w.heap.size, 1, none⟩ = some x.val := by rw [← hW]; exact cell_drew (cell_new rfl)
  have c2 : W.cell? ⟨w.heap.size, 2, none⟩ = some y.val := by rw [← hW]; exact cell_drew (cell_new rfl)
  have hE : Ext w W := by rw [← hW]; exact (Ext.alloc _ _).trans (Ext.drew _)
  clear hW
  refine reg_quiet 0 rfl (by kernel_rfl) rfl ?_
  apply Exists.intro
  refine ⟨fun w' hw' => ?_, ?_⟩
  · go_simp
    exact ⟨rfl, Ext.refl _⟩
  refine reg_quiet 1 rfl (by kernel_rfl) rfl ?_
  apply Exists.intro
  refine ⟨fun w' hw' => ?_, ?_⟩
  · have hc := hw'.cell c0
    go_simp
    exact ⟨rfl, Ext.refl _⟩
  refine reg_quiet 2 rfl (by kernel_rfl) rfl ?_
  apply Exists.intro
  refine ⟨fun w' hw' => ?_, ?_⟩
  · go_simp
    exact (HI.out.2 i hi) w' (hE.trans hw')
  refine reg_adds 3 ([99]) (f i) rfl (by kernel_rfl) (by simp; omega) (by go_simp) (by go_simp) ?_
  refine reg_quiet 4 rfl (by kernel_rfl) rfl ?_
  apply Exists.intro
  refine ⟨fun w' hw' => ?_, ?_⟩
  · go_simp
    exact ⟨rfl, Ext.refl _⟩
  refine reg_quiet 5 rfl (by kernel_rfl) rfl ?_
  apply Exists.intro
  refine ⟨fun w' hw' => ?_, ?_⟩
  · have hc := hw'.cell c1
    go_simp
    exact ⟨rfl, Ext.refl _⟩
  refine reg_quiet 6 rfl (by kernel_rfl) rfl ?_
  apply Exists.intro
  refine ⟨fun w' hw' => ?_, ?_⟩
  · go_simp
    exact ⟨rfl, Ext.refl _⟩
  refine reg_quiet 7 rfl (by kernel_rfl) rfl ?_
  apply Exists.intro
  refine ⟨fun w' hw' => ?_, ?_⟩
  · have hc := hw'.cell c2
    go_simp
    exact ⟨rfl, Ext.refl _⟩
  refine reg_one 8 rfl (by kernel_rfl) rfl (fun w' hw' => ?_)
  refine wp_bs (L := [(0, x.val), (1, y.val)]) rfl (by go_simp) (run_bs2 x y _) ⟨fun _ => Ext.alloc _ _, ?_⟩
  generalize hg : w'.heap.size = g
  have d0 : (w'.alloc (.cells #[x.val, y.val] 32)).cell? ⟨g, 0, none⟩ = some x.val := by rw [← hg]; exact cell_new rfl
  have d1 : (w'.alloc (.cells #[x.val, y.val] 32)).cell? ⟨g, 1, none⟩ = some y.val := by rw [← hg]; exact cell_new rfl
  have hE2 : Ext w (w'.alloc (.cells #[x.val, y.val] 32)) := (hE.trans hw').alloc' _
  generalize (w'.alloc (.cells #[x.val, y.val] 32)) = W2 at *
  clear hg hw' hE c0 c1 c2
  refine reg_quiet 9 rfl (by kernel_rfl) rfl ?_
  apply Exists.intro
  refine ⟨fun w' hw' => ?_, ?_⟩
  · go_simp
    exact row2 (99 :: f i) g 2 x y w' (by simp; omega) (HX.out.later (hE2.trans hw')) (HY.out.later (hE2.trans hw')) (hw'.cell d0) (hw'.cell d1)
  refine reg_quiet 10 rfl (by kernel_rfl) rfl ?_
  apply Exists.intro
  refine ⟨fun w' hw' => ?_, ?_⟩
  · go_simp
    exact ⟨rfl, Ext.refl _⟩
  refine reg_done (by kernel_rfl) (fun w' hw' => ?_) _
  go_simp
  go_wp2
  go_ret
  exact ⟨by simp [nm], hE2.trans hw'⟩

set_option maxRecDepth 100000 in
theorem name_box (k : Tm) (n : Int) (x y : Tm) (w : World) (hI : Itoa w R f) (hi : R n) (hk : Named f w k) (hx : Named f w x) (hy : Named f w y) : Calls Try.prog 103 #[.agg #[k.val, .int .i64 n, x.val, y.val]] w fun e w' => e = .returned (str (nm f (.box k n x y))) ∧ Ext w w' := by
  have hl := hI.1 n
  have HI := hid hI; have HX := hid hx; have HY := hid hy; have HK := hid hk
  clear hI hx hy hk
  go_enter Try.func103, Try.ntmps103
  go_wp2_with fail
  refine reg_begin 13 (by kernel_rfl) ?_
  generalize hW : World.drew _ = W
  have c0 : W.cell? ⟨w.heap.size, 0, none⟩ = some k.val := by rw [← hW]; exact cell_drew (cell_new rfl)
  have c1 : W.cell? ⟨w.heap.size, 1, none⟩ = some (.int .i64 n) := by rw [← hW]; exact cell_drew (cell_new rfl)
  have c2 : W.cell? ⟨w.heap.size, 2, none⟩ = some x.val := by rw [← hW]; exact cell_drew (cell_new rfl)
  have c3 : W.cell? ⟨w.heap.size, 3, none⟩ = some y.val := by rw [← hW]; exact cell_drew (cell_new rfl)
  have hE : Ext w W := by rw [← hW]; exact (Ext.alloc _ _).trans (Ext.drew _)
  clear hW
  refine reg_quiet 0 rfl (by kernel_rfl) rfl ?_
  apply Exists.intro
  refine ⟨fun w' hw' => ?_, ?_⟩
  · go_simp
    exact ⟨rfl, Ext.refl _⟩
  refine reg_quiet 1 rfl (by kernel_rfl) rfl ?_
  apply Exists.intro
  refine ⟨fun w' hw' => ?_, ?_⟩
  · have hc := hw'.cell c1
    go_simp
    exact ⟨rfl, Ext.refl _⟩
  refine reg_quiet 2 rfl (by kernel_rfl) rfl ?_
  apply Exists.intro
  refine ⟨fun w' hw' => ?_, ?_⟩
  · go_simp
    exact (HI.out.2 n hi) w' (hE.trans hw')
  refine reg_adds 3 ([98]) (f n) rfl (by kernel_rfl) (by simp; omega) (by go_simp) (by go_simp) ?_
  refine reg_quiet 4 rfl (by kernel_rfl) rfl ?_
  apply Exists.intro
  refine ⟨fun w' hw' => ?_, ?_⟩
  · go_simp
    exact ⟨rfl, Ext.refl _⟩
  refine reg_quiet 5 rfl (by kernel_rfl) rfl ?_
  apply Exists.intro
  refine ⟨fun w' hw' => ?_, ?_⟩
  · have hc := hw'.cell c0
    go_simp
    exact ⟨rfl, Ext.refl _⟩
  refine reg_quiet 6 rfl (by kernel_rfl) rfl ?_
  apply Exists.intro
  refine ⟨fun w' hw' => ?_, ?_⟩
  · go_simp
    exact ⟨rfl, Ext.refl _⟩
  refine reg_quiet 7 rfl (by kernel_rfl) rfl ?_
  apply Exists.intro
  refine ⟨fun w' hw' => ?_, ?_⟩
  · have hc := hw'.cell c2
    go_simp
    exact ⟨rfl, Ext.refl _⟩
  refine reg_quiet 8 rfl (by kernel_rfl) rfl ?_
  apply Exists.intro
  refine ⟨fun w' hw' => ?_, ?_⟩
  · go_simp
    exact ⟨rfl, Ext.refl _⟩
  refine reg_quiet 9 rfl (by kernel_rfl) rfl ?_
  apply Exists.intro
  refine ⟨fun w' hw' => ?_, ?_⟩
  · have hc := hw'.cell c3
    go_simp
    exact ⟨rfl, Ext.refl _⟩
  refine reg_one 10 rfl (by kernel_rfl) rfl (fun w' hw' => ?_)
  refine wp_bs (L := [(0, k.val), (1, x.val), (2, y.val)]) rfl (by go_simp) (run_bs3 k x y _) ⟨fun _ => Ext.alloc _ _, ?_⟩
  generalize hg : w'.heap.size = g
  have d0 : (w'.alloc (.cells #[k.val, x.val, y.val] 32)).cell? ⟨g, 0, none⟩ = some k.val := by rw [← hg]; exact cell_new rfl
  have d1 : (w'.alloc (.cells #[k.val, x.val, y.val] 32)).cell? ⟨g, 1, none⟩ = some x.val := by rw [← hg]; exact cell_new rfl
  have d2 : (w'.alloc (.cells #[k.val, x.val, y.val] 32)).cell? ⟨g, 2, none⟩ = some y.val := by rw [← hg]; exact cell_new rfl
  have hE2 : Ext w (w'.alloc (.cells #[k.val, x.val, y.val] 32)) := (hE.trans hw').alloc' _
  generalize (w'.alloc (.cells #[k.val, x.val, y.val] 32)) = W2 at *
  clear hg hw' hE c0 c1 c2 c3
  refine reg_quiet 11 rfl (by kernel_rfl) rfl ?_
  apply Exists.intro
  refine ⟨fun w' hw' => ?_, ?_⟩
  · go_simp
    exact row3 (98 :: f n) g 3 k x y w' (by simp; omega) (HK.out.later (hE2.trans hw')) (HX.out.later (hE2.trans hw')) (HY.out.later (hE2.trans hw')) (hw'.cell d0) (hw'.cell d1) (hw'.cell d2)
  refine reg_quiet 12 rfl (by kernel_rfl) rfl ?_
  apply Exists.intro
  refine ⟨fun w' hw' => ?_, ?_⟩
  · go_simp
    exact ⟨rfl, Ext.refl _⟩
  refine reg_done (by kernel_rfl) (fun w' hw' => ?_) _
  go_simp
  go_wp2
  go_ret
  exact ⟨by simp [nm], hE2.trans hw'⟩

/-- A part's name, its kind's method being told. -/
theorem name_of {u : TypeId} {x : Value} {m : FuncId} {s : List UInt8} (w : World) (hm : ∀ w, (method 254 u x "Name").run Try.prog w = .ok (m, x) w) (hc : ∀ args w, (callFunc m args).run Try.prog w = .ok (.enter m args) w)
    (h : Calls Try.prog m #[x] w fun e w' => e = .returned (str s) ∧ Ext w w') : Calls Try.prog 80 #[.iface u x] w fun e w' => e = .returned (str s) ∧ Ext w w' := by
  have H := hid h
  clear h
  go_enter Try.func80, Try.ntmps80
  go_wp2_with (refine H.out.mono ?_; rintro e w1 ⟨rfl, hE1⟩)
  go_ret
  exact ⟨rfl, hE1⟩

theorem name_non (w : World) : Calls Try.prog 80 #[.nilIface] w fun e w' => e = .returned (str (nm f .non)) ∧ Ext w w' := by
  go_enter Try.func80, Try.ntmps80
  go_wp2_with fail
  go_ret
  exact ⟨rfl, Ext.refl _⟩

theorem ent_atom : ∀ args w, (callFunc 89 args).run Try.prog w = .ok (.enter 89 args) w := enters_of Try.func89 (by kernel_rfl) rfl
theorem ent_pub : ∀ args w, (callFunc 106 args).run Try.prog w = .ok (.enter 106 args) w := enters_of Try.func106 (by kernel_rfl) rfl
theorem ent_shared : ∀ args w, (callFunc 107 args).run Try.prog w = .ok (.enter 107 args) w := enters_of Try.func107 (by kernel_rfl) rfl
theorem ent_chain : ∀ args w, (callFunc 104 args).run Try.prog w = .ok (.enter 104 args) w := enters_of Try.func104 (by kernel_rfl) rfl
theorem ent_digest : ∀ args w, (callFunc 78 args).run Try.prog w = .ok (.enter 78 args) w := enters_of Try.func78 (by kernel_rfl) rfl
theorem ent_box : ∀ args w, (callFunc 103 args).run Try.prog w = .ok (.enter 103 args) w := enters_of Try.func103 (by kernel_rfl) rfl
theorem ent_empty : ∀ args w, (callFunc 105 args).run Try.prog w = .ok (.enter 105 args) w := enters_of Try.func105 (by kernel_rfl) rfl

theorem name_any (hR : True) : ∀ (t : Tm) (w : World), Itoa w R f → t.all R → sz t ≤ 10000 → Calls Try.prog 80 #[t.val] w fun e w' => e = .returned (str (nm f t)) ∧ Ext w w'
  | .non, w, _, _, _ => name_non w
  | .atom n, w, hI, ha, _ => name_of w (fun _ => meth_Atom _ _) ent_atom (name_atom n w hI ha)
  | .pub n, w, hI, ha, _ => name_of w (fun _ => meth_Public _ _) ent_pub (name_pub n w hI ha)
  | .shared a b, w, hI, ha, _ => name_of w (fun _ => meth_Shared _ _) ent_shared (name_shared a b w hI ha.1 ha.2)
  | .empty, w, _, _, _ => name_of w (fun _ => meth_Empty _ _) ent_empty (name_empty w)
  | .digest x y, w, hI, ha, hs => by
    have px := sz_pos x; have py := sz_pos y
    simp only [sz] at hs
    have lx := nm_len hI.1 x; have ly := nm_len hI.1 y
    exact name_of w (fun _ => meth_Digest _ _) ent_digest (name_digest x y w ⟨fun w' h' => name_any hR x w' (hI.later h') ha.1 (by omega), by omega⟩ ⟨fun w' h' => name_any hR y w' (hI.later h') ha.2 (by omega), by omega⟩)
  | .chain i x y, w, hI, ha, hs => by
    have px := sz_pos x; have py := sz_pos y
    simp only [sz] at hs
    have lx := nm_len hI.1 x; have ly := nm_len hI.1 y
    exact name_of w (fun _ => meth_Chain _ _) ent_chain (name_chain i x y w hI ha.1 ⟨fun w' h' => name_any hR x w' (hI.later h') ha.2.1 (by omega), by omega⟩ ⟨fun w' h' => name_any hR y w' (hI.later h') ha.2.2 (by omega), by omega⟩)
  | .box k n x y, w, hI, ha, hs => by
    have pk := sz_pos k; have px := sz_pos x; have py := sz_pos y
    simp only [sz] at hs
    have lk := nm_len hI.1 k; have lx := nm_len hI.1 x; have ly := nm_len hI.1 y
    exact name_of w (fun _ => meth_Box _ _) ent_box (name_box k n x y w hI ha.1 ⟨fun w' h' => name_any hR k w' (hI.later h') ha.2.1 (by omega), by omega⟩ ⟨fun w' h' => name_any hR x w' (hI.later h') ha.2.2.1 (by omega), by omega⟩ ⟨fun w' h' => name_any hR y w' (hI.later h') ha.2.2.2 (by omega), by omega⟩)

end Go.Proofs.Ytegmnbcfanjocaa
