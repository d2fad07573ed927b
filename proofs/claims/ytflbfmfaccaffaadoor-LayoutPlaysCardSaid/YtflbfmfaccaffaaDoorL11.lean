/-
  The text of a tree.
-/
import Derived.Test.YtflbfmfaccaffaaDoorL10
import Derived.Test.YtflbfmfaccaffaaDoorShelf
import Derived.Sort.Grow
import Derived.Lib.ItoaLen
namespace Go.Proofs.YtflbfmfaccaffaaDoor
open Go Go.RowKit
attribute [local go_sem] extUpon
attribute [local go_sem ↓] eval_put_ne eval_put_none eval_put_same size_put eval_const

/-- Strings are joined. -/
theorem ext_add {a : Act} {dst : Option Tmp} {ty ty1 ty2 : TypeId} {pos : String} {after : Array Edge} {g : Option (Nat × Bool)} {x y : Operand} {s t : ByteArray} (w : World) (hx : a.eval x = .string s) (hy : a.eval y = .string t) (hs : s.size + t.size ≤ 9223372036854775807) :
    extUpon Tryd.prog w (.string (s ++ t)) ((execOp a.eval ⟨dst, .binOp .add ty1 x y ty2, ty, pos, after, g⟩).run Tryd.prog w) := by
  have hn : ¬ 9223372036854775807 < s.size + t.size := by omega
  simp only [execOp, hx, hy]
  simp [go_sem, extUpon, hn, Ext.refl]
theorem reg_add {E fuel : Nat} {l tl : List Oper} {dst : Option Tmp} {ty ty1 ty2 : TypeId} {pos : String} {after : Array Edge} {x y : Operand} {listed : Array Bool} {a : Act} {w : World} {md : Region.Mode} {Q : Exit → Act → World → Prop} (i : Nat) (s t : ByteArray)
    (hi : l.drop i = ⟨dst, .binOp .add ty1 x y ty2, ty, pos, after, none⟩ :: tl) (hB : takeB md l.toArray E listed i = true) (hs : s.size + t.size ≤ 9223372036854775807) (hx : a.eval x = .string s) (hy : a.eval y = .string t)
    (h : wpAnyU Tryd.prog md l.toArray (calm Q) E fuel (listed.setIfInBounds i true) (a.put dst (.string (s ++ t))) w) : wpAnyU Tryd.prog md l.toArray (calm Q) E (fuel + 1) listed a w :=
  reg_quiet i hi hB rfl ⟨_, fun w' _ => ext_add w' hx hy hs, h⟩
theorem reg_adds {E fuel : Nat} {l tl : List Oper} {dst : Option Tmp} {ty ty1 ty2 : TypeId} {pos : String} {after : Array Edge} {x y : Operand} {listed : Array Bool} {a : Act} {w : World} {md : Region.Mode} {Q : Exit → Act → World → Prop} (i : Nat) (s t : List UInt8)
    (hi : l.drop i = ⟨dst, .binOp .add ty1 x y ty2, ty, pos, after, none⟩ :: tl) (hB : takeB md l.toArray E listed i = true) (hs : s.length + t.length ≤ 9223372036854775807) (hx : a.eval x = str s) (hy : a.eval y = str t)
    (h : wpAnyU Tryd.prog md l.toArray (calm Q) E fuel (listed.setIfInBounds i true) (a.put dst (str (s ++ t))) w) : wpAnyU Tryd.prog md l.toArray (calm Q) E (fuel + 1) listed a w := by
  refine reg_add i ⟨s.toArray⟩ ⟨t.toArray⟩ hi hB (by simpa [ByteArray.size] using hs) hx hy ?_
  rwa [ByteArray.mk_append_mk]

theorem Ext.grown (w : World) (k : Nat) (os : Array Obj) : Ext w (Sort.grow (w.drewN k) os) :=
  ⟨rfl, rfl, rfl, by simp, fun i hi => by rw [Sort.heap_grow_old _ _ (by simpa using hi)]; rfl⟩
def TabW (w : World) : Prop := Lib.TabIs Tryd.prog w "internal/strconv.uint64pow10" .u64 Lib.pow10Tab
theorem TabW.block {w w1 : World} (h : TabW w) (hb : w1.heap[0]? = w.heap[0]?) : TabW w1 := by
  unfold TabW Lib.TabIs World.var? at h ⊢
  rw [show Tryd.prog.globalNamed "internal/strconv.uint64pow10" = some 0 by kernel_rfl] at h ⊢
  simp only [Option.bind_some] at h ⊢
  rw [hb]; exact h
theorem TabW.lt {w : World} (h : TabW w) : 0 < w.heap.size := by
  unfold TabW Lib.TabIs World.var? at h
  rw [show Tryd.prog.globalNamed "internal/strconv.uint64pow10" = some 0 by kernel_rfl] at h
  simp only [Option.bind_some] at h
  rcases Nat.lt_or_ge 0 w.heap.size with h' | h'
  · exact h'
  · rw [Array.getElem?_eq_none h'] at h; cases h
theorem TabW.later {w w1 : World} (h : TabW w) (he : Ext w w1) : TabW w1 := h.block (he.block _ h.lt)
theorem itoa_any (n : Int) (w : World) (hT : TabW w) (h0 : -9223372036854775808 ≤ n) (h1 : n ≤ 9223372036854775807) :
    Calls Tryd.prog 51 #[.int .i64 n] w fun e w' => e = .returned (str (Lib.itoa n)) ∧ Ext w w' := by
  refine (Tryd.strconv_Itoa n h0 h1 w hT).mono ?_
  rintro e w2 ⟨rfl, k, os, rfl⟩
  exact ⟨rfl, Ext.grown _ _ _⟩

def LT.text : LT → List UInt8
  | .leaf _ p => if p < 0 then [63] else Lib.itoa p
  | .node _ x y a k => 40 :: (x.text ++ (if a then 124 else 45) :: (Lib.itoa k ++ 58 :: (y.text ++ [41])))
theorem text_len : ∀ t : LT, t.small → t.text.length ≤ 60 * t.size
  | .leaf b p, h => by
    have := Lib.itoa_length_le p h.1 h.2
    simp only [LT.text, LT.size]; split
    · simp
    · omega
  | .node b x y a k, h => by
    obtain ⟨hk, hx, hy⟩ := h
    have := Lib.itoa_length_le k (by omega) (by omega)
    have := text_len x hx; have := text_len y hy
    simp only [LT.text, LT.size, List.length_append, List.length_cons, List.length_nil]; omega

set_option maxHeartbeats 2000000 in
set_option maxRecDepth 100000 in
theorem text_any : ∀ (t : LT) (w : World), LtAt w t → TabW w → t.small → t.size ≤ 1000 →
    Calls Tryd.prog 39 #[ptr t.b] w fun e w' => e = .returned (str t.text) ∧ Ext w w' := by
  intro t
  induction t with
  | leaf b p =>
    intro w h hT hs hz
    have HL : Hid (Calls Tryd.prog 37 #[.pointer (some ⟨b, 0, none⟩)] w fun e w'' => e = .returned (.bool true) ∧ w'' = w) := hid (leaf_any (.leaf b p) w h)
    have HI := hid (itoa_any p w hT hs.1 hs.2)
    have hc : w.cell? ⟨b, 0, none⟩ = some (.int .i64 p) := node_cells h 0 _ rfl
    clear h hT hs hz
    unfold LT.b ptr
    by_cases hp : p < 0
    · have HX : Hid (LT.text (.leaf b p) = [63]) := hid (by simp [LT.text, hp])
      go_enter Tryd.func39, Tryd.ntmps39
      go_wp2_with fail
      refine HL.out.mono ?_
      rintro e w1 ⟨rfl, rfl⟩
      go_wp2_with fail
      go_ret
      exact ⟨by rw [HX.out]; rfl, Ext.refl _⟩
    · have HX : Hid (LT.text (.leaf b p) = Lib.itoa p) := hid (by simp [LT.text, hp])
      go_enter Tryd.func39, Tryd.ntmps39
      go_wp2_with fail
      refine HL.out.mono ?_
      rintro e w1 ⟨rfl, rfl⟩
      go_wp2_with fail
      refine HI.out.mono ?_
      rintro e w2 ⟨rfl, hE⟩
      go_wp2_with fail
      go_ret
      exact ⟨by rw [HX.out]; rfl, hE⟩
  | node b x y a k ihx ihy =>
    intro w h hT hs hz
    have hxl := text_len x hs.2.1
    have hyl := text_len y hs.2.2
    have hkl := Lib.itoa_length_le k (by have := hs.1; omega) (by have := hs.1; omega)
    simp only [LT.size] at hz
    obtain ⟨bx, hbx⟩ : ∃ q, x.b = q := ⟨_, rfl⟩
    obtain ⟨by_, hby⟩ : ∃ q, y.b = q := ⟨_, rfl⟩
    have HL : Hid (∀ w', LtAt w' (.node b x y a k) → Calls Tryd.prog 37 #[.pointer (some ⟨b, 0, none⟩)] w' fun e w'' => e = .returned (.bool false) ∧ w'' = w') := hid (fun w' hw => leaf_any (.node b x y a k) w' hw)
    have HX : Hid (∀ w', Ext w w' → Calls Tryd.prog 39 #[ptr bx] w' fun e w'' => e = .returned (str x.text) ∧ Ext w' w'') := hid (fun w' he => hbx ▸ ihx w' (h.ext he).2.1 (hT.later he) hs.2.1 (by omega))
    have HY : Hid (∀ w', Ext w w' → Calls Tryd.prog 39 #[ptr by_] w' fun e w'' => e = .returned (str y.text) ∧ Ext w' w'') := hid (fun w' he => hby ▸ ihy w' (h.ext he).2.2 (hT.later he) hs.2.2 (by omega))
    have HI := hid (fun w' (he : Ext w w') => itoa_any k w' (hT.later he) (by have := hs.1; omega) (by have := hs.1; omega))
    have HC1 : Hid (w.cell? ⟨b, 1, none⟩ = some (ptr bx)) := hid (hbx ▸ node_cells h 1 _ rfl)
    have HC2 : Hid (w.cell? ⟨b, 2, none⟩ = some (ptr by_)) := hid (hby ▸ node_cells h 2 _ rfl)
    have HC4 : Hid (w.cell? ⟨b, 4, none⟩ = some (.int .i64 k)) := hid (node_cells h 4 _ rfl)
    have hc3 : w.cell? ⟨b, 3, none⟩ = some (.bool a) := node_cells h 3 _ rfl
    have HT : Hid (LT.text (.node b x y a k) = 40 :: (x.text ++ (if a then 124 else 45) :: (Lib.itoa k ++ 58 :: (y.text ++ [41])))) := hid rfl
    replace HL := hid (HL.out w h)
    clear h hT ihx ihy hbx hby hs
    generalize LT.text (.node b x y a k) = tx at *
    generalize x.text = xs at *
    generalize y.text = ys at *
    generalize Lib.itoa k = ks at *
    unfold LT.b ptr at *
    cases a
    · go_enter Tryd.func39, Tryd.ntmps39
      go_wp2_with fail
      refine HL.out.mono ?_
      rintro e w1 ⟨rfl, rfl⟩
      go_wp2_with fail
      refine reg_begin 23 (by kernel_rfl) ?_
      generalize hW : World.drew _ = W
      have HE := hid (by rw [← hW]; exact Ext.drew _ : Ext w1 W)
      clear hW
      replace HC1 := hid (HE.out.cell HC1.out)
      replace HC2 := hid (HE.out.cell HC2.out)
      replace HC4 := hid (HE.out.cell HC4.out)
      clear hc3
      refine reg_quiet 0 rfl (by kernel_rfl) (by kernel_rfl) ?_
      apply Exists.intro
      refine ⟨fun w' hw' => ?_, ?_⟩
      · go_simp
        exact ⟨rfl, Ext.refl _⟩
      refine reg_quiet 1 rfl (by kernel_rfl) (by kernel_rfl) ?_
      apply Exists.intro
      refine ⟨fun w' hw' => ?_, ?_⟩
      · go_simp
        exact ⟨rfl, Ext.refl _⟩
      refine reg_quiet 2 rfl (by kernel_rfl) (by kernel_rfl) ?_
      apply Exists.intro
      refine ⟨fun w' hw' => ?_, ?_⟩
      · go_simp
        exact ⟨rfl, Ext.refl _⟩
      refine reg_quiet 3 rfl (by kernel_rfl) (by kernel_rfl) ?_
      apply Exists.intro
      refine ⟨fun w' hw' => ?_, ?_⟩
      · have q0 := hw'.cell HC1.out
        go_simp
        exact ⟨rfl, Ext.refl _⟩
      refine reg_quiet 4 rfl (by kernel_rfl) (by kernel_rfl) ?_
      apply Exists.intro
      refine ⟨fun w' hw' => ?_, ?_⟩
      · go_simp
        exact HX.out w' (HE.out.trans hw')
      refine reg_adds 5 ([40]) (xs) rfl (by kernel_rfl) (by simp; omega) (by go_simp) (by go_simp) ?_
      refine reg_quiet 6 rfl (by kernel_rfl) (by kernel_rfl) ?_
      apply Exists.intro
      refine ⟨fun w' hw' => ?_, ?_⟩
      · go_simp
        exact ⟨rfl, Ext.refl _⟩
      refine reg_adds 7 ([40] ++ xs) ([45]) rfl (by kernel_rfl) (by simp; omega) (by go_simp) (by go_simp) ?_
      refine reg_quiet 8 rfl (by kernel_rfl) (by kernel_rfl) ?_
      apply Exists.intro
      refine ⟨fun w' hw' => ?_, ?_⟩
      · go_simp
        exact ⟨rfl, Ext.refl _⟩
      refine reg_quiet 9 rfl (by kernel_rfl) (by kernel_rfl) ?_
      apply Exists.intro
      refine ⟨fun w' hw' => ?_, ?_⟩
      · go_simp
        exact ⟨rfl, Ext.refl _⟩
      refine reg_quiet 10 rfl (by kernel_rfl) (by kernel_rfl) ?_
      apply Exists.intro
      refine ⟨fun w' hw' => ?_, ?_⟩
      · go_simp
        exact ⟨rfl, Ext.refl _⟩
      refine reg_quiet 11 rfl (by kernel_rfl) (by kernel_rfl) ?_
      apply Exists.intro
      refine ⟨fun w' hw' => ?_, ?_⟩
      · have q0 := hw'.cell HC4.out
        go_simp
        exact ⟨rfl, Ext.refl _⟩
      refine reg_quiet 12 rfl (by kernel_rfl) (by kernel_rfl) ?_
      apply Exists.intro
      refine ⟨fun w' hw' => ?_, ?_⟩
      · go_simp
        exact HI.out w' (HE.out.trans hw')
      refine reg_adds 13 ([40] ++ xs ++ [45]) (ks) rfl (by kernel_rfl) (by simp; omega) (by go_simp) (by go_simp) ?_
      refine reg_adds 14 ([40] ++ xs ++ [45] ++ ks) ([58]) rfl (by kernel_rfl) (by simp; omega) (by go_simp) (by go_simp) ?_
      refine reg_quiet 15 rfl (by kernel_rfl) (by kernel_rfl) ?_
      apply Exists.intro
      refine ⟨fun w' hw' => ?_, ?_⟩
      · go_simp
        exact ⟨rfl, Ext.refl _⟩
      refine reg_quiet 16 rfl (by kernel_rfl) (by kernel_rfl) ?_
      apply Exists.intro
      refine ⟨fun w' hw' => ?_, ?_⟩
      · go_simp
        exact ⟨rfl, Ext.refl _⟩
      refine reg_quiet 17 rfl (by kernel_rfl) (by kernel_rfl) ?_
      apply Exists.intro
      refine ⟨fun w' hw' => ?_, ?_⟩
      · go_simp
        exact ⟨rfl, Ext.refl _⟩
      refine reg_quiet 18 rfl (by kernel_rfl) (by kernel_rfl) ?_
      apply Exists.intro
      refine ⟨fun w' hw' => ?_, ?_⟩
      · have q0 := hw'.cell HC2.out
        go_simp
        exact ⟨rfl, Ext.refl _⟩
      refine reg_quiet 19 rfl (by kernel_rfl) (by kernel_rfl) ?_
      apply Exists.intro
      refine ⟨fun w' hw' => ?_, ?_⟩
      · go_simp
        exact HY.out w' (HE.out.trans hw')
      refine reg_adds 20 ([40] ++ xs ++ [45] ++ ks ++ [58]) (ys) rfl (by kernel_rfl) (by simp; omega) (by go_simp) (by go_simp) ?_
      refine reg_adds 21 ([40] ++ xs ++ [45] ++ ks ++ [58] ++ ys) ([41]) rfl (by kernel_rfl) (by simp; omega) (by go_simp) (by go_simp) ?_
      refine reg_quiet 22 rfl (by kernel_rfl) (by kernel_rfl) ?_
      apply Exists.intro
      refine ⟨fun w' hw' => ?_, ?_⟩
      · go_simp
        exact ⟨rfl, Ext.refl _⟩
      refine reg_done (by kernel_rfl) (fun w' hw' => ?_) _
      go_simp
      go_wp2_with fail
      go_ret
      exact ⟨by rw [HT.out]; simp, HE.out.trans hw'⟩
    · go_enter Tryd.func39, Tryd.ntmps39
      go_wp2_with fail
      refine HL.out.mono ?_
      rintro e w1 ⟨rfl, rfl⟩
      go_wp2_with fail
      refine reg_begin 23 (by kernel_rfl) ?_
      generalize hW : World.drew _ = W
      have HE := hid (by rw [← hW]; exact Ext.drew _ : Ext w1 W)
      clear hW
      replace HC1 := hid (HE.out.cell HC1.out)
      replace HC2 := hid (HE.out.cell HC2.out)
      replace HC4 := hid (HE.out.cell HC4.out)
      clear hc3
      refine reg_quiet 0 rfl (by kernel_rfl) (by kernel_rfl) ?_
      apply Exists.intro
      refine ⟨fun w' hw' => ?_, ?_⟩
      · go_simp
        exact ⟨rfl, Ext.refl _⟩
      refine reg_quiet 1 rfl (by kernel_rfl) (by kernel_rfl) ?_
      apply Exists.intro
      refine ⟨fun w' hw' => ?_, ?_⟩
      · go_simp
        exact ⟨rfl, Ext.refl _⟩
      refine reg_quiet 2 rfl (by kernel_rfl) (by kernel_rfl) ?_
      apply Exists.intro
      refine ⟨fun w' hw' => ?_, ?_⟩
      · go_simp
        exact ⟨rfl, Ext.refl _⟩
      refine reg_quiet 3 rfl (by kernel_rfl) (by kernel_rfl) ?_
      apply Exists.intro
      refine ⟨fun w' hw' => ?_, ?_⟩
      · have q0 := hw'.cell HC1.out
        go_simp
        exact ⟨rfl, Ext.refl _⟩
      refine reg_quiet 4 rfl (by kernel_rfl) (by kernel_rfl) ?_
      apply Exists.intro
      refine ⟨fun w' hw' => ?_, ?_⟩
      · go_simp
        exact HX.out w' (HE.out.trans hw')
      refine reg_adds 5 ([40]) (xs) rfl (by kernel_rfl) (by simp; omega) (by go_simp) (by go_simp) ?_
      refine reg_quiet 6 rfl (by kernel_rfl) (by kernel_rfl) ?_
      apply Exists.intro
      refine ⟨fun w' hw' => ?_, ?_⟩
      · go_simp
        exact ⟨rfl, Ext.refl _⟩
      refine reg_adds 7 ([40] ++ xs) ([124]) rfl (by kernel_rfl) (by simp; omega) (by go_simp) (by go_simp) ?_
      refine reg_quiet 8 rfl (by kernel_rfl) (by kernel_rfl) ?_
      apply Exists.intro
      refine ⟨fun w' hw' => ?_, ?_⟩
      · go_simp
        exact ⟨rfl, Ext.refl _⟩
      refine reg_quiet 9 rfl (by kernel_rfl) (by kernel_rfl) ?_
      apply Exists.intro
      refine ⟨fun w' hw' => ?_, ?_⟩
      · go_simp
        exact ⟨rfl, Ext.refl _⟩
      refine reg_quiet 10 rfl (by kernel_rfl) (by kernel_rfl) ?_
      apply Exists.intro
      refine ⟨fun w' hw' => ?_, ?_⟩
      · go_simp
        exact ⟨rfl, Ext.refl _⟩
      refine reg_quiet 11 rfl (by kernel_rfl) (by kernel_rfl) ?_
      apply Exists.intro
      refine ⟨fun w' hw' => ?_, ?_⟩
      · have q0 := hw'.cell HC4.out
        go_simp
        exact ⟨rfl, Ext.refl _⟩
      refine reg_quiet 12 rfl (by kernel_rfl) (by kernel_rfl) ?_
      apply Exists.intro
      refine ⟨fun w' hw' => ?_, ?_⟩
      · go_simp
        exact HI.out w' (HE.out.trans hw')
      refine reg_adds 13 ([40] ++ xs ++ [124]) (ks) rfl (by kernel_rfl) (by simp; omega) (by go_simp) (by go_simp) ?_
      refine reg_adds 14 ([40] ++ xs ++ [124] ++ ks) ([58]) rfl (by kernel_rfl) (by simp; omega) (by go_simp) (by go_simp) ?_
      refine reg_quiet 15 rfl (by kernel_rfl) (by kernel_rfl) ?_
      apply Exists.intro
      refine ⟨fun w' hw' => ?_, ?_⟩
      · go_simp
        exact ⟨rfl, Ext.refl _⟩
      refine reg_quiet 16 rfl (by kernel_rfl) (by kernel_rfl) ?_
      apply Exists.intro
      refine ⟨fun w' hw' => ?_, ?_⟩
      · go_simp
        exact ⟨rfl, Ext.refl _⟩
      refine reg_quiet 17 rfl (by kernel_rfl) (by kernel_rfl) ?_
      apply Exists.intro
      refine ⟨fun w' hw' => ?_, ?_⟩
      · go_simp
        exact ⟨rfl, Ext.refl _⟩
      refine reg_quiet 18 rfl (by kernel_rfl) (by kernel_rfl) ?_
      apply Exists.intro
      refine ⟨fun w' hw' => ?_, ?_⟩
      · have q0 := hw'.cell HC2.out
        go_simp
        exact ⟨rfl, Ext.refl _⟩
      refine reg_quiet 19 rfl (by kernel_rfl) (by kernel_rfl) ?_
      apply Exists.intro
      refine ⟨fun w' hw' => ?_, ?_⟩
      · go_simp
        exact HY.out w' (HE.out.trans hw')
      refine reg_adds 20 ([40] ++ xs ++ [124] ++ ks ++ [58]) (ys) rfl (by kernel_rfl) (by simp; omega) (by go_simp) (by go_simp) ?_
      refine reg_adds 21 ([40] ++ xs ++ [124] ++ ks ++ [58] ++ ys) ([41]) rfl (by kernel_rfl) (by simp; omega) (by go_simp) (by go_simp) ?_
      refine reg_quiet 22 rfl (by kernel_rfl) (by kernel_rfl) ?_
      apply Exists.intro
      refine ⟨fun w' hw' => ?_, ?_⟩
      · go_simp
        exact ⟨rfl, Ext.refl _⟩
      refine reg_done (by kernel_rfl) (fun w' hw' => ?_) _
      go_simp
      go_wp2_with fail
      go_ret
      exact ⟨by rw [HT.out]; simp, HE.out.trans hw'⟩

theorem String_any (tb : Nat) (t : LT) (w : World) (h : TreeAt w tb t) (hT : TabW w) :
    Calls Tryd.prog 16 #[ptr tb] w fun e w' => e = .returned (str t.text) ∧ Ext w w' := by
  have HT := hid (text_any t w h.at_ hT h.small h.size)
  have hr := h.root
  clear h hT
  generalize t.b = b at *
  generalize t.text = tx at *
  unfold ptr at *
  go_enter Tryd.func16, Tryd.ntmps16
  go_wp2_with fail
  refine HT.out.mono ?_
  rintro e w1 ⟨rfl, hE⟩
  go_wp2_with fail
  go_ret
  exact ⟨rfl, hE⟩

end Go.Proofs.YtflbfmfaccaffaaDoor
