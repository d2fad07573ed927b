/-
  The walk over a tree, for any function that is called with each node.
-/
import Derived.Test.YtflbfmfaccaffaaDoorL2
namespace Go.Proofs.YtflbfmfaccaffaaDoor
open Go Go.RowKit
attribute [local go_sem] extUpon
attribute [local go_sem ↓] eval_put_ne eval_put_none eval_put_same size_put eval_const

/-- What is called: a function with one box of its own. -/
def clo (F : FuncId) (g : Nat) : Value := .func (.func F) #[] #[ptr g]

/-- All parts are small. -/
def LT.small : LT → Prop
  | .leaf _ p => -9223372036854775808 ≤ p ∧ p ≤ 9223372036854775807
  | .node _ x y _ k => (-1000000 ≤ k ∧ k ≤ 1000000) ∧ x.small ∧ y.small

/-- The block of the row that stands in the box g. -/
def back (w : World) (g : Nat) : Option Nat :=
  match w.cell? ⟨g, 0, none⟩ with
  | some (.slice (some a) _ _) => some a.block
  | _ => none
/-- The box and its row lie from B on. -/
structure Far (B g : Nat) (w : World) : Prop where
  box : B ≤ g
  here : g < w.heap.size
  row : ∀ k, back w g = some k → B ≤ k ∧ k < w.heap.size
/-- Nothing is written but the box, its row, and what is new. -/
structure Mv (g : Nat) (w w' : World) : Prop where
  os : w'.os = w.os
  tape : w'.tape = w.tape
  output : w'.output = w.output
  size : w.heap.size ≤ w'.heap.size
  block : ∀ k, k < w.heap.size → k ≠ g → back w g ≠ some k → w'.heap[k]? = w.heap[k]?
  row : ∀ k, back w' g = some k → back w g = some k ∨ w.heap.size ≤ k
theorem back_ext {w w' : World} {g : Nat} (h : Ext w w') (hg : g < w.heap.size) : back w' g = back w g := by
  have : w'.cell? ⟨g, 0, none⟩ = w.cell? ⟨g, 0, none⟩ := Below.cell h hg
  simp [back, this]
theorem Far.ext {B g : Nat} {w w' : World} (h : Far B g w) (he : Ext w w') : Far B g w' :=
  ⟨h.box, Nat.lt_of_lt_of_le h.here he.size, fun k hk => by
    rw [back_ext he h.here] at hk
    exact ⟨(h.row k hk).1, Nat.lt_of_lt_of_le (h.row k hk).2 he.size⟩⟩
theorem Mv.of_ext {g : Nat} {w w' : World} (h : Ext w w') (hg : g < w.heap.size) : Mv g w w' :=
  ⟨h.os, h.tape, h.output, h.size, fun k hk _ _ => h.block k hk, fun k hk => .inl (by rw [← back_ext h hg]; exact hk)⟩
theorem Mv.trans {g : Nat} {a b c : World} (h : Mv g a b) (k : Mv g b c) : Mv g a c :=
  ⟨k.os.trans h.os, k.tape.trans h.tape, k.output.trans h.output, Nat.le_trans h.size k.size, fun j hj hg hb => by
    refine (k.block j (Nat.lt_of_lt_of_le hj h.size) hg fun h' => ?_).trans (h.block j hj hg hb)
    rcases h.row j h' with h'' | h''
    · exact hb h''
    · omega,
   fun j hj => by
    rcases k.row j hj with h' | h'
    · exact h.row j h'
    · exact .inr (Nat.le_trans h.size h')⟩
theorem Mv.below {B g : Nat} {w w' : World} (h : Mv g w w') (hf : Far B g w) (hB : B ≤ w.heap.size) : Below B w w' :=
  ⟨h.os, h.tape, h.output, h.size, fun k hk => h.block k (by omega) (by have := hf.box; omega) fun h' => by have := hf.row k h'; omega⟩
/-- What came after the box was made, and is not its row, stays. -/
theorem Mv.keep {B g k : Nat} {w w1 w' : World} (h : Mv g w1 w') (hf : Far B g w) (he : Ext w w1) (hk : w.heap.size ≤ k) (hk1 : k < w1.heap.size) : w'.heap[k]? = w1.heap[k]? :=
  h.block k hk1 (by have := hf.here; omega) fun h' => by
    rw [back_ext he hf.here] at h'
    have := hf.row k h'; omega

/-- What one call does. -/
def One (F : FuncId) (g B : Nat) (I : List (LT × Bx) → World → Prop) (L : List (LT × Bx)) : Prop :=
  ∀ l t r w, (l ++ [(t, r)]) <+: L → I l w → LtAt w t → (∀ k ∈ t.blocks, k < B) → r.ok → t.small → B ≤ w.heap.size → Far B g w →
    Calls Tryd.prog F #[ptr t.b, r.val, ptr g] w fun e w' => e = .returned (.tuple #[]) ∧ I (l ++ [(t, r)]) w' ∧ Mv g w w' ∧ Far B g w'

set_option maxHeartbeats 2000000 in
set_option maxRecDepth 100000 in
theorem walk_any (F : FuncId) (hF : ∀ args w, (callFunc F args).run Tryd.prog w = .ok (.enter F args) w) (g B : Nat) (I : List (LT × Bx) → World → Prop) (hI : ∀ l w w', I l w → Ext w w' → I l w') (L : List (LT × Bx)) (hone : One F g B I L) :
    ∀ (t : LT) (r : Bx) (l : List (LT × Bx)) (w : World), (l ++ t.visit r) <+: L → I l w → LtAt w t → (∀ k ∈ t.blocks, k < B) → r.ok → t.small → B ≤ w.heap.size → Far B g w →
      Calls Tryd.prog 34 #[ptr t.b, r.val, clo F g] w fun e w' => e = .returned (.tuple #[]) ∧ I (l ++ t.visit r) w' ∧ Mv g w w' ∧ Far B g w' := by
  intro t
  induction t with
  | leaf b p =>
    intro r l w hL hi ht hb hr hs hB hf
    have H1 := hid (hone l (.leaf b p) r (w.alloc (.cells #[.int .i64 r.row, .int .i64 r.col, .int .i64 r.rows, .int .i64 r.cols] 32 (0, 0))) hL (hI _ _ _ hi (Ext.alloc _ _)) (ht.ext (Ext.alloc _ _)) hb hr hs (by simp; omega) (hf.ext (Ext.alloc _ _)))
    have HL := hid (fun w' (hw : LtAt w' (.leaf b p)) => leaf_any (.leaf b p) w' hw)
    have HT := hid (ht.ext (Ext.alloc w (.cells #[.int .i64 r.row, .int .i64 r.col, .int .i64 r.rows, .int .i64 r.cols] 32 (0, 0))))
    have HB := hid hb
    have HF := hid hf
    clear hone hI hi ht hb hf hL
    unfold ptr clo Bx.val LT.b at *
    unfold ptr
    go_enter Tryd.func34, Tryd.ntmps34
    go_wp2_with fail
    refine H1.out.mono ?_
    rintro e w1 ⟨rfl, hi1, hm, hf1⟩
    have ht1 := HT.out.below HB.out (hm.below (HF.out.ext (Ext.alloc _ _)) (by simp; omega))
    have hm1 := (Mv.of_ext (Ext.alloc w _) HF.out.here).trans hm
    go_wp2_with fail
    refine (HL.out _ ht1).mono ?_
    rintro e w2 ⟨rfl, rfl⟩
    go_wp2_with fail
    simp [bodyPost, results, Tryd.results34, go_sem]
    exact ⟨hi1, hm1, hf1⟩
  | node b x y a k ihx ihy =>
    intro r l w hL hi ht hb hr hs hB hf
    obtain ⟨bx, hbx⟩ : ∃ q, x.b = q := ⟨_, rfl⟩
    obtain ⟨by_, hby⟩ : ∃ q, y.b = q := ⟨_, rfl⟩
    rw [hbx] at ihx
    rw [hby] at ihy
    have H1 := hid (hone l (.node b x y a k) r (w.alloc (.cells #[.int .i64 r.row, .int .i64 r.col, .int .i64 r.rows, .int .i64 r.cols] 32 (0, 0))) (List.IsPrefix.trans ⟨x.visit (parts a k r).1 ++ y.visit (parts a k r).2, by simp [LT.visit]⟩ hL) (hI _ _ _ hi (Ext.alloc _ _)) (ht.ext (Ext.alloc _ _)) hb hr hs (by simp; omega) (hf.ext (Ext.alloc _ _)))
    have HL := hid (fun w' (hw : LtAt w' (.node b x y a k)) => (leaf_any (.node b x y a k) w' hw : Calls Tryd.prog 37 #[ptr b] w' fun e w'' => e = .returned (.bool false) ∧ w'' = w'))
    have HP := hid (fun w' (hw : LtAt w' (.node b x y a k)) => parts_any b a k r w' (node_cells hw 3 _ rfl) (node_cells hw 4 _ rfl) hr (by simp only [LT.small] at hs; omega))
    have HK := hid (parts_ok (a := a) (k := k) hr)
    have HC := hid (fun w' (hw : LtAt w' (.node b x y a k)) => (⟨hbx ▸ node_cells hw 1 _ rfl, hby ▸ node_cells hw 2 _ rfl⟩ : w'.cell? ⟨b, 1, none⟩ = some (ptr bx) ∧ w'.cell? ⟨b, 2, none⟩ = some (ptr by_)))
    have HX := hid (fun w' hi hw hB' hf' => ihx (parts a k r).1 (l ++ [(.node b x y a k, r)]) w' (List.IsPrefix.trans ⟨y.visit (parts a k r).2, by simp [LT.visit]⟩ hL) hi hw (fun q hq => hb q (by simp [LT.blocks, hq])) HK.out.1 hs.2.1 hB' hf')
    have HY := hid (fun w' hi hw hB' hf' => ihy (parts a k r).2 ((l ++ [(.node b x y a k, r)]) ++ x.visit (parts a k r).1) w' (by simpa [LT.visit] using hL) hi hw (fun q hq => hb q (by simp [LT.blocks, hq])) HK.out.2 hs.2.2 hB' hf')
    have HT := hid (ht.ext (Ext.alloc w (.cells #[.int .i64 r.row, .int .i64 r.col, .int .i64 r.rows, .int .i64 r.cols] 32 (0, 0))))
    have HB := hid hb
    have HF := hid hf
    have HI := hid hI
    have HV : Hid (LT.visit (.node b x y a k) r = (.node b x y a k, r) :: (x.visit (parts a k r).1 ++ y.visit (parts a k r).2)) := hid rfl
    clear hone hI hi ht hb ihx ihy hs HK hf hL
    generalize LT.visit (.node b x y a k) r = vis at *
    generalize hab : parts a k r = ab at *
    obtain ⟨ra, rb⟩ := ab
    simp only at HX HY HP HV
    clear hab
    unfold ptr clo Bx.val LT.b at *
    unfold ptr
    go_enter Tryd.func34, Tryd.ntmps34
    go_wp2_with fail
    refine H1.out.mono ?_
    rintro e w1 ⟨rfl, hi1, hm, hf1⟩
    have hq : w1.heap[w.heap.size]? = _ := (hm.keep HF.out (Ext.alloc _ _) (Nat.le_refl _) (by simp)).trans (blk_new _ _)
    have ht1 := HT.out.below HB.out (hm.below (HF.out.ext (Ext.alloc _ _)) (by simp; omega))
    have hm1 := (Mv.of_ext (Ext.alloc w _) HF.out.here).trans hm
    have HQ := hid hq
    have HM := hid hm1
    have HT1 := hid ht1
    have HF1 := hid hf1
    have HI1 := hid hi1
    clear hm hq hm1 ht1 hf1 hi1 H1 HT
    go_wp2_with fail
    refine (HL.out _ HT1.out).mono ?_
    rintro e w2 ⟨rfl, rfl⟩
    have q0 := cell_blk (j := 0) HQ.out rfl
    have q1 := cell_blk (j := 1) HQ.out rfl
    have q2 := cell_blk (j := 2) HQ.out rfl
    have q3 := cell_blk (j := 3) HQ.out rfl
    go_wp2_with fail
    refine (HP.out _ HT1.out).mono ?_
    rintro e w3 ⟨rfl, hE⟩
    clear q0 q1 q2 q3
    have HF3 := hid (HF1.out.ext hE)
    have HI3 := hid (HI.out _ _ _ HI1.out hE)
    have HT3 := hid (HT1.out.ext hE)
    have HM3 := hid (HM.out.trans (Mv.of_ext hE HF1.out.here))
    clear hE HL HP HQ HI1 HF1 HM HT1 hF
    go_wp2_with fail
    refine reg_begin 6 (by kernel_rfl) ?_
    generalize hW : World.drew _ = W
    have HE := hid (by rw [← hW]; exact ((Ext.alloc w3 _).trans (Ext.alloc _ _)).trans (Ext.drew _) : Ext w3 W)
    have hs : w3.heap.size + 1 < W.heap.size := by rw [← hW]; simp
    have h1 : W.heap[w3.heap.size]? = some (.cells #[.int .i64 ra.row, .int .i64 ra.col, .int .i64 ra.rows, .int .i64 ra.cols] 32 (0, 0)) := by rw [← hW]; exact (Ext.alloc _ _).blk (blk_new _ _)
    have h2 : W.heap[w3.heap.size + 1]? = some (.cells #[.int .i64 rb.row, .int .i64 rb.col, .int .i64 rb.rows, .int .i64 rb.cols] 32 (0, 0)) := by rw [← hW]; exact blk_at (by simp)
    clear hW
    have HS := hid hs
    have HA0 := hid (cell_blk (j := 0) h1 rfl)
    have HA1 := hid (cell_blk (j := 1) h1 rfl)
    have HA2 := hid (cell_blk (j := 2) h1 rfl)
    have HA3 := hid (cell_blk (j := 3) h1 rfl)
    have HB2 := hid h2
    have HT4 := hid (HT3.out.ext HE.out)
    have HN1 := hid (HC.out _ HT4.out).1
    have HN2 := hid (HC.out _ HT4.out).2
    clear h1 h2 hs
    refine reg_quiet 0 rfl (by kernel_rfl) (by kernel_rfl) ?_
    apply Exists.intro
    refine ⟨fun w' hw' => ?_, ?_⟩
    · go_simp
      exact ⟨rfl, Ext.refl _⟩
    refine reg_quiet 1 rfl (by kernel_rfl) (by kernel_rfl) ?_
    apply Exists.intro
    refine ⟨fun w' hw' => ?_, ?_⟩
    · go_simp
      exact ⟨rfl, Ext.refl _⟩
    refine reg_quiet 2 rfl (by kernel_rfl) (by kernel_rfl) ?_
    apply Exists.intro
    refine ⟨fun w' hw' => ?_, ?_⟩
    · go_simp
      exact ⟨rfl, Ext.refl _⟩
    refine reg_quiet 3 rfl (by kernel_rfl) (by kernel_rfl) ?_
    apply Exists.intro
    refine ⟨fun w' hw' => ?_, ?_⟩
    · have q0 := hw'.cell HN1.out
      go_simp
      exact ⟨rfl, Ext.refl _⟩
    refine reg_quiet 4 rfl (by kernel_rfl) (by kernel_rfl) ?_
    apply Exists.intro
    refine ⟨fun w' hw' => ?_, ?_⟩
    · have q0 := hw'.cell HA0.out; have q1 := hw'.cell HA1.out; have q2 := hw'.cell HA2.out; have q3 := hw'.cell HA3.out
      go_simp
      exact ⟨rfl, Ext.refl _⟩
    refine reg_quiet 5 rfl (by kernel_rfl) (by kernel_rfl) ?_
    apply Exists.intro
    refine ⟨fun w' hw' => ?_, ?_⟩
    · go_simp
      exact ⟨rfl, Ext.refl _⟩
    refine reg_one 6 rfl (by kernel_rfl) rfl (fun w' hw' => ?_)
    go_simp
    have hB4 : B ≤ W.heap.size := by have := HF3.out.here; have := HF3.out.box; have := HE.out.size; omega
    refine (HX.out w' (HI.out _ _ _ HI3.out (HE.out.trans hw')) (HT4.out.ext hw').2.1 (Nat.le_trans hB4 hw'.size) (HF3.out.ext (HE.out.trans hw'))).mono ?_
    rintro e w5 ⟨rfl, hi5, hm5, hf5⟩
    have hb5 := (hm5.keep HF3.out (HE.out.trans hw') (k := w3.heap.size + 1) (by omega) (by have := HS.out; have := hw'.size; omega)).trans (hw'.blk HB2.out)
    have hm5' := (HM3.out.trans (Mv.of_ext (HE.out.trans hw') HF3.out.here)).trans hm5
    have HT5 := hid ((HT4.out.ext hw').below HB.out (hm5.below (HF3.out.ext (HE.out.trans hw')) (Nat.le_trans hB4 hw'.size)))
    have HF5 := hid hf5
    have HI5 := hid hi5
    have HM5 := hid hm5'
    have HB5 := hid hb5
    have hs5 : B ≤ w5.heap.size := by have := hm5.size; have := hw'.size; omega
    have HS5 := hid hs5
    clear hm5 hi5 hf5 hb5 hm5' hs5 hw' HA0 HA1 HA2 HA3 HN1 HN2 HT4 HE HS HB2 HT3 HI3 HM3 HF3 hB4
    refine reg_done (by kernel_rfl) (fun w6 hw' => ?_) _
    have hsw : w3.heap.size + 1 < w5.heap.size := (Array.getElem?_eq_some_iff.1 HB5.out).1
    replace HT5 := hid (HT5.out.ext hw')
    replace HI5 := hid (HI.out _ _ _ HI5.out hw')
    replace HM5 := hid (HM5.out.trans (Mv.of_ext hw' HF5.out.here))
    replace HF5 := hid (HF5.out.ext hw')
    replace HS5 := hid (Nat.le_trans HS5.out hw'.size)
    replace HB5 := hid (hw'.blk HB5.out)
    clear hw' hsw
    go_simp
    go_wp2_with fail
    refine reg_begin 6 (by kernel_rfl) ?_
    generalize hW : World.drew _ = W6
    have HE := hid (by rw [← hW]; exact (Ext.drew _) : Ext w6 W6)
    clear hW
    have HA0 := hid (cell_blk (j := 0) (HE.out.blk HB5.out) rfl)
    have HA1 := hid (cell_blk (j := 1) (HE.out.blk HB5.out) rfl)
    have HA2 := hid (cell_blk (j := 2) (HE.out.blk HB5.out) rfl)
    have HA3 := hid (cell_blk (j := 3) (HE.out.blk HB5.out) rfl)
    have HT4 := hid (HT5.out.ext HE.out)
    have HN2 := hid (HC.out _ HT4.out).2
    refine reg_quiet 0 rfl (by kernel_rfl) (by kernel_rfl) ?_
    apply Exists.intro
    refine ⟨fun w' hw' => ?_, ?_⟩
    · go_simp
      exact ⟨rfl, Ext.refl _⟩
    refine reg_quiet 1 rfl (by kernel_rfl) (by kernel_rfl) ?_
    apply Exists.intro
    refine ⟨fun w' hw' => ?_, ?_⟩
    · go_simp
      exact ⟨rfl, Ext.refl _⟩
    refine reg_quiet 2 rfl (by kernel_rfl) (by kernel_rfl) ?_
    apply Exists.intro
    refine ⟨fun w' hw' => ?_, ?_⟩
    · go_simp
      exact ⟨rfl, Ext.refl _⟩
    refine reg_quiet 3 rfl (by kernel_rfl) (by kernel_rfl) ?_
    apply Exists.intro
    refine ⟨fun w' hw' => ?_, ?_⟩
    · have q0 := hw'.cell HN2.out
      go_simp
      exact ⟨rfl, Ext.refl _⟩
    refine reg_quiet 4 rfl (by kernel_rfl) (by kernel_rfl) ?_
    apply Exists.intro
    refine ⟨fun w' hw' => ?_, ?_⟩
    · have q0 := hw'.cell HA0.out; have q1 := hw'.cell HA1.out; have q2 := hw'.cell HA2.out; have q3 := hw'.cell HA3.out
      go_simp
      exact ⟨rfl, Ext.refl _⟩
    refine reg_quiet 5 rfl (by kernel_rfl) (by kernel_rfl) ?_
    apply Exists.intro
    refine ⟨fun w' hw' => ?_, ?_⟩
    · go_simp
      exact ⟨rfl, Ext.refl _⟩
    refine reg_one 6 rfl (by kernel_rfl) rfl (fun w' hw' => ?_)
    go_simp
    have hE := HE.out.trans hw'
    refine (HY.out w' (HI.out _ _ _ HI5.out hE) (HT5.out.ext hE).2.2 (Nat.le_trans HS5.out hE.size) (HF5.out.ext hE)).mono ?_
    rintro e w7 ⟨rfl, hi7, hm7, hf7⟩
    have hm := (HM5.out.trans (Mv.of_ext hE HF5.out.here)).trans hm7
    refine reg_done (by kernel_rfl) (fun w8 hw2 => ?_) _
    have hf8 := hf7.ext hw2
    replace hm := hm.trans (Mv.of_ext hw2 hf7.here)
    replace hi7 := HI.out _ _ _ hi7 hw2
    go_simp
    go_wp2_with fail
    simp [bodyPost, results, Tryd.results34, go_sem]
    refine ⟨?_, hm, hf8⟩
    rw [HV.out]
    simpa using hi7

end Go.Proofs.YtflbfmfaccaffaaDoor
