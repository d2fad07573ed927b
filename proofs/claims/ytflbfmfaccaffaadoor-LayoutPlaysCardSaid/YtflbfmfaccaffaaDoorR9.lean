/-
  The document's Grow.
-/
import Derived.Test.YtflbfmfaccaffaaDoorR8
namespace Go.Proofs.YtflbfmfaccaffaaDoor
open Go Go.RowKit
attribute [local go_sem] extUpon
attribute [local go_sem ↓] eval_put_ne eval_put_none eval_put_same size_put eval_const

theorem gAt_cons (across : Bool) (f : Fr) (A : List Fr) : ∀ n, gAt across (f :: A) (n + 1) = match gAt across A n with
    | some i => some (i + 1)
    | none => if f.across = across then some 0 else none
  | 0 => by simp [gAt]
  | n + 1 => by
    rw [gAt, gAt_cons across f A n]
    simp only [List.getElem?_cons_succ]
    conv => rhs; rw [gAt]
    by_cases h : (A[n]?.map Fr.across) = some across
    · simp [h]
    · simp [h]

def gk (f : Fr) (by_ : Int) (bx : Bx) : Int := max 1 (min (held f.part (wide f.across bx) + (if f.left then by_ else -by_)) (wide f.across bx - 2))
def gret (d : Bool) (e : Int) : Ending := .returned (.tuple #[.bool d, .int .i64 e])
def GrowRes (across : Bool) (by_ : Int) (A : List Fr) (Bs : List Bx) (e : Ending) (w w' : World) : Prop :=
  (e = gret false 3 ∧ gAt across A A.length = none ∧ Ext w w') ∨
  (∃ i f bx, gAt across A A.length = some i ∧ A[i]? = some f ∧ Bs[i]? = some bx ∧
    ((wide f.across bx < 3 ∧ e = gret false 17 ∧ Ext w w') ∨ (¬ wide f.across bx < 3 ∧ e = gret true 0 ∧ ∃ W, Ext w W ∧ Ext (W.setCell ⟨f.b, 2, none⟩ (.int .i64 (gk f by_ bx))) w')))
theorem GrowRes.three {across : Bool} {by_ : Int} {A : List Fr} {Bs : List Bx} {e : Ending} {w w' : World} (h : GrowRes across by_ A Bs e w w') :
    (e = gret false 3 ∧ gAt across A A.length = none ∧ Ext w w') ∨ (e = gret false 17 ∧ gAt across A A.length ≠ none) ∨ (e = gret true 0 ∧ gAt across A A.length ≠ none) := by
  rcases h with h | ⟨i, f, bx, h1, h2, h3, ⟨h4, h5, hE⟩ | ⟨h4, h5, W, hW, hE⟩⟩
  · exact .inl h
  · exact .inr (.inl ⟨h5, by simp [h1]⟩)
  · exact .inr (.inr ⟨h5, by simp [h1]⟩)
theorem GrowRes.pre {across : Bool} {by_ : Int} {A : List Fr} {Bs : List Bx} {e : Ending} {w0 w w' : World} (he : Ext w0 w) (h : GrowRes across by_ A Bs e w w') : GrowRes across by_ A Bs e w0 w' := by
  rcases h with ⟨h1, h2, h3⟩ | ⟨i, f, bx, h1, h2, h3, ⟨h4, h5, hE⟩ | ⟨h4, h5, W, hW, hE⟩⟩
  · exact .inl ⟨h1, h2, he.trans h3⟩
  · exact .inr ⟨i, f, bx, h1, h2, h3, .inl ⟨h4, h5, he.trans hE⟩⟩
  · exact .inr ⟨i, f, bx, h1, h2, h3, .inr ⟨h4, h5, W, he.trans hW, hE⟩⟩
theorem GrowRes.post {across : Bool} {by_ : Int} {A : List Fr} {Bs : List Bx} {e : Ending} {w w' w2 : World} (h : GrowRes across by_ A Bs e w w') (he : Ext w' w2) : GrowRes across by_ A Bs e w w2 := by
  rcases h with ⟨h1, h2, h3⟩ | ⟨i, f, bx, h1, h2, h3, ⟨h4, h5, hE⟩ | ⟨h4, h5, W, hW, hE⟩⟩
  · exact .inl ⟨h1, h2, h3.trans he⟩
  · exact .inr ⟨i, f, bx, h1, h2, h3, .inl ⟨h4, h5, hE.trans he⟩⟩
  · exact .inr ⟨i, f, bx, h1, h2, h3, .inr ⟨h4, h5, W, hW, hE.trans he⟩⟩
theorem GrowRes.up {across : Bool} {by_ : Int} {A : List Fr} {Bs : List Bx} {e : Ending} {w w' : World} (f0 : Fr) (r : Bx) (h : GrowRes across by_ A Bs e w w') (hn : gAt across A A.length ≠ none) : GrowRes across by_ (f0 :: A) (r :: Bs) e w w' := by
  rcases h with h | ⟨i, f, bx, h1, h2, h3, h4⟩
  · exact absurd h.2.1 hn
  · exact .inr ⟨i + 1, f, bx, by rw [List.length_cons, gAt_cons, h1], by simpa using h2, by simpa using h3, h4⟩
theorem GrowRes.nil {across : Bool} {by_ : Int} {A : List Fr} {Bs : List Bx} {w w' : World} {f0 : Fr} {r : Bx} (hn : gAt across A A.length = none) (hf : f0.across ≠ across) (hE : Ext w w') : GrowRes across by_ (f0 :: A) (r :: Bs) (gret false 3) w w' :=
  .inl ⟨rfl, by rw [List.length_cons, gAt_cons, hn]; simp [hf], hE⟩
theorem GrowRes.small {across : Bool} {by_ : Int} {A : List Fr} {Bs : List Bx} {w w' : World} {f0 : Fr} {r : Bx} (hn : gAt across A A.length = none) (hf : f0.across = across) (hw : wide f0.across r < 3) (hE : Ext w w') : GrowRes across by_ (f0 :: A) (r :: Bs) (gret false 17) w w' :=
  .inr ⟨0, f0, r, by rw [List.length_cons, gAt_cons, hn]; simp [hf], rfl, rfl, .inl ⟨hw, rfl, hE⟩⟩
theorem GrowRes.done {across : Bool} {by_ : Int} {A : List Fr} {Bs : List Bx} {w w' W : World} {f0 : Fr} {r : Bx} (hn : gAt across A A.length = none) (hf : f0.across = across) (hw : ¬ wide f0.across r < 3) (hE : Ext w W) (hE2 : Ext (W.setCell ⟨f0.b, 2, none⟩ (.int .i64 (gk f0 by_ r))) w') : GrowRes across by_ (f0 :: A) (r :: Bs) (gret true 0) w w' :=
  .inr ⟨0, f0, r, by rw [List.length_cons, gAt_cons, hn]; simp [hf], rfl, rfl, .inr ⟨hw, rfl, W, hE, hE2⟩⟩



set_option maxHeartbeats 4000000 in
set_option maxRecDepth 100000 in
theorem rgrow_any (p : Int) (across : Bool) (by_ : Int) (hby : -1000 ≤ by_ ∧ by_ ≤ 1000) : ∀ (t : LT) (r : Bx) (w : World), RtAt w t → r.ok → p ∈ t.panes →
    Calls Tryd.prog 43 #[ptr t.b, .int .i64 p, .bool across, .int .i64 by_, r.val] w fun e w' => GrowRes across by_ (t.path p) (t.bxs p r) e w w' := by
  intro t
  induction t with
  | leaf b q =>
    intro r w h _ _
    have c3 : ∀ o, (w.alloc o).cell? ⟨b, 3, none⟩ = some (.pointer none) := fun o => (Ext.alloc w o).cell (rnode_cells h 3 _ rfl)
    clear h
    have HG : Hid (∀ w', Ext w w' → GrowRes across by_ ((LT.leaf b q).path p) ((LT.leaf b q).bxs p r) (gret false 3) w w') := hid (fun w' he => .inl ⟨rfl, rfl, he⟩)
    generalize (LT.leaf b q).path p = A at *
    generalize (LT.leaf b q).bxs p r = Bs at *
    unfold ptr LT.b Bx.val
    go_enter Tryd.func43, Tryd.ntmps43
    go_wp2_with fail
    simp [bodyPost, results, Tryd.results43, go_sem]
    exact HG.out _ (Ext.alloc _ _)
  | node b x y a k ihx ihy =>
    intro r w h hr hp
    have hpo := parts_ok (a := a) (k := k) hr
    have hwd := wide_ok (a := a) hr
    have HX := hid (fun w' (he : Ext w w') (hpx : p ∈ x.panes) => ihx (parts a k r).1 w' (h.ext he).2.1 hpo.1 hpx)
    have HY := hid (fun w' (he : Ext w w') (hpy : p ∈ y.panes) => ihy (parts a k r).2 w' (h.ext he).2.2 hpo.2 hpy)
    have HFX := hid (fun w' (he : Ext w w') => rfind_any p x w' (h.ext he).2.1)
    have HB := hid (fun w' (he : Ext w w') => rboxes_any b a k r w' (rnode_cells (h.ext he) 1 _ rfl) (rnode_cells (h.ext he) 2 _ rfl) hr)
    have c3 : ∀ o, (w.alloc o).cell? ⟨b, 3, none⟩ = some (.pointer (some ⟨x.b, 0, none⟩)) := fun o => (Ext.alloc w o).cell (cell_blk h.1 rfl)
    have HC : Hid (w.heap[b]? = some (.cells #[.int .i64 0, .bool a, .int .i64 k, .pointer (some ⟨x.b, 0, none⟩), .pointer (some ⟨y.b, 0, none⟩)] 48 (0, 0))) := hid h.1
    have hpy2 : p ∉ x.panes → p ∈ y.panes := fun hx => by simpa [LT.panes, hx] using hp
    clear ihx ihy h hpo hp
    by_cases hpx : p ∈ x.panes
    · rw [seek_some p x hpx] at HFX
      replace HX := hid (fun w' he => HX.out w' he hpx)
      have HPA : Hid (LT.path p (.node b x y a k) = ⟨b, true, y, a, k⟩ :: x.path p) := hid (by simp [LT.path, hpx])
      have HBS : Hid (LT.bxs p (.node b x y a k) r = r :: x.bxs p (parts a k r).1) := hid (by simp [LT.bxs, hpx])
      clear HY hpy2 hpx
      generalize (x.tip p).b = tx at *
      generalize LT.path p (.node b x y a k) = PA at *
      generalize LT.bxs p (.node b x y a k) r = BS at *
      generalize hab : parts a k r = ab at *
      clear hab
      obtain ⟨ra, rb⟩ := ab
      simp only at HX HB HBS
      generalize x.path p = A at *
      generalize x.bxs p ra = Bs at *
      generalize hd : wide a r = d at *
      replace hd := hid hd
      obtain ⟨hd1, hd2⟩ := hwd
      generalize x.b = bx at *
      generalize y.b = by2 at *
      unfold ptr LT.b optr Bx.val at *
      go_enter Tryd.func43, Tryd.ntmps43
      go_wp2_with fail
      refine (HB.out _ (Ext.alloc _ _)).mono ?_
      rintro e w1 ⟨rfl, hE1⟩
      have HE1 := hid ((Ext.alloc w _).trans hE1)
      clear hE1 c3 HB
      have d3 : ∀ o o2, ((w1.alloc o).alloc o2).cell? ⟨b, 3, none⟩ = some (.pointer (some ⟨bx, 0, none⟩)) := fun o o2 => ((Ext.alloc w1 o).alloc' o2).cell (cell_blk (HE1.out.blk HC.out) rfl)
      go_wp2_with fail
      refine (HFX.out _ ((HE1.out.alloc' _).alloc' _)).mono ?_
      rintro e w2 ⟨rfl, rfl⟩
      clear d3
      go_wp2_with fail
      refine reg_begin 8 (by kernel_rfl) ?_
      generalize hW : World.drew _ = W
      have HE := hid (by rw [← hW]; exact ((HE1.out.alloc' _).alloc' _).drew' : Ext w W)
      have hb1 : W.heap[w1.heap.size]? = some (.cells #[.int .i64 ra.row, .int .i64 ra.col, .int .i64 ra.rows, .int .i64 ra.cols] 32 (0, 0)) := by rw [← hW]; exact (Ext.alloc _ _).blk (blk_new _ _)
      have hb2 : W.heap[w1.heap.size + 1]? = some (.cells #[.int .i64 rb.row, .int .i64 rb.col, .int .i64 rb.rows, .int .i64 rb.cols] 32 (0, 0)) := by rw [← hW]; exact blk_at (by simp)
      have HA0 := hid (cell_blk (j := 0) hb1 rfl)
      have HA1 := hid (cell_blk (j := 1) hb1 rfl)
      have HA2 := hid (cell_blk (j := 2) hb1 rfl)
      have HA3 := hid (cell_blk (j := 3) hb1 rfl)
      have HC3 := hid (cell_blk (j := 3) (HE.out.blk HC.out) rfl)
      clear hW hb1 hb2 HE1 HFX
      refine reg_quiet 0 rfl (by kernel_rfl) (by kernel_rfl) ?_
      apply Exists.intro
      refine ⟨fun w' hw' => ?_, ?_⟩
      · go_simp
        exact ⟨rfl, Ext.refl _⟩
      refine reg_quiet 1 rfl (by kernel_rfl) (by kernel_rfl) ?_
      apply Exists.intro
      refine ⟨fun w' hw' => ?_, ?_⟩
      · go_simp
        exact ⟨rfl, Ext.refl _⟩
      refine reg_quiet 2 rfl (by kernel_rfl) (by kernel_rfl) ?_
      apply Exists.intro
      refine ⟨fun w' hw' => ?_, ?_⟩
      · go_simp
        exact ⟨rfl, Ext.refl _⟩
      refine reg_quiet 3 rfl (by kernel_rfl) (by kernel_rfl) ?_
      apply Exists.intro
      refine ⟨fun w' hw' => ?_, ?_⟩
      · have q0 := hw'.cell HC3.out
        go_simp
        exact ⟨rfl, Ext.refl _⟩
      refine reg_quiet 4 rfl (by kernel_rfl) (by kernel_rfl) ?_
      apply Exists.intro
      refine ⟨fun w' hw' => ?_, ?_⟩
      · go_simp
        exact ⟨rfl, Ext.refl _⟩
      refine reg_quiet 5 rfl (by kernel_rfl) (by kernel_rfl) ?_
      apply Exists.intro
      refine ⟨fun w' hw' => ?_, ?_⟩
      · go_simp
        exact ⟨rfl, Ext.refl _⟩
      refine reg_quiet 6 rfl (by kernel_rfl) (by kernel_rfl) ?_
      apply Exists.intro
      refine ⟨fun w' hw' => ?_, ?_⟩
      · go_simp
        exact ⟨rfl, Ext.refl _⟩
      refine reg_quiet 7 rfl (by kernel_rfl) (by kernel_rfl) ?_
      apply Exists.intro
      refine ⟨fun w' hw' => ?_, ?_⟩
      · have q0 := hw'.cell HA0.out; have q1 := hw'.cell HA1.out; have q2 := hw'.cell HA2.out; have q3 := hw'.cell HA3.out
        go_simp
        exact ⟨rfl, Ext.refl _⟩
      refine reg_one 8 rfl (by kernel_rfl) rfl (fun w' hw' => ?_)
      replace HE := hid (HE.out.trans hw')
      clear hw' HC3 HA0 HA1 HA2 HA3
      go_simp
      refine (HX.out w' HE.out).mono ?_
      rintro e w2 hres
      replace hres := hres.pre HE.out
      have HR := hid hres
      clear HX
      rcases hres.three with ⟨rfl, hg, hE2⟩ | ⟨rfl, hg⟩ | ⟨rfl, hg⟩
      · clear hres HR
        unfold gret
        refine reg_pure 9 rfl (by kernel_rfl) rfl ?_
        apply Exists.intro
        refine ⟨fun w' => ?_, ?_⟩
        · go_simp
          exact rfl
        refine reg_pure 10 rfl (by kernel_rfl) rfl ?_
        apply Exists.intro
        refine ⟨fun w' => ?_, ?_⟩
        · go_simp
          exact rfl
        refine reg_pure 11 rfl (by kernel_rfl) rfl ?_
        apply Exists.intro
        refine ⟨fun w' => ?_, ?_⟩
        · go_simp
          exact rfl
        refine reg_pure 12 rfl (by kernel_rfl) rfl ?_
        apply Exists.intro
        refine ⟨fun w' => ?_, ?_⟩
        · go_simp
          exact rfl
        refine reg_pure 13 rfl (by kernel_rfl) rfl ?_
        apply Exists.intro
        refine ⟨fun w' => ?_, ?_⟩
        · go_simp
          exact rfl
        refine reg_done (by kernel_rfl) (fun w9 hw9 => ?_) _
        have HE9 := hid (hE2.trans hw9)
        have hb9 := HE9.out.blk HC.out
        clear hw9 hE2 HE
        have k1 : w9.cell? ⟨b, 1, none⟩ = some (.bool a) := cell_blk hb9 rfl
        have k2 : w9.cell? ⟨b, 2, none⟩ = some (.int .i64 k) := cell_blk hb9 rfl
        have z9 : ∀ j, w9.frozen? ⟨b, j, none⟩ = false := fun j => by simp [World.frozen?, hb9]
        replace hg := hid hg
        clear hb9 HC
        have v0 : IntKind.i64.wrap (d - 2) = d - 2 := by rw [IntKind.wrap_i64]; omega
        have hcl : Hid (3 ≤ d → max 1 (min k (d - 2)) = held k d) := hid (by unfold held; omega)
        have hgk : Hid (gk ⟨b, true, y, a, k⟩ by_ r = max 1 (min (held k d + by_) (d - 2))) := hid (by simp [gk, hd.out])
        have hhb : 3 ≤ d → 1 ≤ held k d ∧ held k d ≤ d - 2 := by unfold held; omega
        have v1 : 3 ≤ d → IntKind.i64.wrap (held k d + by_) = held k d + by_ := fun h3 => by have := hhb h3; rw [IntKind.wrap_i64]; omega
        replace hhb := hid hhb
        replace v1 := hid v1
        generalize held k d = hh at *
        have v2 : IntKind.i64.wrap (-by_) = -by_ := by rw [IntKind.wrap_i64]; omega
        by_cases hac : a = across
        · subst hac
          have hr2 := fun e w' (h : GrowRes a by_ (⟨b, true, y, a, k⟩ :: A) (r :: Bs) e w w') => h
          cases a
          all_goals (
            by_cases hd3 : d < 3
            · go_simp
              go_wp2_with fail
              simp [bodyPost, results, Tryd.results43, go_sem]
              rw [HPA.out, HBS.out]
              exact GrowRes.small (f0 := ⟨b, true, y, _, k⟩) hg.out rfl (by show wide _ r < 3; rw [hd.out]; exact hd3) HE9.out
            · have v3 := v1.out (by omega)
              go_simp
              go_wp2_with fail
              refine (clip_any _ _ _ _).mono ?_
              rintro e w5 ⟨rfl, rfl⟩
              rw [hcl.out (by omega)]
              go_wp2_with fail
              refine (clip_any _ _ _ _).mono ?_
              rintro e w5 ⟨rfl, rfl⟩
              rw [← hgk.out]
              go_wp2_with fail
              simp [bodyPost, results, Tryd.results43, go_sem]
              rw [HPA.out, HBS.out]
              exact GrowRes.done (f0 := ⟨b, true, y, _, k⟩) hg.out rfl (by show ¬ wide _ r < 3; rw [hd.out]; omega) HE9.out (Ext.refl _))
        · have hF := fun (w' : World) (he : Ext w w') => GrowRes.nil (by_ := by_) (Bs := Bs) (r := r) (f0 := ⟨b, true, y, a, k⟩) hg.out hac he
          cases a <;> cases across
          all_goals first
            | exact absurd rfl hac
            | (go_simp
               go_wp2_with fail
               simp [bodyPost, results, Tryd.results43, go_sem]
               rw [HPA.out, HBS.out]
               exact hF _ HE9.out)
      · have HU := hid (HR.out.up ⟨b, true, y, a, k⟩ r hg)
        clear HR hres hg
        unfold gret
        refine reg_pure 9 rfl (by kernel_rfl) rfl ?_
        apply Exists.intro
        refine ⟨fun w' => ?_, ?_⟩
        · go_simp
          exact rfl
        refine reg_pure 10 rfl (by kernel_rfl) rfl ?_
        apply Exists.intro
        refine ⟨fun w' => ?_, ?_⟩
        · go_simp
          exact rfl
        refine reg_pure 11 rfl (by kernel_rfl) rfl ?_
        apply Exists.intro
        refine ⟨fun w' => ?_, ?_⟩
        · go_simp
          exact rfl
        refine reg_pure 12 rfl (by kernel_rfl) rfl ?_
        apply Exists.intro
        refine ⟨fun w' => ?_, ?_⟩
        · go_simp
          exact rfl
        refine reg_pure 13 rfl (by kernel_rfl) rfl ?_
        apply Exists.intro
        refine ⟨fun w' => ?_, ?_⟩
        · go_simp
          exact rfl
        refine reg_done (by kernel_rfl) (fun w9 hw9 => ?_) _
        go_simp
        go_wp2_with fail
        simp [bodyPost, results, Tryd.results43, go_sem]
        rw [HPA.out, HBS.out]
        exact HU.out.post hw9
      · have HU := hid (HR.out.up ⟨b, true, y, a, k⟩ r hg)
        clear HR hres hg
        unfold gret
        refine reg_pure 9 rfl (by kernel_rfl) rfl ?_
        apply Exists.intro
        refine ⟨fun w' => ?_, ?_⟩
        · go_simp
          exact rfl
        refine reg_pure 10 rfl (by kernel_rfl) rfl ?_
        apply Exists.intro
        refine ⟨fun w' => ?_, ?_⟩
        · go_simp
          exact rfl
        refine reg_pure 11 rfl (by kernel_rfl) rfl ?_
        apply Exists.intro
        refine ⟨fun w' => ?_, ?_⟩
        · go_simp
          exact rfl
        refine reg_pure 12 rfl (by kernel_rfl) rfl ?_
        apply Exists.intro
        refine ⟨fun w' => ?_, ?_⟩
        · go_simp
          exact rfl
        refine reg_pure 13 rfl (by kernel_rfl) rfl ?_
        apply Exists.intro
        refine ⟨fun w' => ?_, ?_⟩
        · go_simp
          exact rfl
        refine reg_done (by kernel_rfl) (fun w9 hw9 => ?_) _
        go_simp
        go_wp2_with fail
        simp [bodyPost, results, Tryd.results43, go_sem]
        rw [HPA.out, HBS.out]
        exact HU.out.post hw9
    · rw [seek_none p x hpx] at HFX
      replace HY := hid (fun w' he => HY.out w' he (hpy2 hpx))
      have HPA : Hid (LT.path p (.node b x y a k) = ⟨b, false, x, a, k⟩ :: y.path p) := hid (by simp [LT.path, hpx])
      have HBS : Hid (LT.bxs p (.node b x y a k) r = r :: y.bxs p (parts a k r).2) := hid (by simp [LT.bxs, hpx])
      clear HX hpy2 hpx
      generalize LT.path p (.node b x y a k) = PA at *
      generalize LT.bxs p (.node b x y a k) r = BS at *
      generalize hab : parts a k r = ab at *
      clear hab
      obtain ⟨ra, rb⟩ := ab
      simp only at HY HB HBS
      generalize y.path p = A at *
      generalize y.bxs p rb = Bs at *
      generalize hd : wide a r = d at *
      replace hd := hid hd
      obtain ⟨hd1, hd2⟩ := hwd
      generalize x.b = bx at *
      generalize y.b = by2 at *
      unfold ptr LT.b optr Bx.val at *
      go_enter Tryd.func43, Tryd.ntmps43
      go_wp2_with fail
      refine (HB.out _ (Ext.alloc _ _)).mono ?_
      rintro e w1 ⟨rfl, hE1⟩
      have HE1 := hid ((Ext.alloc w _).trans hE1)
      clear hE1 c3 HB
      have d3 : ∀ o o2, ((w1.alloc o).alloc o2).cell? ⟨b, 3, none⟩ = some (.pointer (some ⟨bx, 0, none⟩)) := fun o o2 => ((Ext.alloc w1 o).alloc' o2).cell (cell_blk (HE1.out.blk HC.out) rfl)
      go_wp2_with fail
      refine (HFX.out _ ((HE1.out.alloc' _).alloc' _)).mono ?_
      rintro e w2 ⟨rfl, rfl⟩
      clear d3
      go_wp2_with fail
      refine reg_begin 8 (by kernel_rfl) ?_
      generalize hW : World.drew _ = W
      have HE := hid (by rw [← hW]; exact ((HE1.out.alloc' _).alloc' _).drew' : Ext w W)
      have hb1 : W.heap[w1.heap.size]? = some (.cells #[.int .i64 ra.row, .int .i64 ra.col, .int .i64 ra.rows, .int .i64 ra.cols] 32 (0, 0)) := by rw [← hW]; exact (Ext.alloc _ _).blk (blk_new _ _)
      have hb2 : W.heap[w1.heap.size + 1]? = some (.cells #[.int .i64 rb.row, .int .i64 rb.col, .int .i64 rb.rows, .int .i64 rb.cols] 32 (0, 0)) := by rw [← hW]; exact blk_at (by simp)
      have HA0 := hid (cell_blk (j := 0) hb2 rfl)
      have HA1 := hid (cell_blk (j := 1) hb2 rfl)
      have HA2 := hid (cell_blk (j := 2) hb2 rfl)
      have HA3 := hid (cell_blk (j := 3) hb2 rfl)
      have HC3 := hid (cell_blk (j := 4) (HE.out.blk HC.out) rfl)
      clear hW hb1 hb2 HE1 HFX
      refine reg_quiet 0 rfl (by kernel_rfl) (by kernel_rfl) ?_
      apply Exists.intro
      refine ⟨fun w' hw' => ?_, ?_⟩
      · go_simp
        exact ⟨rfl, Ext.refl _⟩
      refine reg_quiet 1 rfl (by kernel_rfl) (by kernel_rfl) ?_
      apply Exists.intro
      refine ⟨fun w' hw' => ?_, ?_⟩
      · go_simp
        exact ⟨rfl, Ext.refl _⟩
      refine reg_quiet 2 rfl (by kernel_rfl) (by kernel_rfl) ?_
      apply Exists.intro
      refine ⟨fun w' hw' => ?_, ?_⟩
      · go_simp
        exact ⟨rfl, Ext.refl _⟩
      refine reg_quiet 3 rfl (by kernel_rfl) (by kernel_rfl) ?_
      apply Exists.intro
      refine ⟨fun w' hw' => ?_, ?_⟩
      · have q0 := hw'.cell HC3.out
        go_simp
        exact ⟨rfl, Ext.refl _⟩
      refine reg_quiet 4 rfl (by kernel_rfl) (by kernel_rfl) ?_
      apply Exists.intro
      refine ⟨fun w' hw' => ?_, ?_⟩
      · go_simp
        exact ⟨rfl, Ext.refl _⟩
      refine reg_quiet 5 rfl (by kernel_rfl) (by kernel_rfl) ?_
      apply Exists.intro
      refine ⟨fun w' hw' => ?_, ?_⟩
      · go_simp
        exact ⟨rfl, Ext.refl _⟩
      refine reg_quiet 6 rfl (by kernel_rfl) (by kernel_rfl) ?_
      apply Exists.intro
      refine ⟨fun w' hw' => ?_, ?_⟩
      · go_simp
        exact ⟨rfl, Ext.refl _⟩
      refine reg_quiet 7 rfl (by kernel_rfl) (by kernel_rfl) ?_
      apply Exists.intro
      refine ⟨fun w' hw' => ?_, ?_⟩
      · have q0 := hw'.cell HA0.out; have q1 := hw'.cell HA1.out; have q2 := hw'.cell HA2.out; have q3 := hw'.cell HA3.out
        go_simp
        exact ⟨rfl, Ext.refl _⟩
      refine reg_one 8 rfl (by kernel_rfl) rfl (fun w' hw' => ?_)
      replace HE := hid (HE.out.trans hw')
      clear hw' HC3 HA0 HA1 HA2 HA3
      go_simp
      refine (HY.out w' HE.out).mono ?_
      rintro e w2 hres
      replace hres := hres.pre HE.out
      have HR := hid hres
      clear HY
      rcases hres.three with ⟨rfl, hg, hE2⟩ | ⟨rfl, hg⟩ | ⟨rfl, hg⟩
      · clear hres HR
        unfold gret
        refine reg_pure 9 rfl (by kernel_rfl) rfl ?_
        apply Exists.intro
        refine ⟨fun w' => ?_, ?_⟩
        · go_simp
          exact rfl
        refine reg_pure 10 rfl (by kernel_rfl) rfl ?_
        apply Exists.intro
        refine ⟨fun w' => ?_, ?_⟩
        · go_simp
          exact rfl
        refine reg_pure 11 rfl (by kernel_rfl) rfl ?_
        apply Exists.intro
        refine ⟨fun w' => ?_, ?_⟩
        · go_simp
          exact rfl
        refine reg_pure 12 rfl (by kernel_rfl) rfl ?_
        apply Exists.intro
        refine ⟨fun w' => ?_, ?_⟩
        · go_simp
          exact rfl
        refine reg_pure 13 rfl (by kernel_rfl) rfl ?_
        apply Exists.intro
        refine ⟨fun w' => ?_, ?_⟩
        · go_simp
          exact rfl
        refine reg_done (by kernel_rfl) (fun w9 hw9 => ?_) _
        have HE9 := hid (hE2.trans hw9)
        have hb9 := HE9.out.blk HC.out
        clear hw9 hE2 HE
        have k1 : w9.cell? ⟨b, 1, none⟩ = some (.bool a) := cell_blk hb9 rfl
        have k2 : w9.cell? ⟨b, 2, none⟩ = some (.int .i64 k) := cell_blk hb9 rfl
        have z9 : ∀ j, w9.frozen? ⟨b, j, none⟩ = false := fun j => by simp [World.frozen?, hb9]
        replace hg := hid hg
        clear hb9 HC
        have v0 : IntKind.i64.wrap (d - 2) = d - 2 := by rw [IntKind.wrap_i64]; omega
        have hcl : Hid (3 ≤ d → max 1 (min k (d - 2)) = held k d) := hid (by unfold held; omega)
        have hgk : Hid (gk ⟨b, false, x, a, k⟩ by_ r = max 1 (min (held k d + -by_) (d - 2))) := hid (by simp [gk, hd.out])
        have hhb : 3 ≤ d → 1 ≤ held k d ∧ held k d ≤ d - 2 := by unfold held; omega
        have v1 : 3 ≤ d → IntKind.i64.wrap (held k d + -by_) = held k d + -by_ := fun h3 => by have := hhb h3; rw [IntKind.wrap_i64]; omega
        replace hhb := hid hhb
        replace v1 := hid v1
        generalize held k d = hh at *
        have v2 : IntKind.i64.wrap (-by_) = -by_ := by rw [IntKind.wrap_i64]; omega
        by_cases hac : a = across
        · subst hac
          have hr2 := fun e w' (h : GrowRes a by_ (⟨b, false, x, a, k⟩ :: A) (r :: Bs) e w w') => h
          cases a
          all_goals (
            by_cases hd3 : d < 3
            · go_simp
              go_wp2_with fail
              simp [bodyPost, results, Tryd.results43, go_sem]
              rw [HPA.out, HBS.out]
              exact GrowRes.small (f0 := ⟨b, false, x, _, k⟩) hg.out rfl (by show wide _ r < 3; rw [hd.out]; exact hd3) HE9.out
            · have v3 := v1.out (by omega)
              go_simp
              go_wp2_with fail
              refine (clip_any _ _ _ _).mono ?_
              rintro e w5 ⟨rfl, rfl⟩
              rw [hcl.out (by omega)]
              go_wp2_with fail
              refine (clip_any _ _ _ _).mono ?_
              rintro e w5 ⟨rfl, rfl⟩
              rw [← hgk.out]
              go_wp2_with fail
              simp [bodyPost, results, Tryd.results43, go_sem]
              rw [HPA.out, HBS.out]
              exact GrowRes.done (f0 := ⟨b, false, x, _, k⟩) hg.out rfl (by show ¬ wide _ r < 3; rw [hd.out]; omega) HE9.out (Ext.refl _))
        · have hF := fun (w' : World) (he : Ext w w') => GrowRes.nil (by_ := by_) (Bs := Bs) (r := r) (f0 := ⟨b, false, x, a, k⟩) hg.out hac he
          cases a <;> cases across
          all_goals first
            | exact absurd rfl hac
            | (go_simp
               go_wp2_with fail
               simp [bodyPost, results, Tryd.results43, go_sem]
               rw [HPA.out, HBS.out]
               exact hF _ HE9.out)
      · have HU := hid (HR.out.up ⟨b, false, x, a, k⟩ r hg)
        clear HR hres hg
        unfold gret
        refine reg_pure 9 rfl (by kernel_rfl) rfl ?_
        apply Exists.intro
        refine ⟨fun w' => ?_, ?_⟩
        · go_simp
          exact rfl
        refine reg_pure 10 rfl (by kernel_rfl) rfl ?_
        apply Exists.intro
        refine ⟨fun w' => ?_, ?_⟩
        · go_simp
          exact rfl
        refine reg_pure 11 rfl (by kernel_rfl) rfl ?_
        apply Exists.intro
        refine ⟨fun w' => ?_, ?_⟩
        · go_simp
          exact rfl
        refine reg_pure 12 rfl (by kernel_rfl) rfl ?_
        apply Exists.intro
        refine ⟨fun w' => ?_, ?_⟩
        · go_simp
          exact rfl
        refine reg_pure 13 rfl (by kernel_rfl) rfl ?_
        apply Exists.intro
        refine ⟨fun w' => ?_, ?_⟩
        · go_simp
          exact rfl
        refine reg_done (by kernel_rfl) (fun w9 hw9 => ?_) _
        go_simp
        go_wp2_with fail
        simp [bodyPost, results, Tryd.results43, go_sem]
        rw [HPA.out, HBS.out]
        exact HU.out.post hw9
      · have HU := hid (HR.out.up ⟨b, false, x, a, k⟩ r hg)
        clear HR hres hg
        unfold gret
        refine reg_pure 9 rfl (by kernel_rfl) rfl ?_
        apply Exists.intro
        refine ⟨fun w' => ?_, ?_⟩
        · go_simp
          exact rfl
        refine reg_pure 10 rfl (by kernel_rfl) rfl ?_
        apply Exists.intro
        refine ⟨fun w' => ?_, ?_⟩
        · go_simp
          exact rfl
        refine reg_pure 11 rfl (by kernel_rfl) rfl ?_
        apply Exists.intro
        refine ⟨fun w' => ?_, ?_⟩
        · go_simp
          exact rfl
        refine reg_pure 12 rfl (by kernel_rfl) rfl ?_
        apply Exists.intro
        refine ⟨fun w' => ?_, ?_⟩
        · go_simp
          exact rfl
        refine reg_pure 13 rfl (by kernel_rfl) rfl ?_
        apply Exists.intro
        refine ⟨fun w' => ?_, ?_⟩
        · go_simp
          exact rfl
        refine reg_done (by kernel_rfl) (fun w9 hw9 => ?_) _
        go_simp
        go_wp2_with fail
        simp [bodyPost, results, Tryd.results43, go_sem]
        rw [HPA.out, HBS.out]
        exact HU.out.post hw9

theorem path_b {t tip : LT} {A : List Fr} {i : Nat} {f : Fr} {k : Int} (hpl : plug A tip = t) (hf : A[i]? = some f) : (plug (A.take i ++ { f with part := k } :: A.drop (i + 1)) tip).b = t.b := by
  rw [grown_plug (t := t)]
  have h5 := frame_eq hpl hf
  refine (plug_b (A := A.take i) (s := .node f.b (f.fst (plug (A.drop (i + 1)) tip)) (f.snd (plug (A.drop (i + 1)) tip)) f.across f.part) (s' := .node f.b (f.fst (plug (A.drop (i + 1)) tip)) (f.snd (plug (A.drop (i + 1)) tip)) f.across k) rfl).trans ?_
  rw [h5]

theorem rgrow_post {B : Nat} {t : LT} {p : Int} {across : Bool} {by_ : Int} {R : Bx} {e : Ending} {w w' : World} (h : RTr B w t) (hB : B ≤ w.heap.size) (hR : R.ok) (hp : p ∈ t.panes) (hres : GrowRes across (max (-1000) (min by_ 1000)) (t.path p) (t.bxs p R) e w w') :
    (∃ d, e = gret d (t.grow p across by_ R).1) ∧ RTr B w' (t.grow p across by_ R).2 ∧ Wr t (t.grow p across by_ R).2 w w' ∧ (t.grow p across by_ R).2.b = t.b := by
  rcases hres with ⟨rfl, hg, hE⟩ | ⟨i, f, bx, hg, hf, hb, ⟨hw, rfl, hE⟩ | ⟨hw, rfl, W, hW, hE⟩⟩
  · have hS : t.grow p across by_ R = (3, t) := by simp [LT.grow, hp, hg]
    rw [hS]; exact ⟨⟨_, rfl⟩, h.ext hE, Wr.of_ext hE, rfl⟩
  · have hS : t.grow p across by_ R = (17, t) := by simp [LT.grow, hp, hg, hf, hb, hw]
    rw [hS]; exact ⟨⟨_, rfl⟩, h.ext hE, Wr.of_ext hE, rfl⟩
  · have hwd := wide_ok (a := f.across) (bxs_ok p t R hR bx (List.mem_of_getElem? hb))
    have hk : gk f (max (-1000) (min by_ 1000)) bx = min (max (held f.part (wide f.across bx) + (if f.left then min (max by_ (-1000)) 1000 else - min (max by_ (-1000)) 1000)) 1) (wide f.across bx - 2) := by
      unfold gk
      generalize held f.part (wide f.across bx) = hh
      split <;> omega
    have hS : t.grow p across by_ R = (0, plug ((t.path p).take i ++ { f with part := gk f (max (-1000) (min by_ 1000)) bx } :: (t.path p).drop (i + 1)) (t.tip p)) := by
      rw [hk]
      simp [LT.grow, hp, hg, hf, hb, hw]
    have hkr : -1000000 ≤ gk f (max (-1000) (min by_ 1000)) bx ∧ gk f (max (-1000) (min by_ 1000)) bx ≤ 1000000 := by unfold gk; split <;> omega
    obtain ⟨h1, h2⟩ := RTr.part h hW hB (plug_path p t) hf hkr rfl
    rw [hS]
    exact ⟨⟨_, rfl⟩, h1.ext hE, h2.trans (Wr.of_ext hE), path_b (plug_path p t) hf⟩

set_option maxHeartbeats 4000000 in
set_option maxRecDepth 100000 in
theorem rGrow_any (B : Nat) (t : LT) (p rows cols by_ : Int) (across : Bool) (w : World) (h : RTr B w t) (hB : B ≤ w.heap.size) (h1 : rows ≤ 1000000) (h2 : cols ≤ 1000000) :
    Calls Tryd.prog 24 #[ptr t.b, .int .i64 p, .bool across, .int .i64 by_, .int .i64 rows, .int .i64 cols] w fun e w' => e = .returned (.int .i64 (t.grow p across by_ (allB rows cols)).1) ∧ RTr B w' (t.grow p across by_ (allB rows cols)).2 ∧ Wr t (t.grow p across by_ (allB rows cols)).2 w w' ∧ (t.grow p across by_ (allB rows cols)).2.b = t.b := by
  have HF := hid (rfind_any p t w h.at_)
  have HW := hid (fun w' => whole_any rows cols w')
  have hok := allB_ok h1 h2
  by_cases hp : p ∈ t.panes
  · rw [seek_some p t hp] at HF
    have HG : Hid (∀ w', Ext w w' → Calls Tryd.prog 43 #[ptr t.b, .int .i64 p, .bool across, .int .i64 (max (-1000) (min by_ 1000)), (allB rows cols).val] w' fun e w2 => (∃ d, e = gret d (t.grow p across by_ (allB rows cols)).1) ∧ RTr B w2 (t.grow p across by_ (allB rows cols)).2 ∧ Wr t (t.grow p across by_ (allB rows cols)).2 w w2 ∧ (t.grow p across by_ (allB rows cols)).2.b = t.b) :=
      hid (fun w' he => (rgrow_any p across (max (-1000) (min by_ 1000)) (by omega) t (allB rows cols) w' (h.ext he).at_ hok hp).mono (fun e w2 hr => rgrow_post h hB hok hp (hr.pre he)))
    clear hp hok h1 h2 h hB
    generalize t.grow p across by_ (allB rows cols) = gr at *
    generalize allB rows cols = R at *
    generalize (t.tip p).b = tb at *
    generalize hcl : max (-1000) (min by_ 1000) = by2 at *
    replace hcl := hid hcl
    generalize t.b = b at *
    unfold optr ptr Bx.val at *
    go_enter Tryd.func24, Tryd.ntmps24
    go_wp2_with fail
    refine HF.out.mono ?_
    rintro e w1 ⟨rfl, rfl⟩
    go_wp2_with fail
    refine (clip_any _ _ _ _).mono ?_
    rintro e w1 ⟨rfl, rfl⟩
    rw [hcl.out]
    go_wp2_with fail
    refine (HW.out _).mono ?_
    rintro e w2 ⟨rfl, hE⟩
    go_wp2_with fail
    refine (HG.out w2 hE).mono ?_
    rintro e w3 ⟨⟨d, rfl⟩, hT, hWr, hb⟩
    unfold gret
    go_wp2_with fail
    go_ret
    exact ⟨rfl, hT, hWr, hb⟩
  · rw [seek_none p t hp] at HF
    have HS : Hid (t.grow p across by_ (allB rows cols) = (3, t)) := hid (by simp [LT.grow, hp])
    have HH := hid h
    clear hp hok h1 h2 h hB HW
    generalize hbb : t.b = b at *
    replace hbb := hid hbb
    unfold optr ptr at *
    go_enter Tryd.func24, Tryd.ntmps24
    go_wp2_with fail
    refine HF.out.mono ?_
    rintro e w1 ⟨rfl, rfl⟩
    go_wp2_with fail
    go_ret
    exact ⟨by rw [HS.out]; rfl, by rw [HS.out]; exact HH.out, by rw [HS.out]; exact Wr.of_ext (Ext.refl _), by rw [HS.out]; exact hbb.out⟩

end Go.Proofs.YtflbfmfaccaffaaDoor
