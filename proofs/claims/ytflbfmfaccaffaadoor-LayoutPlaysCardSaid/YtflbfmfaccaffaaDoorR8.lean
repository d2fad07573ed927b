/-
  The document's Swap and Kill.
-/
import Derived.Test.YtflbfmfaccaffaaDoorR7
namespace Go.Proofs.YtflbfmfaccaffaaDoor
open Go Go.RowKit
attribute [local go_sem] extUpon
attribute [local go_sem ↓] eval_put_ne eval_put_none eval_put_same size_put eval_const

theorem ren_bb (σ : Int → Int) (t : LT) : (t.ren σ).b = t.b := by cases t <;> rfl

set_option maxHeartbeats 4000000 in
set_option maxRecDepth 100000 in
theorem rSwap_any (B : Nat) (t : LT) (a b : Int) (w : World) (h : RTr B w t) (hB : B ≤ w.heap.size) (hn : t.panes.Nodup) :
    Calls Tryd.prog 23 #[ptr t.b, .int .i64 a, .int .i64 b] w fun e w' => e = .returned (.int .i64 (t.swap a b).1) ∧ RTr B w' (t.swap a b).2 ∧ Wr t (t.swap a b).2 w w' ∧ (t.swap a b).2.b = t.b := by
  have HF := hid (fun w' (he : Ext w w') => rfind_any a t w' (h.ext he).at_)
  have HF2 := hid (fun w' (he : Ext w w') => rfind_any b t w' (h.ext he).at_)
  have HH := hid h
  have HNN := hid hn
  clear h hB hn
  have HBN := hid (ren_bb (sw a b) t)
  generalize hbb : t.b = bb at *
  replace hbb := hid hbb
  by_cases hp : a ∈ t.panes
  · rw [seek_some a t hp] at HF
    by_cases hq : b ∈ t.panes
    · rw [seek_some b t hq] at HF2
      have HS : Hid (t.swap a b = (0, t.ren (sw a b))) := hid (by simp [LT.swap, hp, hq])
      obtain ⟨xa, hxa⟩ := tip_leaf a t hp
      obtain ⟨xb, hxb⟩ := tip_leaf b t hq
      have HXA := hid (tip_leaves a hxa)
      have HXB := hid (tip_leaves b hxb)
      have hba : (t.tip a).b = xa := by rw [hxa]; rfl
      have hbb : (t.tip b).b = xb := by rw [hxb]; rfl
      rw [hba] at HF
      rw [hbb] at HF2
      clear hp hq hxa hxb hba hbb
      unfold optr ptr at *
      go_enter Tryd.func23, Tryd.ntmps23
      go_wp2_with fail
      refine (HF.out _ (Ext.refl _)).mono ?_
      rintro e w1 ⟨rfl, rfl⟩
      go_wp2_with fail
      refine (HF2.out _ (Ext.refl _)).mono ?_
      rintro e w2 ⟨rfl, rfl⟩
      go_wp2_with fail
      refine reg_begin 12 (by kernel_rfl) ?_
      generalize hW : World.drew _ = W
      have HE := hid (by rw [← hW]; exact Ext.drew _ : Ext w2 W)
      clear hW HF HF2
      have HA := hid (rleaf_at (HH.out.ext HE.out).at_ HXA.out)
      have HB := hid (rleaf_at (HH.out.ext HE.out).at_ HXB.out)
      have HC0 : Hid (W.cell? ⟨xa, 0, none⟩ = some (.int .i64 a)) := hid (cell_blk (j := 0) HA.out rfl)
      have HD0 : Hid (W.cell? ⟨xb, 0, none⟩ = some (.int .i64 b)) := hid (cell_blk (j := 0) HB.out rfl)
      refine reg_quiet 0 rfl (by kernel_rfl) (by kernel_rfl) ?_
      apply Exists.intro
      refine ⟨fun w' hw' => ?_, ?_⟩
      · go_simp
        exact ⟨rfl, Ext.refl _⟩
      refine reg_pure 1 rfl (by kernel_rfl) rfl ?_
      apply Exists.intro
      refine ⟨fun w' => ?_, ?_⟩
      · go_simp
        exact rfl
      refine reg_quiet 2 rfl (by kernel_rfl) (by kernel_rfl) ?_
      apply Exists.intro
      refine ⟨fun w' hw' => ?_, ?_⟩
      · go_simp
        exact ⟨rfl, Ext.refl _⟩
      refine reg_quiet 3 rfl (by kernel_rfl) (by kernel_rfl) ?_
      apply Exists.intro
      refine ⟨fun w' hw' => ?_, ?_⟩
      · go_simp
        exact ⟨rfl, Ext.refl _⟩
      refine reg_quiet 4 rfl (by kernel_rfl) (by kernel_rfl) ?_
      apply Exists.intro
      refine ⟨fun w' hw' => ?_, ?_⟩
      · go_simp
        exact ⟨rfl, Ext.refl _⟩
      refine reg_quiet 5 rfl (by kernel_rfl) (by kernel_rfl) ?_
      apply Exists.intro
      refine ⟨fun w' hw' => ?_, ?_⟩
      · have q0 := hw'.cell HD0.out
        go_simp
        exact ⟨rfl, Ext.refl _⟩
      refine reg_quiet 6 rfl (by kernel_rfl) (by kernel_rfl) ?_
      apply Exists.intro
      refine ⟨fun w' hw' => ?_, ?_⟩
      · go_simp
        exact ⟨rfl, Ext.refl _⟩
      refine reg_quiet 7 rfl (by kernel_rfl) (by kernel_rfl) ?_
      apply Exists.intro
      refine ⟨fun w' hw' => ?_, ?_⟩
      · go_simp
        exact ⟨rfl, Ext.refl _⟩
      refine reg_quiet 8 rfl (by kernel_rfl) (by kernel_rfl) ?_
      apply Exists.intro
      refine ⟨fun w' hw' => ?_, ?_⟩
      · go_simp
        exact ⟨rfl, Ext.refl _⟩
      refine reg_quiet 9 rfl (by kernel_rfl) (by kernel_rfl) ?_
      apply Exists.intro
      refine ⟨fun w' hw' => ?_, ?_⟩
      · have q0 := hw'.cell HC0.out
        go_simp
        exact ⟨rfl, Ext.refl _⟩
      refine reg_quiet 10 rfl (by kernel_rfl) (by kernel_rfl) ?_
      apply Exists.intro
      refine ⟨fun w' hw' => ?_, ?_⟩
      · go_simp
        exact ⟨rfl, Ext.refl _⟩
      refine reg_quiet 11 rfl (by kernel_rfl) (by kernel_rfl) ?_
      apply Exists.intro
      refine ⟨fun w' hw' => ?_, ?_⟩
      · go_simp
        exact ⟨rfl, Ext.refl _⟩
      refine reg_one 12 rfl (by kernel_rfl) rfl (fun w' hw' => ?_)
      have hE12 := HE.out.trans hw'
      have hA12 := rleaf_at (HH.out.ext hE12).at_ HXA.out
      have q0 : w'.cell? ⟨xa, 0, none⟩ = some (.int .i64 a) := cell_blk (j := 0) hA12 rfl
      have z0 : ∀ j, w'.frozen? ⟨xa, j, none⟩ = false := fun j => by simp [World.frozen?, hA12]
      replace HE := hid hE12
      clear hw' hE12 hA12 HA HB HC0 HD0
      go_simp
      clear q0 z0
      refine reg_quiet 13 rfl (by kernel_rfl) (by kernel_rfl) ?_
      apply Exists.intro
      refine ⟨fun w' hw' => ?_, ?_⟩
      · go_simp
        exact ⟨rfl, Ext.refl _⟩
      refine reg_quiet 14 rfl (by kernel_rfl) (by kernel_rfl) ?_
      apply Exists.intro
      refine ⟨fun w' hw' => ?_, ?_⟩
      · go_simp
        exact ⟨rfl, Ext.refl _⟩
      refine reg_one 15 rfl (by kernel_rfl) rfl (fun w5 hw5 => ?_)
      have hlt : xb < w'.heap.size := (HH.out.ext HE.out).at_.lt xb (leaf_block HXB.out)
      have hB12 := rleaf_at (HH.out.ext HE.out).at_ HXB.out
      obtain ⟨v0, hv0⟩ : ∃ v, (w'.setCell ⟨xa, 0, none⟩ (.int .i64 b)).heap[xb]? = some (.cells #[v, .bool false, .int .i64 0, .pointer none, .pointer none] 48 (0, 0)) := by
        by_cases hab : xb = xa
        · subst hab; exact ⟨_, set0_blk hB12⟩
        · exact ⟨_, (Below.heap_setCell w' ⟨xa, 0, none⟩ _ xb hab).trans hB12⟩
      have hv5 := hw5.blk hv0
      have q0 : w5.cell? ⟨xb, 0, none⟩ = some v0 := cell_blk (j := 0) hv5 rfl
      have z0 : ∀ j, w5.frozen? ⟨xb, j, none⟩ = false := fun j => by simp [World.frozen?, hv5]
      have HT := hid (RTr.swap HH.out HE.out HNN.out HXA.out HXB.out hw5 rfl)
      clear hv0 hv5 hw5 hB12 hlt
      go_simp
      clear q0 z0
      generalize World.setCell w5 _ _ = w6 at *
      refine reg_done (by kernel_rfl) (fun w7 hw7 => ?_) _
      have HT7 := hid (HT.out.1.ext hw7)
      have HW7 := hid (HT.out.2.trans (Wr.of_ext hw7))
      clear hw7 HT
      go_simp
      go_wp2_with fail
      go_ret
      exact ⟨by rw [HS.out]; rfl, by rw [HS.out]; exact HT7.out, by rw [HS.out]; exact HW7.out, by rw [HS.out]; exact HBN.out⟩
    · rw [seek_none b t hq] at HF2
      have HS : Hid (t.swap a b = (3, t)) := hid (by simp [LT.swap, hq])
      clear hp hq
      unfold optr ptr at *
      go_enter Tryd.func23, Tryd.ntmps23
      go_wp2_with fail
      refine (HF.out _ (Ext.refl _)).mono ?_
      rintro e w1 ⟨rfl, rfl⟩
      go_wp2_with fail
      refine (HF2.out _ (Ext.refl _)).mono ?_
      rintro e w2 ⟨rfl, rfl⟩
      go_wp2_with fail
      go_ret
      exact ⟨by rw [HS.out]; rfl, by rw [HS.out]; exact HH.out, by rw [HS.out]; exact Wr.of_ext (Ext.refl _), by rw [HS.out]; exact hbb.out⟩
  · rw [seek_none a t hp] at HF
    have HS : Hid (t.swap a b = (3, t)) := hid (by simp [LT.swap, hp])
    obtain ⟨ob, hob⟩ : ∃ ob, t.seek b = ob := ⟨_, rfl⟩
    rw [hob] at HF2
    clear hp hob
    cases ob
    all_goals (
      unfold optr ptr at *
      go_enter Tryd.func23, Tryd.ntmps23
      go_wp2_with fail
      refine (HF.out _ (Ext.refl _)).mono ?_
      rintro e w1 ⟨rfl, rfl⟩
      go_wp2_with fail
      refine (HF2.out _ (Ext.refl _)).mono ?_
      rintro e w2 ⟨rfl, rfl⟩
      go_wp2_with fail
      go_ret
      exact ⟨by rw [HS.out]; rfl, by rw [HS.out]; exact HH.out, by rw [HS.out]; exact Wr.of_ext (Ext.refl _), by rw [HS.out]; exact hbb.out⟩)

theorem rcells5 (t : LT) : ∃ c0 c1 c2 c3 c4, t.rcells = #[c0, c1, c2, c3, c4] := by cases t <;> exact ⟨_, _, _, _, _, rfl⟩
/-- What Kill writes. -/
def KillOut (t : LT) (p : Int) (w w' : World) : Prop := ∃ A f c0 c1 c2 c3 c4, t.path p = A ++ [f] ∧ f.sib.rcells = #[c0, c1, c2, c3, c4] ∧ w' = set5 w f.b c0 c1 c2 c3 c4
theorem KillOut.left {b : Nat} {x y : LT} {a : Bool} {k p : Int} {w w' : World} (hp : p ∈ x.panes) (h : KillOut x p w w') : KillOut (.node b x y a k) p w w' := by
  obtain ⟨A, f, c0, c1, c2, c3, c4, h1, h2, h3⟩ := h
  exact ⟨⟨b, true, y, a, k⟩ :: A, f, c0, c1, c2, c3, c4, by simp [LT.path, hp, h1], h2, h3⟩
theorem KillOut.right {b : Nat} {x y : LT} {a : Bool} {k p : Int} {w w' : World} (hp : p ∉ x.panes) (h : KillOut y p w w') : KillOut (.node b x y a k) p w w' := by
  obtain ⟨A, f, c0, c1, c2, c3, c4, h1, h2, h3⟩ := h
  exact ⟨⟨b, false, x, a, k⟩ :: A, f, c0, c1, c2, c3, c4, by simp [LT.path, hp, h1], h2, h3⟩

theorem rshape {w : World} {t : LT} (h : RtAt w t) : (t.isLeaf = true ∧ ∃ q, t.panes = [q] ∧ t.rcells = #[.int .i64 q, .bool false, .int .i64 0, .pointer none, .pointer none] ∧
      w.cell? ⟨t.b, 0, none⟩ = some (.int .i64 q) ∧ w.cell? ⟨t.b, 1, none⟩ = some (.bool false) ∧ w.cell? ⟨t.b, 2, none⟩ = some (.int .i64 0) ∧ w.cell? ⟨t.b, 3, none⟩ = some (.pointer none) ∧ w.cell? ⟨t.b, 4, none⟩ = some (.pointer none)) ∨
    (t.isLeaf = false ∧ ∃ y z a k, t.rcells = #[.int .i64 0, .bool a, .int .i64 k, .pointer (some ⟨y, 0, none⟩), .pointer (some ⟨z, 0, none⟩)] ∧
      w.cell? ⟨t.b, 0, none⟩ = some (.int .i64 0) ∧ w.cell? ⟨t.b, 1, none⟩ = some (.bool a) ∧ w.cell? ⟨t.b, 2, none⟩ = some (.int .i64 k) ∧ w.cell? ⟨t.b, 3, none⟩ = some (.pointer (some ⟨y, 0, none⟩)) ∧ w.cell? ⟨t.b, 4, none⟩ = some (.pointer (some ⟨z, 0, none⟩))) := by
  cases t with
  | leaf b q => exact .inl ⟨rfl, q, rfl, rfl, cell_blk h rfl, cell_blk h rfl, cell_blk h rfl, cell_blk h rfl, cell_blk h rfl⟩
  | node b x y a k => exact .inr ⟨rfl, x.b, y.b, a, k, rfl, cell_blk h.1 rfl, cell_blk h.1 rfl, cell_blk h.1 rfl, cell_blk h.1 rfl, cell_blk h.1 rfl⟩


set_option maxHeartbeats 4000000 in
set_option maxRecDepth 100000 in
theorem rkill_any (p : Int) : ∀ (t : LT) (w : World), RtAt w t → t.panes.Nodup → p ∈ t.panes → t.isLeaf = false →
    Calls Tryd.prog 22 #[ptr t.b, .int .i64 p] w fun e w' => e = .returned (.int .i64 0) ∧ KillOut t p w w' := by
  intro t
  induction t with
  | leaf b q => intro w _ _ _ hl; cases hl
  | node b x y a k ihx ihy =>
    intro w h hn hp _
    have HF : Hid (Calls Tryd.prog 42 #[ptr b, .int .i64 p] w fun e w' => e = .returned (optr ((LT.node b x y a k).seek p)) ∧ w' = w) := hid (rfind_any p _ w h)
    rw [seek_some p _ hp] at HF
    generalize ((LT.node b x y a k).tip p).b = tb at HF
    have HFX : Hid (Calls Tryd.prog 42 #[ptr x.b, .int .i64 p] w fun e w' => e = .returned (optr (x.seek p)) ∧ w' = w) := hid (rfind_any p _ w h.2.1)
    simp only [LT.panes, List.nodup_append] at hn
    have HX := hid (fun hp hl => ihx w h.2.1 hn.1 hp hl)
    have HY := hid (fun hp hl => ihy w h.2.2 hn.2.1 hp hl)
    have n0 : w.cell? ⟨b, 0, none⟩ = some (.int .i64 0) := cell_blk h.1 rfl
    have n1 : w.cell? ⟨b, 1, none⟩ = some (.bool a) := cell_blk h.1 rfl
    have n2 : w.cell? ⟨b, 2, none⟩ = some (.int .i64 k) := cell_blk h.1 rfl
    have n3 : w.cell? ⟨b, 3, none⟩ = some (.pointer (some ⟨x.b, 0, none⟩)) := cell_blk h.1 rfl
    have n4 : w.cell? ⟨b, 4, none⟩ = some (.pointer (some ⟨y.b, 0, none⟩)) := cell_blk h.1 rfl
    have z1 : ∀ j, w.frozen? ⟨b, j, none⟩ = false := fun j => by simp [World.frozen?, h.1]
    have hL := hid (fun (hp : p ∈ x.panes) w' h' => KillOut.left (b := b) (y := y) (a := a) (k := k) (w := w) (w' := w') hp h')
    have hR := hid (fun (hp : p ∉ x.panes) w' h' => KillOut.right (b := b) (y := y) (a := a) (k := k) (w := w) (w' := w') hp h')
    have hKx : Hid (p ∈ x.panes → x.isLeaf = true → ∀ c0 c1 c2 c3 c4, y.rcells = #[c0, c1, c2, c3, c4] → KillOut (.node b x y a k) p w (set5 w b c0 c1 c2 c3 c4)) := hid (fun hq hl c0 c1 c2 c3 c4 hc => by
      cases x with
      | leaf bx q => exact ⟨[], ⟨b, true, y, a, k⟩, c0, c1, c2, c3, c4, by simp [LT.path, hq], hc, rfl⟩
      | node => cases hl)
    have hKy : Hid (p ∉ x.panes → y.isLeaf = true → ∀ c0 c1 c2 c3 c4, x.rcells = #[c0, c1, c2, c3, c4] → KillOut (.node b x y a k) p w (set5 w b c0 c1 c2 c3 c4)) := hid (fun hq hl c0 c1 c2 c3 c4 hc => by
      cases y with
      | leaf bx q => exact ⟨[], ⟨b, false, x, a, k⟩, c0, c1, c2, c3, c4, by simp [LT.path, hq], hc, rfl⟩
      | node => cases hl)
    have hpy : Hid (p ∈ x.panes → p ∉ y.panes) := hid (fun hx hy => hn.2.2 p hx p hy rfl)
    have hpy2 : Hid (p ∉ x.panes → p ∈ y.panes) := hid (fun hx => by simpa [LT.panes, hx] using hp)
    have sx := rshape h.2.1
    have sy := rshape h.2.2
    clear ihx ihy hn h hp
    by_cases hpx : p ∈ x.panes
    · rw [seek_some p x hpx] at HFX
      replace hpy := hpy.out hpx
      replace HX := hid (HX.out hpx)
      replace HL := hid (hL.out hpx)
      replace hKx := hid (hKx.out hpx)
      clear hR hKy hL HY hpy2
      generalize (x.tip p).b = tx at *
      rcases sx with ⟨hxl, q, hxp, hxc, x0, x1, x2, x3, x4⟩ | ⟨hxl, xa, xb, xc, xd, hxc, x0, x1, x2, x3, x4⟩
      · have hq : p = q := by rw [hxp] at hpx; simpa using hpx
        subst hq
        rcases sy with ⟨hyl, r, hyp, hyc, y0, y1, y2, y3, y4⟩ | ⟨hyl, ya, yb, yc, yd, hyc, y0, y1, y2, y3, y4⟩
        · have HK := hid (hKx.out hxl _ _ _ _ _ hyc)
          clear hKx HX hxp hxc hyc HL hpx hpy hxl hyl hyp
          generalize x.b = bx at *
          generalize y.b = by_ at *
          unfold optr ptr LT.b at *
          go_enter Tryd.func22, Tryd.ntmps22
          go_wp2_with fail
          refine (HF.out).mono ?_
          rintro e w1 ⟨rfl, rfl⟩
          go_wp2_with fail
          go_ret
          exact ⟨rfl, HK.out⟩
        · have HK := hid (hKx.out hxl _ _ _ _ _ hyc)
          clear hKx HX hxp hxc hyc HL hpx hpy hxl hyl
          generalize x.b = bx at *
          generalize y.b = by_ at *
          unfold optr ptr LT.b at *
          go_enter Tryd.func22, Tryd.ntmps22
          go_wp2_with fail
          refine (HF.out).mono ?_
          rintro e w1 ⟨rfl, rfl⟩
          go_wp2_with fail
          go_ret
          exact ⟨rfl, HK.out⟩
      · replace HX := hid (HX.out hxl)
        rcases sy with ⟨hyl, r, hyp, hyc, y0, y1, y2, y3, y4⟩ | ⟨hyl, ya, yb, yc, yd, hyc, y0, y1, y2, y3, y4⟩
        · have hr : ¬ r = p := fun e => hpy (by rw [hyp, e]; simp)
          clear hKx hxc hyc hpx hpy hxl hyl hyp
          generalize x.b = bx at *
          generalize y.b = by_ at *
          unfold optr ptr LT.b at *
          go_enter Tryd.func22, Tryd.ntmps22
          go_wp2_with fail
          refine (HF.out).mono ?_
          rintro e w1 ⟨rfl, rfl⟩
          go_wp2_with fail
          refine HFX.out.mono ?_
          rintro e w1 ⟨rfl, rfl⟩
          go_wp2_with fail
          refine HX.out.mono ?_
          rintro e w1 ⟨rfl, hK⟩
          go_wp2_with fail
          go_ret
          exact ⟨rfl, HL.out _ hK⟩
        · clear hKx hxc hyc hpx hpy hxl hyl
          generalize x.b = bx at *
          generalize y.b = by_ at *
          unfold optr ptr LT.b at *
          go_enter Tryd.func22, Tryd.ntmps22
          go_wp2_with fail
          refine (HF.out).mono ?_
          rintro e w1 ⟨rfl, rfl⟩
          go_wp2_with fail
          refine HFX.out.mono ?_
          rintro e w1 ⟨rfl, rfl⟩
          go_wp2_with fail
          refine HX.out.mono ?_
          rintro e w1 ⟨rfl, hK⟩
          go_wp2_with fail
          go_ret
          exact ⟨rfl, HL.out _ hK⟩
    · rw [seek_none p x hpx] at HFX
      replace hpy2 := hpy2.out hpx
      replace HY := hid (HY.out hpy2)
      replace HR := hid (hR.out hpx)
      replace hKy := hid (hKy.out hpx)
      clear hR hKx hL HX hpy
      rcases sx with ⟨hxl, q, hxp, hxc, x0, x1, x2, x3, x4⟩ | ⟨hxl, xa, xb, xc, xd, hxc, x0, x1, x2, x3, x4⟩
      · have hq : ¬ q = p := fun e => hpx (by rw [hxp, e]; simp)
        rcases sy with ⟨hyl, r, hyp, hyc, y0, y1, y2, y3, y4⟩ | ⟨hyl, ya, yb, yc, yd, hyc, y0, y1, y2, y3, y4⟩
        · have hr : p = r := by rw [hyp] at hpy2; simpa using hpy2
          subst hr
          have HK := hid (hKy.out hyl _ _ _ _ _ hxc)
          clear hKy HY hxp hxc hyc HR hpx hpy2 hxl hyl hyp
          generalize x.b = bx at *
          generalize y.b = by_ at *
          unfold optr ptr LT.b at *
          go_enter Tryd.func22, Tryd.ntmps22
          go_wp2_with fail
          refine (HF.out).mono ?_
          rintro e w1 ⟨rfl, rfl⟩
          go_wp2_with fail
          go_ret
          exact ⟨rfl, HK.out⟩
        · replace HY := hid (HY.out hyl)
          clear hKy hxp hxc hyc hpx hpy2 hxl hyl
          generalize x.b = bx at *
          generalize y.b = by_ at *
          unfold optr ptr LT.b at *
          go_enter Tryd.func22, Tryd.ntmps22
          go_wp2_with fail
          refine (HF.out).mono ?_
          rintro e w1 ⟨rfl, rfl⟩
          go_wp2_with fail
          refine HFX.out.mono ?_
          rintro e w1 ⟨rfl, rfl⟩
          go_wp2_with fail
          refine HY.out.mono ?_
          rintro e w1 ⟨rfl, hK⟩
          go_wp2_with fail
          go_ret
          exact ⟨rfl, HR.out _ hK⟩
      · rcases sy with ⟨hyl, r, hyp, hyc, y0, y1, y2, y3, y4⟩ | ⟨hyl, ya, yb, yc, yd, hyc, y0, y1, y2, y3, y4⟩
        · have hr : p = r := by rw [hyp] at hpy2; simpa using hpy2
          subst hr
          have HK := hid (hKy.out hyl _ _ _ _ _ hxc)
          clear hKy HY hxc hyc HR hpx hpy2 hxl hyl hyp
          generalize x.b = bx at *
          generalize y.b = by_ at *
          unfold optr ptr LT.b at *
          go_enter Tryd.func22, Tryd.ntmps22
          go_wp2_with fail
          refine (HF.out).mono ?_
          rintro e w1 ⟨rfl, rfl⟩
          go_wp2_with fail
          go_ret
          exact ⟨rfl, HK.out⟩
        · replace HY := hid (HY.out hyl)
          clear hKy hxc hyc hpx hpy2 hxl hyl
          generalize x.b = bx at *
          generalize y.b = by_ at *
          unfold optr ptr LT.b at *
          go_enter Tryd.func22, Tryd.ntmps22
          go_wp2_with fail
          refine (HF.out).mono ?_
          rintro e w1 ⟨rfl, rfl⟩
          go_wp2_with fail
          refine HFX.out.mono ?_
          rintro e w1 ⟨rfl, rfl⟩
          go_wp2_with fail
          refine HY.out.mono ?_
          rintro e w1 ⟨rfl, hK⟩
          go_wp2_with fail
          go_ret
          exact ⟨rfl, HR.out _ hK⟩

theorem reb_bb {A : List Fr} {f : Fr} {s tip : LT} : (plug A (s.reb f.b)).b = (plug (A ++ [f]) tip).b := by
  rw [plug_append]
  refine plug_b (A := A) (s := f.fill tip) ?_
  rw [reb_b, Fr.fill_eq]; rfl

set_option maxHeartbeats 4000000 in
set_option maxRecDepth 100000 in
theorem rKill_any (B : Nat) (t : LT) (p : Int) (w : World) (h : RTr B w t) (hB : B ≤ w.heap.size) (hn : t.panes.Nodup) :
    Calls Tryd.prog 22 #[ptr t.b, .int .i64 p] w fun e w' => e = .returned (.int .i64 (t.kill p).1) ∧ RTr B w' (t.kill p).2 ∧ Wr t (t.kill p).2 w w' ∧ (t.kill p).2.b = t.b := by
  by_cases hp : p ∈ t.panes
  · cases hl : t.isLeaf
    · refine (rkill_any p t w h.at_ hn hp hl).mono ?_
      rintro e w' ⟨rfl, A, f, c0, c1, c2, c3, c4, hA, hc, rfl⟩
      have HS : t.kill p = (0, plug A (f.sib.reb f.b)) := by simp [LT.kill, hp, hl, cut_eq hA]
      have hpl := plug_path p t
      rw [hA] at hpl
      have hnode : RtAt w (f.fill (t.tip p)) := by
        have h5 := h.at_
        rw [← hpl, plug_append] at h5
        exact rplug_at h5
      have hblk : ∃ d0 d1 d2 d3 d4, w.heap[f.b]? = some (.cells #[d0, d1, d2, d3, d4] 48 (0, 0)) := by
        rw [Fr.fill_eq] at hnode
        exact ⟨_, _, _, _, _, hnode.1⟩
      obtain ⟨d0, d1, d2, d3, d4, hblk⟩ := hblk
      have hres := RTr.cut h (Ext.refl w) hB hpl (set5_set1 w f.b c0 c1 c2 c3 c4) (by rw [hc]; exact set5_blk hblk)
      rw [HS]
      refine ⟨rfl, hres.1, hres.2, ?_⟩
      conv => rhs; rw [← hpl]
      exact reb_bb
    · have HS : Hid (t.kill p = (2, t)) := hid (by simp [LT.kill, hp, hl])
      have HF := hid (rfind_any p t w h.at_)
      rw [seek_some p t hp] at HF
      generalize (t.tip p).b = tb at *
      have HH := hid h
      rcases rshape h.at_ with ⟨hxl, q, hxp, hxc, x0, x1, x2, x3, x4⟩ | ⟨hxl, xa, xb, xc, xd, hxc, x0, x1, x2, x3, x4⟩
      · clear hxl hxp hxc h hp hn hl
        generalize hbb : t.b = b at *
        replace hbb := hid hbb
        unfold ptr optr at *
        go_enter Tryd.func22, Tryd.ntmps22
        go_wp2_with fail
        refine (HF.out).mono ?_
        rintro e w1 ⟨rfl, rfl⟩
        go_wp2_with fail
        go_ret
        exact ⟨by rw [HS.out]; rfl, by rw [HS.out]; exact HH.out, by rw [HS.out]; exact Wr.of_ext (Ext.refl _), by rw [HS.out]; exact hbb.out⟩
      · rw [hxl] at hl; cases hl
  · have HS : Hid (t.kill p = (3, t)) := hid (by simp [LT.kill, hp])
    have HF := hid (rfind_any p t w h.at_)
    rw [seek_none p t hp] at HF
    have HH := hid h
    clear h hp hn
    generalize hbb : t.b = b at *
    replace hbb := hid hbb
    unfold ptr optr at *
    go_enter Tryd.func22, Tryd.ntmps22
    go_wp2_with fail
    refine (HF.out).mono ?_
    rintro e w1 ⟨rfl, rfl⟩
    go_wp2_with fail
    go_ret
    exact ⟨by rw [HS.out]; rfl, by rw [HS.out]; exact HH.out, by rw [HS.out]; exact Wr.of_ext (Ext.refl _), by rw [HS.out]; exact hbb.out⟩

end Go.Proofs.YtflbfmfaccaffaaDoor
