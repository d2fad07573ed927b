/-
  Swap.
-/
import Derived.Test.YtflbfmfaccaffaaDoorL13
namespace Go.Proofs.YtflbfmfaccaffaaDoor
open Go Go.RowKit
attribute [local go_sem] extUpon
attribute [local go_sem ↓] eval_put_ne eval_put_none eval_put_same size_put eval_const

def LT.ren (σ : Int → Int) : LT → LT
  | .leaf b p => .leaf b (σ p)
  | .node b x y a k => .node b (x.ren σ) (y.ren σ) a k
def sw (a b p : Int) : Int := if p = a then b else if p = b then a else p
def LT.swap (t : LT) (a b : Int) : Int × LT := if a ∉ t.panes ∨ b ∉ t.panes then (3, t) else (0, t.ren (sw a b))
def LT.leaves : LT → List (Nat × Int)
  | .leaf b p => [(b, p)]
  | .node _ x y _ _ => x.leaves ++ y.leaves
def LT.inner : LT → List Nat
  | .leaf .. => []
  | .node b x y _ _ => b :: (x.inner ++ y.inner)
theorem leaves_panes : ∀ t : LT, t.leaves.map Prod.snd = t.panes
  | .leaf .. => rfl
  | .node b x y a k => by simp [LT.leaves, LT.panes, leaves_panes x, leaves_panes y]
theorem ren_b (σ : Int → Int) (t : LT) : (t.ren σ).b = t.b := by cases t <;> rfl
theorem ren_blocks (σ : Int → Int) : ∀ t : LT, (t.ren σ).blocks = t.blocks
  | .leaf .. => rfl
  | .node b x y a k => by simp [LT.ren, LT.blocks, ren_blocks σ x, ren_blocks σ y]
theorem ren_size (σ : Int → Int) : ∀ t : LT, (t.ren σ).size = t.size
  | .leaf .. => rfl
  | .node b x y a k => by simp [LT.ren, LT.size, ren_size σ x, ren_size σ y]
theorem ren_panes (σ : Int → Int) : ∀ t : LT, (t.ren σ).panes = t.panes.map σ
  | .leaf .. => rfl
  | .node b x y a k => by simp [LT.ren, LT.panes, ren_panes σ x, ren_panes σ y]
theorem ren_places (σ : Int → Int) : ∀ (t : LT) (r : Bx), (t.ren σ).places r = t.places r
  | .leaf .., _ => rfl
  | .node b x y a k, r => by simp [LT.ren, LT.places, ren_places σ x, ren_places σ y]
theorem ren_ren (σ τ : Int → Int) : ∀ t : LT, (t.ren σ).ren τ = t.ren (fun p => τ (σ p))
  | .leaf .. => rfl
  | .node b x y a k => by simp [LT.ren, ren_ren σ τ x, ren_ren σ τ y]
theorem ren_id {σ : Int → Int} (h : ∀ p, σ p = p) : ∀ t : LT, t.ren σ = t
  | .leaf .. => by simp [LT.ren, h]
  | .node b x y a k => by simp [LT.ren, ren_id h x, ren_id h y]
theorem sw_sw (a b p : Int) : sw a b (sw a b p) = p := by unfold sw; repeat' split <;> omega
theorem ren_small {σ : Int → Int} : ∀ {t : LT}, t.small → (∀ p ∈ t.panes, -9223372036854775808 ≤ σ p ∧ σ p ≤ 9223372036854775807) → (t.ren σ).small
  | .leaf b p, _, h => h p (by simp [LT.panes])
  | .node b x y a k, hs, h => ⟨hs.1, ren_small hs.2.1 (fun p hp => h p (by simp [LT.panes, hp])), ren_small hs.2.2 (fun p hp => h p (by simp [LT.panes, hp]))⟩
theorem pane_range : ∀ {t : LT}, t.small → ∀ p ∈ t.panes, -9223372036854775808 ≤ p ∧ p ≤ 9223372036854775807
  | .leaf b q, hs, p, hp => by simp [LT.panes] at hp; subst hp; exact hs
  | .node b x y a k, hs, p, hp => by
    simp only [LT.panes, List.mem_append] at hp
    rcases hp with hp | hp
    · exact pane_range hs.2.1 p hp
    · exact pane_range hs.2.2 p hp
theorem uniq_snd : ∀ {l : List (Nat × Int)}, (l.map Prod.snd).Nodup → ∀ {c d : Nat} {p : Int}, (c, p) ∈ l → (d, p) ∈ l → c = d
  | [], _, c, d, p, h, _ => by cases h
  | (e, q) :: l, hn, c, d, p, h1, h2 => by
    simp only [List.map_cons, List.nodup_cons, List.mem_map] at hn
    simp only [List.mem_cons, Prod.mk.injEq] at h1 h2
    rcases h1 with ⟨rfl, rfl⟩ | h1
    · rcases h2 with ⟨rfl, _⟩ | h2
      · rfl
      · exact absurd ⟨(d, p), h2, rfl⟩ hn.1
    · rcases h2 with ⟨rfl, rfl⟩ | h2
      · exact absurd ⟨(c, p), h1, rfl⟩ hn.1
      · exact uniq_snd hn.2 h1 h2
theorem leaf_at {w : World} : ∀ {t : LT}, LtAt w t → ∀ {c : Nat} {p : Int}, (c, p) ∈ t.leaves → w.heap[c]? = some (.cells (LT.leaf c p).cells 52 (0, 0))
  | .leaf b q, h, c, p, hc => by simp [LT.leaves] at hc; obtain ⟨rfl, rfl⟩ := hc; exact h
  | .node b x y a k, h, c, p, hc => by
    simp only [LT.leaves, List.mem_append] at hc
    rcases hc with hc | hc
    · exact leaf_at h.2.1 hc
    · exact leaf_at h.2.2 hc
theorem inner_at {w : World} : ∀ {t : LT}, LtAt w t → ∀ {c : Nat}, c ∈ t.inner → ∃ x y a k, w.heap[c]? = some (.cells #[.int .i64 0, ptr x, ptr y, .bool a, .int .i64 k] 52 (0, 0))
  | .leaf b q, h, c, hc => by cases hc
  | .node b x y a k, h, c, hc => by
    simp only [LT.inner, List.mem_cons, List.mem_append] at hc
    rcases hc with rfl | hc | hc
    · exact ⟨_, _, _, _, h.1⟩
    · exact inner_at h.2.1 hc
    · exact inner_at h.2.2 hc
theorem leaf_block : ∀ {t : LT} {c : Nat} {p : Int}, (c, p) ∈ t.leaves → c ∈ t.blocks
  | .leaf b q, c, p, h => by simp [LT.leaves] at h; simp [LT.blocks, h.1]
  | .node b x y a k, c, p, h => by
    simp only [LT.leaves, List.mem_append] at h
    rcases h with h | h
    · simp [LT.blocks, leaf_block h]
    · simp [LT.blocks, leaf_block h]
theorem ren_at {w w' : World} {σ : Int → Int} : ∀ {t : LT}, LtAt w t → (∀ c p, (c, p) ∈ t.leaves → w'.heap[c]? = some (.cells (LT.leaf c (σ p)).cells 52 (0, 0))) → (∀ k ∈ t.inner, w'.heap[k]? = w.heap[k]?) → LtAt w' (t.ren σ)
  | .leaf b p, _, h, _ => h b p (by simp [LT.leaves])
  | .node b x y a k, ha, h, hi => by
    refine ⟨?_, ren_at ha.2.1 (fun c p hc => h c p (by simp [LT.leaves, hc])) (fun k hk => hi k (by simp [LT.inner, hk])), ren_at ha.2.2 (fun c p hc => h c p (by simp [LT.leaves, hc])) (fun k hk => hi k (by simp [LT.inner, hk]))⟩
    rw [hi b (by simp [LT.inner]), ha.1]
    simp [LT.cells, ren_b]
theorem tip_leaves (p : Int) : ∀ {t : LT} {b : Nat} {q : Int}, t.tip p = .leaf b q → (b, q) ∈ t.leaves
  | .leaf c r, b, q, h => by simp [LT.tip] at h; simp [LT.leaves, h.1, h.2]
  | .node c x y a k, b, q, h => by
    by_cases hp : p ∈ x.panes
    · simp only [LT.tip, hp, if_true] at h; simp [LT.leaves, tip_leaves p h]
    · simp only [LT.tip, hp, if_false] at h; simp [LT.leaves, tip_leaves p h]
theorem set0_blk {W : World} {q : Nat} {x y z u v e : Value} {t : TypeId} {fr : Nat × Nat} (h : W.heap[q]? = some (.cells #[x, y, z, u, v] t fr)) : (W.setCell ⟨q, 0, none⟩ e).heap[q]? = some (.cells #[e, y, z, u, v] t fr) := by
  simp [World.setCell, Array.getElem?_modify, h]

theorem Tr.swap {B tb : Nat} {w W1 W W2 : World} {t : LT} {a b : Int} {xa xb : Nat} (h : Tr B w tb t) (he : Ext w W1) (hB : B ≤ w.heap.size) (hn : t.panes.Nodup) (ha : (xa, a) ∈ t.leaves) (hb : (xb, b) ∈ t.leaves)
    (he2 : Ext (W1.setCell ⟨xa, 0, none⟩ (.int .i64 b)) W2) (hW : W = W2.setCell ⟨xb, 0, none⟩ (.int .i64 a)) : Tr B W tb (t.ren (sw a b)) ∧ Wr t (t.ren (sw a b)) w W := by
  subst hW
  have hat := (h.ext he).at_.at_
  have hlt : ∀ k ∈ t.blocks, k < w.heap.size := h.at_.at_.lt
  have hs2 : W2.heap.size ≥ w.heap.size := by have := he2.size; have := he.size; simp [World.setCell] at *; omega
  have blk2 : ∀ k, k < w.heap.size → W2.heap[k]? = (W1.setCell ⟨xa, 0, none⟩ (.int .i64 b)).heap[k]? := fun k hk => he2.block k (by have := he.size; simp [World.setCell]; omega)
  have hfar : ∀ k, k < w.heap.size → k ≠ xa → k ≠ xb → (W2.setCell ⟨xb, 0, none⟩ (.int .i64 a)).heap[k]? = W1.heap[k]? := fun k hk h1 h2 =>
    (Below.heap_setCell W2 ⟨xb, 0, none⟩ _ k h2).trans ((blk2 k hk).trans (Below.heap_setCell W1 ⟨xa, 0, none⟩ _ k h1))
  have hnl : (t.leaves.map Prod.snd).Nodup := by rw [leaves_panes]; exact hn
  have hA1 := leaf_at hat ha
  have hB1 := leaf_at hat hb
  have hleaf : ∀ c p, (c, p) ∈ t.leaves → (W2.setCell ⟨xb, 0, none⟩ (.int .i64 a)).heap[c]? = some (.cells (LT.leaf c (sw a b p)).cells 52 (0, 0)) := by
    intro c p hc
    have hc1 := leaf_at hat hc
    have hlc := hlt c (leaf_block hc)
    by_cases hcb : c = xb
    · subst hcb
      rw [hB1] at hc1
      simp [LT.cells] at hc1
      subst hc1
      have e0 : sw a b b = a := by unfold sw; split <;> simp_all
      rw [e0]
      by_cases hca : c = xa
      · subst hca
        have h3 := set0_blk (e := .int .i64 b) hA1
        rw [← blk2 _ hlc] at h3
        exact set0_blk h3
      · have h3 := (blk2 c hlc).trans ((Below.heap_setCell W1 ⟨xa, 0, none⟩ (.int .i64 b) c hca).trans hB1)
        exact set0_blk h3
    · by_cases hca : c = xa
      · subst hca
        rw [hA1] at hc1
        simp [LT.cells] at hc1
        subst hc1
        have e0 : sw a b a = b := by unfold sw; simp
        rw [e0]
        refine (Below.heap_setCell W2 ⟨xb, 0, none⟩ _ c hcb).trans ?_
        rw [blk2 c hlc]
        exact set0_blk hA1
      · have hpa : p ≠ a := fun e => hca (uniq_snd hnl hc (e ▸ ha))
        have hpb : p ≠ b := fun e => hcb (uniq_snd hnl hc (e ▸ hb))
        have e0 : sw a b p = p := by unfold sw; simp [hpa, hpb]
        rw [e0, hfar c hlc hca hcb]
        exact hc1
  have hinner : ∀ k ∈ t.inner, k ≠ xa ∧ k ≠ xb := by
    intro k hk
    obtain ⟨x, y, c, d, hx⟩ := inner_at hat hk
    constructor
    · rintro rfl; rw [hA1] at hx; simp [LT.cells, ptr] at hx
    · rintro rfl; rw [hB1] at hx; simp [LT.cells, ptr] at hx
  have hin : ∀ k ∈ t.inner, k ∈ t.blocks := by
    have : ∀ (t : LT), ∀ k ∈ t.inner, k ∈ t.blocks := by
      intro t; induction t with
      | leaf => intro k hk; cases hk
      | node b x y a c hx hy =>
        intro k hk
        simp only [LT.inner, LT.blocks, List.mem_cons, List.mem_append] at hk ⊢
        rcases hk with h | h | h
        · exact .inl h
        · exact .inr (.inl (hx k h))
        · exact .inr (.inr (hy k h))
    exact this t
  have hat' : LtAt (W2.setCell ⟨xb, 0, none⟩ (.int .i64 a)) (t.ren (sw a b)) := ren_at hat hleaf fun k hk => hfar k (hlt k (hin k hk)) (hinner k hk).1 (hinner k hk).2
  have hra := pane_range h.at_.small a (by rw [← leaves_panes]; exact List.mem_map.2 ⟨_, ha, rfl⟩)
  have hrb := pane_range h.at_.small b (by rw [← leaves_panes]; exact List.mem_map.2 ⟨_, hb, rfl⟩)
  have hxa := leaf_block ha
  have hxb := leaf_block hb
  have htb : (W2.setCell ⟨xb, 0, none⟩ (.int .i64 a)).heap[tb]? = w.heap[tb]? := (hfar tb h.at_.here (fun e => h.out (e ▸ hxa)) (fun e => h.out (e ▸ hxb))).trans (he.block tb h.at_.here)
  refine ⟨⟨⟨?_, hat', ren_small h.at_.small (fun p hp => ?_), by rw [ren_size]; exact h.at_.size⟩, by rw [ren_blocks]; exact h.nodup, by rw [ren_blocks]; exact h.low, by rw [ren_blocks]; exact h.out, h.lowt, by rw [ren_panes, List.length_map]; exact h.many⟩, ⟨?_, ?_, ?_, ?_, ?_, fun k hk => .inl (by rw [ren_blocks] at hk; exact hk)⟩⟩
  · rw [ren_b, World.cell?_of_block (w := w) htb]; exact h.at_.root
  · have := pane_range h.at_.small p hp
    unfold sw; split
    · exact hrb
    · split
      · exact hra
      · exact this
  · exact he2.os.trans he.os
  · exact he2.tape.trans he.tape
  · exact he2.output.trans he.output
  · simpa [World.setCell] using hs2
  · intro k hk hn'
    exact (hfar k hk (fun e => hn' (e ▸ hxa)) (fun e => hn' (e ▸ hxb))).trans (he.block k hk)

set_option maxHeartbeats 4000000 in
set_option maxRecDepth 100000 in
theorem Swap_any (B tb : Nat) (t : LT) (a b : Int) (w : World) (h : Tr B w tb t) (hB : B ≤ w.heap.size) (hn : t.panes.Nodup) :
    Calls Tryd.prog 18 #[ptr tb, .int .i64 a, .int .i64 b] w fun e w' => e = .returned (.int .i64 (t.swap a b).1) ∧ Tr B w' tb (t.swap a b).2 ∧ Wr t (t.swap a b).2 w w' := by
  have HP := hid (fun w' (he : Ext w w') => Has_any tb t a w' (h.at_.ext he))
  have HP2 := hid (fun w' (he : Ext w w') => Has_any tb t b w' (h.at_.ext he))
  have HF := hid (fun w' (he : Ext w w') => find_any tb t a 0 0 w' (h.at_.ext he) (by decide) (by decide))
  have HF2 := hid (fun w' (he : Ext w w') => find_any tb t b 0 0 w' (h.at_.ext he) (by decide) (by decide))
  have HH := hid h
  have HBB := hid hB
  have HNN := hid hn
  clear h hB hn
  unfold ptr at *
  by_cases hp : a ∈ t.panes
  · by_cases hq : b ∈ t.panes
    · have HS : Hid (t.swap a b = (0, t.ren (sw a b))) := hid (by simp [LT.swap, hp, hq])
      obtain ⟨xa, hxa⟩ := tip_leaf a t hp
      obtain ⟨xb, hxb⟩ := tip_leaf b t hq
      have HXA := hid (tip_leaves a hxa)
      have HXB := hid (tip_leaves b hxb)
      have hba : (t.tip a).b = xa := by rw [hxa]; rfl
      have hbb : (t.tip b).b = xb := by rw [hxb]; rfl
      rw [hba] at HF
      rw [hbb] at HF2
      rw [decide_eq_true hp] at HP
      rw [decide_eq_true hq] at HP2
      clear hp hq hxa hxb hba hbb
      generalize t.tipBox a (allB 0 0) = bx1 at *
      generalize t.tipBox b (allB 0 0) = bx2 at *
      unfold Bx.val at *
      go_enter Tryd.func18, Tryd.ntmps18
      go_wp2_with fail
      refine (HP.out _ (Ext.refl _)).mono ?_
      rintro e w1 ⟨rfl, hE⟩
      go_wp2_with fail
      refine (HP2.out _ hE).mono ?_
      rintro e w2 ⟨rfl, hE2⟩
      replace hE2 := hE.trans hE2
      clear hE
      go_wp2_with fail
      refine (HF.out _ hE2).mono ?_
      rintro e w3 ⟨va, vb, rfl, _, _, hE3⟩
      replace hE3 := hE2.trans hE3
      clear hE2
      go_wp2_with fail
      refine (HF2.out _ (hE3.alloc' _)).mono ?_
      rintro e w4 ⟨va2, vb2, rfl, _, _, hE4⟩
      replace hE4 := (hE3.alloc' _).trans hE4
      clear hE3
      go_wp2_with fail
      refine reg_begin 12 (by kernel_rfl) ?_
      generalize hW : World.drew _ = W
      have HE := hid (by rw [← hW]; exact (hE4.alloc' _).drew' : Ext w W)
      clear hW hE4 HP HP2 HF HF2
      have HA := hid (leaf_at (HH.out.ext HE.out).at_.at_ HXA.out)
      have HB := hid (leaf_at (HH.out.ext HE.out).at_.at_ HXB.out)
      have HC0 : Hid (W.cell? ⟨xa, 0, none⟩ = some (.int .i64 a)) := hid (cell_blk (j := 0) HA.out rfl)
      have HD0 : Hid (W.cell? ⟨xb, 0, none⟩ = some (.int .i64 b)) := hid (cell_blk (j := 0) HB.out rfl)
      refine reg_quiet 0 rfl (by kernel_rfl) (by kernel_rfl) ?_
      apply Exists.intro
      refine ⟨fun w' hw' => ?_, ?_⟩
      · go_simp
        exact ⟨rfl, Ext.refl _⟩
      refine reg_pure 1 rfl (by kernel_rfl) rfl ?_
      apply Exists.intro
      refine ⟨fun w' => ?_, ?_⟩
      · go_simp
        exact rfl
      refine reg_quiet 2 rfl (by kernel_rfl) (by kernel_rfl) ?_
      apply Exists.intro
      refine ⟨fun w' hw' => ?_, ?_⟩
      · go_simp
        exact ⟨rfl, Ext.refl _⟩
      refine reg_quiet 3 rfl (by kernel_rfl) (by kernel_rfl) ?_
      apply Exists.intro
      refine ⟨fun w' hw' => ?_, ?_⟩
      · go_simp
        exact ⟨rfl, Ext.refl _⟩
      refine reg_quiet 4 rfl (by kernel_rfl) (by kernel_rfl) ?_
      apply Exists.intro
      refine ⟨fun w' hw' => ?_, ?_⟩
      · go_simp
        exact ⟨rfl, Ext.refl _⟩
      refine reg_quiet 5 rfl (by kernel_rfl) (by kernel_rfl) ?_
      apply Exists.intro
      refine ⟨fun w' hw' => ?_, ?_⟩
      · have q0 := hw'.cell HD0.out
        go_simp
        exact ⟨rfl, Ext.refl _⟩
      refine reg_quiet 6 rfl (by kernel_rfl) (by kernel_rfl) ?_
      apply Exists.intro
      refine ⟨fun w' hw' => ?_, ?_⟩
      · go_simp
        exact ⟨rfl, Ext.refl _⟩
      refine reg_quiet 7 rfl (by kernel_rfl) (by kernel_rfl) ?_
      apply Exists.intro
      refine ⟨fun w' hw' => ?_, ?_⟩
      · go_simp
        exact ⟨rfl, Ext.refl _⟩
      refine reg_quiet 8 rfl (by kernel_rfl) (by kernel_rfl) ?_
      apply Exists.intro
      refine ⟨fun w' hw' => ?_, ?_⟩
      · go_simp
        exact ⟨rfl, Ext.refl _⟩
      refine reg_quiet 9 rfl (by kernel_rfl) (by kernel_rfl) ?_
      apply Exists.intro
      refine ⟨fun w' hw' => ?_, ?_⟩
      · have q0 := hw'.cell HC0.out
        go_simp
        exact ⟨rfl, Ext.refl _⟩
      refine reg_quiet 10 rfl (by kernel_rfl) (by kernel_rfl) ?_
      apply Exists.intro
      refine ⟨fun w' hw' => ?_, ?_⟩
      · go_simp
        exact ⟨rfl, Ext.refl _⟩
      refine reg_quiet 11 rfl (by kernel_rfl) (by kernel_rfl) ?_
      apply Exists.intro
      refine ⟨fun w' hw' => ?_, ?_⟩
      · go_simp
        exact ⟨rfl, Ext.refl _⟩
      refine reg_one 12 rfl (by kernel_rfl) rfl (fun w' hw' => ?_)
      have hE12 := HE.out.trans hw'
      have hA12 := leaf_at (HH.out.ext hE12).at_.at_ HXA.out
      have q0 : w'.cell? ⟨xa, 0, none⟩ = some (.int .i64 a) := cell_blk (j := 0) hA12 rfl
      have z0 : ∀ j, w'.frozen? ⟨xa, j, none⟩ = false := fun j => by simp [World.frozen?, hA12]
      replace HE := hid hE12
      clear hw' hE12 hA12 HA HB HC0 HD0
      go_simp
      clear q0 z0
      refine reg_quiet 13 rfl (by kernel_rfl) (by kernel_rfl) ?_
      apply Exists.intro
      refine ⟨fun w' hw' => ?_, ?_⟩
      · go_simp
        exact ⟨rfl, Ext.refl _⟩
      refine reg_quiet 14 rfl (by kernel_rfl) (by kernel_rfl) ?_
      apply Exists.intro
      refine ⟨fun w' hw' => ?_, ?_⟩
      · go_simp
        exact ⟨rfl, Ext.refl _⟩
      refine reg_one 15 rfl (by kernel_rfl) rfl (fun w5 hw5 => ?_)
      have hlt : xb < w'.heap.size := (HH.out.ext HE.out).at_.at_.lt xb (leaf_block HXB.out)
      have hB12 := leaf_at (HH.out.ext HE.out).at_.at_ HXB.out
      obtain ⟨v0, hv0⟩ : ∃ v, (w'.setCell ⟨xa, 0, none⟩ (.int .i64 b)).heap[xb]? = some (.cells #[v, .pointer none, .pointer none, .bool false, .int .i64 0] 52 (0, 0)) := by
        by_cases hab : xb = xa
        · subst hab; exact ⟨_, set0_blk hB12⟩
        · exact ⟨_, (Below.heap_setCell w' ⟨xa, 0, none⟩ _ xb hab).trans hB12⟩
      have hv5 := hw5.blk hv0
      have q0 : w5.cell? ⟨xb, 0, none⟩ = some v0 := cell_blk (j := 0) hv5 rfl
      have z0 : ∀ j, w5.frozen? ⟨xb, j, none⟩ = false := fun j => by simp [World.frozen?, hv5]
      have HT := hid (Tr.swap HH.out HE.out HBB.out HNN.out HXA.out HXB.out hw5 rfl)
      clear hv0 hv5 hw5 hB12 hlt
      go_simp
      clear q0 z0
      generalize World.setCell w5 _ _ = w6 at *
      refine reg_done (by kernel_rfl) (fun w7 hw7 => ?_) _
      have HT7 := hid (HT.out.1.ext hw7)
      have HW7 := hid (HT.out.2.trans (Wr.of_ext hw7))
      clear hw7 HT
      go_simp
      go_wp2_with fail
      go_ret
      exact ⟨by rw [HS.out]; rfl, by rw [HS.out]; exact HT7.out, by rw [HS.out]; exact HW7.out⟩
    · have HS : Hid (t.swap a b = (3, t)) := hid (by simp [LT.swap, hq])
      rw [decide_eq_true hp] at HP
      rw [decide_eq_false hq] at HP2
      clear hp hq
      go_enter Tryd.func18, Tryd.ntmps18
      go_wp2_with fail
      refine (HP.out _ (Ext.refl _)).mono ?_
      rintro e w1 ⟨rfl, hE⟩
      go_wp2_with fail
      refine (HP2.out _ hE).mono ?_
      rintro e w2 ⟨rfl, hE2⟩
      replace hE2 := hE.trans hE2
      go_wp2_with fail
      go_ret
      exact ⟨by rw [HS.out]; rfl, by rw [HS.out]; exact HH.out.ext hE2, by rw [HS.out]; exact Wr.of_ext hE2⟩
  · have HS : Hid (t.swap a b = (3, t)) := hid (by simp [LT.swap, hp])
    rw [decide_eq_false hp] at HP
    clear hp
    go_enter Tryd.func18, Tryd.ntmps18
    go_wp2_with fail
    refine (HP.out _ (Ext.refl _)).mono ?_
    rintro e w1 ⟨rfl, hE⟩
    go_wp2_with fail
    go_ret
    exact ⟨by rw [HS.out]; rfl, by rw [HS.out]; exact HH.out.ext hE, by rw [HS.out]; exact Wr.of_ext hE⟩

end Go.Proofs.YtflbfmfaccaffaaDoor
