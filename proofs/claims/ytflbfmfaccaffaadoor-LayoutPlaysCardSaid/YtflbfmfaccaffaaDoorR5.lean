/-
  The document's tree that is turned at one node; what is plain of it.
-/
import Derived.Test.YtflbfmfaccaffaaDoorR4
import Derived.Test.YtflbfmfaccaffaaDoorR2
namespace Go.Proofs.YtflbfmfaccaffaaDoor
open Go Go.RowKit

theorem first_place (p : Int) : ∀ (t : LT) (r : Bx) (i : Nat), t.panes[i]? = some p → (∀ j, j < i → t.panes[j]? ≠ some p) → (t.places r)[i]? = some (t.tipBox p r)
  | .leaf b q, r, i, h, _ => by
    simp only [LT.panes] at h
    cases i with
    | zero => simp [LT.places, LT.tipBox]
    | succ i => simp at h
  | .node b x y a k, r, i, h, hn => by
    simp only [LT.panes] at h hn
    by_cases hi : i < x.panes.length
    · rw [List.getElem?_append_left hi] at h
      have hp : p ∈ x.panes := List.mem_of_getElem? h
      simp only [LT.places, LT.tipBox, hp, if_true]
      rw [List.getElem?_append_left (by rw [← panes_len]; exact hi)]
      exact first_place p x _ i h fun j hj => by
        have := hn j hj
        rwa [List.getElem?_append_left (by omega)] at this
    · rw [List.getElem?_append_right (by omega)] at h
      have hp : p ∉ x.panes := by
        intro hp
        obtain ⟨j, hj, hj2⟩ := List.getElem_of_mem hp
        refine hn j (by omega) ?_
        rw [List.getElem?_append_left hj, List.getElem?_eq_getElem hj, hj2]
      simp only [LT.places, LT.tipBox, hp, if_false]
      rw [List.getElem?_append_right (by rw [← panes_len]; omega), ← panes_len]
      exact first_place p y _ _ h fun j hj => by
        have := hn (j + x.panes.length) (by omega)
        rw [List.getElem?_append_right (by omega)] at this
        simpa using this

theorem rplug_swap {w w' : World} {s s' : LT} (hb : s'.b = s.b) (hs' : RtAt w' s') : ∀ {A : List Fr}, RtAt w (plug A s) → (∀ k ∈ frBlocks A, w'.heap[k]? = w.heap[k]?) → RtAt w' (plug A s')
  | [], _, _ => hs'
  | f :: A, h, hk => by
    have hbb := plug_b (A := A) hb
    cases hf : f.left
    · simp only [plug, Fr.fill, hf, Bool.false_eq_true, if_false] at h ⊢
      refine ⟨?_, h.2.1.of_blocks (fun k hk' => hk k (by simp [frBlocks, hk'])), rplug_swap hb hs' h.2.2 (fun k hk' => hk k (by simp [frBlocks, hk']))⟩
      rw [hk _ (by simp [frBlocks]), h.1]
      simp [LT.rcells, hbb]
    · simp only [plug, Fr.fill, hf, if_true] at h ⊢
      refine ⟨?_, rplug_swap hb hs' h.2.1 (fun k hk' => hk k (by simp [frBlocks, hk'])), h.2.2.of_blocks (fun k hk' => hk k (by simp [frBlocks, hk']))⟩
      rw [hk _ (by simp [frBlocks]), h.1]
      simp [LT.rcells, hbb]
theorem rplug_at {w : World} {s : LT} : ∀ {A : List Fr}, RtAt w (plug A s) → RtAt w s
  | [], h => h
  | f :: A, h => by
    cases hf : f.left
    · simp only [plug, Fr.fill, hf, Bool.false_eq_true, if_false] at h
      exact rplug_at h.2.2
    · simp only [plug, Fr.fill, hf, if_true] at h
      exact rplug_at h.2.1

/-- A document's tree of the call's own, from block B on. -/
structure RTr (B : Nat) (w : World) (t : LT) : Prop where
  at_ : RtAt w t
  small : t.small
  nodup : t.blocks.Nodup
  low : ∀ k ∈ t.blocks, B ≤ k
  many : t.panes.length ≤ 12
theorem RTr.size {B : Nat} {w : World} {t : LT} (h : RTr B w t) : t.size ≤ 1000 := by have := size_panes t; have := h.many; omega
theorem RTr.ext {B : Nat} {w w1 : World} {t : LT} (h : RTr B w t) (he : Ext w w1) : RTr B w1 t := ⟨h.at_.ext he, h.small, h.nodup, h.low, h.many⟩

def LT.rsubs (w : World) : LT → Prop
  | .leaf .. => True
  | .node _ x y _ _ => RtAt w x ∧ RtAt w y

theorem RTr.turn {B : Nat} {w W w' : World} {A : List Fr} {s s' : LT} (h : RTr B w (plug A s)) (he : Ext w W) (hset : Set1 s.b W w')
    (hblk : w'.heap[s.b]? = some (.cells s'.rcells 48 (0, 0))) (hb : s'.b = s.b) (hsub : s'.rsubs W)
    (hnew : ∀ k ∈ s'.blocks, k ∈ s.blocks ∨ w.heap.size ≤ k) (hB : B ≤ w.heap.size) (hnd : s'.blocks.Nodup) (hsm : s'.small) (hm : (plug A s').panes.length ≤ 12) :
    RTr B w' (plug A s') ∧ Wr (plug A s) (plug A s') w w' := by
  have hperm := plug_blocks A s
  have hperm' := plug_blocks A s'
  have hnd0 := hperm.nodup_iff.1 h.nodup
  rw [List.nodup_append] at hnd0
  obtain ⟨hnA, hns, hdis⟩ := hnd0
  have hat := h.at_
  have hfar : ∀ k ∈ frBlocks A, k ≠ s.b := fun k hk e => hdis k hk s.b s.b_mem e
  have hltA : ∀ k ∈ frBlocks A, k < w.heap.size := fun k hk => hat.lt k (hperm.mem_iff.2 (List.mem_append_left _ hk))
  have hs' : RtAt w' s' := by
    cases s' with
    | leaf b p => have hb' : b = s.b := hb; subst hb'; exact hblk
    | node b x y a k =>
      have hb' : b = s.b := hb
      subst hb'
      simp only [LT.blocks, List.nodup_cons, List.mem_append, not_or] at hnd
      exact ⟨hblk, hsub.1.of_blocks (fun j hj => hset.block j (fun e => hnd.1.1 (e ▸ hj))), hsub.2.of_blocks (fun j hj => hset.block j (fun e => hnd.1.2 (e ▸ hj)))⟩
  have hsize : w.heap.size ≤ w'.heap.size := by rw [hset.size]; exact he.size
  have hsb : s.b ∈ (plug A s).blocks := hperm.mem_iff.2 (List.mem_append_right _ s.b_mem)
  refine ⟨⟨?_, plug_small hsm h.small, ?_, ?_, hm⟩, ⟨hset.os.trans he.os, hset.tape.trans he.tape, hset.output.trans he.output, hsize, ?_, ?_⟩⟩
  · exact rplug_swap hb hs' hat fun k hk => (hset.block k (hfar k hk)).trans (he.block k (hltA k hk))
  · rw [hperm'.nodup_iff, List.nodup_append]
    refine ⟨hnA, hnd, fun k hk j hj e => ?_⟩
    subst e
    rcases hnew k hj with h' | h'
    · exact hdis k hk k h' rfl
    · have := hltA k hk; omega
  · intro k hk
    rcases List.mem_append.1 (hperm'.mem_iff.1 hk) with h' | h'
    · exact h.low k (hperm.mem_iff.2 (List.mem_append_left _ h'))
    · rcases hnew k h' with h2 | h2
      · exact h.low k (hperm.mem_iff.2 (List.mem_append_right _ h2))
      · omega
  · intro k hk hn
    refine (hset.block k (fun e => hn (e ▸ hsb))).trans (he.block k hk)
  · intro k hk
    rcases List.mem_append.1 (hperm'.mem_iff.1 hk) with h' | h'
    · exact .inl (hperm.mem_iff.2 (List.mem_append_left _ h'))
    · rcases hnew k h' with h2 | h2
      · exact .inl (hperm.mem_iff.2 (List.mem_append_right _ h2))
      · exact .inr h2

/-- What is done to one tree keeps another one. -/
theorem RTr.keep {B : Nat} {w w' : World} {t t' u : LT} (h : RTr B w u) (hw : Wr t t' w w') (hd : ∀ k ∈ u.blocks, k ∉ t.blocks) : RTr B w' u ∧ ∀ k ∈ u.blocks, k ∉ t'.blocks :=
  ⟨⟨h.at_.of_blocks (fun k hk => hw.block k (h.at_.lt k hk) (hd k hk)), h.small, h.nodup, h.low, h.many⟩, fun k hk hk' => by
    rcases hw.new k hk' with h1 | h1
    · exact hd k hk h1
    · have := h.at_.lt k hk; omega⟩
theorem Tr.keep {B tb : Nat} {w w' : World} {t u u' : LT} (h : Tr B w tb t) (hw : Wr u u' w w') (hd : ∀ k ∈ u.blocks, k ∉ t.blocks) (htb : tb ∉ u.blocks) : Tr B w' tb t ∧ (∀ k ∈ u'.blocks, k ∉ t.blocks) ∧ tb ∉ u'.blocks :=
  ⟨⟨⟨by rw [World.cell?_of_block (w := w) (hw.block tb h.at_.here htb)]; exact h.at_.root, h.at_.at_.of_blocks (fun k hk => hw.block k (h.at_.at_.lt k hk) (fun hk' => hd k hk' hk)), h.at_.small, h.at_.size⟩, h.nodup, h.low, h.out, h.lowt, h.many⟩,
   fun k hk hk' => by
    rcases hw.new k hk with h1 | h1
    · exact hd k h1 hk'
    · have := h.at_.at_.lt k hk'; omega,
   fun hk => by
    rcases hw.new tb hk with h1 | h1
    · exact htb h1
    · have := h.at_.here; omega⟩

theorem rsib_at {w : World} {f : Fr} {s : LT} (h : RtAt w (f.fill s)) : RtAt w f.sib := by
  cases hf : f.left
  · simp only [Fr.fill, hf, Bool.false_eq_true, if_false] at h; exact h.2.1
  · simp only [Fr.fill, hf, if_true] at h; exact h.2.2
theorem reb_rcells (b : Nat) (t : LT) : (t.reb b).rcells = t.rcells := by cases t <;> rfl
theorem reb_rsubs {w : World} {b : Nat} {t : LT} (h : RtAt w t) : (t.reb b).rsubs w := by
  cases t with
  | leaf c p => trivial
  | node c x y a k => exact h.2
/-- Kill: the other half stands where both stood. -/
theorem RTr.cut {B : Nat} {w W w' : World} {t tip : LT} {A : List Fr} {f : Fr} (h : RTr B w t) (he : Ext w W) (hB : B ≤ w.heap.size) (hpl : plug (A ++ [f]) tip = t) (hset : Set1 f.b W w') (hblk : w'.heap[f.b]? = some (.cells f.sib.rcells 48 (0, 0))) :
    RTr B w' (plug A (f.sib.reb f.b)) ∧ Wr t (plug A (f.sib.reb f.b)) w w' := by
  rw [plug_append] at hpl
  have hpl' : plug A (f.fill tip) = t := hpl
  have hT : RTr B w (plug A (f.fill tip)) := by rw [hpl']; exact h
  have hnode := rplug_at (hT.ext he).at_
  have hnd := (List.nodup_append.1 ((plug_blocks _ _).nodup_iff.1 hT.nodup)).2.1
  have hsib : f.sib.blocks.Nodup ∧ f.b ∉ f.sib.blocks ∧ ∀ k ∈ f.sib.blocks, k ∈ (f.fill tip).blocks := by
    rw [Fr.fill_eq] at hnd ⊢
    simp only [LT.blocks, List.nodup_cons, List.mem_append, not_or, List.nodup_append] at hnd ⊢
    cases hl : f.left
    · simp only [Fr.fst, Fr.snd, hl, Bool.false_eq_true, if_false] at hnd ⊢
      exact ⟨hnd.2.1, hnd.1.1, fun k hk => by simp [hk]⟩
    · simp only [Fr.fst, Fr.snd, hl, if_true] at hnd ⊢
      exact ⟨hnd.2.2.1, hnd.1.2, fun k hk => by simp [hk]⟩
  have hfb : (f.fill tip).b = f.b := by rw [Fr.fill_eq]; rfl
  have hsm : f.sib.small := by
    have h5 := plug_small' hT.small
    rw [Fr.fill_eq] at h5
    cases hl : f.left
    · simp only [Fr.fst, Fr.snd, hl, Bool.false_eq_true, if_false] at h5; exact h5.2.1
    · simp only [Fr.fst, Fr.snd, hl, if_true] at h5; exact h5.2.2
  have hm := hT.many
  rw [plug_panes] at hm
  have hres := RTr.turn (s' := f.sib.reb f.b) hT he (w' := w') (by rw [hfb]; exact hset) (by rw [hfb, reb_rcells]; exact hblk) (by rw [reb_b, hfb]) (reb_rsubs (rsib_at hnode))
    (fun k hk => by
      rcases reb_blocks _ _ k hk with rfl | hk
      · exact .inl (by rw [Fr.fill_eq]; simp [LT.blocks])
      · exact .inl (hsib.2.2 k hk)) hB (reb_nodup hsib.1 hsib.2.1) (reb_small hsm) (by
      rw [plug_panes, reb_panes]
      rw [Fr.fill_eq] at hm
      cases hl : f.left
      · simp only [Fr.fst, Fr.snd, hl, Bool.false_eq_true, if_false, LT.panes, List.length_append] at hm ⊢; omega
      · simp only [Fr.fst, Fr.snd, hl, if_true, LT.panes, List.length_append] at hm ⊢; omega)
  rw [hpl'] at hres
  exact hres

theorem rframe_at {w : World} {t tip : LT} {A : List Fr} {n : Nat} {f : Fr} (hat : RtAt w t) (hpl : plug A tip = t) (hf : A[n]? = some f) :
    RtAt w (.node f.b (f.fst (plug (A.drop (n + 1)) tip)) (f.snd (plug (A.drop (n + 1)) tip)) f.across f.part) := by
  rw [← frame_eq hpl hf] at hat
  exact rplug_at hat
theorem setc2_blk {W : World} {q : Nat} {x y z u v e : Value} {t : TypeId} {fr : Nat × Nat} (h : W.heap[q]? = some (.cells #[x, y, z, u, v] t fr)) : (W.setCell ⟨q, 2, none⟩ e).heap[q]? = some (.cells #[x, y, e, u, v] t fr) := by
  simp [World.setCell, Array.getElem?_modify, h]
/-- Grow: the part of a node is set. -/
theorem RTr.part {B : Nat} {w W w' : World} {t tip : LT} {A : List Fr} {n : Nat} {f : Fr} {k : Int} (h : RTr B w t) (he : Ext w W) (hB : B ≤ w.heap.size) (hpl : plug A tip = t) (hf : A[n]? = some f) (hk : -1000000 ≤ k ∧ k ≤ 1000000) (hw' : w' = W.setCell ⟨f.b, 2, none⟩ (.int .i64 k)) :
    RTr B w' (plug (A.take n ++ { f with part := k } :: A.drop (n + 1)) tip) ∧ Wr t (plug (A.take n ++ { f with part := k } :: A.drop (n + 1)) tip) w w' := by
  subst hw'
  rw [grown_plug (t := t)]
  have hfe := frame_eq hpl hf
  have hnode := rframe_at (h.ext he).at_ hpl hf
  have hT : RTr B w (plug (A.take n) (.node f.b (f.fst (plug (A.drop (n + 1)) tip)) (f.snd (plug (A.drop (n + 1)) tip)) f.across f.part)) := by rw [hfe]; exact h
  have hnd := (List.nodup_append.1 ((plug_blocks _ _).nodup_iff.1 hT.nodup)).2.1
  have hsm := plug_small' hT.small
  have hm := hT.many
  rw [plug_panes] at hm
  have hres := RTr.turn (s' := .node f.b (f.fst (plug (A.drop (n + 1)) tip)) (f.snd (plug (A.drop (n + 1)) tip)) f.across k) hT he ((Set1.refl f.b W).set 2 (.int .i64 k)) (setc2_blk hnode.1) rfl hnode.2
    (fun j hj => .inl hj) hB hnd ⟨hk, hsm.2⟩ (by rw [plug_panes]; exact hm)
  rw [hfe] at hres
  exact hres

theorem rleaf_at {w : World} : ∀ {t : LT}, RtAt w t → ∀ {c : Nat} {p : Int}, (c, p) ∈ t.leaves → w.heap[c]? = some (.cells (LT.leaf c p).rcells 48 (0, 0))
  | .leaf b q, h, c, p, hc => by simp [LT.leaves] at hc; obtain ⟨rfl, rfl⟩ := hc; exact h
  | .node b x y a k, h, c, p, hc => by
    simp only [LT.leaves, List.mem_append] at hc
    rcases hc with hc | hc
    · exact rleaf_at h.2.1 hc
    · exact rleaf_at h.2.2 hc
theorem rinner_at {w : World} : ∀ {t : LT}, RtAt w t → ∀ {c : Nat}, c ∈ t.inner → ∃ x y a k, w.heap[c]? = some (.cells #[.int .i64 0, .bool a, .int .i64 k, ptr x, ptr y] 48 (0, 0))
  | .leaf b q, h, c, hc => by cases hc
  | .node b x y a k, h, c, hc => by
    simp only [LT.inner, List.mem_cons, List.mem_append] at hc
    rcases hc with rfl | hc | hc
    · exact ⟨_, _, _, _, h.1⟩
    · exact rinner_at h.2.1 hc
    · exact rinner_at h.2.2 hc
theorem rren_at {w w' : World} {σ : Int → Int} : ∀ {t : LT}, RtAt w t → (∀ c p, (c, p) ∈ t.leaves → w'.heap[c]? = some (.cells (LT.leaf c (σ p)).rcells 48 (0, 0))) → (∀ k ∈ t.inner, w'.heap[k]? = w.heap[k]?) → RtAt w' (t.ren σ)
  | .leaf b p, _, h, _ => h b p (by simp [LT.leaves])
  | .node b x y a k, ha, h, hi => by
    refine ⟨?_, rren_at ha.2.1 (fun c p hc => h c p (by simp [LT.leaves, hc])) (fun k hk => hi k (by simp [LT.inner, hk])), rren_at ha.2.2 (fun c p hc => h c p (by simp [LT.leaves, hc])) (fun k hk => hi k (by simp [LT.inner, hk]))⟩
    rw [hi b (by simp [LT.inner]), ha.1]
    simp [LT.rcells, ren_b]
theorem inner_block : ∀ {t : LT} {k : Nat}, k ∈ t.inner → k ∈ t.blocks
  | .leaf .., k, h => by cases h
  | .node b x y a c, k, h => by
    simp only [LT.inner, LT.blocks, List.mem_cons, List.mem_append] at h ⊢
    rcases h with h | h | h
    · exact .inl h
    · exact .inr (.inl (inner_block h))
    · exact .inr (.inr (inner_block h))

/-- Swap: two leaves change panes. -/
theorem RTr.swap {B : Nat} {w W1 W W2 : World} {t : LT} {a b : Int} {xa xb : Nat} (h : RTr B w t) (he : Ext w W1) (hn : t.panes.Nodup) (ha : (xa, a) ∈ t.leaves) (hb : (xb, b) ∈ t.leaves)
    (he2 : Ext (W1.setCell ⟨xa, 0, none⟩ (.int .i64 b)) W2) (hW : W = W2.setCell ⟨xb, 0, none⟩ (.int .i64 a)) : RTr B W (t.ren (sw a b)) ∧ Wr t (t.ren (sw a b)) w W := by
  subst hW
  have hat := (h.ext he).at_
  have hlt : ∀ k ∈ t.blocks, k < w.heap.size := h.at_.lt
  have hs2 : W2.heap.size ≥ w.heap.size := by have := he2.size; have := he.size; simp [World.setCell] at *; omega
  have blk2 : ∀ k, k < w.heap.size → W2.heap[k]? = (W1.setCell ⟨xa, 0, none⟩ (.int .i64 b)).heap[k]? := fun k hk => he2.block k (by have := he.size; simp [World.setCell]; omega)
  have hfar : ∀ k, k < w.heap.size → k ≠ xa → k ≠ xb → (W2.setCell ⟨xb, 0, none⟩ (.int .i64 a)).heap[k]? = W1.heap[k]? := fun k hk h1 h2 =>
    (Below.heap_setCell W2 ⟨xb, 0, none⟩ _ k h2).trans ((blk2 k hk).trans (Below.heap_setCell W1 ⟨xa, 0, none⟩ _ k h1))
  have hnl : (t.leaves.map Prod.snd).Nodup := by rw [leaves_panes]; exact hn
  have hA1 := rleaf_at hat ha
  have hB1 := rleaf_at hat hb
  have hleaf : ∀ c p, (c, p) ∈ t.leaves → (W2.setCell ⟨xb, 0, none⟩ (.int .i64 a)).heap[c]? = some (.cells (LT.leaf c (sw a b p)).rcells 48 (0, 0)) := by
    intro c p hc
    have hc1 := rleaf_at hat hc
    have hlc := hlt c (leaf_block hc)
    by_cases hcb : c = xb
    · subst hcb
      rw [hB1] at hc1
      simp [LT.rcells] at hc1
      subst hc1
      have e0 : sw a b b = a := by unfold sw; split <;> simp_all
      rw [e0]
      by_cases hca : c = xa
      · subst hca
        have h3 := set0_blk (e := .int .i64 b) hA1
        rw [← blk2 _ hlc] at h3
        exact set0_blk h3
      · have h3 := (blk2 c hlc).trans ((Below.heap_setCell W1 ⟨xa, 0, none⟩ (.int .i64 b) c hca).trans hB1)
        exact set0_blk h3
    · by_cases hca : c = xa
      · subst hca
        rw [hA1] at hc1
        simp [LT.rcells] at hc1
        subst hc1
        have e0 : sw a b a = b := by unfold sw; simp
        rw [e0]
        refine (Below.heap_setCell W2 ⟨xb, 0, none⟩ _ c hcb).trans ?_
        rw [blk2 c hlc]
        exact set0_blk hA1
      · have hpa : p ≠ a := fun e => hca (uniq_snd hnl hc (e ▸ ha))
        have hpb : p ≠ b := fun e => hcb (uniq_snd hnl hc (e ▸ hb))
        have e0 : sw a b p = p := by unfold sw; simp [hpa, hpb]
        rw [e0, hfar c hlc hca hcb]
        exact hc1
  have hinner : ∀ k ∈ t.inner, k ≠ xa ∧ k ≠ xb := by
    intro k hk
    obtain ⟨x, y, c, d, hx⟩ := rinner_at hat hk
    constructor
    · rintro rfl; rw [hA1] at hx; simp [LT.rcells, ptr] at hx
    · rintro rfl; rw [hB1] at hx; simp [LT.rcells, ptr] at hx
  have hat' : RtAt (W2.setCell ⟨xb, 0, none⟩ (.int .i64 a)) (t.ren (sw a b)) := rren_at hat hleaf fun k hk => hfar k (hlt k (inner_block hk)) (hinner k hk).1 (hinner k hk).2
  have hra := pane_range h.small a (by rw [← leaves_panes]; exact List.mem_map.2 ⟨_, ha, rfl⟩)
  have hrb := pane_range h.small b (by rw [← leaves_panes]; exact List.mem_map.2 ⟨_, hb, rfl⟩)
  have hxa := leaf_block ha
  have hxb := leaf_block hb
  refine ⟨⟨hat', ren_small h.small (fun p hp => ?_), by rw [ren_blocks]; exact h.nodup, by rw [ren_blocks]; exact h.low, by rw [ren_panes, List.length_map]; exact h.many⟩, ⟨?_, ?_, ?_, ?_, ?_, fun k hk => .inl (by rw [ren_blocks] at hk; exact hk)⟩⟩
  · have := pane_range h.small p hp
    unfold sw; split
    · exact hrb
    · split
      · exact hra
      · exact this
  · exact he2.os.trans he.os
  · exact he2.tape.trans he.tape
  · exact he2.output.trans he.output
  · simpa [World.setCell] using hs2
  · intro k hk hn'
    exact (hfar k hk (fun e => hn' (e ▸ hxa)) (fun e => hn' (e ▸ hxb))).trans (he.block k hk)

end Go.Proofs.YtflbfmfaccaffaaDoor
