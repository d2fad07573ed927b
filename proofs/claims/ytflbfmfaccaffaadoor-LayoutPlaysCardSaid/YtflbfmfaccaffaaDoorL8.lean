/-
  A tree in memory that is turned at one node.
-/
import Derived.Test.YtflbfmfaccaffaaDoorL7
namespace Go.Proofs.YtflbfmfaccaffaaDoor
open Go Go.RowKit

theorem size_panes : ∀ t : LT, t.size + 1 = 2 * t.panes.length
  | .leaf .. => rfl
  | .node b x y a k => by have := size_panes x; have := size_panes y; simp [LT.size, LT.panes]; omega
theorem panes_pos : ∀ t : LT, 0 < t.panes.length
  | .leaf .. => by simp [LT.panes]
  | .node b x y a k => by have := panes_pos x; simp [LT.panes]; omega
def frBlocks : List Fr → List Nat
  | [] => []
  | f :: A => f.b :: (f.sib.blocks ++ frBlocks A)
def lp : List Fr → List Int
  | [] => []
  | f :: A => if f.left then lp A else f.sib.panes ++ lp A
def rp : List Fr → List Int
  | [] => []
  | f :: A => if f.left then rp A ++ f.sib.panes else rp A
theorem plug_panes (A : List Fr) (s : LT) : (plug A s).panes = lp A ++ (s.panes ++ rp A) := by
  induction A with
  | nil => simp [plug, lp, rp]
  | cons f A ih => cases hf : f.left <;> simp [plug, Fr.fill, hf, lp, rp, LT.panes, ih]
theorem plug_blocks (A : List Fr) (s : LT) : (plug A s).blocks.Perm (frBlocks A ++ s.blocks) := by
  induction A with
  | nil => exact List.Perm.refl _
  | cons f A ih =>
    cases hf : f.left
    · simp only [plug, Fr.fill, hf, Bool.false_eq_true, if_false, LT.blocks, frBlocks, List.cons_append, List.append_assoc]
      exact (ih.append_left _).cons _
    · simp only [plug, Fr.fill, hf, if_true, LT.blocks, frBlocks, List.cons_append, List.append_assoc]
      exact ((ih.append_right _).trans List.perm_append_comm).cons _
theorem plug_b {A : List Fr} {s s' : LT} (hb : s'.b = s.b) : (plug A s').b = (plug A s).b := by
  cases A with
  | nil => exact hb
  | cons f A => cases hf : f.left <;> simp [plug, Fr.fill, hf, LT.b]
theorem plug_swap {w w' : World} {s s' : LT} (hb : s'.b = s.b) (hs' : LtAt w' s') : ∀ {A : List Fr}, LtAt w (plug A s) → (∀ k ∈ frBlocks A, w'.heap[k]? = w.heap[k]?) → LtAt w' (plug A s')
  | [], _, _ => hs'
  | f :: A, h, hk => by
    have hbb := plug_b (A := A) hb
    cases hf : f.left
    · simp only [plug, Fr.fill, hf, Bool.false_eq_true, if_false] at h ⊢
      refine ⟨?_, h.2.1.of_blocks (fun k hk' => hk k (by simp [frBlocks, hk'])), plug_swap hb hs' h.2.2 (fun k hk' => hk k (by simp [frBlocks, hk']))⟩
      rw [hk _ (by simp [frBlocks]), h.1]
      simp [LT.cells, hbb]
    · simp only [plug, Fr.fill, hf, if_true] at h ⊢
      refine ⟨?_, plug_swap hb hs' h.2.1 (fun k hk' => hk k (by simp [frBlocks, hk'])), h.2.2.of_blocks (fun k hk' => hk k (by simp [frBlocks, hk']))⟩
      rw [hk _ (by simp [frBlocks]), h.1]
      simp [LT.cells, hbb]
theorem plug_at {w : World} {s : LT} : ∀ {A : List Fr}, LtAt w (plug A s) → LtAt w s
  | [], h => h
  | f :: A, h => by
    cases hf : f.left
    · simp only [plug, Fr.fill, hf, Bool.false_eq_true, if_false] at h
      exact plug_at h.2.2
    · simp only [plug, Fr.fill, hf, if_true] at h
      exact plug_at h.2.1
theorem plug_small {s s' : LT} (hs : s'.small) : ∀ {A : List Fr}, (plug A s).small → (plug A s').small
  | [], _ => hs
  | f :: A, h => by
    cases hf : f.left
    · simp only [plug, Fr.fill, hf, Bool.false_eq_true, if_false, LT.small] at h ⊢
      exact ⟨h.1, h.2.1, plug_small hs h.2.2⟩
    · simp only [plug, Fr.fill, hf, if_true, LT.small] at h ⊢
      exact ⟨h.1, plug_small hs h.2.1, h.2.2⟩
theorem plug_small' {s : LT} : ∀ {A : List Fr}, (plug A s).small → s.small
  | [], h => h
  | f :: A, h => by
    cases hf : f.left
    · simp only [plug, Fr.fill, hf, Bool.false_eq_true, if_false, LT.small] at h
      exact plug_small' h.2.2
    · simp only [plug, Fr.fill, hf, if_true, LT.small] at h
      exact plug_small' h.2.1

/-- A tree of the call's own, from block B on. -/
structure Tr (B : Nat) (w : World) (tb : Nat) (t : LT) : Prop where
  at_ : TreeAt w tb t
  nodup : t.blocks.Nodup
  low : ∀ k ∈ t.blocks, B ≤ k
  out : tb ∉ t.blocks
  lowt : B ≤ tb
  many : t.panes.length ≤ 12
theorem Tr.ext {B : Nat} {w w1 : World} {tb : Nat} {t : LT} (h : Tr B w tb t) (he : Ext w w1) : Tr B w1 tb t := ⟨h.at_.ext he, h.nodup, h.low, h.out, h.lowt, h.many⟩
theorem TreeAt.here {w : World} {tb : Nat} {t : LT} (h : TreeAt w tb t) : tb < w.heap.size := World.block_lt_of_cell? _ _ h.root

/-- Only the tree's blocks may have turned; new blocks are its own or of nobody. -/
structure Wr (t t' : LT) (w w' : World) : Prop where
  os : w'.os = w.os
  tape : w'.tape = w.tape
  output : w'.output = w.output
  size : w.heap.size ≤ w'.heap.size
  block : ∀ k, k < w.heap.size → k ∉ t.blocks → w'.heap[k]? = w.heap[k]?
  new : ∀ k ∈ t'.blocks, k ∈ t.blocks ∨ w.heap.size ≤ k
theorem Wr.of_ext {t : LT} {w w' : World} (h : Ext w w') : Wr t t w w' := ⟨h.os, h.tape, h.output, h.size, fun k hk _ => h.block k hk, fun _ hk => .inl hk⟩
theorem Wr.trans {t t1 t2 : LT} {a b c : World} (h : Wr t t1 a b) (k : Wr t1 t2 b c) : Wr t t2 a c :=
  ⟨k.os.trans h.os, k.tape.trans h.tape, k.output.trans h.output, Nat.le_trans h.size k.size, fun j hj hn => by
    refine (k.block j (Nat.lt_of_lt_of_le hj h.size) fun h' => ?_).trans (h.block j hj hn)
    rcases h.new j h' with h'' | h''
    · exact hn h''
    · omega,
   fun j hj => by
    rcases k.new j hj with h' | h'
    · exact h.new j h'
    · exact .inr (Nat.le_trans h.size h')⟩
theorem Wr.below {B : Nat} {t t' : LT} {w w' : World} (h : Wr t t' w w') (hl : ∀ k ∈ t.blocks, B ≤ k) (hB : B ≤ w.heap.size) : Below B w w' :=
  ⟨h.os, h.tape, h.output, h.size, fun k hk => h.block k (by omega) fun h' => by have := hl k h'; omega⟩

/-- One block is written. -/
structure Set1 (b : Nat) (w w' : World) : Prop where
  os : w'.os = w.os
  tape : w'.tape = w.tape
  output : w'.output = w.output
  size : w'.heap.size = w.heap.size
  block : ∀ k, k ≠ b → w'.heap[k]? = w.heap[k]?
theorem Set1.refl (b : Nat) (w : World) : Set1 b w w := ⟨rfl, rfl, rfl, rfl, fun _ _ => rfl⟩
theorem Set1.set {b : Nat} {w w' : World} (h : Set1 b w w') (j : Nat) (v : Value) : Set1 b w (w'.setCell ⟨b, j, none⟩ v) :=
  ⟨h.os, h.tape, h.output, by simpa [World.setCell] using h.size, fun k hk => (Below.heap_setCell w' ⟨b, j, none⟩ v k hk).trans (h.block k hk)⟩

def LT.subs (w : World) : LT → Prop
  | .leaf .. => True
  | .node _ x y _ _ => LtAt w x ∧ LtAt w y

theorem LT.b_mem (t : LT) : t.b ∈ t.blocks := by cases t <;> simp [LT.b, LT.blocks]

theorem Tr.turn {B tb : Nat} {w W w' : World} {A : List Fr} {s s' : LT} (h : Tr B w tb (plug A s)) (he : Ext w W) (hset : Set1 s.b W w')
    (hblk : w'.heap[s.b]? = some (.cells s'.cells 52 (0, 0))) (hb : s'.b = s.b) (hsub : s'.subs W)
    (hnew : ∀ k ∈ s'.blocks, k ∈ s.blocks ∨ w.heap.size ≤ k) (hB : B ≤ w.heap.size) (hnd : s'.blocks.Nodup) (hsm : s'.small) (hm : (plug A s').panes.length ≤ 12) :
    Tr B w' tb (plug A s') ∧ Wr (plug A s) (plug A s') w w' := by
  have hperm := plug_blocks A s
  have hperm' := plug_blocks A s'
  have hnd0 := hperm.nodup_iff.1 h.nodup
  rw [List.nodup_append] at hnd0
  obtain ⟨hnA, hns, hdis⟩ := hnd0
  have hat := h.at_.at_
  have hfar : ∀ k ∈ frBlocks A, k ≠ s.b := fun k hk e => hdis k hk s.b s.b_mem e
  have hltA : ∀ k ∈ frBlocks A, k < w.heap.size := fun k hk => hat.lt k (hperm.mem_iff.2 (List.mem_append_left _ hk))
  have hs' : LtAt w' s' := by
    cases s' with
    | leaf b p => have hb' : b = s.b := hb; subst hb'; exact hblk
    | node b x y a k =>
      have hb' : b = s.b := hb
      subst hb'
      simp only [LT.blocks, List.nodup_cons, List.mem_append, not_or] at hnd
      exact ⟨hblk, hsub.1.of_blocks (fun j hj => hset.block j (fun e => hnd.1.1 (e ▸ hj))), hsub.2.of_blocks (fun j hj => hset.block j (fun e => hnd.1.2 (e ▸ hj)))⟩
  have hsize : w.heap.size ≤ w'.heap.size := by rw [hset.size]; exact he.size
  have hsb : s.b ∈ (plug A s).blocks := hperm.mem_iff.2 (List.mem_append_right _ s.b_mem)
  refine ⟨⟨⟨?_, ?_, plug_small hsm h.at_.small, ?_⟩, ?_, ?_, ?_, h.lowt, hm⟩, ⟨hset.os.trans he.os, hset.tape.trans he.tape, hset.output.trans he.output, hsize, ?_, ?_⟩⟩
  · rw [plug_b hb]
    have hne : tb ≠ s.b := fun e => h.out (e ▸ hsb)
    rw [World.cell?_of_block (w := W) (hset.block tb hne)]
    exact he.cell h.at_.root
  · exact plug_swap hb hs' hat fun k hk => (hset.block k (hfar k hk)).trans (he.block k (hltA k hk))
  · have := size_panes (plug A s'); omega
  · rw [hperm'.nodup_iff, List.nodup_append]
    refine ⟨hnA, hnd, fun k hk j hj e => ?_⟩
    subst e
    rcases hnew k hj with h' | h'
    · exact hdis k hk k h' rfl
    · have := hltA k hk; omega
  · intro k hk
    rcases List.mem_append.1 (hperm'.mem_iff.1 hk) with h' | h'
    · exact h.low k (hperm.mem_iff.2 (List.mem_append_left _ h'))
    · rcases hnew k h' with h2 | h2
      · exact h.low k (hperm.mem_iff.2 (List.mem_append_right _ h2))
      · omega
  · intro hk
    rcases List.mem_append.1 (hperm'.mem_iff.1 hk) with h' | h'
    · exact h.out (hperm.mem_iff.2 (List.mem_append_left _ h'))
    · rcases hnew tb h' with h2 | h2
      · exact h.out (hperm.mem_iff.2 (List.mem_append_right _ h2))
      · have := h.at_.here; omega
  · intro k hk hn
    refine (hset.block k (fun e => hn (e ▸ hsb))).trans (he.block k hk)
  · intro k hk
    rcases List.mem_append.1 (hperm'.mem_iff.1 hk) with h' | h'
    · exact .inl (hperm.mem_iff.2 (List.mem_append_left _ h'))
    · rcases hnew k h' with h2 | h2
      · exact .inl (hperm.mem_iff.2 (List.mem_append_right _ h2))
      · exact .inr h2

end Go.Proofs.YtflbfmfaccaffaaDoor
