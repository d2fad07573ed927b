/-
  The way to a pane: plain data; two rows and what stays beside them.
-/
import Derived.Test.YtflbfmfaccaffaaDoorL5
namespace Go.Proofs.YtflbfmfaccaffaaDoor
open Go Go.RowKit

/-- One step of the way: the node, whether it goes on in the first tree, and the other one. -/
structure Fr where
  b : Nat
  left : Bool
  sib : LT
  across : Bool
  part : Int
def Fr.fill (f : Fr) (s : LT) : LT := if f.left then .node f.b s f.sib f.across f.part else .node f.b f.sib s f.across f.part
/-- A tree within its way (the outermost first). -/
def plug : List Fr → LT → LT
  | [], s => s
  | f :: A, s => f.fill (plug A s)
theorem plug_append (A A2 : List Fr) (s : LT) : plug (A ++ A2) s = plug A (plug A2 s) := by
  induction A with
  | nil => rfl
  | cons f A ih => simp [plug, ih]
def LT.path (p : Int) : LT → List Fr
  | .leaf .. => []
  | .node b x y a k => if p ∈ x.panes then ⟨b, true, y, a, k⟩ :: x.path p else ⟨b, false, x, a, k⟩ :: y.path p
def LT.tip (p : Int) : LT → LT
  | .leaf b q => .leaf b q
  | .node _ x y _ _ => if p ∈ x.panes then x.tip p else y.tip p
def LT.tipBox (p : Int) : LT → Bx → Bx
  | .leaf .., r => r
  | .node _ x y a k, r => if p ∈ x.panes then x.tipBox p (parts a k r).1 else y.tipBox p (parts a k r).2
def LT.bxs (p : Int) : LT → Bx → List Bx
  | .leaf .., _ => []
  | .node _ x y a k, r => r :: (if p ∈ x.panes then x.bxs p (parts a k r).1 else y.bxs p (parts a k r).2)
theorem plug_path (p : Int) : ∀ t : LT, plug (t.path p) (t.tip p) = t
  | .leaf .. => rfl
  | .node b x y a k => by
    by_cases h : p ∈ x.panes
    · simp [LT.path, LT.tip, h, plug, Fr.fill, plug_path p x]
    · simp [LT.path, LT.tip, h, plug, Fr.fill, plug_path p y]
theorem tip_leaf (p : Int) : ∀ t : LT, p ∈ t.panes → ∃ b, t.tip p = .leaf b p
  | .leaf b q, h => by simp [LT.panes] at h; subst h; exact ⟨b, rfl⟩
  | .node b x y a k, h => by
    by_cases hx : p ∈ x.panes
    · simp only [LT.tip, hx, if_true]; exact tip_leaf p x hx
    · simp only [LT.tip, hx, if_false]
      exact tip_leaf p y (by simpa [LT.panes, hx] using h)
theorem tip_form (p : Int) : ∀ t : LT, ∃ b q, t.tip p = .leaf b q
  | .leaf b q => ⟨b, q, rfl⟩
  | .node b x y a k => by
    by_cases hx : p ∈ x.panes
    · simp only [LT.tip, hx, if_true]; exact tip_form p x
    · simp only [LT.tip, hx, if_false]; exact tip_form p y
theorem path_len (p : Int) : ∀ (t : LT) (r : Bx), (t.path p).length = (t.bxs p r).length
  | .leaf .., _ => rfl
  | .node b x y a k, r => by
    by_cases hx : p ∈ x.panes
    · simp [LT.path, LT.bxs, hx, path_len p x (parts a k r).1]
    · simp [LT.path, LT.bxs, hx, path_len p y (parts a k r).2]
theorem path_size (p : Int) : ∀ t : LT, (t.path p).length + 1 ≤ t.size
  | .leaf .. => by simp [LT.path, LT.size]
  | .node b x y a k => by
    have := path_size p x; have := path_size p y
    by_cases hx : p ∈ x.panes <;> simp [LT.path, LT.size, hx] <;> omega

/-- Two rows of the call's own, and blocks that are neither. -/
structure FS (w0 W : World) (B : Nat) (e1 e2 : TypeId) (z1 z2 : Nat) (va vb : Value) (n m : Nat) (xs ys : List Value) (C : List (Nat × Obj)) : Prop where
  ext : Ext w0 W
  low : w0.heap.size ≤ B
  high : B ≤ W.heap.size
  ra : W.ownsRow B e1 z1 va n xs
  rb : W.ownsRow B e2 z2 vb m ys
  kept : ∀ c ∈ C, W.heap[c.1]? = some c.2 ∧ va.ownBlock ≠ some c.1 ∧ vb.ownBlock ≠ some c.1
section
variable {w0 W W2 : World} {B : Nat} {e1 e2 : TypeId} {z1 z2 : Nat} {va vb va' vb' : Value} {n m n' m' : Nat} {xs ys xs' ys' : List Value} {C : List (Nat × Obj)}
theorem FS.later (h : FS w0 W B e1 e2 z1 z2 va vb n m xs ys C) (he : Ext W W2) : FS w0 W2 B e1 e2 z1 z2 va vb n m xs ys C :=
  ⟨h.ext.trans he, h.low, Nat.le_trans h.high he.size, own_ext he h.ra, own_ext he h.rb, fun c hc => ⟨he.blk (h.kept c hc).1, (h.kept c hc).2⟩⟩
theorem FS.less (h : FS w0 W B e1 e2 z1 z2 va vb n m xs ys C) {C2 : List (Nat × Obj)} (hC : ∀ c ∈ C2, c ∈ C) : FS w0 W B e1 e2 z1 z2 va vb n m xs ys C2 :=
  ⟨h.ext, h.low, h.high, h.ra, h.rb, fun c hc => h.kept c (hC c hc)⟩
theorem FS.new (h : FS w0 W B e1 e2 z1 z2 va vb n m xs ys C) (o : Obj) : FS w0 (W.alloc o) B e1 e2 z1 z2 va vb n m xs ys ((W.heap.size, o) :: C) :=
  have h2 := h.later (Ext.alloc W o)
  ⟨h2.ext, h2.low, h2.high, h2.ra, h2.rb, fun c hc => by
    rcases List.mem_cons.1 hc with rfl | hc
    · exact ⟨blk_new _ _, fun h' => by have := (h.ra.lt _ h').2; simp at this, fun h' => by have := (h.rb.lt _ h').2; simp at this⟩
    · exact h2.kept c hc⟩
theorem own_ne_of {e t : TypeId} {size k : Nat} {v : Value} (h : W.ownsRow B e size v n xs) {cs : Array Value} {fr : Nat × Nat} (hg : W.heap[k]? = some (.cells cs t fr)) (hne : e ≠ t) : v.ownBlock ≠ some k := by
  intro hb
  rcases h.2 with ⟨rfl, _⟩ | ⟨g', cap, cur, rfl, _, hh, _⟩
  · cases hb
  · simp only [Value.ownBlock, Option.some.injEq] at hb
    subst hb
    rw [hh] at hg
    simp only [Option.some.injEq, Obj.cells.injEq] at hg
    exact hne hg.2.1
theorem own_apart (h : W.ownsRow B e1 z1 va n xs) (h2 : W.ownsRow B e2 z2 vb m ys) (hne : e1 ≠ e2) : vb.ownBlock = none ∨ vb.ownBlock ≠ va.ownBlock := by
  rcases h2.2 with ⟨rfl, _⟩ | ⟨g', cap, cur, rfl, _, hh, _⟩
  · exact .inl rfl
  · exact .inr fun h' => own_ne_of h hh hne h'.symm
theorem FS.appA (h : FS w0 W B e1 e2 z1 z2 va vb n m xs ys C) (hne : e1 ≠ e2) (hg : W.grownBy W2 va.ownBlock) (ho : W2.ownsRow B e1 z1 va' n' xs')
    (hv : ∀ k, va'.ownBlock = some k → va.ownBlock = some k ∨ k = W.heap.size) : FS w0 W2 B e1 e2 z1 z2 va' vb n' m xs' ys C :=
  ⟨((h.ext.below (Nat.le_refl _)).grown hg h.ext.size (fun k hk => Nat.le_trans h.low (h.ra.lt k hk).1)), h.low, Nat.le_trans h.high hg.size, ho, h.rb.kept hg (own_apart h.ra h.rb hne), fun c hc => by
    obtain ⟨h1, h2, h3⟩ := h.kept c hc
    have hlt := (Array.getElem?_eq_some_iff.1 h1).1
    refine ⟨(hg.block _ hlt (fun e => h2 e.symm)).trans h1, fun h' => ?_, h3⟩
    rcases hv _ h' with h' | h'
    · exact h2 h'
    · omega⟩
theorem FS.swap (h : FS w0 W B e1 e2 z1 z2 va vb n m xs ys C) : FS w0 W B e2 e1 z2 z1 vb va m n ys xs C :=
  ⟨h.ext, h.low, h.high, h.rb, h.ra, fun c hc => ⟨(h.kept c hc).1, (h.kept c hc).2.2, (h.kept c hc).2.1⟩⟩
theorem FS.appB (h : FS w0 W B e1 e2 z1 z2 va vb n m xs ys C) (hne : e1 ≠ e2) (hg : W.grownBy W2 vb.ownBlock) (ho : W2.ownsRow B e2 z2 vb' m' ys')
    (hv : ∀ k, vb'.ownBlock = some k → vb.ownBlock = some k ∨ k = W.heap.size) : FS w0 W2 B e1 e2 z1 z2 va vb' n m' xs ys' C :=
  (h.swap.appA (Ne.symm hne) hg ho hv).swap
/-- A block of four cells among them is written. -/
theorem FS.set4 (h : FS w0 W B e1 e2 z1 z2 va vb n m xs ys C) {k : Nat} {p q r s a b c d : Value} {t : TypeId} (hk : (k, Obj.cells #[p, q, r, s] t (0, 0)) ∈ C) (hlow : w0.heap.size ≤ k) :
    FS w0 (set4 W k a b c d) B e1 e2 z1 z2 va vb n m xs ys [(k, .cells #[a, b, c, d] t (0, 0))] := by
  obtain ⟨h1, h2, h3⟩ := h.kept _ hk
  have hown : ∀ {e : TypeId} {z : Nat} {v : Value} {n : Nat} {xs : List Value}, W.ownsRow B e z v n xs → v.ownBlock ≠ some k → (Proofs.YtflbfmfaccaffaaDoor.set4 W k a b c d).ownsRow B e z v n xs := by
    intro e z v n xs ho hn
    refine ⟨ho.1, ?_⟩
    rcases ho.2 with h2 | ⟨g', cap, cur, rfl, hb2, hh, r⟩
    · exact .inl h2
    · exact .inr ⟨g', cap, cur, rfl, hb2, (set4_far (fun e' => hn (by rw [← e']; rfl))).trans hh, r⟩
  refine ⟨set4_ext h.ext hlow, h.low, by simpa [Proofs.YtflbfmfaccaffaaDoor.set4, World.setCell] using h.high, hown h.ra h2, hown h.rb h3, fun c hc => ?_⟩
  simp only [List.mem_singleton] at hc
  subst hc
  exact ⟨set4_blk h1, h2, h3⟩
end

end Go.Proofs.YtflbfmfaccaffaaDoor
