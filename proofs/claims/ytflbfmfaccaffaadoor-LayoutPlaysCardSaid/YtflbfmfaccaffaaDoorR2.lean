/-
  Trees but for their blocks.
-/
import Derived.Test.YtflbfmfaccaffaaDoorL16
namespace Go.Proofs.YtflbfmfaccaffaaDoor
open Go Go.RowKit

def LT.bare : LT → LT
  | .leaf _ p => .leaf 0 p
  | .node _ x y a k => .node 0 x.bare y.bare a k
def Fr.bare (f : Fr) : Fr := { f with b := 0, sib := f.sib.bare }
theorem bare_panes : ∀ t : LT, t.bare.panes = t.panes
  | .leaf .. => rfl
  | .node b x y a k => by simp [LT.bare, LT.panes, bare_panes x, bare_panes y]
theorem bare_size : ∀ t : LT, t.bare.size = t.size
  | .leaf .. => rfl
  | .node b x y a k => by simp [LT.bare, LT.size, bare_size x, bare_size y]
theorem bare_places : ∀ (t : LT) (r : Bx), t.bare.places r = t.places r
  | .leaf .., _ => rfl
  | .node b x y a k, r => by simp [LT.bare, LT.places, bare_places x, bare_places y]
theorem bare_lines : ∀ (t : LT) (r : Bx), t.bare.lines r = t.lines r
  | .leaf .., _ => rfl
  | .node b x y a k, r => by simp [LT.bare, LT.lines, bare_lines x, bare_lines y]
theorem bare_text : ∀ t : LT, t.bare.text = t.text
  | .leaf .. => rfl
  | .node b x y a k => by simp [LT.bare, LT.text, bare_text x, bare_text y]
theorem bare_leaf : ∀ t : LT, t.bare.isLeaf = t.isLeaf
  | .leaf .. => rfl
  | .node .. => rfl
theorem bare_bare : ∀ t : LT, t.bare.bare = t.bare
  | .leaf .. => rfl
  | .node b x y a k => by simp [LT.bare, bare_bare x, bare_bare y]
theorem bare_path (p : Int) : ∀ t : LT, t.bare.path p = (t.path p).map Fr.bare
  | .leaf .. => rfl
  | .node b x y a k => by
    by_cases h : p ∈ x.panes
    · simp [LT.bare, LT.path, bare_panes, h, bare_path p x, Fr.bare]
    · simp [LT.bare, LT.path, bare_panes, h, bare_path p y, Fr.bare]
theorem bare_tip (p : Int) : ∀ t : LT, t.bare.tip p = (t.tip p).bare
  | .leaf .. => rfl
  | .node b x y a k => by
    by_cases h : p ∈ x.panes
    · simp [LT.bare, LT.tip, bare_panes, h, bare_tip p x]
    · simp [LT.bare, LT.tip, bare_panes, h, bare_tip p y]
theorem bare_tipBox (p : Int) : ∀ (t : LT) (r : Bx), t.bare.tipBox p r = t.tipBox p r
  | .leaf .., _ => rfl
  | .node b x y a k, r => by
    by_cases h : p ∈ x.panes
    · simp [LT.bare, LT.tipBox, bare_panes, h, bare_tipBox p x]
    · simp [LT.bare, LT.tipBox, bare_panes, h, bare_tipBox p y]
theorem bare_bxs (p : Int) : ∀ (t : LT) (r : Bx), t.bare.bxs p r = t.bxs p r
  | .leaf .., _ => rfl
  | .node b x y a k, r => by
    by_cases h : p ∈ x.panes
    · simp [LT.bare, LT.bxs, bare_panes, h, bare_bxs p x]
    · simp [LT.bare, LT.bxs, bare_panes, h, bare_bxs p y]
theorem bare_fill (f : Fr) (s : LT) : (f.fill s).bare = f.bare.fill s.bare := by
  cases hf : f.left <;> simp [Fr.fill, Fr.bare, hf, LT.bare]
theorem bare_plug (s : LT) : ∀ A : List Fr, (plug A s).bare = plug (A.map Fr.bare) s.bare
  | [] => rfl
  | f :: A => by simp [plug, bare_fill, bare_plug s A]
theorem bare_b : ∀ t : LT, t.bare.b = 0
  | .leaf .. => rfl
  | .node .. => rfl
theorem bare_reb (b : Nat) : ∀ t : LT, (t.reb b).bare = (t.bare).reb 0
  | .leaf .. => rfl
  | .node .. => rfl

theorem split_bare (t : LT) (p more : Int) (a : Bool) (R : Bx) (b1 b2 : Nat) : (t.split p more a R b1 b2).1 = (t.bare.split p more a R 0 0).1 ∧ (t.split p more a R b1 b2).2.bare = (t.bare.split p more a R 0 0).2 := by
  unfold LT.split
  rw [bare_panes, bare_tipBox, bare_path, bare_tip, bare_b]
  repeat' split
  all_goals first
    | exact ⟨rfl, rfl⟩
    | (refine ⟨rfl, ?_⟩; rw [bare_plug]; rfl)
theorem kill_bare (t : LT) (p : Int) : (t.kill p).1 = (t.bare.kill p).1 ∧ (t.kill p).2.bare = (t.bare.kill p).2 := by
  unfold LT.kill
  rw [bare_panes, bare_leaf]
  have hc : (t.cut p).bare = t.bare.cut p := by
    unfold LT.cut
    rw [bare_path, List.getLast?_map]
    cases h : (t.path p).getLast? with
    | none => simp
    | some f =>
      simp only [Option.map_some]
      rw [bare_plug, bare_reb, List.map_dropLast]
      rfl
  repeat' split
  all_goals first
    | exact ⟨rfl, rfl⟩
    | exact ⟨rfl, hc⟩
theorem ren_bare (σ : Int → Int) : ∀ t : LT, (t.ren σ).bare = t.bare.ren σ
  | .leaf .. => rfl
  | .node b x y a k => by simp [LT.ren, LT.bare, ren_bare σ x, ren_bare σ y]
theorem swap_bare (t : LT) (a b : Int) : (t.swap a b).1 = (t.bare.swap a b).1 ∧ (t.swap a b).2.bare = (t.bare.swap a b).2 := by
  unfold LT.swap
  rw [bare_panes]
  split
  · exact ⟨rfl, rfl⟩
  · exact ⟨rfl, ren_bare _ _⟩
theorem gAt_bare (a : Bool) (A : List Fr) : ∀ n, gAt a (A.map Fr.bare) n = gAt a A n
  | 0 => rfl
  | n + 1 => by
    unfold gAt
    rw [gAt_bare a A n, List.getElem?_map]
    cases A[n]? <;> rfl
theorem grow_bare (t : LT) (p : Int) (a : Bool) (by_ : Int) (R : Bx) : (t.grow p a by_ R).1 = (t.bare.grow p a by_ R).1 ∧ (t.grow p a by_ R).2.bare = (t.bare.grow p a by_ R).2 := by
  unfold LT.grow
  rw [bare_panes, bare_path, bare_bxs, bare_tip, List.length_map, gAt_bare]
  split
  · exact ⟨rfl, rfl⟩
  · cases gAt a (t.path p) (t.path p).length with
    | none => exact ⟨rfl, rfl⟩
    | some i =>
      simp only [List.getElem?_map]
      cases (t.path p)[i]? with
      | none => exact ⟨rfl, rfl⟩
      | some f =>
        cases (t.bxs p R)[i]? with
        | none => exact ⟨rfl, rfl⟩
        | some bx =>
          simp only [Option.map_some]
          by_cases hd : wide f.across bx < 3
          · have hd' : wide f.bare.across bx < 3 := hd
            rw [if_pos hd, if_pos hd']; exact ⟨rfl, rfl⟩
          · have hd' : ¬ wide f.bare.across bx < 3 := hd
            rw [if_neg hd, if_neg hd']
            refine ⟨rfl, ?_⟩
            simp only [bare_plug, List.map_append, List.map_cons, List.map_take, List.map_drop]
            rfl

end Go.Proofs.YtflbfmfaccaffaaDoor
