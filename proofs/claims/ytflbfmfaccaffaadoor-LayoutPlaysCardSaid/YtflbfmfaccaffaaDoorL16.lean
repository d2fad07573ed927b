/-
  Steps that came in; a tree's panes behind Split and Kill.
-/
import Derived.Test.YtflbfmfaccaffaaDoorL15
import Derived.Test.YtflbfmfaccaffaaDoorPick
namespace Go.Proofs.YtflbfmfaccaffaaDoor
open Go Go.RowKit

/-- A raw step. -/
structure Stp where
  what : Int
  a : Int
  b : Int
  across : Bool
  by_ : Int
  rows : Int
  cols : Int
/-- Steps in memory. -/
def StpAt (w : World) (a : Option Addr) (l : List Stp) : Prop :=
  ∀ i (h : i < l.length), ∃ b o, a = some ⟨b, o, none⟩ ∧ w.cell? ⟨b, o + i * 7, none⟩ = some (.int .i64 l[i].what) ∧ w.cell? ⟨b, o + i * 7 + 1, none⟩ = some (.int .i64 l[i].a) ∧
    w.cell? ⟨b, o + i * 7 + 2, none⟩ = some (.int .i64 l[i].b) ∧ w.cell? ⟨b, o + i * 7 + 3, none⟩ = some (.bool l[i].across) ∧ w.cell? ⟨b, o + i * 7 + 4, none⟩ = some (.int .i64 l[i].by_) ∧
    w.cell? ⟨b, o + i * 7 + 5, none⟩ = some (.int .i64 l[i].rows) ∧ w.cell? ⟨b, o + i * 7 + 6, none⟩ = some (.int .i64 l[i].cols)

theorem idx_of (a : Int) (n : Nat) (h : 0 < n) : ∃ i : Nat, a % (n : Int) = i ∧ i < n := by
  have h1 := Int.emod_nonneg a (b := n) (by omega)
  have h2 := Int.emod_lt_of_pos a (b := n) (by omega)
  exact ⟨(a % n).toNat, by omega, by omega⟩

theorem split_cases (t : LT) (p more : Int) (a : Bool) (R : Bx) (b1 b2 : Nat) :
    ((t.split p more a R b1 b2).2 = t ∧ (t.split p more a R b1 b2).1 ≠ 0) ∨
    (p ∈ t.panes ∧ more ∉ t.panes ∧ t.panes.length < 12 ∧ ∃ b k, t.tip p = .leaf b p ∧ plug (t.path p) (.leaf b p) = t ∧ t.split p more a R b1 b2 = (0, plug (t.path p) (.node b (.leaf b1 p) (.leaf b2 more) a k))) := by
  unfold LT.split
  by_cases hp : p ∈ t.panes
  · by_cases hm : more ∈ t.panes
    · simp [hp, hm]
    · by_cases hf : 12 ≤ t.panes.length
      · simp [hp, hm, hf]
      · by_cases hd : wide a (t.tipBox p R) < 3
        · simp [hp, hm, hf, hd]
        · refine .inr ⟨hp, hm, by omega, ?_⟩
          obtain ⟨b, hb⟩ := tip_leaf p t hp
          have hpl := plug_path p t
          rw [hb] at hpl
          exact ⟨b, wide a (t.tipBox p R) / 2, hb, hpl, by simp [hp, hm, hf, hd, hb, LT.b]⟩
  · simp [hp]
/-- What Split does to the panes. -/
theorem split_panes (t : LT) (p more : Int) (a : Bool) (R : Bx) (b1 b2 : Nat) :
    ((t.split p more a R b1 b2).2 = t ∧ (t.split p more a R b1 b2).1 ≠ 0) ∨
    (more ∉ t.panes ∧ t.panes.length < 12 ∧ (t.split p more a R b1 b2).1 = 0 ∧ ∃ l r, t.panes = l ++ p :: r ∧ (t.split p more a R b1 b2).2.panes = l ++ p :: more :: r) := by
  rcases split_cases t p more a R b1 b2 with h | ⟨_, hm, hl, b, k, _, hpl, hs⟩
  · exact .inl h
  · refine .inr ⟨hm, hl, by rw [hs], lp (t.path p), rp (t.path p), ?_, ?_⟩
    · have h := plug_panes (t.path p) (.leaf b p)
      rw [hpl] at h
      simpa [LT.panes] using h
    · rw [hs, plug_panes]; simp [LT.panes]
theorem mem_panes_plug {A : List Fr} {s : LT} {q : Int} (h : q ∈ s.panes) : q ∈ (plug A s).panes := by
  rw [plug_panes]; simp [h]
theorem path_plug {k q : Int} {s : LT} (hq : q ∈ s.panes) : ∀ {t : LT}, q ∉ t.panes → (plug (t.path k) s).path q = t.path k ++ s.path q
  | .leaf .., _ => rfl
  | .node b x y a c, hn => by
    have hnx : q ∉ x.panes := fun h => hn (by simp [LT.panes, h])
    have hny : q ∉ y.panes := fun h => hn (by simp [LT.panes, h])
    by_cases hx : k ∈ x.panes
    · have h1 := path_plug (k := k) hq hnx
      simp only [LT.path, hx, if_true, plug, Fr.fill]
      simp only [LT.path, mem_panes_plug hq, if_true, h1, List.cons_append]
    · have h1 := path_plug (k := k) hq hny
      simp only [LT.path, hx, if_false, plug, Fr.fill, Bool.false_eq_true]
      simp only [LT.path, hnx, if_false, h1, List.cons_append]
/-- What was split off is killed: the tree is as it was. -/
theorem split_kill (t : LT) (p more : Int) (b b1 b2 : Nat) (a : Bool) (k : Int) (hne : more ≠ p) (hm : more ∉ t.panes) (hpl : plug (t.path p) (.leaf b p) = t) :
    (plug (t.path p) (.node b (.leaf b1 p) (.leaf b2 more) a k)).kill more = (0, t) := by
  have hq : more ∈ (LT.node b (.leaf b1 p) (.leaf b2 more) a k).panes := by simp [LT.panes]
  have hpath := path_plug (k := p) hq hm
  have h1 : (LT.node b (.leaf b1 p) (.leaf b2 more) a k).path more = [⟨b, false, .leaf b1 p, a, k⟩] := by simp [LT.path, LT.panes, hne]
  rw [h1] at hpath
  have hleaf : (plug (t.path p) (.node b (.leaf b1 p) (.leaf b2 more) a k)).isLeaf = false := by
    cases h2 : t.path p with
    | nil => rfl
    | cons f A => simp only [plug, Fr.fill]; split <;> rfl
  simp [LT.kill, mem_panes_plug hq, hleaf, cut_eq hpath, LT.reb, hpl]

end Go.Proofs.YtflbfmfaccaffaaDoor
