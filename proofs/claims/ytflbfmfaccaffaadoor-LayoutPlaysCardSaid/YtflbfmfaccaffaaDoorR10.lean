/-
  The program's tree beside the document's.
-/
import Derived.Test.YtflbfmfaccaffaaDoorR9
import Derived.Test.YtflbfmfaccaffaaDoorL18
import Derived.Test.YtflbfmfaccaffaaDoorRegR
namespace Go.Proofs.YtflbfmfaccaffaaDoor
open Go Go.RowKit

theorem grow_panes (t : LT) (p : Int) (a : Bool) (by_ : Int) (R : Bx) : (t.grow p a by_ R).2.panes = t.panes := by
  unfold LT.grow
  by_cases hp : p ∈ t.panes
  · simp only [hp, not_true_eq_false, if_false]
    cases hg : gAt a (t.path p) (t.path p).length with
    | none => rfl
    | some i =>
      obtain ⟨_, f, hf, _⟩ := gAt_some hg
      simp only [hf]
      cases hb : (t.bxs p R)[i]? with
      | none => rfl
      | some bx =>
        simp only []
        split
        · rfl
        · simp only []
          rw [grown_plug (t := t), plug_panes]
          have h5 := plug_panes ((t.path p).take i) (.node f.b (f.fst (plug ((t.path p).drop (i + 1)) (t.tip p))) (f.snd (plug ((t.path p).drop (i + 1)) (t.tip p))) f.across f.part)
          rw [frame_eq (plug_path p t) hf] at h5
          exact h5.symm
  · simp [hp]

theorem split_nodup {t : LT} (h : t.panes.Nodup) (p more : Int) (a : Bool) (R : Bx) (b1 b2 : Nat) : (t.split p more a R b1 b2).2.panes.Nodup := by
  rcases split_panes t p more a R b1 b2 with ⟨h1, _⟩ | ⟨hm, _, _, l, r, h1, h2⟩
  · rw [h1]; exact h
  · rw [h2]
    rw [h1] at h hm
    simp only [List.nodup_append, List.nodup_cons, List.mem_cons, List.mem_append, not_or] at h hm ⊢
    refine ⟨h.1, ⟨⟨fun e => hm.2.1 e.symm, h.2.1.1⟩, hm.2.2, h.2.1.2⟩, fun x hx y hy => ?_⟩
    rcases hy with rfl | rfl | hy
    · exact h.2.2 x hx y (.inl rfl)
    · rintro rfl; exact hm.1 hx
    · exact h.2.2 x hx y (.inr hy)
theorem kill_nodup {t : LT} (h : t.panes.Nodup) (p : Int) : (t.kill p).2.panes.Nodup := by
  by_cases hp : p ∈ t.panes
  · by_cases hl : 1 < t.panes.length
    · obtain ⟨_, l, r, h1, h2⟩ := kill_panes hp hl
      rw [h2]; rw [h1] at h
      simp only [List.nodup_append, List.nodup_cons, List.mem_cons] at h ⊢
      exact ⟨h.1, h.2.1.2, fun x hx y hy => h.2.2 x hx y (.inr hy)⟩
    · have hlf : t.isLeaf = true := by
        cases t with
        | leaf => rfl
        | node b x y a k => have := panes_pos x; have := panes_pos y; simp [LT.panes] at hl; omega
      simp only [LT.kill, hp, hlf, not_true_eq_false, if_false, if_true]; exact h
  · simp only [LT.kill, hp, not_false_eq_true, if_true]; exact h
theorem swap_nodup {t : LT} (h : t.panes.Nodup) (a b : Int) : (t.swap a b).2.panes.Nodup := by
  unfold LT.swap
  split
  · exact h
  · rw [ren_panes]; exact sw_nodup h

/-- Two trees in one memory, apart. -/
structure Duo (w0 W : World) (tb : Nat) (t u : LT) : Prop where
  ext : Ext w0 W
  tr : Tr w0.heap.size W tb t
  rt : RTr w0.heap.size W u
  apart : ∀ k ∈ u.blocks, k ∉ t.blocks
  tbo : tb ∉ u.blocks
section
variable {w0 W W2 : World} {tb rb : Nat} {t u t2 u2 : LT}
theorem Duo.later (h : Duo w0 W tb t u) (he : Ext W W2) : Duo w0 W2 tb t u := ⟨h.ext.trans he, h.tr.ext he, h.rt.ext he, h.apart, h.tbo⟩
theorem Duo.left (h : Duo w0 W tb t u) (hw : Wr t t2 W W2) (ht : Tr w0.heap.size W2 tb t2) : Duo w0 W2 tb t2 u :=
  have h5 := h.rt.keep hw h.apart
  ⟨Below.trans h.ext (hw.below h.tr.low h.ext.size), ht, h5.1, h5.2, h.tbo⟩
theorem Duo.right (h : Duo w0 W tb t u) (hw : Wr u u2 W W2) (ht : RTr w0.heap.size W2 u2) : Duo w0 W2 tb t u2 :=
  have h5 := h.tr.keep hw h.apart h.tbo
  ⟨Below.trans h.ext (hw.below h.rt.low h.ext.size), h5.1, ht, h5.2.1, h5.2.2⟩
theorem Duo.start (h : St w0 W tb t) : Duo w0 (W.alloc (.cells #[.int .i64 0, .bool false, .int .i64 0, .pointer none, .pointer none] 48 (0, 0))) tb t (.leaf W.heap.size 0) :=
  ⟨h.ext.alloc' _, h.tr.ext (Ext.alloc _ _), ⟨blk_new _ _, ⟨by decide, by decide⟩, by simp [LT.blocks], fun k hk => by simp [LT.blocks] at hk; subst hk; exact h.ext.size, by simp [LT.panes]⟩,
    fun k hk hk' => by simp [LT.blocks] at hk; subst hk; exact absurd (h.tr.at_.at_.lt _ hk') (by omega),
    fun hk => by simp [LT.blocks] at hk; have := h.tr.at_.here; omega⟩

/-- The same tree, but for its blocks. -/
structure Pair (w0 W : World) (tb rb : Nat) (t u : LT) : Prop where
  duo : Duo w0 W tb t u
  same : t.bare = u.bare
  root : u.b = rb
  nodup : t.panes.Nodup
theorem Pair.later (h : Pair w0 W tb rb t u) (he : Ext W W2) : Pair w0 W2 tb rb t u := ⟨h.duo.later he, h.same, h.root, h.nodup⟩
theorem Pair.panes_eq (h : Pair w0 W tb rb t u) : u.panes = t.panes := by rw [← bare_panes, ← h.same, bare_panes]
theorem Pair.places_eq (h : Pair w0 W tb rb t u) (R : Bx) : u.places R = t.places R := by rw [← bare_places, ← h.same, bare_places]
theorem Pair.borders_eq (h : Pair w0 W tb rb t u) (R : Bx) : u.borders R = t.borders R := by
  have h5 : u.lines R = t.lines R := by rw [← bare_lines, ← h.same, bare_lines]
  simp only [LT.borders, h5]
theorem Pair.text_eq (h : Pair w0 W tb rb t u) : u.text = t.text := by rw [← bare_text, ← h.same, bare_text]

theorem Pair.panes_l (h : Pair w0 W tb rb t u) :
    Calls Tryd.prog 15 #[.pointer (some ⟨tb, 0, none⟩)] W fun e w' => ∃ v, e = .returned v ∧ w'.ownsRow W.heap.size 3 1 v t.panes.length (t.panes.map (Value.int .i64)) ∧ Ext W w' :=
  Panes_any tb t W h.duo.tr.at_
theorem Pair.panes_r (h : Pair w0 W tb rb t u) :
    Calls Tryd.prog 26 #[.pointer (some ⟨rb, 0, none⟩)] W fun e w' => ∃ v, e = .returned v ∧ w'.ownsRow W.heap.size 3 1 v t.panes.length (t.panes.map (Value.int .i64)) ∧ Ext W w' := by
  have h5 := rpanes_any u W h.duo.rt.at_ h.duo.rt.size
  rw [h.panes_eq, h.root] at h5
  exact h5
theorem Pair.places_l (h : Pair w0 W tb rb t u) (rows cols : Int) (h1 : rows ≤ 1000000) (h2 : cols ≤ 1000000) :
    Calls Tryd.prog 14 #[.pointer (some ⟨tb, 0, none⟩), .int .i64 rows, .int .i64 cols] W fun e w' => ∃ v, e = .returned v ∧ w'.ownsRow W.heap.size 32 4 v (t.places (allB rows cols)).length ((t.places (allB rows cols)).flatMap Bx.vals) ∧ Ext W w' := by
  have h5 := Places_any tb t rows cols W h.duo.tr.at_ h1 h2
  rw [panes_len t (allB rows cols)] at h5
  exact h5
theorem Pair.places_r (h : Pair w0 W tb rb t u) (rows cols : Int) (h1 : rows ≤ 1000000) (h2 : cols ≤ 1000000) :
    Calls Tryd.prog 28 #[.pointer (some ⟨rb, 0, none⟩), .int .i64 rows, .int .i64 cols] W fun e w' => ∃ v, e = .returned v ∧ w'.ownsRow W.heap.size 32 4 v (t.places (allB rows cols)).length ((t.places (allB rows cols)).flatMap Bx.vals) ∧ Ext W w' := by
  have h5 := Placesr_any u rows cols W h.duo.rt.at_ h.duo.rt.size h1 h2
  rw [h.places_eq, h.root] at h5
  exact h5
theorem Pair.borders_l (h : Pair w0 W tb rb t u) (rows cols : Int) (h1 : rows ≤ 1000000) (h2 : cols ≤ 1000000) :
    Calls Tryd.prog 21 #[.pointer (some ⟨tb, 0, none⟩), .int .i64 rows, .int .i64 cols] W fun e w' => ∃ v, e = .returned v ∧ w'.ownsRow W.heap.size 32 4 v (t.borders (allB rows cols)).length ((t.borders (allB rows cols)).flatMap Bx.vals) ∧ Ext W w' :=
  Borders_any tb t rows cols W h.duo.tr.at_ h1 h2
theorem Pair.borders_r (h : Pair w0 W tb rb t u) (rows cols : Int) (h1 : rows ≤ 1000000) (h2 : cols ≤ 1000000) :
    Calls Tryd.prog 29 #[.pointer (some ⟨rb, 0, none⟩), .int .i64 rows, .int .i64 cols] W fun e w' => ∃ v, e = .returned v ∧ w'.ownsRow W.heap.size 32 4 v (t.borders (allB rows cols)).length ((t.borders (allB rows cols)).flatMap Bx.vals) ∧ Ext W w' := by
  have h5 := Bordersr_any u rows cols W h.duo.rt.at_ h.duo.rt.size h1 h2
  rw [h.borders_eq, h.root] at h5
  exact h5
theorem Pair.text_l (h : Pair w0 W tb rb t u) (hT : TabW w0) : Calls Tryd.prog 16 #[.pointer (some ⟨tb, 0, none⟩)] W fun e w' => e = .returned (str t.text) ∧ Ext W w' :=
  String_any tb t W h.duo.tr.at_ (hT.later h.duo.ext)
theorem Pair.text_r (h : Pair w0 W tb rb t u) : Calls Tryd.prog 27 #[.pointer (some ⟨rb, 0, none⟩)] W fun e w' => e = .returned (str t.text) ∧ Ext W w' := by
  have h5 := rtext_any u W h.duo.rt.at_ h.duo.rt.small h.duo.rt.size
  rw [h.text_eq, h.root] at h5
  exact h5
theorem Pair.has (h : Pair w0 W tb rb t u) (p : Int) : Calls Tryd.prog 19 #[.pointer (some ⟨tb, 0, none⟩), .int .i64 p] W fun e w' => e = .returned (.bool (decide (p ∈ t.panes))) ∧ Ext W w' :=
  Has_any tb t p W h.duo.tr.at_

/-- Between the program's call and the document's: what is left to do. -/
structure Half (w0 W : World) (tb rb : Nat) (c : Int) (t u u2 : LT) (c2 : Int) : Prop where
  duo : Duo w0 W tb t u
  code : c = c2
  same : t.bare = u2.bare
  root : u.b = rb
  nodup : t.panes.Nodup
  nodupu : u.panes.Nodup
theorem Half.later {c c2 : Int} (h : Half w0 W tb rb c t u u2 c2) (he : Ext W W2) : Half w0 W2 tb rb c t u u2 c2 := ⟨h.duo.later he, h.code, h.same, h.root, h.nodup, h.nodupu⟩
theorem Half.done {c c2 : Int} (h : Half w0 W tb rb c t u u2 c2) (hu : RTr w0.heap.size W2 u2) (hw : Wr u u2 W W2) (hb : u2.b = u.b) : Pair w0 W2 tb rb t u2 := ⟨h.duo.right hw hu, h.same, hb.trans h.root, h.nodup⟩

theorem Pair.kill_l (h : Pair w0 W tb rb t u) (p : Int) :
    Calls Tryd.prog 17 #[.pointer (some ⟨tb, 0, none⟩), .int .i64 p] W fun e w' => ∃ c t2, e = .returned (.int .i64 c) ∧ Half w0 w' tb rb c t2 u (u.kill p).2 (u.kill p).1 ∧ Wr t t2 W w' := by
  refine (Kill_any _ tb t p W h.duo.tr h.duo.ext.size).mono ?_
  rintro e w' ⟨rfl, hT, hW⟩
  have h1 := kill_bare t p
  have h2 := kill_bare u p
  rw [h.same] at h1
  exact ⟨_, _, rfl, ⟨h.duo.left hW hT, h1.1.trans h2.1.symm, h1.2.trans h2.2.symm, h.root, kill_nodup h.nodup p, by rw [h.panes_eq]; exact h.nodup⟩, hW⟩
theorem Half.kill_r {c : Int} {p : Int} (h : Half w0 W tb rb c t u (u.kill p).2 (u.kill p).1) :
    Calls Tryd.prog 22 #[.pointer (some ⟨rb, 0, none⟩), .int .i64 p] W fun e w' => ∃ u2, e = .returned (.int .i64 c) ∧ Pair w0 w' tb rb t u2 ∧ Wr u u2 W w' := by
  have h5 := rKill_any _ u p W h.duo.rt h.duo.ext.size h.nodupu
  rw [h.root, ← h.code] at h5
  refine h5.mono ?_
  rintro e w' ⟨rfl, hT, hW, hb⟩
  exact ⟨_, rfl, h.done hT hW (hb.trans h.root.symm), hW⟩
theorem Pair.swap_l (h : Pair w0 W tb rb t u) (a b : Int) :
    Calls Tryd.prog 18 #[.pointer (some ⟨tb, 0, none⟩), .int .i64 a, .int .i64 b] W fun e w' => ∃ c t2, e = .returned (.int .i64 c) ∧ Half w0 w' tb rb c t2 u (u.swap a b).2 (u.swap a b).1 ∧ Wr t t2 W w' := by
  refine (Swap_any _ tb t a b W h.duo.tr h.duo.ext.size h.nodup).mono ?_
  rintro e w' ⟨rfl, hT, hW⟩
  have h1 := swap_bare t a b
  have h2 := swap_bare u a b
  rw [h.same] at h1
  exact ⟨_, _, rfl, ⟨h.duo.left hW hT, h1.1.trans h2.1.symm, h1.2.trans h2.2.symm, h.root, swap_nodup h.nodup a b, by rw [h.panes_eq]; exact h.nodup⟩, hW⟩
theorem Half.swap_r {c : Int} {a b : Int} (h : Half w0 W tb rb c t u (u.swap a b).2 (u.swap a b).1) :
    Calls Tryd.prog 23 #[.pointer (some ⟨rb, 0, none⟩), .int .i64 a, .int .i64 b] W fun e w' => ∃ u2, e = .returned (.int .i64 c) ∧ Pair w0 w' tb rb t u2 ∧ Wr u u2 W w' := by
  have h5 := rSwap_any _ u a b W h.duo.rt h.duo.ext.size h.nodupu
  rw [h.root, ← h.code] at h5
  refine h5.mono ?_
  rintro e w' ⟨rfl, hT, hW, hb⟩
  exact ⟨_, rfl, h.done hT hW (hb.trans h.root.symm), hW⟩
theorem Pair.grow_l (h : Pair w0 W tb rb t u) (p by_ rows cols : Int) (across : Bool) (h1 : rows ≤ 1000000) (h2 : cols ≤ 1000000) :
    Calls Tryd.prog 12 #[.pointer (some ⟨tb, 0, none⟩), .int .i64 p, .bool across, .int .i64 by_, .int .i64 rows, .int .i64 cols] W fun e w' => ∃ c t2, e = .returned (.int .i64 c) ∧ Half w0 w' tb rb c t2 u (u.grow p across by_ (allB rows cols)).2 (u.grow p across by_ (allB rows cols)).1 ∧ Wr t t2 W w' := by
  refine (Grow_any _ tb t p by_ rows cols across W h.duo.tr h1 h2 h.duo.ext.size).mono ?_
  rintro e w' ⟨rfl, hT, hW⟩
  have h1 := grow_bare t p across by_ (allB rows cols)
  have h2 := grow_bare u p across by_ (allB rows cols)
  rw [h.same] at h1
  exact ⟨_, _, rfl, ⟨h.duo.left hW hT, h1.1.trans h2.1.symm, h1.2.trans h2.2.symm, h.root, by rw [grow_panes]; exact h.nodup, by rw [h.panes_eq]; exact h.nodup⟩, hW⟩
theorem Half.grow_r {c : Int} {p by_ rows cols : Int} {across : Bool} (h1 : rows ≤ 1000000) (h2 : cols ≤ 1000000) (h : Half w0 W tb rb c t u (u.grow p across by_ (allB rows cols)).2 (u.grow p across by_ (allB rows cols)).1) :
    Calls Tryd.prog 24 #[.pointer (some ⟨rb, 0, none⟩), .int .i64 p, .bool across, .int .i64 by_, .int .i64 rows, .int .i64 cols] W fun e w' => ∃ u2, e = .returned (.int .i64 c) ∧ Pair w0 w' tb rb t u2 ∧ Wr u u2 W w' := by
  have h5 := rGrow_any _ u p rows cols by_ across W h.duo.rt h.duo.ext.size h1 h2
  rw [h.root, ← h.code] at h5
  refine h5.mono ?_
  rintro e w' ⟨rfl, hT, hW, hb⟩
  exact ⟨_, rfl, h.done hT hW (hb.trans h.root.symm), hW⟩
theorem Pair.split_l (h : Pair w0 W tb rb t u) (p more rows cols : Int) (across : Bool) (h1 : rows ≤ 1000000) (h2 : cols ≤ 1000000) (hm : -9223372036854775808 ≤ more ∧ more ≤ 9223372036854775807) :
    Calls Tryd.prog 13 #[.pointer (some ⟨tb, 0, none⟩), .int .i64 p, .int .i64 more, .bool across, .int .i64 rows, .int .i64 cols] W fun e w' => ∃ c t2, e = .returned (.int .i64 c) ∧ Half w0 w' tb rb c t2 u (u.bare.split p more across (allB rows cols) 0 0).2 (u.bare.split p more across (allB rows cols) 0 0).1 ∧ Wr t t2 W w' := by
  refine (Split_any _ tb t p more rows cols across W h.duo.tr h1 h2 hm h.duo.ext.size).mono ?_
  rintro e w' ⟨b1, b2, rfl, hT, hW⟩
  have h1 := split_bare t p more across (allB rows cols) b1 b2
  have h2 := split_bare u.bare p more across (allB rows cols) 0 0
  rw [h.same] at h1
  rw [bare_bare] at h2
  exact ⟨_, _, rfl, ⟨h.duo.left hW hT, h1.1, h1.2.trans h2.2.symm, h.root, split_nodup h.nodup p more across _ b1 b2, by rw [h.panes_eq]; exact h.nodup⟩, hW⟩
theorem Half.split_r {c : Int} {p more rows cols : Int} {across : Bool} (h1 : rows ≤ 1000000) (h2 : cols ≤ 1000000) (hm : -9223372036854775808 ≤ more ∧ more ≤ 9223372036854775807) (h : Half w0 W tb rb c t u (u.bare.split p more across (allB rows cols) 0 0).2 (u.bare.split p more across (allB rows cols) 0 0).1) :
    Calls Tryd.prog 25 #[.pointer (some ⟨rb, 0, none⟩), .int .i64 p, .int .i64 more, .bool across, .int .i64 rows, .int .i64 cols] W fun e w' => ∃ u2, e = .returned (.int .i64 c) ∧ Pair w0 w' tb rb t u2 ∧ Wr u u2 W w' := by
  have h5 := rSplit_any _ u p more rows cols across W h.duo.rt h1 h2 hm h.duo.ext.size
  rw [h.root] at h5
  refine h5.mono ?_
  rintro e w' ⟨b1, b2, rfl, hT, hW, hb⟩
  have h3 := split_bare u p more across (allB rows cols) b1 b2
  have h4 := split_bare u.bare p more across (allB rows cols) 0 0
  rw [bare_bare] at h4
  exact ⟨_, by rw [h3.1, ← h.code], ⟨h.duo.right hW hT, h.same.trans (h4.2.trans h3.2.symm), hb, h.nodup⟩, hW⟩

/-- A block that is of neither tree stays. -/
theorem Wr.keeps {b : Nat} (h : Wr t t2 W W2) (hb : b ∉ t.blocks) : Keeps b W W2 := fun hlt => ⟨Nat.lt_of_lt_of_le hlt h.size, h.block b hlt hb⟩
end

theorem mem_take_succ {l : List Int} {j : Nat} {a : Int} (h : j < l.length) : (a ∈ l.take (j + 1)) ↔ (a ∈ l.take j ∨ l[j] = a) := by
  rw [List.take_add_one, List.getElem?_eq_getElem h, List.mem_append]
  show _ ∨ a ∈ [l[j]] ↔ _
  rw [List.mem_singleton]
  constructor
  · rintro (h1 | h1)
    · exact .inl h1
    · exact .inr h1.symm
  · rintro (h1 | h1)
    · exact .inl h1
    · exact .inr h1.symm

end Go.Proofs.YtflbfmfaccaffaaDoor
