/-
  Terms of raw ones, as plain data; slices in boxes.
-/
import Derived.Test.YtegmnbcfanjocaaAt
import Derived.Deep.DeepCutAuto
import Derived.Deep.CutBlock
import Derived.Shelf.Abstract
namespace Go.Proofs.Ytegmnbcfanjocaa
open Go Go.RowKit
attribute [local go_sem] extUpon run_store_tm
attribute [local go_sem ↓] Tm.val_cell eval_put_ne eval_put_none eval_put_same size_put eval_const

theorem Boxed.ext {w w1 : World} (h : Ext w w1) {base B : Nat} {bt e : TypeId} {v : Value} {xs : List Value} (ho : Boxed w base B bt e v xs) : Boxed w1 base B bt e v xs :=
  ⟨h.blk ho.blk, own_ext h ho.own⟩

/-- The row of one box is none of another one's blocks. -/
theorem own_ne {w : World} {base : Nat} {e t : TypeId} {size n g : Nat} {v : Value} {xs : List Value} {cs : Array Value} (h : w.ownsRow base e size v n xs) (hg : w.heap[g]? = some (.cells cs t (0, 0))) (hne : e ≠ t) : v.ownBlock ≠ some g := by
  intro hb
  rcases h.2 with ⟨rfl, _⟩ | ⟨g', cap, cur, rfl, _, hh, _⟩
  · cases hb
  · simp only [Value.ownBlock, Option.some.injEq] at hb
    subst hb
    rw [hh] at hg
    simp only [Option.some.injEq, Obj.cells.injEq] at hg
    exact hne hg.2.1

theorem grown_blk {w w1 : World} {row : Option Nat} (hg : w.grownBy w1 row) {B : Nat} {o : Obj} (hb : w.heap[B]? = some o) (hne : row ≠ some B) : w1.heap[B]? = some o :=
  (hg.block B (Array.getElem?_eq_some_iff.1 hb).1 (fun h => hne h.symm)).trans hb
theorem set_blk_far {w : World} {B : Nat} {o : Obj} (hb : w.heap[B]? = some o) {p : Addr} (hp : B ≠ p.block) (u : Value) : (w.setCell p u).heap[B]? = some o :=
  (Below.heap_setCell w p u B hp).trans hb
theorem set_blk {w : World} {B : Nat} {v : Value} {t : TypeId} {fr : Nat × Nat} (hb : w.heap[B]? = some (.cells #[v] t fr)) (u : Value) : (w.setCell ⟨B, 0, none⟩ u).heap[B]? = some (.cells #[u] t fr) := by
  simp [World.setCell, Array.getElem?_modify, hb]
theorem own_set {w : World} {base : Nat} {e : TypeId} {size n : Nat} {v : Value} {xs : List Value} (h : w.ownsRow base e size v n xs) {p : Addr} (hne : v.ownBlock ≠ some p.block) (u : Value) : (w.setCell p u).ownsRow base e size v n xs := by
  refine ⟨h.1, ?_⟩
  rcases h.2 with h2 | ⟨g, cap, cur, rfl, hb, hh, r⟩
  · exact .inl h2
  · exact .inr ⟨g, cap, cur, rfl, hb, set_blk_far hh (fun e => hne (by rw [← e]; rfl)) u, r⟩

theorem blk_frozen {w : World} {B j : Nat} {cs : Array Value} {t : TypeId} (hb : w.heap[B]? = some (.cells cs t (0, 0))) : w.frozen? ⟨B, j, none⟩ = false := by
  simp [World.frozen?, hb]
theorem Boxed.cell {w : World} {base B : Nat} {bt e : TypeId} {v : Value} {xs : List Value} (h : Boxed w base B bt e v xs) : w.cell? ⟨B, 0, none⟩ = some v := cell_blk h.blk rfl
/-- The box behind an append onto its slice. -/
theorem Boxed.grown {w w1 : World} {base B : Nat} {bt e : TypeId} {v : Value} {xs : List Value} (h : Boxed w base B bt e v xs) (hne : e ≠ bt) (hg : w.grownBy w1 v.ownBlock) :
    w1.cell? ⟨B, 0, none⟩ = some v ∧ w1.frozen? ⟨B, 0, none⟩ = false :=
  have hb := grown_blk hg h.blk (own_ne h.own h.blk hne)
  ⟨cell_blk hb rfl, blk_frozen hb⟩

/-- An append onto the boxed slice, and its store. -/
theorem Boxed.app {W w1 : World} {base B : Nat} {bt e : TypeId} {v v' : Value} {xs : List Value} {x : Value} {n : Nat} (h : Boxed W base B bt e v xs) (hne : e ≠ bt)
    (hg : W.grownBy w1 v.ownBlock) (ho : w1.ownsRow base e 1 v' (n + 1) (xs ++ [x])) (hn : n = xs.length) : Boxed (w1.setCell ⟨B, 0, none⟩ v') base B bt e v' (xs ++ [x]) := by
  have h1 := grown_blk hg h.blk (own_ne h.own h.blk hne)
  refine ⟨set_blk h1 _, ?_⟩
  rw [List.length_append, List.length_singleton, ← hn]
  exact own_set ho (own_ne ho h1 hne) _
/-- Another box meanwhile. -/
theorem Boxed.other {W w1 : World} {base B B2 : Nat} {bt e bt2 e2 : TypeId} {v v' v2 : Value} {xs xs2 : List Value} (h : Boxed W base B bt e v xs) (h2 : Boxed W base B2 bt2 e2 v2 xs2)
    (hg : W.grownBy w1 v.ownBlock) (he : e ≠ bt) (h12 : e ≠ bt2) (hee : e ≠ e2) (he2 : e2 ≠ bt) (hB : bt ≠ bt2) : Boxed (w1.setCell ⟨B, 0, none⟩ v') base B2 bt2 e2 v2 xs2 := by
  have hBB : B2 ≠ B := by
    rintro rfl
    have := h.blk.symm.trans h2.blk
    simp only [Option.some.injEq, Obj.cells.injEq] at this
    exact hB this.2.1
  have h3 := grown_blk hg h2.blk (own_ne h.own h2.blk h12)
  have h4 : w1.ownsRow base e2 1 v2 xs2.length xs2 := h2.own.kept hg (by
    cases hb : v2.ownBlock with
    | none => exact .inl rfl
    | some g2 =>
      refine .inr fun heq => ?_
      rcases h2.own.2 with ⟨rfl, _⟩ | ⟨g', cap, cur, rfl, _, hh, _⟩
      · cases hb
      · simp only [Value.ownBlock, Option.some.injEq] at hb
        subst hb
        exact own_ne h.own hh hee heq.symm)
  have h5 := grown_blk hg h.blk (own_ne h.own h.blk he)
  exact ⟨set_blk_far h3 hBB _, own_set h4 (own_ne h4 h5 he2) _⟩

/-- A raw term. -/
structure Raw where
  kind : Int
  n : Int
  a : Int
  b : Int
  c : Int


/-- The term that a raw one says, and its size. -/
def mkT (r : Raw) (ts : List Tm) : Tm :=
  if r.kind % 8 = 0 then .atom (r.n % 9 - 4)
  else if r.kind % 8 = 1 ∨ r.kind % 8 = 2 then .pub (r.n % 7 + 1)
  else if r.kind % 8 = 3 then .shared (r.n % 7 + 1) (r.n % 7 + 1 + r.a % 3)
  else if r.kind % 8 = 4 then .chain (r.n % 3 + 1) (tAt ts r.a) (tAt ts r.b)
  else if r.kind % 8 = 5 then .digest (tAt ts r.a) (tAt ts r.b)
  else .box (tAt ts r.a) (r.n % 3) (tAt ts r.b) (tAt ts r.c)
def mkS (r : Raw) (ts : List Tm) (ss : List Int) : Int :=
  if r.kind % 8 = 0 then 1
  else if r.kind % 8 = 1 ∨ r.kind % 8 = 2 then 1
  else if r.kind % 8 = 3 then 1
  else if r.kind % 8 = 4 then 1 + sAt ts ss r.a + sAt ts ss r.b
  else if r.kind % 8 = 5 then 1 + sAt ts ss r.a + sAt ts ss r.b
  else 1 + sAt ts ss r.a + sAt ts ss r.b + sAt ts ss r.c

/-- All so far, and their sizes. -/
def stepT (p : List Tm × List Int) (r : Raw) : List Tm × List Int :=
  if 60 < mkS r p.1 p.2 then (p.1 ++ [.empty], p.2 ++ [1]) else (p.1 ++ [mkT r p.1], p.2 ++ [mkS r p.1 p.2])
def buildT (l : List Raw) : List Tm × List Int := l.foldl stepT ([.empty], [1])
def terms (l : List Raw) : List Tm := (buildT (l.take 40)).1

theorem stepT_len (p : List Tm × List Int) (r : Raw) : (stepT p r).1.length = p.1.length + 1 ∧ (stepT p r).2.length = p.2.length + 1 := by
  unfold stepT; split <;> simp
theorem buildT_snoc (l : List Raw) (r : Raw) : buildT (l ++ [r]) = stepT (buildT l) r := by simp [buildT]
theorem buildT_take (l : List Raw) (k : Nat) (h : k < l.length) : buildT (l.take (k + 1)) = stepT (buildT (l.take k)) l[k] := by
  rw [List.take_succ_eq_append_getElem h, buildT_snoc]
theorem foldT_len : ∀ (l : List Raw) (p : List Tm × List Int), (l.foldl stepT p).1.length = p.1.length + l.length ∧ (l.foldl stepT p).2.length = p.2.length + l.length
  | [], p => ⟨rfl, rfl⟩
  | r :: l, p => by
    have h := foldT_len l (stepT p r)
    have h2 := stepT_len p r
    simp only [List.foldl_cons, List.length_cons]
    omega
theorem buildT_len (l : List Raw) : (buildT l).1.length = l.length + 1 ∧ (buildT l).2.length = l.length + 1 := by
  have := foldT_len l ([.empty], [1]); simp only [List.length_singleton] at this; unfold buildT; omega

theorem sAt_bd {ts : List Tm} {ss : List Int} (h : ∀ x ∈ ss, 1 ≤ x ∧ x ≤ 60) (k : Int) : 0 ≤ sAt ts ss k ∧ sAt ts ss k ≤ 60 := by
  unfold sAt
  rw [List.getD_eq_getElem?_getD]
  cases hx : ss[(k % ts.length).toNat]? with
  | none => simp
  | some x => have := h x (List.mem_of_getElem? hx); simp; omega
theorem mkS_pos {r : Raw} {ts : List Tm} {ss : List Int} (h : ∀ x ∈ ss, 1 ≤ x ∧ x ≤ 60) : 1 ≤ mkS r ts ss ∧ mkS r ts ss ≤ 181 := by
  have a := sAt_bd (ts := ts) h r.a; have b := sAt_bd (ts := ts) h r.b; have c := sAt_bd (ts := ts) h r.c
  unfold mkS; repeat' split
  all_goals omega
theorem stepT_bd {p : List Tm × List Int} {r : Raw} (h : ∀ x ∈ p.2, 1 ≤ x ∧ x ≤ 60) : ∀ x ∈ (stepT p r).2, 1 ≤ x ∧ x ≤ 60 := by
  unfold stepT; split
  · intro x hx; rcases List.mem_append.1 hx with hx | hx
    · exact h x hx
    · simp at hx; subst hx; omega
  · intro x hx; rcases List.mem_append.1 hx with hx | hx
    · exact h x hx
    · have := mkS_pos (r := r) (ts := p.1) h; simp at hx; subst hx; omega
theorem foldT_bd : ∀ (l : List Raw) (p : List Tm × List Int), (∀ x ∈ p.2, 1 ≤ x ∧ x ≤ 60) → ∀ x ∈ (l.foldl stepT p).2, 1 ≤ x ∧ x ≤ 60
  | [], _, h => h
  | _ :: l, _, h => foldT_bd l _ (stepT_bd h)
theorem buildT_bd (l : List Raw) : ∀ x ∈ (buildT l).2, 1 ≤ x ∧ x ≤ 60 := foldT_bd l _ (by simp)

theorem Tm.val_iface {t : Tm} (h : t ≠ .non) : ∃ u x, t.val = .iface u x := by
  cases t <;> first | exact (h rfl).elim | exact ⟨_, _, rfl⟩
theorem mkT_ne (r : Raw) (ts : List Tm) : mkT r ts ≠ .non := by
  unfold mkT; repeat' split
  all_goals exact Tm.noConfusion
theorem foldT_ne : ∀ (l : List Raw) (p : List Tm × List Int), (∀ x ∈ p.1, x ≠ .non) → ∀ x ∈ (l.foldl stepT p).1, x ≠ .non
  | [], _, h => h
  | r :: l, p, h => foldT_ne l _ (by
    unfold stepT; split
    · intro x hx; rcases List.mem_append.1 hx with hx | hx
      · exact h x hx
      · simp at hx; subst hx; exact Tm.noConfusion
    · intro x hx; rcases List.mem_append.1 hx with hx | hx
      · exact h x hx
      · simp at hx; subst hx; exact mkT_ne r p.1)
theorem buildT_ne (l : List Raw) : ∀ x ∈ (buildT l).1, x ≠ .non := foldT_ne l _ (by intro x hx; simp at hx; subst hx; exact Tm.noConfusion)
theorem tAt_mem {ts : List Tm} (h : 0 < ts.length) (k : Int) : tAt ts k ∈ ts := by
  have h1 := Int.emod_nonneg k (b := ts.length) (by omega)
  have h2 := Int.emod_lt_of_pos k (b := ts.length) (by omega)
  unfold tAt
  rw [List.getD_eq_getElem?_getD, List.getElem?_eq_getElem (show (k % ts.length).toNat < ts.length by omega)]
  exact List.getElem_mem _

/-- Raw terms in memory. -/
def RawAt (w : World) (a : Option Addr) (l : List Raw) : Prop :=
  ∀ i (h : i < l.length), ∃ b o, a = some ⟨b, o, none⟩ ∧ w.cell? ⟨b, o + i * 5, none⟩ = some (.int .i64 l[i].kind) ∧ w.cell? ⟨b, o + i * 5 + 1, none⟩ = some (.int .i64 l[i].n) ∧
    w.cell? ⟨b, o + i * 5 + 2, none⟩ = some (.int .i64 l[i].a) ∧ w.cell? ⟨b, o + i * 5 + 3, none⟩ = some (.int .i64 l[i].b) ∧ w.cell? ⟨b, o + i * 5 + 4, none⟩ = some (.int .i64 l[i].c)
theorem RawAt.ext {w w1 : World} {a : Option Addr} {l : List Raw} (h : RawAt w a l) (he : Ext w w1) : RawAt w1 a l := fun i hi => by
  obtain ⟨b, o, ha, c0, c1, c2, c3, c4⟩ := h i hi
  exact ⟨b, o, ha, he.cell c0, he.cell c1, he.cell c2, he.cell c3, he.cell c4⟩

end Go.Proofs.Ytegmnbcfanjocaa
