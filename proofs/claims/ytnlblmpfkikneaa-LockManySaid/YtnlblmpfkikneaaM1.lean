/-
  Tables of addresses in memory, side by side: who owns which block.
-/
import Derived.Test.YtnlblmpfkikneaaM0
namespace Go.Proofs.Ytnlblmpfkikneaa
open Go Go.RowKit Go.Maps

/-- A row: the fails that count, until when it is locked, how often it was. -/
structure LRow where
  fails : List Nat
  til : Nat
  times : Nat
def LRow.new : LRow := ⟨[], 0, 0⟩
structure Cfg where
  fails : Nat
  window : Nat
  backoff : Nat
structure Cfg.Ok (c : Cfg) : Prop where
  f0 : 1 ≤ c.fails
  f1 : c.fails ≤ 20
  w0 : 1 ≤ c.window
  w1 : c.window ≤ 100000
  b0 : 1 ≤ c.backoff
  b1 : c.backoff ≤ 100000
structure LRow.Ok (r : LRow) : Prop where
  few : r.fails.length ≤ 20
  til : r.til ≤ 1099511627776
  times : r.times ≤ 10
theorem LRow.new_ok : LRow.new.Ok := ⟨by decide, by decide, by decide⟩

/-- What of a table a block is. -/
inductive Tag
  | t
  | m
  | r (k : Int)
  | f (k : Int)
structure TS where
  tb : Nat
  mb : Nat
  c : Cfg
  n : Nat
  rows : Int → Option LRow
  pf : Int → Nat
  fv : Int → Value
def TS.map (s : TS) (k : Int) : Option Nat := (s.rows k).map fun _ => s.pf k

/-- The first is as the second, but for some blocks. -/
def Same (W W' : World) (p : Nat → Prop) : Prop := W'.os = W.os ∧ W'.tape = W.tape ∧ W'.output = W.output ∧ W.heap.size ≤ W'.heap.size ∧ ∀ b, b < W.heap.size → p b → W'.heap[b]? = W.heap[b]?
theorem Same.of_ext {W W' : World} {p : Nat → Prop} (h : Ext W W') : Same W W' p := ⟨h.os, h.tape, h.output, h.size, fun b hb _ => h.block b hb⟩
theorem Same.of_grown {W W' : World} {p : Nat → Prop} {row : Option Nat} (h : W.grownBy W' row) (hp : ∀ b, p b → some b ≠ row) : Same W W' p := ⟨h.os, h.tape, h.output, h.size, fun b hb hpb => h.block b hb (hp b hpb)⟩
theorem Same.trans {A B C : World} {p : Nat → Prop} (h : Same A B p) (k : Same B C p) : Same A C p :=
  ⟨k.1.trans h.1, k.2.1.trans h.2.1, k.2.2.1.trans h.2.2.1, Nat.le_trans h.2.2.2.1 k.2.2.2.1, fun b hb hp => (k.2.2.2.2 b (Nat.lt_of_lt_of_le hb h.2.2.2.1) hp).trans (h.2.2.2.2 b hb hp)⟩
theorem Same.mono {A B : World} {p q : Nat → Prop} (h : Same A B p) (hq : ∀ b, q b → p b) : Same A B q := ⟨h.1, h.2.1, h.2.2.1, h.2.2.2.1, fun b hb hp => h.2.2.2.2 b hb (hq b hp)⟩
theorem Same.refl (W : World) (p : Nat → Prop) : Same W W p := Same.of_ext (Ext.refl W)
theorem own_same {W W2 : World} {v : Value} {B : Nat} {e : TypeId} {size n : Nat} {xs : List Value} (h : W.ownsRow B e size v n xs) (hb : ∀ k, v.ownBlock = some k → W2.heap[k]? = W.heap[k]?) : W2.ownsRow B e size v n xs := by
  refine ⟨h.1, ?_⟩
  rcases h.2 with hn | ⟨g, cap, cur, rfl, h1, h2, r⟩
  · exact .inl hn
  · exact .inr ⟨g, cap, cur, rfl, h1, (hb g rfl).trans h2, r⟩
theorem own_blk_lt {W : World} {v : Value} {B : Nat} {e : TypeId} {size n : Nat} {xs : List Value} (h : W.ownsRow B e size v n xs) {g : Nat} (hg : v.ownBlock = some g) : B ≤ g ∧ g < W.heap.size := by
  rcases h.2 with ⟨rfl, _⟩ | ⟨g', cap, cur, rfl, h1, h2, r⟩
  · cases hg
  · simp only [Value.ownBlock, Option.some.injEq] at hg
    subst hg
    exact ⟨h1, (Array.getElem?_eq_some_iff.1 h2).1⟩

theorem own_form {W : World} {v : Value} {B : Nat} {e : TypeId} {size n : Nat} {xs : List Value} (h : W.ownsRow B e size v n xs) : ∃ a cap, v = .slice a n cap := by
  rcases h.2 with ⟨rfl, rfl⟩ | ⟨g', cap, cur, rfl, _⟩
  · exact ⟨_, _, rfl⟩
  · exact ⟨_, _, rfl⟩

def encN (x : Nat) : Value := .int .u64 x
structure RowAt (base : Nat) (w : World) (own : Nat → Option (Nat × Tag)) (i : Nat) (k : Int) (p : Nat) (v : Value) (r : LRow) : Prop where
  blk : w.heap[p]? = some (.cells #[v, .int .u64 r.til, .int .i64 r.times] 58 (0, 0))
  pown : own p = some (i, Tag.r k)
  fails : w.ownsRow base 22 1 v r.fails.length (r.fails.map encN)
  fown : ∀ g, v.ownBlock = some g → own g = some (i, Tag.f k)
  ok : r.Ok
structure TabAt (base : Nat) (w : World) (own : Nat → Option (Nat × Tag)) (i : Nat) (s : TS) : Prop where
  blk : w.heap[s.tb]? = some (.cells #[.int .i64 s.c.fails, .int .u64 s.c.window, .int .u64 s.c.backoff, .map (some s.mb)] 53 (0, 0))
  tbo : own s.tb = some (i, .t)
  map : MapF w s.mb s.map s.n
  mbo : own s.mb = some (i, .m)
  row : ∀ k r, s.rows k = some r → RowAt base w own i k (s.pf k) (s.fv k) r
  cok : s.c.Ok
  few : s.n ≤ 32

/-- Tables side by side; w0: the world at the start. -/
structure Locks (w0 w : World) (own : Nat → Option (Nat × Tag)) (ts : Nat → Option TS) : Prop where
  ext : Ext w0 w
  owns : ∀ b x, own b = some x → w0.heap.size ≤ b ∧ b < w.heap.size
  tab : ∀ i s, ts i = some s → TabAt w0.heap.size w own i s
  idx : ∀ b j tag, own b = some (j, tag) → ts j ≠ none

section
variable {w0 W W2 : World} {own own2 : Nat → Option (Nat × Tag)} {ts : Nat → Option TS}

theorem RowAt.keep {base i : Nat} {k : Int} {p : Nat} {v : Value} {r : LRow} (h : RowAt base W own i k p v r) (ho : ∀ b x, own b = some x → own2 b = some x)
    (h1 : W2.heap[p]? = W.heap[p]?) (h2 : ∀ g, v.ownBlock = some g → W2.heap[g]? = W.heap[g]?) : RowAt base W2 own2 i k p v r :=
  ⟨h1.trans h.blk, ho _ _ h.pown, own_same h.fails h2, fun g hg => ho _ _ (h.fown g hg), h.ok⟩
theorem TabAt.keep {base i : Nat} {s : TS} (h : TabAt base W own i s) (ho : ∀ b x, own b = some x → own2 b = some x)
    (hb : ∀ b tag, own b = some (i, tag) → W2.heap[b]? = W.heap[b]?) : TabAt base W2 own2 i s :=
  ⟨(hb _ _ h.tbo).trans h.blk, ho _ _ h.tbo, h.map.keep (hb _ _ h.mbo), ho _ _ h.mbo,
    fun k r hr => (h.row k r hr).keep ho (hb _ _ (h.row k r hr).pown) (fun g hg => hb _ _ ((h.row k r hr).fown g hg)), h.cok, h.few⟩

theorem Locks.later (h : Locks w0 W own ts) (he : Ext W W2) : Locks w0 W2 own ts :=
  ⟨h.ext.trans he, fun b x hx => ⟨(h.owns b x hx).1, Nat.lt_of_lt_of_le (h.owns b x hx).2 he.size⟩,
    fun i s hs => (h.tab i s hs).keep (fun _ _ hx => hx) (fun b _ hb => he.block b (h.owns b _ hb).2), h.idx⟩
/-- What nobody owns is turned. -/
theorem Locks.other (h : Locks w0 W own ts) (hs : Same W W2 (fun b => own b ≠ none)) (h0 : Same W W2 (fun b => b < w0.heap.size)) : Locks w0 W2 own ts :=
  ⟨⟨h0.1.trans h.ext.os, h0.2.1.trans h.ext.tape, h0.2.2.1.trans h.ext.output, Nat.le_trans h.ext.size h0.2.2.2.1, fun b hb => (h0.2.2.2.2 b (Nat.lt_of_lt_of_le hb h.ext.size) hb).trans (h.ext.block b hb)⟩,
    fun b x hx => ⟨(h.owns b x hx).1, Nat.lt_of_lt_of_le (h.owns b x hx).2 hs.2.2.2.1⟩,
    fun i s hts => (h.tab i s hts).keep (fun _ _ hx => hx) (fun b tag hb => hs.2.2.2.2 b (h.owns b _ hb).2 (by show own b ≠ none; rw [hb]; simp)), h.idx⟩

/-- The owners behind a turn: those of old, and a new block. -/
def ownAlso (own : Nat → Option (Nat × Tag)) (v : Value) (x : Nat × Tag) (b : Nat) : Option (Nat × Tag) := if v.ownBlock = some b then some x else own b

/-- One row of a table is turned. -/
theorem Locks.turn {i : Nat} {s : TS} {k : Int} {r r2 : LRow} {v : Value} (h : Locks w0 W own ts) (hs : ts i = some s) (hr : s.rows k = some r)
    (h2 : Same W W2 (fun b => own b ≠ some (i, .r k) ∧ own b ≠ some (i, .f k)))
    (hb : W2.heap[s.pf k]? = some (.cells #[v, .int .u64 r2.til, .int .i64 r2.times] 58 (0, 0)))
    (hf : W2.ownsRow w0.heap.size 22 1 v r2.fails.length (r2.fails.map encN)) (hn : ∀ g, v.ownBlock = some g → own g = some (i, .f k) ∨ W.heap.size ≤ g) (hok : r2.Ok) :
    Locks w0 W2 (ownAlso own v (i, .f k)) (fun j => if j = i then some { s with rows := fun q => if q = k then some r2 else s.rows q, fv := fun q => if q = k then v else s.fv q } else ts j) := by
  have hT := h.tab i s hs
  have hR := hT.row k r hr
  have hkeep : ∀ b x, own b = some x → ownAlso own v (i, .f k) b = some x := fun b x hx => by
    unfold ownAlso
    split
    · rename_i hg
      rcases hn b hg with h5 | h5
      · rw [h5] at hx; exact hx
      · exact absurd (h.owns b x hx).2 (by omega)
    · exact hx
  have hlow : ∀ b x, own b = some x → x ≠ (i, .r k) → x ≠ (i, .f k) → W2.heap[b]? = W.heap[b]? := fun b x hx h5 h6 =>
    h2.2.2.2.2 b (h.owns b x hx).2 ⟨fun h7 => h5 (by rw [h7] at hx; exact (Option.some.inj hx).symm), fun h7 => h6 (by rw [h7] at hx; exact (Option.some.inj hx).symm)⟩
  refine ⟨⟨h2.1.trans h.ext.os, h2.2.1.trans h.ext.tape, h2.2.2.1.trans h.ext.output, Nat.le_trans h.ext.size h2.2.2.2.1, fun b hb' => (h2.2.2.2.2 b (Nat.lt_of_lt_of_le hb' h.ext.size) ?_).trans (h.ext.block b hb')⟩, ?_, ?_, fun b j tag hb' => ?_⟩
  rotate_right
  · unfold ownAlso at hb'
    split
    · simp
    · rename_i hji
      split at hb'
      · cases hb'; exact absurd rfl hji
      · exact h.idx b j tag hb'
  · exact ⟨fun h5 => by have := (h.owns b _ h5).1; omega, fun h5 => by have := (h.owns b _ h5).1; omega⟩
  · intro b x hx
    unfold ownAlso at hx
    split at hx
    · rename_i hg
      exact own_blk_lt hf hg
    · exact ⟨(h.owns b x hx).1, Nat.lt_of_lt_of_le (h.owns b x hx).2 h2.2.2.2.1⟩
  · intro j s' hj
    by_cases hji : j = i
    · rw [if_pos hji] at hj
      subst hji
      cases hj
      refine ⟨(hlow _ _ hT.tbo (by simp) (by simp)).trans hT.blk, hkeep _ _ hT.tbo, ?_, hkeep _ _ hT.mbo, ?_, hT.cok, hT.few⟩
      · have hm := hT.map.keep (hlow _ _ hT.mbo (by simp) (by simp))
        have he : s.map = TS.map { s with rows := fun q => if q = k then some r2 else s.rows q, fv := fun q => if q = k then v else s.fv q } := by
          funext q
          unfold TS.map
          by_cases hq : q = k
          · subst hq; simp [hr]
          · simp [hq]
        rw [← he]
        exact hm
      · intro q rq hq
        simp only at hq ⊢
        by_cases hqk : q = k
        · subst hqk
          rw [if_pos rfl] at hq
          cases hq
          rw [if_pos rfl]
          exact ⟨hb, hkeep _ _ hR.pown, hf, fun g hg => by unfold ownAlso; rw [if_pos hg], hok⟩
        · rw [if_neg hqk] at hq ⊢
          have hQ := hT.row q rq hq
          refine hQ.keep hkeep (hlow _ _ hQ.pown ?_ ?_) (fun g hg => hlow _ _ (hQ.fown g hg) ?_ ?_)
          all_goals simp [hqk]
    · rw [if_neg hji] at hj
      refine (h.tab j s' hj).keep hkeep (fun b tag hb' => hlow b _ hb' ?_ ?_)
      all_goals simp [hji]
end

end Go.Proofs.Ytnlblmpfkikneaa
