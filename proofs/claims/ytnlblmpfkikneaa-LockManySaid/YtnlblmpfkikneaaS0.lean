/-
  The world while a new slice of addresses is sorted.
-/
import Derived.Test.YtnlblmpfkikneaaProg
import Derived.Test.YtnlblmpfkikneaaReg
import Derived.Test.YtnlblmpfkikneaaRegS
import Derived.Test.YtnlblmpfkikneaaOwn
import Derived.Sort.WalkC4
import Derived.Sort.WalkC
import Derived.Sort.WalkA6
import Derived.Sort.WalkB2
import Derived.Sort.WalkB3
namespace Go.Proofs.Ytnlblmpfkikneaa
open Go Go.RowKit Go.Sort
attribute [local go_sem] extUpon
attribute [local go_sem ↓] eval_put_ne eval_put_none eval_put_same size_put eval_const

theorem reg_skip {P : Program} {md : Region.Mode} {Q : Exit → Act → World → Prop} {E fuel : Nat} {l tl : List Oper} {oi : Oper} {listed : Array Bool} {a : Act} {w : World} (i : Nat) (hi : l.drop i = oi :: tl) (hB : takeB md l.toArray E listed i = true)
    (hw : Region.wanted oi (yielded l.toArray a.tmps) = false) (h : wpAnyU P md l.toArray (calm Q) E fuel (listed.setIfInBounds i true) (a.put oi.dst undef) w) : wpAnyU P md l.toArray (calm Q) E (fuel + 1) listed a w :=
  reg_take (at_drop hi) hB (.inr ⟨hw, rfl⟩) h
theorem reg_pf {P : Program} {md : Region.Mode} {Q : Exit → Act → World → Prop} {E fuel : Nat} {l tl : List Oper} {oi : Oper} {listed : Array Bool} {a : Act} {w : World} (n : Nat) (hi : l.drop (n - (fuel + 1)) = oi :: tl) (hB : pureB md l.toArray listed (n - (fuel + 1)) = true)
    (hw : Region.wanted oi (yielded l.toArray a.tmps) = true)
    (h : ∃ v, (∀ w', (execOp a.eval oi).run P w' = .ok (.value v) w') ∧ wpAnyU P md l.toArray (calm Q) E fuel (listed.setIfInBounds (n - (fuel + 1)) true) (a.put oi.dst v) w) : wpAnyU P md l.toArray (calm Q) E (fuel + 1) listed a w := reg_pure _ hi hB hw h
theorem reg_kf {P : Program} {md : Region.Mode} {Q : Exit → Act → World → Prop} {E fuel : Nat} {l tl : List Oper} {oi : Oper} {listed : Array Bool} {a : Act} {w : World} (n : Nat) (hi : l.drop (n - (fuel + 1)) = oi :: tl) (hB : takeB md l.toArray E listed (n - (fuel + 1)) = true)
    (hw : Region.wanted oi (yielded l.toArray a.tmps) = false) (h : wpAnyU P md l.toArray (calm Q) E fuel (listed.setIfInBounds (n - (fuel + 1)) true) (a.put oi.dst undef) w) : wpAnyU P md l.toArray (calm Q) E (fuel + 1) listed a w := reg_skip _ hi hB hw h

/-- Block g, which is new behind B, begins with the addresses d; what was there in B is as it was. -/
structure SR (B : World) (g : Nat) (d : Array Int) (W : World) : Prop where
  ext : Ext B W
  new : B.heap.size ≤ g
  blk : ∃ cs : Array Value, W.heap[g]? = some (.cells cs 31 (0, 0)) ∧ ∀ j, j < d.size → cs[j]? = some (.int .u32 d[j]!)
section
variable {B W W2 : World} {g : Nat} {d : Array Int}
theorem SR.later (h : SR B g d W) (he : Ext W W2) : SR B g d W2 :=
  let ⟨cs, h1, h2⟩ := h.blk
  ⟨h.ext.trans he, h.new, cs, he.blk h1, h2⟩
theorem SR.cell (h : SR B g d W) (j : Nat) (hj : j < d.size) : W.cell? ⟨g, j, none⟩ = some (.int .u32 d[j]!) := by
  obtain ⟨cs, h1, h2⟩ := h.blk
  exact cell_blk h1 (h2 j hj)
theorem SR.free (h : SR B g d W) (j : Nat) : W.frozen? ⟨g, j, none⟩ = false := by
  obtain ⟨cs, h1, _⟩ := h.blk
  simp [World.frozen?, h1]
theorem SR.put (h : SR B g d W) (j : Nat) (x : Int) : SR B g (d.setIfInBounds j x) (W.setCell ⟨g, j, none⟩ (.int .u32 x)) := by
  obtain ⟨cs, h1, h2⟩ := h.blk
  have hn := h.new
  refine ⟨⟨h.ext.os, h.ext.tape, h.ext.output, by simpa [World.setCell] using h.ext.size, fun b hb => (Below.heap_setCell W ⟨g, j, none⟩ _ b (fun e => by have e : b = g := e; omega)).trans (h.ext.block b hb)⟩, h.new, cs.setIfInBounds j (.int .u32 x), by simp [World.setCell, Array.getElem?_modify, h1], fun k hk => ?_⟩
  have hk2 : k < d.size := by simpa using hk
  by_cases hjk : j = k
  · subst hjk
    have := (Array.getElem?_eq_some_iff.1 (h2 j hk2)).1
    simp [this, getElem!_set_same d j x hk2]
  · rw [Array.getElem?_setIfInBounds, if_neg hjk, getElem!_set_other d j k x (Ne.symm hjk)]
    exact h2 k hk2
theorem SR.swp (h : SR B g d W) (i j : Nat) : SR B g (swp d i j) ((W.setCell ⟨g, i, none⟩ (.int .u32 d[j]!)).setCell ⟨g, j, none⟩ (.int .u32 d[i]!)) := (h.put i _).put j _
theorem SR.other {c : Nat} (h : SR B g d W) (hg : W.grownBy W2 (some c)) (hc : c ≠ g) (hB : B.heap.size ≤ c) : SR B g d W2 := by
  obtain ⟨cs, h1, h2⟩ := h.blk
  have hl := (Array.getElem?_eq_some_iff.1 h1).1
  exact ⟨⟨hg.os.trans h.ext.os, hg.tape.trans h.ext.tape, hg.output.trans h.ext.output, Nat.le_trans h.ext.size hg.size, fun b hb => (hg.block b (Nat.lt_of_lt_of_le hb h.ext.size) (fun e => by have := Option.some.inj e; omega)).trans (h.ext.block b hb)⟩, h.new, cs, (hg.block g hl (fun e => hc (Option.some.inj e).symm)).trans h1, h2⟩
/-- What stands at a place of the row. -/
structure Pl (d : Array Int) (j : Nat) where
  val : Int
  eq : val = d[j]!
  lt : j < d.size
theorem Pl.is {j : Nat} (p : Pl d j) (h : SR B g d W) : W.cell? ⟨g, j, none⟩ = some (.int .u32 p.val) := by rw [p.eq]; exact h.cell j p.lt
theorem Pl.mk' (d : Array Int) (j : Nat) (h : j < d.size) : Nonempty (Pl d j) := ⟨⟨_, rfl, h⟩⟩
end

/-! ### cmp.Less -/
set_option maxRecDepth 100000 in
theorem nan_any (x : Int) (W : World) : Calls Try.prog 54 #[.int .u32 x] W fun e w' => e = .returned (.bool false) ∧ w' = W := by
  go_enter Try.func54, Try.ntmps54
  go_wp2_with fail
  go_ret
  exact ⟨by simp, rfl⟩
set_option maxRecDepth 100000 in
theorem less_any (x y : Int) (W : World) : Calls Try.prog 44 #[.int .u32 x, .int .u32 y] W fun e w' => e = .returned (.bool (ltInt x y)) ∧ w' = W := by
  go_enter Try.func44, Try.ntmps44
  go_wp2_with fail
  refine (nan_any x _).mono ?_
  rintro e w1 ⟨rfl, rfl⟩
  go_wp2_with fail
  go_ret
  exact ⟨rfl, rfl⟩
theorem less_at {x y : Int} {b : Bool} (h : ltInt x y = b) (W : World) : Calls Try.prog 44 #[.int .u32 x, .int .u32 y] W fun e w' => e = .returned (.bool b) ∧ Ext W w' :=
  (less_any x y W).mono fun e w' ⟨he, hw⟩ => ⟨by rw [he, h], by rw [hw]; exact Ext.refl _⟩

end Go.Proofs.Ytnlblmpfkikneaa
