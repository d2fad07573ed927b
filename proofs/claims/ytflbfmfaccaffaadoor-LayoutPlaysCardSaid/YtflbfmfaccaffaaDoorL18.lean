/-
  Places and borders fill the box; two rows of boxes joined.
-/
import Derived.Test.YtflbfmfaccaffaaDoorL17
import Derived.OwnWalk
namespace Go.Proofs.YtflbfmfaccaffaaDoor
open Go Go.RowKit

def cov (q : Bx) (x y : Int) : Int := if q.row ≤ x ∧ x < q.row + q.rows ∧ q.col ≤ y ∧ y < q.col + q.cols then 1 else 0
def covs : List Bx → Int → Int → Int
  | [], _, _ => 0
  | q :: l, x, y => cov q x y + covs l x y
theorem covs_append (l r : List Bx) (x y : Int) : covs (l ++ r) x y = covs l x y + covs r x y := by
  induction l with
  | nil => simp [covs]
  | cons q l ih => simp [covs, ih]; omega
theorem cov_bd (q : Bx) (x y : Int) : 0 ≤ cov q x y ∧ cov q x y ≤ 1 := by unfold cov; split <;> omega
theorem covs_bd (l : List Bx) (x y : Int) : 0 ≤ covs l x y ∧ covs l x y ≤ l.length := by
  induction l with
  | nil => simp [covs]
  | cons q l ih => have := cov_bd q x y; simp only [covs, List.length_cons]; omega
theorem held_bd {k d : Int} (h : 3 ≤ d) : 1 ≤ held k d ∧ held k d ≤ d - 2 := by unfold held; omega
theorem cov_parts (a : Bool) (k : Int) (r : Bx) (h1 : 0 ≤ r.rows) (h2 : 0 ≤ r.cols) (x y : Int) :
    cov (parts a k r).1 x y + cov (parts a k r).2 x y + (if 3 ≤ wide a r then cov (slc a r (held k (wide a r)) 1) x y else 0) = cov r x y := by
  obtain ⟨rr, rc, rn, rm⟩ := r
  simp only at h1 h2
  cases a
  · simp only [wide, Bool.false_eq_true, if_false, parts, slc]
    by_cases hd : rn < 3
    · rw [if_pos hd, if_neg (by omega)]
      simp only [cov]
      repeat' split
      all_goals omega
    · have := held_bd (k := k) (d := rn) (by omega)
      generalize held k rn = hh at *
      rw [if_neg hd, if_pos (by omega)]
      simp only [cov]
      repeat' split
      all_goals omega
  · simp only [wide, if_true, parts, slc]
    by_cases hd : rm < 3
    · rw [if_pos hd, if_neg (by omega)]
      simp only [cov]
      repeat' split
      all_goals omega
    · have := held_bd (k := k) (d := rm) (by omega)
      generalize held k rm = hh at *
      rw [if_neg hd, if_pos (by omega)]
      simp only [cov]
      repeat' split
      all_goals omega
def Bx.inside (q r : Bx) : Prop := r.row ≤ q.row ∧ 0 ≤ q.rows ∧ q.row + q.rows ≤ r.row + r.rows ∧ r.col ≤ q.col ∧ 0 ≤ q.cols ∧ q.col + q.cols ≤ r.col + r.cols
theorem Bx.inside.trans {a b c : Bx} (h : a.inside b) (k : b.inside c) : a.inside c := by unfold Bx.inside at *; omega
theorem parts_inside (a : Bool) (k : Int) (r : Bx) (h1 : 0 ≤ r.rows) (h2 : 0 ≤ r.cols) : (parts a k r).1.inside r ∧ (parts a k r).2.inside r ∧ (3 ≤ wide a r → (slc a r (held k (wide a r)) 1).inside r) := by
  obtain ⟨rr, rc, rn, rm⟩ := r
  simp only at h1 h2
  cases a
  · simp only [wide, Bool.false_eq_true, if_false, parts, slc]
    by_cases hd : rn < 3
    · rw [if_pos hd]; simp only [Bx.inside]; omega
    · have := held_bd (k := k) (d := rn) (by omega)
      generalize held k rn = hh at *
      rw [if_neg hd]; simp only [Bx.inside]; omega
  · simp only [wide, if_true, parts, slc]
    by_cases hd : rm < 3
    · rw [if_pos hd]; simp only [Bx.inside]; omega
    · have := held_bd (k := k) (d := rm) (by omega)
      generalize held k rm = hh at *
      rw [if_neg hd]; simp only [Bx.inside]; omega
theorem borders_node (b : Nat) (x y : LT) (a : Bool) (k : Int) (r : Bx) : (LT.node b x y a k).borders r = (if 3 ≤ wide a r then [slc a r (held k (wide a r)) 1] else []) ++ (x.borders (parts a k r).1 ++ y.borders (parts a k r).2) := by
  by_cases h : 3 ≤ wide a r <;> simp [LT.borders, LT.lines, h]
/-- Each cell of the box is in just one. -/
theorem tiles : ∀ (t : LT) (r : Bx), 0 ≤ r.rows → 0 ≤ r.cols → ∀ x y, covs (t.places r ++ t.borders r) x y = cov r x y
  | .leaf b p, r, _, _, x, y => by simp [LT.places, LT.borders, LT.lines, covs]
  | .node b s t a k, r, h1, h2, x, y => by
    obtain ⟨hp1, hp2, _⟩ := parts_inside a k r h1 h2
    have i1 := tiles s (parts a k r).1 hp1.2.1 hp1.2.2.2.2.1 x y
    have i2 := tiles t (parts a k r).2 hp2.2.1 hp2.2.2.2.2.1 x y
    have i3 := cov_parts a k r h1 h2 x y
    rw [covs_append] at i1 i2
    rw [covs_append, borders_node, covs_append, covs_append]
    simp only [LT.places, covs_append]
    by_cases hd : 3 ≤ wide a r
    · rw [if_pos hd] at i3 ⊢
      simp only [covs]; omega
    · rw [if_neg hd] at i3 ⊢
      simp only [covs]; omega
theorem all_inside : ∀ (t : LT) (r : Bx), 0 ≤ r.rows → 0 ≤ r.cols → ∀ q ∈ t.places r ++ t.borders r, q.inside r
  | .leaf b p, r, h1, h2, q, hq => by
    simp [LT.places, LT.borders, LT.lines] at hq
    subst hq; unfold Bx.inside; omega
  | .node b s t a k, r, h1, h2, q, hq => by
    obtain ⟨hp1, hp2, hp3⟩ := parts_inside a k r h1 h2
    have i1 := all_inside s (parts a k r).1 hp1.2.1 hp1.2.2.2.2.1
    have i2 := all_inside t (parts a k r).2 hp2.2.1 hp2.2.2.2.2.1
    rw [borders_node] at hq
    simp only [LT.places, List.mem_append] at hq
    rcases hq with (hq | hq) | hq | hq | hq
    · exact (i1 q (List.mem_append_left _ hq)).trans hp1
    · exact (i2 q (List.mem_append_left _ hq)).trans hp2
    · split at hq
      · rename_i h; simp at hq; subst hq; exact hp3 h
      · cases hq
    · exact (i1 q (List.mem_append_right _ hq)).trans hp1
    · exact (i2 q (List.mem_append_right _ hq)).trans hp2

/-- Two rows of boxes are joined, the second may be empty. -/
theorem wpl_join {ops : Array Oper} {rest : List Oper} {o : Oper} {a : Act} {w : World} {Q : Exit → Act → World → Prop} (s x : Operand) (hg : o.guard = none) (ho : o.op = .call { callee := .builtin .append, args := #[s, x], argTypes := #[29, 29] }) (hty : o.type = 29)
    (B B2 : Nat) (v v2 : Value) (n m : Nat) (l1 l2 : List Bx) (hs : a.eval s = v) (hx : a.eval x = v2) (h1 : w.ownsRow B 32 4 v n (l1.flatMap Bx.vals)) (h2 : w.ownsRow B2 32 4 v2 m (l2.flatMap Bx.vals)) (hb : n + m ≤ 1000000) (hB : B ≤ w.heap.size)
    (h : ∀ a' cap' w', w'.ownsRow B 32 4 (.slice a' (n + m) cap') (n + m) ((l1 ++ l2).flatMap Bx.vals) → w.grownBy w' v.ownBlock → wpList Tryd.prog ops Q rest (a.put o.dst (.slice a' (n + m) cap')) w') : wpList Tryd.prog ops Q (o :: rest) a w := by
  refine wpList_plain hg fun K hK => ?_
  obtain ⟨i, hi, hz, hz1, hz2⟩ := info_parts (show (Tryd.prog.info? 32).map (fun i => (i.zero, i.size, i.bytes)) = some (some (.agg #[.int .i64 0, .int .i64 0, .int .i64 0, .int .i64 0]), 4, 32) by kernel_rfl)
  have ht := Tryd.underlying29
  have hrun : ∃ a' cap' w', (Builtin.append_ #[29, 29] 29 #[v, v2]).run Tryd.prog w = .ok (.slice a' (n + m) cap') w' ∧ w'.ownsRow B 32 4 (.slice a' (n + m) cap') (n + m) ((l1 ++ l2).flatMap Bx.vals) ∧ w.grownBy w' v.ownBlock := by
    have hgb : w.grownBy w v.ownBlock := ⟨rfl, rfl, rfl, Nat.le_refl _, fun _ _ _ => rfl⟩
    by_cases hm : m = 0
    · subst hm
      have hl2 : l2.flatMap Bx.vals = [] := List.length_eq_zero_iff.1 (by have := h2.1; simpa using this)
      have hrun : (Builtin.append_ #[29, 29] 29 #[v, v2]).run Tryd.prog w = .ok v w := by
        rcases h2.2 with ⟨rfl, _⟩ | ⟨g2, cap2, cur2, rfl, _⟩
        · exact run_append_owned_none w B 29 29 32 i 4 ht hi v n _ h1
        · rcases h1.2 with ⟨rfl, rfl⟩ | ⟨g', cap, cur, rfl, _, _, hnc, _⟩
          · simp [Builtin.append_, run_underlying ht, sizeOf, typeInfo, hi, Builtin.lenOf, Builtin.firstCells, go_sem, storeCells]
          · simp [Builtin.append_, run_underlying ht, sizeOf, typeInfo, hi, Builtin.lenOf, Builtin.firstCells, hnc, go_sem, storeCells]
      obtain ⟨a', cap, rfl, _⟩ := own_form h1
      exact ⟨a', cap, w, hrun, by rw [List.flatMap_append, hl2]; simpa using h1, hgb⟩
    · obtain ⟨a2, cap2, rfl, hc2⟩ := own_form h2
      obtain ⟨g2, rfl, hcc⟩ := hc2 (by omega)
      obtain ⟨g', cap', w', hr, h3, h4, _⟩ := run_append_lies (P := Tryd.prog) w 29 29 B 32 i (.agg #[.int .i64 0, .int .i64 0, .int .i64 0, .int .i64 0]) 4 32 ht hi hz hz1 hz2 rfl (by omega) v n _ h1 ⟨g2, 0, none⟩ m cap2 (l2.flatMap Bx.vals) h2.1
        (fun j u hu => by
          rw [show (⟨g2, 0, none⟩ : Addr).add j = ⟨g2, j, none⟩ by unfold Addr.add; split <;> simp_all]
          exact hcc j u hu)
        (fun u hu => by
          obtain ⟨q, _, hq⟩ := List.mem_flatMap.1 hu
          simp [Bx.vals] at hq
          rcases hq with rfl | rfl | rfl | rfl <;> rfl) (by omega) (by unfold maxLen; omega) (by omega) hB w.heap.size rfl
      exact ⟨_, cap', w', hr, by rw [List.flatMap_append]; exact h3, h4⟩
  obtain ⟨a', cap', w', hr, h3, h4⟩ := hrun
  unfold Oper.wp execOp
  simp only [ho, hty, resolve, invoke, builtin, Sem.run_bind, Sem.run_pure, Result.andThen_ok, List.map_toArray, List.map_cons, List.map_nil, hs, hx, hr]
  exact hK _ _ (h a' cap' w' h3 h4)

/-- A row of numbers, each said by its place. -/
def rowOf (N : Nat) (f : Nat → Int) : List Value := (List.range N).map fun i => .int .i64 (f i)
theorem rowOf_at {N : Nat} {f : Nat → Int} {j : Nat} (h : j < N) : (rowOf N f)[j]? = some (.int .i64 (f j)) := by simp [rowOf, h]
theorem rowOf_set {N : Nat} {f f' : Nat → Int} {j : Nat} {v : Int} (hj : f' j = v) (ho : ∀ i, i < N → i ≠ j → f' i = f i) : (rowOf N f).set j (.int .i64 v) = rowOf N f' := by
  apply List.ext_getElem?
  intro i
  by_cases hi : i < N
  · by_cases e : j = i
    · subst e; simp [rowOf, hi, hj]
    · rw [List.getElem?_set_ne e]; simp [rowOf, hi, ho i hi (Ne.symm e)]
  · simp [rowOf, hi]
theorem rowOf_congr {N : Nat} {f f' : Nat → Int} (h : ∀ i, i < N → f i = f' i) : rowOf N f = rowOf N f' := by
  apply List.ext_getElem?
  intro i
  by_cases hi : i < N
  · simp [rowOf, hi, h i hi]
  · simp [rowOf, hi]
theorem grown_trans {a b c : World} {row : Option Nat} (h : a.grownBy b row) (k : b.grownBy c row) : a.grownBy c row :=
  ⟨k.os.trans h.os, k.tape.trans h.tape, k.output.trans h.output, Nat.le_trans h.size k.size, fun j hj hr => (k.block j (Nat.lt_of_lt_of_le hj h.size) hr).trans (h.block j hj hr)⟩
theorem grown_of_ext {a b : World} {row : Option Nat} (h : Ext a b) : a.grownBy b row := ⟨h.os, h.tape, h.output, h.size, fun j hj _ => h.block j hj⟩

/-- How often the cell z (of a box C wide) is counted: all boxes of l, and of q those ahead of row a, and in row a those ahead of column b. -/
def cell (l : List Bx) (q : Bx) (C a b : Int) (z : Nat) : Int :=
  covs l ((z : Int) / C) ((z : Int) % C) + (if q.row ≤ (z : Int) / C ∧ (z : Int) / C < a ∧ q.col ≤ (z : Int) % C ∧ (z : Int) % C < q.col + q.cols then 1 else 0)
    + (if (z : Int) / C = a ∧ q.col ≤ (z : Int) % C ∧ (z : Int) % C < b then 1 else 0)
theorem cell_bd (l : List Bx) (q : Bx) (C a b : Int) (z : Nat) : 0 ≤ cell l q C a b z ∧ cell l q C a b z ≤ l.length + 2 := by
  have := covs_bd l ((z : Int) / C) ((z : Int) % C)
  unfold cell; repeat' split
  all_goals omega
theorem place {a b C : Int} (h0 : 0 ≤ b) (h1 : b < C) : (a * C + b) / C = a ∧ (a * C + b) % C = b := by
  constructor
  · rw [Int.add_comm, Int.add_mul_ediv_right _ _ (by omega), Int.ediv_eq_zero_of_lt h0 h1]; omega
  · rw [Int.add_comm, Int.add_mul_emod_self_right]; exact Int.emod_eq_of_lt h0 h1
theorem cell_step {l : List Bx} {q : Bx} {C a b : Int} {j : Nat} (hj : a * C + b = (j : Int)) (h0 : 0 ≤ b) (h1 : b < C) (hb : q.col ≤ b) : cell l q C a (b + 1) j = cell l q C a b j + 1 ∧ ∀ z, z ≠ j → cell l q C a (b + 1) z = cell l q C a b z := by
  obtain ⟨p1, p2⟩ := place (a := a) h0 h1
  rw [hj] at p1 p2
  refine ⟨?_, fun z hz => ?_⟩
  · unfold cell
    rw [p1, p2]
    rw [if_pos (show a = a ∧ q.col ≤ b ∧ b < b + 1 by omega), if_neg (show ¬ (a = a ∧ q.col ≤ b ∧ b < b) by omega)]
    omega
  · have hne : ¬ ((z : Int) / C = a ∧ (z : Int) % C = b) := fun ⟨e1, e2⟩ => by
      have h3 := Int.mul_ediv_add_emod (z : Int) C
      rw [e1, e2, Int.mul_comm] at h3
      omega
    unfold cell
    congr 1
    by_cases h : (z : Int) / C = a ∧ q.col ≤ (z : Int) % C ∧ (z : Int) % C < b + 1
    · rw [if_pos h, if_pos (by omega)]
    · rw [if_neg h, if_neg (by omega)]
theorem cell_start (l : List Bx) (q : Bx) (C : Int) (z : Nat) : cell l q C q.row q.col z = covs l ((z : Int) / C) ((z : Int) % C) := by
  unfold cell
  rw [if_neg (by omega), if_neg (by omega)]; omega
theorem cell_row {l : List Bx} {q : Bx} {C a : Int} (ha : q.row ≤ a) (z : Nat) : cell l q C a (q.col + q.cols) z = cell l q C (a + 1) q.col z := by
  unfold cell
  repeat' split
  all_goals omega
theorem cell_end {l : List Bx} {q : Bx} {C : Int} (z : Nat) : cell l q C (q.row + q.rows) q.col z = covs (l ++ [q]) ((z : Int) / C) ((z : Int) % C) := by
  rw [covs_append]
  unfold cell
  simp only [covs, cov]
  repeat' split
  all_goals omega

end Go.Proofs.YtflbfmfaccaffaaDoor
