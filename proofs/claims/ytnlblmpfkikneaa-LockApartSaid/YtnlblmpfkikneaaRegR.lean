/-
  Regions whose order is drawn, for operations that keep what matters (a relation R of worlds) but need not leave an extension.
-/
import Derived.Test.YtnlblmpfkikneaaReg
namespace Go.Proofs.Ytnlblmpfkikneaa
open Go Go.RowKit

/-- A relation that extensions keep. -/
structure RelOk (R : World → World → Prop) : Prop where
  ext : ∀ {w w'}, Ext w w' → R w w'
  trans : ∀ {a b c}, R a b → R b c → R a c
theorem RelOk.refl {R : World → World → Prop} (h : RelOk R) (w : World) : R w w := h.ext (Ext.refl w)

section
variable {P : Program} {ops : Array Oper} {Q : Exit → Act → World → Prop} {md : Region.Mode} {R : World → World → Prop}

/-- In every extension of w the operation yields v, and leaves an extension (or it is passed over). -/
def YieldsR (R : World → World → Prop) (P : Program) (ops : Array Oper) (w : World) (o : Oper) (v : Value) (a : Act) : Prop :=
  (Region.wanted o (yielded ops a.tmps) = true ∧ ∀ w', R w w' → extUpon P w' v ((execOp a.eval o).run P w')) ∨
  (Region.wanted o (yielded ops a.tmps) = false ∧ v = undef)

theorem YieldsR.later {w w1 : World} {o : Oper} {v : Value} {a : Act} (h : YieldsR R P ops w o v a) (hR : RelOk R) (he : R w w1) : YieldsR R P ops w1 o v a :=
  h.imp (fun ⟨x, y⟩ => ⟨x, fun w' h' => y w' (hR.trans he h')⟩) id

theorem YieldsR.of_same {w : World} {o : Oper} {v : Value} {a a' : Act} (hy : YieldsR R P ops w o v a) (he : execOp a'.eval o = execOp a.eval o)
    (hw : Region.wanted o (yielded ops a'.tmps) = Region.wanted o (yielded ops a.tmps)) : YieldsR R P ops w o v a' := by
  unfold YieldsR at *
  rw [he, hw]
  exact hy

theorem YieldsR.wpOp {i : Nat} {w : World} {o : Oper} {v : Value} {a : Act} (hR : RelOk R) (hi : ops[i]? = some o) (hy : YieldsR R P ops w o v a)
    {K : Act → World → Prop} (h : ∀ w', Ext w w' → K (a.put o.dst v) w') : wpOp P ops Q i K a w := by
  unfold Go.wpOp
  simp only [hi]
  rcases hy with ⟨hw, hv⟩ | ⟨hw, rfl⟩
  · simp only [hw, if_true]; exact .inl (wp_of_ext (hv w (hR.refl w)) h)
  · simp only [hw, Bool.false_eq_true, if_false]; exact h _ (Ext.refl w)

/-- An operation j apart from i: run ahead of i it does the same. -/
theorem wpOp_beforeR {j : Nat} {oi oj : Oper} {v : Value} (hj : ops[j]? = some oj) (hap : oi.apart ops oj = true)
    (hsi : ∀ cs b, oi.op ≠ .select cs b) (hsj : ∀ cs b, oj.op ≠ .select cs b)
    (hQ : ∀ c a w, Q (.panic c) (a.put oi.dst v) w → Q (.panic c) a w) {K : Act → World → Prop} {a : Act} {w w0 : World}
    (hy : YieldsR R P ops w0 oi v a) (h : wpOp P ops Q j K (a.put oi.dst v) w) :
    wpOp P ops Q j (fun a' w' => YieldsR R P ops w0 oi v a' ∧ K (a'.put oi.dst v) w') a w := by
  obtain ⟨h1, h2, h3⟩ := Oper.apart_spec hap
  have keep : ∀ (a : Act), YieldsR R P ops w0 oi v a → ∀ u, YieldsR R P ops w0 oi v (a.put oj.dst u) := fun a hy u =>
    hy.of_same (execOp_put oi hsi a oj.dst u h3) (wanted_put oi a oj.dst u h3)
  have keepD : ∀ d, YieldsR R P ops w0 oi v { a with defers := d :: a.defers } := fun d => hy.of_same rfl rfl
  unfold wpOp at *
  simp only [hj] at *
  rw [wanted_put oj a oi.dst v h1] at h
  split
  · rename_i hw
    simp only [hw, if_true] at h
    rcases h with h | ⟨hasks, hlets⟩
    case inr => exact .inr ⟨by unfold Oper.asks at *; rw [execOp_put oj hsj a oi.dst v h1] at hasks; exact hasks, hlets⟩
    refine .inl ?_
    unfold Oper.wp at *
    rw [execOp_put oj hsj a oi.dst v h1] at h
    generalize (execOp a.eval oj).run P w = r at *
    cases r with
    | ok n w' =>
      cases n <;> simp only [Oper.upon] at h ⊢
      case value u => exact ⟨keep a hy u, by rw [← Act.put_comm a v u h2]; exact h⟩
      case skip => exact ⟨keep a hy _, by rw [← Act.put_comm a v undef h2]; exact h⟩
      case defer d =>
        refine ⟨keep _ (keepD d) _, ?_⟩
        rw [← Act.put_comm _ v undef h2, ← Act.put_defers]
        exact h
      case enter f args =>
        refine Calls.mono h fun e w'' he => ?_
        cases e with
        | returned u => exact ⟨keep a hy u, by rw [← Act.put_comm a v u h2]; exact he⟩
        | panicked c => exact hQ _ _ _ he
        | outgrown => exact he
      case row row args => exact Rows.mono h fun u w'' he => ⟨keep a hy u, by rw [← Act.put_comm a v u h2]; exact he⟩
    | halt x w' =>
      cases x <;> simp only [Oper.upon] at h ⊢
      case panic u => exact hQ _ _ _ h
  · rename_i hw
    simp only [hw] at h
    exact ⟨keep a hy _, by rw [← Act.put_comm a v undef h2]; exact h⟩

/-- Whatever order is picked from here on, in whatever extension of w. -/
def wpAnyR (P : Program) (md : Region.Mode) (ops : Array Oper) (R : World → World → Prop) (Q : Exit → Act → World → Prop) : Nat → Array Bool → Act → World → Prop
  | 0, listed, a, w => ∀ w', Ext w w' → Region.ready md ops listed = [] ∧ Q .normal a w'
  | fuel + 1, listed, a, w => ∀ w', Ext w w' → (Region.ready md ops listed = [] → Q .normal a w') ∧
    ∀ j ∈ Region.ready md ops listed, wpOp P ops Q j (fun a' w'' => R w' w'' ∧ wpAnyR P md ops R Q fuel (listed.setIfInBounds j true) a' w'') a w'

theorem wpAnyR_later {w w1 : World} (he : Ext w w1) : ∀ {fuel : Nat} {listed : Array Bool} {a : Act}, wpAnyR P md ops R Q fuel listed a w → wpAnyR P md ops R Q fuel listed a w1
  | 0, _, _, h => fun w' h' => h w' (he.trans h')
  | _ + 1, _, _, h => fun w' h' => h w' (he.trans h')

theorem wpAny_of_R : ∀ (fuel : Nat) (listed : Array Bool) (a : Act) (w : World), wpAnyR P md ops R Q fuel listed a w → wpAny P md ops Q fuel listed a w
  | 0, _, _, w, h => h w (Ext.refl w)
  | fuel + 1, _, _, w, h => ⟨(h w (Ext.refl w)).1, fun j hj => wpOp_mono (fun _ _ hk => wpAny_of_R fuel _ _ _ hk.2) ((h w (Ext.refl w)).2 j hj)⟩

theorem wpAnyR_first {i : Nat} {oi : Oper} {v : Value} (D : Nat → Bool) (hR : RelOk R) (hi : ops[i]? = some oi) (hsel : ∀ (j : Nat) (o : Oper) cs b, ops[j]? = some o → o.op ≠ .select cs b)
    (hQ : ∀ c a w, Q (.panic c) (a.put oi.dst v) w → Q (.panic c) a w) (hDi : D i = false)
    (hDe : ∀ j oj, ops[j]? = some oj → D j = true → ∃ e ∈ oj.after, Region.binds md e = true ∧ (e.on = i ∨ D e.on = true)) :
    ∀ (fuel : Nat) (listed : Array Bool) (a : Act) (w : World), (∀ j, D j = true → listed.getD j true = false) →
      (∀ j oj, ops[j]? = some oj → j ≠ i → D j = false → listed.getD j true = false → (∀ e ∈ oj.after, Region.binds md e = true → e.on ≠ i) → oi.apart ops oj = true) →
      i ∈ Region.ready md ops listed → YieldsR R P ops w oi v a →
      wpAnyR P md ops R Q fuel (listed.setIfInBounds i true) (a.put oi.dst v) w → wpAnyR P md ops R Q (fuel + 1) listed a w := by
  intro fuel
  induction fuel with
  | zero =>
    intro listed a w _ _ hr hy H w' hw'
    refine ⟨fun h => (by rw [h] at hr; cases hr), fun j hj => ?_⟩
    by_cases hji : j = i
    · subst hji; exact (hy.later hR (hR.ext hw')).wpOp hR hi fun w'' h'' => ⟨hR.ext h'', wpAnyR_later (hw'.trans h'') H⟩
    · have := ready_mono hj hji
      rw [(H w' hw').1] at this
      cases this
  | succ fuel ih =>
    intro listed a w hDl hfree hr hy H w' hw'
    refine ⟨fun h => (by rw [h] at hr; cases hr), fun j hj => ?_⟩
    by_cases hji : j = i
    · subst hji; exact (hy.later hR (hR.ext hw')).wpOp hR hi fun w'' h'' => ⟨hR.ext h'', wpAnyR_later (hw'.trans h'') H⟩
    · have h1 := (H w' hw').2 j (ready_mono hj hji)
      obtain ⟨hjun, oj, hoj, hall⟩ := mem_ready.1 hj
      have hnot : ∀ e ∈ oj.after, Region.binds md e = true → e.on ≠ i := fun e he hb heq => by
        have h1 := hall e he hb
        have h0 := (mem_ready.1 hr).1
        rw [heq] at h1
        rcases Nat.lt_or_ge i listed.size with h' | h'
        · simp [h'] at h0 h1; rw [h0] at h1; cases h1
        · simp [Array.getElem?_eq_none h'] at h1
      have hDj : D j = false := by
        cases hd : D j with
        | false => rfl
        | true =>
          obtain ⟨e, he, hb, h'⟩ := hDe j oj hoj hd
          rcases h' with h' | h'
          · exact absurd h' (hnot e he hb)
          · have h1 := hall e he hb
            have h0 := hDl _ h'
            rcases Nat.lt_or_ge e.on listed.size with h2 | h2
            · simp [h2] at h0 h1; rw [h0] at h1; cases h1
            · simp [Array.getElem?_eq_none h2] at h1
      have hf := hfree j oj hoj hji hDj hjun hnot
      have h2 := wpOp_beforeR hoj hf (fun cs b => hsel i oi cs b hi) (fun cs b => hsel j oj cs b hoj) hQ hy h1
      have hDl' : ∀ k, D k = true → (listed.setIfInBounds j true).getD k true = false := fun k hk => by
        have hjk : j ≠ k := fun h => by subst h; rw [hDj] at hk; cases hk
        rw [getD_set_ne true hjk]; exact hDl k hk
      have hfree' : ∀ k ok, ops[k]? = some ok → k ≠ i → D k = false → (listed.setIfInBounds j true).getD k true = false →
          (∀ e ∈ ok.after, Region.binds md e = true → e.on ≠ i) → oi.apart ops ok = true := fun k ok hk hki hd hun hno => by
        refine hfree k ok hk hki hd ?_ hno
        by_cases hjk : j = k
        · subst hjk; exact hjun
        · rw [getD_set_ne true hjk] at hun; exact hun
      refine wpOp_mono (fun a' w'' h3 => ?_) h2
      obtain ⟨hy', hE, hU⟩ := h3
      have hx := hE
      refine ⟨hx, ih (listed.setIfInBounds j true) a' w'' hDl' hfree' (ready_mono hr (Ne.symm hji)) (hy'.later hR (hR.trans (hR.ext hw') hx)) ?_⟩
      rw [Array.setIfInBounds_comm _ _ hji]
      exact hU

/-- May number i be taken first? It is ready; each other one that is not listed waits for it, or is apart from it. -/
def takeR (md : Region.Mode) (ops : Array Oper) (listed : Array Bool) (i : Nat) : Bool :=
  let D := waitsFor md ops i
  Region.noSelect ops && (Region.ready md ops listed).contains i && !D.contains i &&
  (D.all fun j => listed.getD j true == false && match ops[j]? with
      | some oj => oj.after.any (fun e => Region.binds md e && (e.on == i || D.contains e.on))
      | none => true) &&
  (List.range ops.size).all fun j => j == i || listed.getD j true || D.contains j || match ops[j]?, ops[i]? with
      | some oj, some oi => oi.apart ops oj
      | _, _ => false

theorem takeR_spec {i : Nat} {oi : Oper} {listed : Array Bool} (hi : ops[i]? = some oi) (h : takeR md ops listed i = true) :
    ∃ D : Nat → Bool, (∀ (j : Nat) (o : Oper) cs b, ops[j]? = some o → o.op ≠ .select cs b) ∧ i ∈ Region.ready md ops listed ∧ D i = false ∧
    (∀ j oj, ops[j]? = some oj → D j = true → ∃ e ∈ oj.after, Region.binds md e = true ∧ (e.on = i ∨ D e.on = true)) ∧
    (∀ j, D j = true → listed.getD j true = false) ∧
    (∀ j oj, ops[j]? = some oj → j ≠ i → D j = false → listed.getD j true = false → (∀ e ∈ oj.after, Region.binds md e = true → e.on ≠ i) → oi.apart ops oj = true) := by
  unfold takeR at h
  generalize waitsFor md ops i = D at h
  simp only [Bool.and_eq_true] at h
  obtain ⟨⟨⟨⟨h1, h2⟩, h3⟩, h4⟩, h5⟩ := h
  have h4' := List.all_eq_true.1 h4
  refine ⟨fun j => D.contains j, Region.noSelect_spec h1, by simpa using h2, by simpa using h3, fun j oj hj hd => ?_, fun j hd => ?_, fun j oj hj hne hd hun _ => ?_⟩
  · have h6 := h4' j (by simpa using hd)
    simp only [hj, Bool.and_eq_true] at h6
    obtain ⟨e, he, hb⟩ := Array.any_eq_true'.1 h6.2
    simp only [Bool.and_eq_true, Bool.or_eq_true, beq_iff_eq] at hb
    exact ⟨e, he, hb.1, hb.2⟩
  · have h6 := h4' j (by simpa using hd)
    simp only [Bool.and_eq_true, beq_iff_eq] at h6
    exact h6.1
  · have h6 := (List.all_eq_true.1 h5) j (by rw [List.mem_range]; exact (Array.getElem?_eq_some_iff.1 hj).1)
    simp only [hj, hi, hd, Bool.or_eq_true, beq_iff_eq, hne, false_or, hun, Bool.false_eq_true] at h6
    exact h6

/-- Begin. -/
theorem regR_begin {id : Nat} {l : List Oper} {a : Act} {w : World} (R : World → World → Prop) (hm : P.follows .mixedOrders = true)
    (h : wpAnyR P .any l.toArray R (calm Q) l.toArray.size (Array.replicate l.toArray.size false) a w.drew) : (Code.region id l.toArray true).wp P Q a w := by
  refine Code.wp_mono (Q := calm Q) (fun e a w h => ?_) (wp_region_any hm (wpAny_of_R _ _ _ _ h))
  cases e <;> first | exact h | exact h.elim

theorem regR_quiet {fuel : Nat} {l tl : List Oper} {oi : Oper} {listed : Array Bool} {a : Act} {w : World} (hR : RelOk R) (i : Nat) (hi : l.drop i = oi :: tl) (hB : takeR md l.toArray listed i = true)
    (hw : Region.wanted oi (yielded l.toArray a.tmps) = true)
    (h : ∃ v, (∀ w', R w w' → extUpon P w' v ((execOp a.eval oi).run P w')) ∧ wpAnyR P md l.toArray R (calm Q) fuel (listed.setIfInBounds i true) (a.put oi.dst v) w) : wpAnyR P md l.toArray R (calm Q) (fuel + 1) listed a w :=
  let ⟨_, h1, h2⟩ := h
  have ⟨D, g1, g2, g3, g4, g5, g6⟩ := takeR_spec (at_drop hi) hB
  wpAnyR_first D hR (at_drop hi) g1 (fun _ _ _ h => h) g3 g4 fuel listed a w g5 g6 g2 (.inl ⟨hw, h1⟩) h2

/-- The one that is ready. -/
theorem regR_one {fuel : Nat} {l tl : List Oper} {oi : Oper} {listed : Array Bool} {a : Act} {w : World} (i : Nat) (hi : l.drop i = oi :: tl) (hr : (Region.ready md l.toArray listed == [i]) = true)
    (hw : Region.wanted oi (yielded l.toArray a.tmps) = true)
    (h : ∀ w', Ext w w' → oi.wp P a w' (fun a' w'' => R w' w'' ∧ wpAnyR P md l.toArray R (calm Q) fuel (listed.setIfInBounds i true) a' w'') (calm Q)) :
    wpAnyR P md l.toArray R (calm Q) (fuel + 1) listed a w := fun w' hw' => by
  rw [beq_iff_eq.1 hr]
  refine ⟨fun h0 => absurd h0 (by simp), fun j hj => ?_⟩
  simp only [List.mem_singleton] at hj
  subst hj
  unfold wpOp
  simp only [at_drop hi, hw, if_true]
  exact .inl (h w' hw')

/-- At the end. -/
theorem regR_done {listed : Array Bool} {a : Act} {w : World} (hr : (Region.ready md ops listed).isEmpty = true) (h : ∀ w', Ext w w' → Q .normal a w') :
    ∀ fuel, wpAnyR P md ops R (calm Q) fuel listed a w
  | 0 => fun w' hw' => ⟨List.isEmpty_iff.1 hr, h w' hw'⟩
  | _ + 1 => fun w' hw' => ⟨fun _ => h w' hw', by rw [List.isEmpty_iff.1 hr]; simp⟩

/-- One block stays. -/
def Keeps (b : Nat) (w w' : World) : Prop := b < w.heap.size → b < w'.heap.size ∧ w'.heap[b]? = w.heap[b]?
theorem Keeps.ok (b : Nat) : RelOk (Keeps b) :=
  ⟨fun h hb => ⟨Nat.lt_of_lt_of_le hb h.size, h.block b hb⟩, fun h k hb => ⟨(k (h hb).1).1, (k (h hb).1).2.trans (h hb).2⟩⟩
theorem Keeps.blk {b : Nat} {w w' : World} {o : Obj} (h : Keeps b w w') (hb : w.heap[b]? = some o) : w'.heap[b]? = some o :=
  (h (Array.getElem?_eq_some_iff.1 hb).1).2.trans hb

end
end Go.Proofs.Ytnlblmpfkikneaa
