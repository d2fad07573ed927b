/-
  A theory of regions whose order of operations is drawn, for operations that extend memory: an operation that in every extension of the world yields one value and leaves an extension may be taken first.
-/
import Derived.OrdersHeld
import Derived.Deep.Draws
import Derived.Below
import Derived.WalkKit
namespace Go.Proofs.Ytnlblmpfkikneaa
open Go Go.RowKit

/-- w' is w with new blocks (and draws): all that was there reads as before. -/
def Ext (w w' : World) : Prop := Below w.heap.size w w'
theorem hid {p : Prop} (h : p) : Hid p := h
theorem Ext.refl (w : World) : Ext w w := Below.refl _ _
theorem Ext.trans {a b c : World} (h : Ext a b) (k : Ext b c) : Ext a c :=
  Below.trans h (Below.mono k h.size)
theorem Ext.drew (w : World) : Ext w w.drew := ⟨rfl, rfl, rfl, Nat.le_refl _, fun _ _ => rfl⟩
theorem Ext.drewN (w : World) (n : Nat) : Ext w (w.drewN n) := ⟨rfl, rfl, rfl, Nat.le_refl _, fun _ _ => rfl⟩
theorem Ext.alloc (w : World) (o : Obj) : Ext w (w.alloc o) := (Below.refl _ _).alloc (Nat.le_refl _) _
theorem Ext.cell {w w' : World} (h : Ext w w') {p : Addr} {v : Value} (hc : w.cell? p = some v) : w'.cell? p = some v :=
  (Below.cell h (World.block_lt_of_cell? w p hc)).trans hc
theorem Ext.blk {w w' : World} (h : Ext w w') {g : Nat} {o : Obj} (hc : w.heap[g]? = some o) : w'.heap[g]? = some o :=
  (h.block g (Array.getElem?_eq_some_iff.1 hc).1).trans hc
theorem Ext.below {B : Nat} {w w' : World} (h : Ext w w') (hB : B ≤ w.heap.size) : Below B w w' := Below.mono h hB

theorem blk_new (w : World) (o : Obj) : (w.alloc o).heap[w.heap.size]? = some o := heap_alloc_new w o
theorem blk_at {w : World} {o : Obj} {g : Nat} (h : g = w.heap.size) : (w.alloc o).heap[g]? = some o := by subst h; exact blk_new w o
theorem cell_blk {w : World} {g j : Nat} {cs : Array Value} {t : TypeId} {fr : Nat × Nat} {v : Value} (h : w.heap[g]? = some (.cells cs t fr)) (hv : cs[j]? = some v) : w.cell? ⟨g, j, none⟩ = some v := by
  simp [World.cell?, h, hv]
theorem cell_new {w : World} {cs : Array Value} {t : TypeId} {fr : Nat × Nat} {j : Nat} {v : Value} (hv : cs[j]? = some v) : (w.alloc (.cells cs t fr)).cell? ⟨w.heap.size, j, none⟩ = some v :=
  cell_blk (blk_new w _) hv
theorem cell_drew {w : World} {a : Addr} {v : Value} (h : w.cell? a = some v) : w.drew.cell? a = some v := h

section
variable {P : Program} {ops : Array Oper} {Q : Exit → Act → World → Prop} {md : Region.Mode}

theorem eval_put_ne {a : Act} {d k : Nat} {v : Value} (h : d ≠ k) : (a.put (some d) v).eval (.tmp k) = a.eval (.tmp k) := Act.eval_put fun _ he hk => by
  cases he; cases hk; exact h rfl
theorem eval_put_none {a : Act} {x : Operand} {v : Value} : (a.put none v).eval x = a.eval x := rfl
theorem eval_put_same {a : Act} {d : Nat} {v : Value} (h : d < a.tmps.size) : (a.put (some d) v).eval (.tmp d) = v := by
  simp [Act.eval, Act.put, h]
theorem size_put {a : Act} {d : Option Tmp} {v : Value} : (a.put d v).tmps.size = a.tmps.size := by
  cases d <;> simp [Act.put]
theorem eval_const {a : Act} {v : Value} : a.eval (.const v) = v := rfl

/-- A struct is built. -/
theorem wpl_build {rest : List Oper} {o : Oper} {a : Act} {w : World} {t : TypeId} {parts : Array (Nat × Operand)} {v : Value} (hg : o.guard = none) (ho : o.op = .build t parts)
    (h : (Instr.build t (parts.toList.map fun x => (x.1, a.eval x.2)).toArray).run P w = .ok v w) (hk : wpList P ops Q rest (a.put o.dst v) w) : wpList P ops Q (o :: rest) a w :=
  wpList_plain hg fun K hK => by
    have he : (execOp a.eval o).run P w = .ok (.value v) w := by
      have hm : (parts.toList.map fun x => (x.1, a.eval x.2)).toArray = parts.map fun (i, x) => (i, a.eval x) := by
        rw [← Array.toList_map]
      rw [hm] at h
      simp only [execOp, ho]
      rw [Sem.run_bind, h]
      rfl
    unfold Oper.wp
    rw [he]
    exact hK _ _ hk

theorem wpl_build2 {rest : List Oper} {o : Oper} {a : Act} {w : World} (t : TypeId)
    (h : o.guard = none ∧ ∃ parts, o.op = .build t parts ∧ ∃ v, (Instr.build t (parts.toList.map fun x => (x.1, a.eval x.2)).toArray).run P w = .ok v w ∧ wpList P ops Q rest (a.put o.dst v) w) : wpList P ops Q (o :: rest) a w :=
  let ⟨hg, _, ho, _, hr, hk⟩ := h
  wpl_build hg ho hr hk

abbrev str (l : List UInt8) : Value := .string ⟨l.toArray⟩

/-- Strings are joined. -/
theorem wpl_adds {rest : List Oper} {o : Oper} {a : Act} {w : World} (x y : List UInt8)
    (h : o.guard = none ∧ ∃ t1 l r t2, o.op = .binOp .add t1 l r t2 ∧ a.eval l = str x ∧ a.eval r = str y ∧ x.length + y.length ≤ 9223372036854775807 ∧ wpList P ops Q rest (a.put o.dst (str (x ++ y))) w) : wpList P ops Q (o :: rest) a w := by
  obtain ⟨hg, t1, l, r, t2, ho, hl, hr, hs, hk⟩ := h
  refine wpList_plain hg fun K hK => ?_
  have hn : ¬ 9223372036854775807 < x.length + y.length := by omega
  have he : (execOp a.eval o).run P w = .ok (.value (str (x ++ y))) w := by
    simp only [execOp, ho, hl, hr, str]
    simp [go_sem, hn, ByteArray.mk_append_mk]
  unfold Oper.wp
  rw [he]
  exact hK _ _ hk

/-- What an operation came to: the value v, and an extension of w. -/
def extUpon (P : Program) (w : World) (v : Value) : Result Next → Prop
  | .ok (.value u) w' => u = v ∧ Ext w w'
  | .ok .skip w' => undef = v ∧ Ext w w'
  | .ok (.enter f args) w' => Calls P f args w' (fun e w'' => e = .returned v ∧ Ext w w'')
  | _ => False

/-- In every extension of w the operation yields v, and leaves an extension (or it is passed over). -/
def YieldsE (P : Program) (ops : Array Oper) (w : World) (o : Oper) (v : Value) (a : Act) : Prop :=
  (Region.wanted o (yielded ops a.tmps) = true ∧ ∀ w', Ext w w' → extUpon P w' v ((execOp a.eval o).run P w')) ∨
  (Region.wanted o (yielded ops a.tmps) = false ∧ v = undef)

theorem YieldsE.later {w w1 : World} {o : Oper} {v : Value} {a : Act} (h : YieldsE P ops w o v a) (he : Ext w w1) : YieldsE P ops w1 o v a :=
  h.imp (fun ⟨x, y⟩ => ⟨x, fun w' h' => y w' (he.trans h')⟩) id

theorem YieldsE.of_same {w : World} {o : Oper} {v : Value} {a a' : Act} (hy : YieldsE P ops w o v a) (he : execOp a'.eval o = execOp a.eval o)
    (hw : Region.wanted o (yielded ops a'.tmps) = Region.wanted o (yielded ops a.tmps)) : YieldsE P ops w o v a' := by
  unfold YieldsE at *
  rw [he, hw]
  exact hy

theorem wp_of_ext {o : Oper} {v : Value} {a : Act} {w w' : World} {K : Act → World → Prop}
    (h : extUpon P w' v ((execOp a.eval o).run P w)) (hK : ∀ w'', Ext w' w'' → K (a.put o.dst v) w'') : o.wp P a w K Q := by
  unfold Oper.wp
  generalize (execOp a.eval o).run P w = r at *
  cases r with
  | ok n w1 =>
    cases n <;> simp only [extUpon, Oper.upon] at h ⊢
    case value u => rw [h.1]; exact hK _ h.2
    case skip => rw [h.1]; exact hK _ h.2
    case enter f args =>
      refine Calls.mono h fun e w'' he => ?_
      obtain ⟨rfl, he⟩ := he
      exact hK _ he
  | halt x w1 => cases x <;> simp only [extUpon] at h

theorem YieldsE.wpOp {i : Nat} {w : World} {o : Oper} {v : Value} {a : Act} (hi : ops[i]? = some o) (hy : YieldsE P ops w o v a)
    {K : Act → World → Prop} (h : ∀ w', Ext w w' → K (a.put o.dst v) w') : wpOp P ops Q i K a w := by
  unfold Go.wpOp
  simp only [hi]
  rcases hy with ⟨hw, hv⟩ | ⟨hw, rfl⟩
  · simp only [hw, if_true]; exact .inl (wp_of_ext (hv w (Ext.refl w)) h)
  · simp only [hw, Bool.false_eq_true, if_false]; exact h _ (Ext.refl w)

/-- An operation j apart from i: run ahead of i it does the same. -/
theorem wpOp_before {j : Nat} {oi oj : Oper} {v : Value} (hj : ops[j]? = some oj) (hap : oi.apart ops oj = true)
    (hsi : ∀ cs b, oi.op ≠ .select cs b) (hsj : ∀ cs b, oj.op ≠ .select cs b)
    (hQ : ∀ c a w, Q (.panic c) (a.put oi.dst v) w → Q (.panic c) a w) {K : Act → World → Prop} {a : Act} {w w0 : World}
    (hy : YieldsE P ops w0 oi v a) (h : wpOp P ops Q j K (a.put oi.dst v) w) :
    wpOp P ops Q j (fun a' w' => YieldsE P ops w0 oi v a' ∧ K (a'.put oi.dst v) w') a w := by
  obtain ⟨h1, h2, h3⟩ := Oper.apart_spec hap
  have keep : ∀ (a : Act), YieldsE P ops w0 oi v a → ∀ u, YieldsE P ops w0 oi v (a.put oj.dst u) := fun a hy u =>
    hy.of_same (execOp_put oi hsi a oj.dst u h3) (wanted_put oi a oj.dst u h3)
  have keepD : ∀ d, YieldsE P ops w0 oi v { a with defers := d :: a.defers } := fun d => hy.of_same rfl rfl
  unfold wpOp at *
  simp only [hj] at *
  rw [wanted_put oj a oi.dst v h1] at h
  split
  · rename_i hw
    simp only [hw, if_true] at h
    rcases h with h | ⟨hasks, hlets⟩
    case inr => exact .inr ⟨by unfold Oper.asks at *; rw [execOp_put oj hsj a oi.dst v h1] at hasks; exact hasks, hlets⟩
    refine .inl ?_
    unfold Oper.wp at *
    rw [execOp_put oj hsj a oi.dst v h1] at h
    generalize (execOp a.eval oj).run P w = r at *
    cases r with
    | ok n w' =>
      cases n <;> simp only [Oper.upon] at h ⊢
      case value u => exact ⟨keep a hy u, by rw [← Act.put_comm a v u h2]; exact h⟩
      case skip => exact ⟨keep a hy _, by rw [← Act.put_comm a v undef h2]; exact h⟩
      case defer d =>
        refine ⟨keep _ (keepD d) _, ?_⟩
        rw [← Act.put_comm _ v undef h2, ← Act.put_defers]
        exact h
      case enter f args =>
        refine Calls.mono h fun e w'' he => ?_
        cases e with
        | returned u => exact ⟨keep a hy u, by rw [← Act.put_comm a v u h2]; exact he⟩
        | panicked c => exact hQ _ _ _ he
        | outgrown => exact he
      case row row args => exact Rows.mono h fun u w'' he => ⟨keep a hy u, by rw [← Act.put_comm a v u h2]; exact he⟩
    | halt x w' =>
      cases x <;> simp only [Oper.upon] at h ⊢
      case panic u => exact hQ _ _ _ h
  · rename_i hw
    simp only [hw] at h
    exact ⟨keep a hy _, by rw [← Act.put_comm a v undef h2]; exact h⟩

/-- Whatever order is picked from here on, in whatever extension of w; an operation from E on (in the text's order) need not leave an extension. -/
def wpAnyU (P : Program) (md : Region.Mode) (ops : Array Oper) (Q : Exit → Act → World → Prop) (E : Nat) : Nat → Array Bool → Act → World → Prop
  | 0, listed, a, w => ∀ w', Ext w w' → Region.ready md ops listed = [] ∧ Q .normal a w'
  | fuel + 1, listed, a, w => ∀ w', Ext w w' → (Region.ready md ops listed = [] → Q .normal a w') ∧
    ∀ j ∈ Region.ready md ops listed, wpOp P ops Q j (fun a' w'' => (j < E → Ext w' w'') ∧ wpAnyU P md ops Q E fuel (listed.setIfInBounds j true) a' w'') a w'

theorem wpAnyU_later {E : Nat} {w w1 : World} (he : Ext w w1) : ∀ {fuel : Nat} {listed : Array Bool} {a : Act}, wpAnyU P md ops Q E fuel listed a w → wpAnyU P md ops Q E fuel listed a w1
  | 0, _, _, h => fun w' h' => h w' (he.trans h')
  | _ + 1, _, _, h => fun w' h' => h w' (he.trans h')

theorem wpAny_of_U {E : Nat} : ∀ (fuel : Nat) (listed : Array Bool) (a : Act) (w : World), wpAnyU P md ops Q E fuel listed a w → wpAny P md ops Q fuel listed a w
  | 0, _, _, w, h => h w (Ext.refl w)
  | fuel + 1, _, _, w, h => ⟨(h w (Ext.refl w)).1, fun j hj => wpOp_mono (fun _ _ hk => wpAny_of_U fuel _ _ _ hk.2) ((h w (Ext.refl w)).2 j hj)⟩

theorem wpAnyU_first {E i : Nat} {oi : Oper} {v : Value} (D : Nat → Bool) (hi : ops[i]? = some oi) (hsel : ∀ (j : Nat) (o : Oper) cs b, ops[j]? = some o → o.op ≠ .select cs b)
    (hQ : ∀ c a w, Q (.panic c) (a.put oi.dst v) w → Q (.panic c) a w) (hDi : D i = false)
    (hDe : ∀ j oj, ops[j]? = some oj → D j = true → ∃ e ∈ oj.after, Region.binds md e = true ∧ (e.on = i ∨ D e.on = true)) :
    ∀ (fuel : Nat) (listed : Array Bool) (a : Act) (w : World), (∀ j, D j = true → listed.getD j true = false) →
      (∀ j oj, ops[j]? = some oj → j ≠ i → D j = false → listed.getD j true = false → (∀ e ∈ oj.after, Region.binds md e = true → e.on ≠ i) → oi.apart ops oj = true ∧ j < E) →
      i ∈ Region.ready md ops listed → YieldsE P ops w oi v a →
      wpAnyU P md ops Q E fuel (listed.setIfInBounds i true) (a.put oi.dst v) w → wpAnyU P md ops Q E (fuel + 1) listed a w := by
  intro fuel
  induction fuel with
  | zero =>
    intro listed a w _ _ hr hy H w' hw'
    refine ⟨fun h => (by rw [h] at hr; cases hr), fun j hj => ?_⟩
    by_cases hji : j = i
    · subst hji; exact (hy.later hw').wpOp hi fun w'' h'' => ⟨fun _ => h'', wpAnyU_later (hw'.trans h'') H⟩
    · have := ready_mono hj hji
      rw [(H w' hw').1] at this
      cases this
  | succ fuel ih =>
    intro listed a w hDl hfree hr hy H w' hw'
    refine ⟨fun h => (by rw [h] at hr; cases hr), fun j hj => ?_⟩
    by_cases hji : j = i
    · subst hji; exact (hy.later hw').wpOp hi fun w'' h'' => ⟨fun _ => h'', wpAnyU_later (hw'.trans h'') H⟩
    · have h1 := (H w' hw').2 j (ready_mono hj hji)
      obtain ⟨hjun, oj, hoj, hall⟩ := mem_ready.1 hj
      have hnot : ∀ e ∈ oj.after, Region.binds md e = true → e.on ≠ i := fun e he hb heq => by
        have h1 := hall e he hb
        have h0 := (mem_ready.1 hr).1
        rw [heq] at h1
        rcases Nat.lt_or_ge i listed.size with h' | h'
        · simp [h'] at h0 h1; rw [h0] at h1; cases h1
        · simp [Array.getElem?_eq_none h'] at h1
      have hDj : D j = false := by
        cases hd : D j with
        | false => rfl
        | true =>
          obtain ⟨e, he, hb, h'⟩ := hDe j oj hoj hd
          rcases h' with h' | h'
          · exact absurd h' (hnot e he hb)
          · have h1 := hall e he hb
            have h0 := hDl _ h'
            rcases Nat.lt_or_ge e.on listed.size with h2 | h2
            · simp [h2] at h0 h1; rw [h0] at h1; cases h1
            · simp [Array.getElem?_eq_none h2] at h1
      have hf := hfree j oj hoj hji hDj hjun hnot
      have h2 := wpOp_before hoj hf.1 (fun cs b => hsel i oi cs b hi) (fun cs b => hsel j oj cs b hoj) hQ hy h1
      have hDl' : ∀ k, D k = true → (listed.setIfInBounds j true).getD k true = false := fun k hk => by
        have hjk : j ≠ k := fun h => by subst h; rw [hDj] at hk; cases hk
        rw [getD_set_ne true hjk]; exact hDl k hk
      have hfree' : ∀ k ok, ops[k]? = some ok → k ≠ i → D k = false → (listed.setIfInBounds j true).getD k true = false →
          (∀ e ∈ ok.after, Region.binds md e = true → e.on ≠ i) → oi.apart ops ok = true ∧ k < E := fun k ok hk hki hd hun hno => by
        refine hfree k ok hk hki hd ?_ hno
        by_cases hjk : j = k
        · subst hjk; exact hjun
        · rw [getD_set_ne true hjk] at hun; exact hun
      refine wpOp_mono (fun a' w'' h3 => ?_) h2
      obtain ⟨hy', hE, hU⟩ := h3
      have hx := hE hf.2
      refine ⟨fun _ => hx, ih (listed.setIfInBounds j true) a' w'' hDl' hfree' (ready_mono hr (Ne.symm hji)) (hy'.later (hw'.trans hx)) ?_⟩
      rw [Array.setIfInBounds_comm _ _ hji]
      exact hU

/-- An operation whose value does not hang on the world at all may be taken ahead of whatever else. -/
theorem wpAnyU_pure {E i : Nat} {oi : Oper} {v : Value} (hi : ops[i]? = some oi) (hsel : ∀ (j : Nat) (o : Oper) cs b, ops[j]? = some o → o.op ≠ .select cs b)
    (hQ : ∀ c a w, Q (.panic c) (a.put oi.dst v) w → Q (.panic c) a w) :
    ∀ (fuel : Nat) (listed : Array Bool) (a : Act) (w : World),
      (∀ j oj, ops[j]? = some oj → j ≠ i → listed.getD j true = false → (∀ e ∈ oj.after, Region.binds md e = true → e.on ≠ i) → oi.apart ops oj = true) →
      i ∈ Region.ready md ops listed → Yields P ops oi v a →
      wpAnyU P md ops Q E fuel (listed.setIfInBounds i true) (a.put oi.dst v) w → wpAnyU P md ops Q E (fuel + 1) listed a w := by
  intro fuel
  induction fuel with
  | zero =>
    intro listed a w _ hr hy H w' hw'
    refine ⟨fun h => (by rw [h] at hr; cases hr), fun j hj => ?_⟩
    by_cases hji : j = i
    · subst hji; exact hy.wpOp hi ⟨fun _ => Ext.refl _, wpAnyU_later hw' H⟩
    · have := ready_mono hj hji
      rw [(H w' hw').1] at this
      cases this
  | succ fuel ih =>
    intro listed a w hfree hr hy H w' hw'
    refine ⟨fun h => (by rw [h] at hr; cases hr), fun j hj => ?_⟩
    by_cases hji : j = i
    · subst hji; exact hy.wpOp hi ⟨fun _ => Ext.refl _, wpAnyU_later hw' H⟩
    · have h1 := (H w' hw').2 j (ready_mono hj hji)
      obtain ⟨hjun, oj, hoj, hall⟩ := mem_ready.1 hj
      have hnot : ∀ e ∈ oj.after, Region.binds md e = true → e.on ≠ i := fun e he hb heq => by
        have h1 := hall e he hb
        have h0 := (mem_ready.1 hr).1
        rw [heq] at h1
        rcases Nat.lt_or_ge i listed.size with h' | h'
        · simp [h'] at h0 h1; rw [h0] at h1; cases h1
        · simp [Array.getElem?_eq_none h'] at h1
      have h2 := wpOp_put hoj (hfree j oj hoj hji hjun hnot) (fun cs b => hsel i oi cs b hi) (fun cs b => hsel j oj cs b hoj) hQ hy h1
      have hfree' : ∀ k ok, ops[k]? = some ok → k ≠ i → (listed.setIfInBounds j true).getD k true = false →
          (∀ e ∈ ok.after, Region.binds md e = true → e.on ≠ i) → oi.apart ops ok = true := fun k ok hk hki hun hno => by
        refine hfree k ok hk hki ?_ hno
        by_cases hjk : j = k
        · subst hjk; exact hjun
        · rw [getD_set_ne true hjk] at hun; exact hun
      refine wpOp_mono (fun a' w'' h3 => ?_) h2
      obtain ⟨hy', hE, hU⟩ := h3
      refine ⟨hE, ih (listed.setIfInBounds j true) a' w'' hfree' (ready_mono hr (Ne.symm hji)) hy' ?_⟩
      rw [Array.setIfInBounds_comm _ _ hji]
      exact hU

/-- All that wait for i, by way of whatever. -/
def waitsFor (md : Region.Mode) (ops : Array Oper) (i : Nat) : List Nat :=
  (List.range ops.size).foldl (fun acc j => match ops[j]? with
    | some oj => if oj.after.any (fun e => Region.binds md e && (e.on == i || acc.contains e.on)) then j :: acc else acc
    | none => acc) []
/-- May number i be taken first? It is ready; each other one that is not listed waits for it, or is apart from it and ahead of E. -/
def takeB (md : Region.Mode) (ops : Array Oper) (E : Nat) (listed : Array Bool) (i : Nat) : Bool :=
  let D := waitsFor md ops i
  Region.noSelect ops && (Region.ready md ops listed).contains i && !D.contains i &&
  (D.all fun j => listed.getD j true == false && match ops[j]? with
      | some oj => oj.after.any (fun e => Region.binds md e && (e.on == i || D.contains e.on))
      | none => true) &&
  (List.range ops.size).all fun j => j == i || listed.getD j true || D.contains j || match ops[j]?, ops[i]? with
      | some oj, some oi => oi.apart ops oj && decide (j < E)
      | _, _ => false

theorem takeB_spec {E i : Nat} {oi : Oper} {listed : Array Bool} (hi : ops[i]? = some oi) (h : takeB md ops E listed i = true) :
    ∃ D : Nat → Bool, (∀ (j : Nat) (o : Oper) cs b, ops[j]? = some o → o.op ≠ .select cs b) ∧ i ∈ Region.ready md ops listed ∧ D i = false ∧
    (∀ j oj, ops[j]? = some oj → D j = true → ∃ e ∈ oj.after, Region.binds md e = true ∧ (e.on = i ∨ D e.on = true)) ∧
    (∀ j, D j = true → listed.getD j true = false) ∧
    (∀ j oj, ops[j]? = some oj → j ≠ i → D j = false → listed.getD j true = false → (∀ e ∈ oj.after, Region.binds md e = true → e.on ≠ i) → oi.apart ops oj = true ∧ j < E) := by
  unfold takeB at h
  generalize waitsFor md ops i = D at h
  simp only [Bool.and_eq_true] at h
  obtain ⟨⟨⟨⟨h1, h2⟩, h3⟩, h4⟩, h5⟩ := h
  have h4' := List.all_eq_true.1 h4
  refine ⟨fun j => D.contains j, Region.noSelect_spec h1, by simpa using h2, by simpa using h3, fun j oj hj hd => ?_, fun j hd => ?_, fun j oj hj hne hd hun _ => ?_⟩
  · have h6 := h4' j (by simpa using hd)
    simp only [hj, Bool.and_eq_true] at h6
    obtain ⟨e, he, hb⟩ := Array.any_eq_true'.1 h6.2
    simp only [Bool.and_eq_true, Bool.or_eq_true, beq_iff_eq] at hb
    exact ⟨e, he, hb.1, hb.2⟩
  · have h6 := h4' j (by simpa using hd)
    simp only [Bool.and_eq_true, beq_iff_eq] at h6
    exact h6.1
  · have h6 := (List.all_eq_true.1 h5) j (by rw [List.mem_range]; exact (Array.getElem?_eq_some_iff.1 hj).1)
    simp only [hj, hi, hd, Bool.or_eq_true, beq_iff_eq, hne, false_or, hun, Bool.false_eq_true, Bool.and_eq_true, decide_eq_true_eq] at h6
    exact h6

/-- Within the region nothing panics. -/
def calm (Q : Exit → Act → World → Prop) : Exit → Act → World → Prop
  | .normal, a, w => Q .normal a w
  | .outgrown, a, w => Q .outgrown a w
  | _, _, _ => False

/-- Begin: a region that draws its order. E: from which number on an operation may write what was there. -/
theorem reg_begin {id : Nat} {l : List Oper} {a : Act} {w : World} (E : Nat) (hm : P.follows .mixedOrders = true)
    (h : wpAnyU P .any l.toArray (calm Q) E l.toArray.size (Array.replicate l.toArray.size false) a w.drew) : (Code.region id l.toArray true).wp P Q a w := by
  refine Code.wp_mono (Q := calm Q) (fun e a w h => ?_) (wp_region_any hm (wpAny_of_U _ _ _ _ h))
  cases e <;> first | exact h | exact h.elim

/-- Take number i first. -/
theorem reg_take {E i fuel : Nat} {oi : Oper} {v : Value} {listed : Array Bool} {a : Act} {w : World} (hi : ops[i]? = some oi) (hB : takeB md ops E listed i = true)
    (hy : YieldsE P ops w oi v a) (h : wpAnyU P md ops (calm Q) E fuel (listed.setIfInBounds i true) (a.put oi.dst v) w) : wpAnyU P md ops (calm Q) E (fuel + 1) listed a w :=
  have ⟨D, h1, h2, h3, h4, h5, h6⟩ := takeB_spec hi hB
  wpAnyU_first D hi h1 (fun _ _ _ h => h) h3 h4 fuel listed a w h5 h6 h2 hy h

theorem at_drop {l tl : List Oper} {i : Nat} {o : Oper} (h : l.drop i = o :: tl) : l.toArray[i]? = some o := by
  have h1 := congrArg List.head? h
  simpa [List.head?_drop] using h1

/-- The same, the value to be found. -/
theorem reg_quiet {E fuel : Nat} {l tl : List Oper} {oi : Oper} {listed : Array Bool} {a : Act} {w : World} (i : Nat) (hi : l.drop i = oi :: tl) (hB : takeB md l.toArray E listed i = true)
    (hw : Region.wanted oi (yielded l.toArray a.tmps) = true)
    (h : ∃ v, (∀ w', Ext w w' → extUpon P w' v ((execOp a.eval oi).run P w')) ∧ wpAnyU P md l.toArray (calm Q) E fuel (listed.setIfInBounds i true) (a.put oi.dst v) w) : wpAnyU P md l.toArray (calm Q) E (fuel + 1) listed a w :=
  let ⟨_, h1, h2⟩ := h
  reg_take (at_drop hi) hB (.inl ⟨hw, h1⟩) h2

/-- May number i, whose value does not hang on the world, be taken first? -/
def pureB (md : Region.Mode) (ops : Array Oper) (listed : Array Bool) (i : Nat) : Bool :=
  Region.noSelect ops && (Region.ready md ops listed).contains i && Region.free md ops listed i

theorem reg_pure {E fuel : Nat} {l tl : List Oper} {oi : Oper} {listed : Array Bool} {a : Act} {w : World} (i : Nat) (hi : l.drop i = oi :: tl) (hB : pureB md l.toArray listed i = true)
    (hw : Region.wanted oi (yielded l.toArray a.tmps) = true)
    (h : ∃ v, (∀ w', (execOp a.eval oi).run P w' = .ok (.value v) w') ∧ wpAnyU P md l.toArray (calm Q) E fuel (listed.setIfInBounds i true) (a.put oi.dst v) w) : wpAnyU P md l.toArray (calm Q) E (fuel + 1) listed a w := by
  obtain ⟨v, h1, h2⟩ := h
  simp only [pureB, Bool.and_eq_true] at hB
  obtain ⟨⟨b1, b2⟩, b3⟩ := hB
  exact wpAnyU_pure (at_drop hi) (Region.noSelect_spec b1) (fun _ _ _ h => h) fuel listed a w (Region.free_spec (at_drop hi) b3) (by simpa using b2) (.inl ⟨hw, h1⟩) h2

/-- All that are ready, in whatever extension. -/
theorem reg_all {E fuel : Nat} {rs : List Nat} {listed : Array Bool} {a : Act} {w : World} (hr : Region.ready md ops listed = rs) (hne : rs ≠ [])
    (h : ∀ w', Ext w w' → ∀ j ∈ rs, wpOp P ops (calm Q) j (fun a' w'' => (j < E → Ext w' w'') ∧ wpAnyU P md ops (calm Q) E fuel (listed.setIfInBounds j true) a' w'') a w') :
    wpAnyU P md ops (calm Q) E (fuel + 1) listed a w :=
  fun w' hw' => ⟨fun h0 => absurd (hr ▸ h0) hne, hr ▸ h w' hw'⟩

/-- The one that is ready. -/
theorem reg_one {E fuel : Nat} {l tl : List Oper} {oi : Oper} {listed : Array Bool} {a : Act} {w : World} (i : Nat) (hi : l.drop i = oi :: tl) (hr : (Region.ready md l.toArray listed == [i]) = true)
    (hw : Region.wanted oi (yielded l.toArray a.tmps) = true)
    (h : ∀ w', Ext w w' → oi.wp P a w' (fun a' w'' => (i < E → Ext w' w'') ∧ wpAnyU P md l.toArray (calm Q) E fuel (listed.setIfInBounds i true) a' w'') (calm Q)) :
    wpAnyU P md l.toArray (calm Q) E (fuel + 1) listed a w :=
  reg_all (beq_iff_eq.1 hr) (by simp) fun w' hw' j hj => by
    simp only [List.mem_singleton] at hj
    subst hj
    unfold wpOp
    simp only [at_drop hi, hw, if_true]
    exact .inl (h w' hw')

/-- One of the two that are ready. -/
theorem reg_two {E fuel : Nat} {l tl tl2 : List Oper} {oi oj : Oper} {listed : Array Bool} {a : Act} {w : World} (i j : Nat) (hi : l.drop i = oi :: tl) (hj : l.drop j = oj :: tl2) (hr : (Region.ready md l.toArray listed == [i, j]) = true)
    (hwi : Region.wanted oi (yielded l.toArray a.tmps) = true) (hwj : Region.wanted oj (yielded l.toArray a.tmps) = true)
    (h1 : ∀ w', Ext w w' → oi.wp P a w' (fun a' w'' => (i < E → Ext w' w'') ∧ wpAnyU P md l.toArray (calm Q) E fuel (listed.setIfInBounds i true) a' w'') (calm Q))
    (h2 : ∀ w', Ext w w' → oj.wp P a w' (fun a' w'' => (j < E → Ext w' w'') ∧ wpAnyU P md l.toArray (calm Q) E fuel (listed.setIfInBounds j true) a' w'') (calm Q)) :
    wpAnyU P md l.toArray (calm Q) E (fuel + 1) listed a w :=
  reg_all (beq_iff_eq.1 hr) (by simp) fun w' hw' k hk => by
    simp only [List.mem_cons, List.not_mem_nil, or_false] at hk
    rcases hk with rfl | rfl
    · unfold wpOp
      simp only [at_drop hi, hwi, if_true]
      exact .inl (h1 w' hw')
    · unfold wpOp
      simp only [at_drop hj, hwj, if_true]
      exact .inl (h2 w' hw')

/-- At the end. -/
theorem reg_done {E : Nat} {listed : Array Bool} {a : Act} {w : World} (hr : (Region.ready md ops listed).isEmpty = true) (h : ∀ w', Ext w w' → Q .normal a w') :
    ∀ fuel, wpAnyU P md ops (calm Q) E fuel listed a w
  | 0 => fun w' hw' => ⟨List.isEmpty_iff.1 hr, h w' hw'⟩
  | _ + 1 => fun w' hw' => ⟨fun _ => h w' hw', by rw [List.isEmpty_iff.1 hr]; simp⟩

end
end Go.Proofs.Ytnlblmpfkikneaa
