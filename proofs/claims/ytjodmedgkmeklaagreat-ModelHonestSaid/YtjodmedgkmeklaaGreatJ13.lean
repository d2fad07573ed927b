/-
  Texts merged: RegR, Q7.
-/
import Derived.Test.YtjodmedgkmeklaaGreatJ01
import Derived.Test.YtjodmedgkmeklaaGreatJ12
/-
  Regions whose order is drawn, for operations that keep what matters (a relation R of worlds) but need not leave an extension.
-/
namespace Go.Proofs.YtjodmedgkmeklaaGreat
open Go Go.RowKit

/-- A relation that extensions keep. -/
structure RelOk (R : World → World → Prop) : Prop where
  ext : ∀ {w w'}, Ext w w' → R w w'
  trans : ∀ {a b c}, R a b → R b c → R a c
theorem RelOk.refl {R : World → World → Prop} (h : RelOk R) (w : World) : R w w := h.ext (Ext.refl w)

section
variable {P : Program} {ops : Array Oper} {Q : Exit → Act → World → Prop} {md : Region.Mode} {R : World → World → Prop}

/-- In every extension of w the operation yields v, and leaves an extension (or it is passed over). -/
def YieldsR (R : World → World → Prop) (P : Program) (ops : Array Oper) (w : World) (o : Oper) (v : Value) (a : Act) : Prop :=
  (Region.wanted o (yielded ops a.tmps) = true ∧ ∀ w', R w w' → extUpon P w' v ((execOp a.eval o).run P w')) ∨
  (Region.wanted o (yielded ops a.tmps) = false ∧ v = undef)

theorem YieldsR.later {w w1 : World} {o : Oper} {v : Value} {a : Act} (h : YieldsR R P ops w o v a) (hR : RelOk R) (he : R w w1) : YieldsR R P ops w1 o v a :=
  h.imp (fun ⟨x, y⟩ => ⟨x, fun w' h' => y w' (hR.trans he h')⟩) id

theorem YieldsR.of_same {w : World} {o : Oper} {v : Value} {a a' : Act} (hy : YieldsR R P ops w o v a) (he : execOp a'.eval o = execOp a.eval o)
    (hw : Region.wanted o (yielded ops a'.tmps) = Region.wanted o (yielded ops a.tmps)) : YieldsR R P ops w o v a' := by
  unfold YieldsR at *
  rw [he, hw]
  exact hy

theorem YieldsR.wpOp {i : Nat} {w : World} {o : Oper} {v : Value} {a : Act} (hR : RelOk R) (hi : ops[i]? = some o) (hy : YieldsR R P ops w o v a)
    {K : Act → World → Prop} (h : ∀ w', Ext w w' → K (a.put o.dst v) w') : wpOp P ops Q i K a w := by
  unfold Go.wpOp
  simp only [hi]
  rcases hy with ⟨hw, hv⟩ | ⟨hw, rfl⟩
  · simp only [hw, if_true]; exact .inl (wp_of_ext (hv w (hR.refl w)) h)
  · simp only [hw, Bool.false_eq_true, if_false]; exact h _ (Ext.refl w)

/-- An operation j apart from i: run ahead of i it does the same. -/
theorem wpOp_beforeR {j : Nat} {oi oj : Oper} {v : Value} (hj : ops[j]? = some oj) (hap : oi.apart ops oj = true)
    (hsi : ∀ cs b, oi.op ≠ .select cs b) (hsj : ∀ cs b, oj.op ≠ .select cs b)
    (hQ : ∀ c a w, Q (.panic c) (a.put oi.dst v) w → Q (.panic c) a w) {K : Act → World → Prop} {a : Act} {w w0 : World}
    (hy : YieldsR R P ops w0 oi v a) (h : wpOp P ops Q j K (a.put oi.dst v) w) :
    wpOp P ops Q j (fun a' w' => YieldsR R P ops w0 oi v a' ∧ K (a'.put oi.dst v) w') a w := by
  obtain ⟨h1, h2, h3⟩ := Oper.apart_spec hap
  have keep : ∀ (a : Act), YieldsR R P ops w0 oi v a → ∀ u, YieldsR R P ops w0 oi v (a.put oj.dst u) := fun a hy u =>
    hy.of_same (execOp_put oi hsi a oj.dst u h3) (wanted_put oi a oj.dst u h3)
  have keepD : ∀ d, YieldsR R P ops w0 oi v { a with defers := d :: a.defers } := fun d => hy.of_same rfl rfl
  unfold wpOp at *
  simp only [hj] at *
  rw [wanted_put oj a oi.dst v h1] at h
  split
  · rename_i hw
    simp only [hw, if_true] at h
    rcases h with h | ⟨hasks, hlets⟩
    case inr => exact .inr ⟨by unfold Oper.asks at *; rw [execOp_put oj hsj a oi.dst v h1] at hasks; exact hasks, hlets⟩
    refine .inl ?_
    unfold Oper.wp at *
    rw [execOp_put oj hsj a oi.dst v h1] at h
    generalize (execOp a.eval oj).run P w = r at *
    cases r with
    | ok n w' =>
      cases n <;> simp only [Oper.upon] at h ⊢
      case value u => exact ⟨keep a hy u, by rw [← Act.put_comm a v u h2]; exact h⟩
      case skip => exact ⟨keep a hy _, by rw [← Act.put_comm a v undef h2]; exact h⟩
      case defer d =>
        refine ⟨keep _ (keepD d) _, ?_⟩
        rw [← Act.put_comm _ v undef h2, ← Act.put_defers]
        exact h
      case enter f args =>
        refine Calls.mono h fun e w'' he => ?_
        cases e with
        | returned u => exact ⟨keep a hy u, by rw [← Act.put_comm a v u h2]; exact he⟩
        | panicked c => exact hQ _ _ _ he
        | outgrown => exact he
      case row row args => exact Rows.mono h fun u w'' he => ⟨keep a hy u, by rw [← Act.put_comm a v u h2]; exact he⟩
    | halt x w' =>
      cases x <;> simp only [Oper.upon] at h ⊢
      case panic u => exact hQ _ _ _ h
  · rename_i hw
    simp only [hw] at h
    exact ⟨keep a hy _, by rw [← Act.put_comm a v undef h2]; exact h⟩

/-- Whatever order is picked from here on, in whatever extension of w. -/
def wpAnyR (P : Program) (md : Region.Mode) (ops : Array Oper) (R : World → World → Prop) (Q : Exit → Act → World → Prop) : Nat → Array Bool → Act → World → Prop
  | 0, listed, a, w => ∀ w', Ext w w' → Region.ready md ops listed = [] ∧ Q .normal a w'
  | fuel + 1, listed, a, w => ∀ w', Ext w w' → (Region.ready md ops listed = [] → Q .normal a w') ∧
    ∀ j ∈ Region.ready md ops listed, wpOp P ops Q j (fun a' w'' => R w' w'' ∧ wpAnyR P md ops R Q fuel (listed.setIfInBounds j true) a' w'') a w'

theorem wpAnyR_later {w w1 : World} (he : Ext w w1) : ∀ {fuel : Nat} {listed : Array Bool} {a : Act}, wpAnyR P md ops R Q fuel listed a w → wpAnyR P md ops R Q fuel listed a w1
  | 0, _, _, h => fun w' h' => h w' (he.trans h')
  | _ + 1, _, _, h => fun w' h' => h w' (he.trans h')

theorem wpAny_of_R : ∀ (fuel : Nat) (listed : Array Bool) (a : Act) (w : World), wpAnyR P md ops R Q fuel listed a w → wpAny P md ops Q fuel listed a w
  | 0, _, _, w, h => h w (Ext.refl w)
  | fuel + 1, _, _, w, h => ⟨(h w (Ext.refl w)).1, fun j hj => wpOp_mono (fun _ _ hk => wpAny_of_R fuel _ _ _ hk.2) ((h w (Ext.refl w)).2 j hj)⟩

theorem wpAnyR_first {i : Nat} {oi : Oper} {v : Value} (D : Nat → Bool) (hR : RelOk R) (hi : ops[i]? = some oi) (hsel : ∀ (j : Nat) (o : Oper) cs b, ops[j]? = some o → o.op ≠ .select cs b)
    (hQ : ∀ c a w, Q (.panic c) (a.put oi.dst v) w → Q (.panic c) a w) (hDi : D i = false)
    (hDe : ∀ j oj, ops[j]? = some oj → D j = true → ∃ e ∈ oj.after, Region.binds md e = true ∧ (e.on = i ∨ D e.on = true)) :
    ∀ (fuel : Nat) (listed : Array Bool) (a : Act) (w : World), (∀ j, D j = true → listed.getD j true = false) →
      (∀ j oj, ops[j]? = some oj → j ≠ i → D j = false → listed.getD j true = false → (∀ e ∈ oj.after, Region.binds md e = true → e.on ≠ i) → oi.apart ops oj = true) →
      i ∈ Region.ready md ops listed → YieldsR R P ops w oi v a →
      wpAnyR P md ops R Q fuel (listed.setIfInBounds i true) (a.put oi.dst v) w → wpAnyR P md ops R Q (fuel + 1) listed a w := by
  intro fuel
  induction fuel with
  | zero =>
    intro listed a w _ _ hr hy H w' hw'
    refine ⟨fun h => (by rw [h] at hr; cases hr), fun j hj => ?_⟩
    by_cases hji : j = i
    · subst hji; exact (hy.later hR (hR.ext hw')).wpOp hR hi fun w'' h'' => ⟨hR.ext h'', wpAnyR_later (hw'.trans h'') H⟩
    · have := ready_mono hj hji
      rw [(H w' hw').1] at this
      cases this
  | succ fuel ih =>
    intro listed a w hDl hfree hr hy H w' hw'
    refine ⟨fun h => (by rw [h] at hr; cases hr), fun j hj => ?_⟩
    by_cases hji : j = i
    · subst hji; exact (hy.later hR (hR.ext hw')).wpOp hR hi fun w'' h'' => ⟨hR.ext h'', wpAnyR_later (hw'.trans h'') H⟩
    · have h1 := (H w' hw').2 j (ready_mono hj hji)
      obtain ⟨hjun, oj, hoj, hall⟩ := mem_ready.1 hj
      have hnot : ∀ e ∈ oj.after, Region.binds md e = true → e.on ≠ i := fun e he hb heq => by
        have h1 := hall e he hb
        have h0 := (mem_ready.1 hr).1
        rw [heq] at h1
        rcases Nat.lt_or_ge i listed.size with h' | h'
        · simp [h'] at h0 h1; rw [h0] at h1; cases h1
        · simp [Array.getElem?_eq_none h'] at h1
      have hDj : D j = false := by
        cases hd : D j with
        | false => rfl
        | true =>
          obtain ⟨e, he, hb, h'⟩ := hDe j oj hoj hd
          rcases h' with h' | h'
          · exact absurd h' (hnot e he hb)
          · have h1 := hall e he hb
            have h0 := hDl _ h'
            rcases Nat.lt_or_ge e.on listed.size with h2 | h2
            · simp [h2] at h0 h1; rw [h0] at h1; cases h1
            · simp [Array.getElem?_eq_none h2] at h1
      have hf := hfree j oj hoj hji hDj hjun hnot
      have h2 := wpOp_beforeR hoj hf (fun cs b => hsel i oi cs b hi) (fun cs b => hsel j oj cs b hoj) hQ hy h1
      have hDl' : ∀ k, D k = true → (listed.setIfInBounds j true).getD k true = false := fun k hk => by
        have hjk : j ≠ k := fun h => by subst h; rw [hDj] at hk; cases hk
        rw [getD_set_ne true hjk]; exact hDl k hk
      have hfree' : ∀ k ok, ops[k]? = some ok → k ≠ i → D k = false → (listed.setIfInBounds j true).getD k true = false →
          (∀ e ∈ ok.after, Region.binds md e = true → e.on ≠ i) → oi.apart ops ok = true := fun k ok hk hki hd hun hno => by
        refine hfree k ok hk hki hd ?_ hno
        by_cases hjk : j = k
        · subst hjk; exact hjun
        · rw [getD_set_ne true hjk] at hun; exact hun
      refine wpOp_mono (fun a' w'' h3 => ?_) h2
      obtain ⟨hy', hE, hU⟩ := h3
      have hx := hE
      refine ⟨hx, ih (listed.setIfInBounds j true) a' w'' hDl' hfree' (ready_mono hr (Ne.symm hji)) (hy'.later hR (hR.trans (hR.ext hw') hx)) ?_⟩
      rw [Array.setIfInBounds_comm _ _ hji]
      exact hU

/-- May number i be taken first? It is ready; each other one that is not listed waits for it, or is apart from it. -/
def takeR (md : Region.Mode) (ops : Array Oper) (listed : Array Bool) (i : Nat) : Bool :=
  let D := waitsFor md ops i
  Region.noSelect ops && (Region.ready md ops listed).contains i && !D.contains i &&
  (D.all fun j => listed.getD j true == false && match ops[j]? with
      | some oj => oj.after.any (fun e => Region.binds md e && (e.on == i || D.contains e.on))
      | none => true) &&
  (List.range ops.size).all fun j => j == i || listed.getD j true || D.contains j || match ops[j]?, ops[i]? with
      | some oj, some oi => oi.apart ops oj
      | _, _ => false

theorem takeR_spec {i : Nat} {oi : Oper} {listed : Array Bool} (hi : ops[i]? = some oi) (h : takeR md ops listed i = true) :
    ∃ D : Nat → Bool, (∀ (j : Nat) (o : Oper) cs b, ops[j]? = some o → o.op ≠ .select cs b) ∧ i ∈ Region.ready md ops listed ∧ D i = false ∧
    (∀ j oj, ops[j]? = some oj → D j = true → ∃ e ∈ oj.after, Region.binds md e = true ∧ (e.on = i ∨ D e.on = true)) ∧
    (∀ j, D j = true → listed.getD j true = false) ∧
    (∀ j oj, ops[j]? = some oj → j ≠ i → D j = false → listed.getD j true = false → (∀ e ∈ oj.after, Region.binds md e = true → e.on ≠ i) → oi.apart ops oj = true) := by
  unfold takeR at h
  generalize waitsFor md ops i = D at h
  simp only [Bool.and_eq_true] at h
  obtain ⟨⟨⟨⟨h1, h2⟩, h3⟩, h4⟩, h5⟩ := h
  have h4' := List.all_eq_true.1 h4
  refine ⟨fun j => D.contains j, Region.noSelect_spec h1, by simpa using h2, by simpa using h3, fun j oj hj hd => ?_, fun j hd => ?_, fun j oj hj hne hd hun _ => ?_⟩
  · have h6 := h4' j (by simpa using hd)
    simp only [hj, Bool.and_eq_true] at h6
    obtain ⟨e, he, hb⟩ := Array.any_eq_true'.1 h6.2
    simp only [Bool.and_eq_true, Bool.or_eq_true, beq_iff_eq] at hb
    exact ⟨e, he, hb.1, hb.2⟩
  · have h6 := h4' j (by simpa using hd)
    simp only [Bool.and_eq_true, beq_iff_eq] at h6
    exact h6.1
  · have h6 := (List.all_eq_true.1 h5) j (by rw [List.mem_range]; exact (Array.getElem?_eq_some_iff.1 hj).1)
    simp only [hj, hi, hd, Bool.or_eq_true, beq_iff_eq, hne, false_or, hun, Bool.false_eq_true] at h6
    exact h6

/-- Begin. -/
theorem regR_begin {id : Nat} {l : List Oper} {a : Act} {w : World} (R : World → World → Prop) (hm : P.follows .mixedOrders = true)
    (h : wpAnyR P .any l.toArray R (calm Q) l.toArray.size (Array.replicate l.toArray.size false) a w.drew) : (Code.region id l.toArray true).wp P Q a w := by
  refine Code.wp_mono (Q := calm Q) (fun e a w h => ?_) (wp_region_any hm (wpAny_of_R _ _ _ _ h))
  cases e <;> first | exact h | exact h.elim

theorem regR_quiet {fuel : Nat} {l tl : List Oper} {oi : Oper} {listed : Array Bool} {a : Act} {w : World} (hR : RelOk R) (i : Nat) (hi : l.drop i = oi :: tl) (hB : takeR md l.toArray listed i = true)
    (hw : Region.wanted oi (yielded l.toArray a.tmps) = true)
    (h : ∃ v, (∀ w', R w w' → extUpon P w' v ((execOp a.eval oi).run P w')) ∧ wpAnyR P md l.toArray R (calm Q) fuel (listed.setIfInBounds i true) (a.put oi.dst v) w) : wpAnyR P md l.toArray R (calm Q) (fuel + 1) listed a w :=
  let ⟨_, h1, h2⟩ := h
  have ⟨D, g1, g2, g3, g4, g5, g6⟩ := takeR_spec (at_drop hi) hB
  wpAnyR_first D hR (at_drop hi) g1 (fun _ _ _ h => h) g3 g4 fuel listed a w g5 g6 g2 (.inl ⟨hw, h1⟩) h2

/-- The one that is ready. -/
theorem regR_one {fuel : Nat} {l tl : List Oper} {oi : Oper} {listed : Array Bool} {a : Act} {w : World} (i : Nat) (hi : l.drop i = oi :: tl) (hr : (Region.ready md l.toArray listed == [i]) = true)
    (hw : Region.wanted oi (yielded l.toArray a.tmps) = true)
    (h : ∀ w', Ext w w' → oi.wp P a w' (fun a' w'' => R w' w'' ∧ wpAnyR P md l.toArray R (calm Q) fuel (listed.setIfInBounds i true) a' w'') (calm Q)) :
    wpAnyR P md l.toArray R (calm Q) (fuel + 1) listed a w := fun w' hw' => by
  rw [beq_iff_eq.1 hr]
  refine ⟨fun h0 => absurd h0 (by simp), fun j hj => ?_⟩
  simp only [List.mem_singleton] at hj
  subst hj
  unfold wpOp
  simp only [at_drop hi, hw, if_true]
  exact .inl (h w' hw')

/-- At the end. -/
theorem regR_done {listed : Array Bool} {a : Act} {w : World} (hr : (Region.ready md ops listed).isEmpty = true) (h : ∀ w', Ext w w' → Q .normal a w') :
    ∀ fuel, wpAnyR P md ops R (calm Q) fuel listed a w
  | 0 => fun w' hw' => ⟨List.isEmpty_iff.1 hr, h w' hw'⟩
  | _ + 1 => fun w' hw' => ⟨fun _ => h w' hw', by rw [List.isEmpty_iff.1 hr]; simp⟩

/-- One block stays. -/
def Keeps (b : Nat) (w w' : World) : Prop := b < w.heap.size → b < w'.heap.size ∧ w'.heap[b]? = w.heap[b]?
theorem Keeps.ok (b : Nat) : RelOk (Keeps b) :=
  ⟨fun h hb => ⟨Nat.lt_of_lt_of_le hb h.size, h.block b hb⟩, fun h k hb => ⟨(k (h hb).1).1, (k (h hb).1).2.trans (h hb).2⟩⟩
theorem Keeps.blk {b : Nat} {w w' : World} {o : Obj} (h : Keeps b w w') (hb : w.heap[b]? = some o) : w'.heap[b]? = some o :=
  (h (Array.getElem?_eq_some_iff.1 hb).1).2.trans hb

end
end Go.Proofs.YtjodmedgkmeklaaGreat

/-
  The keys of a side.
-/
namespace Go.Proofs.YtjodmedgkmeklaaGreat
open Go Go.RowKit Go.Maps
attribute [local go_sem] extUpon run_store_tm
attribute [local go_sem ↓] Tm.val_cell eval_put_ne eval_put_none eval_put_same size_put eval_const
attribute [local go_sem ↓] meth_Atom meth_Public meth_Shared meth_Chain meth_Digest meth_Box meth_Empty
attribute [local go_sem ↓] run_build_chain run_build_digest run_build_box
attribute [local go_sem] ta_Atom_Atom ta_Public_Atom ta_Shared_Atom ta_Chain_Atom ta_Digest_Atom ta_Box_Atom ta_Empty_Atom ta_Nil_Atom ta_Atom_Public ta_Public_Public ta_Shared_Public ta_Chain_Public ta_Digest_Public ta_Box_Public ta_Empty_Public ta_Nil_Public ta_Atom_Shared ta_Public_Shared ta_Shared_Shared ta_Chain_Shared ta_Digest_Shared ta_Box_Shared ta_Empty_Shared ta_Nil_Shared ta_Atom_Chain ta_Public_Chain ta_Shared_Chain ta_Chain_Chain ta_Digest_Chain ta_Box_Chain ta_Empty_Chain ta_Nil_Chain ta_Atom_Digest ta_Public_Digest ta_Shared_Digest ta_Chain_Digest ta_Digest_Digest ta_Box_Digest ta_Empty_Digest ta_Nil_Digest ta_Atom_Box ta_Public_Box ta_Shared_Box ta_Chain_Box ta_Digest_Box ta_Box_Box ta_Empty_Box ta_Nil_Box ta_Atom_Empty ta_Public_Empty ta_Shared_Empty ta_Chain_Empty ta_Digest_Empty ta_Box_Empty ta_Empty_Empty ta_Nil_Empty
variable {w w2 : World} {b : Nat} {s : Sd} {vs va : Value} {f : Int → List UInt8}

theorem open_any (t : Tm) (ht0 : t ≠ .non) (hI : Itoa w Small f) (ht : t.all Small) (hp : ∀ k n a x, t = .box k n a x → k ≠ .non ∧ a ≠ .non ∧ x ≠ .non) (hs : sz t ≤ 10000) (ha : s.hash.all Small) (hz : sz s.hash ≤ 10000) (hka : s.key.all Small) (hkz : sz s.key ≤ 10000) (hh : s.hash ≠ .non) (hn0 : 0 ≤ s.n) (hn : s.n ≤ 100) (h : SdAt w b s vs va) :
    Calls Tryz.prog 70 #[ptr b, t.val] w fun e w' => e = .returned (opened s (s.opens f t)).2 ∧ SdAt w' b (opened s (s.opens f t)).1 vs va ∧ Same w w' (OnlyB b) := by
  by_cases hk : s.key = .non
  · obtain ⟨u, d, hv⟩ := Va.of ht0
    have h5 := open_nokey hv hk hh h
    have : s.opens f t = some (s.mix t, t) := by simp [Sd.opens, hk]
    rw [this, hv.eq]
    refine h5.mono ?_
    rintro e w' ⟨rfl, h1, h2⟩
    exact ⟨by simp only [opened, hv.eq], h1, h2⟩
  · cases t with
    | box k n a x =>
      obtain ⟨p1, p2, p3⟩ := hp k n a x rfl
      obtain ⟨ku, kd, hkv⟩ := Va.of p1
      obtain ⟨au, ad, hav⟩ := Va.of p2
      obtain ⟨xu, xd, hxv⟩ := Va.of p3
      have h5 := open_box hkv hav hxv hI ht hs ha hz hka hkz hh hk hn0 hn h
      have hv : (Tm.box k n a x).val = .iface 90 (.agg #[.iface ku kd, .int .i64 n, .iface au ad, .iface xu xd]) := by simp [Tm.val, hkv.eq, hav.eq, hxv.eq]
      rw [hv]
      exact h5
    | _ =>
      refine (open_nobox (fun k n a x => by simp) hk h).mono ?_
      rintro e w' ⟨rfl, h1, h2⟩
      simp only [Sd.opens, if_neg hk, opened]
      exact ⟨trivial, h1, h2⟩

theorem regR_two {P : Program} {Q : Exit → Act → World → Prop} {md : Region.Mode} {R : World → World → Prop} {fuel : Nat} {l tl tl2 : List Oper} {oi oj : Oper} {listed : Array Bool} {a : Act} {w : World} (i j : Nat) (hi : l.drop i = oi :: tl) (hj : l.drop j = oj :: tl2) (hr : (Region.ready md l.toArray listed == [i, j]) = true)
    (hwi : Region.wanted oi (yielded l.toArray a.tmps) = true) (hwj : Region.wanted oj (yielded l.toArray a.tmps) = true)
    (h1 : ∀ w', Ext w w' → oi.wp P a w' (fun a' w'' => R w' w'' ∧ wpAnyR P md l.toArray R (calm Q) fuel (listed.setIfInBounds i true) a' w'') (calm Q))
    (h2 : ∀ w', Ext w w' → oj.wp P a w' (fun a' w'' => R w' w'' ∧ wpAnyR P md l.toArray R (calm Q) fuel (listed.setIfInBounds j true) a' w'') (calm Q)) :
    wpAnyR P md l.toArray R (calm Q) (fuel + 1) listed a w := fun w' hw' => by
  rw [beq_iff_eq.1 hr]
  refine ⟨fun h0 => absurd h0 (by simp), fun k hk => ?_⟩
  simp only [List.mem_cons, List.not_mem_nil, or_false] at hk
  rcases hk with rfl | rfl
  · unfold wpOp
    simp only [at_drop hi, hwi, if_true]
    exact .inl (h1 w' hw')
  · unfold wpOp
    simp only [at_drop hj, hwj, if_true]
    exact .inl (h2 w' hw')
theorem regR_hide {P : Program} {md : Region.Mode} {R : World → World → Prop} {Q : Exit → Act → World → Prop} {fuel : Nat} {ops : Array Oper} {listed : Array Bool} {a : Act} {w : World}
    (h : ∀ Q2 : Exit → Act → World → Prop, Hid (Q2 = Q) → wpAnyR P md ops R (calm Q2) fuel listed a w) : wpAnyR P md ops R (calm Q) fuel listed a w := h Q (hid rfl)

/-- A struct of three cells is stored. -/
theorem store_three {ty : TypeId} (hi : (Tryz.prog.info? ty).map (·.size) = some 3) {p : Nat} {x0 x1 x2 y0 y1 y2 : Value} {w : World} (hb : w.heap[p]? = some (.cells #[x0, x1, x2] ty (0, 0))) (h0 : y0.oneCell' = true) (h1 : y1.oneCell' = true) (h2 : y2.oneCell' = true) :
    ∃ w2, (Instr.storeAt ty (ptr p) (.agg #[y0, y1, y2])).run Tryz.prog w = .ok () w2 ∧ w2.heap[p]? = some (.cells #[y0, y1, y2] ty (0, 0)) ∧ Same w w2 (OnlyB p) := by
  obtain ⟨i, hi1, hi2⟩ := Option.map_eq_some_iff.1 hi
  have e1 : (w.setCell ⟨p, 0, none⟩ y0).heap[p]? = some (.cells #[y0, x1, x2] ty (0, 0)) := by simp only [World.setCell, Array.getElem?_modify, hb, if_true, Option.map_some]; rfl
  have e2 : ((w.setCell ⟨p, 0, none⟩ y0).setCell ⟨p, 1, none⟩ y1).heap[p]? = some (.cells #[y0, y1, x2] ty (0, 0)) := by
    simp only [World.setCell, Array.getElem?_modify, hb, if_true, Option.map_some]; rfl
  have e3 : (((w.setCell ⟨p, 0, none⟩ y0).setCell ⟨p, 1, none⟩ y1).setCell ⟨p, 2, none⟩ y2).heap[p]? = some (.cells #[y0, y1, y2] ty (0, 0)) := by
    simp only [World.setCell, Array.getElem?_modify, hb, if_true, Option.map_some]; rfl
  have c0 := cell_blk (j := 0) hb rfl
  have c1 := cell_blk (j := 1) e1 rfl
  have c2 := cell_blk (j := 2) e2 rfl
  have f0 : w.frozen? ⟨p, 0, none⟩ = false := by simp [World.frozen?, hb]
  have f1 : (w.setCell ⟨p, 0, none⟩ y0).frozen? ⟨p, 1, none⟩ = false := by simp [World.frozen?, e1]
  have f2 : ((w.setCell ⟨p, 0, none⟩ y0).setCell ⟨p, 1, none⟩ y1).frozen? ⟨p, 2, none⟩ = false := by simp [World.frozen?, e2]
  have hadd : ∀ k, (⟨p, 0, none⟩ : Addr).add k = ⟨p, k, none⟩ := fun k => by unfold Addr.add; split <;> simp_all
  refine ⟨_, ?_, e3, ((same_set _ _ _ _).trans (same_set _ _ _ _)).trans (same_set _ _ _ _)⟩
  simp [Instr.storeAt, Instr.sureAddr, storeVar, sizeOf, typeInfo, hi1, hi2, Value.cells, storeCells, run_store _ _ _ _ _ h0, run_store _ _ _ _ _ h1, run_store _ _ _ _ _ h2, c0, c1, c2, f0, f1, f2, hadd, Sem.run_bind, Result.andThen]

theorem Keeps.same {b p : Nat} {w w2 : World} (h : Same w w2 (OnlyB p)) (hb : b ≠ p) : Keeps b w w2 := fun hl => ⟨Nat.lt_of_lt_of_le hl h.2.2.2.1, h.2.2.2.2 b hl hb⟩
/-- One of the stores of a struct. -/
theorem regR_three {md : Region.Mode} {R : World → World → Prop} {Q : Exit → Act → World → Prop} {fuel : Nat} {l tl : List Oper} {oi : Oper} {listed : Array Bool} {a : Act} {w : World} (i : Nat) {x y : Operand} {ty : TypeId} (p : Nat) (x0 x1 x2 y0 y1 y2 : Value)
    (hi : l.drop i = oi :: tl) (hr : (Region.ready md l.toArray listed == [i]) = true) (hw : Region.wanted oi (yielded l.toArray a.tmps) = true) (ho : oi.op = .store ty x y)
    (hx : a.eval x = ptr p) (hy : a.eval y = .agg #[y0, y1, y2]) (hz : (Tryz.prog.info? ty).map (·.size) = some 3) (h0 : y0.oneCell' = true) (h1 : y1.oneCell' = true) (h2 : y2.oneCell' = true)
    (hb : w.heap[p]? = some (.cells #[x0, x1, x2] ty (0, 0)))
    (h : ∀ w' w2, Ext w w' → w2.heap[p]? = some (.cells #[y0, y1, y2] ty (0, 0)) → Same w' w2 (OnlyB p) → R w' w2 ∧ wpAnyR Tryz.prog md l.toArray R (calm Q) fuel (listed.setIfInBounds i true) (a.put oi.dst undef) w2) :
    wpAnyR Tryz.prog md l.toArray R (calm Q) (fuel + 1) listed a w :=
  regR_one i hi hr hw fun w' hw' => by
    obtain ⟨w2, hrun, hb2, hs2⟩ := store_three hz (hw'.blk hb) h0 h1 h2
    unfold Oper.wp execOp
    simp only [ho, hx, hy, Sem.run_bind, hrun, Result.andThen_ok]
    exact h w' w2 hw' hb2 hs2

set_option maxHeartbeats 4000000 in
set_option maxRecDepth 100000 in
theorem skeys_any (hc : s.chain ≠ .non) (h : SdAt w b s vs va) : Calls Tryz.prog 57 #[ptr b] w fun e w' => e = .returned (.tuple #[s.keys.1.val, s.keys.2.val]) ∧ Ext w w' := by
  obtain ⟨cu, cd, hcv⟩ := Va.of hc
  have HCH := hid hcv.eq
  have HSD := hid h
  have HF : Hid (∀ W, Ext w W → W.cell? ⟨b, 0, none⟩ = some (.bool s.first)) := hid (fun W hW => (h.later hW).cell rfl)
  clear h hc hcv
  go_enter Tryz.func57, Tryz.ntmps57
  go_wp2_with fail
  refine regR_begin (Keeps b) (by kernel_rfl) ?_
  refine regR_hide (fun Q2 HQ => ?_)
  generalize hW : World.drew _ = W
  have HE : Hid (Ext w W) := hid (by rw [← hW]; exact Ext.drew _)
  clear hW
  have HBK := hid (HSD.out.later HE.out).blk
  refine regR_quiet (Keeps.ok _) 0 rfl (by kernel_rfl) (by kernel_rfl) ?_
  apply Exists.intro
  refine ⟨fun w' hw' => ?_, ?_⟩
  · go_simp
    exact ⟨rfl, Ext.refl _⟩
  refine regR_quiet (Keeps.ok _) 1 rfl (by kernel_rfl) (by kernel_rfl) ?_
  apply Exists.intro
  refine ⟨fun w' hw' => ?_, ?_⟩
  · go_simp
    exact ⟨rfl, Ext.refl _⟩
  refine regR_quiet (Keeps.ok _) 2 rfl (by kernel_rfl) (by kernel_rfl) ?_
  apply Exists.intro
  refine ⟨fun w' hw' => ?_, ?_⟩
  · go_simp
    exact ⟨rfl, Ext.refl _⟩
  refine regR_quiet (Keeps.ok _) 3 rfl (by kernel_rfl) (by kernel_rfl) ?_
  apply Exists.intro
  refine ⟨fun w' hw' => ?_, ?_⟩
  · have q0 : w'.cell? ⟨b, 10, none⟩ = some (.iface cu cd) := cell_blk (hw'.blk HBK.out) (HCH.out ▸ rfl)
    go_simp
    exact ⟨rfl, Ext.refl _⟩
  refine regR_quiet (Keeps.ok _) 4 rfl (by kernel_rfl) (by kernel_rfl) ?_
  apply Exists.intro
  refine ⟨fun w' hw' => ?_, ?_⟩
  · go_simp
    exact ⟨rfl, Ext.refl _⟩
  refine regR_quiet (Keeps.ok _) 5 rfl (by kernel_rfl) (by kernel_rfl) ?_
  apply Exists.intro
  refine ⟨fun w' hw' => ?_, ?_⟩
  · go_simp
    exact ⟨rfl, Ext.refl _⟩
  refine regR_quiet (Keeps.ok _) 6 rfl (by kernel_rfl) (by kernel_rfl) ?_
  apply Exists.intro
  refine ⟨fun w' hw' => ?_, ?_⟩
  · go_simp
    exact ⟨rfl, Ext.refl _⟩
  refine regR_quiet (Keeps.ok _) 7 rfl (by kernel_rfl) (by kernel_rfl) ?_
  apply Exists.intro
  refine ⟨fun w' hw' => ?_, ?_⟩
  · go_simp
    exact ⟨rfl, Ext.refl _⟩
  refine regR_quiet (Keeps.ok _) 8 rfl (by kernel_rfl) (by kernel_rfl) ?_
  apply Exists.intro
  refine ⟨fun w' hw' => ?_, ?_⟩
  · go_simp
    exact ⟨rfl, Ext.refl _⟩
  refine regR_quiet (Keeps.ok _) 9 rfl (by kernel_rfl) (by kernel_rfl) ?_
  apply Exists.intro
  refine ⟨fun w' hw' => ?_, ?_⟩
  · go_simp
    exact ⟨rfl, Ext.refl _⟩
  refine regR_quiet (Keeps.ok _) 10 rfl (by kernel_rfl) (by kernel_rfl) ?_
  apply Exists.intro
  refine ⟨fun w' hw' => ?_, ?_⟩
  · have q0 : w'.cell? ⟨b, 10, none⟩ = some (.iface cu cd) := cell_blk (hw'.blk HBK.out) (HCH.out ▸ rfl)
    go_simp
    exact ⟨rfl, Ext.refl _⟩
  refine regR_quiet (Keeps.ok _) 11 rfl (by kernel_rfl) (by kernel_rfl) ?_
  apply Exists.intro
  refine ⟨fun w' hw' => ?_, ?_⟩
  · go_simp
    exact ⟨rfl, Ext.refl _⟩
  refine regR_quiet (Keeps.ok _) 12 rfl (by kernel_rfl) (by kernel_rfl) ?_
  apply Exists.intro
  refine ⟨fun w' hw' => ?_, ?_⟩
  · go_simp
    exact ⟨rfl, Ext.refl _⟩
  refine regR_quiet (Keeps.ok _) 13 rfl (by kernel_rfl) (by kernel_rfl) ?_
  apply Exists.intro
  refine ⟨fun w' hw' => ?_, ?_⟩
  · go_simp
    exact ⟨rfl, Ext.refl _⟩
  refine regR_two 14 15 rfl rfl (by kernel_rfl) (by kernel_rfl) (by kernel_rfl) (fun w1 hw1 => ?_) (fun w1 hw1 => ?_)
  · skip
    go_simp
    refine ⟨(Keeps.ok b).ext (Ext.alloc _ _), ?_⟩
    have ha1 := blk_new w1 (.cells #[.int .i64 0, .nilIface, .nilIface] 86 (0, 0))
    have ha2 := (HE.out.trans hw1).alloc' (.cells #[.int .i64 0, .nilIface, .nilIface] 86 (0, 0))
    have ha3 : w.heap.size ≤ w1.heap.size := (HE.out.trans hw1).size
    have ha4 : w1.heap.size < (w1.alloc (.cells #[.int .i64 0, .nilIface, .nilIface] 86 (0, 0))).heap.size := by simp
    have HA1 := hid ha1
    have HA2 := hid ha2
    have HA3 := hid ha3
    have HA4 := hid ha4
    clear ha1 ha2 ha3 ha4 hw1
    generalize World.alloc w1 _ = W1 at *
    generalize w1.heap.size = p4 at *
    refine regR_one 15 rfl (by kernel_rfl) (by kernel_rfl) (fun w2 hw2 => ?_)
    go_simp
    refine ⟨(Keeps.ok b).ext (Ext.alloc _ _), ?_⟩
    have hb1 := blk_new w2 (.cells #[.int .i64 0, .nilIface, .nilIface] 86 (0, 0))
    have hb2 := (HA2.out.trans hw2).alloc' (.cells #[.int .i64 0, .nilIface, .nilIface] 86 (0, 0))
    have hb3 : W1.heap.size ≤ w2.heap.size := hw2.size
    have hb4 := (hw2.alloc' (.cells #[.int .i64 0, .nilIface, .nilIface] 86 (0, 0))).blk HA1.out
    have HB1 := hid hb1
    have HEX := hid hb2
    have HB3 := hid hb3
    have HB4a := hid hb4
    clear hb1 hb2 hb3 hb4 hw2
    generalize World.alloc w2 _ = W2 at *
    generalize w2.heap.size = p5 at *
    have HP4 := hid HB4a.out
    have HP5 := hid HB1.out
    have HL4 := hid HA3.out
    have HL5 : Hid (w.heap.size ≤ p5) := hid (by have := HA3.out; have := HA4.out; have := HB3.out; omega)
    have HNE : Hid (p4 ≠ p5) := hid (by have := HA4.out; have := HB3.out; omega)
    have HB4 : Hid (b ≠ p4) := hid (by have := HSD.out.lt; have := HL4.out; omega)
    have HB5 : Hid (b ≠ p5) := hid (by have := HSD.out.lt; have := HL5.out; omega)
    clear HA1 HA2 HA3 HA4 HB1 HB3 HB4a HE
    refine regR_three 16 p4 _ _ _ (.int .i64 1) (.iface cu cd) (.iface 80 (.agg #[])) rfl (by kernel_rfl) (by kernel_rfl) rfl (by go_simp) (by go_simp) (by kernel_rfl) rfl rfl rfl HP4.out (fun w' w2 hw' hb2 hs2 => ?_)
    refine ⟨Keeps.same hs2 HB4.out, ?_⟩
    have HP4b := hid hb2
    have HP5b := hid ((hs2.2.2.2.2 _ (Array.getElem?_eq_some_iff.1 (hw'.blk HP5.out)).1 (Ne.symm HNE.out)).trans (hw'.blk HP5.out))
    have HEX2 := hid (Same.ext (HEX.out.trans hw') hs2 (fun k hk e => by rw [e] at hk; exact absurd hk (by have := HL4.out; omega)))
    clear hb2 hs2 hw' HP4 HP5
    refine regR_three 17 p5 _ _ _ (.int .i64 2) (.iface cu cd) (.iface 80 (.agg #[])) rfl (by kernel_rfl) (by kernel_rfl) rfl (by go_simp) (by go_simp) (by kernel_rfl) rfl rfl rfl HP5b.out (fun w3 w4 hw' hb2 hs2 => ?_)
    refine ⟨Keeps.same hs2 HB5.out, ?_⟩
    refine regR_done (by kernel_rfl) (fun W5 hw5 => ?_) _
    have HP5c := hid (hw5.blk hb2)
    have HP4c := hid (hw5.blk ((hs2.2.2.2.2 _ (Array.getElem?_eq_some_iff.1 (hw'.blk HP4b.out)).1 HNE.out).trans (hw'.blk HP4b.out)))
    have HEX3 := hid ((Same.ext (HEX2.out.trans hw') hs2 (fun k hk e => by rw [e] at hk; exact absurd hk (by have := HL5.out; omega))).trans hw5)
    clear hb2 hs2 hw' hw5 HP4b HP5b HEX2
    go_simp
    rw [HQ.out]
    clear HQ Q2
    have c0 := HF.out W5 HEX3.out
    cases hfi : s.first
    · rw [hfi] at c0
      have HK : Hid (s.keys = (.chain 2 s.chain .empty, .chain 1 s.chain .empty)) := hid (by simp [Sd.keys, hfi])
      go_wp2_with fail
      clear c0
      refine reg_begin 6 (by kernel_rfl) ?_
      refine reg_hide (fun Q2 HQ => ?_)
      generalize hW : World.drew _ = W
      have HE : Hid (Ext W5 W) := hid (by rw [← hW]; exact Ext.drew _)
      clear hW
      have HD : Hid (∀ W', Ext W5 W' → (W'.cell? ⟨p4, 0, none⟩ = some (.int .i64 1) ∧ W'.cell? ⟨p4, 1, none⟩ = some (.iface cu cd) ∧ W'.cell? ⟨p4, 2, none⟩ = some (.iface 80 (.agg #[]))) ∧ (W'.cell? ⟨p5, 0, none⟩ = some (.int .i64 2) ∧ W'.cell? ⟨p5, 1, none⟩ = some (.iface cu cd) ∧ W'.cell? ⟨p5, 2, none⟩ = some (.iface 80 (.agg #[])))) :=
        hid (fun W' hW => ⟨⟨cell_blk (hW.blk HP4c.out) rfl, cell_blk (hW.blk HP4c.out) rfl, cell_blk (hW.blk HP4c.out) rfl⟩, ⟨cell_blk (hW.blk HP5c.out) rfl, cell_blk (hW.blk HP5c.out) rfl, cell_blk (hW.blk HP5c.out) rfl⟩⟩)
      refine reg_quiet 0 rfl (by kernel_rfl) (by kernel_rfl) ?_; apply Exists.intro; refine ⟨fun w' hw' => ?_, ?_⟩; · have q0 := (HD.out w' (HE.out.trans hw')).1.1; have q1 := (HD.out w' (HE.out.trans hw')).1.2.1; have q2 := (HD.out w' (HE.out.trans hw')).1.2.2; have q3 := (HD.out w' (HE.out.trans hw')).2.1; have q4 := (HD.out w' (HE.out.trans hw')).2.2.1; have q5 := (HD.out w' (HE.out.trans hw')).2.2.2; go_simp; exact ⟨rfl, Ext.refl _⟩
      refine reg_pure 1 rfl (by kernel_rfl) (by kernel_rfl) ?_; apply Exists.intro; refine ⟨fun w' => ?_, ?_⟩; · go_simp; exact rfl
      refine reg_quiet 2 rfl (by kernel_rfl) (by kernel_rfl) ?_; apply Exists.intro; refine ⟨fun w' hw' => ?_, ?_⟩; · have q0 := (HD.out w' (HE.out.trans hw')).1.1; have q1 := (HD.out w' (HE.out.trans hw')).1.2.1; have q2 := (HD.out w' (HE.out.trans hw')).1.2.2; have q3 := (HD.out w' (HE.out.trans hw')).2.1; have q4 := (HD.out w' (HE.out.trans hw')).2.2.1; have q5 := (HD.out w' (HE.out.trans hw')).2.2.2; go_simp; exact ⟨rfl, Ext.refl _⟩
      refine reg_pure 3 rfl (by kernel_rfl) (by kernel_rfl) ?_; apply Exists.intro; refine ⟨fun w' => ?_, ?_⟩; · go_simp; exact rfl
      refine reg_pure 4 rfl (by kernel_rfl) (by kernel_rfl) ?_; apply Exists.intro; refine ⟨fun w' => ?_, ?_⟩; · go_simp; exact rfl
      refine reg_pure 5 rfl (by kernel_rfl) (by kernel_rfl) ?_; apply Exists.intro; refine ⟨fun w' => ?_, ?_⟩; · go_simp; exact rfl
      refine reg_done (by kernel_rfl) (fun W6 hw6 => ?_) _
      have HE5 := hid (HEX3.out.trans (HE.out.trans hw6))
      clear HE hw6
      go_simp
      rw [HQ.out]
      clear HQ Q2
      go_wp2_with fail
      go_ret2
      exact ⟨by rw [HK.out]; simp only [Tm.val, HCH.out]; rfl, HE5.out⟩
    · rw [hfi] at c0
      have HK : Hid (s.keys = (.chain 1 s.chain .empty, .chain 2 s.chain .empty)) := hid (by simp [Sd.keys, hfi])
      go_wp2_with fail
      clear c0
      refine reg_begin 6 (by kernel_rfl) ?_
      refine reg_hide (fun Q2 HQ => ?_)
      generalize hW : World.drew _ = W
      have HE : Hid (Ext W5 W) := hid (by rw [← hW]; exact Ext.drew _)
      clear hW
      have HD : Hid (∀ W', Ext W5 W' → (W'.cell? ⟨p4, 0, none⟩ = some (.int .i64 1) ∧ W'.cell? ⟨p4, 1, none⟩ = some (.iface cu cd) ∧ W'.cell? ⟨p4, 2, none⟩ = some (.iface 80 (.agg #[]))) ∧ (W'.cell? ⟨p5, 0, none⟩ = some (.int .i64 2) ∧ W'.cell? ⟨p5, 1, none⟩ = some (.iface cu cd) ∧ W'.cell? ⟨p5, 2, none⟩ = some (.iface 80 (.agg #[])))) :=
        hid (fun W' hW => ⟨⟨cell_blk (hW.blk HP4c.out) rfl, cell_blk (hW.blk HP4c.out) rfl, cell_blk (hW.blk HP4c.out) rfl⟩, ⟨cell_blk (hW.blk HP5c.out) rfl, cell_blk (hW.blk HP5c.out) rfl, cell_blk (hW.blk HP5c.out) rfl⟩⟩)
      refine reg_quiet 0 rfl (by kernel_rfl) (by kernel_rfl) ?_; apply Exists.intro; refine ⟨fun w' hw' => ?_, ?_⟩; · have q0 := (HD.out w' (HE.out.trans hw')).1.1; have q1 := (HD.out w' (HE.out.trans hw')).1.2.1; have q2 := (HD.out w' (HE.out.trans hw')).1.2.2; have q3 := (HD.out w' (HE.out.trans hw')).2.1; have q4 := (HD.out w' (HE.out.trans hw')).2.2.1; have q5 := (HD.out w' (HE.out.trans hw')).2.2.2; go_simp; exact ⟨rfl, Ext.refl _⟩
      refine reg_pure 1 rfl (by kernel_rfl) (by kernel_rfl) ?_; apply Exists.intro; refine ⟨fun w' => ?_, ?_⟩; · go_simp; exact rfl
      refine reg_quiet 2 rfl (by kernel_rfl) (by kernel_rfl) ?_; apply Exists.intro; refine ⟨fun w' hw' => ?_, ?_⟩; · have q0 := (HD.out w' (HE.out.trans hw')).1.1; have q1 := (HD.out w' (HE.out.trans hw')).1.2.1; have q2 := (HD.out w' (HE.out.trans hw')).1.2.2; have q3 := (HD.out w' (HE.out.trans hw')).2.1; have q4 := (HD.out w' (HE.out.trans hw')).2.2.1; have q5 := (HD.out w' (HE.out.trans hw')).2.2.2; go_simp; exact ⟨rfl, Ext.refl _⟩
      refine reg_pure 3 rfl (by kernel_rfl) (by kernel_rfl) ?_; apply Exists.intro; refine ⟨fun w' => ?_, ?_⟩; · go_simp; exact rfl
      refine reg_pure 4 rfl (by kernel_rfl) (by kernel_rfl) ?_; apply Exists.intro; refine ⟨fun w' => ?_, ?_⟩; · go_simp; exact rfl
      refine reg_pure 5 rfl (by kernel_rfl) (by kernel_rfl) ?_; apply Exists.intro; refine ⟨fun w' => ?_, ?_⟩; · go_simp; exact rfl
      refine reg_done (by kernel_rfl) (fun W6 hw6 => ?_) _
      have HE5 := hid (HEX3.out.trans (HE.out.trans hw6))
      clear HE hw6
      go_simp
      rw [HQ.out]
      clear HQ Q2
      go_wp2_with fail
      go_ret2
      exact ⟨by rw [HK.out]; simp only [Tm.val, HCH.out]; rfl, HE5.out⟩
  · skip
    go_simp
    refine ⟨(Keeps.ok b).ext (Ext.alloc _ _), ?_⟩
    have ha1 := blk_new w1 (.cells #[.int .i64 0, .nilIface, .nilIface] 86 (0, 0))
    have ha2 := (HE.out.trans hw1).alloc' (.cells #[.int .i64 0, .nilIface, .nilIface] 86 (0, 0))
    have ha3 : w.heap.size ≤ w1.heap.size := (HE.out.trans hw1).size
    have ha4 : w1.heap.size < (w1.alloc (.cells #[.int .i64 0, .nilIface, .nilIface] 86 (0, 0))).heap.size := by simp
    have HA1 := hid ha1
    have HA2 := hid ha2
    have HA3 := hid ha3
    have HA4 := hid ha4
    clear ha1 ha2 ha3 ha4 hw1
    generalize World.alloc w1 _ = W1 at *
    generalize w1.heap.size = p5 at *
    refine regR_one 14 rfl (by kernel_rfl) (by kernel_rfl) (fun w2 hw2 => ?_)
    go_simp
    refine ⟨(Keeps.ok b).ext (Ext.alloc _ _), ?_⟩
    have hb1 := blk_new w2 (.cells #[.int .i64 0, .nilIface, .nilIface] 86 (0, 0))
    have hb2 := (HA2.out.trans hw2).alloc' (.cells #[.int .i64 0, .nilIface, .nilIface] 86 (0, 0))
    have hb3 : W1.heap.size ≤ w2.heap.size := hw2.size
    have hb4 := (hw2.alloc' (.cells #[.int .i64 0, .nilIface, .nilIface] 86 (0, 0))).blk HA1.out
    have HB1 := hid hb1
    have HEX := hid hb2
    have HB3 := hid hb3
    have HB4a := hid hb4
    clear hb1 hb2 hb3 hb4 hw2
    generalize World.alloc w2 _ = W2 at *
    generalize w2.heap.size = p4 at *
    have HP4 := hid HB1.out
    have HP5 := hid HB4a.out
    have HL5 := hid HA3.out
    have HL4 : Hid (w.heap.size ≤ p4) := hid (by have := HA3.out; have := HA4.out; have := HB3.out; omega)
    have HNE : Hid (p4 ≠ p5) := hid (by have := HA4.out; have := HB3.out; omega)
    have HB4 : Hid (b ≠ p4) := hid (by have := HSD.out.lt; have := HL4.out; omega)
    have HB5 : Hid (b ≠ p5) := hid (by have := HSD.out.lt; have := HL5.out; omega)
    clear HA1 HA2 HA3 HA4 HB1 HB3 HB4a HE
    refine regR_three 16 p4 _ _ _ (.int .i64 1) (.iface cu cd) (.iface 80 (.agg #[])) rfl (by kernel_rfl) (by kernel_rfl) rfl (by go_simp) (by go_simp) (by kernel_rfl) rfl rfl rfl HP4.out (fun w' w2 hw' hb2 hs2 => ?_)
    refine ⟨Keeps.same hs2 HB4.out, ?_⟩
    have HP4b := hid hb2
    have HP5b := hid ((hs2.2.2.2.2 _ (Array.getElem?_eq_some_iff.1 (hw'.blk HP5.out)).1 (Ne.symm HNE.out)).trans (hw'.blk HP5.out))
    have HEX2 := hid (Same.ext (HEX.out.trans hw') hs2 (fun k hk e => by rw [e] at hk; exact absurd hk (by have := HL4.out; omega)))
    clear hb2 hs2 hw' HP4 HP5
    refine regR_three 17 p5 _ _ _ (.int .i64 2) (.iface cu cd) (.iface 80 (.agg #[])) rfl (by kernel_rfl) (by kernel_rfl) rfl (by go_simp) (by go_simp) (by kernel_rfl) rfl rfl rfl HP5b.out (fun w3 w4 hw' hb2 hs2 => ?_)
    refine ⟨Keeps.same hs2 HB5.out, ?_⟩
    refine regR_done (by kernel_rfl) (fun W5 hw5 => ?_) _
    have HP5c := hid (hw5.blk hb2)
    have HP4c := hid (hw5.blk ((hs2.2.2.2.2 _ (Array.getElem?_eq_some_iff.1 (hw'.blk HP4b.out)).1 HNE.out).trans (hw'.blk HP4b.out)))
    have HEX3 := hid ((Same.ext (HEX2.out.trans hw') hs2 (fun k hk e => by rw [e] at hk; exact absurd hk (by have := HL5.out; omega))).trans hw5)
    clear hb2 hs2 hw' hw5 HP4b HP5b HEX2
    go_simp
    rw [HQ.out]
    clear HQ Q2
    have c0 := HF.out W5 HEX3.out
    cases hfi : s.first
    · rw [hfi] at c0
      have HK : Hid (s.keys = (.chain 2 s.chain .empty, .chain 1 s.chain .empty)) := hid (by simp [Sd.keys, hfi])
      go_wp2_with fail
      clear c0
      refine reg_begin 6 (by kernel_rfl) ?_
      refine reg_hide (fun Q2 HQ => ?_)
      generalize hW : World.drew _ = W
      have HE : Hid (Ext W5 W) := hid (by rw [← hW]; exact Ext.drew _)
      clear hW
      have HD : Hid (∀ W', Ext W5 W' → (W'.cell? ⟨p4, 0, none⟩ = some (.int .i64 1) ∧ W'.cell? ⟨p4, 1, none⟩ = some (.iface cu cd) ∧ W'.cell? ⟨p4, 2, none⟩ = some (.iface 80 (.agg #[]))) ∧ (W'.cell? ⟨p5, 0, none⟩ = some (.int .i64 2) ∧ W'.cell? ⟨p5, 1, none⟩ = some (.iface cu cd) ∧ W'.cell? ⟨p5, 2, none⟩ = some (.iface 80 (.agg #[])))) :=
        hid (fun W' hW => ⟨⟨cell_blk (hW.blk HP4c.out) rfl, cell_blk (hW.blk HP4c.out) rfl, cell_blk (hW.blk HP4c.out) rfl⟩, ⟨cell_blk (hW.blk HP5c.out) rfl, cell_blk (hW.blk HP5c.out) rfl, cell_blk (hW.blk HP5c.out) rfl⟩⟩)
      refine reg_quiet 0 rfl (by kernel_rfl) (by kernel_rfl) ?_; apply Exists.intro; refine ⟨fun w' hw' => ?_, ?_⟩; · have q0 := (HD.out w' (HE.out.trans hw')).1.1; have q1 := (HD.out w' (HE.out.trans hw')).1.2.1; have q2 := (HD.out w' (HE.out.trans hw')).1.2.2; have q3 := (HD.out w' (HE.out.trans hw')).2.1; have q4 := (HD.out w' (HE.out.trans hw')).2.2.1; have q5 := (HD.out w' (HE.out.trans hw')).2.2.2; go_simp; exact ⟨rfl, Ext.refl _⟩
      refine reg_pure 1 rfl (by kernel_rfl) (by kernel_rfl) ?_; apply Exists.intro; refine ⟨fun w' => ?_, ?_⟩; · go_simp; exact rfl
      refine reg_quiet 2 rfl (by kernel_rfl) (by kernel_rfl) ?_; apply Exists.intro; refine ⟨fun w' hw' => ?_, ?_⟩; · have q0 := (HD.out w' (HE.out.trans hw')).1.1; have q1 := (HD.out w' (HE.out.trans hw')).1.2.1; have q2 := (HD.out w' (HE.out.trans hw')).1.2.2; have q3 := (HD.out w' (HE.out.trans hw')).2.1; have q4 := (HD.out w' (HE.out.trans hw')).2.2.1; have q5 := (HD.out w' (HE.out.trans hw')).2.2.2; go_simp; exact ⟨rfl, Ext.refl _⟩
      refine reg_pure 3 rfl (by kernel_rfl) (by kernel_rfl) ?_; apply Exists.intro; refine ⟨fun w' => ?_, ?_⟩; · go_simp; exact rfl
      refine reg_pure 4 rfl (by kernel_rfl) (by kernel_rfl) ?_; apply Exists.intro; refine ⟨fun w' => ?_, ?_⟩; · go_simp; exact rfl
      refine reg_pure 5 rfl (by kernel_rfl) (by kernel_rfl) ?_; apply Exists.intro; refine ⟨fun w' => ?_, ?_⟩; · go_simp; exact rfl
      refine reg_done (by kernel_rfl) (fun W6 hw6 => ?_) _
      have HE5 := hid (HEX3.out.trans (HE.out.trans hw6))
      clear HE hw6
      go_simp
      rw [HQ.out]
      clear HQ Q2
      go_wp2_with fail
      go_ret2
      exact ⟨by rw [HK.out]; simp only [Tm.val, HCH.out]; rfl, HE5.out⟩
    · rw [hfi] at c0
      have HK : Hid (s.keys = (.chain 1 s.chain .empty, .chain 2 s.chain .empty)) := hid (by simp [Sd.keys, hfi])
      go_wp2_with fail
      clear c0
      refine reg_begin 6 (by kernel_rfl) ?_
      refine reg_hide (fun Q2 HQ => ?_)
      generalize hW : World.drew _ = W
      have HE : Hid (Ext W5 W) := hid (by rw [← hW]; exact Ext.drew _)
      clear hW
      have HD : Hid (∀ W', Ext W5 W' → (W'.cell? ⟨p4, 0, none⟩ = some (.int .i64 1) ∧ W'.cell? ⟨p4, 1, none⟩ = some (.iface cu cd) ∧ W'.cell? ⟨p4, 2, none⟩ = some (.iface 80 (.agg #[]))) ∧ (W'.cell? ⟨p5, 0, none⟩ = some (.int .i64 2) ∧ W'.cell? ⟨p5, 1, none⟩ = some (.iface cu cd) ∧ W'.cell? ⟨p5, 2, none⟩ = some (.iface 80 (.agg #[])))) :=
        hid (fun W' hW => ⟨⟨cell_blk (hW.blk HP4c.out) rfl, cell_blk (hW.blk HP4c.out) rfl, cell_blk (hW.blk HP4c.out) rfl⟩, ⟨cell_blk (hW.blk HP5c.out) rfl, cell_blk (hW.blk HP5c.out) rfl, cell_blk (hW.blk HP5c.out) rfl⟩⟩)
      refine reg_quiet 0 rfl (by kernel_rfl) (by kernel_rfl) ?_; apply Exists.intro; refine ⟨fun w' hw' => ?_, ?_⟩; · have q0 := (HD.out w' (HE.out.trans hw')).1.1; have q1 := (HD.out w' (HE.out.trans hw')).1.2.1; have q2 := (HD.out w' (HE.out.trans hw')).1.2.2; have q3 := (HD.out w' (HE.out.trans hw')).2.1; have q4 := (HD.out w' (HE.out.trans hw')).2.2.1; have q5 := (HD.out w' (HE.out.trans hw')).2.2.2; go_simp; exact ⟨rfl, Ext.refl _⟩
      refine reg_pure 1 rfl (by kernel_rfl) (by kernel_rfl) ?_; apply Exists.intro; refine ⟨fun w' => ?_, ?_⟩; · go_simp; exact rfl
      refine reg_quiet 2 rfl (by kernel_rfl) (by kernel_rfl) ?_; apply Exists.intro; refine ⟨fun w' hw' => ?_, ?_⟩; · have q0 := (HD.out w' (HE.out.trans hw')).1.1; have q1 := (HD.out w' (HE.out.trans hw')).1.2.1; have q2 := (HD.out w' (HE.out.trans hw')).1.2.2; have q3 := (HD.out w' (HE.out.trans hw')).2.1; have q4 := (HD.out w' (HE.out.trans hw')).2.2.1; have q5 := (HD.out w' (HE.out.trans hw')).2.2.2; go_simp; exact ⟨rfl, Ext.refl _⟩
      refine reg_pure 3 rfl (by kernel_rfl) (by kernel_rfl) ?_; apply Exists.intro; refine ⟨fun w' => ?_, ?_⟩; · go_simp; exact rfl
      refine reg_pure 4 rfl (by kernel_rfl) (by kernel_rfl) ?_; apply Exists.intro; refine ⟨fun w' => ?_, ?_⟩; · go_simp; exact rfl
      refine reg_pure 5 rfl (by kernel_rfl) (by kernel_rfl) ?_; apply Exists.intro; refine ⟨fun w' => ?_, ?_⟩; · go_simp; exact rfl
      refine reg_done (by kernel_rfl) (fun W6 hw6 => ?_) _
      have HE5 := hid (HEX3.out.trans (HE.out.trans hw6))
      clear HE hw6
      go_simp
      rw [HQ.out]
      clear HQ Q2
      go_wp2_with fail
      go_ret2
      exact ⟨by rw [HK.out]; simp only [Tm.val, HCH.out]; rfl, HE5.out⟩

end Go.Proofs.YtjodmedgkmeklaaGreat
