/-
  Texts merged: Q8, Q9.
-/
import Derived.Shelf.Abstract
import Derived.Test.YtjodmedgkmeklaaGreatJ13
/-
  Slices in boxes; an append of one term; what parts() keeps.
-/
namespace Go.Proofs.YtjodmedgkmeklaaGreat
open Go Go.RowKit Go.Maps
attribute [local go_sem] extUpon run_store_tm
attribute [local go_sem ↓] Tm.val_cell eval_put_ne eval_put_none eval_put_same size_put eval_const
attribute [local go_sem ↓] meth_Atom meth_Public meth_Shared meth_Chain meth_Digest meth_Box meth_Empty
attribute [local go_sem ↓] run_build_chain run_build_digest run_build_box
attribute [local go_sem] ta_Atom_Atom ta_Public_Atom ta_Shared_Atom ta_Chain_Atom ta_Digest_Atom ta_Box_Atom ta_Empty_Atom ta_Nil_Atom ta_Atom_Public ta_Public_Public ta_Shared_Public ta_Chain_Public ta_Digest_Public ta_Box_Public ta_Empty_Public ta_Nil_Public ta_Atom_Shared ta_Public_Shared ta_Shared_Shared ta_Chain_Shared ta_Digest_Shared ta_Box_Shared ta_Empty_Shared ta_Nil_Shared ta_Atom_Chain ta_Public_Chain ta_Shared_Chain ta_Chain_Chain ta_Digest_Chain ta_Box_Chain ta_Empty_Chain ta_Nil_Chain ta_Atom_Digest ta_Public_Digest ta_Shared_Digest ta_Chain_Digest ta_Digest_Digest ta_Box_Digest ta_Empty_Digest ta_Nil_Digest ta_Atom_Box ta_Public_Box ta_Shared_Box ta_Chain_Box ta_Digest_Box ta_Box_Box ta_Empty_Box ta_Nil_Box ta_Atom_Empty ta_Public_Empty ta_Shared_Empty ta_Chain_Empty ta_Digest_Empty ta_Box_Empty ta_Empty_Empty ta_Nil_Empty
variable {w w2 W W2 : World} {b : Nat} {s : Sd} {vs va : Value} {f : Int → List UInt8}

/-- A slice in a box of its own. -/
structure Boxed (w : World) (base B : Nat) (bt e : TypeId) (v : Value) (xs : List Value) : Prop where
  blk : w.heap[B]? = some (.cells #[v] bt (0, 0))
  own : w.ownsRow base e 1 v xs.length xs
theorem Boxed.ext {w w1 : World} (h : Ext w w1) {base B : Nat} {bt e : TypeId} {v : Value} {xs : List Value} (ho : Boxed w base B bt e v xs) : Boxed w1 base B bt e v xs :=
  ⟨h.blk ho.blk, own_ext h ho.own⟩
theorem own_ne {w : World} {base : Nat} {e t : TypeId} {size n g : Nat} {v : Value} {xs : List Value} {cs : Array Value} (h : w.ownsRow base e size v n xs) (hg : w.heap[g]? = some (.cells cs t (0, 0))) (hne : e ≠ t) : v.ownBlock ≠ some g := by
  intro hb
  rcases h.2 with ⟨rfl, _⟩ | ⟨g', cap, cur, rfl, _, hh, _⟩
  · cases hb
  · simp only [Value.ownBlock, Option.some.injEq] at hb
    subst hb
    rw [hh] at hg
    simp only [Option.some.injEq, Obj.cells.injEq] at hg
    exact hne hg.2.1
theorem grown_blk {w w1 : World} {row : Option Nat} (hg : w.grownBy w1 row) {B : Nat} {o : Obj} (hb : w.heap[B]? = some o) (hne : row ≠ some B) : w1.heap[B]? = some o :=
  (hg.block B (Array.getElem?_eq_some_iff.1 hb).1 (fun h => hne h.symm)).trans hb
theorem set_blk_far {w : World} {B : Nat} {o : Obj} (hb : w.heap[B]? = some o) {p : Addr} (hp : B ≠ p.block) (u : Value) : (w.setCell p u).heap[B]? = some o :=
  (Below.heap_setCell w p u B hp).trans hb
theorem set_blk {w : World} {B : Nat} {v : Value} {t : TypeId} {fr : Nat × Nat} (hb : w.heap[B]? = some (.cells #[v] t fr)) (u : Value) : (w.setCell ⟨B, 0, none⟩ u).heap[B]? = some (.cells #[u] t fr) := by
  simp [World.setCell, Array.getElem?_modify, hb]
theorem own_keep {w w2 : World} {base : Nat} {e : TypeId} {size n : Nat} {v : Value} {xs : List Value} (h : w.ownsRow base e size v n xs) (hb : ∀ g, v.ownBlock = some g → w2.heap[g]? = w.heap[g]?) : w2.ownsRow base e size v n xs := by
  refine ⟨h.1, ?_⟩
  rcases h.2 with h2 | ⟨g, cap, cur, rfl, hb2, hh, r⟩
  · exact .inl h2
  · exact .inr ⟨g, cap, cur, rfl, hb2, (hb g rfl).trans hh, r⟩
theorem blk_frozen {w : World} {B j : Nat} {cs : Array Value} {t : TypeId} (hb : w.heap[B]? = some (.cells cs t (0, 0))) : w.frozen? ⟨B, j, none⟩ = false := by
  simp [World.frozen?, hb]
theorem Boxed.cell {w : World} {base B : Nat} {bt e : TypeId} {v : Value} {xs : List Value} (h : Boxed w base B bt e v xs) : w.cell? ⟨B, 0, none⟩ = some v := cell_blk h.blk rfl
theorem Boxed.grown {w w1 : World} {base B : Nat} {bt e : TypeId} {v : Value} {xs : List Value} (h : Boxed w base B bt e v xs) (hne : e ≠ bt) (hg : w.grownBy w1 v.ownBlock) :
    w1.cell? ⟨B, 0, none⟩ = some v ∧ w1.frozen? ⟨B, 0, none⟩ = false :=
  have hb := grown_blk hg h.blk (own_ne h.own h.blk hne)
  ⟨cell_blk hb rfl, blk_frozen hb⟩
theorem own_set {w : World} {base : Nat} {e : TypeId} {size n : Nat} {v : Value} {xs : List Value} (h : w.ownsRow base e size v n xs) {p : Addr} (hne : v.ownBlock ≠ some p.block) (u : Value) : (w.setCell p u).ownsRow base e size v n xs :=
  own_keep h fun g hg => Below.heap_setCell w p u g (fun e => hne (by rw [← e]; exact hg))
theorem Boxed.app {W w1 : World} {base B : Nat} {bt e : TypeId} {v v' : Value} {xs : List Value} {x : Value} {n : Nat} (h : Boxed W base B bt e v xs) (hne : e ≠ bt)
    (hg : W.grownBy w1 v.ownBlock) (ho : w1.ownsRow base e 1 v' (n + 1) (xs ++ [x])) (hn : n = xs.length) : Boxed (w1.setCell ⟨B, 0, none⟩ v') base B bt e v' (xs ++ [x]) := by
  have h1 := grown_blk hg h.blk (own_ne h.own h.blk hne)
  refine ⟨set_blk h1 _, ?_⟩
  rw [List.length_append, List.length_singleton, ← hn]
  exact own_set ho (own_ne ho h1 hne) _

/-- One term is appended. -/
theorem app_run (B : Nat) (v : Value) (n : Nat) (xs : List Value) (w : World) (hown : w.ownsRow B 29 1 v n xs) (g : Nat) (t : Value) (hnew : w.cell? ⟨g, 0, none⟩ = some t) (h1 : t.oneCell' = true) (hb : n ≤ 1000) (hB : B ≤ w.heap.size) :
    ∃ v' w', (Builtin.append_ #[40, 40] 40 #[v, .slice (some ⟨g, 0, none⟩) 1 1]).run Tryz.prog w = .ok v' w' ∧ w'.ownsRow B 29 1 v' (n + 1) (xs ++ [t]) ∧ w.grownBy w' v.ownBlock ∧ (∀ k, v'.ownBlock = some k → v.ownBlock = some k ∨ k = w.heap.size) ∧ v'.oneCell' = true := by
  obtain ⟨i, hi, hz, hz1, hz2⟩ := info_parts (show (Tryz.prog.info? 29).map (fun i => (i.zero, i.size, i.bytes)) = some (some .nilIface, 1, 16) by kernel_rfl)
  obtain ⟨g', cap', w', hr, h2, h3, h4, _⟩ := run_append_lies (P := Tryz.prog) w 40 40 B 29 i .nilIface 1 16 Tryz.underlying40 hi hz hz1 hz2 rfl (by omega) v n xs hown ⟨g, 0, none⟩ 1 1 [t] (by rfl)
    (fun j u hu => by
      have hj : j = 0 := by have := (List.getElem?_eq_some_iff.1 hu).1; simp at this; omega
      subst hj
      cases hu
      exact hnew)
    (fun u hu => by simp at hu; subst hu; exact h1) (by omega) (by unfold maxLen; omega) (by omega) hB w.heap.size rfl
  exact ⟨_, w', hr, h2, h3, fun k hk => by
    simp only [Value.ownBlock, Option.some.injEq] at hk
    subst hk
    exact h4, rfl⟩
theorem wp_app1 {o : Oper} {a : Act} {w : World} {K : Act → World → Prop} {Q : Exit → Act → World → Prop} (x y : Operand) (ho : o.op = .call { callee := .builtin .append, args := #[x, y], argTypes := #[40, 40] }) (hty : o.type = 40)
    (B : Nat) (v : Value) (n : Nat) (xs : List Value) (hs : a.eval x = v) (hown : w.ownsRow B 29 1 v n xs) (g : Nat) (t : Value) (hx : a.eval y = .slice (some ⟨g, 0, none⟩) 1 1) (hnew : w.cell? ⟨g, 0, none⟩ = some t) (h1 : t.oneCell' = true) (hb : n ≤ 1000) (hB : B ≤ w.heap.size)
    (h : ∀ v' w', w'.ownsRow B 29 1 v' (n + 1) (xs ++ [t]) → w.grownBy w' v.ownBlock → (∀ k, v'.ownBlock = some k → v.ownBlock = some k ∨ k = w.heap.size) → v'.oneCell' = true → K (a.put o.dst v') w') : o.wp Tryz.prog a w K Q := by
  obtain ⟨v', w', hr, h2, h3, h4, h5⟩ := app_run B v n xs w hown g t hnew h1 hb hB
  unfold Oper.wp execOp
  simp only [ho, hty, resolve, invoke, builtin, Sem.run_bind, Sem.run_pure, Result.andThen_ok, List.map_toArray, List.map_cons, List.map_nil, hs, hx, hr]
  exact h v' w' h2 h3 h4 h5
theorem wpl_app1 {rest : List Oper} {ops : Array Oper} {o : Oper} {a : Act} {w : World} {Q : Exit → Act → World → Prop} (x y : Operand) (hg : o.guard = none) (ho : o.op = .call { callee := .builtin .append, args := #[x, y], argTypes := #[40, 40] }) (hty : o.type = 40)
    (B : Nat) (v : Value) (n : Nat) (xs : List Value) (hs : a.eval x = v) (hown : w.ownsRow B 29 1 v n xs) (g : Nat) (t : Value) (hx : a.eval y = .slice (some ⟨g, 0, none⟩) 1 1) (hnew : w.cell? ⟨g, 0, none⟩ = some t) (h1 : t.oneCell' = true) (hb : n ≤ 1000) (hB : B ≤ w.heap.size)
    (h : ∀ v' w', w'.ownsRow B 29 1 v' (n + 1) (xs ++ [t]) → w.grownBy w' v.ownBlock → (∀ k, v'.ownBlock = some k → v.ownBlock = some k ∨ k = w.heap.size) → v'.oneCell' = true → wpList Tryz.prog ops Q rest (a.put o.dst v') w') : wpList Tryz.prog ops Q (o :: rest) a w :=
  wpList_plain hg fun _ hK => wp_app1 x y ho hty B v n xs hs hown g t hx hnew h1 hb hB fun v' w' k1 k2 k3 k4 => hK _ _ (h v' w' k1 k2 k3 k4)

/-- While a side says its parts: the box of the side's pointer, that of what is said so far. B: the heap's size ahead of it all. -/
structure PT (B b sb ob : Nat) (W : World) (s : Sd) (vs va v : Value) (l : List Tm) : Prop where
  sd : SdAt W b s vs va
  sbox : W.heap[sb]? = some (.cells #[ptr b] 65 (0, 0))
  box : Boxed W B ob 40 29 v (l.map Tm.val)
  low : b < B
  sl : B ≤ sb
  ol : B ≤ ob
  few : l.length ≤ 10
  size : B ≤ W.heap.size
/-- Nothing below B is turned but b. -/
abbrev Low (B b : Nat) (k : Nat) : Prop := k < B ∧ k ≠ b
theorem PT.ne {B sb ob : Nat} {v : Value} {l : List Tm} (h : PT B b sb ob W s vs va v l) : sb ≠ ob := fun e => by
  have h1 := h.sbox
  rw [e] at h1
  have := h1.symm.trans h.box.blk
  simp only [Option.some.injEq, Obj.cells.injEq] at this
  exact absurd this.2.1 (by decide)
theorem PT.later {B sb ob : Nat} {v : Value} {l : List Tm} (h : PT B b sb ob W s vs va v l) (he : Ext W W2) : PT B b sb ob W2 s vs va v l :=
  ⟨h.sd.later he, he.blk h.sbox, h.box.ext he, h.low, h.sl, h.ol, h.few, Nat.le_trans h.size he.size⟩
theorem PT.side {B sb ob : Nat} {v : Value} {l : List Tm} {s2 : Sd} (h : PT B b sb ob W s vs va v l) (hs : SdAt W2 b s2 vs va) (hS : Same W W2 (OnlyB b)) : PT B b sb ob W2 s2 vs va v l := by
  have hb : ∀ k, B ≤ k → k < W.heap.size → W2.heap[k]? = W.heap[k]? := fun k hk hl => hS.2.2.2.2 k hl (by have := h.low; show k ≠ b; omega)
  have l1 := (Array.getElem?_eq_some_iff.1 h.sbox).1
  have l2 := (Array.getElem?_eq_some_iff.1 h.box.blk).1
  exact ⟨hs, (hb sb h.sl l1).trans h.sbox, ⟨(hb ob h.ol l2).trans h.box.blk, own_keep h.box.own fun g hg => hb g (h.box.own.lt g hg).1 (h.box.own.lt g hg).2⟩, h.low, h.sl, h.ol, h.few, Nat.le_trans h.size hS.2.2.2.1⟩
theorem PT.app {B sb ob : Nat} {v v' : Value} {l : List Tm} {t : Tm} (h : PT B b sb ob W s vs va v l) (hg : W.grownBy W2 v.ownBlock) (ho : W2.ownsRow B 29 1 v' (l.length + 1) (l.map Tm.val ++ [t.val])) (hf : l.length ≤ 9) :
    PT B b sb ob (W2.setCell ⟨ob, 0, none⟩ v') s vs va v' (l ++ [t]) ∧ Same W (W2.setCell ⟨ob, 0, none⟩ v') (Low B b) := by
  have hbx := h.box.app (x := t.val) (n := l.length) (by decide) hg ho (by simp)
  have hrow : ∀ k, v.ownBlock = some k → B ≤ k := fun k hk => (h.box.own.lt k hk).1
  have hkeep : ∀ k, k < W.heap.size → k < B → (W2.setCell ⟨ob, 0, none⟩ v').heap[k]? = W.heap[k]? := fun k hk hB =>
    (Below.heap_setCell W2 ⟨ob, 0, none⟩ v' k (by have := h.ol; show k ≠ ob; omega)).trans (hg.block k hk (fun e => by have := hrow k e.symm; omega))
  have hsb : (W2.setCell ⟨ob, 0, none⟩ v').heap[sb]? = W.heap[sb]? :=
    (Below.heap_setCell W2 ⟨ob, 0, none⟩ v' sb h.ne).trans (hg.block sb (Array.getElem?_eq_some_iff.1 h.sbox).1 (fun e => own_ne h.box.own h.sbox (by decide) e.symm))
  have hsz : W.heap.size ≤ (W2.setCell ⟨ob, 0, none⟩ v').heap.size := by have := hg.size; simp [World.setCell]; omega
  refine ⟨⟨h.sd.keep (hkeep b h.sd.lt h.low), hsb.trans h.sbox, by rw [List.map_append]; exact hbx, h.low, h.sl, h.ol, by simp; omega, Nat.le_trans h.size hsz⟩, ⟨hg.os, hg.tape, hg.output, hsz, fun k hk hp => hkeep k hk hp.1⟩⟩

end Go.Proofs.YtjodmedgkmeklaaGreat

/-
  The two closures of parts().
-/
namespace Go.Proofs.YtjodmedgkmeklaaGreat
open Go Go.RowKit Go.Maps
attribute [local go_sem] extUpon run_store_tm
attribute [local go_sem ↓] Tm.val_cell eval_put_ne eval_put_none eval_put_same size_put eval_const
attribute [local go_sem ↓] meth_Atom meth_Public meth_Shared meth_Chain meth_Digest meth_Box meth_Empty
attribute [local go_sem ↓] run_build_chain run_build_digest run_build_box
attribute [local go_sem] ta_Atom_Atom ta_Public_Atom ta_Shared_Atom ta_Chain_Atom ta_Digest_Atom ta_Box_Atom ta_Empty_Atom ta_Nil_Atom ta_Atom_Public ta_Public_Public ta_Shared_Public ta_Chain_Public ta_Digest_Public ta_Box_Public ta_Empty_Public ta_Nil_Public ta_Atom_Shared ta_Public_Shared ta_Shared_Shared ta_Chain_Shared ta_Digest_Shared ta_Box_Shared ta_Empty_Shared ta_Nil_Shared ta_Atom_Chain ta_Public_Chain ta_Shared_Chain ta_Chain_Chain ta_Digest_Chain ta_Box_Chain ta_Empty_Chain ta_Nil_Chain ta_Atom_Digest ta_Public_Digest ta_Shared_Digest ta_Chain_Digest ta_Digest_Digest ta_Box_Digest ta_Empty_Digest ta_Nil_Digest ta_Atom_Box ta_Public_Box ta_Shared_Box ta_Chain_Box ta_Digest_Box ta_Box_Box ta_Empty_Box ta_Nil_Box ta_Atom_Empty ta_Public_Empty ta_Shared_Empty ta_Chain_Empty ta_Digest_Empty ta_Box_Empty ta_Empty_Empty ta_Nil_Empty
variable {w w2 W W2 : World} {b B sb ob : Nat} {s : Sd} {vs va v : Value} {l : List Tm} {f : Int → List UInt8}

set_option maxHeartbeats 2000000 in
set_option maxRecDepth 100000 in
theorem own_any (h : PT B b sb ob W s vs va v l) (hh : s.hash ≠ .non) (hf : l.length ≤ 9) :
    Calls Tryz.prog 61 #[ptr sb, ptr ob] W fun e w' => (∃ x, e = .returned x) ∧ ∃ v', PT B b sb ob w' (s.mix (.pub s.fresh)) vs va v' (l ++ [.pub s.fresh]) ∧ Same W w' (Low B b) := by
  have c1 : W.cell? ⟨sb, 0, none⟩ = some (ptr b) := cell_blk h.sbox rfl
  have c2 : W.cell? ⟨b, 2, none⟩ = some (.int .i64 s.fresh) := h.sd.cell rfl
  have hal := Ext.alloc W (.cells #[.int .i64 s.fresh] 82 (0, 0))
  have hbk := blk_new W (.cells #[.int .i64 s.fresh] 82 (0, 0))
  have hpt := h.later hal
  have HAL := hid hal
  have HBK := hid hbk
  have HM := hid (mixHash_any (t := .pub s.fresh) (u := 82) (d := .agg #[.int .i64 s.fresh]) ⟨rfl⟩ hh hpt.sd)
  have HPT := hid hpt
  have HLB : Hid (b < W.heap.size) := hid (by have := h.low; have := h.size; omega)
  have c1b : (W.alloc (.cells #[.int .i64 s.fresh] 82 (0, 0))).cell? ⟨sb, 0, none⟩ = some (ptr b) := cell_blk hpt.sbox rfl
  clear h hal hbk hpt hh
  go_enter Tryz.func61, Tryz.ntmps61
  go_upto_region 1 with fail
  generalize World.alloc W _ = W0 at *
  generalize W.heap.size = q at *
  clear c1 c2
  have d0 : W0.cell? ⟨q, 0, none⟩ = some (.int .i64 s.fresh) := cell_blk HBK.out rfl
  go_wp2_with fail
  refine HM.out.mono ?_
  rintro e w1 ⟨⟨x, rfl⟩, h1, h2⟩
  have hp2 := HPT.out.side h1 h2
  have hb2 := (h2.2.2.2.2 q (Array.getElem?_eq_some_iff.1 HBK.out).1 (by have := HLB.out; show q ≠ b; omega)).trans HBK.out
  have hs2 := (Same.of_ext (p := Low B b) HAL.out).trans (h2.mono (fun k hk => hk.2))
  have HP2 := hid hp2
  have HB2 := hid hb2
  have HS2 := hid hs2
  clear h1 h2 hp2 hb2 hs2 c1b d0 HM HPT HAL HBK
  have d0 : w1.cell? ⟨q, 0, none⟩ = some (.int .i64 s.fresh) := cell_blk HB2.out rfl
  have c3 := HP2.out.box.cell
  have HA := hid (Ext.alloc w1 (.cells #[.iface 82 (.agg #[.int .i64 s.fresh])] 29 (0, 0)))
  have HBA := hid (blk_new w1 (.cells #[.iface 82 (.agg #[.int .i64 s.fresh])] 29 (0, 0)))
  have hsz : B ≤ (w1.alloc (.cells #[.iface 82 (.agg #[.int .i64 s.fresh])] 29 (0, 0))).heap.size := Nat.le_trans HP2.out.size HA.out.size
  go_wp2_with (first
    | (at_builtin; refine wpl_app1 (.tmp 13) (.tmp 16) rfl rfl rfl B v l.length (l.map Tm.val) (by rfl) (by have := (own_ext HA.out HP2.out.box.own); rwa [List.length_map] at this) w1.heap.size (.iface 82 (.agg #[.int .i64 s.fresh])) (by rfl) (cell_blk HBA.out rfl) rfl (by omega) hsz ?_; intro v' w4 hown hgr hnb hv1; obtain ⟨va', vc', hve, _⟩ := row_cells hown; subst hve; obtain ⟨cO, fO⟩ := Boxed.grown (HP2.out.box.ext HA.out) (by decide) hgr))
  have hap := PT.app (t := .pub s.fresh) (HP2.out.later HA.out) hgr hown hf
  have HAP := hid hap
  clear hap hown hgr hnb hv1 cO fO c3 d0 hsz
  go_end0
  exact ⟨⟨_, rfl⟩, _, HAP.out.1, (HS2.out.trans (Same.of_ext HA.out)).trans HAP.out.2⟩

theorem grownE {w w1 w2 : World} {row : Option Nat} (h : w.grownBy w1 row) (he : Ext w1 w2) : w.grownBy w2 row :=
  ⟨he.os.trans h.os, he.tape.trans h.tape, he.output.trans h.output, Nat.le_trans h.size he.size, fun k hk hr => (he.block k (Nat.lt_of_lt_of_le hk h.size)).trans (h.block k hk hr)⟩
theorem seal_ne {t : Tm} (ht : t ≠ .non) : (s.seal t).2 ≠ .non := by
  unfold Sd.seal
  split
  · exact ht
  · simp

set_option maxHeartbeats 4000000 in
set_option maxRecDepth 100000 in
theorem static_any (h : PT B b sb ob W s vs va v l) (hh : s.hash ≠ .non) (hn0 : 0 ≤ s.n) (hn : s.n ≤ 100) (hf : l.length ≤ 9) :
    Calls Tryz.prog 63 #[ptr ob, ptr sb] W fun e w' => (∃ x, e = .returned x) ∧ ∃ v', PT B b sb ob w' (s.seal (.pub s.static)).1 vs va v' (l ++ [(s.seal (.pub s.static)).2]) ∧ Same W w' (Low B b) := by
  have HPT := hid h
  obtain ⟨ru, rd, hr⟩ := Va.of (seal_ne (s := s) (t := .pub s.static) (by simp))
  have HR := hid hr
  have HSE : Hid (∀ W', Ext W W' → Calls Tryz.prog 64 #[ptr b, .iface 82 (.agg #[.int .i64 s.static])] W' fun e w' => e = .returned (.iface ru rd) ∧ SdAt w' b (s.seal (.pub s.static)).1 vs va ∧ Same W' w' (OnlyB b)) := hid (fun W' hW => by
    have := seal_any (t := .pub s.static) (u := 82) (d := .agg #[.int .i64 s.static]) ⟨rfl⟩ hh hn0 hn (h.later hW).sd
    rwa [hr.eq] at this)
  have HC := hid (fun W' (hW : Ext W W') => (⟨cell_blk (h.later hW).sbox rfl, (h.later hW).sd.cell rfl, (h.later hW).box.cell⟩ : W'.cell? ⟨sb, 0, none⟩ = some (ptr b) ∧ W'.cell? ⟨b, 1, none⟩ = some (.int .i64 s.static) ∧ W'.cell? ⟨ob, 0, none⟩ = some v))
  clear h hh hn0 hn hr
  go_enter Tryz.func63, Tryz.ntmps63
  go_wp2_with fail
  refine reg_begin 9 (by kernel_rfl) ?_
  refine reg_hide (fun Q2 HQ => ?_)
  generalize hW : World.drew _ = W3
  have HE : Hid (Ext W W3) := hid (by rw [← hW]; exact Ext.drew _)
  clear hW
  refine reg_quiet 1 rfl (by kernel_rfl) (by kernel_rfl) ?_; apply Exists.intro; refine ⟨fun w' hw' => ?_, ?_⟩; · have q0 := (HC.out w' (HE.out.trans hw')).1; go_simp; exact ⟨rfl, Ext.refl _⟩
  refine reg_quiet 2 rfl (by kernel_rfl) (by kernel_rfl) ?_; apply Exists.intro; refine ⟨fun w' hw' => ?_, ?_⟩; · have q0 := (HC.out w' (HE.out.trans hw')).1; go_simp; exact ⟨rfl, Ext.refl _⟩
  refine reg_pure 3 rfl (by kernel_rfl) (by kernel_rfl) ?_; apply Exists.intro; refine ⟨fun w' => ?_, ?_⟩; · go_simp; exact rfl
  refine reg_pure 4 rfl (by kernel_rfl) (by kernel_rfl) ?_; apply Exists.intro; refine ⟨fun w' => ?_, ?_⟩; · go_simp; exact rfl
  refine reg_pure 5 rfl (by kernel_rfl) (by kernel_rfl) ?_; apply Exists.intro; refine ⟨fun w' => ?_, ?_⟩; · go_simp; exact rfl
  refine reg_quiet 6 rfl (by kernel_rfl) (by kernel_rfl) ?_; apply Exists.intro; refine ⟨fun w' hw' => ?_, ?_⟩; · have q0 := (HC.out w' (HE.out.trans hw')).2.1; go_simp; exact ⟨rfl, Ext.refl _⟩
  refine reg_pure 7 rfl (by kernel_rfl) (by kernel_rfl) ?_; apply Exists.intro; refine ⟨fun w' => ?_, ?_⟩; · go_simp; exact rfl
  refine reg_pure 8 rfl (by kernel_rfl) (by kernel_rfl) ?_; apply Exists.intro; refine ⟨fun w' => ?_, ?_⟩; · go_simp; exact rfl
  refine reg_two 0 9 rfl rfl (by kernel_rfl) (by kernel_rfl) (by kernel_rfl) (fun w1 hw1 => ?_) (fun w1 hw1 => ?_)
  · have q0 := (HC.out w1 (HE.out.trans hw1)).2.2
    go_simp
    refine ⟨Ext.refl _, ?_⟩
    clear q0
    refine reg_one 9 rfl (by kernel_rfl) (by kernel_rfl) (fun w2 hw2 => ?_)
    go_simp
    have hex := HE.out.trans (hw1.trans hw2)
    refine (HSE.out w2 hex).mono ?_
    rintro e w4 ⟨rfl, h1, h2⟩
    have HP2 := hid ((HPT.out.later hex).side h1 h2)
    have HS2 := hid ((Same.of_ext (p := Low B b) hex).trans (h2.mono (fun k hk => hk.2)))
    clear h1 h2 hw1 hw2 hex HC
    clear HE HSE HPT
    refine reg_one 10 rfl (by kernel_rfl) (by kernel_rfl) (fun w5 hw5 => ?_)
    go_simp
    have hpa := (HP2.out.later hw5).later (Ext.alloc w5 (.cells #[.iface ru rd] 29 (0, 0)))
    have hba := blk_new w5 (.cells #[.iface ru rd] 29 (0, 0))
    have hsa := (HS2.out.trans (Same.of_ext hw5)).trans (Same.of_ext (Ext.alloc w5 (.cells #[.iface ru rd] 29 (0, 0))))
    have HPA := hid hpa
    have HBA := hid hba
    have HSA := hid hsa
    clear hpa hba hsa hw5 HP2 HS2
    generalize World.alloc w5 _ = w6 at *
    generalize w5.heap.size = q at *
    refine reg_one 11 rfl (by kernel_rfl) (by kernel_rfl) (fun w7 hw7 => ?_)
    refine wp_app1 (.tmp 2) (.tmp 12) rfl rfl B v l.length (l.map Tm.val) (by go_simp) (by have := (HPA.out.later hw7).box.own; rwa [List.length_map] at this) q (.iface ru rd) (by go_simp) (cell_blk (hw7.blk HBA.out) rfl) rfl (by omega) ((HPA.out.later hw7).size) ?_
    intro v' w8 hown hgr hnb hv1
    refine ⟨fun h => absurd h (by decide), ?_⟩
    obtain ⟨va', vc', hve, _⟩ := row_cells hown
    subst hve
    have HGO := hid (Boxed.grown ((HPA.out.later hw7).box) (by decide) hgr)
    have hapF := fun w9 (hw9 : Ext w8 w9) => PT.app (t := (s.seal (.pub s.static)).2) (HPA.out.later hw7) (grownE hgr hw9) (by rw [HR.out.eq]; exact own_ext hw9 hown) hf
    have HAPF := hid hapF
    have HSB := hid (HSA.out.trans (Same.of_ext hw7))
    clear hapF hown hgr hnb hv1 hw7 HPA HBA HSA
    refine reg_store 12 ⟨ob, 0, none⟩ (.slice va' (l.length + 1) vc') rfl (by kernel_rfl) (by kernel_rfl) rfl (by decide) (by go_simp) (by go_simp) (by kernel_rfl) rfl rfl (fun w9 hw9 => ?_) (fun w9 hw9 => ?_)
    · exact ⟨⟨_, hw9.cell HGO.out.1⟩, by
        have h5 := hw9.block ob (World.block_lt_of_cell? w8 _ HGO.out.1)
        have h6 := HGO.out.2
        unfold World.frozen? at h6 ⊢
        rw [h5]
        exact h6⟩
    have hfin := HAPF.out w9 hw9
    have HFIN := hid (And.intro hfin.1 (HSB.out.trans hfin.2))
    clear hfin hw9 HAPF HGO HSB
    generalize World.setCell w9 _ _ = W9 at *
    refine reg_done (by kernel_rfl) (fun W5 hw5 => ?_) _
    have HF := hid (And.intro (HFIN.out.1.later hw5) (HFIN.out.2.trans (Same.of_ext hw5)))
    clear HFIN hw5
    go_simp
    rw [HQ.out]
    clear HQ Q2
    go_wp2_with fail
    go_end0
    exact ⟨⟨_, rfl⟩, _, HF.out⟩
  · go_simp
    have hex := HE.out.trans hw1
    refine (HSE.out w1 hex).mono ?_
    rintro e w4 ⟨rfl, h1, h2⟩
    have hp2 := (HPT.out.later hex).side h1 h2
    have hs2 := (Same.of_ext (p := Low B b) hex).trans (h2.mono (fun k hk => hk.2))
    have HP3 := hid hp2
    have HS3 := hid hs2
    clear h1 h2 hw1 hex HC hp2 hs2
    refine reg_two 0 10 rfl rfl (by kernel_rfl) (by kernel_rfl) (by kernel_rfl) (fun w5 hw5 => ?_) (fun w5 hw5 => ?_)
    · have q0 := (HP3.out.later hw5).box.cell
      go_simp
      refine ⟨Ext.refl _, ?_⟩
      clear q0
      have HP2 := hid (HP3.out.later hw5)
      have HS2 := hid (HS3.out.trans (Same.of_ext hw5))
      clear HP3 HS3 hw5
      clear HE HSE HPT
      refine reg_one 10 rfl (by kernel_rfl) (by kernel_rfl) (fun w5 hw5 => ?_)
      go_simp
      have hpa := (HP2.out.later hw5).later (Ext.alloc w5 (.cells #[.iface ru rd] 29 (0, 0)))
      have hba := blk_new w5 (.cells #[.iface ru rd] 29 (0, 0))
      have hsa := (HS2.out.trans (Same.of_ext hw5)).trans (Same.of_ext (Ext.alloc w5 (.cells #[.iface ru rd] 29 (0, 0))))
      have HPA := hid hpa
      have HBA := hid hba
      have HSA := hid hsa
      clear hpa hba hsa hw5 HP2 HS2
      generalize World.alloc w5 _ = w6 at *
      generalize w5.heap.size = q at *
      refine reg_one 11 rfl (by kernel_rfl) (by kernel_rfl) (fun w7 hw7 => ?_)
      refine wp_app1 (.tmp 2) (.tmp 12) rfl rfl B v l.length (l.map Tm.val) (by go_simp) (by have := (HPA.out.later hw7).box.own; rwa [List.length_map] at this) q (.iface ru rd) (by go_simp) (cell_blk (hw7.blk HBA.out) rfl) rfl (by omega) ((HPA.out.later hw7).size) ?_
      intro v' w8 hown hgr hnb hv1
      refine ⟨fun h => absurd h (by decide), ?_⟩
      obtain ⟨va', vc', hve, _⟩ := row_cells hown
      subst hve
      have HGO := hid (Boxed.grown ((HPA.out.later hw7).box) (by decide) hgr)
      have hapF := fun w9 (hw9 : Ext w8 w9) => PT.app (t := (s.seal (.pub s.static)).2) (HPA.out.later hw7) (grownE hgr hw9) (by rw [HR.out.eq]; exact own_ext hw9 hown) hf
      have HAPF := hid hapF
      have HSB := hid (HSA.out.trans (Same.of_ext hw7))
      clear hapF hown hgr hnb hv1 hw7 HPA HBA HSA
      refine reg_store 12 ⟨ob, 0, none⟩ (.slice va' (l.length + 1) vc') rfl (by kernel_rfl) (by kernel_rfl) rfl (by decide) (by go_simp) (by go_simp) (by kernel_rfl) rfl rfl (fun w9 hw9 => ?_) (fun w9 hw9 => ?_)
      · exact ⟨⟨_, hw9.cell HGO.out.1⟩, by
          have h5 := hw9.block ob (World.block_lt_of_cell? w8 _ HGO.out.1)
          have h6 := HGO.out.2
          unfold World.frozen? at h6 ⊢
          rw [h5]
          exact h6⟩
      have hfin := HAPF.out w9 hw9
      have HFIN := hid (And.intro hfin.1 (HSB.out.trans hfin.2))
      clear hfin hw9 HAPF HGO HSB
      generalize World.setCell w9 _ _ = W9 at *
      refine reg_done (by kernel_rfl) (fun W5 hw5 => ?_) _
      have HF := hid (And.intro (HFIN.out.1.later hw5) (HFIN.out.2.trans (Same.of_ext hw5)))
      clear HFIN hw5
      go_simp
      rw [HQ.out]
      clear HQ Q2
      go_wp2_with fail
      go_end0
      exact ⟨⟨_, rfl⟩, _, HF.out⟩
    · have HP2 := hid HP3.out
      have HS2 := hid HS3.out
      clear HP3 HS3 HE HSE HPT
      go_simp
      have hpa := (HP2.out.later hw5).later (Ext.alloc w5 (.cells #[.iface ru rd] 29 (0, 0)))
      have hba := blk_new w5 (.cells #[.iface ru rd] 29 (0, 0))
      have hsa := (HS2.out.trans (Same.of_ext hw5)).trans (Same.of_ext (Ext.alloc w5 (.cells #[.iface ru rd] 29 (0, 0))))
      have HPA := hid hpa
      have HBA := hid hba
      have HSA := hid hsa
      clear hpa hba hsa hw5 HP2 HS2
      generalize World.alloc w5 _ = w6 at *
      generalize w5.heap.size = q at *
      refine reg_one 0 rfl (by kernel_rfl) (by kernel_rfl) (fun w5 hw5 => ?_)
      have q0 := (HPA.out.later hw5).box.cell
      go_simp
      refine ⟨Ext.refl _, ?_⟩
      clear q0
      have hpa := HPA.out.later hw5
      have hba := hw5.blk HBA.out
      have hsa := HSA.out.trans (Same.of_ext hw5)
      clear HPA HBA HSA hw5
      have HPA := hid hpa
      have HBA := hid hba
      have HSA := hid hsa
      clear hpa hba hsa
      refine reg_one 11 rfl (by kernel_rfl) (by kernel_rfl) (fun w7 hw7 => ?_)
      refine wp_app1 (.tmp 2) (.tmp 12) rfl rfl B v l.length (l.map Tm.val) (by go_simp) (by have := (HPA.out.later hw7).box.own; rwa [List.length_map] at this) q (.iface ru rd) (by go_simp) (cell_blk (hw7.blk HBA.out) rfl) rfl (by omega) ((HPA.out.later hw7).size) ?_
      intro v' w8 hown hgr hnb hv1
      refine ⟨fun h => absurd h (by decide), ?_⟩
      obtain ⟨va', vc', hve, _⟩ := row_cells hown
      subst hve
      have HGO := hid (Boxed.grown ((HPA.out.later hw7).box) (by decide) hgr)
      have hapF := fun w9 (hw9 : Ext w8 w9) => PT.app (t := (s.seal (.pub s.static)).2) (HPA.out.later hw7) (grownE hgr hw9) (by rw [HR.out.eq]; exact own_ext hw9 hown) hf
      have HAPF := hid hapF
      have HSB := hid (HSA.out.trans (Same.of_ext hw7))
      clear hapF hown hgr hnb hv1 hw7 HPA HBA HSA
      refine reg_store 12 ⟨ob, 0, none⟩ (.slice va' (l.length + 1) vc') rfl (by kernel_rfl) (by kernel_rfl) rfl (by decide) (by go_simp) (by go_simp) (by kernel_rfl) rfl rfl (fun w9 hw9 => ?_) (fun w9 hw9 => ?_)
      · exact ⟨⟨_, hw9.cell HGO.out.1⟩, by
          have h5 := hw9.block ob (World.block_lt_of_cell? w8 _ HGO.out.1)
          have h6 := HGO.out.2
          unfold World.frozen? at h6 ⊢
          rw [h5]
          exact h6⟩
      have hfin := HAPF.out w9 hw9
      have HFIN := hid (And.intro hfin.1 (HSB.out.trans hfin.2))
      clear hfin hw9 HAPF HGO HSB
      generalize World.setCell w9 _ _ = W9 at *
      refine reg_done (by kernel_rfl) (fun W5 hw5 => ?_) _
      have HF := hid (And.intro (HFIN.out.1.later hw5) (HFIN.out.2.trans (Same.of_ext hw5)))
      clear HFIN hw5
      go_simp
      rw [HQ.out]
      clear HQ Q2
      go_wp2_with fail
      go_end0
      exact ⟨⟨_, rfl⟩, _, HF.out⟩

end Go.Proofs.YtjodmedgkmeklaaGreat
