/-
  KnowGrows: what is kept in its loop; rows appended to rows.
-/
import Derived.Test.YtegmnbcfanjocaaK19
namespace Go.Proofs.Ytegmnbcfanjocaa
open Go Go.RowKit Go.Maps Go.Deep
variable {f : Int → List UInt8}

/-- A base that saw some of what another one can make. -/
structure GI (f : Int → List UInt8) (U : List (List UInt8)) (W2 : World) (kc : KS) (sl : List Int) (A : List UInt8 → Bool) (j : Nat) (W : World) (v : KV) : Prop where
  at_ : KAt f P0 W kc v
  x : v.x = secs sl
  n : v.n ≤ 100 + j
  kept : KC f P0 v
  inU : ∀ s, v.S s = true → s ∈ U
  more : More f (secs sl) A v.S
  ext : Ext W2 W
  lo : W2.heap.size ≤ kc.ab ∧ W2.heap.size ≤ kc.nb
theorem GI.later {U : List (List UInt8)} {W2 W W' : World} {kc : KS} {sl : List Int} {A : List UInt8 → Bool} {j : Nat} {v : KV} (h : GI f U W2 kc sl A j W v) (he : Ext W W') : GI f U W2 kc sl A j W' v :=
  ⟨h.at_.later he, h.x, h.n, h.kept, h.inU, h.more, h.ext.trans he, h.lo⟩
theorem GI.skip {U : List (List UInt8)} {W2 W : World} {kc : KS} {sl : List Int} {A : List UInt8 → Bool} {j : Nat} {v : KV} (h : GI f U W2 kc sl A j W v) : GI f U W2 kc sl A (j + 1) W v :=
  ⟨h.at_, h.x, by have := h.n; omega, h.kept, h.inU, h.more, h.ext, h.lo⟩
theorem GI.start {U : List (List UInt8)} {W2 W : World} {kc : KS} {sl : List Int} {v : KV} {ts : List Tm} {n : Nat} (hM : Made ts) (hl : ts.length ≤ 41) (hn : n ≤ ts.length) (h : Base0 f U W kc v sl (ts.take n)) (he : Ext W2 W) (h1 : W2.heap.size ≤ kc.ab) (h2 : W2.heap.size ≤ kc.nb) :
    GI f U W2 kc sl (names f (ts.take n)) 0 W v := by
  refine ⟨h.at_, h.x, ?_, h.kc, h.inU, ?_, he, h1, h2⟩
  · have := h.n
    have h5 : (ts.take n).length ≤ n := by simp; omega
    omega
  · have := More.start (sec := secs sl) hM (n := n) rfl h.S
    rw [h.S] at this ⊢
    exact this
theorem GI.see (N : Nums f P0) {U : List (List UInt8)} {W2 W W' : World} {kc : KS} {sl : List Int} {A : List UInt8 → Bool} {j : Nat} {v v2 : KV} (hA : Closed f P0 (secs sl) A) (h : GI f U W2 kc sl A j W v) {x : Tm} (hx : x.ok P0) (hc : can f (secs sl) A x = true)
    (hK : KAt f P0 W' kc v2) (hS : Same W W' (KP kc)) (hR : SeeR f P0 U v v2 (nm f x)) : GI f U W2 kc sl A (j + 1) W' v2 := by
  have hx2 : v2.x = v.x := by unfold KV.x; rw [hR.sec]
  have hcl := hR.cl
  rw [h.x] at hcl
  exact ⟨hK, hx2.trans h.x, by have := h.n; have := hR.n; omega, hR.kc, hR.inU, More.see N hA h.more hx hc hcl, Same.ext h.ext hS (fun b hb => ⟨by have := h.lo.1; omega, by have := h.lo.2; omega⟩), h.lo⟩
theorem GI.seen (N : Nums f P0) {U : List (List UInt8)} (hUl : U.length ≤ 80000) (hUn : Univ f P0 U) {w W2 W : World} {kc : KS} {sl : List Int} {A : List UInt8 → Bool} {j : Nat} {v : KV} (hI : Itoa w Small f) (hE : Ext w W2) (hA : Closed f P0 (secs sl) A) (h : GI f U W2 kc sl A j W v) (hj : j ≤ 100)
    {ts : List Tm} {i : Nat} {x : Tm} {u : TypeId} {d : Value} (ho : One ts i x u d) (hU : nm f x ∈ U) (hc : can f (secs sl) A x = true) :
    Calls Try.prog 14 #[.pointer (some ⟨kc.kb, 0, none⟩), .iface u d] W fun e w' => e = .returned (.bool true) ∧ ∃ v2, GI f U W2 kc sl A (j + 1) w' v2 := by
  have hS := see_said N U hUl hUn x W kc v (fun W' hW => hI.later (hE.trans (Same.ext h.ext hW (fun b hb => ⟨by have := h.lo.1; omega, by have := h.lo.2; omega⟩)))) h.at_ ⟨ho.lit.ok, by have := ho.sz; omega⟩ (by have := h.n; omega) h.inU hU h.kept
  rw [ho.val] at hS
  refine hS.mono ?_
  rintro e w' ⟨rfl, v2, h1, h2, h3⟩
  exact ⟨rfl, v2, GI.see N hA h ho.lit.ok hc h1 h2 h3⟩

/-- A row of no cells. -/
theorem own_none (w : World) (B : Nat) (hB : B ≤ w.heap.size) : (w.alloc (.cells #[] 3 (0, 0))).ownsRow B 3 1 (.slice (some ⟨w.heap.size, 0, none⟩) 0 0) 0 [] :=
  ⟨rfl, .inr ⟨_, _, _, rfl, hB, blk_new w _, Nat.le_refl _, by decide, rfl, rfl⟩⟩
theorem wpl_app {rest : List Oper} {o : Oper} {a : Act} {w : World} {ops : Array Oper} {Q : Exit → Act → World → Prop} (s x : Operand) (hg : o.guard = none) (ho : o.op = .call { callee := .builtin .append, args := #[s, x], argTypes := #[23, 23] }) (hty : o.type = 23)
    (B : Nat) (v : Value) (n : Nat) (xs : List Value) (hs : a.eval s = v) (hown : w.ownsRow B 3 1 v n xs) (ra : Option Addr) (m c : Nat) (news : List Int) (hx : a.eval x = .slice ra m c) (hl : news.length = m) (hmc : m ≤ c)
    (hnews : Rd w ra (news.map (Value.int .i64))) (hb : n + m ≤ 1000000) (hB : B ≤ w.heap.size)
    (h : ∀ v' w', w'.ownsRow B 3 1 v' (n + m) (xs ++ news.map (Value.int .i64)) → w.grownBy w' v.ownBlock → wpList Try.prog ops Q rest (a.put o.dst v') w') : wpList Try.prog ops Q (o :: rest) a w := by
  obtain ⟨i, hi, hz, hz1, hz2⟩ := info_parts (show (Try.prog.info? 3).map (fun i => (i.zero, i.size, i.bytes)) = some (some (.int .i64 0), 1, 8) by kernel_rfl)
  have ht := Try.underlying23
  have key : ∃ v' w', (Builtin.append_ #[23, 23] 23 #[v, .slice ra m c]).run Try.prog w = .ok v' w' ∧ w'.ownsRow B 3 1 v' (n + m) (xs ++ news.map (Value.int .i64)) ∧ w.grownBy w' v.ownBlock := by
    by_cases hm : m = 0
    · subst hm
      have hn : news = [] := List.length_eq_zero_iff.1 hl
      subst hn
      have hgb : w.grownBy w v.ownBlock := ⟨rfl, rfl, rfl, Nat.le_refl _, fun _ _ _ => rfl⟩
      refine ⟨v, w, ?_, by simpa using hown, hgb⟩
      rcases hown.2 with ⟨rfl, rfl⟩ | ⟨g', cap, cur, rfl, _, _, hnc, _⟩
      · cases ra <;> simp [Builtin.append_, run_underlying ht, sizeOf, typeInfo, hi, Builtin.lenOf, Builtin.firstCells, go_sem, storeCells]
      · cases ra <;> simp [Builtin.append_, run_underlying ht, sizeOf, typeInfo, hi, Builtin.lenOf, Builtin.firstCells, hnc, go_sem, storeCells]
    · obtain ⟨g, rfl, hg2, hcells⟩ := hnews (by simp; omega)
      obtain ⟨g', cap', w', hr, h2, h3, _⟩ := run_append_lies (P := Try.prog) w 23 23 B 3 i (.int .i64 0) 1 8 ht hi hz hz1 hz2 rfl (by omega) v n xs hown ⟨g, 0, none⟩ m c (news.map (Value.int .i64)) (by simpa using hl)
        (fun j u hu => by
          rw [show (⟨g, 0, none⟩ : Addr).add j = ⟨g, j, none⟩ by unfold Addr.add; split <;> simp_all]
          exact hcells j u hu)
        (fun u hu => by simp at hu; obtain ⟨x, _, rfl⟩ := hu; rfl) (by omega) (by unfold maxLen; omega) (by omega) hB w.heap.size rfl
      exact ⟨_, w', hr, h2, h3⟩
  obtain ⟨v', w', hr, h2, h3⟩ := key
  refine wpList_plain hg fun K hK => ?_
  unfold Oper.wp execOp
  simp only [ho, hty, resolve, invoke, builtin, Sem.run_bind, Sem.run_pure, Result.andThen_ok, List.map_toArray, List.map_cons, List.map_nil, hs, hx, hr]
  exact hK _ _ (h v' w' h2 h3)

end Go.Proofs.Ytegmnbcfanjocaa
