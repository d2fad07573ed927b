/-
  The fails of a row: those that still count; one more.
-/
import Derived.Test.YtnlblmpfkikneaaM1
import Derived.Test.YtnlblmpfkikneaaShelf
import Derived.Deep.AppendLies
import Derived.Lib.SliceRun
import Derived.Deep.QuietTactic
import Derived.BigQuiet
namespace Go.Proofs.Ytnlblmpfkikneaa
open Go Go.RowKit Go.Maps Go.Shelf Go.Lib Go.Sort
attribute [local go_sem] extUpon
attribute [local go_sem ↓] eval_put_ne eval_put_none eval_put_same size_put eval_const

/-- Does a fail count no more? -/
def old (now window x : Nat) : Bool := decide (now < x ∨ window ≤ now - x)
def still (now window : Nat) (l : List Nat) : List Nat := l.filter fun x => !old now window x

set_option maxRecDepth 100000 in
theorem old_gives (now nb tbx tb x : Nat) (c : Cfg) (hc : c.Ok) (hnow : now ≤ 1099511627776) (w : World) (h1 : w.cell? ⟨nb, 0, none⟩ = some (.int .u64 now)) (h2 : w.cell? ⟨tbx, 0, none⟩ = some (ptr tb))
    (h4 : w.cell? ⟨tb, 1, none⟩ = some (.int .u64 c.window)) :
    FnGives Try.prog 25 #[ptr nb, ptr tbx] #[encN x] (.bool (old now c.window x)) w := by
  show Calls Try.prog 25 #[.int .u64 x, .pointer (some ⟨nb, 0, none⟩), .pointer (some ⟨tbx, 0, none⟩)] w _
  have hw0 := hc.w0
  have hw1 := hc.w1
  unfold ptr at h2
  by_cases hx : (now : Int) < (x : Int)
  · have ho : old now c.window x = true := by unfold old; simp; omega
    rw [ho]
    go_enter Try.func25, Try.ntmps25
    go_wp2
    go_quiet (fail)
    go_wp2
    go_ret
    exact ⟨rfl, _, rfl⟩
  · have ho : old now c.window x = decide ((c.window : Int) ≤ ((now : Int) - (x : Int))) := by unfold old; exact decide_eq_decide.2 (by omega)
    have hv : IntKind.u64.wrap ((now : Int) - (x : Int)) = (now : Int) - (x : Int) := by rw [IntKind.wrap_u64]; omega
    rw [ho]
    have hd : decide ((now : Int) < (x : Int)) = false := decide_eq_false hx
    have hd2 : decide (now < x) = false := decide_eq_false (by omega)
    have hx2 : x ≤ now := by omega
    clear hx
    go_enter Try.func25, Try.ntmps25
    go_wp2
    go_quiet (fail)
    go_wp2
    go_ret
    exact ⟨rfl, _, rfl⟩

theorem put_grown (w : World) (q g : Nat) (d : Array Nat) : w.grownBy (putRow encN (Sort.ahead w q) g 0 d) (some g) :=
  ⟨rfl, rfl, rfl, by simp, fun k _ hk => by
    have hne : g ≠ k := fun e => hk (by rw [e])
    simp [putRow, mapBlock, Array.getElem?_modify, hne]⟩
theorem put_own {base g cap n m q : Nat} {e : TypeId} {xs : List Value} {w : World} (h : w.ownsRow base e 1 (.slice (some ⟨g, 0, none⟩) n cap) n xs) (d : Array Nat) (hd : d.size = n) (hm : m ≤ n) (l : List Nat) (hl : l = d.toList.take m) :
    (putRow encN (Sort.ahead w q) g 0 d).ownsRow base e 1 (.slice (some ⟨g, 0, none⟩) m cap) m (l.map encN) := by
  subst hl
  refine ⟨by simp; omega, .inr ?_⟩
  rcases h.2 with ⟨hn, _⟩ | ⟨g', cap', cur, hv, hb, hg, hnc, hcm, hcs, _⟩
  · cases hn
  · simp only [Value.slice.injEq, Option.some.injEq, Addr.mk.injEq, and_true, true_and] at hv
    obtain ⟨rfl, rfl⟩ := hv
    refine ⟨g, cap, putCells encN 0 d cur, rfl, hb, ?_, by omega, hcm, by simp [putCells]; omega, ?_⟩
    · simp [putRow, mapBlock, Array.getElem?_modify, hg, onCells]
    · apply List.ext_getElem?
      intro i
      by_cases hi : i < m
      · have h1 : i < cur.size := by omega
        simp [putCells, hi, h1, show i < d.size by omega]
      · simp [List.getElem?_take, hi]

/-- Fails that count no more are struck. -/
theorem del_any (base : Nat) (v : Value) (d : List Nat) (now nb tbx tb : Nat) (c : Cfg) (hc : c.Ok) (hnow : now ≤ 1099511627776) (hd : d.length ≤ 20) (w : World)
    (hrow : w.ownsRow base 22 1 v d.length (d.map encN)) (h1 : w.cell? ⟨nb, 0, none⟩ = some (.int .u64 now)) (h2 : w.cell? ⟨tbx, 0, none⟩ = some (ptr tb))
    (h4 : w.cell? ⟨tb, 1, none⟩ = some (.int .u64 c.window)) (hne : ∀ g, v.ownBlock = some g → nb ≠ g ∧ tbx ≠ g ∧ tb ≠ g) :
    Calls Try.prog 24 #[v, .func (.func 25) #[] #[ptr nb, ptr tbx]] w fun e w' => ∃ v', e = .returned v' ∧
      w'.ownsRow base 22 1 v' (still now c.window d).length ((still now c.window d).map encN) ∧ w.grownBy w' v.ownBlock ∧ (∀ g, v'.ownBlock = some g → v.ownBlock = some g) := by
  have hb1 := World.block_lt_of_cell? w _ h1
  have hb2 := World.block_lt_of_cell? w _ h2
  have hb4 := World.block_lt_of_cell? w _ h4
  have hE := hid (fun (a : Array Value) (u : World) => (enters_of (P := Try.prog) Try.func25 (by kernel_rfl) rfl : ∀ args w, (callFunc 25 args).run Try.prog w = .ok (.enter 25 args) w) a u)
  have hpred : PredAt Try.prog 25 #[ptr nb, ptr tbx] encN (old now c.window) w := fun W x hb =>
    old_gives now nb tbx tb x c hc hnow W ((hb.cell hb1).trans h1) ((hb.cell hb2).trans h2) ((hb.cell hb4).trans h4)
  rcases hrow.2 with ⟨rfl, hn⟩ | ⟨g, cap, cur, rfl, hbase, hg, hnc, hcm, hcs, htk⟩
  · have hd0 : d = [] := List.length_eq_zero_iff.1 hn
    subst hd0
    have hif := fun w => Try.slices_IndexFunc_empty (α := Nat) none 0 (.func (.func 25) #[] #[ptr nb, ptr tbx]) w
    have HIF := hid hif
    clear hif hE hpred hne hrow h1 h2 h4
    go_enter Try.func24, Try.ntmps24
    go_wp2_with (go_at_call 31; refine (HIF.out _).mono ?_; rintro e w' ⟨rfl, rfl⟩)
    go_ret
    exact ⟨_, rfl, ⟨rfl, .inl ⟨rfl, rfl⟩⟩, ⟨rfl, rfl, rfl, Nat.le_refl _, fun _ _ _ => rfl⟩, fun g hg => hg⟩
  · have hne' := hne g rfl
    have hH : Holds encN w g 0 d.toArray := fun j hj => by
      have hj' : j < d.length := by simpa using hj
      have hcur : cur[j]? = some (encN d[j]) := by
        have h5 : (cur.toList.take (d.length * 1))[j]? = (d.map encN)[j]? := by rw [htk]
        rw [List.getElem?_take, if_pos (by omega)] at h5
        simpa [List.getElem?_eq_getElem hj'] using h5
      refine ⟨?_, by simp [World.frozen?, hg]⟩
      rw [Nat.zero_add, cell_blk hg hcur]
      simp [hj']
    have hover : PredOver Try.prog 25 #[ptr nb, ptr tbx] encN (old now c.window) g 0 d.toArray.size w := fun n os dk x _ => by
      have hcell : ∀ (b j : Nat) (u : Value), b ≠ g → w.cell? ⟨b, j, none⟩ = some u → (sortWorld encN w g 0 n dk os).cell? ⟨b, j, none⟩ = some u := fun b j u hbg hu => by
        unfold sortWorld
        rw [cell?_grow _ _ _ (by show b < (putRow _ _ _ _ _).heap.size; rw [size_putRow]; exact World.block_lt_of_cell? w _ hu), cell?_putRow_other _ _ g 0 _ _ (Or.inl hbg)]
        exact hu
      exact old_gives now nb tbx tb x c hc hnow _ (hcell _ _ _ hne'.1 h1) (hcell _ _ _ hne'.2.1 h2) (hcell _ _ _ hne'.2.2 h4)
    have hcon := Try.slices_DeleteFunc encN (fun _ => rfl) (old now c.window) 25 #[ptr nb, ptr tbx] (enters_of Try.func25 (by kernel_rfl) rfl) 0 Try.zeroValue22 g 0 cap d.toArray w hpred hover hH (by simp; omega) (by simpa using hnc)
    have hsz : d.toArray.size = d.length := by simp
    rw [hsz] at hcon
    refine hcon.mono ?_
    rintro e w' ⟨rfl, q, rfl⟩
    have hfl : (d.toArray.toList.filter fun x => !old now c.window x) = still now c.window d := by simp [still]
    rw [hfl]
    have hle : (still now c.window d).length ≤ d.length := List.length_filter_le _ _
    exact ⟨_, rfl, put_own hrow _ (by simp; omega) hle _ (by simp), put_grown w q g _, fun g hg => hg⟩

/-- One more fail. -/
theorem app_one {a : Act} {w : World} {o : Oper} {K : Act → World → Prop} {Q : Exit → Act → World → Prop} (s x : Operand) (ho : o.op = .call { callee := .builtin .append, args := #[s, x], argTypes := #[38, 38] }) (hty : o.type = 38)
    (B : Nat) (v : Value) (d : List Nat) (hs : a.eval s = v) (hown : w.ownsRow B 22 1 v d.length (d.map encN)) (g c now : Nat) (hx : a.eval x = .slice (some ⟨g, 0, none⟩) 1 c)
    (hnew : w.cell? ⟨g, 0, none⟩ = some (encN now)) (hb : d.length ≤ 1000) (hB : B ≤ w.heap.size)
    (h : ∀ v' w', w'.ownsRow B 22 1 v' (d ++ [now]).length ((d ++ [now]).map encN) → w.grownBy w' v.ownBlock → (∀ k, v'.ownBlock = some k → v.ownBlock = some k ∨ k = w.heap.size) → K (a.put o.dst v') w') : o.wp Try.prog a w K Q := by
  obtain ⟨i, hi, hz, hz1, hz2⟩ := info_parts (show (Try.prog.info? 22).map (fun i => (i.zero, i.size, i.bytes)) = some (some (.int .u64 0), 1, 8) by kernel_rfl)
  obtain ⟨g', cap', w', hr, h2, h3, h4, _⟩ := run_append_lies (P := Try.prog) w 38 38 B 22 i (.int .u64 0) 1 8 Try.underlying38 hi hz hz1 hz2 rfl (by omega) v d.length (d.map encN) hown ⟨g, 0, none⟩ 1 c [encN now] (by rfl)
    (fun j u hu => by
      have hj : j = 0 := by have := (List.getElem?_eq_some_iff.1 hu).1; simp at this; omega
      subst hj
      cases hu
      exact hnew)
    (fun u hu => by simp at hu; subst hu; rfl) (by omega) (by unfold maxLen; omega) (by omega) hB w.heap.size rfl
  unfold Oper.wp execOp
  simp only [ho, hty, resolve, invoke, builtin, Sem.run_bind, Sem.run_pure, Result.andThen_ok, List.map_toArray, List.map_cons, List.map_nil, hs, hx, hr]
  refine h _ w' ?_ h3 (fun k hk => by
      simp only [Value.ownBlock, Option.some.injEq] at hk
      subst hk
      exact h4)
  simpa using h2

end Go.Proofs.Ytnlblmpfkikneaa
