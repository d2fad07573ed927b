/-
  A base of some secrets and some terms (know.New): plain part.
-/
import Derived.Test.YtegmnbcfanjocaaK9S
namespace Go.Proofs.Ytegmnbcfanjocaa
open Go Go.RowKit Go.Maps
variable {f : Int → List UInt8} {P : Int → Prop}

theorem Cl.step {sec : Int → Bool} {A S S2 : List UInt8 → Bool} {x : List UInt8} (h1 : Cl f P sec A S) (h2 : Cl f P sec (plus S x) S2) : Cl f P sec (plus A x) S2 := by
  have key : ∀ {C : List UInt8 → Bool} {B : List UInt8 → Bool}, (∀ s, B s = true → C s = true) → C x = true → ∀ s, plus B x s = true → C s = true := fun h hx s hs => by
    unfold plus at hs
    simp only [Bool.or_eq_true] at hs
    rcases hs with h5 | h5
    · exact h s h5
    · rw [of_decide_eq_true h5]; exact hx
  refine ⟨key (fun s hs => h2.le s (plus_le _ _ _ (h1.le s hs))) (h2.le _ (plus_self _ _)), h2.closed, fun C hC hS => h2.least C hC (key (h1.least C hC (fun s hs => hS s (plus_le _ _ _ hs))) (hS _ (plus_self _ _)))⟩

/-- The names of some terms. -/
def names (f : Int → List UInt8) (l : List Tm) (s : List UInt8) : Bool := decide (s ∈ l.map (nm f))
theorem names_nil : names f [] = fun _ => false := by funext s; simp [names]
theorem names_take {l : List Tm} {j : Nat} (h : j < l.length) : names f (l.take (j + 1)) = plus (names f (l.take j)) (nm f l[j]) := by
  funext s
  unfold names plus
  rw [List.take_succ_eq_append_getElem h]
  simp only [List.map_append, List.mem_append, List.map_cons, List.map_nil, List.mem_singleton, Bool.decide_or]
theorem closed_none (sec : Int → Bool) : Closed f P sec (fun _ => false) := fun _ _ _ _ _ h => by cases h

def secs (l : List Int) (n : Int) : Bool := decide (n ∈ l)
def KV.learn (v : KV) (n : Int) : KV := { v with sec := fset v.sec n true, sn := if (v.sec n).isSome then v.sn else v.sn + 1 }
theorem mem_take_succ {l : List Int} {j : Nat} (h : j < l.length) (n : Int) : n ∈ l.take (j + 1) ↔ n ∈ l.take j ∨ n = l[j] := by
  rw [List.take_succ_eq_append_getElem h, List.mem_append, List.mem_singleton]
theorem learn_x {v : KV} {l : List Int} {j : Nat} (h : j < l.length) (hx : v.x = secs (l.take j)) : (v.learn l[j]).x = secs (l.take (j + 1)) := by
  funext n
  show ((fset v.sec l[j] true) n).getD false = _
  unfold secs
  by_cases hn : n = l[j]
  · rw [hn, fset_self]
    exact (decide_eq_true ((mem_take_succ h _).2 (.inr rfl))).symm
  · rw [fset_ne hn]
    have h5 : (v.sec n).getD false = secs (l.take j) n := congrFun hx n
    rw [h5]
    unfold secs
    exact decide_eq_decide.2 ⟨fun h6 => (mem_take_succ h _).2 (.inl h6), fun h6 => ((mem_take_succ h _).1 h6).resolve_right hn⟩
theorem KAt.learn {w : World} {k : KS} {v : KV} {n : Int} (h : KAt f P w k v) (hno : IntOk n) (hn : v.sn < 1000) :
    ∃ w2, (Instr.mapUpdate CI.mt (.map (some k.sb)) (CI.ek n) (CI.ev true)).run Try.prog w = .ok () w2 ∧ KAt f P w2 k (v.learn n) ∧ w.grownBy w2 (some k.sb) := by
  obtain ⟨w2, h1, h2, h3⟩ := h.sec.store (a := n) hno (by omega) true
  have hb : ∀ b, b < w.heap.size → b ≠ k.sb → w2.heap[b]? = w.heap[b]? := fun b hb hne => h3.block b hb (fun e => hne (Option.some.inj e))
  refine ⟨w2, h1, ⟨(hb _ (Array.getElem?_eq_some_iff.1 h.blk).1 h.kb_ne.2.2).trans h.blk, h2, h.seen.keep (hb _ h.seen.lt (Ne.symm h.ne1)), h.all.keep (hb _ h.all.lt (Ne.symm h.ne2)), h.ne1, h.ne2, h.ne3, h.named, h.few, ?_⟩, h3⟩
  show (if (v.sec n).isSome then v.sn else v.sn + 1) ≤ 1000
  split <;> omega

/-- What some cells hold. -/
def Rd (w : World) (a : Option Addr) (xs : List Value) : Prop := 0 < xs.length → ∃ g, a = some ⟨g, 0, none⟩ ∧ g < w.heap.size ∧ ∀ i u, xs[i]? = some u → w.cell? ⟨g, i, none⟩ = some u
theorem Rd.later {w w2 : World} {a : Option Addr} {xs : List Value} (h : Rd w a xs) (he : Ext w w2) : Rd w2 a xs := fun h0 => by
  obtain ⟨g, h1, h2, h3⟩ := h h0
  exact ⟨g, h1, Nat.lt_of_lt_of_le h2 he.size, fun i u hu => he.cell (h3 i u hu)⟩

/-- A base of some secrets; some of the terms were seen. -/
structure NewR (f : Int → List UInt8) (P : Int → Prop) (U : List (List UInt8)) (w w2 : World) (k : KS) (v : KV) (ns : List Int) (ts : List Tm) : Prop where
  at_ : KAt f P w2 k v
  ext : Ext w w2
  kb : w.heap.size ≤ k.kb
  nb : w.heap.size ≤ k.nb
  ab : w.heap.size ≤ k.ab
  sb : w.heap.size ≤ k.sb
  x : v.x = secs ns
  sn : v.sn ≤ ns.length
  n : v.n ≤ ts.length
  kc : KC f P v
  inU : ∀ s, v.S s = true → s ∈ U
  cl : Cl f P v.x (names f ts) v.S
theorem NewR.learn {U : List (List UInt8)} {w w2 w3 : World} {k : KS} {v : KV} {ns : List Int} {j : Nat} (hj : j < ns.length) (h : NewR f P U w w2 k v (ns.take j) []) (hS : v.S = fun _ => false) (hN : ∀ s, v.seen s = none) (hK : KAt f P w3 k (v.learn ns[j]))
    (hg : w2.grownBy w3 (some k.sb)) : NewR f P U w w3 k (v.learn ns[j]) (ns.take (j + 1)) [] := by
  have hl : (ns.take j).length = j := by simp; omega
  have hl2 : (ns.take (j + 1)).length = j + 1 := by simp; omega
  have hse : (v.learn ns[j]).S = fun _ => false := hS
  refine ⟨hK, ?_, h.kb, h.nb, h.ab, h.sb, learn_x hj h.x, ?_, h.n, ⟨fun s hs => ?_, ?_⟩, h.inU, ?_⟩
  · exact Same.ext h.ext (Same.of_grown (p := fun b => b ≠ k.sb) hg (fun b hb e => hb (Option.some.inj e))) (fun b hb e => by have := h.sb; omega)
  · have := h.sn
    rw [hl] at this
    rw [hl2]
    show (if (v.sec ns[j]).isSome then v.sn else v.sn + 1) ≤ j + 1
    split <;> omega
  · have h5 : (v.learn ns[j]).seen s = none := hN s
    rw [h5] at hs; cases hs
  · rw [hse]; exact closed_none _
  · rw [hse, names_nil]; exact Cl.self (closed_none _)
theorem NewR.see {U : List (List UInt8)} {w w2 w3 : World} {k : KS} {v v2 : KV} {ns : List Int} {ts : List Tm} {j : Nat} (hj : j < ts.length) (h : NewR f P U w w2 k v ns (ts.take j)) (hK : KAt f P w3 k v2) (hS : Same w2 w3 (KP k)) (hR : SeeR f P U v v2 (nm f ts[j])) :
    NewR f P U w w3 k v2 ns (ts.take (j + 1)) := by
  have hl : (ts.take j).length = j := by simp; omega
  have hl2 : (ts.take (j + 1)).length = j + 1 := by simp; omega
  have hx : v2.x = v.x := by unfold KV.x; rw [hR.sec]
  refine ⟨hK, Same.ext h.ext hS (fun b hb => ⟨by have := h.ab; omega, by have := h.nb; omega⟩), h.kb, h.nb, h.ab, h.sb, hx.trans h.x, by rw [hR.sn]; exact h.sn, ?_, hR.kc, hR.inU, ?_⟩
  · have h1 := h.n; have h2 := hR.n
    rw [hl] at h1
    rw [hl2]; omega
  · rw [hx, names_take hj]
    exact Cl.step h.cl hR.cl
theorem NewR.start {U : List (List UInt8)} {w w2 : World} {k : KS} {v : KV} (hK : KAt f P w2 k v) (hE : Ext w w2) (h1 : w.heap.size ≤ k.kb) (h2 : w.heap.size ≤ k.nb) (h3 : w.heap.size ≤ k.ab) (h4 : w.heap.size ≤ k.sb) (hv : v = ⟨fun _ => none, 0, fun _ => none, 0, fun _ => none, 0⟩) : NewR f P U w w2 k v [] [] := by
  subst hv
  refine ⟨hK, hE, h1, h2, h3, h4, ?_, Nat.le_refl _, Nat.le_refl _, ⟨fun s hs => (by cases hs), closed_none _⟩, fun s hs => (by cases hs), ?_⟩
  · funext n; simp [KV.x, secs]
  · rw [names_nil]; exact Cl.self (closed_none _)

end Go.Proofs.Ytegmnbcfanjocaa
