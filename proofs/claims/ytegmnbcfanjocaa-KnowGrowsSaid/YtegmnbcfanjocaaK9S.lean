/-
  A term is seen: what is kept (plain; stores).
-/
import Derived.Test.YtegmnbcfanjocaaK8
namespace Go.Proofs.Ytegmnbcfanjocaa
open Go Go.RowKit Go.Maps
variable {f : Int → List UInt8} {P : Int → Prop}

def KV.note (f : Int → List UInt8) (v : KV) (t : Tm) : KV := { v with seen := fset v.seen (nm f t) t, n := if (v.seen (nm f t)).isSome then v.n else v.n + 1 }
theorem KAt.note {w : World} {k : KS} {v : KV} {t : Tm} (h : KAt f P w k v) (hno : CS.ok (nm f t)) (hn : v.n < 400) :
    ∃ w2, (Instr.mapUpdate CS.mt (.map (some k.nb)) (CS.ek (nm f t)) (CS.ev t)).run Try.prog w = .ok () w2 ∧ KAt f P w2 k (v.note f t) ∧ w.grownBy w2 (some k.nb) := by
  obtain ⟨w2, h1, h2, h3⟩ := h.seen.store (a := nm f t) hno (by omega) t
  have hb : ∀ b, b < w.heap.size → b ≠ k.nb → w2.heap[b]? = w.heap[b]? := fun b hb hne => h3.block b hb (fun e => hne (Option.some.inj e))
  refine ⟨w2, h1, ⟨(hb _ (Array.getElem?_eq_some_iff.1 h.blk).1 h.kb_ne.2.1).trans h.blk, h.sec.keep (hb _ h.sec.lt h.ne1), h2, h.all.keep (hb _ h.all.lt (Ne.symm h.ne3)), h.ne1, h.ne2, h.ne3, h.named, ?_, h.fews⟩, h3⟩
  show (if (v.seen (nm f t)).isSome then v.n else v.n + 1) ≤ 400
  split <;> omega
theorem KAt.heard {w : World} {k : KS} {v : KV} (h : KAt f P w k v) (s : List UInt8) (hs : CS.ok s) : ∃ xv, ∀ W, Ext w W →
    (Instr.lookup 67 (.map (some k.nb)) (str s) true).run Try.prog W = .ok (.tuple #[xv, .bool (v.seen s).isSome]) W := ⟨_, fun W hW => (h.seen.later hW).look hs⟩

/-- What is kept from one term seen to the next. -/
structure KC (f : Int → List UInt8) (P : Int → Prop) (v : KV) : Prop where
  seen : ∀ s, (v.seen s).isSome = true → v.S s = true
  closed : Closed f P v.x v.S
structure SeeR (f : Int → List UInt8) (P : Int → Prop) (U : List (List UInt8)) (v v2 : KV) (nt : List UInt8) : Prop where
  sec : v2.sec = v.sec
  sn : v2.sn = v.sn
  n : v2.n ≤ v.n + 1
  kc : KC f P v2
  inU : ∀ s, v2.S s = true → s ∈ U
  cl : Cl f P v.x (plus v.S nt) v2.S
theorem plus_there {S : List UInt8 → Bool} {x : List UInt8} (h : S x = true) : plus S x = S := by
  funext s
  unfold plus
  by_cases hs : s = x
  · subst hs; simp [h]
  · simp [hs]
theorem SeeR.there {U : List (List UInt8)} {v : KV} {nt : List UInt8} (hc : KC f P v) (hU : ∀ s, v.S s = true → s ∈ U) (h : (v.seen nt).isSome = true) : SeeR f P U v v nt :=
  ⟨rfl, rfl, by omega, hc, hU, by rw [plus_there (hc.seen _ h)]; exact Cl.self hc.closed⟩
theorem SeeR.laid {U : List (List UInt8)} {v v2 : KV} {t : Tm} (hc : KC f P v) (hi : CInv f P U ((v.note f t).put f t) v2) (hcl : Cl f P ((v.note f t).put f t).x ((v.note f t).put f t).S v2.S) : SeeR f P U v v2 (nm f t) := by
  have hS : ((v.note f t).put f t).S = plus v.S (nm f t) := funext fun s => put_S _ _ s
  have hx2 : v2.x = v.x := by unfold KV.x; rw [hi.sec]; rfl
  refine ⟨hi.sec, hi.sn, ?_, ⟨fun s hs => ?_, ?_⟩, hi.inU, ?_⟩
  · rw [hi.n]
    show (if (v.seen (nm f t)).isSome then v.n else v.n + 1) ≤ v.n + 1
    split <;> omega
  · refine hi.le s ?_
    rw [hS]
    rw [hi.seen] at hs
    change (fset v.seen (nm f t) t s).isSome = true at hs
    by_cases hn : s = nm f t
    · subst hn; exact plus_self _ _
    · rw [fset_ne hn] at hs
      exact plus_le _ _ _ (hc.seen s hs)
  · rw [hx2]; exact hcl.closed
  · rw [← hS]; exact hcl
theorem put_inU {U : List (List UInt8)} {v : KV} {t : Tm} (hU : ∀ s, v.S s = true → s ∈ U) (ht : nm f t ∈ U) : ∀ s, ((v.note f t).put f t).S s = true → s ∈ U := by
  intro s hs
  rw [put_S] at hs
  unfold plus at hs
  simp only [Bool.or_eq_true] at hs
  rcases hs with h | h
  · exact hU s h
  · rw [of_decide_eq_true h]; exact ht

/-- What See does. -/
def SeeSaid (f : Int → List UInt8) (P : Int → Prop) (U : List (List UInt8)) : Prop := ∀ (t : Tm) (w : World) (k : KS) (v : KV), (∀ W, Same w W (KP k) → Itoa W Small f) → KAt f P w k v → Fine P t → v.n < 400 → (∀ s, v.S s = true → s ∈ U) → nm f t ∈ U → KC f P v →
    Calls Try.prog 14 #[.pointer (some ⟨k.kb, 0, none⟩), t.val] w fun e w' => e = .returned (.bool true) ∧ ∃ v2, KAt f P w' k v2 ∧ Same w w' (KP k) ∧ SeeR f P U v v2 (nm f t)

end Go.Proofs.Ytegmnbcfanjocaa
