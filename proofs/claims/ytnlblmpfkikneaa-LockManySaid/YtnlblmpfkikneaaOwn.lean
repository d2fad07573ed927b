/-
  Slices of a call's own in worlds that are extended.
-/
import Derived.Test.YtnlblmpfkikneaaReg
import Derived.Deep.AppendLies
namespace Go.Proofs.Ytnlblmpfkikneaa
open Go Go.RowKit

theorem own_ints_at {w : World} {base g cap n : Nat} {e : TypeId} {xs : List Value} (h : w.ownsRow base e 1 (.slice (some ⟨g, 0, none⟩) n cap) n xs) (i : Nat) (hi : i < n) (v : Value) (hv : xs[i]? = some v) :
    w.cell? ⟨g, i, none⟩ = some v := by rw [h.cellAt i (by omega), hv]

theorem Ext.alloc' {w w1 : World} (h : Ext w w1) (o : Obj) : Ext w (w1.alloc o) := h.trans (Ext.alloc _ _)
theorem Ext.drewN' {w w1 : World} (h : Ext w w1) (n : Nat) : Ext w (w1.drewN n) := h.trans (Ext.drewN _ _)
theorem Ext.drew' {w w1 : World} (h : Ext w w1) : Ext w w1.drew := h.trans (Ext.drew _)

theorem own_ext {w w1 : World} (h : Ext w w1) {base : Nat} {e : TypeId} {size : Nat} {v : Value} {n : Nat} {xs : List Value} (ho : w.ownsRow base e size v n xs) : w1.ownsRow base e size v n xs :=
  ho.kept (row := none) ⟨h.os, h.tape, h.output, h.size, fun k hk _ => h.block k hk⟩ (by
    cases hb : v.ownBlock with
    | none => exact .inl rfl
    | some _ => exact .inr (by simp))

end Go.Proofs.Ytnlblmpfkikneaa
