/-
  Who knows nothing: the plain law.
-/
import Derived.Test.YtegmnbcfanjocaaK10
import Derived.Test.YtegmnbcfanjocaaK12
namespace Go.Proofs.Ytegmnbcfanjocaa
open Go Go.RowKit
variable {f : Int → List UInt8} {P : Int → Prop}

theorem can_opn {x : Int → Bool} {S : List UInt8 → Bool} (hx : ∀ n, x n = false) (hS : ∀ s, S s = false) : ∀ t : Tm, can f x S t = opn t
  | .non => rfl
  | .empty => rfl
  | .atom n => by simp [can, opn, hS]
  | .pub n => by simp [can, opn, hS, hx]
  | .shared a b => by simp [can, opn, hS, hx]
  | .chain i a b => by simp only [can, opn, hS, Bool.false_or, can_opn hx hS a, can_opn hx hS b]
  | .digest a b => by simp only [can, opn, hS, Bool.false_or, can_opn hx hS a, can_opn hx hS b]
  | .box k n a b => by simp only [can, opn, hS, Bool.false_or, can_opn hx hS k, can_opn hx hS a, can_opn hx hS b]
theorem Cl.nothing {x : Int → Bool} {S : List UInt8 → Bool} (h : Cl f P x (names f []) S) (s : List UInt8) : S s = false := by
  rw [names_nil] at h
  cases hs : S s with
  | false => rfl
  | true => exact (h.least _ (closed_none _) (fun _ h => h) s hs).symm ▸ rfl
theorem KAt.nothing {w : World} {k : KS} {v : KV} (h : KAt f P w k v) (hS : ∀ s, v.S s = false) : v.m = 0 := by
  have := h.all.card [] (fun s x hs => by have h5 := hS s; unfold KV.S at h5; rw [hs] at h5; cases h5)
  simpa using this

end Go.Proofs.Ytegmnbcfanjocaa
