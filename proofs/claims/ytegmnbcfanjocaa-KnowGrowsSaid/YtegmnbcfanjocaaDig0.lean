/-
  Two digits at a time: the library's table of the numbers 00 to 99, asked at a place.
-/
import Derived.Test.YtegmnbcfanjocaaTa
namespace Go.Proofs.Ytegmnbcfanjocaa
open Go Go.RowKit

def smalls : ByteArray := ⟨[48, 48, 48, 49, 48, 50, 48, 51, 48, 52, 48, 53, 48, 54, 48, 55, 48, 56, 48, 57, 49, 48, 49, 49, 49, 50, 49, 51, 49, 52, 49, 53, 49, 54, 49, 55, 49, 56, 49, 57, 50, 48, 50, 49, 50, 50, 50, 51, 50, 52, 50, 53, 50, 54, 50, 55, 50, 56, 50, 57, 51, 48, 51, 49, 51, 50, 51, 51, 51, 52, 51, 53, 51, 54, 51, 55, 51, 56, 51, 57, 52, 48, 52, 49, 52, 50, 52, 51, 52, 52, 52, 53, 52, 54, 52, 55, 52, 56, 52, 57, 53, 48, 53, 49, 53, 50, 53, 51, 53, 52, 53, 53, 53, 54, 53, 55, 53, 56, 53, 57, 54, 48, 54, 49, 54, 50, 54, 51, 54, 52, 54, 53, 54, 54, 54, 55, 54, 56, 54, 57, 55, 48, 55, 49, 55, 50, 55, 51, 55, 52, 55, 53, 55, 54, 55, 55, 55, 56, 55, 57, 56, 48, 56, 49, 56, 50, 56, 51, 56, 52, 56, 53, 56, 54, 56, 55, 56, 56, 56, 57, 57, 48, 57, 49, 57, 50, 57, 51, 57, 52, 57, 53, 57, 54, 57, 55, 57, 56, 57, 57].toArray⟩

theorem w64_0 : IntKind.i64.wrap 0 = 0 := by decide
theorem w64_1 : IntKind.i64.wrap 1 = 1 := by decide
theorem w64_2 : IntKind.i64.wrap 2 = 2 := by decide
theorem w64_3 : IntKind.i64.wrap 3 = 3 := by decide
theorem w64_4 : IntKind.i64.wrap 4 = 4 := by decide
theorem w32 {x : Int} (h0 : 0 ≤ x) (h1 : x < 4294967296) : IntKind.u32.wrap x = x := by
  have h : x % 4294967296 = x := Int.emod_eq_of_lt h0 h1
  simp only [IntKind.wrap, IntKind.bits, IntKind.signed, Bool.false_and, Bool.false_eq_true, if_false]
  exact h
theorem smalls_size : smalls.size = 200 := by decide +kernel
theorem smalls_at : ∀ n, n < 100 → smalls.data.toList[n * 2]? = some (UInt8.ofNat (48 + n / 10)) ∧ smalls.data.toList[n * 2 + 1]? = some (UInt8.ofNat (48 + n % 10)) := by decide +kernel
set_option maxRecDepth 10000 in
theorem run_at (n : Nat) (b : UInt8) (h : smalls.data.toList[n]? = some b) (w : World) : (Instr.index 9 (.string smalls) (.int .u32 (n : Int))).run Try.prog w = .ok (.int .u8 b.toNat) w := by
  have hlt : n < smalls.size := by
    have := (List.getElem?_eq_some_iff.1 h).1
    rw [Array.length_toList] at this; exact this
  have hb : smalls[n]'hlt = b := by
    have := (List.getElem?_eq_some_iff.1 h).2
    rw [← this]; rfl
  have hlt2 : (n : Int) < (smalls.size : Int) := by omega
  clear h
  generalize smalls = S at *
  have HB := hid hb
  clear hb
  go_simp
  rw [HB.out]
theorem toNat8 (n : Nat) (h : n < 256) : (UInt8.ofNat n).toNat = n := by simp [Nat.mod_eq_of_lt h]
theorem sm0 (n : Nat) (h : n < 100) (w : World) : (Instr.index 9 (.string smalls) (.int .u32 ((n : Int) * 2))).run Try.prog w = .ok (.int .u8 (48 + (n : Int) / 10)) w := by
  have h1 := run_at (n * 2) _ (smalls_at n h).1 w
  rw [toNat8 _ (by omega)] at h1
  exact h1
theorem sm1 (n : Nat) (h : n < 100) (w : World) : (Instr.index 9 (.string smalls) (.int .u32 ((n : Int) * 2 + 1))).run Try.prog w = .ok (.int .u8 (48 + (n : Int) % 10)) w := by
  have h1 := run_at (n * 2 + 1) _ (smalls_at n h).2 w
  rw [toNat8 _ (by omega)] at h1
  exact h1
/-- A constant string asked at a place, in a region that draws its order. -/
theorem reg_index {E fuel : Nat} {l tl : List Oper} {dst : Option Tmp} {t ty : TypeId} {pos : String} {after : Array Edge} {x : Operand} {S : ByteArray} {X : Value} {listed : Array Bool} {a : Act} {w : World} {md : Region.Mode} {Q : Exit → Act → World → Prop} (i : Nat) (v : Value)
    (hi : l.drop i = ⟨dst, .index t (.const (.string S)) x, ty, pos, after, none⟩ :: tl) (hB : pureB md l.toArray listed i = true) (hx : a.eval x = X) (hr : ∀ w, (Instr.index t (.string S) X).run Try.prog w = .ok v w)
    (h : wpAnyU Try.prog md l.toArray (calm Q) E fuel (listed.setIfInBounds i true) (a.put dst v) w) : wpAnyU Try.prog md l.toArray (calm Q) E (fuel + 1) listed a w :=
  reg_pure i hi hB rfl ⟨v, fun w' => by simp only [execOp, hx, eval_const]; rw [Sem.run_bind, hr]; rfl, h⟩

end Go.Proofs.Ytegmnbcfanjocaa
