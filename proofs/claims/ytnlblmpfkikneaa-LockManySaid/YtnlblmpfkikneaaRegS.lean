/-
  Stores in a region that draws its order.
-/
import Derived.Test.YtnlblmpfkikneaaReg
import Derived.Deep.MidRow
namespace Go.Proofs.Ytnlblmpfkikneaa
open Go Go.RowKit

theorem reg_hide {P : Program} {md : Region.Mode} {Q : Exit → Act → World → Prop} {E fuel : Nat} {ops : Array Oper} {listed : Array Bool} {a : Act} {w : World}
    (h : ∀ Q2 : Exit → Act → World → Prop, Hid (Q2 = Q) → wpAnyU P md ops (calm Q2) E fuel listed a w) : wpAnyU P md ops (calm Q) E fuel listed a w := h Q (hid rfl)
section
variable {P : Program} {Q : Exit → Act → World → Prop} {md : Region.Mode}
theorem run_storeAt_one {t : TypeId} (hi : (P.info? t).map (·.size) = some 1) {p : Addr} {u : Value} (hu : u.cells = #[u]) (h1 : u.oneCell' = true) {w : World} {v : Value} (hc : w.cell? p = some v) (hf : w.frozen? p = false) :
    (Instr.storeAt t (.pointer (some p)) u).run P w = .ok () (w.setCell p u) := by
  obtain ⟨i, hi1, hi2⟩ := Option.map_eq_some_iff.1 hi
  have hadd : p.add 0 = p := by unfold Addr.add; split <;> simp_all
  simp [Instr.storeAt, Instr.sureAddr, storeVar, sizeOf, typeInfo, hi1, hi2, hu, storeCells, run_store P w p u _ h1, hc, hf, hadd, Sem.run_bind, Result.andThen]
/-- The store that is ready. -/
theorem reg_store {E fuel : Nat} {l tl : List Oper} {oi : Oper} {listed : Array Bool} {a : Act} {w : World} (i : Nat) {x y : Operand} {t : TypeId} (p : Addr) (u : Value)
    (hi : l.drop i = oi :: tl) (hr : (Region.ready md l.toArray listed == [i]) = true) (hw : Region.wanted oi (yielded l.toArray a.tmps) = true) (ho : oi.op = .store t x y) (hE : E ≤ i)
    (hx : a.eval x = .pointer (some p)) (hy : a.eval y = u) (hz : (P.info? t).map (·.size) = some 1) (hu : u.cells = #[u]) (h1 : u.oneCell' = true)
    (hc : ∀ w', Ext w w' → (∃ v, w'.cell? p = some v) ∧ w'.frozen? p = false)
    (h : ∀ w', Ext w w' → wpAnyU P md l.toArray (calm Q) E fuel (listed.setIfInBounds i true) (a.put oi.dst undef) (w'.setCell p u)) :
    wpAnyU P md l.toArray (calm Q) E (fuel + 1) listed a w :=
  reg_one i hi hr hw fun w' hw' => by
    obtain ⟨⟨v, hv⟩, hf⟩ := hc w' hw'
    unfold Oper.wp execOp
    simp only [ho, hx, hy, Sem.run_bind, run_storeAt_one hz hu h1 hv hf, Result.andThen_ok]
    exact ⟨fun hlt => absurd hlt (by omega), h w' hw'⟩
end

end Go.Proofs.Ytnlblmpfkikneaa
