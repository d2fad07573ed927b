/-
  In a world of the right shape the digit table holds twenty numbers, whatever they are.
-/
import Derived.Test.YtegmnbcfanjocaaTab
import Derived.HandedShaped
namespace Go.Proofs.Ytegmnbcfanjocaa
open Go Go.RowKit

theorem tab_ct : Try.prog.cellTypes Try.prog.depth 150 = some (List.replicate 20 105) := by kernel_rfl
theorem tab_row : ((begin Try.prog (fun _ _ => 0) default).world.heap[1]?).bind Obj.row? = some (Array.replicate 20 (.int .u64 0), 150) := by kernel_rfl
theorem tab_bd : Try.prog.buildable 150 = true := by kernel_rfl
theorem tab_lt : 1 < Try.prog.globals.size := of_decide_eq_true (by kernel_rfl)
theorem tab_u : Try.prog.underlying 105 = some (.int .u64) := by kernel_rfl

set_option maxRecDepth 100000 in
theorem cell_u64 {w : World} {v : Value} (h : Cell.ok Try.prog w .any 0 105 v) : ∃ n, v = .int .u64 n := by
  unfold Cell.ok at h
  rw [tab_u] at h
  cases v <;> simp at h
  exact ⟨_, by rw [h.1]⟩

set_option maxRecDepth 100000 in
theorem tab_of {w : World} (h : w.ShapedOpen Try.prog) : ∃ T, TabAt w T := by
  obtain ⟨cs, hc, hs, hok⟩ := h.1 _ _ _ tab_lt tab_row
  obtain ⟨ts, ht, _, hc2⟩ := hok tab_bd
  rw [tab_ct] at ht
  have ht := Option.some.inj ht
  have hs : cs.size = 20 := by simpa using hs
  have hall : ∀ i, i < 20 → ∃ n, cs[i]? = some (.int .u64 n) := by
    intro i hi
    have hi' : i < cs.size := by omega
    obtain ⟨u, hu, hk⟩ := hc2 i cs[i] (Array.getElem?_eq_getElem hi')
    rw [← ht] at hu
    have hu2 : u = 105 := List.eq_of_mem_replicate (List.mem_of_getElem? hu)
    subst hu2
    obtain ⟨n, hn⟩ := cell_u64 hk
    exact ⟨n, by rw [Array.getElem?_eq_getElem hi', hn]⟩
  refine ⟨fun i => match cs[i]? with | some (.int _ n) => n | _ => 0, fun i hi => ?_⟩
  obtain ⟨n, hn⟩ := hall i hi
  refine cell_blk hc ?_
  simp only [hn]

end Go.Proofs.Ytegmnbcfanjocaa
