/-
  The names that stand in a map, rising.
-/
import Derived.Test.YtegmnbcfanjocaaK4
import Derived.Test.YtegmnbcfanjocaaIter
namespace Go.Proofs.Ytegmnbcfanjocaa
open Go Go.RowKit Go.Maps Go.Sort Go.MapKept Go.ChangeMaps
open Go.WideElems (Fit rd rg pl rd_key rd_val rg_of rd_mk rd_stay)

set_option maxRecDepth 100000 in
/-- As the shelf says it. -/
theorem MapG.owns {w : World} {b n : Nat} {g : List UInt8 → Option Tm} (h : MapG CS w b g n) :
    ∃ D0 : DataW Unit, w.ownsMap Try.prog 9 CS.R b n D0 ∧ Maps.size D0 = n ∧ ∀ s, s ∈ strKeys D0 ↔ g s ≠ none := by
  obtain ⟨es, clock, hb, F, hn, h1, h2⟩ := h
  have hkey : ∀ e ∈ es.toList, ∃ s, CS.ok s ∧ e.key = str s ∧ (rg Try.prog 9 CS.R e).1 = .string s ∧ g s ≠ none := fun e he => by
    obtain ⟨s, x, ho, hk, hv, hf⟩ := h1 e he
    have hk' : e.key = str s := hk
    obtain ⟨l, hl⟩ := CS.key s ho
    have hl2 : keyOf Try.prog 9 (str s) = some (.string s) := by
      have := Go.WideMaps.keyOf_string_mk Try.underlying9 (str_small ho)
      simpa using this
    obtain ⟨y, hy⟩ := F.reads e he
    have h5 := rd_key hy
    refine ⟨s, ho, hk', ?_, by rw [hf]; simp⟩
    change (rg Try.prog CS.kt CS.R e).1 = _
    rw [rg_of hy]
    have h6 : keyOf Try.prog 9 e.key = some y.1 := h5
    rw [hk', hl2] at h6
    exact (Option.some.inj h6).symm
  have hperm := Go.WideShapes.sorted_perm (es.toList.map (rg Try.prog 9 CS.R))
  refine ⟨_, ⟨es, clock, hb, F, by omega, rfl⟩, ?_, fun s => ?_⟩
  · show ((es.toList.map (rg Try.prog 9 CS.R)).foldr DataW.insert []).length = n
    rw [hperm.length_eq]; simp [hn]
  · show s ∈ (((es.toList.map (rg Try.prog 9 CS.R)).foldr DataW.insert []).map fun p => strOf p.1) ↔ _
    constructor
    · intro hs
      obtain ⟨p, hp, rfl⟩ := List.mem_map.1 hs
      obtain ⟨e, he, rfl⟩ := List.mem_map.1 (hperm.mem_iff.1 hp)
      obtain ⟨s', _, _, h6, h7⟩ := hkey e he
      rw [h6]
      exact h7
    · intro hs
      cases hg : g s with
      | none => exact absurd hg hs
      | some x =>
        obtain ⟨e, he, hk⟩ := h2 s x hg
        obtain ⟨s', _, h5, h6, _⟩ := hkey e he
        have hk' : e.key = str s := hk
        rw [hk'] at h5
        obtain rfl := str_inj h5
        exact List.mem_map.2 ⟨_, hperm.mem_iff.2 (List.mem_map.2 ⟨e, he, rfl⟩), by rw [h6]; rfl⟩

set_option maxRecDepth 100000 in
theorem keys_any {w : World} {b n : Nat} {g : List UInt8 → Option Tm} (h : MapG CS w b g n) (hn : n ≤ 100000) :
    (Calls Try.prog 29 #[.map (some b)] w fun e w' => e = .returned (.func (.func 38) #[] #[.pointer (some ⟨w.heap.size, 0, none⟩)]) ∧ w' = w.alloc (.cells #[.map (some b)] 67 (0, 0))) ∧
    (Calls Try.prog 28 #[.func (.func 38) #[] #[.pointer (some ⟨w.heap.size, 0, none⟩)]] (w.alloc (.cells #[.map (some b)] 67 (0, 0))) fun e w' =>
      ∃ (v : Value) (ss : List (List UInt8)), e = .returned v ∧ (∀ s, s ∈ ss ↔ g s ≠ none) ∧ w'.ownsRow (w.heap.size + 1) 9 1 v ss.length (ss.map str) ∧ Ext (w.alloc (.cells #[.map (some b)] 67 (0, 0))) w' ∧ ss.length = n) := by
  obtain ⟨D0, h1, h2, h3⟩ := h.owns
  refine ⟨callsIn_wide.1 (Try.maps_Keys_29 (some b) w), ?_⟩
  refine (callsIn_wide.1 (Try.slices_Sorted_keys_28_29 b n D0 CS.R w h1 (by rw [h2]; unfold maxLen; omega) (by rw [h2]; omega))).mono ?_
  rintro e w' ⟨v, ss, rfl, hp, hrow, _, hE⟩
  refine ⟨v, ss.mergeSort (fun x y => decide (x ≤ y)), rfl, fun s => ?_, ?_, hE, ?_⟩
  · rw [List.mem_mergeSort, hp.mem_iff]; exact h3 s
  · rw [List.length_mergeSort]
    have := hrow
    simpa using this
  · rw [List.length_mergeSort, hp.length_eq]
    rw [← h2]
    cases D0 <;> first | rfl | simp [strKeys, Maps.size]

end Go.Proofs.Ytegmnbcfanjocaa
