/-
  The table's map: addresses, each with the block of its row.
-/
import Derived.Test.YtnlblmpfkikneaaProg
import Derived.Test.YtnlblmpfkikneaaReg
import Derived.Test.YtnlblmpfkikneaaOwn
import Derived.Maps.OwnSet
namespace Go.Proofs.Ytnlblmpfkikneaa
open Go Go.RowKit Go.Maps Go.MapKept Go.ChangeMaps
open Go.WideElems (Fit rd rg pl rd_key rd_val rg_of rd_mk rd_stay)

/-- How a row's pointer reads: what it points to is said beside it. -/
def RP (v : Value) : Option (DataW Unit × List MemPlace) :=
  match v with
  | .pointer _ => some (.lit (.bool true), [])
  | _ => none

theorem law : Keyed Try.prog 31 := int_keyed Try.underlying31
def U32 (x : Int) : Prop := 0 ≤ x ∧ x < 4294967296
theorem keyU {x : Int} (h : U32 x) : keyOf Try.prog 31 (.int .u32 x) = some (.int .u32 x) :=
  keyOf_int_mk Try.underlying31 (by unfold U32 at h; simp [Lit.wf, IntKind.min, IntKind.max, IntKind.signed, IntKind.bits]; omega)
def ptr (p : Nat) : Value := .pointer (some ⟨p, 0, none⟩)
theorem ptr_inj {p q : Nat} (h : ptr p = ptr q) : p = q := by
  unfold ptr at h
  cases h; rfl
theorem zeroRow (w : World) : (zeroValue 54).run Try.prog w = .ok (.pointer none) w := by kernel_rfl

/-- Block b is a map of n addresses; the row of a known one stands in the block that f tells. -/
structure MapF (w : World) (b : Nat) (f : Int → Option Nat) (n : Nat) : Prop where
  is : ∃ es clock, w.heap[b]? = some (.map es clock) ∧ Fit Try.prog 31 RP es clock ∧ es.size = n ∧
    (∀ e ∈ es.toList, ∃ k p, e.key = .int .u32 k ∧ e.val = ptr p ∧ f k = some p) ∧ (∀ k p, f k = some p → ∃ e ∈ es.toList, e.key = .int .u32 k)

section
variable {w : World} {b n : Nat} {f : Int → Option Nat}

theorem MapF.lt (h : MapF w b f n) : b < w.heap.size := by
  obtain ⟨es, clock, hb, _⟩ := h.is
  exact (Array.getElem?_eq_some_iff.1 hb).1
theorem MapF.keep {w' : World} (h : MapF w b f n) (he : w'.heap[b]? = w.heap[b]?) : MapF w' b f n := by
  obtain ⟨es, clock, hb, r⟩ := h.is
  exact ⟨es, clock, he.trans hb, r⟩
theorem MapF.made (w : World) : MapF (w.alloc (.map #[] 0)) w.heap.size (fun _ => none) 0 :=
  ⟨#[], 0, (MapKept.heap_alloc w _).1, ⟨by simp, stamped_empty 0, by simp⟩, rfl, by simp, by simp⟩
theorem MapF.dom {k : Int} {p : Nat} (h : MapF w b f n) (hf : f k = some p) : U32 k := by
  obtain ⟨es, clock, hb, F, hn, h1, h2⟩ := h.is
  obtain ⟨e, he, hk⟩ := h2 k p hf
  obtain ⟨l, hl⟩ := F.keys e he
  rw [hk] at hl
  simp only [keyOf, Try.underlying31, mapKey] at hl
  split at hl
  · rename_i h5
    simp [Lit.wf, IntKind.min, IntKind.max, IntKind.signed, IntKind.bits] at h5
    unfold U32; omega
  · cases hl

/-- v, ok := m[k] -/
theorem MapF.look (h : MapF w b f n) {x : Int} (hx : U32 x) :
    (Instr.lookup 51 (.map (some b)) (.int .u32 x) true).run Try.prog w = .ok (.tuple #[match f x with | some p => ptr p | none => .pointer none, .bool (f x).isSome]) w := by
  obtain ⟨es, clock, hb, F, hn, h1, h2⟩ := h.is
  rcases fit_look true law Try.underlying51 (zeroRow w) hb F (keyU hx) with ⟨hr, h3, _⟩ | ⟨e0, y, he, hk, hr, _⟩
  · have hf : f x = none := by
      cases hf : f x with
      | none => rfl
      | some p => obtain ⟨e, he, hk⟩ := h2 x p hf; exact absurd hk (h3 e he)
    rw [hr, hf]; rfl
  · obtain ⟨k, p, hk', hv, hf⟩ := h1 e0 he
    rw [hk] at hk'
    cases hk'
    rw [hr, hf, hv]; rfl
/-- m[k] -/
theorem MapF.get (h : MapF w b f n) {x : Int} (hx : U32 x) :
    (Instr.lookup 51 (.map (some b)) (.int .u32 x) false).run Try.prog w = .ok (match f x with | some p => ptr p | none => .pointer none) w := by
  obtain ⟨es, clock, hb, F, hn, h1, h2⟩ := h.is
  rcases fit_look false law Try.underlying51 (zeroRow w) hb F (keyU hx) with ⟨hr, h3, _⟩ | ⟨e0, y, he, hk, hr, _⟩
  · have hf : f x = none := by
      cases hf : f x with
      | none => rfl
      | some p => obtain ⟨e, he, hk⟩ := h2 x p hf; exact absurd hk (h3 e he)
    rw [hr, hf]; rfl
  · obtain ⟨k, p, hk', hv, hf⟩ := h1 e0 he
    rw [hk] at hk'
    cases hk'
    rw [hr, hf, hv]; rfl
theorem MapF.len (h : MapF w b f n) (ty : TypeId) : (Builtin.len_ #[51] ty #[.map (some b)]).run Try.prog w = .ok (.int .i64 n) w := by
  obtain ⟨es, clock, hb, F, hn, _⟩ := h.is
  rw [run_len_map (P := Try.prog) _ _ _ _ _ _ (by kernel_rfl) hb, hn]; rfl

/-- m[k] = p, where k is new -/
theorem MapF.store (h : MapF w b f n) {x : Int} (hx : U32 x) (hf : f x = none) (hn : n < 1000) (p : Nat) :
    ∃ w', (Instr.mapUpdate 51 (.map (some b)) (.int .u32 x) (ptr p)).run Try.prog w = .ok () w' ∧ MapF w' b (fun k => if k = x then some p else f k) (n + 1) ∧ w.grownBy w' (some b) := by
  obtain ⟨es, clock, hb, F, hs, h1, h2⟩ := h.is
  have hno : ∀ e ∈ es.toList, e.key ≠ .int .u32 x := fun e he hk => by
    obtain ⟨k, q, hk', _, hf'⟩ := h1 e he
    rw [hk] at hk'
    cases hk'
    rw [hf] at hf'; cases hf'
  rcases law.find w (keyU hx) es.toList F.keys with ⟨g1, g2⟩ | ⟨j, e0, _, g2, g3⟩
  · refine ⟨setBlock w b (.map (es.push ⟨.int .u32 x, ptr p, clock⟩) (clock + 1)), ?_, ⟨_, _, heap_setBlock_same hb _, ⟨by simp [maxLen]; omega, stamped_push F.stamped hno, ?_⟩, by simp [hs], ?_, ?_⟩,
      ⟨rfl, rfl, rfl, by simp [setBlock], fun i _ hi => heap_setBlock_other hb _ (fun e => hi (by rw [e]))⟩⟩
    · simp [Instr.mapUpdate, run_underlying Try.underlying51, MapKept.run_getObj_map hb, law.check w false (keyU hx), g1, MapKept.run_setObj_map _ hb, Result.andThen, setBlock]
    · intro e he
      simp only [Array.toList_push, List.mem_append, List.mem_singleton] at he
      rcases he with he | rfl
      · exact F.reads e he
      · exact ⟨_, rd_mk (keyU hx) (yv := (.lit (.bool true), [])) rfl⟩
    · intro e he
      simp only [Array.toList_push, List.mem_append, List.mem_singleton] at he
      rcases he with he | rfl
      · obtain ⟨k, q, hk, hv, hf'⟩ := h1 e he
        refine ⟨k, q, hk, hv, ?_⟩
        rw [if_neg (fun h' => hno e he (by rw [hk, h']))]; exact hf'
      · exact ⟨x, p, rfl, rfl, if_pos rfl⟩
    · intro k q hk
      simp only [Array.toList_push, List.mem_append, List.mem_singleton]
      by_cases hkx : k = x
      · exact ⟨_, .inr rfl, by rw [hkx]⟩
      · rw [if_neg hkx] at hk
        obtain ⟨e, he, h3⟩ := h2 k q hk
        exact ⟨e, .inl he, h3⟩
  · exact absurd g3 (hno e0 (List.mem_of_getElem? g2))

/-- delete(m, k) -/
theorem MapF.drop (h : MapF w b f n) {x : Int} (hx : U32 x) (ty : TypeId) :
    ∃ w', (Builtin.delete_ #[51, 31] ty #[.map (some b), .int .u32 x]).run Try.prog w = .ok (.tuple #[]) w' ∧
      MapF w' b (fun k => if k = x then none else f k) (if (f x).isSome then n - 1 else n) ∧ w.grownBy w' (some b) := by
  obtain ⟨es, clock, hb, F, hs, h1, h2⟩ := h.is
  have hg : ∀ o, w.grownBy (setBlock w b o) (some b) := fun o => ⟨rfl, rfl, rfl, by simp [setBlock], fun i _ hi => heap_setBlock_other hb _ (fun e => hi (by rw [e]))⟩
  rcases law.find w (keyU hx) es.toList F.keys with ⟨g1, g2⟩ | ⟨j, e0, g1, g2, g3⟩
  · have hf : f x = none := by
      cases hf : f x with
      | none => rfl
      | some p => obtain ⟨e, he, hk⟩ := h2 x p hf; exact absurd hk (g2 e he)
    refine ⟨setBlock w b (.map es clock), ?_, ⟨es, clock, heap_setBlock_same hb _, F, by simp [hs, hf], ?_, ?_⟩, hg _⟩
    · simp [Builtin.delete_, run_underlying Try.underlying51, MapKept.run_getObj_map hb, law.check w _ (keyU hx), g1, MapKept.run_setObj_map _ hb, Result.andThen, setBlock]
    · intro e he
      obtain ⟨k, q, hk, hv, hf'⟩ := h1 e he
      refine ⟨k, q, hk, hv, ?_⟩
      rw [if_neg (fun h' => by rw [h', hf] at hf'; cases hf')]; exact hf'
    · intro k q hk
      by_cases hkx : k = x
      · rw [if_pos hkx] at hk; cases hk
      · rw [if_neg hkx] at hk; exact h2 k q hk
  · have hjl : j < es.toList.length := (List.getElem?_eq_some_iff.1 g2).1
    have hjs : j < es.size := by simpa using hjl
    have hsub : (es.eraseIdxIfInBounds j).toList = es.toList.eraseIdx j := by
      unfold Array.eraseIdxIfInBounds
      rw [dif_pos hjs]; simp
    have hsize : (es.eraseIdxIfInBounds j).size = n - 1 := by
      rw [← Array.length_toList, hsub, List.length_eraseIdx, if_pos hjl]; simp [hs]
    obtain ⟨p0, hf⟩ : ∃ p, f x = some p := by
      obtain ⟨k, q, hk, _, hf'⟩ := h1 e0 (List.mem_of_getElem? g2)
      rw [g3] at hk; cases hk; exact ⟨q, hf'⟩
    have hd : es.toList.Pairwise (fun x y => x.key ≠ y.key) := ((stamped_iff es clock).1 F.stamped).2.2
    have hother : ∀ e ∈ es.toList.eraseIdx j, e ∈ es.toList ∧ e.key ≠ .int .u32 x := fun e he => by
      obtain ⟨i, hne, hi⟩ := List.mem_eraseIdx_iff_getElem?.1 he
      refine ⟨List.mem_of_getElem? hi, fun hk => ?_⟩
      have hil := (List.getElem?_eq_some_iff.1 hi)
      have hjl2 := (List.getElem?_eq_some_iff.1 g2)
      obtain ⟨hi1, hi2⟩ := hil
      obtain ⟨hj1, hj2⟩ := hjl2
      rcases Nat.lt_or_gt_of_ne hne with h5 | h5
      · exact (List.pairwise_iff_getElem.1 hd i j hi1 hj1 h5) (by rw [hi2, hj2, hk, g3])
      · exact (List.pairwise_iff_getElem.1 hd j i hj1 hi1 h5) (by rw [hi2, hj2, hk, g3])
    refine ⟨setBlock w b (.map (es.eraseIdxIfInBounds j) clock), ?_, ⟨_, clock, heap_setBlock_same hb _, ⟨Nat.le_trans (MapFrom.size_erase es j) F.size, stamped_erase F.stamped j, ?_⟩, by rw [hsize, hf]; rfl, ?_, ?_⟩, hg _⟩
    · simp [Builtin.delete_, run_underlying Try.underlying51, MapKept.run_getObj_map hb, law.check w _ (keyU hx), g1, MapKept.run_setObj_map _ hb, Result.andThen, setBlock]
    · intro e he
      rw [hsub] at he
      exact F.reads e (hother e he).1
    · intro e he
      rw [hsub] at he
      obtain ⟨h3, h4⟩ := hother e he
      obtain ⟨k, q, hk, hv, hf'⟩ := h1 e h3
      refine ⟨k, q, hk, hv, ?_⟩
      rw [if_neg (fun h' => h4 (by rw [hk, h']))]; exact hf'
    · intro k q hk
      by_cases hkx : k = x
      · rw [if_pos hkx] at hk; cases hk
      · rw [if_neg hkx] at hk
        obtain ⟨e, he, h3⟩ := h2 k q hk
        refine ⟨e, ?_, h3⟩
        rw [hsub]
        obtain ⟨i, hi⟩ := List.mem_iff_getElem?.1 he
        exact List.mem_eraseIdx_iff_getElem?.2 ⟨i, fun hij => by subst hij; rw [g2] at hi; cases hi; rw [g3] at h3; cases h3; exact hkx rfl, hi⟩
end

end Go.Proofs.Ytnlblmpfkikneaa
