/-
  Maps of a call's own, whatever keys and values: what is found, what is laid, how many there are.
-/
import Derived.Test.YtegmnbcfanjocaaProg
import Derived.Test.YtegmnbcfanjocaaReg
import Derived.Test.YtegmnbcfanjocaaOwn
import Derived.Maps.OwnSet
namespace Go.Proofs.Ytegmnbcfanjocaa
open Go Go.RowKit Go.Maps Go.MapKept Go.ChangeMaps
open Go.WideElems (Fit rd rg pl rd_key rd_val rg_of rd_mk rd_stay)

/-- A kind of map: its types, its keys, its values. -/
structure MC (α β : Type) where
  mt : TypeId
  kt : TypeId
  et : TypeId
  ek : α → Value
  ok : α → Prop
  ev : β → Value
  R : Value → Option (DataW Unit × List MemPlace)
  z : Value
  hm : Try.prog.underlying mt = some (.map kt et)
  law : Keyed Try.prog kt
  key : ∀ a, ok a → ∃ l, keyOf Try.prog kt (ek a) = some l
  inj : ∀ a b, ek a = ek b → a = b
  reads : ∀ b, ∃ y, R (ev b) = some y
  zero : ∀ w, (zeroValue et).run Try.prog w = .ok z w

/-- Block b is a map of n entries, which are what f tells. -/
def MapG {α β : Type} (C : MC α β) (w : World) (b : Nat) (f : α → Option β) (n : Nat) : Prop :=
  ∃ es clock, w.heap[b]? = some (.map es clock) ∧ Fit Try.prog C.kt C.R es clock ∧ es.size = n ∧
    (∀ e ∈ es.toList, ∃ a x, C.ok a ∧ e.key = C.ek a ∧ e.val = C.ev x ∧ f a = some x) ∧ (∀ a x, f a = some x → ∃ e ∈ es.toList, e.key = C.ek a)

section
variable {α β : Type} {C : MC α β} {w : World} {b n : Nat} {f : α → Option β}

theorem MapG.lt (h : MapG C w b f n) : b < w.heap.size := by
  obtain ⟨es, clock, hb, _⟩ := h
  exact (Array.getElem?_eq_some_iff.1 hb).1
theorem MapG.keep {w' : World} (h : MapG C w b f n) (he : w'.heap[b]? = w.heap[b]?) : MapG C w' b f n := by
  obtain ⟨es, clock, hb, r⟩ := h
  exact ⟨es, clock, he.trans hb, r⟩
theorem MapG.later {w' : World} (h : MapG C w b f n) (he : Ext w w') : MapG C w' b f n := h.keep (he.block b h.lt)
theorem MapG.made (C : MC α β) (w : World) : MapG C (w.alloc (.map #[] 0)) w.heap.size (fun _ => none) 0 :=
  ⟨#[], 0, (MapKept.heap_alloc w _).1, ⟨by simp, stamped_empty 0, by simp⟩, rfl, by simp, by simp⟩
theorem MapG.dom (h : MapG C w b f n) {a : α} {x : β} (hf : f a = some x) : C.ok a := by
  obtain ⟨es, clock, hb, F, hn, h1, h2⟩ := h
  obtain ⟨e, he, hk⟩ := h2 a x hf
  obtain ⟨a', x', ho, hk', _⟩ := h1 e he
  rw [hk] at hk'
  rw [C.inj _ _ hk']; exact ho

/-- v, ok := m[k] -/
theorem MapG.look (h : MapG C w b f n) {a : α} (ha : C.ok a) :
    (Instr.lookup C.mt (.map (some b)) (C.ek a) true).run Try.prog w = .ok (.tuple #[match f a with | some x => C.ev x | none => C.z, .bool (f a).isSome]) w := by
  obtain ⟨es, clock, hb, F, hn, h1, h2⟩ := h
  obtain ⟨l, hl⟩ := C.key a ha
  rcases fit_look true C.law C.hm (C.zero w) hb F hl with ⟨hr, h3, _⟩ | ⟨e0, y, he, hk, hr, _⟩
  · have hf : f a = none := by
      cases hf : f a with
      | none => rfl
      | some p => obtain ⟨e, he, hk⟩ := h2 a p hf; exact absurd hk (h3 e he)
    rw [hr, hf]; rfl
  · obtain ⟨a', x, ho, hk', hv, hf⟩ := h1 e0 he
    rw [hk] at hk'
    obtain rfl := C.inj _ _ hk'
    rw [hr, hf, hv]; rfl
/-- m[k] -/
theorem MapG.get (h : MapG C w b f n) {a : α} (ha : C.ok a) :
    (Instr.lookup C.mt (.map (some b)) (C.ek a) false).run Try.prog w = .ok (match f a with | some x => C.ev x | none => C.z) w := by
  obtain ⟨es, clock, hb, F, hn, h1, h2⟩ := h
  obtain ⟨l, hl⟩ := C.key a ha
  rcases fit_look false C.law C.hm (C.zero w) hb F hl with ⟨hr, h3, _⟩ | ⟨e0, y, he, hk, hr, _⟩
  · have hf : f a = none := by
      cases hf : f a with
      | none => rfl
      | some p => obtain ⟨e, he, hk⟩ := h2 a p hf; exact absurd hk (h3 e he)
    rw [hr, hf]; rfl
  · obtain ⟨a', x, ho, hk', hv, hf⟩ := h1 e0 he
    rw [hk] at hk'
    obtain rfl := C.inj _ _ hk'
    rw [hr, hf, hv]; rfl
theorem MapG.len (h : MapG C w b f n) (ty : TypeId) : (Builtin.len_ #[C.mt] ty #[.map (some b)]).run Try.prog w = .ok (.int .i64 n) w := by
  obtain ⟨es, clock, hb, F, hn, _⟩ := h
  simp [Builtin.len_, run_underlying C.hm, MapKept.run_getObj_map hb, goInt, Result.andThen, hn]

def fset [DecidableEq α] (f : α → Option β) (a : α) (x : β) (k : α) : Option β := if k = a then some x else f k
theorem fset_self [DecidableEq α] (f : α → Option β) (a : α) (x : β) : fset f a x a = some x := if_pos rfl
theorem fset_ne [DecidableEq α] {f : α → Option β} {a k : α} {x : β} (h : k ≠ a) : fset f a x k = f k := if_neg h

set_option maxRecDepth 100000 in
/-- m[k] = v -/
theorem MapG.store [DecidableEq α] (h : MapG C w b f n) {a : α} (ha : C.ok a) (hn : n < 100000) (x : β) :
    ∃ w', (Instr.mapUpdate C.mt (.map (some b)) (C.ek a) (C.ev x)).run Try.prog w = .ok () w' ∧ MapG C w' b (fset f a x) (if (f a).isSome then n else n + 1) ∧ w.grownBy w' (some b) := by
  obtain ⟨es, clock, hb, F, hs, h1, h2⟩ := h
  obtain ⟨l, hl⟩ := C.key a ha
  obtain ⟨y, hy⟩ := C.reads x
  have hg : ∀ o, w.grownBy (setBlock w b o) (some b) := fun o => ⟨rfl, rfl, rfl, by simp [setBlock], fun i _ hi => heap_setBlock_other hb _ (fun e => hi (by rw [e]))⟩
  rcases C.law.find w hl es.toList F.keys with ⟨g1, g2⟩ | ⟨j, e0, g1, g2, g3⟩
  · have hf : f a = none := by
      cases hf : f a with
      | none => rfl
      | some p => obtain ⟨e, he, hk⟩ := h2 a p hf; exact absurd hk (g2 e he)
    refine ⟨setBlock w b (.map (es.push ⟨C.ek a, C.ev x, clock⟩) (clock + 1)), ?_, ⟨_, _, heap_setBlock_same hb _, ⟨by simp [maxLen]; omega, stamped_push F.stamped g2, ?_⟩, by simp [hs, hf], ?_, ?_⟩, hg _⟩
    · simp [Instr.mapUpdate, run_underlying C.hm, MapKept.run_getObj_map hb, C.law.check w false hl, g1, MapKept.run_setObj_map _ hb, Result.andThen, setBlock]
    · intro e he
      simp only [Array.toList_push, List.mem_append, List.mem_singleton] at he
      rcases he with he | rfl
      · exact F.reads e he
      · exact ⟨_, rd_mk hl hy⟩
    · intro e he
      simp only [Array.toList_push, List.mem_append, List.mem_singleton] at he
      rcases he with he | rfl
      · obtain ⟨a', x', ho, hk, hv, hf'⟩ := h1 e he
        exact ⟨a', x', ho, hk, hv, by rw [fset_ne (fun h' => g2 e he (by rw [hk, h']))]; exact hf'⟩
      · exact ⟨a, x, ha, rfl, rfl, fset_self _ _ _⟩
    · intro a' x' hk
      simp only [Array.toList_push, List.mem_append, List.mem_singleton]
      by_cases hkx : a' = a
      · exact ⟨_, .inr rfl, by rw [hkx]⟩
      · rw [fset_ne hkx] at hk
        obtain ⟨e, he, h3⟩ := h2 a' x' hk
        exact ⟨e, .inl he, h3⟩
  · have hj : es[j]? = some e0 := by simpa using g2
    have hjl : j < es.toList.length := (List.getElem?_eq_some_iff.1 g2).1
    have hf : (f a).isSome = true := by
      obtain ⟨a', x', _, hk, _, hf'⟩ := h1 e0 (List.mem_of_getElem? g2)
      rw [g3] at hk
      rw [C.inj _ _ hk, hf']; rfl
    have hkeyf : ∀ e', es[j]? = some e' → ({ e' with key := C.ek a, val := C.ev x } : MapEntry).key = e'.key := fun e' he' => by rw [hj] at he'; cases he'; exact g3.symm
    have hlist : (es.modify j (fun e' => { e' with key := C.ek a, val := C.ev x })).toList = es.toList.set j { e0 with key := C.ek a, val := C.ev x } := by rw [Array.toList_modify, modify_eq_set _ _ _ _ g2]
    have hd : es.toList.Pairwise (fun x y => x.key ≠ y.key) := ((stamped_iff es clock).1 F.stamped).2.2
    have hother : ∀ (i : Nat) e, es.toList[i]? = some e → i ≠ j → e.key ≠ C.ek a := fun i e hi hne hk => by
      obtain ⟨hi1, hi2⟩ := List.getElem?_eq_some_iff.1 hi
      obtain ⟨hj1, hj2⟩ := List.getElem?_eq_some_iff.1 g2
      rcases Nat.lt_or_gt_of_ne hne with h5 | h5
      · exact (List.pairwise_iff_getElem.1 hd i j hi1 hj1 h5) (by rw [hi2, hj2, hk, g3])
      · exact (List.pairwise_iff_getElem.1 hd j i hj1 hi1 h5) (by rw [hi2, hj2, hk, g3])
    have who : ∀ e ∈ es.toList.set j { e0 with key := C.ek a, val := C.ev x }, e = { e0 with key := C.ek a, val := C.ev x } ∨ (e ∈ es.toList ∧ e.key ≠ C.ek a) := fun e he => by
      obtain ⟨i, hi⟩ := List.mem_iff_getElem?.1 he
      rw [List.getElem?_set] at hi
      split at hi
      · exact .inl (Option.some.inj hi).symm
      · rename_i hij
        exact .inr ⟨List.mem_of_getElem? hi, hother i e hi (fun e => hij e.symm)⟩
    refine ⟨setBlock w b (.map (es.modify j (fun e' => { e' with key := C.ek a, val := C.ev x })) clock), ?_, ⟨_, _, heap_setBlock_same hb _, ⟨by simpa using F.size, stamped_modify F.stamped _ _ (fun _ _ => rfl) (fun e' _ he' => hkeyf e' he'), ?_⟩, by simp [hs, hf], ?_, ?_⟩, hg _⟩
    · simp [Instr.mapUpdate, run_underlying C.hm, MapKept.run_getObj_map hb, C.law.check w false hl, g1, hj, g3, C.law.stays w hl, MapKept.run_setObj_map _ hb, Result.andThen, setBlock]
    · intro e he
      rw [hlist] at he
      rcases who e he with rfl | ⟨he', _⟩
      · exact ⟨_, rd_mk hl hy⟩
      · exact F.reads e he'
    · intro e he
      rw [hlist] at he
      rcases who e he with rfl | ⟨he', hne⟩
      · exact ⟨a, x, ha, rfl, rfl, fset_self _ _ _⟩
      · obtain ⟨a', x', ho, hk, hv, hf'⟩ := h1 e he'
        exact ⟨a', x', ho, hk, hv, by rw [fset_ne (fun h' => hne (by rw [hk, h']))]; exact hf'⟩
    · intro a' x' hk
      rw [hlist]
      by_cases hkx : a' = a
      · exact ⟨{ e0 with key := C.ek a, val := C.ev x }, List.mem_iff_getElem?.2 ⟨j, by rw [List.getElem?_set]; simpa using hjl⟩, by rw [hkx]⟩
      · rw [fset_ne hkx] at hk
        obtain ⟨e, he, h3⟩ := h2 a' x' hk
        obtain ⟨i, hi⟩ := List.mem_iff_getElem?.1 he
        have hij : i ≠ j := fun hij => by
          subst hij
          rw [g2] at hi
          cases hi
          rw [g3] at h3
          exact hkx (C.inj _ _ h3).symm
        exact ⟨e, List.mem_iff_getElem?.2 ⟨i, by rw [List.getElem?_set]; simp [Ne.symm hij, hi]⟩, h3⟩

/-- So many at most. -/
theorem MapG.card [DecidableEq α] (h : MapG C w b f n) (l : List α) (hl : ∀ a x, f a = some x → a ∈ l) : n ≤ l.length := by
  obtain ⟨es, clock, hb, F, hs, h1, h2⟩ := h
  have hd : es.toList.Pairwise (fun x y => x.key ≠ y.key) := ((stamped_iff es clock).1 F.stamped).2.2
  have key : ∀ (es : List MapEntry) (l : List α), es.Pairwise (fun x y => x.key ≠ y.key) → (∀ e ∈ es, ∃ a ∈ l, e.key = C.ek a) → es.length ≤ l.length := by
    intro es
    induction es with
    | nil => simp
    | cons e r ih =>
      intro l hp hm
      obtain ⟨p1, p2⟩ := List.pairwise_cons.1 hp
      obtain ⟨a, ha, hk⟩ := hm e (by simp)
      have := ih (l.erase a) p2 (fun e' he' => by
        obtain ⟨a', ha', hk'⟩ := hm e' (by simp [he'])
        have hne : a' ≠ a := fun hh => p1 e' he' (by rw [hk, hk', hh])
        exact ⟨a', (List.mem_erase_of_ne hne).2 ha', hk'⟩)
      have h5 := List.length_erase_of_mem ha
      have h6 := List.length_pos_of_mem ha
      simp only [List.length_cons]
      omega
  have := key es.toList l hd (fun e he => by
    obtain ⟨a, x, _, hk, _, hf⟩ := h1 e he
    exact ⟨a, hl a x hf, hk⟩)
  simpa [hs] using this
end

end Go.Proofs.Ytegmnbcfanjocaa
