/-
  What the laws of chapter 13 say, of names: plain.
-/
import Derived.Test.YtegmnbcfanjocaaK10
import Derived.Test.YtegmnbcfanjocaaSizes0
namespace Go.Proofs.Ytegmnbcfanjocaa
open Go Go.RowKit
variable {f : Int → List UInt8} {P : Int → Prop}

/-- A term that portholehand.Terms may make. -/
def Tm.lit : Tm → Prop
  | .non => False
  | .atom n => -4 ≤ n ∧ n ≤ 4
  | .pub n => 1 ≤ n ∧ n ≤ 9
  | .shared a b => (1 ≤ a ∧ a ≤ 9) ∧ (1 ≤ b ∧ b ≤ 9)
  | .chain i x y => (1 ≤ i ∧ i ≤ 3) ∧ x.lit ∧ y.lit
  | .digest x y => x.lit ∧ y.lit
  | .box k n a t => (0 ≤ n ∧ n ≤ 2) ∧ k.lit ∧ a.lit ∧ t.lit
  | .empty => True
theorem Tm.lit.ok : ∀ {t : Tm}, t.lit → t.ok P0
  | .non, h => h
  | .atom n, h => by simp only [Tm.lit] at h; show Small n; unfold Small; omega
  | .pub n, h => by simp only [Tm.lit] at h; show P0 n; unfold P0; omega
  | .shared a b, h => by simp only [Tm.lit] at h; exact ⟨by unfold P0; omega, by unfold P0; omega⟩
  | .chain i x y, h => by have h1 := h.1; exact ⟨by unfold P0; omega, h.2.1.ok, h.2.2.ok⟩
  | .digest x y, h => ⟨h.1.ok, h.2.ok⟩
  | .box k n a t, h => by have h1 := h.1; exact ⟨by unfold P0; omega, h.2.1.ok, h.2.2.1.ok, h.2.2.2.ok⟩
  | .empty, _ => trivial
def parts1 : Tm → List Tm
  | .chain _ x y => [x, y]
  | .digest x y => [x, y]
  | .box k _ a t => [k, a, t]
  | _ => []
/-- Each is made of what stands ahead of it. -/
def Made (ts : List Tm) : Prop := ∀ j (h : j < ts.length), ts[j].lit ∧ ∀ u ∈ parts1 ts[j], u ∈ ts.take j
theorem Made.snoc {ts : List Tm} {t : Tm} (h : Made ts) (ht : t.lit) (hp : ∀ u ∈ parts1 t, u ∈ ts) : Made (ts ++ [t]) := by
  intro j hj
  by_cases hl : j < ts.length
  · rw [List.getElem_append_left hl, List.take_append_of_le_length (by omega)]
    exact h j hl
  · have hj2 : j = ts.length := by simp at hj; omega
    subst hj2
    simp only [List.getElem_append_right (Nat.le_refl _), Nat.sub_self, List.getElem_cons_zero, List.take_left]
    exact ⟨ht, hp⟩
theorem Made.mem {ts : List Tm} (h : Made ts) : ∀ t ∈ ts, t.lit := by
  intro t ht
  obtain ⟨j, hj, rfl⟩ := List.mem_iff_getElem.1 ht
  exact (h j hj).1
theorem mkT_lit (r : Raw) {ts : List Tm} (h0 : 0 < ts.length) (h : Made ts) : (mkT r ts).lit ∧ ∀ u ∈ parts1 (mkT r ts), u ∈ ts := by
  have a := tAt_mem h0 r.a; have b := tAt_mem h0 r.b; have c := tAt_mem h0 r.c
  have a' := h.mem _ a; have b' := h.mem _ b; have c' := h.mem _ c
  unfold mkT
  repeat' split
  all_goals simp only [Tm.lit, parts1, a', b', c', and_true, List.mem_cons, List.not_mem_nil, or_false, forall_eq_or_imp, forall_eq, a, b, c, false_implies, implies_true]
  all_goals omega
theorem stepT_made {p : List Tm × List Int} (h0 : 0 < p.1.length) (h : Made p.1) (r : Raw) : Made (stepT p r).1 := by
  unfold stepT
  split
  · exact h.snoc trivial (by intro u hu; cases hu)
  · obtain ⟨h1, h2⟩ := mkT_lit r h0 h
    exact h.snoc h1 h2
theorem foldT_made : ∀ (l : List Raw) (p : List Tm × List Int), 0 < p.1.length → Made p.1 → Made (l.foldl stepT p).1
  | [], _, _, h => h
  | r :: l, p, h0, h => foldT_made l _ (by have := (stepT_len p r).1; omega) (stepT_made h0 h r)
theorem terms_made (l : List Raw) : Made (terms l) := foldT_made (l.take 40) ([.empty], [1]) (by simp) (by
  intro j hj
  have : j = 0 := by simp at hj; omega
  subst this
  exact ⟨trivial, by intro u hu; cases hu⟩)
theorem terms_fine (l : List Raw) : ∀ t ∈ terms l, Fine P0 t := fun t ht => ⟨((terms_made l).mem t ht).ok, by have := terms_sz l t ht; omega⟩

theorem names_iff {l : List Tm} {s : List UInt8} : names f l s = true ↔ ∃ v ∈ l, nm f v = s := by
  unfold names; simp
theorem take_up {ts : List Tm} {j n : Nat} (h : j ≤ n) : ∀ u ∈ ts.take j, u ∈ ts.take n := by
  intro u hu
  have : ts.take j = (ts.take n).take j := by rw [List.take_take, Nat.min_eq_left h]
  rw [this] at hu
  exact List.mem_of_mem_take hu
theorem mem_all {ts : List Tm} {n : Nat} : ∀ u ∈ ts.take n, u ∈ ts := fun _ h => List.mem_of_mem_take h
/-- One that is named among the first n: it has the name of a term there, whose parts are there. -/
theorem named_in {ts : List Tm} {n : Nat} (hM : Made ts) {s : List UInt8} (h : names f (ts.take n) s = true) : ∃ v, nm f v = s ∧ v.lit ∧ ∀ u ∈ parts1 v, names f (ts.take n) (nm f u) = true := by
  obtain ⟨v, hv, hs⟩ := names_iff.1 h
  obtain ⟨j, hj, rfl⟩ := List.mem_iff_getElem.1 hv
  have hl : j < ts.length := by simp at hj; omega
  have hn : j ≤ n := by simp at hj; omega
  have hM := hM j hl
  rw [← List.getElem_take] at hM
  · exact ⟨_, hs, hM.1, fun u hu => names_iff.2 ⟨u, take_up hn u (hM.2 u hu), rfl⟩⟩
  · exact hj
theorem parts_in (N : Nums f P0) {ts : List Tm} {n : Nat} (hM : Made ts) {y : Tm} (hy : y.ok P0) (h : names f (ts.take n) (nm f y) = true) : ∀ u ∈ parts1 y, names f (ts.take n) (nm f u) = true := by
  obtain ⟨v, hs, hl, hp⟩ := named_in hM h
  have h1 := nm_sim N hl.ok hy hs
  intro u hu
  cases y <;> simp only [parts1, List.mem_cons, List.not_mem_nil, or_false] at hu
  all_goals (cases v <;> simp only [Sim] at h1)
  case chain.chain =>
    rcases hu with rfl | rfl
    · rw [← h1.2.1]; exact hp _ (by simp [parts1])
    · rw [← h1.2.2]; exact hp _ (by simp [parts1])
  case digest.digest =>
    rcases hu with rfl | rfl
    · rw [← h1.1]; exact hp _ (by simp [parts1])
    · rw [← h1.2]; exact hp _ (by simp [parts1])
  case box.box =>
    rcases hu with rfl | rfl | rfl
    · rw [← h1.2.1]; exact hp _ (by simp [parts1])
    · rw [← h1.2.2.1]; exact hp _ (by simp [parts1])
    · rw [← h1.2.2.2]; exact hp _ (by simp [parts1])
theorem closed_names (N : Nums f P0) {ts : List Tm} (hM : Made ts) (n : Nat) (sec : Int → Bool) : Closed f P0 sec (names f (ts.take n)) := fun k m a t hF h =>
  have hp := parts_in N hM hF.ok h
  ⟨hp a (by simp [parts1]), fun _ => hp t (by simp [parts1])⟩
theorem Cl.names_eq (N : Nums f P0) {ts : List Tm} (hM : Made ts) {n : Nat} {sec : Int → Bool} {S : List UInt8 → Bool} (h : Cl f P0 sec (names f (ts.take n)) S) : S = names f (ts.take n) :=
  h.eq_of (closed_names N hM n sec) (fun _ h => h) h.le
theorem univ_ts (N : Nums f P0) {ts : List Tm} (hM : Made ts) : Univ f P0 (ts.map (nm f)) := by
  intro k m a t hF h
  have h1 : names f (ts.take ts.length) (nm f (.box k m a t)) = true := by rw [List.take_length]; unfold names; simpa using h
  have hp := parts_in N hM hF.ok h1
  have h2 : ∀ u, names f (ts.take ts.length) (nm f u) = true → nm f u ∈ ts.map (nm f) := by
    intro u hu
    rw [List.take_length] at hu
    simpa [names] using hu
  exact ⟨h2 _ (hp a (by simp [parts1])), h2 _ (hp t (by simp [parts1]))⟩

/-! ### KnowMakes -/
theorem not_in {S : List UInt8 → Bool} {s : List UInt8} (h : S s = true → False) : S s = false := by
  cases hs : S s with
  | false => rfl
  | true => exact (h hs).elim
theorem no77 (N : Nums f P0) {a D : Tm} (ha : a.lit) (hD : D.ok P0) (h : nm f a = nm f (.digest D (.atom 77))) : False := by
  have h1 := nm_sim N ha.ok (show Tm.ok P0 (.digest D (.atom 77)) from ⟨hD, by show Small 77; unfold Small; omega⟩) h
  cases a <;> simp only [Sim] at h1
  case digest c e =>
    have h2 := nm_sim N ha.2.ok (by show Small 77; unfold Small; omega) h1.2
    cases e <;> simp only [Sim] at h2
    case atom m =>
      have hb : -4 ≤ m ∧ m ≤ 4 := ha.2
      have h0 := h2.2.2 (by omega)
      have := N.inj m 77 (by unfold P0; omega) (by unfold P0; omega) h2.1
      omega
theorem makes (N : Nums f P0) {ts : List Tm} (hM : Made ts) {n : Nat} {sec : Int → Bool} {S : List UInt8 → Bool} (hS : S = names f (ts.take n)) {x y : Tm} (hx : x.ok P0) (hy : y.ok P0) :
    can f sec S (.digest (.digest (.digest x y) (.atom 77)) y) = (can f sec S x && can f sec S y) ∧ can f sec S (.box x 99 y x) = (can f sec S x && can f sec S y) ∧ can f sec S (.chain 9 x y) = (can f sec S x && can f sec S y) := by
  subst hS
  have hxy : Tm.ok P0 (.digest x y) := ⟨hx, hy⟩
  have o77 : Tm.ok P0 (.atom 77) := by show Small 77; unfold Small; omega
  have oD : Tm.ok P0 (.digest (.digest x y) (.atom 77)) := ⟨hxy, o77⟩
  have s1 : names f (ts.take n) (nm f (.digest (.digest (.digest x y) (.atom 77)) y)) = false := not_in fun h => by
    obtain ⟨v, hs, hl, _⟩ := named_in hM h
    have h1 := nm_sim N hl.ok (show Tm.ok P0 (.digest (.digest (.digest x y) (.atom 77)) y) from ⟨oD, hy⟩) hs
    cases v <;> simp only [Sim] at h1
    case digest a b _ => exact no77 N hl.1 hxy h1.1
  have s2 : names f (ts.take n) (nm f (.digest (.digest x y) (.atom 77))) = false := not_in fun h => by
    obtain ⟨v, hs, hl, _⟩ := named_in hM h
    exact no77 N hl hxy hs
  have s3 : names f (ts.take n) (nm f (.box x 99 y x)) = false := not_in fun h => by
    obtain ⟨v, hs, hl, _⟩ := named_in hM h
    have h1 := nm_sim N hl.ok (show Tm.ok P0 (.box x 99 y x) from ⟨by unfold P0; omega, hx, hy, hx⟩) hs
    cases v <;> simp only [Sim] at h1
    case box k m a t _ => have h5 : 0 ≤ m ∧ m ≤ 2 := hl.1; omega
  have s4 : names f (ts.take n) (nm f (.chain 9 x y)) = false := not_in fun h => by
    obtain ⟨v, hs, hl, _⟩ := named_in hM h
    have h1 := nm_sim N hl.ok (show Tm.ok P0 (.chain 9 x y) from ⟨by unfold P0; omega, hx, hy⟩) hs
    cases v <;> simp only [Sim] at h1
    case chain i a b _ => have h5 : 1 ≤ i ∧ i ≤ 3 := hl.1; omega
  have s5 : can f sec (names f (ts.take n)) (.digest x y) = (can f sec (names f (ts.take n)) x && can f sec (names f (ts.take n)) y) := by
    rw [Bool.eq_iff_iff]
    simp only [can, Bool.or_eq_true, Bool.and_eq_true]
    constructor
    · rintro (h | h)
      · have hp := parts_in N hM hxy h
        exact ⟨can_here hx.ne (hp x (by simp [parts1])), can_here hy.ne (hp y (by simp [parts1]))⟩
      · exact h
    · exact .inr
  refine ⟨?_, ?_, ?_⟩
  · rw [can, s1, can, s2, s5, Bool.false_or, Bool.false_or]
    have h77 : can f sec (names f (ts.take n)) (.atom 77) = true := by simp [can]
    rw [h77]
    cases can f sec (names f (ts.take n)) x <;> cases can f sec (names f (ts.take n)) y <;> rfl
  · rw [can, s3, Bool.false_or]
    cases can f sec (names f (ts.take n)) x <;> cases can f sec (names f (ts.take n)) y <;> rfl
  · rw [can, s4, Bool.false_or]

/-! ### KnowGrows -/
theorem Cl.mono {sec sec2 : Int → Bool} {A A2 S S2 : List UInt8 → Bool} (h : Cl f P sec A S) (h2 : Cl f P sec2 A2 S2) (hs : ∀ n, sec n = true → sec2 n = true) (hA : ∀ s, A s = true → A2 s = true) : ∀ s, S s = true → S2 s = true :=
  h.least S2 (fun k n a t hF hC => ⟨(h2.closed k n a t hF hC).1, fun hk => (h2.closed k n a t hF hC).2 (can_mono hs (fun _ h => h) k hk)⟩) (fun s hs => h2.le s (hA s hs))
open Classical in
/-- The names of what can be made. -/
noncomputable def Makes (f : Int → List UInt8) (P : Int → Prop) (sec : Int → Bool) (S : List UInt8 → Bool) (s : List UInt8) : Bool := decide (∃ t, t.ok P ∧ nm f t = s ∧ can f sec S t = true)
theorem makes_iff {sec : Int → Bool} {S : List UInt8 → Bool} {s : List UInt8} : Makes f P sec S s = true ↔ ∃ t, t.ok P ∧ nm f t = s ∧ can f sec S t = true := by
  unfold Makes; simp
theorem Tm.ok.sub {P : Int → Prop} : ∀ {t : Tm}, t.ok P → ∀ u ∈ subs t, u.ok P
  | .non, h, _, _ => h.elim
  | .atom n, h, u, hu => by simp only [subs, List.mem_singleton] at hu; subst hu; exact h
  | .pub n, h, u, hu => by simp only [subs, List.mem_singleton] at hu; subst hu; exact h
  | .shared a b, h, u, hu => by simp only [subs, List.mem_singleton] at hu; subst hu; exact h
  | .empty, h, u, hu => by simp only [subs, List.mem_singleton] at hu; subst hu; exact h
  | .chain i x y, h, u, hu => by
    simp only [subs, List.mem_cons, List.mem_append] at hu
    rcases hu with rfl | hu | hu
    · exact h
    · exact Tm.ok.sub h.2.1 u hu
    · exact Tm.ok.sub h.2.2 u hu
  | .digest x y, h, u, hu => by
    simp only [subs, List.mem_cons, List.mem_append] at hu
    rcases hu with rfl | hu | hu
    · exact h
    · exact Tm.ok.sub h.1 u hu
    · exact Tm.ok.sub h.2 u hu
  | .box k n a t, h, u, hu => by
    simp only [subs, List.mem_cons, List.mem_append] at hu
    rcases hu with rfl | hu | hu | hu
    · exact h
    · exact Tm.ok.sub h.2.1 u hu
    · exact Tm.ok.sub h.2.2.1 u hu
    · exact Tm.ok.sub h.2.2.2 u hu
theorem can_makes (N : Nums f P) {sec : Int → Bool} {S : List UInt8 → Bool} {t : Tm} (ht : t.ok P) (h : can f sec (Makes f P sec S) t = true) : can f sec S t = true :=
  can_le t (fun u hu hm => by
    obtain ⟨v, hv, hn, hc⟩ := makes_iff.1 hm
    rw [← can_nm N sec S hv (ht.sub u hu) hn]
    exact hc) h
theorem closed_makes (N : Nums f P) {sec : Int → Bool} {S : List UInt8 → Bool} (hS : Closed f P sec S) : Closed f P sec (Makes f P sec S) := by
  intro k n a t hF hM
  obtain ⟨v, hv, hn, hc⟩ := makes_iff.1 hM
  rw [can_nm N sec S hv hF.ok hn] at hc
  simp only [can, Bool.or_eq_true, Bool.and_eq_true] at hc
  rcases hc with h | h
  · obtain ⟨h1, h2⟩ := hS k n a t hF h
    exact ⟨makes_iff.2 ⟨a, hF.ok.2.2.1, rfl, can_here hF.ok.2.2.1.ne h1⟩, fun hk => makes_iff.2 ⟨t, hF.ok.2.2.2, rfl, can_here hF.ok.2.2.2.ne (h2 (can_makes N hF.ok.2.1 hk))⟩⟩
  · exact ⟨makes_iff.2 ⟨a, hF.ok.2.2.1, rfl, h.1.2⟩, fun _ => makes_iff.2 ⟨t, hF.ok.2.2.2, rfl, h.2⟩⟩
/-- A base that saw some of what another can make. -/
structure More (f : Int → List UInt8) (sec : Int → Bool) (A S : List UInt8 → Bool) : Prop where
  le : ∀ s, A s = true → S s = true
  made : ∀ s, S s = true → Makes f P0 sec A s = true
theorem More.start {sec : Int → Bool} {l : List Tm} {S : List UInt8 → Bool} {ts : List Tm} (hM : Made ts) {n : Nat} (h1 : l = ts.take n) (hS : S = names f l) : More f sec S S := by
  subst hS h1
  refine ⟨fun _ h => h, fun s hs => ?_⟩
  obtain ⟨v, hv, hl, _⟩ := named_in hM hs
  exact makes_iff.2 ⟨v, hl.ok, hv, can_here hl.ok.ne (by rw [hv]; exact hs)⟩
theorem More.see (N : Nums f P0) {sec : Int → Bool} {A S S2 : List UInt8 → Bool} (hA : Closed f P0 sec A) (h : More f sec A S) {x : Tm} (hx : x.ok P0) (hc : can f sec A x = true) (h2 : Cl f P0 sec (plus S (nm f x)) S2) : More f sec A S2 := by
  refine ⟨fun s hs => h2.le s (plus_le _ _ _ (h.le s hs)), h2.least _ (closed_makes N hA) fun s hs => ?_⟩
  unfold plus at hs
  simp only [Bool.or_eq_true] at hs
  rcases hs with hs | hs
  · exact h.made s hs
  · rw [of_decide_eq_true hs]; exact makes_iff.2 ⟨x, hx, rfl, hc⟩
theorem More.can_eq (N : Nums f P0) {sec : Int → Bool} {A S : List UInt8 → Bool} (h : More f sec A S) {t : Tm} (ht : t.ok P0) : can f sec S t = can f sec A t :=
  Bool.eq_iff_iff.2 ⟨fun hc => can_makes N ht (can_mono (fun _ h => h) h.made t hc), fun hc => can_mono (fun _ h => h) h.le t hc⟩

end Go.Proofs.Ytegmnbcfanjocaa
