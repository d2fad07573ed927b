/-
  A round over all boxes: what is kept meanwhile (plain).
-/
import Derived.Test.YtegmnbcfanjocaaK5
namespace Go.Proofs.Ytegmnbcfanjocaa
open Go Go.RowKit

/-- In a round, j names being done. -/
structure RInv (f : Int → List UInt8) (P : Int → Prop) (U : List (List UInt8)) (v v2 : KV) (ss : List (List UInt8)) (j : Nat) : Prop where
  sec : v2.sec = v.sec
  sn : v2.sn = v.sn
  seen : v2.seen = v.seen
  n : v2.n = v.n
  le : ∀ s, v.S s = true → v2.S s = true
  m : v.m ≤ v2.m
  eq : v2.m = v.m → v2.S = v.S
  sound : ∀ C, Closed f P v.x C → (∀ s, v.S s = true → C s = true) → ∀ s, v2.S s = true → C s = true
  inU : ∀ s, v2.S s = true → s ∈ U
  done : v2.m = v.m → ∀ i (h : i < ss.length), i < j → ∃ t, nm f t = ss[i] ∧ Fine P t ∧ ∀ k n a x, t = .box k n a x → v.S (nm f a) = true ∧ (can f v.x v.S k = true → v.S (nm f x) = true)
section
variable {f : Int → List UInt8} {P : Int → Prop} {U : List (List UInt8)} {v v2 : KV} {ss : List (List UInt8)} {j : Nat}
theorem put_S (v : KV) (t : Tm) : ∀ s, (v.put f t).S s = plus v.S (nm f t) s := fun s => by
  unfold KV.S KV.put plus
  by_cases h : s = nm f t
  · subst h; simp [fset_self]
  · simp [fset_ne h, h]
theorem put_m (v : KV) (t : Tm) : (v.put f t).m = if v.S (nm f t) then v.m else v.m + 1 := rfl
theorem RInv.start (hU : ∀ s, v.S s = true → s ∈ U) : RInv f P U v v ss 0 :=
  ⟨rfl, rfl, rfl, rfl, fun _ h => h, Nat.le_refl _, fun _ => rfl, fun _ _ h => h, hU, fun _ i _ h => absurd h (by omega)⟩
theorem RInv.put (h : RInv f P U v v2 ss j) (t : Tm) (hs : ∀ C, Closed f P v.x C → (∀ s, v.S s = true → C s = true) → C (nm f t) = true) (hU : nm f t ∈ U) : RInv f P U v (v2.put f t) ss j := by
  have hm : v2.m ≤ (v2.put f t).m := by rw [put_m]; split <;> omega
  have hb : (v2.put f t).m = v.m → v2.m = v.m ∧ v2.S (nm f t) = true := fun e => by
    have := h.m
    rw [put_m] at e
    split at e
    · rename_i h5; exact ⟨e, h5⟩
    · omega
  refine ⟨h.sec, h.sn, h.seen, h.n, fun s hs' => ?_, Nat.le_trans h.m hm, fun e => ?_, fun C hC hS s hs' => ?_, fun s hs' => ?_, fun e => h.done (hb e).1⟩
  · rw [put_S]; exact plus_le _ _ _ (h.le s hs')
  · obtain ⟨e1, e2⟩ := hb e
    rw [← h.eq e1]
    funext s
    rw [put_S]
    unfold plus
    by_cases hx : s = nm f t
    · subst hx; simp [e2]
    · simp [hx]
  · rw [put_S] at hs'
    unfold plus at hs'
    simp only [Bool.or_eq_true] at hs'
    rcases hs' with h5 | h5
    · exact h.sound C hC hS s h5
    · rw [of_decide_eq_true h5]; exact hs C hC hS
  · rw [put_S] at hs'
    unfold plus at hs'
    simp only [Bool.or_eq_true] at hs'
    rcases hs' with h5 | h5
    · exact h.inU s h5
    · rw [of_decide_eq_true h5]; exact hU
theorem RInv.x_eq (h : RInv f P U v v2 ss j) : v2.x = v.x := by unfold KV.x; rw [h.sec]

/-- No box. -/
theorem RInv.plain (h : RInv f P U v v2 ss j) {t : Tm} (hj : j < ss.length) (ht : nm f t = ss[j]) (hF : Fine P t) (hb : ∀ k n a x, t ≠ .box k n a x) : RInv f P U v v2 ss (j + 1) :=
  ⟨h.sec, h.sn, h.seen, h.n, h.le, h.m, h.eq, h.sound, h.inU, fun e i hi hij => by
      by_cases hji : i = j
      · subst hji; exact ⟨t, ht, hF, fun k n a x e => absurd e (hb k n a x)⟩
      · exact h.done e i hi (by omega)⟩
/-- A box whose key can't be made. -/
theorem RInv.shut (h : RInv f P U v v2 ss j) {k a x : Tm} {n : Int} (hj : j < ss.length) (ht : nm f (.box k n a x) = ss[j]) (hF : Fine P (.box k n a x)) (ha : v2.S (nm f a) = true) (hc : can f v.x v2.S k = false) : RInv f P U v v2 ss (j + 1) :=
  ⟨h.sec, h.sn, h.seen, h.n, h.le, h.m, h.eq, h.sound, h.inU, fun e i hi hij => by
      by_cases hji : i = j
      · subst hji
        refine ⟨_, ht, hF, fun k' n' a' x' e' => ?_⟩
        cases e'
        rw [← h.eq e]
        exact ⟨ha, fun hh => by rw [hc] at hh; cases hh⟩
      · exact h.done e i hi (by omega)⟩
/-- A box that is opened. -/
theorem RInv.opened (h : RInv f P U v v2 ss j) {k a x : Tm} {n : Int} (hj : j < ss.length) (ht : nm f (.box k n a x) = ss[j]) (hF : Fine P (.box k n a x)) (ha : v2.S (nm f a) = true) (hx : v2.S (nm f x) = true) : RInv f P U v v2 ss (j + 1) :=
  ⟨h.sec, h.sn, h.seen, h.n, h.le, h.m, h.eq, h.sound, h.inU, fun e i hi hij => by
      by_cases hji : i = j
      · subst hji
        refine ⟨_, ht, hF, fun k' n' a' x' e' => ?_⟩
        cases e'
        rw [← h.eq e]
        exact ⟨ha, fun _ => hx⟩
      · exact h.done e i hi (by omega)⟩
/-- All names are done, and nothing new came out. -/
theorem RInv.closed (N : Nums f P) (h : RInv f P U v v2 ss ss.length) (hss : ∀ s, v.S s = true → s ∈ ss) (he : v2.m = v.m) : Closed f P v.x v.S := by
  intro k n a t hF hS
  obtain ⟨i, hi, hs⟩ := List.getElem_of_mem (hss _ hS)
  obtain ⟨t', h1, h2, h3⟩ := h.done he i hi hi
  have h4 := nm_sim N h2.ok hF.ok (h1.trans hs)
  cases t' <;> simp only [Sim] at h4
  case box k' n' a' x' =>
    obtain ⟨h5, h6⟩ := h3 k' n' a' x' rfl
    rw [h4.2.2.1] at h5
    rw [h4.2.2.2] at h6
    exact ⟨h5, fun hc => h6 (by rw [can_nm N v.x v.S h2.ok.2.1 hF.ok.2.1 h4.2.1]; exact hc)⟩
end

end Go.Proofs.Ytegmnbcfanjocaa
