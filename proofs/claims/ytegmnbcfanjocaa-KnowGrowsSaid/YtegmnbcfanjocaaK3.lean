/-
  What is known, by names: the plain law.
-/
import Derived.Test.YtegmnbcfanjocaaK1
namespace Go.Proofs.Ytegmnbcfanjocaa
open Go Go.RowKit

/-- How numbers are written. -/
structure Nums (f : Int → List UInt8) (P : Int → Prop) : Prop where
  small : ∀ n, P n → Small n
  dig : ∀ n, Small n → Dig (f n)
  dot : ∀ n, Small n → ∀ c ∈ f n, c ≠ 46
  inj : ∀ m n, P m → P n → f m = f n → m = n
  sign : ∀ m n, Small m → Small n → f m = f n → (0 ≤ m ↔ 0 ≤ n)

section
variable {f : Int → List UInt8} {P : Int → Prop}

theorem dot_head : ∀ {a b r s : List UInt8}, (∀ c ∈ a, c ≠ 46) → (∀ c ∈ b, c ≠ 46) → a ++ 46 :: r = b ++ 46 :: s → a = b ∧ r = s
  | [], [], _, _, _, _, h => by simp at h; exact ⟨rfl, h⟩
  | [], c :: b, _, _, _, hb, h => by
    simp only [List.nil_append, List.cons_append, List.cons.injEq] at h
    exact absurd h.1.symm (hb c (by simp))
  | c :: a, [], _, _, ha, _, h => by
    simp only [List.nil_append, List.cons_append, List.cons.injEq] at h
    exact absurd h.1 (ha c (by simp))
  | c :: a, d :: b, r, s, ha, hb, h => by
    simp only [List.cons_append, List.cons.injEq] at h
    obtain ⟨h1, h2⟩ := dot_head (fun x hx => ha x (by simp [hx])) (fun x hx => hb x (by simp [hx])) h.2
    exact ⟨by rw [h.1, h1], h2⟩

/-- Of one name. -/
def Sim (f : Int → List UInt8) : Tm → Tm → Prop
  | .atom m, .atom n => f m = f n ∧ (0 ≤ m ↔ 0 ≤ n)
  | .pub m, .pub n => m = n
  | .shared a b, .shared c d => a = c ∧ b = d
  | .chain i x y, .chain j u v => i = j ∧ nm f x = nm f u ∧ nm f y = nm f v
  | .digest x y, .digest u v => nm f x = nm f u ∧ nm f y = nm f v
  | .box k n a t, .box k' n' a' t' => n = n' ∧ nm f k = nm f k' ∧ nm f a = nm f a' ∧ nm f t = nm f t'
  | .empty, .empty => True
  | _, _ => False

theorem nm_sim (N : Nums f P) : ∀ {x y : Tm}, x.ok P → y.ok P → nm f x = nm f y → Sim f x y := by
  intro x y hx hy h
  have hd : ∀ n, P n → Dig (f n) := fun n hn => N.dig n (N.small n hn)
  cases x <;> cases y <;> simp only [nm, join2, join3, List.cons_append, List.nil_append, List.cons.injEq, List.append_assoc] at h <;>
    first
    | exact False.elim hx
    | exact False.elim hy
    | exact absurd h.1 (by decide)
    | skip
  case atom.atom m n => exact ⟨h.2, N.sign m n hx hy h.2⟩
  case pub.pub m n => exact N.inj m n hx hy h.2
  case shared.shared a b c d =>
    obtain ⟨h1, h2⟩ := dot_head (N.dot a (N.small a hx.1)) (N.dot c (N.small c hy.1)) h.2
    exact ⟨N.inj a c hx.1 hy.1 h1, N.inj b d hx.2 hy.2 h2⟩
  case chain.chain i x y j u v =>
    have h1 := dig_head (hd i hx.1) (hd j hy.1) h.2
    have e := N.inj i j hx.1 hy.1 h1
    have h2 := h.2
    rw [h1] at h2
    have h3 := List.cons.inj (List.append_cancel_left h2)
    have h4 := nm_head N.dig (hx.2.1.all N.small) (hy.2.1.all N.small) h3.2
    have h5 := h3.2
    rw [h4] at h5
    have h6 := (List.cons.inj (List.append_cancel_left h5)).2
    exact ⟨e, h4, List.append_cancel_right h6⟩
  case digest.digest x y u v =>
    have h3 := h.2
    have h4 := nm_head N.dig (hx.1.all N.small) (hy.1.all N.small) h3.2
    have h5 := h3.2
    rw [h4] at h5
    have h6 := (List.cons.inj (List.append_cancel_left h5)).2
    exact ⟨h4, List.append_cancel_right h6⟩
  case box.box k n a t k' n' a' t' =>
    have h1 := dig_head (hd n hx.1) (hd n' hy.1) h.2
    have e := N.inj n n' hx.1 hy.1 h1
    have h2 := h.2
    rw [h1] at h2
    have h3 := List.cons.inj (List.append_cancel_left h2)
    have h4 := nm_head N.dig (hx.2.1.all N.small) (hy.2.1.all N.small) h3.2
    have h5 := h3.2
    rw [h4] at h5
    have h6 := (List.cons.inj (List.append_cancel_left h5)).2
    have h7 := nm_head N.dig (hx.2.2.1.all N.small) (hy.2.2.1.all N.small) h6
    rw [h7] at h6
    have h8 := (List.cons.inj (List.append_cancel_left h6)).2
    exact ⟨e, h4, h7, List.append_cancel_right h8⟩
  case empty.empty => trivial

theorem can_nm (N : Nums f P) (sec : Int → Bool) (S : List UInt8 → Bool) : ∀ {x y : Tm}, x.ok P → y.ok P → nm f x = nm f y → can f sec S x = can f sec S y := by
  intro x
  induction x with
  | non => intro y hx; exact False.elim hx
  | atom m =>
    intro y hx hy h
    have h1 := nm_sim N hx hy h
    cases y <;> simp only [Sim] at h1
    case atom n => simp only [can, h, h1.2]
  | pub m =>
    intro y hx hy h
    have h1 := nm_sim N hx hy h
    cases y <;> simp only [Sim] at h1
    case pub n => subst h1; rfl
  | shared a b =>
    intro y hx hy h
    have h1 := nm_sim N hx hy h
    cases y <;> simp only [Sim] at h1
    case shared c d => obtain ⟨rfl, rfl⟩ := h1; rfl
  | empty =>
    intro y hx hy h
    have h1 := nm_sim N hx hy h
    cases y <;> simp only [Sim] at h1
    case empty => rfl
  | chain i u v ih1 ih2 =>
    intro y hx hy h
    have h1 := nm_sim N hx hy h
    cases y <;> simp only [Sim] at h1
    case chain j a b => simp only [can, h, ih1 hx.2.1 hy.2.1 h1.2.1, ih2 hx.2.2 hy.2.2 h1.2.2]
  | digest u v ih1 ih2 =>
    intro y hx hy h
    have h1 := nm_sim N hx hy h
    cases y <;> simp only [Sim] at h1
    case digest a b => simp only [can, h, ih1 hx.1 hy.1 h1.1, ih2 hx.2 hy.2 h1.2]
  | box k n a t ih1 ih2 ih3 =>
    intro y hx hy h
    have h1 := nm_sim N hx hy h
    cases y <;> simp only [Sim] at h1
    case box k' n' a' t' => simp only [can, h, ih1 hx.2.1 hy.2.1 h1.2.1, ih2 hx.2.2.1 hy.2.2.1 h1.2.2.1, ih3 hx.2.2.2 hy.2.2.2 h1.2.2.2]

theorem can_mono {sec sec2 : Int → Bool} {S S2 : List UInt8 → Bool} (h1 : ∀ n, sec n = true → sec2 n = true) (h2 : ∀ s, S s = true → S2 s = true) : ∀ t : Tm, can f sec S t = true → can f sec2 S2 t = true
  | .non, h => h
  | .empty, _ => rfl
  | .atom n, h => by
    simp only [can, Bool.or_eq_true] at h ⊢
    exact h.imp (h2 _) id
  | .pub n, h => by
    simp only [can, Bool.or_eq_true] at h ⊢
    exact h.imp (h2 _) (h1 _)
  | .shared a b, h => by
    simp only [can, Bool.or_eq_true] at h ⊢
    exact h.imp (h2 _) (fun h => h.imp (h1 _) (h1 _))
  | .chain i x y, h => by
    simp only [can, Bool.or_eq_true, Bool.and_eq_true] at h ⊢
    exact h.imp (h2 _) (fun h => ⟨can_mono h1 h2 x h.1, can_mono h1 h2 y h.2⟩)
  | .digest x y, h => by
    simp only [can, Bool.or_eq_true, Bool.and_eq_true] at h ⊢
    exact h.imp (h2 _) (fun h => ⟨can_mono h1 h2 x h.1, can_mono h1 h2 y h.2⟩)
  | .box k n a t, h => by
    simp only [can, Bool.or_eq_true, Bool.and_eq_true] at h ⊢
    exact h.imp (h2 _) (fun h => ⟨⟨can_mono h1 h2 k h.1.1, can_mono h1 h2 a h.1.2⟩, can_mono h1 h2 t h.2⟩)
theorem can_here {sec : Int → Bool} {S : List UInt8 → Bool} {t : Tm} (ht : t ≠ .non) (h : S (nm f t) = true) : can f sec S t = true := by
  cases t <;> simp_all [can]

/-- What comes out of boxes is there. -/
def Closed (f : Int → List UInt8) (P : Int → Prop) (sec : Int → Bool) (C : List UInt8 → Bool) : Prop :=
  ∀ k n a t, Fine P (.box k n a t) → C (nm f (.box k n a t)) = true → C (nm f a) = true ∧ (can f sec C k = true → C (nm f t) = true)
/-- The least that is closed, over S. -/
structure Cl (f : Int → List UInt8) (P : Int → Prop) (sec : Int → Bool) (S S2 : List UInt8 → Bool) : Prop where
  le : ∀ s, S s = true → S2 s = true
  closed : Closed f P sec S2
  least : ∀ C, Closed f P sec C → (∀ s, S s = true → C s = true) → ∀ s, S2 s = true → C s = true
theorem Cl.self {sec : Int → Bool} {S : List UInt8 → Bool} (h : Closed f P sec S) : Cl f P sec S S := ⟨fun _ h => h, h, fun _ _ h2 => h2⟩
/-- With a name more. -/
def plus (S : List UInt8 → Bool) (x s : List UInt8) : Bool := S s || decide (s = x)
theorem plus_le (S : List UInt8 → Bool) (x : List UInt8) : ∀ s, S s = true → plus S x s = true := fun s h => by simp [plus, h]
theorem plus_self (S : List UInt8 → Bool) (x : List UInt8) : plus S x x = true := by simp [plus]
theorem Cl.eq_of {sec : Int → Bool} {S S2 C : List UInt8 → Bool} (h : Cl f P sec S S2) (hc : Closed f P sec C) (h1 : ∀ s, S s = true → C s = true) (h2 : ∀ s, C s = true → S2 s = true) : S2 = C := by
  funext s
  exact Bool.eq_iff_iff.2 ⟨h.least C hc h1 s, h2 s⟩

/-- A term, and all that stands in it. -/
def subs : Tm → List Tm
  | .chain i x y => .chain i x y :: (subs x ++ subs y)
  | .digest x y => .digest x y :: (subs x ++ subs y)
  | .box k n a t => .box k n a t :: (subs k ++ (subs a ++ subs t))
  | t => [t]
theorem subs_self (t : Tm) : t ∈ subs t := by cases t <;> simp [subs]
theorem can_le {sec : Int → Bool} {S C : List UInt8 → Bool} : ∀ t : Tm, (∀ u ∈ subs t, C (nm f u) = true → can f sec S u = true) → can f sec C t = true → can f sec S t = true
  | .non, _, h => h
  | .empty, _, _ => rfl
  | .atom n, h0, h => by
    by_cases hc : C (nm f (.atom n)) = true
    · exact h0 _ (subs_self _) hc
    · simp only [can, hc, Bool.false_or] at h ⊢; simp only [h, Bool.or_true]
  | .pub n, h0, h => by
    by_cases hc : C (nm f (.pub n)) = true
    · exact h0 _ (subs_self _) hc
    · simp only [can, hc, Bool.false_or] at h ⊢; simp only [h, Bool.or_true]
  | .shared a b, h0, h => by
    by_cases hc : C (nm f (.shared a b)) = true
    · exact h0 _ (subs_self _) hc
    · simp only [can, hc, Bool.false_or] at h ⊢; simp only [h, Bool.or_true]
  | .chain i x y, h0, h => by
    by_cases hc : C (nm f (.chain i x y)) = true
    · exact h0 _ (subs_self _) hc
    · simp only [can, hc, Bool.false_or, Bool.and_eq_true] at h
      simp only [can, Bool.or_eq_true, Bool.and_eq_true]
      exact .inr ⟨can_le x (fun u hu => h0 u (by simp [subs, hu])) h.1, can_le y (fun u hu => h0 u (by simp [subs, hu])) h.2⟩
  | .digest x y, h0, h => by
    by_cases hc : C (nm f (.digest x y)) = true
    · exact h0 _ (subs_self _) hc
    · simp only [can, hc, Bool.false_or, Bool.and_eq_true] at h
      simp only [can, Bool.or_eq_true, Bool.and_eq_true]
      exact .inr ⟨can_le x (fun u hu => h0 u (by simp [subs, hu])) h.1, can_le y (fun u hu => h0 u (by simp [subs, hu])) h.2⟩
  | .box k n a t, h0, h => by
    by_cases hc : C (nm f (.box k n a t)) = true
    · exact h0 _ (subs_self _) hc
    · simp only [can, hc, Bool.false_or, Bool.and_eq_true] at h
      simp only [can, Bool.or_eq_true, Bool.and_eq_true]
      exact .inr ⟨⟨can_le k (fun u hu => h0 u (by simp [subs, hu])) h.1.1, can_le a (fun u hu => h0 u (by simp [subs, hu])) h.1.2⟩, can_le t (fun u hu => h0 u (by simp [subs, hu])) h.2⟩
end

/-! ### numbers under a hundred -/
def P0 (n : Int) : Prop := 0 ≤ n ∧ n < 100
theorem dec_big : ∀ u, u < 100 → ∀ c ∈ Lib.decDigits u, 48 ≤ c ∧ c ≠ 46 := by decide +kernel
theorem dec_inj : ∀ u, u < 100 → ∀ v, v < 100 → Lib.decDigits u = Lib.decDigits v → u = v := by decide +kernel
theorem bt_big {c : Int} (h : 48 ≤ c ∧ c < 256) : (48 : UInt8) ≤ bt c := by
  have hb := bt_int (by omega : 0 ≤ c) h.2
  show (48 : UInt8).toNat ≤ (bt c).toNat
  have : ((48 : UInt8).toNat : Int) = 48 := rfl
  omega
theorem dg_big (T : Nat → Int) {u : Nat} (h : u < 8192) : ∀ c ∈ dg T u, (48 : UInt8) ≤ c := by
  intro c hc
  obtain ⟨i, hi, rfl⟩ := List.mem_map.1 hc
  exact bt_big (dgs_ok T h i hi)
theorem itoaT_pos (T : Nat → Int) {n : Int} (h0 : 0 ≤ n) (h : Small n) : ∀ c ∈ itoaT T n, (48 : UInt8) ≤ c := by
  unfold Small at h
  unfold itoaT
  rw [if_neg (by omega)]
  split
  · exact fun c hc => (dec_big _ (by omega) c hc).1
  · exact dg_big T (by omega)
theorem nums_tab (T : Nat → Int) : Nums (itoaT T) P0 where
  small n h := by unfold P0 at h; unfold Small; omega
  dig n h := itoaT_dig T n h
  dot n h c hc := by
    rintro rfl
    by_cases h0 : 0 ≤ n
    · exact absurd (itoaT_pos T h0 h 46 hc) (by decide)
    · unfold Small at h
      unfold itoaT at hc
      rw [if_pos (by omega)] at hc
      rcases List.mem_cons.1 hc with h5 | h5
      · exact absurd h5 (by decide)
      · exact absurd (dg_big T (by omega) 46 h5) (by decide)
  inj m n hm hn h := by
    unfold P0 at hm hn
    unfold itoaT at h
    rw [if_neg (by omega), if_pos (by omega), if_neg (by omega), if_pos (by omega)] at h
    have := dec_inj _ (by omega) _ (by omega) h
    omega
  sign m n hm hn h := by
    have key : ∀ a b : Int, Small a → Small b → 0 ≤ a → ¬ 0 ≤ b → itoaT T a ≠ itoaT T b := fun a b ha hb h0 h1 e => by
      have h5 : (45 : UInt8) ∈ itoaT T a := by
        rw [e]
        unfold itoaT
        rw [if_pos (by omega)]
        simp
      exact absurd (itoaT_pos T h0 ha 45 h5) (by decide)
    constructor
    · intro h0
      rcases Classical.em (0 ≤ n) with h1 | h1
      · exact h1
      · exact absurd h (key m n hm hn h0 h1)
    · intro h0
      rcases Classical.em (0 ≤ m) with h1 | h1
      · exact h1
      · exact absurd h.symm (key n m hn hm h0 h1)

end Go.Proofs.Ytegmnbcfanjocaa
