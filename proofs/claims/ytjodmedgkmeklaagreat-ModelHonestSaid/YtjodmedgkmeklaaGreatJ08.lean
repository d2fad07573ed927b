/-
  Texts merged: K3, K4, IterLay, Iter, K5, K6.
-/
import Derived.Shelf.SlGeneric
import Derived.Shelf.SlIter.Nil
import Derived.Shelf.SortM.Plain
import Derived.Shelf.SortM.SortNone
import Derived.Ground.GgzProg
import Derived.Ground.SlgmProg
import Derived.Test.YtjodmedgkmeklaaGreatJ06
import Derived.Test.YtjodmedgkmeklaaGreatJ07
import Derived.Test.YtjodmedgkmeklaaGreatProg
/-
  What is known, by names: the plain law.
-/
namespace Go.Proofs.YtjodmedgkmeklaaGreat
open Go Go.RowKit

/-- How numbers are written. -/
structure Nums (f : Int → List UInt8) (P : Int → Prop) : Prop where
  small : ∀ n, P n → Small n
  dig : ∀ n, Small n → Dig (f n)
  dot : ∀ n, Small n → ∀ c ∈ f n, c ≠ 46
  inj : ∀ m n, P m → P n → f m = f n → m = n
  inj0 : ∀ m n, P0 m → P0 n → f m = f n → m = n
  sign : ∀ m n, Small m → Small n → f m = f n → (0 ≤ m ↔ 0 ≤ n)

section
variable {f : Int → List UInt8} {P : Int → Prop}

theorem dot_head : ∀ {a b r s : List UInt8}, (∀ c ∈ a, c ≠ 46) → (∀ c ∈ b, c ≠ 46) → a ++ 46 :: r = b ++ 46 :: s → a = b ∧ r = s
  | [], [], _, _, _, _, h => by simp at h; exact ⟨rfl, h⟩
  | [], c :: b, _, _, _, hb, h => by
    simp only [List.nil_append, List.cons_append, List.cons.injEq] at h
    exact absurd h.1.symm (hb c (by simp))
  | c :: a, [], _, _, ha, _, h => by
    simp only [List.nil_append, List.cons_append, List.cons.injEq] at h
    exact absurd h.1 (ha c (by simp))
  | c :: a, d :: b, r, s, ha, hb, h => by
    simp only [List.cons_append, List.cons.injEq] at h
    obtain ⟨h1, h2⟩ := dot_head (fun x hx => ha x (by simp [hx])) (fun x hx => hb x (by simp [hx])) h.2
    exact ⟨by rw [h.1, h1], h2⟩

/-- Of one name. -/
def Sim (f : Int → List UInt8) : Tm → Tm → Prop
  | .atom m, .atom n => f m = f n ∧ (0 ≤ m ↔ 0 ≤ n)
  | .pub m, .pub n => m = n
  | .shared a b, .shared c d => a = c ∧ b = d
  | .chain i x y, .chain j u v => i = j ∧ nm f x = nm f u ∧ nm f y = nm f v
  | .digest x y, .digest u v => nm f x = nm f u ∧ nm f y = nm f v
  | .box k n a t, .box k' n' a' t' => n = n' ∧ nm f k = nm f k' ∧ nm f a = nm f a' ∧ nm f t = nm f t'
  | .empty, .empty => True
  | _, _ => False

theorem nm_sim (N : Nums f P) : ∀ {x y : Tm}, x.ok P → y.ok P → nm f x = nm f y → Sim f x y := by
  intro x y hx hy h
  have hd : ∀ n, P0 n → Dig (f n) := fun n hn => N.dig n hn.small
  cases x <;> cases y <;> simp only [nm, join2, join3, List.cons_append, List.nil_append, List.cons.injEq, List.append_assoc] at h <;>
    first
    | exact False.elim hx
    | exact False.elim hy
    | exact absurd h.1 (by decide)
    | skip
  case atom.atom m n => exact ⟨h.2, N.sign m n hx hy h.2⟩
  case pub.pub m n => exact N.inj m n hx hy h.2
  case shared.shared a b c d =>
    obtain ⟨h1, h2⟩ := dot_head (N.dot a (N.small a hx.1)) (N.dot c (N.small c hy.1)) h.2
    exact ⟨N.inj a c hx.1 hy.1 h1, N.inj b d hx.2 hy.2 h2⟩
  case chain.chain i x y j u v =>
    have h1 := dig_head (hd i hx.1) (hd j hy.1) h.2
    have e := N.inj0 i j hx.1 hy.1 h1
    have h2 := h.2
    rw [h1] at h2
    have h3 := List.cons.inj (List.append_cancel_left h2)
    have h4 := nm_head N.dig (hx.2.1.all N.small) (hy.2.1.all N.small) h3.2
    have h5 := h3.2
    rw [h4] at h5
    have h6 := (List.cons.inj (List.append_cancel_left h5)).2
    exact ⟨e, h4, List.append_cancel_right h6⟩
  case digest.digest x y u v =>
    have h3 := h.2
    have h4 := nm_head N.dig (hx.1.all N.small) (hy.1.all N.small) h3.2
    have h5 := h3.2
    rw [h4] at h5
    have h6 := (List.cons.inj (List.append_cancel_left h5)).2
    exact ⟨h4, List.append_cancel_right h6⟩
  case box.box k n a t k' n' a' t' =>
    have h1 := dig_head (hd n hx.1) (hd n' hy.1) h.2
    have e := N.inj0 n n' hx.1 hy.1 h1
    have h2 := h.2
    rw [h1] at h2
    have h3 := List.cons.inj (List.append_cancel_left h2)
    have h4 := nm_head N.dig (hx.2.1.all N.small) (hy.2.1.all N.small) h3.2
    have h5 := h3.2
    rw [h4] at h5
    have h6 := (List.cons.inj (List.append_cancel_left h5)).2
    have h7 := nm_head N.dig (hx.2.2.1.all N.small) (hy.2.2.1.all N.small) h6
    rw [h7] at h6
    have h8 := (List.cons.inj (List.append_cancel_left h6)).2
    exact ⟨e, h4, h7, List.append_cancel_right h8⟩
  case empty.empty => trivial

theorem can_nm (N : Nums f P) (sec : Int → Bool) (S : List UInt8 → Bool) : ∀ {x y : Tm}, x.ok P → y.ok P → nm f x = nm f y → can f sec S x = can f sec S y := by
  intro x
  induction x with
  | non => intro y hx; exact False.elim hx
  | atom m =>
    intro y hx hy h
    have h1 := nm_sim N hx hy h
    cases y <;> simp only [Sim] at h1
    case atom n => simp only [can, h, h1.2]
  | pub m =>
    intro y hx hy h
    have h1 := nm_sim N hx hy h
    cases y <;> simp only [Sim] at h1
    case pub n => subst h1; rfl
  | shared a b =>
    intro y hx hy h
    have h1 := nm_sim N hx hy h
    cases y <;> simp only [Sim] at h1
    case shared c d => obtain ⟨rfl, rfl⟩ := h1; rfl
  | empty =>
    intro y hx hy h
    have h1 := nm_sim N hx hy h
    cases y <;> simp only [Sim] at h1
    case empty => rfl
  | chain i u v ih1 ih2 =>
    intro y hx hy h
    have h1 := nm_sim N hx hy h
    cases y <;> simp only [Sim] at h1
    case chain j a b => simp only [can, h, ih1 hx.2.1 hy.2.1 h1.2.1, ih2 hx.2.2 hy.2.2 h1.2.2]
  | digest u v ih1 ih2 =>
    intro y hx hy h
    have h1 := nm_sim N hx hy h
    cases y <;> simp only [Sim] at h1
    case digest a b => simp only [can, h, ih1 hx.1 hy.1 h1.1, ih2 hx.2 hy.2 h1.2]
  | box k n a t ih1 ih2 ih3 =>
    intro y hx hy h
    have h1 := nm_sim N hx hy h
    cases y <;> simp only [Sim] at h1
    case box k' n' a' t' => simp only [can, h, ih1 hx.2.1 hy.2.1 h1.2.1, ih2 hx.2.2.1 hy.2.2.1 h1.2.2.1, ih3 hx.2.2.2 hy.2.2.2 h1.2.2.2]

theorem can_mono {sec sec2 : Int → Bool} {S S2 : List UInt8 → Bool} (h1 : ∀ n, sec n = true → sec2 n = true) (h2 : ∀ s, S s = true → S2 s = true) : ∀ t : Tm, can f sec S t = true → can f sec2 S2 t = true
  | .non, h => h
  | .empty, _ => rfl
  | .atom n, h => by
    simp only [can, Bool.or_eq_true] at h ⊢
    exact h.imp (h2 _) id
  | .pub n, h => by
    simp only [can, Bool.or_eq_true] at h ⊢
    exact h.imp (h2 _) (h1 _)
  | .shared a b, h => by
    simp only [can, Bool.or_eq_true] at h ⊢
    exact h.imp (h2 _) (fun h => h.imp (h1 _) (h1 _))
  | .chain i x y, h => by
    simp only [can, Bool.or_eq_true, Bool.and_eq_true] at h ⊢
    exact h.imp (h2 _) (fun h => ⟨can_mono h1 h2 x h.1, can_mono h1 h2 y h.2⟩)
  | .digest x y, h => by
    simp only [can, Bool.or_eq_true, Bool.and_eq_true] at h ⊢
    exact h.imp (h2 _) (fun h => ⟨can_mono h1 h2 x h.1, can_mono h1 h2 y h.2⟩)
  | .box k n a t, h => by
    simp only [can, Bool.or_eq_true, Bool.and_eq_true] at h ⊢
    exact h.imp (h2 _) (fun h => ⟨⟨can_mono h1 h2 k h.1.1, can_mono h1 h2 a h.1.2⟩, can_mono h1 h2 t h.2⟩)
theorem can_here {sec : Int → Bool} {S : List UInt8 → Bool} {t : Tm} (ht : t ≠ .non) (h : S (nm f t) = true) : can f sec S t = true := by
  cases t <;> simp_all [can]

/-- What comes out of boxes is there. -/
def Closed (f : Int → List UInt8) (P : Int → Prop) (sec : Int → Bool) (C : List UInt8 → Bool) : Prop :=
  ∀ k n a t, Fine P (.box k n a t) → C (nm f (.box k n a t)) = true → C (nm f a) = true ∧ (can f sec C k = true → C (nm f t) = true)
/-- The least that is closed, over S. -/
structure Cl (f : Int → List UInt8) (P : Int → Prop) (sec : Int → Bool) (S S2 : List UInt8 → Bool) : Prop where
  le : ∀ s, S s = true → S2 s = true
  closed : Closed f P sec S2
  least : ∀ C, Closed f P sec C → (∀ s, S s = true → C s = true) → ∀ s, S2 s = true → C s = true
theorem Cl.self {sec : Int → Bool} {S : List UInt8 → Bool} (h : Closed f P sec S) : Cl f P sec S S := ⟨fun _ h => h, h, fun _ _ h2 => h2⟩
/-- With a name more. -/
def plus (S : List UInt8 → Bool) (x s : List UInt8) : Bool := S s || decide (s = x)
theorem plus_le (S : List UInt8 → Bool) (x : List UInt8) : ∀ s, S s = true → plus S x s = true := fun s h => by simp [plus, h]
theorem plus_self (S : List UInt8 → Bool) (x : List UInt8) : plus S x x = true := by simp [plus]
theorem Cl.eq_of {sec : Int → Bool} {S S2 C : List UInt8 → Bool} (h : Cl f P sec S S2) (hc : Closed f P sec C) (h1 : ∀ s, S s = true → C s = true) (h2 : ∀ s, C s = true → S2 s = true) : S2 = C := by
  funext s
  exact Bool.eq_iff_iff.2 ⟨h.least C hc h1 s, h2 s⟩

/-- A term, and all that stands in it. -/
def subs : Tm → List Tm
  | .chain i x y => .chain i x y :: (subs x ++ subs y)
  | .digest x y => .digest x y :: (subs x ++ subs y)
  | .box k n a t => .box k n a t :: (subs k ++ (subs a ++ subs t))
  | t => [t]
theorem subs_self (t : Tm) : t ∈ subs t := by cases t <;> simp [subs]
theorem can_le {sec : Int → Bool} {S C : List UInt8 → Bool} : ∀ t : Tm, (∀ u ∈ subs t, C (nm f u) = true → can f sec S u = true) → can f sec C t = true → can f sec S t = true
  | .non, _, h => h
  | .empty, _, _ => rfl
  | .atom n, h0, h => by
    by_cases hc : C (nm f (.atom n)) = true
    · exact h0 _ (subs_self _) hc
    · simp only [can, hc, Bool.false_or] at h ⊢; simp only [h, Bool.or_true]
  | .pub n, h0, h => by
    by_cases hc : C (nm f (.pub n)) = true
    · exact h0 _ (subs_self _) hc
    · simp only [can, hc, Bool.false_or] at h ⊢; simp only [h, Bool.or_true]
  | .shared a b, h0, h => by
    by_cases hc : C (nm f (.shared a b)) = true
    · exact h0 _ (subs_self _) hc
    · simp only [can, hc, Bool.false_or] at h ⊢; simp only [h, Bool.or_true]
  | .chain i x y, h0, h => by
    by_cases hc : C (nm f (.chain i x y)) = true
    · exact h0 _ (subs_self _) hc
    · simp only [can, hc, Bool.false_or, Bool.and_eq_true] at h
      simp only [can, Bool.or_eq_true, Bool.and_eq_true]
      exact .inr ⟨can_le x (fun u hu => h0 u (by simp [subs, hu])) h.1, can_le y (fun u hu => h0 u (by simp [subs, hu])) h.2⟩
  | .digest x y, h0, h => by
    by_cases hc : C (nm f (.digest x y)) = true
    · exact h0 _ (subs_self _) hc
    · simp only [can, hc, Bool.false_or, Bool.and_eq_true] at h
      simp only [can, Bool.or_eq_true, Bool.and_eq_true]
      exact .inr ⟨can_le x (fun u hu => h0 u (by simp [subs, hu])) h.1, can_le y (fun u hu => h0 u (by simp [subs, hu])) h.2⟩
  | .box k n a t, h0, h => by
    by_cases hc : C (nm f (.box k n a t)) = true
    · exact h0 _ (subs_self _) hc
    · simp only [can, hc, Bool.false_or, Bool.and_eq_true] at h
      simp only [can, Bool.or_eq_true, Bool.and_eq_true]
      exact .inr ⟨⟨can_le k (fun u hu => h0 u (by simp [subs, hu])) h.1.1, can_le a (fun u hu => h0 u (by simp [subs, hu])) h.1.2⟩, can_le t (fun u hu => h0 u (by simp [subs, hu])) h.2⟩
end

/-! ### numbers under a hundred -/
theorem dec_big : ∀ u, u < 100 → ∀ c ∈ Lib.decDigits u, 48 ≤ c ∧ c ≠ 46 := by decide +kernel
theorem dec_inj : ∀ u, u < 100 → ∀ v, v < 100 → Lib.decDigits u = Lib.decDigits v → u = v := by decide +kernel
theorem bt_big {c : Int} (h : 48 ≤ c ∧ c < 256) : (48 : UInt8) ≤ bt c := by
  have hb := bt_int (by omega : 0 ≤ c) h.2
  show (48 : UInt8).toNat ≤ (bt c).toNat
  have : ((48 : UInt8).toNat : Int) = 48 := rfl
  omega
theorem dg_big (T : Nat → Int) {u : Nat} (h : u < 8192) : ∀ c ∈ dg T u, (48 : UInt8) ≤ c := by
  intro c hc
  obtain ⟨i, hi, rfl⟩ := List.mem_map.1 hc
  exact bt_big (dgs_ok T h i hi)
theorem itoaT_pos (T : Nat → Int) {n : Int} (h0 : 0 ≤ n) (h : Small n) : ∀ c ∈ itoaT T n, (48 : UInt8) ≤ c := by
  unfold Small at h
  unfold itoaT
  rw [if_neg (by omega)]
  split
  · exact fun c hc => (dec_big _ (by omega) c hc).1
  · exact dg_big T (by omega)
theorem inj_tab (T : Nat → Int) (m n : Int) (hm : P0 m) (hn : P0 n) (h : itoaT T m = itoaT T n) : m = n := by
    unfold P0 at hm hn
    unfold itoaT at h
    rw [if_neg (by omega), if_pos (by omega), if_neg (by omega), if_pos (by omega)] at h
    have := dec_inj _ (by omega) _ (by omega) h
    omega
theorem nums_of (T : Nat → Int) {P : Int → Prop} (hs : ∀ n, P n → Small n) (hi : ∀ m n, P m → P n → itoaT T m = itoaT T n → m = n) : Nums (itoaT T) P where
  small := hs
  dig n h := itoaT_dig T n h
  dot n h c hc := by
    rintro rfl
    by_cases h0 : 0 ≤ n
    · exact absurd (itoaT_pos T h0 h 46 hc) (by decide)
    · unfold Small at h
      unfold itoaT at hc
      rw [if_pos (by omega)] at hc
      rcases List.mem_cons.1 hc with h5 | h5
      · exact absurd h5 (by decide)
      · exact absurd (dg_big T (by omega) 46 h5) (by decide)
  inj := hi
  inj0 := inj_tab T
  sign m n hm hn h := by
    have key : ∀ a b : Int, Small a → Small b → 0 ≤ a → ¬ 0 ≤ b → itoaT T a ≠ itoaT T b := fun a b ha hb h0 h1 e => by
      have h5 : (45 : UInt8) ∈ itoaT T a := by
        rw [e]
        unfold itoaT
        rw [if_pos (by omega)]
        simp
      exact absurd (itoaT_pos T h0 ha 45 h5) (by decide)
    constructor
    · intro h0
      rcases Classical.em (0 ≤ n) with h1 | h1
      · exact h1
      · exact absurd h (key m n hm hn h0 h1)
    · intro h0
      rcases Classical.em (0 ≤ m) with h1 | h1
      · exact h1
      · exact absurd h.symm (key n m hn hm h0 h1)
theorem nums_tab (T : Nat → Int) : Nums (itoaT T) P0 := nums_of T (fun _ h => h.small) (inj_tab T)

end Go.Proofs.YtjodmedgkmeklaaGreat

/-
  What comes out of a box is laid down (know.out).
-/
namespace Go.Proofs.YtjodmedgkmeklaaGreat
open Go Go.RowKit Go.Maps
attribute [local go_sem] extUpon run_store_tm
attribute [local go_sem ↓] Tm.val_cell eval_put_ne eval_put_none eval_put_same size_put eval_const
attribute [local go_sem ↓] meth_Atom meth_Public meth_Shared meth_Chain meth_Digest meth_Box meth_Empty
attribute [local go_sem ↓] run_build_chain run_build_digest run_build_box
attribute [local go_sem] ta_Atom_Atom ta_Public_Atom ta_Shared_Atom ta_Chain_Atom ta_Digest_Atom ta_Box_Atom ta_Empty_Atom ta_Nil_Atom ta_Atom_Public ta_Public_Public ta_Shared_Public ta_Chain_Public ta_Digest_Public ta_Box_Public ta_Empty_Public ta_Nil_Public ta_Atom_Shared ta_Public_Shared ta_Shared_Shared ta_Chain_Shared ta_Digest_Shared ta_Box_Shared ta_Empty_Shared ta_Nil_Shared ta_Atom_Chain ta_Public_Chain ta_Shared_Chain ta_Chain_Chain ta_Digest_Chain ta_Box_Chain ta_Empty_Chain ta_Nil_Chain ta_Atom_Digest ta_Public_Digest ta_Shared_Digest ta_Chain_Digest ta_Digest_Digest ta_Box_Digest ta_Empty_Digest ta_Nil_Digest ta_Atom_Box ta_Public_Box ta_Shared_Box ta_Chain_Box ta_Digest_Box ta_Box_Box ta_Empty_Box ta_Nil_Box ta_Atom_Empty ta_Public_Empty ta_Shared_Empty ta_Chain_Empty ta_Digest_Empty ta_Box_Empty ta_Empty_Empty ta_Nil_Empty

/-- The first is as the second, but for some blocks. -/
def Same (W W' : World) (p : Nat → Prop) : Prop := W'.os = W.os ∧ W'.tape = W.tape ∧ W'.output = W.output ∧ W.heap.size ≤ W'.heap.size ∧ ∀ b, b < W.heap.size → p b → W'.heap[b]? = W.heap[b]?
theorem Same.of_ext {W W' : World} {p : Nat → Prop} (h : Ext W W') : Same W W' p := ⟨h.os, h.tape, h.output, h.size, fun b hb _ => h.block b hb⟩
theorem Same.of_grown {W W' : World} {p : Nat → Prop} {row : Option Nat} (h : W.grownBy W' row) (hp : ∀ b, p b → some b ≠ row) : Same W W' p := ⟨h.os, h.tape, h.output, h.size, fun b hb hpb => h.block b hb (hp b hpb)⟩
theorem Same.trans {A B C : World} {p : Nat → Prop} (h : Same A B p) (k : Same B C p) : Same A C p :=
  ⟨k.1.trans h.1, k.2.1.trans h.2.1, k.2.2.1.trans h.2.2.1, Nat.le_trans h.2.2.2.1 k.2.2.2.1, fun b hb hp => (k.2.2.2.2 b (Nat.lt_of_lt_of_le hb h.2.2.2.1) hp).trans (h.2.2.2.2 b hb hp)⟩
theorem Same.mono {A B : World} {p q : Nat → Prop} (h : Same A B p) (hq : ∀ b, q b → p b) : Same A B q := ⟨h.1, h.2.1, h.2.2.1, h.2.2.2.1, fun b hb hp => h.2.2.2.2 b hb (hq b hp)⟩
theorem Same.refl (W : World) (p : Nat → Prop) : Same W W p := Same.of_ext (Ext.refl W)
theorem Same.cell {A B : World} {p : Nat → Prop} (h : Same A B p) {b : Nat} (hb : b < A.heap.size) (hp : p b) {j : Nat} {v : Value} (hc : A.cell? ⟨b, j, none⟩ = some v) : B.cell? ⟨b, j, none⟩ = some v :=
  (World.cell?_of_block (a := ⟨b, j, none⟩) (h.2.2.2.2 b hb hp)).trans hc
/-- Behind a start at which the turned block was not yet. -/
theorem Same.ext {A B C : World} {p : Nat → Prop} (h : Ext A B) (k : Same B C p) (hp : ∀ b, b < A.heap.size → p b) : Ext A C :=
  ⟨k.1.trans h.os, k.2.1.trans h.tape, k.2.2.1.trans h.output, Nat.le_trans h.size k.2.2.2.1, fun b hb => (k.2.2.2.2 b (Nat.lt_of_lt_of_le hb h.size) (hp b hb)).trans (h.block b hb)⟩

variable {f : Int → List UInt8} {P : Int → Prop}
theorem Tm.iface (t : Tm) (ht : t ≠ .non) : ∃ u, t.val = .iface u t.arg ∧ (∀ w, (method 291 u t.arg "Name").run Tryz.prog w = .ok (t.nf, t.arg) w) ∧
    (∀ args w, (callFunc t.nf args).run Tryz.prog w = .ok (.enter t.nf args) w) := by
  cases t with
  | non => exact absurd rfl ht
  | atom n => exact ⟨_, rfl, fun _ => meth_Atom _ _, ent_atom⟩
  | pub n => exact ⟨_, rfl, fun _ => meth_Public _ _, ent_pub⟩
  | shared a b => exact ⟨_, rfl, fun _ => meth_Shared _ _, ent_shared⟩
  | empty => exact ⟨_, rfl, fun _ => meth_Empty _ _, ent_empty⟩
  | digest x y => exact ⟨_, rfl, fun _ => meth_Digest _ _, ent_digest⟩
  | chain i x y => exact ⟨_, rfl, fun _ => meth_Chain _ _, ent_chain⟩
  | box k n x y => exact ⟨_, rfl, fun _ => meth_Box _ _, ent_box⟩

def KV.put (f : Int → List UInt8) (v : KV) (t : Tm) : KV := { v with all := fset v.all (nm f t) t, m := if (v.all (nm f t)).isSome then v.m else v.m + 1 }
theorem KAt.put {w w2 : World} {k : KS} {v : KV} {t : Tm} (h : KAt f P w k v) (ht : Fine P t) (hm : MapG CS w2 k.ab (fset v.all (nm f t) t) (if (v.all (nm f t)).isSome then v.m else v.m + 1)) (hg : w.grownBy w2 (some k.ab))
    (hkb : k.kb ≠ k.ab) : KAt f P w2 k (v.put f t) := by
  have hb : ∀ b, b < w.heap.size → b ≠ k.ab → w2.heap[b]? = w.heap[b]? := fun b hb hne => hg.block b hb (fun e => hne (Option.some.inj e))
  refine ⟨(hb _ (Array.getElem?_eq_some_iff.1 h.blk).1 hkb).trans h.blk, h.sec.keep (hb _ h.sec.lt h.ne2), h.seen.keep (hb _ h.seen.lt h.ne3), hm, h.ne1, h.ne2, h.ne3, ?_, h.few, h.fews⟩
  intro s x hs
  show nm f x = s ∧ Fine P x
  by_cases hsn : s = nm f t
  · subst hsn
    change fset v.all (nm f t) t (nm f t) = some x at hs
    rw [fset_self] at hs
    cases hs
    exact ⟨rfl, ht⟩
  · change fset v.all (nm f t) t s = some x at hs
    rw [fset_ne hsn] at hs
    exact h.named s x hs
theorem KAt.kb_ne {w : World} {k : KS} {v : KV} (h : KAt f P w k v) : k.kb ≠ k.ab ∧ k.kb ≠ k.nb ∧ k.kb ≠ k.sb := by
  have h1 := h.blk
  refine ⟨fun e => ?_, fun e => ?_, fun e => ?_⟩
  · obtain ⟨es, c, hb, _⟩ := h.all
    rw [e, hb] at h1; cases h1
  · obtain ⟨es, c, hb, _⟩ := h.seen
    rw [e, hb] at h1; cases h1
  · obtain ⟨es, c, hb, _⟩ := h.sec
    rw [e, hb] at h1; cases h1

theorem KAt.lay {w : World} {k : KS} {v : KV} {t : Tm} (h : KAt f P w k v) (ht : Fine P t) (hno : CS.ok (nm f t)) (hm : v.m < 90000) :
    ∃ w2, (Instr.mapUpdate CS.mt (.map (some k.ab)) (CS.ek (nm f t)) (CS.ev t)).run Tryz.prog w = .ok () w2 ∧ KAt f P w2 k (v.put f t) ∧ w.grownBy w2 (some k.ab) := by
  obtain ⟨w2, h1, h2, h3⟩ := h.all.store (a := nm f t) hno (by omega) t
  exact ⟨w2, h1, h.put ht h2 h3 h.kb_ne.1, h3⟩

set_option maxHeartbeats 1000000 in
set_option maxRecDepth 100000 in
theorem out_any (hP : ∀ n, P n → Small n) (t : Tm) (w : World) (k : KS) (v : KV) (hI : Itoa w Small f) (hK : KAt f P w k v) (ht : Fine P t) (hm : v.m < 90000) :
    Calls Tryz.prog 73 #[.pointer (some ⟨k.kb, 0, none⟩), t.val] w fun e w' => (∃ x, e = .returned x) ∧ KAt f P w' k (v.put f t) ∧ Same w w' (fun b => b ≠ k.ab) := by
  have hs : sz t ≤ 10000 := by have := ht.size; omega
  obtain ⟨u, hu, hme, hen⟩ := t.iface ht.ok.ne
  have HNM := hid (fun W hW => call_name t w ht.ok.ne hI (ht.ok.all hP) hs W hW)
  have hno := nm_ok hI t hs
  have HST : Hid (∀ W, Ext w W → ∃ w2, (Instr.mapUpdate 76 (.map (some k.ab)) (str (nm f t)) t.val).run Tryz.prog W = .ok () w2 ∧ KAt f P w2 k (v.put f t) ∧ W.grownBy w2 (some k.ab)) := hid (fun W hW => (hK.later hW).lay ht hno hm)
  have HC := hid (cell_blk (j := 2) hK.blk rfl)
  rw [hu] at HST
  rw [hu]
  generalize t.nf = g at *
  generalize t.arg = x at *
  generalize nm f t = nt at *
  clear hu hno hI hK ht hs
  go_enter Tryz.func73, Tryz.ntmps73
  go_wp2_with fail
  refine reg_begin 7 (by kernel_rfl) ?_
  generalize hW : World.drew _ = W
  have HE : Hid (Ext w W) := hid (by rw [← hW]; exact Ext.drew _)
  clear hW
  refine reg_quiet 0 rfl (by kernel_rfl) (by kernel_rfl) ?_; apply Exists.intro; refine ⟨fun w' hw' => ?_, ?_⟩; · go_simp; exact ⟨rfl, Ext.refl _⟩
  refine reg_quiet 1 rfl (by kernel_rfl) (by kernel_rfl) ?_; apply Exists.intro; refine ⟨fun w' hw' => ?_, ?_⟩; · go_simp; exact ⟨rfl, Ext.refl _⟩
  refine reg_quiet 2 rfl (by kernel_rfl) (by kernel_rfl) ?_; apply Exists.intro; refine ⟨fun w' hw' => ?_, ?_⟩; · go_simp; exact ⟨rfl, Ext.refl _⟩
  refine reg_quiet 3 rfl (by kernel_rfl) (by kernel_rfl) ?_; apply Exists.intro; refine ⟨fun w' hw' => ?_, ?_⟩; · have q0 := (HE.out.trans hw').cell HC.out; go_simp; exact ⟨rfl, Ext.refl _⟩
  refine reg_quiet 4 rfl (by kernel_rfl) (by kernel_rfl) ?_; apply Exists.intro; refine ⟨fun w' hw' => ?_, ?_⟩; · go_simp; exact ⟨rfl, Ext.refl _⟩
  refine reg_quiet 5 rfl (by kernel_rfl) (by kernel_rfl) ?_; apply Exists.intro; refine ⟨fun w' hw' => ?_, ?_⟩; · go_simp; exact HNM.out w' (HE.out.trans hw')
  refine reg_quiet 6 rfl (by kernel_rfl) (by kernel_rfl) ?_; apply Exists.intro; refine ⟨fun w' hw' => ?_, ?_⟩; · go_simp; exact ⟨rfl, Ext.refl _⟩
  refine reg_one 7 rfl (by kernel_rfl) (by kernel_rfl) (fun w' hw' => ?_)
  have h2 := Classical.choose_spec (HST.out w' (HE.out.trans hw'))
  generalize Classical.choose _ = w2 at h2
  have hrun := h2.1
  have hK2 := h2.2.1
  have hg2 := h2.2.2
  clear h2
  have HK2 := hid hK2
  have HSM : Hid (Same w w2 (fun b => b ≠ k.ab)) := hid ((Same.of_ext (HE.out.trans hw')).trans (Same.of_grown hg2 (fun b hb e => hb (Option.some.inj e))))
  clear hK2 hg2 hw'
  go_simp
  clear hrun
  refine reg_done (by kernel_rfl) (fun w3 hw3 => ?_) _
  have HK3 := hid (HK2.out.later hw3)
  have HS3 := hid (HSM.out.trans (Same.of_ext hw3))
  clear hw3
  go_simp
  go_wp2_with fail
  go_end0
  exact ⟨⟨_, rfl⟩, HK3.out, HS3.out⟩

end Go.Proofs.YtjodmedgkmeklaaGreat

/-
  DERIVED: THE SHELF's CONTRACTS AT THIS DUMP, IN PLAIN WORDS (tools/lay-plain.mjs out of 'TryzIterLay.lean', which tools/lay-shelf.mjs wrote): THE SAME DECLARATIONS UNDER THE SAME NAMES: 'import', 'namespace', 'open', 'def', 'theorem' AND NOTHING ELSE: no command of the shelf's: FOR A HAND-IN. Each laying: the table of numbers ('.._ren') and one theorem, a field a fact of the dump's own or the kernel's comparison; each contract: ONE APPLICATION.
-/
namespace Go.Proofs
open Go.Shelf
def Tryz.keys72_ren : Go.Shelf.Ren := ⟨fun | 7 => 72 | 10 => 78 | n => n, fun | 23 => 76 | 26 => 9 | 3 => 29 | 28 => 122 | 0 => 0 | 27 => 121 | 33 => 126 | 4 => 4 | n => n, fun | n => n⟩
theorem Tryz.keys72 : Go.Proofs.SlLaysZ.n7 Tryz.prog Tryz.keys72_ren := {
  mixed := by kernel_rfl
  f7 := ⟨Tryz.f72.name, by decide, Tryz.func72.trans (congrArg some (by kernel_rfl))⟩
  f10 := ⟨Tryz.f78.name, by decide, Tryz.func78.trans (congrArg some (by kernel_rfl))⟩
  t0 := Tryz.underlying0
  a0 := Tryz.isAgg0
  z0 := Tryz.sizeOf0
  v0 := Tryz.zeroValue0
  t4 := Tryz.underlying4
  a4 := Tryz.isAgg4
  z4 := Tryz.sizeOf4
  v4 := Tryz.zeroValue4
  t23 := Tryz.underlying76
  a23 := Tryz.isAgg76
  z23 := Tryz.sizeOf76
  v23 := Tryz.zeroValue76
  t26 := Tryz.underlying9
  a26 := Tryz.isAgg9
  z26 := Tryz.sizeOf9
  v26 := Tryz.zeroValue9
  t27 := Tryz.underlying121
  a27 := Tryz.isAgg121
  z27 := Tryz.sizeOf121
  v27 := Tryz.zeroValue121
  t28 := Tryz.underlying122
  a28 := Tryz.isAgg122
  z28 := Tryz.sizeOf122
  v28 := Tryz.zeroValue122
  t33 := Tryz.underlying126
  a33 := Tryz.isAgg126
  z33 := Tryz.sizeOf126
  v33 := Tryz.zeroValue126 }
def Tryz.sorted71_ren : Go.Shelf.Ren := ⟨fun | 6 => 71 | 8 => 76 | 9 => 77 | 11 => 80 | 13 => 82 | 12 => 81 | 23 => 92 | 24 => 93 | 14 => 83 | 15 => 84 | 16 => 85 | 17 => 86 | 18 => 87 | 19 => 88 | 20 => 89 | 21 => 90 | 22 => 91 | 25 => 94 | 26 => 95 | 27 => 96 | 28 => 97 | 29 => 98 | 30 => 99 | 31 => 100 | n => n, fun | 26 => 9 | 28 => 122 | 24 => 119 | 0 => 0 | 3 => 3 | 37 => 131 | 48 => 142 | 50 => 144 | 4 => 4 | 40 => 134 | 39 => 133 | 45 => 139 | 5 => 5 | 9 => 9 | 51 => 145 | 55 => 149 | 57 => 151 | 58 => 152 | 33 => 126 | n => n, fun | n => n⟩
theorem Tryz.sorted71 : Go.Proofs.SlLaysZ.n6 Tryz.prog Tryz.sorted71_ren := {
  mixed := by kernel_rfl
  f6 := ⟨Tryz.f71.name, by decide, Tryz.func71.trans (congrArg some (by kernel_rfl))⟩
  f8 := ⟨Tryz.f76.name, by decide, Tryz.func76.trans (congrArg some (by kernel_rfl))⟩
  f11 := ⟨Tryz.f80.name, by decide, Tryz.func80.trans (congrArg some (by kernel_rfl))⟩
  t0 := Tryz.underlying0
  a0 := Tryz.isAgg0
  z0 := Tryz.sizeOf0
  v0 := Tryz.zeroValue0
  t24 := Tryz.underlying119
  a24 := Tryz.isAgg119
  z24 := Tryz.sizeOf119
  v24 := Tryz.zeroValue119
  t26 := Tryz.underlying9
  a26 := Tryz.isAgg9
  z26 := Tryz.sizeOf9
  v26 := Tryz.zeroValue9
  t28 := Tryz.underlying122
  a28 := Tryz.isAgg122
  z28 := Tryz.sizeOf122
  v28 := Tryz.zeroValue122
  i26 := by kernel_rfl }
def Tryz.sort77_ren : Go.Shelf.Ren := ⟨fun | 6 => 77 | 8 => 82 | 9 => 81 | 19 => 92 | 20 => 93 | 21 => 83 | 22 => 84 | 23 => 85 | 24 => 86 | 25 => 87 | 26 => 88 | 27 => 89 | 28 => 90 | 29 => 91 | 36 => 94 | 31 => 95 | 32 => 96 | 37 => 97 | 38 => 98 | 39 => 99 | 41 => 100 | n => n, fun | 27 => 119 | 29 => 9 | 3 => 3 | 32 => 131 | 26 => 119 | 0 => 0 | 44 => 142 | 46 => 144 | 4 => 4 | 36 => 134 | 35 => 133 | 41 => 139 | 5 => 5 | 9 => 9 | 53 => 145 | 57 => 149 | 63 => 151 | 64 => 152 | n => n, fun | n => n⟩
theorem Tryz.sort77 : Go.Proofs.SlLaysM.n6 Tryz.prog Tryz.sort77_ren := {
  mixed := by kernel_rfl
  f6 := ⟨Tryz.f77.name, by decide, Tryz.func77.trans (congrArg some (by kernel_rfl))⟩
  f8 := Tryz.func82.trans (congrArg some (by kernel_rfl))
  f9 := ⟨Tryz.f81.name, by decide, Tryz.func81.trans (congrArg some (by kernel_rfl))⟩
  f19 := Tryz.func92.trans (congrArg some (by kernel_rfl))
  f20 := Tryz.func93.trans (congrArg some (by kernel_rfl))
  f21 := ⟨Tryz.f83.name, by decide, Tryz.func83.trans (congrArg some (by kernel_rfl))⟩
  f22 := ⟨Tryz.f84.name, by decide, Tryz.func84.trans (congrArg some (by kernel_rfl))⟩
  f23 := ⟨Tryz.f85.name, by decide, Tryz.func85.trans (congrArg some (by kernel_rfl))⟩
  f24 := ⟨Tryz.f86.name, by decide, Tryz.func86.trans (congrArg some (by kernel_rfl))⟩
  f25 := ⟨Tryz.f87.name, by decide, Tryz.func87.trans (congrArg some (by kernel_rfl))⟩
  f26 := ⟨Tryz.f88.name, by decide, Tryz.func88.trans (congrArg some (by kernel_rfl))⟩
  f27 := ⟨Tryz.f89.name, by decide, Tryz.func89.trans (congrArg some (by kernel_rfl))⟩
  f28 := ⟨Tryz.f90.name, by decide, Tryz.func90.trans (congrArg some (by kernel_rfl))⟩
  f29 := ⟨Tryz.f91.name, by decide, Tryz.func91.trans (congrArg some (by kernel_rfl))⟩
  f31 := Tryz.func95.trans (congrArg some (by kernel_rfl))
  f32 := Tryz.func96.trans (congrArg some (by kernel_rfl))
  f36 := ⟨Tryz.f94.name, by decide, Tryz.func94.trans (congrArg some (by kernel_rfl))⟩
  f37 := ⟨Tryz.f97.name, by decide, Tryz.func97.trans (congrArg some (by kernel_rfl))⟩
  f38 := ⟨Tryz.f98.name, by decide, Tryz.func98.trans (congrArg some (by kernel_rfl))⟩
  f39 := ⟨Tryz.f99.name, by decide, Tryz.func99.trans (congrArg some (by kernel_rfl))⟩
  f41 := ⟨Tryz.f100.name, by decide, Tryz.func100.trans (congrArg some (by kernel_rfl))⟩
  t0 := Tryz.underlying0
  a0 := Tryz.isAgg0
  z0 := Tryz.sizeOf0
  v0 := Tryz.zeroValue0
  t3 := Tryz.underlying3
  a3 := Tryz.isAgg3
  z3 := Tryz.sizeOf3
  v3 := Tryz.zeroValue3
  t4 := Tryz.underlying4
  a4 := Tryz.isAgg4
  z4 := Tryz.sizeOf4
  v4 := Tryz.zeroValue4
  t5 := Tryz.underlying5
  a5 := Tryz.isAgg5
  z5 := Tryz.sizeOf5
  v5 := Tryz.zeroValue5
  t9 := Tryz.underlying9
  a9 := Tryz.isAgg9
  z9 := Tryz.sizeOf9
  v9 := Tryz.zeroValue9
  t26 := Tryz.underlying119
  a26 := Tryz.isAgg119
  z26 := Tryz.sizeOf119
  v26 := Tryz.zeroValue119
  t27 := Tryz.underlying119
  a27 := Tryz.isAgg119
  z27 := Tryz.sizeOf119
  v27 := Tryz.zeroValue119
  t29 := Tryz.underlying9
  a29 := Tryz.isAgg9
  z29 := Tryz.sizeOf9
  v29 := Tryz.zeroValue9
  t32 := Tryz.underlying131
  a32 := Tryz.isAgg131
  z32 := Tryz.sizeOf131
  v32 := Tryz.zeroValue131
  t35 := Tryz.underlying133
  a35 := Tryz.isAgg133
  z35 := Tryz.sizeOf133
  v35 := Tryz.zeroValue133
  t36 := Tryz.underlying134
  a36 := Tryz.isAgg134
  z36 := Tryz.sizeOf134
  v36 := Tryz.zeroValue134
  t41 := Tryz.underlying139
  a41 := Tryz.isAgg139
  z41 := Tryz.sizeOf139
  v41 := Tryz.zeroValue139
  t44 := Tryz.underlying142
  a44 := Tryz.isAgg142
  z44 := Tryz.sizeOf142
  v44 := Tryz.zeroValue142
  t46 := Tryz.underlying144
  a46 := Tryz.isAgg144
  z46 := Tryz.sizeOf144
  v46 := Tryz.zeroValue144
  t53 := Tryz.underlying145
  a53 := Tryz.isAgg145
  z53 := Tryz.sizeOf145
  v53 := Tryz.zeroValue145
  t57 := Tryz.underlying149
  a57 := Tryz.isAgg149
  z57 := Tryz.sizeOf149
  v57 := Tryz.zeroValue149
  t63 := Tryz.underlying151
  a63 := Tryz.isAgg151
  z63 := Tryz.sizeOf151
  v63 := Tryz.zeroValue151
  t64 := Tryz.underlying152
  a64 := Tryz.isAgg152
  z64 := Tryz.sizeOf152
  v64 := Tryz.zeroValue152 }
end Go.Proofs

/-
  The keys of a map, sorted: the shelf contracts at this dump (written by the kit lay-iter).
-/
namespace Go.Proofs
open Go.RowKit Go.Maps Go.Sort Go.Shelf


theorem Tryz.sorts71 (m : Nat) : AnyZ.SortsIn Tryz.prog Tryz.sorted71_ren Fence.wide m :=
  ⟨fun blk off cap ss W hH hblk hsz => callsIn_wide.2 (AnyM.slices_Sort_string Tryz.sort77 blk off cap ss W hH hblk hsz),
   fun p cap W => callsIn_wide.2 (AnyM.slices_Sort_string_none Tryz.sort77 p cap W)⟩

theorem Tryz.maps_Keys_72 (mb : Option Nat) (W : World) : CallsIn Fence.wide 5 Tryz.prog 72 #[.map mb] W fun e w' => e = .returned (.func (.func 78) #[] #[.pointer (some ⟨W.heap.size, 0, none⟩)]) ∧ w' = W.alloc (.cells #[.map mb] 76) :=
  AnyZ.keys_in Tryz.keys72 Fence.wide 5 trivial rfl mb W

set_option maxHeartbeats 1000000 in
theorem Tryz.slices_Sorted_keys_71_72 {H : Type} (b nn : Nat) (D0 : DataW H) (R : Value → Option (DataW H × List MemPlace)) (w : World) (hown : w.ownsMap Tryz.prog 9 R b nn D0) (hmax : Maps.size D0 ≤ maxLen) (hbytes : Maps.size D0 * 16 ≤ 140737488355328) :
    CallsIn Fence.wide 5 Tryz.prog 71 #[.func (.func 78) #[] #[.pointer (some ⟨w.heap.size, 0, none⟩)]] (w.alloc (.cells #[.map (some b)] 76)) fun e w' => ∃ (v : Value) (ss : List (List UInt8)), e = .returned v ∧ ss.Perm (strKeys D0) ∧
      w'.ownsRow (w.alloc (.cells #[.map (some b)] 76)).heap.size 9 1 v ss.length ((ss.mergeSort (fun x y => decide (x ≤ y))).map encStr) ∧ (v = .slice none 0 0 ↔ ss = []) ∧ Below (w.alloc (.cells #[.map (some b)] 76)).heap.size (w.alloc (.cells #[.map (some b)] 76)) w' := by
  have hbl := hown.lt
  have hseq : SeqGives Fence.wide 2 Tryz.prog 78 #[.pointer (some ⟨w.heap.size, 0, none⟩)] encStr (fun ss => ss.Perm (strKeys D0)) (Maps.size D0) (w.alloc (.cells #[.map (some b)] 76)) :=
    AnyZ.keys_gives (ρ := Tryz.keys72_ren) { Tryz.keys72 with } Fence.wide _ trivial rfl (by omega) w.heap.size b nn D0 _ (by simp) (by simp) (by
      obtain ⟨es, clock, hb, Ft, hs, hD⟩ := hown
      exact ⟨es, clock, (Below.heap_alloc _ _ b hbl).trans hb, Ft, hs, hD⟩)
  exact AnyZ.sorted_in Tryz.sorted71 Fence.wide 5 trivial trivial trivial trivial rfl (by omega) (Tryz.sorts71 _) (enters_of Tryz.func77 (by kernel_rfl) rfl) 78 #[.pointer (some ⟨w.heap.size, 0, none⟩)] trivial (enters_of Tryz.func78 (by kernel_rfl) rfl) _ _ hmax hbytes _ hseq

set_option maxHeartbeats 1000000 in
theorem Tryz.slices_Sorted_keys_nil_71_72 (w : World) :
    CallsIn Fence.wide 5 Tryz.prog 71 #[.func (.func 78) #[] #[.pointer (some ⟨w.heap.size, 0, none⟩)]] (w.alloc (.cells #[.map none] 76)) fun e w' => ∃ (v : Value) (ss : List (List UInt8)), e = .returned v ∧ ss = [] ∧
      w'.ownsRow (w.alloc (.cells #[.map none] 76)).heap.size 9 1 v ss.length ((ss.mergeSort (fun x y => decide (x ≤ y))).map encStr) ∧ (v = .slice none 0 0 ↔ ss = []) ∧ Below (w.alloc (.cells #[.map none] 76)).heap.size (w.alloc (.cells #[.map none] 76)) w' := by
  have hseq : SeqGives Fence.wide 2 Tryz.prog 78 #[.pointer (some ⟨w.heap.size, 0, none⟩)] encStr (fun ss : List (List UInt8) => ss = []) 0 (w.alloc (.cells #[.map none] 76)) :=
    AnyZ.keys_gives_nil (ρ := Tryz.keys72_ren) { Tryz.keys72 with } Fence.wide _ trivial rfl w.heap.size _ (by simp) (by simp)
  exact AnyZ.sorted_in Tryz.sorted71 Fence.wide 5 trivial trivial trivial trivial rfl (by omega) (Tryz.sorts71 _) (enters_of Tryz.func77 (by kernel_rfl) rfl) 78 #[.pointer (some ⟨w.heap.size, 0, none⟩)] trivial (enters_of Tryz.func78 (by kernel_rfl) rfl) _ 0 (Nat.zero_le _) (by omega) _ hseq



end Go.Proofs

/-
  The names that stand in a map, rising.
-/
namespace Go.Proofs.YtjodmedgkmeklaaGreat
open Go Go.RowKit Go.Maps Go.Sort Go.MapKept Go.ChangeMaps
open Go.WideElems (Fit rd rg pl rd_key rd_val rg_of rd_mk rd_stay)

set_option maxRecDepth 100000 in
/-- As the shelf says it. -/
theorem MapG.owns {w : World} {b n : Nat} {g : List UInt8 → Option Tm} (h : MapG CS w b g n) :
    ∃ D0 : DataW Unit, w.ownsMap Tryz.prog 9 CS.R b n D0 ∧ Maps.size D0 = n ∧ ∀ s, s ∈ strKeys D0 ↔ g s ≠ none := by
  obtain ⟨es, clock, hb, F, hn, h1, h2⟩ := h
  have hkey : ∀ e ∈ es.toList, ∃ s, CS.ok s ∧ e.key = str s ∧ (rg Tryz.prog 9 CS.R e).1 = .string s ∧ g s ≠ none := fun e he => by
    obtain ⟨s, x, ho, hk, hv, hf⟩ := h1 e he
    have hk' : e.key = str s := hk
    obtain ⟨l, hl⟩ := CS.key s ho
    have hl2 : keyOf Tryz.prog 9 (str s) = some (.string s) := by
      have := Go.WideMaps.keyOf_string_mk Tryz.underlying9 (str_small ho)
      simpa using this
    obtain ⟨y, hy⟩ := F.reads e he
    have h5 := rd_key hy
    refine ⟨s, ho, hk', ?_, by rw [hf]; simp⟩
    change (rg Tryz.prog CS.kt CS.R e).1 = _
    rw [rg_of hy]
    have h6 : keyOf Tryz.prog 9 e.key = some y.1 := h5
    rw [hk', hl2] at h6
    exact (Option.some.inj h6).symm
  have hperm := Go.WideShapes.sorted_perm (es.toList.map (rg Tryz.prog 9 CS.R))
  refine ⟨_, ⟨es, clock, hb, F, by omega, rfl⟩, ?_, fun s => ?_⟩
  · show ((es.toList.map (rg Tryz.prog 9 CS.R)).foldr DataW.insert []).length = n
    rw [hperm.length_eq]; simp [hn]
  · show s ∈ (((es.toList.map (rg Tryz.prog 9 CS.R)).foldr DataW.insert []).map fun p => strOf p.1) ↔ _
    constructor
    · intro hs
      obtain ⟨p, hp, rfl⟩ := List.mem_map.1 hs
      obtain ⟨e, he, rfl⟩ := List.mem_map.1 (hperm.mem_iff.1 hp)
      obtain ⟨s', _, _, h6, h7⟩ := hkey e he
      rw [h6]
      exact h7
    · intro hs
      cases hg : g s with
      | none => exact absurd hg hs
      | some x =>
        obtain ⟨e, he, hk⟩ := h2 s x hg
        obtain ⟨s', _, h5, h6, _⟩ := hkey e he
        have hk' : e.key = str s := hk
        rw [hk'] at h5
        obtain rfl := str_inj h5
        exact List.mem_map.2 ⟨_, hperm.mem_iff.2 (List.mem_map.2 ⟨e, he, rfl⟩), by rw [h6]; rfl⟩

set_option maxRecDepth 100000 in
theorem keys_any {w : World} {b n : Nat} {g : List UInt8 → Option Tm} (h : MapG CS w b g n) (hn : n ≤ 100000) :
    (Calls Tryz.prog 72 #[.map (some b)] w fun e w' => e = .returned (.func (.func 78) #[] #[.pointer (some ⟨w.heap.size, 0, none⟩)]) ∧ w' = w.alloc (.cells #[.map (some b)] 76 (0, 0))) ∧
    (Calls Tryz.prog 71 #[.func (.func 78) #[] #[.pointer (some ⟨w.heap.size, 0, none⟩)]] (w.alloc (.cells #[.map (some b)] 76 (0, 0))) fun e w' =>
      ∃ (v : Value) (ss : List (List UInt8)), e = .returned v ∧ (∀ s, s ∈ ss ↔ g s ≠ none) ∧ w'.ownsRow (w.heap.size + 1) 9 1 v ss.length (ss.map str) ∧ Ext (w.alloc (.cells #[.map (some b)] 76 (0, 0))) w' ∧ ss.length = n) := by
  obtain ⟨D0, h1, h2, h3⟩ := h.owns
  refine ⟨callsIn_wide.1 (Tryz.maps_Keys_72 (some b) w), ?_⟩
  refine (callsIn_wide.1 (Tryz.slices_Sorted_keys_71_72 b n D0 CS.R w h1 (by rw [h2]; unfold maxLen; omega) (by rw [h2]; omega))).mono ?_
  rintro e w' ⟨v, ss, rfl, hp, hrow, _, hE⟩
  refine ⟨v, ss.mergeSort (fun x y => decide (x ≤ y)), rfl, fun s => ?_, ?_, hE, ?_⟩
  · rw [List.mem_mergeSort, hp.mem_iff]; exact h3 s
  · rw [List.length_mergeSort]
    have := hrow
    simpa using this
  · rw [List.length_mergeSort, hp.length_eq]
    rw [← h2]
    cases D0 <;> first | rfl | simp [strKeys, Maps.size]

end Go.Proofs.YtjodmedgkmeklaaGreat

/-
  A round over all boxes: what is kept meanwhile (plain).
-/
namespace Go.Proofs.YtjodmedgkmeklaaGreat
open Go Go.RowKit

/-- In a round, j names being done. -/
structure RInv (f : Int → List UInt8) (P : Int → Prop) (U : List (List UInt8)) (v v2 : KV) (ss : List (List UInt8)) (j : Nat) : Prop where
  sec : v2.sec = v.sec
  sn : v2.sn = v.sn
  seen : v2.seen = v.seen
  n : v2.n = v.n
  le : ∀ s, v.S s = true → v2.S s = true
  m : v.m ≤ v2.m
  eq : v2.m = v.m → v2.S = v.S
  sound : ∀ C, Closed f P v.x C → (∀ s, v.S s = true → C s = true) → ∀ s, v2.S s = true → C s = true
  inU : ∀ s, v2.S s = true → s ∈ U
  done : v2.m = v.m → ∀ i (h : i < ss.length), i < j → ∃ t, nm f t = ss[i] ∧ Fine P t ∧ ∀ k n a x, t = .box k n a x → v.S (nm f a) = true ∧ (can f v.x v.S k = true → v.S (nm f x) = true)
section
variable {f : Int → List UInt8} {P : Int → Prop} {U : List (List UInt8)} {v v2 : KV} {ss : List (List UInt8)} {j : Nat}
theorem put_S (v : KV) (t : Tm) : ∀ s, (v.put f t).S s = plus v.S (nm f t) s := fun s => by
  unfold KV.S KV.put plus
  by_cases h : s = nm f t
  · subst h; simp [fset_self]
  · simp [fset_ne h, h]
theorem put_m (v : KV) (t : Tm) : (v.put f t).m = if v.S (nm f t) then v.m else v.m + 1 := rfl
theorem RInv.start (hU : ∀ s, v.S s = true → s ∈ U) : RInv f P U v v ss 0 :=
  ⟨rfl, rfl, rfl, rfl, fun _ h => h, Nat.le_refl _, fun _ => rfl, fun _ _ h => h, hU, fun _ i _ h => absurd h (by omega)⟩
theorem RInv.put (h : RInv f P U v v2 ss j) (t : Tm) (hs : ∀ C, Closed f P v.x C → (∀ s, v.S s = true → C s = true) → C (nm f t) = true) (hU : nm f t ∈ U) : RInv f P U v (v2.put f t) ss j := by
  have hm : v2.m ≤ (v2.put f t).m := by rw [put_m]; split <;> omega
  have hb : (v2.put f t).m = v.m → v2.m = v.m ∧ v2.S (nm f t) = true := fun e => by
    have := h.m
    rw [put_m] at e
    split at e
    · rename_i h5; exact ⟨e, h5⟩
    · omega
  refine ⟨h.sec, h.sn, h.seen, h.n, fun s hs' => ?_, Nat.le_trans h.m hm, fun e => ?_, fun C hC hS s hs' => ?_, fun s hs' => ?_, fun e => h.done (hb e).1⟩
  · rw [put_S]; exact plus_le _ _ _ (h.le s hs')
  · obtain ⟨e1, e2⟩ := hb e
    rw [← h.eq e1]
    funext s
    rw [put_S]
    unfold plus
    by_cases hx : s = nm f t
    · subst hx; simp [e2]
    · simp [hx]
  · rw [put_S] at hs'
    unfold plus at hs'
    simp only [Bool.or_eq_true] at hs'
    rcases hs' with h5 | h5
    · exact h.sound C hC hS s h5
    · rw [of_decide_eq_true h5]; exact hs C hC hS
  · rw [put_S] at hs'
    unfold plus at hs'
    simp only [Bool.or_eq_true] at hs'
    rcases hs' with h5 | h5
    · exact h.inU s h5
    · rw [of_decide_eq_true h5]; exact hU
theorem RInv.x_eq (h : RInv f P U v v2 ss j) : v2.x = v.x := by unfold KV.x; rw [h.sec]

/-- No box. -/
theorem RInv.plain (h : RInv f P U v v2 ss j) {t : Tm} (hj : j < ss.length) (ht : nm f t = ss[j]) (hF : Fine P t) (hb : ∀ k n a x, t ≠ .box k n a x) : RInv f P U v v2 ss (j + 1) :=
  ⟨h.sec, h.sn, h.seen, h.n, h.le, h.m, h.eq, h.sound, h.inU, fun e i hi hij => by
      by_cases hji : i = j
      · subst hji; exact ⟨t, ht, hF, fun k n a x e => absurd e (hb k n a x)⟩
      · exact h.done e i hi (by omega)⟩
/-- A box whose key can't be made. -/
theorem RInv.shut (h : RInv f P U v v2 ss j) {k a x : Tm} {n : Int} (hj : j < ss.length) (ht : nm f (.box k n a x) = ss[j]) (hF : Fine P (.box k n a x)) (ha : v2.S (nm f a) = true) (hc : can f v.x v2.S k = false) : RInv f P U v v2 ss (j + 1) :=
  ⟨h.sec, h.sn, h.seen, h.n, h.le, h.m, h.eq, h.sound, h.inU, fun e i hi hij => by
      by_cases hji : i = j
      · subst hji
        refine ⟨_, ht, hF, fun k' n' a' x' e' => ?_⟩
        cases e'
        rw [← h.eq e]
        exact ⟨ha, fun hh => by rw [hc] at hh; cases hh⟩
      · exact h.done e i hi (by omega)⟩
/-- A box that is opened. -/
theorem RInv.opened (h : RInv f P U v v2 ss j) {k a x : Tm} {n : Int} (hj : j < ss.length) (ht : nm f (.box k n a x) = ss[j]) (hF : Fine P (.box k n a x)) (ha : v2.S (nm f a) = true) (hx : v2.S (nm f x) = true) : RInv f P U v v2 ss (j + 1) :=
  ⟨h.sec, h.sn, h.seen, h.n, h.le, h.m, h.eq, h.sound, h.inU, fun e i hi hij => by
      by_cases hji : i = j
      · subst hji
        refine ⟨_, ht, hF, fun k' n' a' x' e' => ?_⟩
        cases e'
        rw [← h.eq e]
        exact ⟨ha, fun _ => hx⟩
      · exact h.done e i hi (by omega)⟩
/-- All names are done, and nothing new came out. -/
theorem RInv.closed (N : Nums f P) (h : RInv f P U v v2 ss ss.length) (hss : ∀ s, v.S s = true → s ∈ ss) (he : v2.m = v.m) : Closed f P v.x v.S := by
  intro k n a t hF hS
  obtain ⟨i, hi, hs⟩ := List.getElem_of_mem (hss _ hS)
  obtain ⟨t', h1, h2, h3⟩ := h.done he i hi hi
  have h4 := nm_sim N h2.ok hF.ok (h1.trans hs)
  cases t' <;> simp only [Sim] at h4
  case box k' n' a' x' =>
    obtain ⟨h5, h6⟩ := h3 k' n' a' x' rfl
    rw [h4.2.2.1] at h5
    rw [h4.2.2.2] at h6
    exact ⟨h5, fun hc => h6 (by rw [can_nm N v.x v.S h2.ok.2.1 hF.ok.2.1 h4.2.1]; exact hc)⟩
end

end Go.Proofs.YtjodmedgkmeklaaGreat
