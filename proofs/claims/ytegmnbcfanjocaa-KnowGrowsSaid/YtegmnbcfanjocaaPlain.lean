/-
  Names can be told apart: the plain law.
-/
import Derived.Test.YtegmnbcfanjocaaName
import Derived.Test.YtegmnbcfanjocaaTab
import Derived.Test.YtegmnbcfanjocaaTerms0
namespace Go.Proofs.Ytegmnbcfanjocaa
open Go Go.RowKit

/-- Up to the first comma that no bracket holds. -/
def scan : Nat → List UInt8 → List UInt8
  | _, [] => []
  | d, c :: l => if d = 0 ∧ c = 44 then [] else c :: scan (if c = 40 then d + 1 else if c = 41 then d - 1 else d) l
def Dig (s : List UInt8) : Prop := ∀ c ∈ s, c ≠ 40 ∧ c ≠ 41 ∧ c ≠ 44
theorem scan_plain (d : Nat) (c : UInt8) (l : List UInt8) (h1 : c ≠ 40) (h2 : c ≠ 41) (h3 : c ≠ 44) : scan d (c :: l) = c :: scan d l := by simp [scan, h1, h2, h3]
theorem scan_open (d : Nat) (l : List UInt8) : scan d (40 :: l) = 40 :: scan (d + 1) l := by simp [scan]
theorem scan_close (d : Nat) (l : List UInt8) : scan (d + 1) (41 :: l) = 41 :: scan d l := by simp [scan]
theorem scan_comma (d : Nat) (l : List UInt8) : scan (d + 1) (44 :: l) = 44 :: scan (d + 1) l := by simp [scan]
theorem scan_end (l : List UInt8) : scan 0 (44 :: l) = [] := by simp [scan]
theorem scan_dig (d : Nat) : ∀ (s r : List UInt8), Dig s → scan d (s ++ r) = s ++ scan d r
  | [], _, _ => rfl
  | c :: s, r, h => by
    have hc := h c (by simp)
    rw [List.cons_append, scan_plain d c _ hc.1 hc.2.1 hc.2.2, scan_dig d s r (fun x hx => h x (by simp [hx]))]
    rfl

section
variable {R : Int → Prop} {f : Int → List UInt8}

theorem scan_nm (hf : ∀ n, R n → Dig (f n)) : ∀ (t : Tm), t.all R → ∀ d r, scan d (nm f t ++ r) = nm f t ++ scan d r
  | .non, _, d, r => by simp only [nm, List.cons_append, List.nil_append]; rw [scan_plain d _ _ (by decide) (by decide) (by decide)]
  | .empty, _, d, r => by simp only [nm, List.cons_append, List.nil_append]; rw [scan_plain d _ _ (by decide) (by decide) (by decide)]
  | .atom n, h, d, r => by
    simp only [nm, List.cons_append]; rw [scan_plain d _ _ (by decide) (by decide) (by decide), scan_dig d _ _ (hf n h)]
  | .pub n, h, d, r => by
    simp only [nm, List.cons_append]; rw [scan_plain d _ _ (by decide) (by decide) (by decide), scan_dig d _ _ (hf n h)]
  | .shared a b, h, d, r => by
    simp only [nm, List.cons_append, List.append_assoc]
    rw [scan_plain d _ _ (by decide) (by decide) (by decide), scan_dig d _ _ (hf a h.1), scan_plain d _ _ (by decide) (by decide) (by decide), scan_dig d _ _ (hf b h.2)]
  | .chain i x y, h, d, r => by
    simp only [nm, join2, List.cons_append, List.append_assoc, List.nil_append]
    rw [scan_plain d _ _ (by decide) (by decide) (by decide), scan_dig d _ _ (hf i h.1), scan_open, scan_nm hf x h.2.1, scan_comma, scan_nm hf y h.2.2, scan_close]
  | .digest x y, h, d, r => by
    simp only [nm, join2, List.cons_append, List.append_assoc, List.nil_append]
    rw [scan_plain d _ _ (by decide) (by decide) (by decide), scan_open, scan_nm hf x h.1, scan_comma, scan_nm hf y h.2, scan_close]
  | .box k n a t, h, d, r => by
    simp only [nm, join3, List.cons_append, List.append_assoc, List.nil_append]
    rw [scan_plain d _ _ (by decide) (by decide) (by decide), scan_dig d _ _ (hf n h.1), scan_open, scan_nm hf k h.2.1, scan_comma, scan_nm hf a h.2.2.1, scan_comma, scan_nm hf t h.2.2.2, scan_close]

theorem nm_head (hf : ∀ n, R n → Dig (f n)) {x y : Tm} (hx : x.all R) (hy : y.all R) {r s : List UInt8} (h : nm f x ++ 44 :: r = nm f y ++ 44 :: s) : nm f x = nm f y := by
  have h := congrArg (scan 0) h
  rw [scan_nm hf x hx, scan_nm hf y hy, scan_end, scan_end, List.append_nil, List.append_nil] at h
  exact h

theorem dig_head : ∀ {a b r s : List UInt8}, Dig a → Dig b → a ++ 40 :: r = b ++ 40 :: s → a = b
  | [], [], _, _, _, _, _ => rfl
  | [], c :: b, _, _, _, hb, h => by
    simp only [List.nil_append, List.cons_append, List.cons.injEq] at h
    exact absurd h.1.symm (hb c (by simp)).1
  | c :: a, [], _, _, ha, _, h => by
    simp only [List.nil_append, List.cons_append, List.cons.injEq] at h
    exact absurd h.1 (ha c (by simp)).1
  | c :: a, d :: b, r, s, ha, hb, h => by
    simp only [List.cons_append, List.cons.injEq] at h
    rw [h.1, dig_head (fun x hx => ha x (by simp [hx])) (fun x hx => hb x (by simp [hx])) h.2]

theorem apart_cd (i : Int) (x y z v : Tm) : nm f (.chain i x y) ≠ nm f (.digest z v) := by simp [nm]
theorem apart_db (n : Int) (x y z v k : Tm) : nm f (.digest x y) ≠ nm f (.box z n v k) := by simp [nm]
theorem apart_cc (hf : ∀ n, R n → Dig (f n)) {i j : Int} (hi : R i) (hj : R j) (hn : f i ≠ f j) (x y : Tm) : nm f (.chain i x y) ≠ nm f (.chain j x y) := by
  intro h
  simp only [nm, List.cons_append, List.cons.injEq, true_and] at h
  exact hn (dig_head (hf i hi) (hf j hj) h)
theorem apart_bn (hf : ∀ n, R n → Dig (f n)) {i j : Int} (hi : R i) (hj : R j) (hn : f i ≠ f j) (x y z : Tm) : nm f (.box x i y z) ≠ nm f (.box x j y z) := by
  intro h
  simp only [nm, List.cons_append, List.cons.injEq, true_and] at h
  exact hn (dig_head (hf i hi) (hf j hj) h)
theorem apart_bb (hf : ∀ n, R n → Dig (f n)) {x y : Tm} (hx : x.all R) (hy : y.all R) (n : Int) : nm f (.box x n y x) = nm f (.box x n x y) ↔ nm f x = nm f y := by
  constructor
  · intro h
    simp only [nm, join3, List.cons_append, List.append_assoc, List.nil_append, List.cons.injEq, true_and] at h
    have h := List.append_cancel_left h
    simp only [List.cons.injEq, true_and] at h
    have h := List.append_cancel_left h
    simp only [List.cons.injEq, true_and] at h
    exact (nm_head hf hy hx h).symm
  · intro h; simp only [nm, h]
theorem apart_dd (hf : ∀ n, R n → Dig (f n)) {x y : Tm} (hx : x.all R) (hy : y.all R) : nm f (.digest x y) = nm f (.digest y x) ↔ nm f x = nm f y := by
  constructor
  · intro h
    simp only [nm, join2, List.cons_append, List.append_assoc, List.nil_append, List.cons.injEq, true_and] at h
    exact nm_head hf hx hy h
  · intro h; simp only [nm, h]
theorem apart_cx (i : Int) (x y : Tm) : nm f (.chain i x y) ≠ nm f x := by
  intro h
  have h := congrArg List.length h
  simp [nm, join2] at h; omega
theorem apart_dy (x y : Tm) : nm f (.digest x y) ≠ nm f y := by
  intro h
  have h := congrArg List.length h
  simp [nm, join2] at h; omega
end

/-! ### the numbers -/
def Small (n : Int) : Prop := -8192 < n ∧ n < 8192
theorem nd_big (T : Nat → Int) {u : Nat} (h : u < 8192) (h1 : nd T u = 1) : u < 64 := by
  have hq : ∀ a, a < 128 → ∀ b, b < 64 → 1 ≤ a → 2 ≤ Lib.l10 (Lib.bitLen (a * 64 + b)) := by decide +kernel
  rcases Nat.lt_or_ge u 64 with hl | hl
  · exact hl
  · have := hq (u / 64) (by omega) (u % 64) (by omega) (by omega)
    rw [show u / 64 * 64 + u % 64 = u by omega] at this
    unfold nd at h1; omega
theorem dgs_ok (T : Nat → Int) {u : Nat} (h : u < 8192) : ∀ c ∈ dgs T u, 48 ≤ c ∧ c < 256 := by
  have h4 := nd_le T h
  have h1 := nd_big T h
  unfold dgs
  generalize nd T u = n at *
  match n, h4 with
  | 0, _ => simp
  | 1, _ => simp [wrote, zero24]; omega
  | 2, _ => simp [wrote, zero24]; omega
  | 3, _ => simp [wrote, zero24]; omega
  | 4, _ => simp [wrote, zero24]; omega
theorem bt_ok {c : Int} (h : 48 ≤ c ∧ c < 256) : bt c ≠ 40 ∧ bt c ≠ 41 ∧ bt c ≠ 44 := by
  have hb := bt_int (by omega : 0 ≤ c) h.2
  refine ⟨fun e => ?_, fun e => ?_, fun e => ?_⟩ <;> (rw [e] at hb; simp at hb; omega)
theorem dg_dig (T : Nat → Int) {u : Nat} (h : u < 8192) : Dig (dg T u) := by
  intro c hc
  obtain ⟨i, hi, rfl⟩ := List.mem_map.1 hc
  exact bt_ok (dgs_ok T h i hi)
theorem dec_dig : ∀ u, u < 100 → Dig (Lib.decDigits u) := by unfold Dig; decide +kernel
theorem itoaT_dig (T : Nat → Int) (n : Int) (h : Small n) : Dig (itoaT T n) := by
  obtain ⟨h0, h1⟩ := h
  unfold itoaT
  split
  · intro c hc
    rcases List.mem_cons.1 hc with rfl | hc
    · decide
    · exact dg_dig T (by omega) c hc
  · split
    · exact dec_dig _ (by omega)
    · exact dg_dig T (by omega)
theorem dg100 (T : Nat → Int) : dg T 100 = if T 2 ≤ 100 then [49, 48, 48] else [48, 48] := by
  have e : Lib.l10 (Lib.bitLen 100) = 2 := by decide +kernel
  unfold dg dgs nd
  rw [e]
  by_cases h : T 2 ≤ 100
  · simp only [if_pos h, show T 2 ≤ ((100 : Nat) : Int) from h, if_true]; decide +kernel
  · simp only [if_neg h, show ¬ T 2 ≤ ((100 : Nat) : Int) from h, if_false]; decide +kernel
theorem dg101 (T : Nat → Int) : dg T 101 = if T 2 ≤ 101 then [49, 48, 49] else [48, 49] := by
  have e : Lib.l10 (Lib.bitLen 101) = 2 := by decide +kernel
  unfold dg dgs nd
  rw [e]
  by_cases h : T 2 ≤ 101
  · simp only [if_pos h, show T 2 ≤ ((101 : Nat) : Int) from h, if_true]; decide +kernel
  · simp only [if_neg h, show ¬ T 2 ≤ ((101 : Nat) : Int) from h, if_false]; decide +kernel
theorem itoaT_next (T : Nat → Int) (n : Int) (h0 : 0 ≤ n) (h1 : n ≤ 100) : itoaT T n ≠ itoaT T (n + 1) := by
  have h99 : ∀ u, u < 99 → Lib.decDigits u ≠ Lib.decDigits (u + 1) := by decide +kernel
  have hd : Lib.decDigits 99 = [57, 57] := by decide +kernel
  by_cases h : n < 99
  · have e : (n + 1).toNat = n.toNat + 1 := by omega
    simp only [itoaT, if_neg (show ¬ n < 0 by omega), if_pos (show n < 100 by omega), if_neg (show ¬ n + 1 < 0 by omega), if_pos (show n + 1 < 100 by omega), e]
    exact h99 _ (by omega)
  · rcases (show n = 99 ∨ n = 100 by omega) with rfl | rfl
    · simp only [itoaT]
      simp [hd, dg100]; split <;> decide
    · simp only [itoaT]
      simp [dg100, dg101]; split <;> split <;> decide

theorem tAt_all {R : Int → Prop} {ts : List Tm} (h : ∀ t ∈ ts, t.all R) (k : Int) : (tAt ts k).all R := by
  unfold tAt
  rw [List.getD_eq_getElem?_getD]
  cases hk : ts[(k % ts.length).toNat]? with
  | none => simp [Tm.all]
  | some t => exact h t (List.mem_of_getElem? hk)
theorem mkT_all (r : Raw) {ts : List Tm} (h : ∀ t ∈ ts, t.all Small) : (mkT r ts).all Small := by
  have a := tAt_all h r.a; have b := tAt_all h r.b; have c := tAt_all h r.c
  unfold mkT
  repeat' split
  all_goals simp only [Tm.all, a, b, c, and_true]
  all_goals (unfold Small; omega)
theorem stepT_all {p : List Tm × List Int} (h : ∀ t ∈ p.1, t.all Small) (r : Raw) : ∀ t ∈ (stepT p r).1, t.all Small := by
  unfold stepT
  split
  · intro t ht
    rcases List.mem_append.1 ht with ht | ht
    · exact h t ht
    · simp at ht; subst ht; simp [Tm.all]
  · intro t ht
    rcases List.mem_append.1 ht with ht | ht
    · exact h t ht
    · simp at ht; subst ht; exact mkT_all r h
theorem foldT_all : ∀ (l : List Raw) (p : List Tm × List Int), (∀ t ∈ p.1, t.all Small) → ∀ t ∈ (l.foldl stepT p).1, t.all Small
  | [], _, h => h
  | r :: l, _, h => foldT_all l _ (stepT_all h r)
theorem terms_all (l : List Raw) : ∀ t ∈ terms l, t.all Small := foldT_all (l.take 40) ([.empty], [1]) (by simp [Tm.all])

theorem itoa_tab {w : World} {T : Nat → Int} (h : TabAt w T) : Itoa w Small (itoaT T) :=
  ⟨itoaT_len T, fun n hn w' he => itoa_out T n hn.1 hn.2 w' (h.later he)⟩

end Go.Proofs.Ytegmnbcfanjocaa
