/-
  Texts merged: V4, V5.
-/
import Derived.Test.YtjodmedgkmeklaaGreatJ29
/-
  Ops keep the invariant: a side is begun, speaks, a static is leaked, something is made.
-/
namespace Go.Proofs.YtjodmedgkmeklaaGreat
open Go Go.RowKit
variable {f : Int → List UInt8} {P : Int → Prop} {x x2 : Int → Bool} {l l2 : List Sd} {s s2 : Sd} {c d : Nat} {μ : MS}

theorem spoke_iff_I (h : s.first = true) : s.spoke ↔ 1 ≤ s.step := by unfold Sd.spoke; rw [if_pos h]
theorem spoke_iff_R (h : s.first = false) : s.spoke ↔ 2 ≤ s.step := by unfold Sd.spoke; rw [h]; simp
theorem Cn.le3 (h : Cn P c s) : s.step ≤ 3 := by cases h <;> simp [sd0, sdI1, sdR1, sdI2, sdR2, sdI3, sdR3]
theorem Inv.mono (h : Inv f P c μ) (hd : c ≤ d) : Inv f P d μ := ⟨fun s hs => (h.cn s hs).mono hd, h.fr, h.st, h.few, h.stat, h.stl, h.x, h.lk, h.lkn, h.S, h.cl, h.kn, h.ap, h.bx, h.pb, h.bel⟩
/-- A side is begun. -/
theorem Inv.begin (h : Inv f P c μ) (fi : Bool) (st : Int) : Inv f P c (μ.begin fi st).1 := by
  unfold MS.begin
  split
  · rename_i hst
    split
    · exact h
    · rename_i hl
      have hp : Prs μ.sides (μ.sides ++ [newSide fi st (100 + μ.sides.length)]) := ⟨fun s hs => ⟨s, by simp [hs], Prog.refl s⟩, fun s hs => by
        rcases List.mem_append.1 hs with hs | hs
        · exact h.prs.le s hs
        · simp at hs; subst hs; simp [newSide]⟩
      have hin : ∀ {Q : Sd → Prop}, (∀ s ∈ μ.sides, Q s) → Q (newSide fi st (100 + μ.sides.length)) → ∀ s ∈ μ.sides ++ [newSide fi st (100 + μ.sides.length)], Q s := fun h1 h2 s hs => by
        rcases List.mem_append.1 hs with hs | hs
        · exact h1 s hs
        · simp at hs; subst hs; exact h2
      refine ⟨hin h.cn (.s0 _ _ _ _ (.inl rfl)), fun i s hs => ?_, hin h.st hst, by simp; omega, h.stat, h.stl, h.x, h.lk, h.lkn, fun u hu => most_later hp (fun _ h => h) u (h.S u hu), h.cl, h.kn, h.ap, fun t ht hb => (h.bx t ht hb).imp (fun h => h.later hp) id, fun t ht n hn h100 => ?_, hin (fun s hs => (h.bel s hs).later hp (fun _ h => h)) ⟨fun _ h2 => absurd h2 (by simp [newSide]), fun _ h2 => absurd h2 (by simp [newSide]), fun h2 => absurd h2 (by simp [newSide])⟩⟩
      · rcases Nat.lt_trichotomy i μ.sides.length with h1 | h1 | h1
        · rw [List.getElem?_append_left h1] at hs
          exact h.fr i s hs
        · subst h1
          simp at hs
          rw [← hs]; rfl
        · rw [List.getElem?_append_right (by omega)] at hs
          have : i - μ.sides.length ≠ 0 := by omega
          cases hk : i - μ.sides.length with
          | zero => exact absurd hk this
          | succ k => rw [hk] at hs; simp at hs
      · obtain ⟨s, hs, e⟩ := h.pb t ht n hn h100
        exact ⟨s, by simp [hs], e⟩
  · exact h

/-- A side went on. -/
structure Turned (f : Int → List UInt8) (P : Int → Prop) (c : Nat) (μ : MS) (i : Nat) (s s2 : Sd) : Prop where
  at_ : μ.sides[i]? = some s
  prog : Prog s s2
  cn : Cn P c s2
  bel : Prs μ.sides (μ.sides.set i s2) → Bel f μ.x μ.sides s → Bel f μ.x (μ.sides.set i s2) s2
theorem prs_set (h : Inv f P c μ) {i : Nat} (hi : μ.sides[i]? = some s) (hp : Prog s s2) (h3 : s2.step ≤ 3) : Prs μ.sides (μ.sides.set i s2) := by
  obtain ⟨hl, he⟩ := List.getElem?_eq_some_iff.1 hi
  refine ⟨fun r hr => ?_, fun r hr => ?_⟩
  · obtain ⟨j, hj⟩ := List.getElem?_of_mem hr
    by_cases hij : i = j
    · subst hij
      rw [hi] at hj; cases hj
      exact ⟨s2, List.mem_of_getElem? (List.getElem?_set_self hl), hp⟩
    · exact ⟨r, List.mem_of_getElem? ((List.getElem?_set_ne hij).trans hj), Prog.refl r⟩
  · rcases List.mem_or_eq_of_mem_set hr with hr | rfl
    · exact h.prs.le r hr
    · exact h3
theorem Inv.turn (h : Inv f P c μ) {i : Nat} (ht : Turned f P c μ i s s2) : Inv f P c (μ.setSide i s2) := by
  have hp := prs_set h ht.at_ ht.prog ht.cn.le3
  obtain ⟨hl, he⟩ := List.getElem?_eq_some_iff.1 ht.at_
  have hin : ∀ {Q : Sd → Prop}, (∀ s ∈ μ.sides, Q s) → Q s2 → ∀ r ∈ μ.sides.set i s2, Q r := fun h1 h2 r hr => by
    rcases List.mem_or_eq_of_mem_set hr with hr | rfl
    · exact h1 r hr
    · exact h2
  have hs : s ∈ μ.sides := List.mem_of_getElem? ht.at_
  refine ⟨hin h.cn ht.cn, fun j r hr => ?_, hin h.st (by rw [ht.prog.st]; exact h.st s hs), by show (μ.sides.set i s2).length ≤ 12; rw [List.length_set]; exact h.few, h.stat, h.stl, h.x, h.lk, h.lkn, fun u hu => most_later hp (fun _ h => h) u (h.S u hu), h.cl, h.kn, h.ap, fun t ht hb => (h.bx t ht hb).imp (fun h => h.later hp) id, fun t htm n hn h100 => ?_, hin (fun r hr => (h.bel r hr).later hp (fun _ h => h)) (ht.bel hp (h.bel s hs))⟩
  · change (μ.sides.set i s2)[j]? = some r at hr
    by_cases hij : i = j
    · subst hij
      rw [List.getElem?_set_self hl] at hr; cases hr
      rw [ht.prog.fr]; exact h.fr i s ht.at_
    · rw [List.getElem?_set_ne hij] at hr
      exact h.fr j r hr
  · obtain ⟨r, hr, e1, e2⟩ := h.pb t htm n hn h100
    obtain ⟨r2, hr2, hp2⟩ := hp.on r hr
    exact ⟨r2, hr2, hp2.fr.trans e1, hp2.spoke e2⟩

/-! ### a side speaks -/
theorem spoken_prog (h : Cn P c s) (ht : s.turn true = true) : Prog s s.parts.1 ∧ Cn P c s.parts.1 ∧ (s.parts.1.first = s.first ∧ (s.first = false → s.parts.1.step ≤ 2) ∧ s.parts.1.took = s.took ∧ (2 ≤ s.parts.1.step → s.first = true → 2 ≤ s.step) ∧ s.took = []) := by
  unfold Sd.turn at ht
  simp only [Bool.and_eq_true, decide_eq_true_eq] at ht
  obtain ⟨h0, ht⟩ := ht
  cases h with
  | s0 fi st fr stt h =>
    obtain rfl : stt = 0 := h0
    cases fi
    · simp [sd0] at ht
    · rw [parts_I0]
      exact ⟨⟨rfl, rfl, rfl, by simp [sd0, sdI1], fun h => absurd h (by simp [sd0]), fun h => absurd h (by simp [sd0]), fun _ h => absurd h (by simp [sd0]), fun _ h => absurd h (by simp [sd0]), fun h => absurd h (by simp [sd0]), fun h => absurd h (by simp [sd0]), fun h => absurd h (by simp [sd0]), fun h => absurd h (by simp [sd0]), List.prefix_refl _⟩, .i1 _ _ _ (.inl rfl), rfl, by simp [sd0], rfl, by simp [sdI1], rfl⟩
  | i1 st fr stt h => simp [sdI1] at ht
  | r1 st fr stt eI h h1 =>
    obtain rfl : stt = 0 := h0
    rw [parts_R1]
    exact ⟨⟨rfl, rfl, rfl, by simp [sdR1, sdR2], fun _ _ => rfl, fun h => absurd h (by simp [sdR1]), fun _ h => absurd h (by simp [sdR1]), fun _ h => absurd h (by simp [sdR1]), fun h => absurd h (by simp [sdR1]), fun h => absurd h (by simp [sdR1]), fun h => absurd h (by simp [sdR1]), fun h => absurd h (by simp [sdR1]), List.prefix_refl _⟩, .r2 _ _ _ _ (.inl rfl) h1, rfl, by simp [sdR2], rfl, by simp [sdR1], rfl⟩
  | i2 st fr stt eR sR h h1 h2 =>
    obtain rfl : stt = 0 := h0
    rw [parts_I2]
    exact ⟨⟨rfl, rfl, rfl, by simp [sdI2, sdI3], fun h => absurd h (by simp [sdI2]), fun _ => rfl, fun _ _ => rfl, fun _ _ => rfl, fun h => absurd h (by simp [sdI2]), fun _ => rfl, fun h => absurd h (by simp [sdI2]), fun h => absurd h (by simp [sdI2]), List.prefix_refl _⟩, .i3 _ _ _ _ _ _ _ _ h1 h2 (Rows.nil c), rfl, by simp [sdI2], rfl, by simp [sdI2], rfl⟩
  | r2 st fr stt eI h h1 => simp [sdR2] at ht
  | i3 => exact absurd h0 (by simp [sdI3])
  | r3 => exact absurd h0 (by simp [sdR3])
/-- What it says it may. -/
theorem spoken_may (h : Cn P c s) (ht : s.turn true = true) (hf : P s.fresh) (hs : P s.static) (hs6 : s.static < 100) (hm : s.parts.1 ∈ l) : ∀ t ∈ s.parts.2, May f P l t := by
  unfold Sd.turn at ht
  simp only [Bool.and_eq_true, decide_eq_true_eq] at ht
  obtain ⟨h0, ht⟩ := ht
  have hpub : ∀ n, P n → s.parts.1.fresh = n → s.parts.1.spoke → May f P l (.pub n) := fun n hn e1 e2 => ⟨hn, fun hb => (by cases hb), (fun k hk _ => by
    rcases hk with hk | ⟨_, _, _, hk⟩
    · exact ⟨_, hm, e1.trans (Tm.pub.inj hk), e2⟩
    · cases hk), .inl ⟨n, rfl⟩⟩
  have hbx : ∀ t, t.ok P → HBs s.parts.1 t → (∀ n, PubIn t n → n < 100) → May f P l t := fun t h1 h2 h3 => ⟨h1, fun _ => ⟨_, hm, h2⟩, fun n hn h100 => absurd (h3 n hn) (by omega), .inr ⟨_, hm, h2⟩⟩
  cases h with
  | s0 fi st fr stt h =>
    obtain rfl : stt = 0 := h0
    cases fi
    · simp [sd0] at ht
    · rw [parts_I0] at hpub ⊢
      intro t ht
      simp at ht; subst ht
      exact hpub fr hf rfl (by rw [spoke_iff_I rfl]; simp [sdI1])
  | i1 st fr stt h => simp [sdI1] at ht
  | r1 st fr stt eI h h1 =>
    obtain rfl : stt = 0 := h0
    rw [parts_R1] at hpub hbx ⊢
    intro t ht
    simp at ht
    rcases ht with rfl | rfl | rfl
    · exact hpub fr hf rfl (by rw [spoke_iff_R rfl]; simp [sdR2])
    · exact hbx _ (ok_box1 h1 hf hs) (.b1 (s := sdR2 st fr 0 eI) eI rfl (by simp [sdR2]) rfl) (fun n hn => by
        rcases hn with hn | ⟨_, _, _, hn⟩ <;> cases hn
        exact hs6)
    · exact hbx _ (ok_box2 h1 hf hs) (.b2 (s := sdR2 st fr 0 eI) eI rfl (by simp [sdR2]) rfl) (fun n hn => by
        rcases hn with hn | ⟨_, _, _, hn⟩ <;> cases hn)
  | i2 st fr stt eR sR h h1 h2 =>
    obtain rfl : stt = 0 := h0
    rw [parts_I2] at hpub hbx ⊢
    intro t ht
    simp at ht
    rcases ht with rfl | rfl
    · exact hbx _ (ok_box3 hf h1 h2 hs) (.b3 (s := sdI3 st fr eR sR 0 0 [] []) eR sR rfl rfl rfl rfl) (fun n hn => by
        rcases hn with hn | ⟨_, _, _, hn⟩ <;> cases hn
        exact hs6)
    · exact hbx _ (ok_box4 hf h1 h2 hs) (.b4 (s := sdI3 st fr eR sR 0 0 [] []) eR sR rfl rfl rfl rfl) (fun n hn => by
        rcases hn with hn | ⟨_, _, _, hn⟩ <;> cases hn)
  | r2 st fr stt eI h h1 => simp [sdR2] at ht
  | i3 => exact absurd h0 (by simp [sdI3])
  | r3 => exact absurd h0 (by simp [sdR3])
theorem Inv.speak (N : Nums f P) (hP : ∀ n, P1 n → P n) (h : Inv f P c μ) {i : Nat} (hi : μ.sides[i]? = some s) : Inv f P c (μ.speak f P i s).1 := by
  unfold MS.speak
  split
  · exact h
  · split
    · exact h
    · rename_i ht _
      have ht : s.turn true = true := by simpa using ht
      have hs : s ∈ μ.sides := List.mem_of_getElem? hi
      obtain ⟨h1, h2, h3, h4, h5, h6, h7⟩ := spoken_prog (h.cn s hs) ht
      have hT : Inv f P c (μ.setSide i s.parts.1) := h.turn (s := s) ⟨hi, h1, h2, fun hp hb => by
        refine ⟨fun e1 e2 e3 => ?_, fun e1 e2 => ?_, fun e1 e2 e3 => absurd (h5.trans h7) e3⟩
        · have hf : s.first = true := by rw [← h3]; exact e1
          have h2' := h6 e2 hf
          rw [h1.pn hf h2', h1.mid h2'] at *
          exact ((hb.later hp (fun _ h => h)).ai hf h2' e3)
        · have := h4 (by rw [← h3]; exact e1); omega⟩
      show Inv f P c ((μ.sent f P s.parts.2).setSide i s.parts.1)
      rw [setSide_sent]
      have hown := h.own hP
      exact Inv.sends N hP _ hT (spoken_may (h.cn s hs) ht (hown.fr s hs) (hown.st s hs) (by have := h.stat _ (h.st s hs); omega) (List.mem_of_getElem? (List.getElem?_set_self (List.getElem?_eq_some_iff.1 hi).1)))

/-! ### a static is leaked -/
theorem Inv.leak (N : Nums f P) (hP : ∀ n, P1 n → P n) (h : Inv f P c μ) (a : Int) : Inv f P c (μ.leak f P a).1 := by
  unfold MS.leak
  split
  · rename_i ha
    have hx : ∀ n, μ.x n = true → (μ.x n || decide (n = a)) = true := fun n hn => by rw [hn]; rfl
    have hle : ∀ u, μ.S u = true → Clo f P (fun n => μ.x n || decide (n = a)) μ.S u = true := fun u hu => (clo_cl (f := f) (P := P) _ μ.S).le u hu
    have hc : ∀ {y : Tm}, can f μ.x μ.S y = true → can f (fun n => μ.x n || decide (n = a)) (Clo f P (fun n => μ.x n || decide (n = a)) μ.S) y = true := fun {y} hy => can_mono hx hle y hy
    refine ⟨h.cn, h.fr, h.st, h.few, h.stat, h.stl, fun n => ?_, fun n hn => ?_, ?_, fun u hu => ?_, clo_closed _ _, fun y hy => hc (h.kn y hy), h.ap, fun y hy hb => (h.bx y hy hb).imp id (fun ⟨k, n, b, z, e, hk⟩ => ⟨k, n, b, z, e, hc hk⟩), h.pb, fun s hs => (h.bel s hs).later h.prs hx⟩
    · show (μ.x n || decide (n = a)) = true ↔ _
      rw [Bool.or_eq_true, h.x n, decide_eq_true_eq]
      dsimp only
      split
      · rename_i hm
        constructor
        · rintro (h1 | rfl)
          · exact h1
          · exact .inr hm
        · exact .inl
      · rw [List.mem_append, List.mem_singleton, or_assoc]
    · dsimp only at hn
      split at hn
      · exact h.lk n hn
      · rcases List.mem_append.1 hn with hn | hn
        · exact h.lk n hn
        · simp at hn; subst hn; exact ha
    · dsimp only
      split
      · exact h.lkn
      · rename_i hm
        rw [List.nodup_append]
        refine ⟨h.lkn, by simp, fun b hb d hd => ?_⟩
        simp at hd
        rintro rfl
        subst hd
        exact hm hb
    · have hmc : Closed f P (fun n => μ.x n || decide (n = a)) (most f P (fun n => μ.x n || decide (n = a)) μ.sides) := most_closed N (Inv.own (f := f) (μ := μ) hP h)
      exact clo_iff.1 hu _ hmc (fun u hu => most_later h.prs hx u (h.S u hu))
  · exact h

end Go.Proofs.YtjodmedgkmeklaaGreat

/-
  Ops keep the invariant: a side hears, says, takes.
-/
namespace Go.Proofs.YtjodmedgkmeklaaGreat
open Go Go.RowKit
variable {f : Int → List UInt8} {P : Int → Prop} {x x2 : Int → Bool} {l l2 : List Sd} {s s2 r : Sd} {c d : Nat} {μ : MS}

theorem dT_inj {a b a' b' : Int} (h : dT a b = dT a' b') : (a = a' ∧ b = b') ∨ (a = b' ∧ b = a') := by
  unfold dT at h
  obtain ⟨h1, h2⟩ := Tm.shared.inj h
  omega
theorem ck3_inj {a b p q a' b' p' q' : Int} (h : ck3 a b p q = ck3 a' b' p' q') (hn : a ≠ b') : a = a' ∧ b = b' ∧ p = p' ∧ q = q' := by
  simp only [ck3, ck2, ck1, Tm.chain.injEq, true_and] at h
  obtain ⟨⟨h1, h2⟩, h3⟩ := h
  rcases dT_inj h1 with e | e <;> rcases dT_inj h2 with e2 | e2 <;> rcases dT_inj h3 with e3 | e3 <;> omega
theorem hash6_inj {a b p q a' b' p' q' : Int} (h : hash6 a b p q = hash6 a' b' p' q') : a = a' ∧ b = b' ∧ p = p' ∧ q = q' := by
  simp only [hash6, hash5, hash4, hash3, hash2, hash1, box1, box2, box3, box4, Tm.digest.injEq, Tm.box.injEq, Tm.pub.injEq] at h
  simp_all
theorem hash4_inj {a b p a' b' p' : Int} (h : hash4 a b p = hash4 a' b' p') : a = a' ∧ b = b' ∧ p = p' := by
  simp only [hash4, hash3, hash2, hash1, box1, box2, Tm.digest.injEq, Tm.box.injEq, Tm.pub.injEq] at h
  simp_all
theorem hbs_box2 {t : Tm} {eI eR sR : Int} (h : HBs r t) (e : t = box2 eI eR sR) : r.first = false ∧ 2 ≤ r.step ∧ r.theirs = .pub eI ∧ r.fresh = eR ∧ r.static = sR := by
  cases h with
  | b1 a h1 h2 h3 => simp [box1, box2, key1, key2, ck1] at e
  | b2 a h1 h2 h3 =>
    simp only [box2, hash3, hash2, hash1, box1, Tm.box.injEq, Tm.digest.injEq, Tm.pub.injEq] at e
    refine ⟨h1, h2, ?_, ?_, ?_⟩ <;> simp_all
  | b3 a b h1 h2 h3 h4 => simp [box3, box2] at e
  | b4 a b h1 h2 h3 h4 => simp [box4, box2, key3, key2, ck2, ck1] at e
  | b5 j t h1 h2 => simp [box2, hash3] at e
theorem hbs_box4 {t : Tm} {eI eR sR sI : Int} (h : HBs r t) (e : t = box4 eI eR sR sI) : r.first = true ∧ r.step = 3 ∧ r.theirs = .pub eR ∧ r.peer = .pub sR ∧ r.fresh = eI ∧ r.static = sI := by
  cases h with
  | b1 a h1 h2 h3 => simp [box1, box4, key1, key3, ck2] at e
  | b2 a h1 h2 h3 => simp [box2, box4, key2, key3, ck2, ck1] at e
  | b3 a b h1 h2 h3 h4 => simp [box3, box4] at e
  | b4 a b h1 h2 h3 h4 =>
    have e' := e
    unfold box4 at e'
    have e5 := (Tm.box.inj e').2.2.1
    simp only [hash5, hash4, hash3, hash2, hash1, box3, box2, box1, Tm.box.injEq, Tm.digest.injEq, Tm.pub.injEq] at e5
    refine ⟨h1, h2, ?_, ?_, ?_, ?_⟩ <;> simp_all
  | b5 j t h1 h2 => simp [box4, hash5] at e
theorem hbs_said {t k y : Tm} {n : Int} (h : HBs r t) (e : t = .box k n .empty y) : r.step = 3 ∧ r.keys.1 = k ∧ ∃ j : Nat, (j : Int) = n ∧ r.said[j]? = some y := by
  cases h with
  | b1 a h1 h2 h3 => simp [box1, hash2] at e
  | b2 a h1 h2 h3 => simp [box2, hash3] at e
  | b3 a b h1 h2 h3 h4 => simp [box3, hash4] at e
  | b4 a b h1 h2 h3 h4 => simp [box4, hash5] at e
  | b5 j t h1 h2 =>
    obtain ⟨e1, e2, _, e3⟩ := Tm.box.inj e
    exact ⟨h1, e1, j, e2, e3 ▸ h2⟩
theorem Cn.midR (h : Cn P c r) (h1 : r.first = false) (h2 : 2 ≤ r.step) {eI : Int} (h3 : r.theirs = .pub eI) : r.mid = hash4 eI r.fresh r.static := by
  cases h with
  | r2 => cases h3; rfl
  | r3 => cases h3; rfl
  | s0 => exact absurd h2 (by simp [sd0])
  | r1 => exact absurd h2 (by simp [sdR1])
  | i1 => cases h1
  | i2 => cases h1
  | i3 => cases h1
theorem Cn.hashI (h : Cn P c r) (h1 : r.first = true) (h2 : r.step = 3) {eR sR : Int} (h3 : r.theirs = .pub eR) (h4 : r.peer = .pub sR) : r.hash = hash6 r.fresh eR sR r.static := by
  cases h with
  | i3 => cases h3; cases h4; rfl
  | s0 => exact absurd h2 (by simp [sd0])
  | i1 => exact absurd h2 (by simp [sdI1])
  | i2 => exact absurd h2 (by simp [sdI2])
  | r1 => cases h1
  | r2 => cases h1
  | r3 => cases h1
/-- Sides differ in their fresh secrets. -/
theorem Inv.same (h : Inv f P c μ) {a b : Sd} (ha : a ∈ μ.sides) (hb : b ∈ μ.sides) (e : a.fresh = b.fresh) : a = b := by
  obtain ⟨i, hi⟩ := List.getElem?_of_mem ha
  obtain ⟨j, hj⟩ := List.getElem?_of_mem hb
  have h1 := h.fr i a hi
  have h2 := h.fr j b hj
  obtain rfl : i = j := by omega
  rw [hi] at hj
  exact Option.some.inj hj
/-- A key that is known, is made of secrets that are. -/
theorem Inv.bare (N : Nums f P) (hP : ∀ n, P1 n → P n) (h : Inv f P c μ) {k : Tm} (hk : k.ok P) (hs : k.stiff = true) (hc : can f μ.x μ.S k = true) : bare f μ.x k = true := by
  have h1 := can_mono (fun _ h => h) h.S k hc
  rwa [can_bare N (h.own hP).texts hk hs] at h1
theorem Inv.fr100 (h : Inv f P c μ) (hs : s ∈ μ.sides) : 100 ≤ s.fresh := by
  obtain ⟨i, hi⟩ := List.getElem?_of_mem hs
  have := h.fr i s hi
  omega
theorem Cn.broken (h : Cn P c s) (h3 : s.step ≤ 2) : Cn P c { s with state := 2 } := by
  cases h with
  | s0 fi st fr stt h => exact .s0 _ _ _ 2 (.inr rfl)
  | i1 st fr stt h => exact .i1 _ _ 2 (.inr rfl)
  | r1 st fr stt eI h h1 => exact .r1 _ _ 2 _ (.inr rfl) h1
  | i2 st fr stt eR sR h h1 h2 => exact .i2 _ _ 2 _ _ (.inr rfl) h1 h2
  | r2 st fr stt eI h h1 => exact .r2 _ _ 2 _ (.inr rfl) h1
  | i3 => exact absurd h3 (by simp [sdI3])
  | r3 => exact absurd h3 (by simp [sdR3])
theorem turn_hear (h : Cn P c s) (ht : s.turn false = true) (hc : s.step ≤ 3) : s.state = 0 ∧ s.step ≤ 2 := by
  unfold Sd.turn at ht
  simp only [Bool.and_eq_true, decide_eq_true_eq] at ht
  refine ⟨ht.1, ?_⟩
  have h0 := ht.1
  cases h <;> first | simp [sd0, sdI1, sdR1, sdI2, sdR2]; done | (exact absurd h0 (by simp [sdI3, sdR3]))
/-- Places of the pool. -/
theorem places_ok (_ : PoolOk f P μ) {ks : List Int} (hn : Tm.non ∉ ks.map μ.place) : ∀ t ∈ ks.map μ.place, t ∈ μ.pool := fun t ht => by
  obtain ⟨k, _, rfl⟩ := List.mem_map.1 ht
  exact place_mem (fun e => hn (e ▸ ht))
theorem heard_turn (N : Nums f P) (hP : ∀ n, P1 n → P n) (h : Inv f P c μ) (hp : PoolOk f P μ) {i : Nat} (hi : μ.sides[i]? = some s) (ht : s.turn false = true) {ts : List Tm} (hts : ∀ t ∈ ts, t ∈ μ.pool) (hh : s.hears f ts = some s2) : Turned f P c μ i s s2 := by
  have hs : s ∈ μ.sides := List.mem_of_getElem? hi
  have hcn := h.cn s hs
  have hok : ∀ t ∈ ts, t.ok P := fun t h5 => (hp.fine t (hts t h5)).1
  have hown := h.own hP
  have hf := hown.fr s hs
  have hst := hown.st s hs
  have hno := h.noX (n := s.fresh) (by have := h.fr100 hs; omega)
  unfold Sd.turn at ht
  simp only [Bool.and_eq_true, decide_eq_true_eq] at ht
  obtain ⟨h0, ht⟩ := ht
  cases hcn with
  | s0 fi st fr stt _ =>
    obtain rfl : stt = 0 := h0
    cases fi
    · obtain ⟨eI, rfl, rfl⟩ := hears_R0 hh
      have he : P eI := hok (.pub eI) (by simp)
      exact ⟨hi, ⟨rfl, rfl, rfl, by simp [sd0, sdR1], fun _ h => absurd h (by simp [sd0]), fun h => absurd h (by simp [sd0]), fun _ h => absurd h (by simp [sd0]), fun _ h => absurd h (by simp [sd0]), fun h => absurd h (by simp [sd0]), fun h => absurd h (by simp [sd0]), fun h => absurd h (by simp [sd0]), fun h => absurd h (by simp [sd0]), List.prefix_refl _⟩, .r1 _ _ _ _ (.inl rfl) he, fun _ _ => ⟨fun h => absurd h (by simp [sdR1]), fun _ h => absurd h (by simp [sdR1]), fun h => absurd h (by simp [sdR1])⟩⟩
    · simp [sd0] at ht
  | i1 st fr stt _ =>
    obtain rfl : stt = 0 := h0
    obtain ⟨eR, sR, hR, hsR, rfl, rfl⟩ := hears_I1 N (show P fr from hf) hok hh
    refine ⟨hi, ⟨rfl, rfl, rfl, by simp [sdI1, sdI2], fun h => absurd h (by simp [sdI1]), fun h => absurd h (by simp [sdI1]), fun _ h => absurd h (by simp [sdI1]), fun _ h => absurd h (by simp [sdI1]), fun h => absurd h (by simp [sdI1]), fun h => absurd h (by simp [sdI1]), fun h => absurd h (by simp [sdI1]), fun h => absurd h (by simp [sdI1]), List.prefix_refl _⟩, .i2 _ _ _ _ _ (.inl rfl) hR hsR, fun hl _ => ⟨fun _ _ hx => ?_, fun h => absurd h (by simp [sdI2]), fun h => absurd h (by simp [sdI2])⟩⟩
    have hm := hts (box2 fr eR sR) (by simp)
    rcases h.bx _ hm rfl with ⟨r, hr, hb⟩ | ⟨k, n, a, y, e, hk⟩
    · obtain ⟨e1, e2, e3, e4, e5⟩ := hbs_box2 hb rfl
      obtain ⟨r2, hr2, hpr⟩ := hl.on r hr
      refine ⟨r2, hr2, hpr.fi.trans e1, hpr.st.trans e5, Int.le_trans e2 hpr.step, (hpr.mid e2).trans ?_⟩
      rw [(h.cn r hr).midR e1 e2 e3, e4, e5]
      rfl
    · obtain ⟨rfl, _⟩ := Tm.box.inj e
      have h5 := h.bare N hP (ok_key2 (show P fr from hf) hR hsR) rfl hk
      rw [bare_key2] at h5
      have hx' : μ.x sR = false := hx
      have hn' : μ.x fr = false := hno
      simp [sh, hx', hn'] at h5
  | r1 st fr stt eI _ h1 => simp [sdR1] at ht
  | i2 st fr stt eR sR _ h1 h2 => simp [sdI2] at ht
  | r2 st fr stt eI _ h1 =>
    obtain rfl : stt = 0 := h0
    obtain ⟨sI, hsI, rfl, rfl⟩ := hears_R2 N (show P fr from hf) (show P st from hst) h1 hok hh
    refine ⟨hi, ⟨rfl, rfl, rfl, by simp [sdR2, sdR3], fun _ _ => rfl, fun _ => rfl, fun h => absurd h (by simp [sdR2]), fun h => absurd h (by simp [sdR2]), fun h => absurd h (by simp [sdR2]), fun _ => rfl, fun h => absurd h (by simp [sdR2]), fun h => absurd h (by simp [sdR2]), List.prefix_refl _⟩, .r3 _ _ _ _ _ _ _ _ h1 hsI (Rows.nil c), fun hl _ => ⟨fun h => absurd h (by simp [sdR3]), fun _ _ hx => ?_, fun _ _ h => absurd rfl h⟩⟩
    have hm := hts (box4 eI fr st sI) (by simp)
    rcases h.bx _ hm rfl with ⟨r, hr, hb⟩ | ⟨k, n, a, y, e, hk⟩
    · obtain ⟨e1, e2, e3, e4, e5, e6⟩ := hbs_box4 hb rfl
      obtain ⟨r2, hr2, hpr⟩ := hl.on r hr
      have := hl.le r2 hr2
      have := hpr.step
      refine ⟨r2, hr2, hpr.fi.trans e1, hpr.st.trans e6, by omega, (hpr.hash e2).trans ?_⟩
      rw [(h.cn r hr).hashI e1 e2 e3 e4, e5, e6]
      rfl
    · obtain ⟨rfl, _⟩ := Tm.box.inj e
      have h5 := h.bare N hP (ok_key3 h1 (show P fr from hf) (show P st from hst) hsI) rfl hk
      rw [bare_key3] at h5
      have hx' : μ.x sI = false := hx
      have hn' : μ.x fr = false := hno
      simp [sh, hx', hn'] at h5
  | i3 => exact absurd h0 (by simp [sdI3])
  | r3 => exact absurd h0 (by simp [sdR3])
theorem broken_turn (h : Inv f P c μ) {i : Nat} (hi : μ.sides[i]? = some s) (h2 : s.step ≤ 2) : Turned f P c μ i s { s with state := 2 } := by
  have hs : s ∈ μ.sides := List.mem_of_getElem? hi
  refine ⟨hi, ⟨rfl, rfl, rfl, Int.le_refl _, fun _ _ => rfl, fun _ => rfl, fun _ _ => rfl, fun _ _ => rfl, fun _ => rfl, fun _ => rfl, fun _ => rfl, fun _ => rfl, List.prefix_refl _⟩, (h.cn s hs).broken h2, fun hp hb => ?_⟩
  have hb2 := hb.later hp (fun _ h => h)
  exact ⟨hb2.ai, hb2.ar, hb2.tk⟩
theorem Inv.hear (N : Nums f P) (hP : ∀ n, P1 n → P n) (h : Inv f P c μ) (hp : PoolOk f P μ) {i : Nat} (hi : μ.sides[i]? = some s) (a b : Int) : Inv f P c (μ.hear f i s a b).1 := by
  have hs : s ∈ μ.sides := List.mem_of_getElem? hi
  rw [hear_eq]
  split
  · exact h
  · rename_i ht
    have ht : s.turn false = true := by simpa using ht
    split
    · exact h
    · rename_i hn
      unfold heardT
      split
      · rename_i s2 hh
        exact h.turn (heard_turn N hP h hp hi ht (places_ok hp hn) hh)
      · exact h.turn (broken_turn h hi (turn_hear (h.cn s hs) ht (h.cn s hs).le3).2)

/-! ### a finished side says, takes -/
theorem fin_cases (h : Cn P c s) (h1 : s.state = 1) :
    (∃ st fr eR sR sent got said took, P eR ∧ P sR ∧ Rows c sent got said took ∧ s = sdI3 st fr eR sR sent got said took) ∨ (∃ st fr eI sI sent got said took, P eI ∧ P sI ∧ Rows c sent got said took ∧ s = sdR3 st fr eI sI sent got said took) := by
  cases h with
  | s0 fi st fr stt h => rcases h with h | h <;> simp [sd0, h] at h1
  | i1 st fr stt h => rcases h with h | h <;> simp [sdI1, h] at h1
  | r1 st fr stt eI h _ => rcases h with h | h <;> simp [sdR1, h] at h1
  | i2 st fr stt eR sR h _ _ => rcases h with h | h <;> simp [sdI2, h] at h1
  | r2 st fr stt eI h _ => rcases h with h | h <;> simp [sdR2, h] at h1
  | i3 st fr eR sR sent got said took p1 p2 hr => exact .inl ⟨_, _, _, _, _, _, _, _, p1, p2, hr, rfl⟩
  | r3 st fr eI sI sent got said took p1 p2 hr => exact .inr ⟨_, _, _, _, _, _, _, _, p1, p2, hr, rfl⟩
theorem fin_step (h : Cn P c s) (h1 : s.state = 1) : s.step = 3 ∧ s.sent = s.said.length ∧ s.got = s.took.length ∧ s.said.length ≤ c := by
  rcases fin_cases h h1 with ⟨_, _, _, _, _, _, _, _, _, _, hr, rfl⟩ | ⟨_, _, _, _, _, _, _, _, _, _, hr, rfl⟩ <;> exact ⟨rfl, hr.sent, hr.got, hr.fewS⟩
theorem step_fin (h : Cn P c s) (h3 : s.step = 3) : s.state = 1 := by
  cases h with
  | s0 => exact absurd h3 (by simp [sd0])
  | i1 => exact absurd h3 (by simp [sdI1])
  | r1 => exact absurd h3 (by simp [sdR1])
  | i2 => exact absurd h3 (by simp [sdI2])
  | r2 => exact absurd h3 (by simp [sdR2])
  | i3 => rfl
  | r3 => rfl
theorem Rows.say {c : Nat} {sent got : Int} {said took : List Tm} (h : Rows c sent got said took) (n : Int) : Rows (c + 1) (sent + 1) got (said ++ [textOf n]) took :=
  ⟨by have := h.sent; simp; omega, h.got, by have := h.fewS; simp; omega, fun t ht => by
    rcases List.mem_append.1 ht with ht | ht
    · exact h.texts t ht
    · simp at ht; exact ⟨n, ht⟩⟩
theorem Rows.take {c : Nat} {sent got : Int} {said took : List Tm} (h : Rows c sent got said took) (y : Tm) : Rows c sent (got + 1) said (took ++ [y]) :=
  ⟨h.sent, by have := h.got; simp; omega, h.fewS, h.texts⟩
theorem cn_say (h : Cn P c s) (h1 : s.state = 1) (n : Int) : Cn P (c + 1) { s with sent := s.sent + 1, said := s.said ++ [textOf n] } := by
  rcases fin_cases h h1 with ⟨_, _, _, _, _, _, _, _, p1, p2, hr, rfl⟩ | ⟨_, _, _, _, _, _, _, _, p1, p2, hr, rfl⟩
  · exact .i3 _ _ _ _ _ _ _ _ p1 p2 (hr.say n)
  · exact .r3 _ _ _ _ _ _ _ _ p1 p2 (hr.say n)
theorem cn_take (h : Cn P c s) (h1 : s.state = 1) (y : Tm) : Cn P c { s with got := s.got + 1, took := s.took ++ [y] } := by
  rcases fin_cases h h1 with ⟨_, _, _, _, _, _, _, _, p1, p2, hr, rfl⟩ | ⟨_, _, _, _, _, _, _, _, p1, p2, hr, rfl⟩
  · exact .i3 _ _ _ _ _ _ _ _ p1 p2 (hr.take y)
  · exact .r3 _ _ _ _ _ _ _ _ p1 p2 (hr.take y)
theorem Inv.say (N : Nums f P) (hP : ∀ n, P1 n → P n) (h : Inv f P c μ) (hc : c ≤ 98) {i : Nat} (hi : μ.sides[i]? = some s) (n : Int) : Inv f P (c + 1) (μ.say f P i s n).1 := by
  have hs : s ∈ μ.sides := List.mem_of_getElem? hi
  unfold MS.say
  split
  · exact h.mono (by omega)
  · split
    · exact h.mono (by omega)
    · rename_i h1 _
      have h1 : s.state = 1 := by simpa using h1
      have hcn := h.cn s hs
      obtain ⟨h3, hse, _, hle⟩ := fin_step hcn h1
      have hT : Inv f P (c + 1) (μ.setSide i { s with sent := s.sent + 1, said := s.said ++ [textOf n] }) := (h.mono (by omega : c ≤ c + 1)).turn ⟨hi, ⟨rfl, rfl, rfl, Int.le_refl _, fun _ _ => rfl, fun _ => rfl, fun _ _ => rfl, fun _ _ => rfl, fun _ => rfl, fun _ => rfl, fun _ => rfl, fun _ => rfl, List.prefix_append _ _⟩, cn_say hcn h1 n, fun hp hb => by
        have hb2 := hb.later hp (fun _ h => h)
        exact ⟨hb2.ai, hb2.ar, hb2.tk⟩⟩
      have hown := h.own hP
      have hks := (keys_stiff (hcn.chain3 h3 (hown.fr s hs) (hown.st s hs))).1
      show Inv f P (c + 1) ((μ.sent f P _).setSide i _)
      rw [setSide_sent]
      have hb : HB (μ.setSide i { s with sent := s.sent + 1, said := s.said ++ [textOf n] }).sides (.box s.keys.1 s.sent .empty (textOf n)) := by
        refine ⟨_, List.mem_of_getElem? (List.getElem?_set_self (List.getElem?_eq_some_iff.1 hi).1), ?_⟩
        rw [hse]
        exact .b5 (s := { s with sent := s.said.length + 1, said := s.said ++ [textOf n] }) s.said.length (textOf n) h3 (by simp)
      refine Inv.sends N hP _ hT (fun t ht => ?_)
      simp at ht; subst ht
      exact ⟨⟨by unfold P0; omega, hks.1, trivial, text_ok n⟩, fun _ => hb, (fun m hm _ => by
        rcases hm with hm | ⟨_, _, _, hm⟩ <;> cases hm), .inr hb⟩
theorem prefix_snoc {α : Type} {l m : List α} {y : α} (h : l <+: m) (hy : m[l.length]? = some y) : l ++ [y] <+: m := by
  obtain ⟨r, rfl⟩ := h
  rw [List.getElem?_append_right (Nat.le_refl _), Nat.sub_self] at hy
  cases r with
  | nil => cases hy
  | cons a r =>
    simp at hy
    subst hy
    exact ⟨r, by simp⟩
/-- Whose box a finished side takes. -/
theorem Inv.whose (h : Inv f P c μ) (hs : s ∈ μ.sides) (h3 : s.step = 3) (hr : r ∈ μ.sides) (hr3 : r.step = 3) (hk : r.keys.1 = s.keys.2) :
    r.first ≠ s.first ∧ r.static = s.peerN ∧ r.hash = s.hash := by
  have hcn := h.cn s hs
  have hcr := h.cn r hr
  have hf : r.first ≠ s.first ∧ r.chain = s.chain := by
    unfold Sd.keys at hk
    cases h1 : r.first <;> cases h2 : s.first <;> simp [h1, h2] at hk ⊢
    · exact hk
    · exact hk
  refine ⟨hf.1, ?_⟩
  have hdiff : s.fresh ≠ r.fresh := fun e => hf.1 (by rw [h.same hs hr e])
  rcases fin_cases hcn (step_fin hcn h3) with ⟨_, _, _, _, _, _, _, _, _, _, _, rfl⟩ | ⟨_, _, _, _, _, _, _, _, _, _, _, rfl⟩ <;>
    rcases fin_cases hcr (step_fin hcr hr3) with ⟨_, _, _, _, _, _, _, _, _, _, _, rfl⟩ | ⟨_, _, _, _, _, _, _, _, _, _, _, rfl⟩
  · exact absurd rfl hf.1
  · obtain ⟨rfl, rfl, rfl, rfl⟩ := ck3_inj hf.2.symm hdiff
    exact ⟨rfl, rfl⟩
  · obtain ⟨rfl, rfl, rfl, rfl⟩ := ck3_inj hf.2 hdiff.symm
    exact ⟨rfl, rfl⟩
  · exact absurd rfl hf.1
theorem Inv.only (h : Inv f P c μ) {q : Sd} (hr : r ∈ μ.sides) (hr3 : r.step = 3) (hq : q ∈ μ.sides) (hq3 : q.step = 3) (hf : q.first = r.first) (hh : q.hash = r.hash) : q = r := by
  have hcr := h.cn r hr
  have hcq := h.cn q hq
  refine h.same hq hr ?_
  rcases fin_cases hcr (step_fin hcr hr3) with ⟨_, _, _, _, _, _, _, _, _, _, _, rfl⟩ | ⟨_, _, _, _, _, _, _, _, _, _, _, rfl⟩ <;>
    rcases fin_cases hcq (step_fin hcq hq3) with ⟨_, _, _, _, _, _, _, _, _, _, _, rfl⟩ | ⟨_, _, _, _, _, _, _, _, _, _, _, rfl⟩
  · exact (hash6_inj hh).1
  · cases hf
  · cases hf
  · exact (hash6_inj hh).2.1
theorem taken_turn (N : Nums f P) (hP : ∀ n, P1 n → P n) (h : Inv f P c μ) (hp : PoolOk f P μ) {i : Nat} (hi : μ.sides[i]? = some s) (h1 : s.state = 1) {kk a y : Tm} {n : Int} (hm : Tm.box kk n a y ∈ μ.pool) (hk : nm f kk = nm f s.keys.2) (hn : n = s.got) (ha : nm f a = nm f .empty) :
    Turned f P c μ i s { s with got := s.got + 1, took := s.took ++ [y] } := by
  have hs : s ∈ μ.sides := List.mem_of_getElem? hi
  have hcn := h.cn s hs
  obtain ⟨h3, _, hgo, _⟩ := fin_step hcn h1
  have hown := h.own hP
  have hch := hcn.chain3 h3 (hown.fr s hs) (hown.st s hs)
  have hks := (keys_stiff hch).2
  have hok := (hp.fine _ hm).1
  have hdry : ∀ t : Tm, t.stiff = true → t.dry = true := by
    intro t
    induction t with
    | chain i a b ih1 ih2 => intro h; simp only [Tm.stiff, Bool.and_eq_true] at h; simp [Tm.dry, ih1 h.1, ih2 h.2]
    | empty => intro _; rfl
    | shared => intro _; rfl
    | _ => intro h; cases h
  obtain rfl : kk = s.keys.2 := nm_dry N _ hok.2.1 hks.1 (hdry _ hks.2) hk
  obtain rfl : a = .empty := nm_dry N .empty hok.2.2.1 trivial rfl ha
  refine ⟨hi, ⟨rfl, rfl, rfl, Int.le_refl _, fun _ _ => rfl, fun _ => rfl, fun _ _ => rfl, fun _ _ => rfl, fun _ => rfl, fun _ => rfl, fun _ => rfl, fun _ => rfl, List.prefix_refl _⟩, cn_take hcn h1 y, fun hl hb => ?_⟩
  have hb2 := hb.later hl (fun _ h => h)
  refine ⟨hb2.ai, hb2.ar, fun _ hbare _ => ?_⟩
  have hbare : bare f μ.x s.chain = false := hbare
  rcases h.bx _ hm rfl with ⟨r, hr, hbx⟩ | ⟨k, m, a, z, e, hk⟩
  · obtain ⟨hr3, hrk, j, hj, hsj⟩ := hbs_said hbx rfl
    obtain ⟨w1, w2, w3⟩ := h.whose hs h3 hr hr3 hrk
    have hpre : s.took <+: r.said := by
      by_cases hne : s.took = []
      · rw [hne]; exact List.nil_prefix
      · obtain ⟨q, hq, e1, e2, e3, e4, e5⟩ := hb.tk h3 hbare hne
        have hqr : q = r := h.only hr hr3 hq e3 (by
          cases h5 : q.first <;> cases h6 : r.first <;> cases h7 : s.first <;> simp_all) (e4.trans w3.symm)
        rw [← hqr]; exact e5
    have hsn := prefix_snoc hpre (y := y) (by
      have : j = s.took.length := by omega
      rw [← this]; exact hsj)
    obtain ⟨r2, hr2, hpr⟩ := hl.on r hr
    have := hl.le r2 hr2
    have := hpr.step
    exact ⟨r2, hr2, by rw [hpr.fi]; exact w1, hpr.st.trans w2, by omega, (hpr.hash hr3).trans w3, hsn.trans hpr.said⟩
  · obtain ⟨rfl, _⟩ := Tm.box.inj e
    have h5 := h.bare N hP hks.1 hks.2 hk
    rw [(bare_keys s).2, hbare] at h5
    cases h5
theorem Inv.take (N : Nums f P) (hP : ∀ n, P1 n → P n) (h : Inv f P c μ) (hp : PoolOk f P μ) {i : Nat} (hi : μ.sides[i]? = some s) (k : Int) : Inv f P c (μ.take f i s k).1 := by
  have hs : s ∈ μ.sides := List.mem_of_getElem? hi
  have hmono : Inv f P c μ := h
  rw [take_eq]
  split
  · exact hmono
  · rename_i h1
    have h1 : s.state = 1 := by simpa using h1
    unfold takeT
    split
    · exact hmono
    · rename_i kk n a y he
      split
      · rename_i hc
        have hm : Tm.box kk n a y ∈ μ.pool := by rw [← he]; exact place_mem (by rw [he]; simp)
        exact hmono.turn (taken_turn N hP h hp hi h1 hm hc.1 hc.2.1 hc.2.2)
      · exact hmono
    · exact hmono

end Go.Proofs.YtjodmedgkmeklaaGreat
