/-
  Texts merged: V1, V2, V3.
-/
import Derived.Test.YtjodmedgkmeklaaGreatJ28
/-
  Sides that honest handshakes lead to: their bounds.
-/
namespace Go.Proofs.YtjodmedgkmeklaaGreat
open Go Go.RowKit
variable {f : Int → List UInt8} {P : Int → Prop}

/-- Secrets that may stand anywhere. -/
def P1 (n : Int) : Prop := (1 ≤ n ∧ n < 60 ∧ n ≠ 10 ∧ n ≠ 11) ∨ (100 ≤ n ∧ n < 112)
theorem P1.small {n : Int} (h : P1 n) : Small n := by unfold P1 at h; unfold Small; omega

/-- What a side says and takes, counted. -/
structure Rows (c : Nat) (sent got : Int) (said took : List Tm) : Prop where
  sent : sent = said.length
  got : got = took.length
  fewS : said.length ≤ c
  texts : ∀ t ∈ said, ∃ n, t = textOf n
theorem Rows.nil (c : Nat) : Rows c 0 0 [] [] := ⟨rfl, rfl, by simp, fun t h => by cases h⟩
theorem Rows.mono {c d : Nat} {sent got : Int} {said took : List Tm} (h : Rows c sent got said took) (hd : c ≤ d) : Rows d sent got said took :=
  ⟨h.sent, h.got, Nat.le_trans h.fewS hd, h.texts⟩
/-- A side as an honest handshake has it. -/
inductive Cn (P : Int → Prop) (c : Nat) : Sd → Prop where
  | s0 (fi : Bool) (st fr stt : Int) (h : stt = 0 ∨ stt = 2) : Cn P c (sd0 fi st fr stt)
  | i1 (st fr stt : Int) (h : stt = 0 ∨ stt = 2) : Cn P c (sdI1 st fr stt)
  | r1 (st fr stt eI : Int) (h : stt = 0 ∨ stt = 2) (h1 : P eI) : Cn P c (sdR1 st fr stt eI)
  | i2 (st fr stt eR sR : Int) (h : stt = 0 ∨ stt = 2) (h1 : P eR) (h2 : P sR) : Cn P c (sdI2 st fr stt eR sR)
  | r2 (st fr stt eI : Int) (h : stt = 0 ∨ stt = 2) (h1 : P eI) : Cn P c (sdR2 st fr stt eI)
  | i3 (st fr eR sR sent got : Int) (said took : List Tm) (h1 : P eR) (h2 : P sR) (hr : Rows c sent got said took) : Cn P c (sdI3 st fr eR sR sent got said took)
  | r3 (st fr eI sI sent got : Int) (said took : List Tm) (h1 : P eI) (h2 : P sI) (hr : Rows c sent got said took) : Cn P c (sdR3 st fr eI sI sent got said took)
theorem Cn.mono {c d : Nat} {s : Sd} (h : Cn P c s) (hd : c ≤ d) : Cn P d s := by
  cases h with
  | s0 fi st fr stt h => exact .s0 _ _ _ _ h
  | i1 st fr stt h => exact .i1 _ _ _ h
  | r1 st fr stt eI h h1 => exact .r1 _ _ _ _ h h1
  | i2 st fr stt eR sR h h1 h2 => exact .i2 _ _ _ _ _ h h1 h2
  | r2 st fr stt eI h h1 => exact .r2 _ _ _ _ h h1
  | i3 st fr eR sR sent got said took h1 h2 hr => exact .i3 _ _ _ _ _ _ _ _ h1 h2 (hr.mono hd)
  | r3 st fr eI sI sent got said took h1 h2 hr => exact .r3 _ _ _ _ _ _ _ _ h1 h2 (hr.mono hd)

/-! ### sizes -/
section
variable (eI eR sR sI : Int)
theorem sz_dT (a b : Int) : sz (dT a b) = 1 := rfl
theorem sz_hash1 : sz (hash1 eI) = 7 := rfl
theorem sz_ck1 : sz (ck1 eI eR) = 3 := rfl
theorem sz_key1 : sz (key1 eI eR) = 3 := rfl
theorem sz_hash2 : sz (hash2 eI eR) = 9 := rfl
theorem sz_box1 : sz (box1 eI eR sR) = 14 := rfl
theorem sz_hash3 : sz (hash3 eI eR sR) = 24 := rfl
theorem sz_ck2 : sz (ck2 eI eR sR) = 5 := rfl
theorem sz_key2 : sz (key2 eI eR sR) = 5 := rfl
theorem sz_box2 : sz (box2 eI eR sR) = 31 := rfl
theorem sz_hash4 : sz (hash4 eI eR sR) = 56 := rfl
theorem sz_box3 : sz (box3 eI eR sR sI) = 63 := rfl
theorem sz_hash5 : sz (hash5 eI eR sR sI) = 120 := rfl
theorem sz_ck3 : sz (ck3 eI eR sR sI) = 7 := rfl
theorem sz_key3 : sz (key3 eI eR sR sI) = 7 := rfl
theorem sz_box4 : sz (box4 eI eR sR sI) = 129 := rfl
theorem sz_hash6 : sz (hash6 eI eR sR sI) = 250 := rfl
theorem sz_keyI : sz (keyI eI eR sR sI) = 9 := rfl
theorem sz_keyR : sz (keyR eI eR sR sI) = 9 := rfl
end
theorem all_of (hP : ∀ n, P n → Small n) {t : Tm} (h : t.ok P) : t.all Small := h.all hP
theorem hon_pub {n : Int} (h : P n) : Hon P (.pub n) := ⟨h, by simp [sz], fun k n a x e => by cases e⟩
section
variable {eI eR sR sI : Int}
theorem hon_box1 (h1 : P eI) (h2 : P eR) (h3 : P sR) : Hon P (box1 eI eR sR) := ⟨ok_box1 h1 h2 h3, by rw [sz_box1]; omega, fun k n a x e => by cases e; exact ⟨rfl, rfl⟩⟩
theorem hon_box2 (h1 : P eI) (h2 : P eR) (h3 : P sR) : Hon P (box2 eI eR sR) := ⟨ok_box2 h1 h2 h3, by rw [sz_box2]; omega, fun k n a x e => by cases e; exact ⟨rfl, rfl⟩⟩
theorem hon_box3 (h1 : P eI) (h2 : P eR) (h3 : P sR) (h4 : P sI) : Hon P (box3 eI eR sR sI) := ⟨ok_box3 h1 h2 h3 h4, by rw [sz_box3]; omega, fun k n a x e => by cases e; exact ⟨rfl, rfl⟩⟩
theorem hon_box4 (h1 : P eI) (h2 : P eR) (h3 : P sR) (h4 : P sI) : Hon P (box4 eI eR sR sI) := ⟨ok_box4 h1 h2 h3 h4, by rw [sz_box4]; omega, fun k n a x e => by cases e; exact ⟨rfl, rfl⟩⟩
end
theorem text_ok (n : Int) : (textOf n).ok P := by
  show Small _
  unfold Small; omega
theorem hon_say {k : Tm} (hk : k.ok P) (hs : sz k ≤ 1000) {j : Int} (hj : 0 ≤ j ∧ j < 100) (n : Int) : Hon P (.box k j .empty (textOf n)) :=
  ⟨⟨hj, hk, trivial, text_ok n⟩, by simp only [sz, textOf]; omega, fun k n a x e => by cases e; exact ⟨rfl, rfl⟩⟩

/-- Such a side may do whatever comes. -/
theorem Cn.fit (hP : ∀ n, P n → Small n) {c : Nat} {s : Sd} (h : Cn P c s) (hc : c ≤ 98) (ht : s.took.length ≤ 900) (hf : P s.fresh) (hs : P s.static) : Fit P s := by
  have z0 : Small 0 := by unfold Small; omega
  cases h with
  | s0 fi st fr stt h =>
    have hk : ∀ i, P0 i → (Tm.chain i .empty .empty).ok P := fun i hi => ⟨hi, trivial, trivial⟩
    have hkeys : (sd0 fi st fr stt).keys.1.ok P ∧ (sd0 fi st fr stt).keys.2.ok P ∧ sz (sd0 fi st fr stt).keys.1 ≤ 10 ∧ sz (sd0 fi st fr stt).keys.2 ≤ 10 := by
      cases fi
      · exact ⟨hk 2 p02, hk 1 p01, by simp [Sd.keys, sd0, sz], by simp [Sd.keys, sd0, sz]⟩
      · exact ⟨hk 1 p01, hk 2 p02, by simp [Sd.keys, sd0, sz], by simp [Sd.keys, sd0, sz]⟩
    have gd : ∀ k : Int, 0 ≤ k → Gd k (sd0 fi st fr stt) := fun k hk => ⟨by simp [sd0, hash0], by simp [sd0], by simp [sd0], hk⟩
    refine ⟨⟨gd 2 (by omega), by simp [sd0], by simp [sd0], by simp [sd0], fun h0 t ht => ?_⟩, ⟨gd 3 (by omega), ⟨trivial, trivial⟩, by simp [sd0, hash0, sz], trivial, by simp [sd0, sz], trivial, by simp [sd0, sz], hP _ hs, hP _ hf⟩, trivial, by simp [sd0], by simp [sd0], by simp [sd0], by simp [sd0], fun n => hon_say hkeys.1 (by omega) (by simp [sd0]) n, all_of hP hkeys.2.1, by omega⟩
    have : (sd0 fi st fr stt).parts.2 = [.pub fr] := by simp [Sd.parts, sd0]
    rw [this] at ht
    simp at ht; subst ht
    exact hon_pub hf
  | i1 st fr stt h =>
    have gd : ∀ k : Int, 0 ≤ k → Gd k (sdI1 st fr stt) := fun k hk => ⟨by simp [sdI1, hash1], by simp [sdI1], by simp [sdI1], hk⟩
    have hk : ∀ i, P0 i → (Tm.chain i .empty .empty).ok P := fun i hi => ⟨hi, trivial, trivial⟩
    refine ⟨⟨gd 2 (by omega), by simp [sdI1], by simp [sdI1], by simp [sdI1], fun h0 t ht => ?_⟩, ⟨gd 3 (by omega), all_of hP (ok_hash1 hf), by show sz (hash1 fr) ≤ _; rw [sz_hash1]; omega, trivial, by simp [sdI1, sz], trivial, by simp [sdI1, sz], hP _ hs, hP _ hf⟩, trivial, by simp [sdI1], by simp [sdI1], by simp [sdI1], by simp [sdI1], fun n => hon_say (hk 1 p01) (by decide) (by simp [sdI1]) n, all_of hP (hk 2 p02), by show sz (.chain 2 .empty .empty) ≤ _; decide⟩
    have : (sdI1 st fr stt).parts.2 = [.pub fr, .pub st, .empty] := by simp [Sd.parts, sdI1, Sd.seal, Sd.mix, Sd.ee, Sd.es, Sd.dh]
    rw [this] at ht
    simp at ht
    rcases ht with rfl | rfl | rfl
    · exact hon_pub hf
    · exact hon_pub hs
    · exact ⟨trivial, by decide, fun k n a x e => by cases e⟩
  | r1 st fr stt eI h h1 =>
    have gd : ∀ k : Int, 0 ≤ k → Gd k (sdR1 st fr stt eI) := fun k hk => ⟨by simp [sdR1, hash1], by simp [sdR1], by simp [sdR1], hk⟩
    have hk : ∀ i, P0 i → (Tm.chain i .empty .empty).ok P := fun i hi => ⟨hi, trivial, trivial⟩
    refine ⟨⟨gd 2 (by omega), by simp [sdR1], by simp [sdR1], by simp [sdR1], fun h0 t ht => ?_⟩, ⟨gd 3 (by omega), all_of hP (ok_hash1 h1), by show sz (hash1 eI) ≤ _; rw [sz_hash1]; omega, trivial, by simp [sdR1, sz], trivial, by simp [sdR1, sz], hP _ hs, hP _ hf⟩, hP _ h1, by simp [sdR1], by simp [sdR1], by simp [sdR1], by simp [sdR1], fun n => hon_say (hk 2 p02) (by decide) (by simp [sdR1]) n, all_of hP (hk 1 p01), by show sz (.chain 1 .empty .empty) ≤ _; decide⟩
    obtain rfl : stt = 0 := h0
    rw [parts_R1] at ht
    simp at ht
    rcases ht with rfl | rfl | rfl
    · exact hon_pub hf
    · exact hon_box1 h1 hf hs
    · exact hon_box2 h1 hf hs
  | i2 st fr stt eR sR h h1 h2 =>
    have gd : ∀ k : Int, 1 ≤ k → Gd k (sdI2 st fr stt eR sR) := fun k hk => ⟨by simp [sdI2, hash4], by simp [sdI2, ck2], by simp [sdI2], hk⟩
    refine ⟨⟨gd 2 (by omega), by simp [sdI2], by simp [sdI2], by simp [sdI2], fun h0 t ht => ?_⟩, ⟨gd 3 (by omega), all_of hP (ok_hash4 hf h1 h2), by show sz (hash4 _ _ _) ≤ _; rw [sz_hash4]; omega, all_of hP (ok_ck2 hf h1 h2), by show sz (ck2 _ _ _) ≤ _; rw [sz_ck2]; omega, all_of hP (ok_key2 hf h1 h2), by show sz (key2 _ _ _) ≤ _; rw [sz_key2]; omega, hP _ hs, hP _ hf⟩, hP _ h1, by simp [sdI2], by simp [sdI2], by simp [sdI2], by simp [sdI2], fun n => hon_say (k := .chain 1 (ck2 fr eR sR) .empty) ⟨p01, ok_ck2 hf h1 h2, trivial⟩ (by simp only [sz, sz_ck2]; omega) (by simp [sdI2]) n, all_of hP (t := .chain 2 (ck2 fr eR sR) .empty) ⟨p02, ok_ck2 hf h1 h2, trivial⟩, by show sz (.chain 2 (ck2 _ _ _) .empty) ≤ _; simp only [sz, sz_ck2]; omega⟩
    obtain rfl : stt = 0 := h0
    rw [parts_I2] at ht
    simp at ht
    rcases ht with rfl | rfl
    · exact hon_box3 hf h1 h2 hs
    · exact hon_box4 hf h1 h2 hs
  | r2 st fr stt eI h h1 =>
    have gd : ∀ k : Int, 1 ≤ k → Gd k (sdR2 st fr stt eI) := fun k hk => ⟨by simp [sdR2, hash4], by simp [sdR2, ck2], by simp [sdR2], hk⟩
    refine ⟨⟨gd 2 (by omega), by simp [sdR2], by simp [sdR2], by simp [sdR2], fun h0 t ht => ?_⟩, ⟨gd 3 (by omega), all_of hP (ok_hash4 h1 hf hs), by show sz (hash4 _ _ _) ≤ _; rw [sz_hash4]; omega, all_of hP (ok_ck2 h1 hf hs), by show sz (ck2 _ _ _) ≤ _; rw [sz_ck2]; omega, all_of hP (ok_key2 h1 hf hs), by show sz (key2 _ _ _) ≤ _; rw [sz_key2]; omega, hP _ hs, hP _ hf⟩, hP _ h1, by simp [sdR2], by simp [sdR2], by simp [sdR2], by simp [sdR2], fun n => hon_say (k := .chain 2 (ck2 eI fr st) .empty) ⟨p02, ok_ck2 h1 hf hs, trivial⟩ (by simp only [sz, sz_ck2]; omega) (by simp [sdR2]) n, all_of hP (t := .chain 1 (ck2 eI fr st) .empty) ⟨p01, ok_ck2 h1 hf hs, trivial⟩, by show sz (.chain 1 (ck2 _ _ _) .empty) ≤ _; simp only [sz, sz_ck2]; omega⟩
    have hseal : ∀ (s : Sd) (x : Tm), s.key ≠ .non → (s.seal x).2 = .box s.key s.n s.hash x := fun s x hk => by unfold Sd.seal; rw [if_neg hk]
    have e1 : (sdR2 st fr stt eI).parts.2 = [.box (key2 eI fr st) 1 (hash4 eI fr st) (.pub st), .box (key2 eI fr st) 2 (.digest (hash4 eI fr st) (.box (key2 eI fr st) 1 (hash4 eI fr st) (.pub st))) .empty] := by
      simp [Sd.parts, sdR2, Sd.seal, Sd.mix, Sd.se, Sd.dh, key2]
    rw [e1] at ht
    simp at ht
    rcases ht with rfl | rfl
    · exact ⟨⟨p01, ok_key2 h1 hf hs, ok_hash4 h1 hf hs, hs⟩, by simp only [sz, sz_key2, sz_hash4]; omega, fun k n a x e => by cases e; exact ⟨rfl, rfl⟩⟩
    · exact ⟨⟨p02, ok_key2 h1 hf hs, ⟨ok_hash4 h1 hf hs, p01, ok_key2 h1 hf hs, ok_hash4 h1 hf hs, hs⟩, trivial⟩, by simp only [sz, sz_key2, sz_hash4]; omega, fun k n a x e => by cases e; exact ⟨rfl, rfl⟩⟩
  | i3 st fr eR sR sent got said took h1 h2 hr =>
    have gd : ∀ k : Int, 1 ≤ k → Gd k (sdI3 st fr eR sR sent got said took) := fun k hk => ⟨by simp [sdI3, hash6], by simp [sdI3, ck3], by simp [sdI3], hk⟩
    have hsl := hr.fewS; have hst : took.length ≤ 900 := ht
    have e1 : (0 : Int) ≤ sent ∧ sent < 100 := by have := hr.sent; omega
    have e2 : (0 : Int) ≤ got ∧ got ≤ 1000 := by have := hr.got; omega
    exact ⟨⟨gd 2 (by omega), by simp [sdI3], by simp [sdI3], by simp [sdI3], fun h0 => absurd h0 (by simp [sdI3])⟩, ⟨gd 3 (by omega), all_of hP (ok_hash6 hf h1 h2 hs), by show sz (hash6 _ _ _ _) ≤ _; rw [sz_hash6]; omega, all_of hP (ok_ck3 hf h1 h2 hs), by show sz (ck3 _ _ _ _) ≤ _; rw [sz_ck3]; omega, all_of hP (ok_key3 hf h1 h2 hs), by show sz (key3 _ _ _ _) ≤ _; rw [sz_key3]; omega, hP _ hs, hP _ hf⟩, hP _ h1, by show 0 ≤ sent ∧ sent ≤ 1000; omega, by show said.length ≤ 900; omega, by show 0 ≤ got ∧ got ≤ 1000; omega, by show took.length ≤ 900; omega,
      fun n => hon_say (k := keyI fr eR sR st) (ok_keyI hf h1 h2 hs) (by rw [sz_keyI]; omega) e1 n, all_of hP (t := keyR fr eR sR st) (ok_keyR hf h1 h2 hs), by show sz (keyR _ _ _ _) ≤ _; rw [sz_keyR]; omega⟩
  | r3 st fr eI sI sent got said took h1 h2 hr =>
    have gd : ∀ k : Int, 1 ≤ k → Gd k (sdR3 st fr eI sI sent got said took) := fun k hk => ⟨by simp [sdR3, hash6], by simp [sdR3, ck3], by simp [sdR3], hk⟩
    have hsl := hr.fewS; have hst : took.length ≤ 900 := ht
    have e1 : (0 : Int) ≤ sent ∧ sent < 100 := by have := hr.sent; omega
    have e2 : (0 : Int) ≤ got ∧ got ≤ 1000 := by have := hr.got; omega
    exact ⟨⟨gd 2 (by omega), by simp [sdR3], by simp [sdR3], by simp [sdR3], fun h0 => absurd h0 (by simp [sdR3])⟩, ⟨gd 3 (by omega), all_of hP (ok_hash6 h1 hf hs h2), by show sz (hash6 _ _ _ _) ≤ _; rw [sz_hash6]; omega, all_of hP (ok_ck3 h1 hf hs h2), by show sz (ck3 _ _ _ _) ≤ _; rw [sz_ck3]; omega, all_of hP (ok_key3 h1 hf hs h2), by show sz (key3 _ _ _ _) ≤ _; rw [sz_key3]; omega, hP _ hs, hP _ hf⟩, hP _ h1, by show 0 ≤ sent ∧ sent ≤ 1000; omega, by show said.length ≤ 900; omega, by show 0 ≤ got ∧ got ≤ 1000; omega, by show took.length ≤ 900; omega,
      fun n => hon_say (k := keyR eI fr st sI) (ok_keyR h1 hf hs h2) (by rw [sz_keyR]; omega) e1 n, all_of hP (t := keyI eI fr st sI) (ok_keyI h1 hf hs h2), by show sz (keyI _ _ _ _) ≤ _; rw [sz_keyI]; omega⟩

end Go.Proofs.YtjodmedgkmeklaaGreat

/-
  What honest sides sent; what the listener can know at most.
-/
namespace Go.Proofs.YtjodmedgkmeklaaGreat
open Go Go.RowKit
variable {f : Int → List UInt8} {P : Int → Prop} {x x2 : Int → Bool} {l l2 : List Sd}

/-- A box that a side sent. -/
inductive HBs (s : Sd) : Tm → Prop where
  | b1 (eI : Int) (h1 : s.first = false) (h2 : 2 ≤ s.step) (h3 : s.theirs = .pub eI) : HBs s (box1 eI s.fresh s.static)
  | b2 (eI : Int) (h1 : s.first = false) (h2 : 2 ≤ s.step) (h3 : s.theirs = .pub eI) : HBs s (box2 eI s.fresh s.static)
  | b3 (eR sR : Int) (h1 : s.first = true) (h2 : s.step = 3) (h3 : s.theirs = .pub eR) (h4 : s.peer = .pub sR) : HBs s (box3 s.fresh eR sR s.static)
  | b4 (eR sR : Int) (h1 : s.first = true) (h2 : s.step = 3) (h3 : s.theirs = .pub eR) (h4 : s.peer = .pub sR) : HBs s (box4 s.fresh eR sR s.static)
  | b5 (j : Nat) (t : Tm) (h1 : s.step = 3) (h2 : s.said[j]? = some t) : HBs s (.box s.keys.1 j .empty t)
def HB (l : List Sd) (t : Tm) : Prop := ∃ s ∈ l, HBs s t

/-- What can be made of secrets alone. -/
abbrev bare (f : Int → List UInt8) (x : Int → Bool) (t : Tm) : Bool := can f x (fun _ => false) t
/-- Keys of a side, as the listener may have them. -/
def Sd.opened (f : Int → List UInt8) (x : Int → Bool) (s : Sd) : Prop := s.step = 3 ∧ bare f x s.chain = true
/-- A name that the listener can know at most. -/
def Most (f : Int → List UInt8) (P : Int → Prop) (x : Int → Bool) (l : List Sd) (s : List UInt8) : Prop :=
  ∃ t : Tm, t.ok P ∧ nm f t = s ∧ (t = .empty ∨ (∃ n, t = .pub n) ∨ (∃ a b, t = .digest a b) ∨ HB l t ∨ ∃ sd ∈ l, sd.opened f x ∧ t ∈ sd.said)
open Classical in
noncomputable def most (f : Int → List UInt8) (P : Int → Prop) (x : Int → Bool) (l : List Sd) (s : List UInt8) : Bool := decide (Most f P x l s)
open Classical in
theorem most_iff {s : List UInt8} : most f P x l s = true ↔ Most f P x l s := by unfold most; exact decide_eq_true_iff

/-- Made of chains, what is shared, and nothing. -/
def Tm.stiff : Tm → Bool
  | .empty => true
  | .shared _ _ => true
  | .chain _ a b => a.stiff && b.stiff
  | _ => false
theorem hbs_box {s : Sd} {t : Tm} (h : HBs s t) : ∃ k n a y, t = .box k n a y := by
  cases h <;> exact ⟨_, _, _, _, rfl⟩
/-- No chain's name, no shared one's. -/
theorem most_no (N : Nums f P) (ht : ∀ s ∈ l, ∀ t ∈ s.said, ∃ n, t = textOf n) {t : Tm} (hok : t.ok P) (hs : t.stiff = true) (hne : t ≠ .empty) : most f P x l (nm f t) = false := by
  rw [Bool.eq_false_iff]
  intro h
  obtain ⟨u, hu, he, hc⟩ := most_iff.1 h
  have h1 := nm_sim N hu hok he
  rcases hc with rfl | ⟨n, rfl⟩ | ⟨a, b, rfl⟩ | ⟨s, _, hb⟩ | ⟨sd, hsd, _, hm⟩
  · cases t <;> simp only [Sim] at h1 <;> first | exact hne rfl | cases hs
  · cases t <;> simp only [Sim] at h1 <;> cases hs
  · cases t <;> simp only [Sim] at h1 <;> cases hs
  · obtain ⟨k, n, a, y, rfl⟩ := hbs_box hb
    cases t <;> simp only [Sim] at h1 <;> cases hs
  · obtain ⟨n, rfl⟩ := ht sd hsd u hm
    cases t <;> simp only [Sim, textOf] at h1 <;> cases hs
theorem can_bare (N : Nums f P) (ht : ∀ s ∈ l, ∀ t ∈ s.said, ∃ n, t = textOf n) : ∀ {t : Tm}, t.ok P → t.stiff = true → can f x (most f P x l) t = bare f x t := by
  intro t
  induction t with
  | empty => intro _ _; rfl
  | shared a b =>
    intro hok hs
    simp only [bare, can, most_no (x := x) N ht hok hs (by simp), Bool.false_or]
  | chain i a b ih1 ih2 =>
    intro hok hs
    have h2 : a.stiff = true ∧ b.stiff = true := by simpa [Tm.stiff] using hs
    simp only [bare, can, most_no (x := x) N ht hok hs (by simp), Bool.false_or]
    rw [ih1 hok.2.1 h2.1, ih2 hok.2.2 h2.2]
  | _ => intro _ hs; cases hs
theorem bare_mono (h : ∀ n, x n = true → x2 n = true) {t : Tm} (hb : bare f x t = true) : bare f x2 t = true := can_mono h (fun _ h => h) t hb

/-- Some key is known, of two shared: a secret is. -/
def sh (x : Int → Bool) (a b : Int) : Bool := x a || x b
theorem bare_dT (a b : Int) : bare f x (dT a b) = sh x a b := by
  unfold bare dT sh
  rcases Int.le_total a b with h | h
  · rw [Int.min_eq_left h, Int.max_eq_right h]; simp [can]
  · rw [Int.min_eq_right h, Int.max_eq_left h]; simp [can, Bool.or_comm]
theorem bare_chain (i : Int) (a b : Tm) : bare f x (.chain i a b) = (bare f x a && bare f x b) := by simp [bare, can]
theorem bare_empty : bare f x .empty = true := rfl
section
variable (eI eR sR sI : Int)
theorem bare_key1 : bare f x (key1 eI eR) = sh x eI eR := by unfold key1; rw [bare_chain, bare_dT, bare_empty, Bool.true_and]
theorem bare_ck1 : bare f x (ck1 eI eR) = sh x eI eR := by unfold ck1; rw [bare_chain, bare_dT, bare_empty, Bool.true_and]
theorem bare_key2 : bare f x (key2 eI eR sR) = (sh x eI eR && sh x eI sR) := by unfold key2; rw [bare_chain, bare_dT, bare_ck1]
theorem bare_ck2 : bare f x (ck2 eI eR sR) = (sh x eI eR && sh x eI sR) := by unfold ck2; rw [bare_chain, bare_dT, bare_ck1]
theorem bare_key3 : bare f x (key3 eI eR sR sI) = ((sh x eI eR && sh x eI sR) && sh x sI eR) := by unfold key3; rw [bare_chain, bare_dT, bare_ck2]
theorem bare_ck3 : bare f x (ck3 eI eR sR sI) = ((sh x eI eR && sh x eI sR) && sh x sI eR) := by unfold ck3; rw [bare_chain, bare_dT, bare_ck2]
theorem bare_keyI : bare f x (keyI eI eR sR sI) = ((sh x eI eR && sh x eI sR) && sh x sI eR) := by unfold keyI; rw [bare_chain, bare_empty, Bool.and_true, bare_ck3]
theorem bare_keyR : bare f x (keyR eI eR sR sI) = ((sh x eI eR && sh x eI sR) && sh x sI eR) := by unfold keyR; rw [bare_chain, bare_empty, Bool.and_true, bare_ck3]
end
theorem bare_keys (s : Sd) : bare f x s.keys.1 = bare f x s.chain ∧ bare f x s.keys.2 = bare f x s.chain := by
  unfold Sd.keys
  split <;> simp [bare_chain, bare_empty]

/-! ### the least closed set of what honest sides sent -/
/-- The sides' own numbers. -/
structure Own (P : Int → Prop) (l : List Sd) (c : Nat) : Prop where
  cn : ∀ s ∈ l, Cn P c s
  fr : ∀ s ∈ l, P s.fresh
  st : ∀ s ∈ l, P s.static
theorem Cn.texts {c : Nat} {s : Sd} (h : Cn P c s) : ∀ t ∈ s.said, ∃ n, t = textOf n := by
  cases h with
  | i3 _ _ _ _ _ _ _ _ _ _ hr => exact hr.texts
  | r3 _ _ _ _ _ _ _ _ _ _ hr => exact hr.texts
  | _ => intro t ht; cases ht
theorem Own.texts {c : Nat} (h : Own P l c) : ∀ s ∈ l, ∀ t ∈ s.said, ∃ n, t = textOf n := fun s hs => (h.cn s hs).texts
theorem most_of {t : Tm} (hok : t.ok P) (h : t = .empty ∨ (∃ n, t = .pub n) ∨ (∃ a b, t = .digest a b) ∨ HB l t ∨ ∃ sd ∈ l, sd.opened f x ∧ t ∈ sd.said) : most f P x l (nm f t) = true := most_iff.2 ⟨t, hok, rfl, h⟩
/-- A side that is finished: its chain. -/
theorem Cn.chain3 {c : Nat} {s : Sd} (h : Cn P c s) (h3 : s.step = 3) (hf : P s.fresh) (hs : P s.static) : s.chain.ok P ∧ s.chain.stiff = true := by
  cases h with
  | i3 st fr eR sR sent got said took h1 h2 hr => exact ⟨ok_ck3 hf h1 h2 hs, rfl⟩
  | r3 st fr eI sI sent got said took h1 h2 hr => exact ⟨ok_ck3 h1 hf hs h2, rfl⟩
  | s0 => exact absurd h3 (by simp [sd0])
  | i1 => exact absurd h3 (by simp [sdI1])
  | r1 => exact absurd h3 (by simp [sdR1])
  | i2 => exact absurd h3 (by simp [sdI2])
  | r2 => exact absurd h3 (by simp [sdR2])
theorem keys_stiff {s : Sd} (h : s.chain.ok P ∧ s.chain.stiff = true) : (s.keys.1.ok P ∧ s.keys.1.stiff = true) ∧ (s.keys.2.ok P ∧ s.keys.2.stiff = true) := by
  unfold Sd.keys
  split
  · exact ⟨⟨⟨p01, h.1, trivial⟩, by simp [Tm.stiff, h.2]⟩, ⟨⟨p02, h.1, trivial⟩, by simp [Tm.stiff, h.2]⟩⟩
  · exact ⟨⟨⟨p02, h.1, trivial⟩, by simp [Tm.stiff, h.2]⟩, ⟨⟨p01, h.1, trivial⟩, by simp [Tm.stiff, h.2]⟩⟩
theorem most_closed (N : Nums f P) {c : Nat} (h : Own P l c) : Closed f P x (most f P x l) := by
  intro k n a t hF hm
  obtain ⟨u, hu, he, hc⟩ := most_iff.1 hm
  have h1 := nm_sim N hu hF.ok he
  rcases hc with rfl | ⟨n, rfl⟩ | ⟨a, b, rfl⟩ | ⟨s, hs, hb⟩ | ⟨sd, hsd, _, hmem⟩
  · simp only [Sim] at h1
  · simp only [Sim] at h1
  · simp only [Sim] at h1
  · cases hb with
    | b1 eI e1 e2 e3 =>
      simp only [box1, Sim] at h1
      rw [← h1.2.2.1, ← h1.2.2.2]
      exact ⟨most_of hu.2.2.1 (.inr (.inr (.inl ⟨_, _, rfl⟩))), fun _ => most_of hu.2.2.2 (.inr (.inl ⟨_, rfl⟩))⟩
    | b2 eI e1 e2 e3 =>
      simp only [box2, Sim] at h1
      rw [← h1.2.2.1, ← h1.2.2.2]
      exact ⟨most_of hu.2.2.1 (.inr (.inr (.inl ⟨_, _, rfl⟩))), fun _ => most_of hu.2.2.2 (.inl rfl)⟩
    | b3 eR sR e1 e2 e3 e4 =>
      simp only [box3, Sim] at h1
      rw [← h1.2.2.1, ← h1.2.2.2]
      exact ⟨most_of hu.2.2.1 (.inr (.inr (.inl ⟨_, _, rfl⟩))), fun _ => most_of hu.2.2.2 (.inr (.inl ⟨_, rfl⟩))⟩
    | b4 eR sR e1 e2 e3 e4 =>
      simp only [box4, Sim] at h1
      rw [← h1.2.2.1, ← h1.2.2.2]
      exact ⟨most_of hu.2.2.1 (.inr (.inr (.inl ⟨_, _, rfl⟩))), fun _ => most_of hu.2.2.2 (.inl rfl)⟩
    | b5 j y e1 e2 =>
      simp only [Sim] at h1
      rw [← h1.2.2.1, ← h1.2.2.2]
      refine ⟨most_of hu.2.2.1 (.inl rfl), fun hk => most_of hu.2.2.2 (.inr (.inr (.inr (.inr ⟨s, hs, ⟨e1, ?_⟩, List.mem_of_getElem? e2⟩))))⟩
      have h3 := (h.cn s hs).chain3 e1 (h.fr s hs) (h.st s hs)
      have hks := (keys_stiff h3).1
      rw [← can_nm N x (most f P x l) hks.1 hF.ok.2.1 h1.2.1, can_bare N h.texts hks.1 hks.2, (bare_keys s).1] at hk
      exact hk
  · obtain ⟨q, rfl⟩ := h.texts sd hsd u hmem
    simp only [textOf, Sim] at h1

end Go.Proofs.YtjodmedgkmeklaaGreat

/-
  What holds in a world whatever was done: the invariant; terms come in.
-/
namespace Go.Proofs.YtjodmedgkmeklaaGreat
open Go Go.RowKit
variable {f : Int → List UInt8} {P : Int → Prop} {x x2 : Int → Bool} {l l2 : List Sd} {s s2 : Sd} {c d : Nat} {μ : MS}

/-- A side went on. -/
structure Prog (s s2 : Sd) : Prop where
  fi : s2.first = s.first
  st : s2.static = s.static
  fr : s2.fresh = s.fresh
  step : s.step ≤ s2.step
  thR : s.first = false → 1 ≤ s.step → s2.theirs = s.theirs
  thI : 2 ≤ s.step → s2.theirs = s.theirs
  pe : s.first = true → 2 ≤ s.step → s2.peer = s.peer
  pn : s.first = true → 2 ≤ s.step → s2.peerN = s.peerN
  p3 : s.step = 3 → s2.peerN = s.peerN
  mid : 2 ≤ s.step → s2.mid = s.mid
  hash : s.step = 3 → s2.hash = s.hash
  chain : s.step = 3 → s2.chain = s.chain
  said : s.said <+: s2.said
theorem Prog.refl (s : Sd) : Prog s s := ⟨rfl, rfl, rfl, Int.le_refl _, fun _ _ => rfl, fun _ => rfl, fun _ _ => rfl, fun _ _ => rfl, fun _ => rfl, fun _ => rfl, fun _ => rfl, fun _ => rfl, List.prefix_refl _⟩
theorem HBs.later (h : Prog s s2) (h3 : s2.step ≤ 3) {t : Tm} (hb : HBs s t) : HBs s2 t := by
  cases hb with
  | b1 eI e1 e2 e3 =>
    rw [← h.fr, ← h.st]
    exact .b1 eI (h.fi.trans e1) (Int.le_trans e2 h.step) ((h.thI e2).trans e3)
  | b2 eI e1 e2 e3 =>
    rw [← h.fr, ← h.st]
    exact .b2 eI (h.fi.trans e1) (Int.le_trans e2 h.step) ((h.thI e2).trans e3)
  | b3 eR sR e1 e2 e3 e4 =>
    have := h.step
    rw [← h.fr, ← h.st]
    exact .b3 eR sR (h.fi.trans e1) (by omega) ((h.thI (by omega)).trans e3) ((h.pe e1 (by omega)).trans e4)
  | b4 eR sR e1 e2 e3 e4 =>
    have := h.step
    rw [← h.fr, ← h.st]
    exact .b4 eR sR (h.fi.trans e1) (by omega) ((h.thI (by omega)).trans e3) ((h.pe e1 (by omega)).trans e4)
  | b5 j t e1 e2 =>
    have := h.step
    have hk : s.keys = s2.keys := by unfold Sd.keys; rw [h.fi, h.chain e1]
    rw [hk]
    refine .b5 j t (by omega) ?_
    obtain ⟨r, hr⟩ := h.said
    rw [← hr, List.getElem?_append_left (List.getElem?_eq_some_iff.1 e2).1]
    exact e2

/-- All sides went on. -/
structure Prs (l l2 : List Sd) : Prop where
  on : ∀ s ∈ l, ∃ s2 ∈ l2, Prog s s2
  le : ∀ s ∈ l2, s.step ≤ 3
theorem HB.later (h : Prs l l2) {t : Tm} (hb : HB l t) : HB l2 t := by
  obtain ⟨s, hs, hb⟩ := hb
  obtain ⟨s2, hs2, hp⟩ := h.on s hs
  exact ⟨s2, hs2, hb.later hp (h.le s2 hs2)⟩
theorem Sd.opened.later (h : Prog s s2) (h3 : s2.step ≤ 3) (hx : ∀ n, x n = true → x2 n = true) (ho : s.opened f x) : s2.opened f x2 := by
  have := h.step
  have e1 := ho.1
  exact ⟨by omega, by rw [h.chain ho.1]; exact bare_mono hx ho.2⟩
theorem most_later (h : Prs l l2) (hx : ∀ n, x n = true → x2 n = true) (u : List UInt8) (hm : most f P x l u = true) : most f P x2 l2 u = true := by
  obtain ⟨t, ht, he, hc⟩ := most_iff.1 hm
  refine most_iff.2 ⟨t, ht, he, ?_⟩
  rcases hc with hc | hc | hc | hc | ⟨s, hs, ho, hm⟩
  · exact .inl hc
  · exact .inr (.inl hc)
  · exact .inr (.inr (.inl hc))
  · exact .inr (.inr (.inr (.inl (hc.later h))))
  · obtain ⟨s2, hs2, hp⟩ := h.on s hs
    exact .inr (.inr (.inr (.inr ⟨s2, hs2, ho.later hp (h.le s2 hs2) hx, hp.said.mem hm⟩)))

/-- A Public that stands in the pool, or may come there. -/
def PubIn (t : Tm) (n : Int) : Prop := t = .pub n ∨ ∃ k m a, t = .box k m a (.pub n)
/-- Its fresh Public was said. -/
def Sd.spoke (s : Sd) : Prop := if s.first then 1 ≤ s.step else 2 ≤ s.step
theorem Prog.spoke (h : Prog s s2) (hs : s.spoke) : s2.spoke := by
  have := h.step
  unfold Sd.spoke at hs ⊢
  rw [h.fi]
  split at hs <;> rename_i hf
  · rw [if_pos hf]; omega
  · rw [if_neg hf]; omega
/-- What a side believes, was. -/
structure Bel (f : Int → List UInt8) (x : Int → Bool) (l : List Sd) (s : Sd) : Prop where
  ai : s.first = true → 2 ≤ s.step → x s.peerN = false → ∃ r ∈ l, r.first = false ∧ r.static = s.peerN ∧ 2 ≤ r.step ∧ r.mid = s.mid
  ar : s.first = false → s.step = 3 → x s.peerN = false → ∃ r ∈ l, r.first = true ∧ r.static = s.peerN ∧ r.step = 3 ∧ r.hash = s.hash
  tk : s.step = 3 → bare f x s.chain = false → s.took ≠ [] → ∃ r ∈ l, r.first ≠ s.first ∧ r.static = s.peerN ∧ r.step = 3 ∧ r.hash = s.hash ∧ s.took <+: r.said
theorem Bel.later (h : Bel f x l s) (hp : Prs l l2) (hx : ∀ n, x n = true → x2 n = true) : Bel f x2 l2 s := by
  have hx0 : ∀ n, x2 n = false → x n = false := fun n hn => by
    cases he : x n with
    | false => rfl
    | true => rw [hx n he] at hn; cases hn
  refine ⟨fun h1 h2 h3 => ?_, fun h1 h2 h3 => ?_, fun h1 h2 h3 => ?_⟩
  · obtain ⟨r, hr, e1, e2, e3, e4⟩ := h.ai h1 h2 (hx0 _ h3)
    obtain ⟨r2, hr2, hp2⟩ := hp.on r hr
    exact ⟨r2, hr2, hp2.fi.trans e1, hp2.st.trans e2, Int.le_trans e3 hp2.step, (hp2.mid e3).trans e4⟩
  · obtain ⟨r, hr, e1, e2, e3, e4⟩ := h.ar h1 h2 (hx0 _ h3)
    obtain ⟨r2, hr2, hp2⟩ := hp.on r hr
    have := hp.le r2 hr2
    have := hp2.step
    exact ⟨r2, hr2, hp2.fi.trans e1, hp2.st.trans e2, by omega, (hp2.hash e3).trans e4⟩
  · have hb : bare f x s.chain = false := by
      cases he : bare f x s.chain with
      | false => rfl
      | true => rw [bare_mono hx he] at h2; cases h2
    obtain ⟨r, hr, e1, e2, e3, e4, e5⟩ := h.tk h1 hb h3
    obtain ⟨r2, hr2, hp2⟩ := hp.on r hr
    have := hp.le r2 hr2
    have := hp2.step
    exact ⟨r2, hr2, by rw [hp2.fi]; exact e1, hp2.st.trans e2, by omega, (hp2.hash e3).trans e4, e5.trans hp2.said⟩

/-- What holds in a world, whatever was done. -/
structure Inv (f : Int → List UInt8) (P : Int → Prop) (c : Nat) (μ : MS) : Prop where
  cn : ∀ s ∈ μ.sides, Cn P c s
  fr : ∀ (i : Nat) s, μ.sides[i]? = some s → s.fresh = 100 + (i : Int)
  st : ∀ s ∈ μ.sides, s.static ∈ μ.statics
  few : μ.sides.length ≤ 12
  stat : ∀ n ∈ μ.statics, 1 ≤ n ∧ n ≤ 6
  stl : μ.statics.length ≤ 6
  x : ∀ n, μ.x n = true ↔ (50 ≤ n ∧ n < 60) ∨ n ∈ μ.leaked
  lk : ∀ n ∈ μ.leaked, n ∈ μ.statics
  lkn : μ.leaked.Nodup
  S : ∀ u, μ.S u = true → most f P μ.x μ.sides u = true
  cl : Closed f P μ.x μ.S
  kn : ∀ t ∈ μ.pool, can f μ.x μ.S t = true
  ap : (μ.pool.map (nm f)).Nodup
  bx : ∀ t ∈ μ.pool, t.isBox = true → HB μ.sides t ∨ ∃ k n a y, t = .box k n a y ∧ can f μ.x μ.S k = true
  pb : ∀ t ∈ μ.pool, ∀ n, PubIn t n → 100 ≤ n → ∃ s ∈ μ.sides, s.fresh = n ∧ s.spoke
  bel : ∀ s ∈ μ.sides, Bel f μ.x μ.sides s

theorem nodup_len {α : Type} [DecidableEq α] : ∀ {l r : List α}, l.Nodup → (∀ a ∈ l, a ∈ r) → l.length ≤ r.length := by
  intro l
  induction l with
  | nil => intro r _ _; simp
  | cons a l ih =>
    intro r hn hs
    have ha := hs a (by simp)
    have h1 := ih (r := r.erase a) (List.nodup_cons.1 hn).2 (fun b hb => by
      have hne : b ≠ a := fun e => (List.nodup_cons.1 hn).1 (e ▸ hb)
      exact (List.mem_erase_of_ne hne).2 (hs b (by simp [hb])))
    have h2 := List.length_erase_of_mem ha
    have h3 := List.length_pos_of_mem ha
    rw [List.length_cons]
    omega
theorem Inv.lkl (h : Inv f P c μ) : μ.leaked.length ≤ 6 := Nat.le_trans (nodup_len h.lkn h.lk) h.stl
theorem Inv.own (hP : ∀ n, P1 n → P n) (h : Inv f P c μ) : Own P μ.sides c :=
  ⟨h.cn, fun s hs => by
    obtain ⟨i, hi⟩ := List.getElem?_of_mem hs
    have h1 := h.fr i s hi
    have h2 := (List.getElem?_eq_some_iff.1 hi).1
    have h3 := h.few
    exact hP _ (.inr (by omega)), fun s hs => by
    have h1 := h.stat _ (h.st s hs)
    exact hP _ (.inl (by omega))⟩
theorem Inv.xP (hP : ∀ n, P1 n → P n) (h : Inv f P c μ) {n : Int} (hx : μ.x n = true) : P n := by
  rcases (h.x n).1 hx with h1 | h1
  · exact hP _ (.inl (by omega))
  · have := h.stat _ (h.lk n h1)
    exact hP _ (.inl (by omega))
theorem Inv.noX (h : Inv f P c μ) {n : Int} (hn : 60 ≤ n) : μ.x n = false := by
  cases he : μ.x n with
  | false => rfl
  | true =>
    rcases (h.x n).1 he with h1 | h1
    · omega
    · have := h.stat _ (h.lk n h1); omega
theorem Inv.prs (h : Inv f P c μ) : Prs μ.sides μ.sides := ⟨fun s hs => ⟨s, hs, Prog.refl s⟩, fun s hs => by
  have := h.cn s hs
  cases this <;> simp [sd0, sdI1, sdR1, sdI2, sdR2, sdI3, sdR3]⟩

/-- A term comes in, that is known, and no strange box. -/
theorem Inv.add (h : Inv f P c μ) {t : Tm} (hk : can f μ.x μ.S t = true) (hb : t.isBox = true → HB μ.sides t ∨ ∃ k n a y, t = .box k n a y ∧ can f μ.x μ.S k = true)
    (hp : ∀ n, PubIn t n → 100 ≤ n → ∃ s ∈ μ.sides, s.fresh = n ∧ s.spoke) : Inv f P c (μ.add f t) := by
  unfold MS.add
  split
  · exact h
  · rename_i hn
    have hin : ∀ {Q : Tm → Prop}, (∀ u ∈ μ.pool, Q u) → Q t → ∀ u ∈ μ.pool ++ [t], Q u := fun h1 h2 u hu => by
      rcases List.mem_append.1 hu with hu | hu
      · exact h1 u hu
      · simp at hu; subst hu; exact h2
    refine ⟨h.cn, h.fr, h.st, h.few, h.stat, h.stl, h.x, h.lk, h.lkn, h.S, h.cl, hin h.kn hk, ?_, hin h.bx hb, hin h.pb hp, h.bel⟩
    show ((μ.pool ++ [t]).map (nm f)).Nodup
    rw [List.map_append, List.map_cons, List.map_nil, List.nodup_append]
    refine ⟨h.ap, by simp, fun a ha b hb => ?_⟩
    simp at hb
    rintro rfl
    subst hb
    exact hn (by unfold names; exact decide_eq_true ha)
/-- A term is seen, that may be. -/
theorem Inv.see (N : Nums f P) (hP : ∀ n, P1 n → P n) (h : Inv f P c μ) {t : Tm} (hm : most f P μ.x μ.sides (nm f t) = true) : Inv f P c (μ.see f P t) := by
  have hle : ∀ u, μ.S u = true → (μ.see f P t).S u = true := fun u hu => (clo_cl (f := f) (P := P) μ.x (plus μ.S (nm f t))).le u (plus_le _ _ _ hu)
  have hc : ∀ {y : Tm}, can f μ.x μ.S y = true → can f μ.x (μ.see f P t).S y = true := fun {y} hy => can_mono (fun _ h => h) hle y hy
  refine ⟨h.cn, h.fr, h.st, h.few, h.stat, h.stl, h.x, h.lk, h.lkn, fun u hu => ?_, clo_closed _ _, fun y hy => hc (h.kn y hy), h.ap, fun y hy hb => (h.bx y hy hb).imp id (fun ⟨k, n, a, z, e, hk⟩ => ⟨k, n, a, z, e, hc hk⟩), h.pb, h.bel⟩
  have hmc : Closed f P μ.x (most f P μ.x μ.sides) := most_closed N (Inv.own (f := f) (μ := μ) hP h)
  refine clo_iff.1 hu _ hmc (fun u hu => ?_)
  unfold plus at hu
  simp only [Bool.or_eq_true] at hu
  rcases hu with h5 | h5
  · exact h.S u h5
  · rw [of_decide_eq_true h5]; exact hm
theorem see_self (μ : MS) (t : Tm) : (μ.see f P t).S (nm f t) = true := (clo_cl (f := f) (P := P) μ.x (plus μ.S (nm f t))).le _ (plus_self _ _)

/-- What an honest side may send. -/
structure May (f : Int → List UInt8) (P : Int → Prop) (l : List Sd) (t : Tm) : Prop where
  ok : t.ok P
  what : t.isBox = true → HB l t
  pubs : ∀ n, PubIn t n → 100 ≤ n → ∃ s ∈ l, s.fresh = n ∧ s.spoke
  kind : (∃ n, t = .pub n) ∨ HB l t
theorem Inv.send (N : Nums f P) (hP : ∀ n, P1 n → P n) (h : Inv f P c μ) {t : Tm} (ht : May f P μ.sides t) : Inv f P c ((μ.add f t).see f P t) := by
  have hm : most f P μ.x μ.sides (nm f t) = true := most_of ht.ok (by
    rcases ht.kind with h1 | h1
    · exact .inr (.inl h1)
    · exact .inr (.inr (.inr (.inl h1))))
  -- seen first, then added
  have h1 := h.see N hP hm
  have h2 := h1.add (t := t) (can_here (fun e => by have := ht.ok; rw [e] at this; exact this) (see_self μ t)) (fun hb => .inl (ht.what hb)) ht.pubs
  have e : (μ.see f P t).add f t = (μ.add f t).see f P t := by
    unfold MS.add MS.see
    split <;> rfl
  rwa [e] at h2
theorem Inv.sends (N : Nums f P) (hP : ∀ n, P1 n → P n) : ∀ (ts : List Tm) {μ : MS}, Inv f P c μ → (∀ t ∈ ts, May f P μ.sides t) → Inv f P c (μ.sent f P ts)
  | [], μ, h, _ => h
  | t :: ts, μ, h, ht => by
    have h1 := h.send N hP (ht t (by simp))
    have h2 : ((μ.add f t).see f P t).sides = μ.sides := by unfold MS.add MS.see; split <;> rfl
    exact Inv.sends N hP ts h1 (fun u hu => by rw [h2]; exact ht u (by simp [hu]))

end Go.Proofs.YtjodmedgkmeklaaGreat
