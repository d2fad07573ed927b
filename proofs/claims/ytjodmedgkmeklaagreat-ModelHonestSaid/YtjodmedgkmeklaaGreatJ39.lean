/-
  Texts merged: V9, V10, Q47, V11, Shaped.
-/
import Derived.HandedShaped
import Derived.Test.YtjodmedgkmeklaaGreatJ34
import Derived.Test.YtjodmedgkmeklaaGreatJ38
import Derived.Test.YtjodmedgkmeklaaGreatJ32
import Derived.Test.YtjodmedgkmeklaaGreatJ05
/-
  Two new sides that nobody disturbs shake hands.
-/
namespace Go.Proofs.YtjodmedgkmeklaaGreat
open Go Go.RowKit
variable {f : Int → List UInt8} {P : Int → Prop} {c i : Nat} {μ μ2 : MS} {s s2 r : Sd} {ts : List Tm}

theorem sent_fresh : ∀ (ts : List Tm) {μ : MS}, (∀ t ∈ ts, names f μ.pool (nm f t) = false) → (ts.map (nm f)).Nodup → (μ.sent f P ts).pool = μ.pool ++ ts
  | [], μ, _, _ => by simp [MS.sent]
  | t :: ts, μ, h, hn => by
    have h1 := h t (by simp)
    have e : ((μ.add f t).see f P t).pool = μ.pool ++ [t] := by
      show (μ.add f t).pool = _
      rw [add_pool, h1]; rfl
    have hn2 := List.nodup_cons.1 (show (nm f t :: ts.map (nm f)).Nodup from hn)
    have := sent_fresh ts (μ := (μ.add f t).see f P t) (fun u hu => by
      rw [e, names_push]
      simp only [h u (by simp [hu]), Bool.false_or, decide_eq_false_iff_not]
      intro e2
      exact hn2.1 (e2 ▸ List.mem_map_of_mem hu)) hn2.2
    show ((((μ.add f t).see f P t).sent f P ts)).pool = _
    rw [this, e, List.append_assoc]; rfl
theorem PoolOk.sent (N : Nums f P) : ∀ (ts : List Tm) {μ : MS}, PoolOk f P μ → (∀ t ∈ ts, Hon P t) → μ.pool.length + ts.length ≤ 300 → PoolOk f P (μ.sent f P ts)
  | [], μ, h, _, _ => h
  | t :: ts, μ, h, ht, hl => by
    have h1 := ht t (by simp)
    have h2 := h.add ⟨h1.ok, h1.sz⟩ (h1.grounded (f := f) _) (.inr (by simp at hl; omega))
    have h3 := h2.see N (names_add μ t)
    refine PoolOk.sent N ts (μ := (μ.add f t).see f P t) h3 (fun u hu => ht u (by simp [hu])) ?_
    have : ((μ.add f t).see f P t).pool.length ≤ μ.pool.length + 1 := by
      show (μ.add f t).pool.length ≤ _
      rw [add_pool]; split <;> simp
    simp at hl; omega
theorem news_le (l : List Tm) : (newsL f μ.pool l).length ≤ l.length := newsL_len
theorem sideAt_nat (h : μ.sides[i]? = some s) : μ.sideAt (i : Int) = some s := by
  unfold MS.sideAt
  rw [if_pos (by omega), Int.toNat_natCast]; exact h
/-- What stays. -/
structure Stay (μ μ2 : MS) : Prop where
  x : μ2.x = μ.x
  st : μ2.statics = μ.statics
  lk : μ2.leaked = μ.leaked
theorem Stay.refl (μ : MS) : Stay μ μ := ⟨rfl, rfl, rfl⟩
theorem Stay.trans {a b c : MS} (h : Stay a b) (k : Stay b c) : Stay a c := ⟨k.x.trans h.x, k.st.trans h.st, k.lk.trans h.lk⟩
theorem speak_ok (N : Nums f P) (hP : ∀ n, P1 n → P n) (h : Inv f P c μ) (hp : PoolOk f P μ) (hi : μ.sides[i]? = some s) (ht : s.turn true = true) (hpt : s.parts = (s2, ts)) (hon : ∀ t ∈ ts, Hon P t) (hfr : ∀ t ∈ ts, names f μ.pool (nm f t) = false) (hnd : (ts.map (nm f)).Nodup) (hl : μ.pool.length + ts.length ≤ 300) :
    ∃ μ2, μ.play f P 2 i 0 0 = (μ2, 0) ∧ μ2.pool = μ.pool ++ ts ∧ μ2.sides = μ.sides.set i s2 ∧ Inv f P c μ2 ∧ PoolOk f P μ2 ∧ Stay μ μ2 := by
  have e1 : μ.play f P 2 i 0 0 = μ.speak f P i s := by
    rw [act_eq (by omega) (by omega)]
    unfold MS.honest
    rw [sideAt_nat hi]
    show μ.act f P (i : Int).toNat s 2 0 0 = _
    rw [Int.toNat_natCast]; rfl
  have hroom : μ.room f ts = true := by
    unfold MS.room
    have := news_le (f := f) (μ := μ) ts
    exact decide_eq_true (by omega)
  have e2 : μ.speak f P i s = ((μ.sent f P ts).setSide i s2, 0) := by
    unfold MS.speak
    rw [hpt]
    rw [if_neg (by rw [ht]; simp), if_neg (by rw [hroom]; simp)]
  obtain ⟨e3, e4, e5, e6⟩ := sent_same (f := f) (P := P) ts (μ := μ)
  have hinv := h.speak N hP hi
  rw [e2] at hinv
  refine ⟨(μ.sent f P ts).setSide i s2, e1.trans e2, sent_fresh ts hfr hnd, by show (μ.sent f P ts).sides.set i s2 = _; rw [e3], hinv, (PoolOk.sent N ts hp hon hl).setSide _ _, ⟨e6, e4, e5⟩⟩
theorem hear_ok (N : Nums f P) (hP : ∀ n, P1 n → P n) (h : Inv f P c μ) (hp : PoolOk f P μ) (hi : μ.sides[i]? = some s) (ht : s.turn false = true) {a b : Int} (hpl : (hearAt s a b).map μ.place = ts) (hno : Tm.non ∉ ts) (hh : s.hears f ts = some s2) :
    ∃ μ2, μ.play f P 3 i a b = (μ2, 0) ∧ μ2.pool = μ.pool ∧ μ2.sides = μ.sides.set i s2 ∧ Inv f P c μ2 ∧ PoolOk f P μ2 ∧ Stay μ μ2 := by
  have e1 : μ.play f P 3 i a b = μ.hear f i s a b := by
    rw [act_eq (by omega) (by omega)]
    unfold MS.honest
    rw [sideAt_nat hi]
    show μ.act f P (i : Int).toNat s 3 a b = _
    rw [Int.toNat_natCast]; rfl
  have e2 : μ.hear f i s a b = (μ.setSide i s2, 0) := by
    rw [hear_eq, if_neg (by rw [ht]; simp), hpl, if_neg hno]
    unfold heardT
    rw [hh]
  have hinv := h.hear N hP hp hi a b
  rw [e2] at hinv
  exact ⟨μ.setSide i s2, e1.trans e2, rfl, rfl, hinv, hp.setSide _ _, ⟨rfl, rfl, rfl⟩⟩
theorem place_app {t : Tm} {k : Nat} (h : μ.pool[k]? = some t) : μ.place (k : Int) = t := by
  have hl := (List.getElem?_eq_some_iff.1 h).1
  unfold MS.place
  rw [if_pos ⟨by omega, by omega⟩, Int.toNat_natCast, List.getD_eq_getElem?_getD, h]; rfl

theorem hbs_box1 {t : Tm} {eI eR sR : Int} (h : HBs r t) (e : t = box1 eI eR sR) : r.first = false ∧ 2 ≤ r.step ∧ r.fresh = eR := by
  cases h with
  | b1 a h1 h2 h3 =>
    simp only [hash2, hash1, box1, Tm.box.injEq, Tm.digest.injEq, Tm.pub.injEq] at e
    exact ⟨h1, h2, e.2.2.1.2⟩
  | b2 a h1 h2 h3 => simp [box1, box2, key1, key2, ck1] at e
  | b3 a b h1 h2 h3 h4 => simp [box3, box1] at e
  | b4 a b h1 h2 h3 h4 => simp [box4, box1, key3, key1, ck2] at e
  | b5 j t h1 h2 => simp [box1, hash2] at e
theorem hbs_box3 {t : Tm} {eI eR sR sI : Int} (h : HBs r t) (e : t = box3 eI eR sR sI) : r.first = true ∧ r.step = 3 ∧ r.fresh = eI := by
  cases h with
  | b1 a h1 h2 h3 => simp [box1, box3] at e
  | b2 a h1 h2 h3 => simp [box2, box3] at e
  | b3 a b h1 h2 h3 h4 =>
    have e' := e
    unfold box3 at e'
    exact ⟨h1, h2, (hash4_inj (Tm.box.inj e').2.2.1).1⟩
  | b4 a b h1 h2 h3 h4 => simp [box4, box3] at e
  | b5 j t h1 h2 => simp [box3, hash4] at e
/-- A box under a key that is not known is in the pool only if a side sent it. -/
theorem Inv.unsent (N : Nums f P) (hP : ∀ n, P1 n → P n) (h : Inv f P c μ) (hp : PoolOk f P μ) {k a y : Tm} {n : Int} (hok : (Tm.box k n a y).ok P) (hd : (Tm.box k n a y).dry = true) (hs : k.stiff = true) (hb : Go.Proofs.YtjodmedgkmeklaaGreat.bare f μ.x k = false) (hno : ¬ HB μ.sides (.box k n a y)) : names f μ.pool (nm f (.box k n a y)) = false := by
  cases hn : names f μ.pool (nm f (.box k n a y)) with
  | false => rfl
  | true =>
    obtain ⟨t, ht, he⟩ := names_iff.1 hn
    have e1 := nm_dry N _ (hp.fine t ht).1 hok hd he
    subst e1
    rcases h.bx _ ht rfl with h1 | ⟨k2, n2, a2, y2, e, hk⟩
    · exact absurd h1 hno
    · obtain ⟨rfl, _⟩ := Tm.box.inj e
      have := h.bare N hP hok.2.1 hs hk
      rw [hb] at this; cases this
theorem Inv.unspoken (N : Nums f P) (h : Inv f P c μ) (hp : PoolOk f P μ) (hs : s ∈ μ.sides) (hf : P s.fresh) (hn : ¬ s.spoke) : names f μ.pool (nm f (.pub s.fresh)) = false := by
  cases he : names f μ.pool (nm f (.pub s.fresh)) with
  | false => rfl
  | true =>
    obtain ⟨t, ht, e⟩ := names_iff.1 he
    have e1 : t = .pub s.fresh := nm_dry N (.pub s.fresh) (hp.fine t ht).1 hf rfl e
    obtain ⟨r, hr, e2, e3⟩ := h.pb t ht s.fresh (.inl e1) (h.fr100 hs)
    exact absurd ((h.same hr hs e2) ▸ e3) hn
theorem ne_names (N : Nums f P) {a b : Tm} (ha : a.ok P) (hb : b.ok P) (hd : b.dry = true) (h : a ≠ b) : nm f a ≠ nm f b := fun e => h (nm_dry N b ha hb hd e)

/-- The two sides of a handshake, and the pool behind it. -/
structure Shaken (f : Int → List UInt8) (P : Int → Prop) (c : Nat) (μ μ3 : MS) (n : Nat) (st sr : Int) : Prop where
  si : μ3.sides = (μ.sides.set n (sdI3 st (100 + n) (101 + n) sr 0 0 [] [])).set (n + 1) (sdR3 sr (101 + n) (100 + n) st 0 0 [] [])
  len : μ3.pool.length = μ.pool.length + 6
  inv : Inv f P c μ3
  ok : PoolOk f P μ3
  stay : Stay μ μ3
theorem shaken (N : Nums f P) (hP : ∀ n, P1 n → P n) {n : Nat} (h : Inv f P c μ) (hp : PoolOk f P μ) {st sr : Int} (h1 : μ.sides[n]? = some (sd0 true st (100 + n) 0)) (h2 : μ.sides[n + 1]? = some (sd0 false sr (101 + n) 0)) (hl : μ.pool.length + 6 ≤ 300) :
    ∃ μ3, μ.shk f P n (n + 1 : Nat) 3 = (μ3, true) ∧ Shaken f P c μ μ3 n st sr := by
  have hown := h.own hP
  have hm1 := List.mem_of_getElem? h1
  have hm2 := List.mem_of_getElem? h2
  have eIP : P (100 + (n : Int)) := hown.fr _ hm1
  have eRP : P (101 + (n : Int)) := hown.fr _ hm2
  have sIP : P st := hown.st _ hm1
  have sRP : P sr := hown.st _ hm2
  have hn1 := (List.getElem?_eq_some_iff.1 h1).1
  have hn2 := (List.getElem?_eq_some_iff.1 h2).1
  have hxI : ∀ {ν : MS}, Stay μ ν → ν.x (100 + (n : Int)) = false := fun hs => by rw [hs.x]; exact h.noX (by omega)
  have hxR : ∀ {ν : MS}, Stay μ ν → ν.x (101 + (n : Int)) = false := fun hs => by rw [hs.x]; exact h.noX (by omega)
  -- the first message
  obtain ⟨ν1, a1, a2, a3, a4, a5, a6⟩ := speak_ok N hP h hp h1 (by rfl) (parts_I0 st (100 + n)) (by intro t ht; simp at ht; subst ht; exact hon_pub eIP) (by intro t ht; simp at ht; subst ht; exact h.unspoken N hp hm1 eIP (by rw [spoke_iff_I rfl]; simp [sd0])) (by simp) (by simp; omega)
  have b0 : ν1.sides[n + 1]? = some (sd0 false sr (101 + n) 0) := by rw [a3, List.getElem?_set_ne (by omega)]; exact h2
  have b1 : ν1.place (μ.pool.length : Int) = .pub (100 + n) := place_app (by rw [a2]; simp)
  obtain ⟨ν2, c1, c2, c3, c4, c5, c6⟩ := hear_ok N hP a4 a5 b0 (by rfl) (a := μ.pool.length) (b := μ.pool.length + 1) (ts := [.pub (100 + n)]) (by simp [hearAt, sd0, b1]) (by simp) (heard_R0 sr (101 + n) (100 + n))
  have s1 : μ.shake1 f P 1 n (n + 1 : Nat) = (ν2, true) := by
    unfold MS.shake1
    rw [a1]
    rw [if_neg (by rw [a2]; simp)]
    rw [c1]; rfl
  -- the second one
  have d0 : ν2.sides[n + 1]? = some (sdR1 sr (101 + n) 0 (100 + n)) := by rw [c3, List.getElem?_set_self (by rw [a3, List.length_set]; exact hn2)]
  have d0m := List.mem_of_getElem? d0
  have hst2 : Stay μ ν2 := a6.trans c6
  have key : ∀ ν : MS, Stay μ ν → Go.Proofs.YtjodmedgkmeklaaGreat.bare f ν.x (key1 (100 + n) (101 + n)) = false ∧ Go.Proofs.YtjodmedgkmeklaaGreat.bare f ν.x (key2 (100 + n) (101 + n) sr) = false ∧ Go.Proofs.YtjodmedgkmeklaaGreat.bare f ν.x (key3 (100 + n) (101 + n) sr st) = false := fun ν hs => by
    rw [bare_key1, bare_key2, bare_key3]
    simp [sh, hxI hs, hxR hs]
  have f1 : names f ν2.pool (nm f (box1 (100 + n) (101 + n) sr)) = false := c4.unsent N hP c5 (ok_box1 eIP eRP sRP) rfl rfl (key ν2 hst2).1 (fun ⟨r, hr, hb⟩ => by
    obtain ⟨e1, e2, e3⟩ := hbs_box1 hb rfl
    have := c4.same hr d0m e3
    subst this
    simp [sdR1] at e2)
  have f2 : names f ν2.pool (nm f (box2 (100 + n) (101 + n) sr)) = false := c4.unsent N hP c5 (ok_box2 eIP eRP sRP) rfl rfl (key ν2 hst2).2.1 (fun ⟨r, hr, hb⟩ => by
    obtain ⟨e1, e2, e3, e4, e5⟩ := hbs_box2 hb rfl
    have := c4.same hr d0m e4
    subst this
    simp [sdR1] at e2)
  have hpl2 : ν2.pool.length = μ.pool.length + 1 := by rw [c2, a2]; simp
  obtain ⟨ν3, g1, g2, g3, g4, g5, g6⟩ := speak_ok N hP c4 c5 d0 (by rfl) (parts_R1 sr (101 + n) (100 + n)) (by
      intro t ht; simp at ht
      rcases ht with rfl | rfl | rfl
      · exact hon_pub eRP
      · exact hon_box1 eIP eRP sRP
      · exact hon_box2 eIP eRP sRP) (by
      intro t ht; simp at ht
      rcases ht with rfl | rfl | rfl
      · exact c4.unspoken N c5 d0m eRP (by rw [spoke_iff_R rfl]; simp [sdR1])
      · exact f1
      · exact f2) (by
      simp only [List.map_cons, List.map_nil, List.nodup_cons, List.mem_cons, List.not_mem_nil, or_false, not_false_iff, List.nodup_nil, and_true]
      refine ⟨fun h5 => ?_, ne_names N (ok_box1 eIP eRP sRP) (ok_box2 eIP eRP sRP) rfl (by simp [box1, box2, key1, key2, ck1])⟩
      rcases h5 with h5 | h5
      · exact ne_names N (a := .pub (101 + n)) eRP (ok_box1 eIP eRP sRP) rfl (by simp [box1]) h5
      · exact ne_names N (a := .pub (101 + n)) eRP (ok_box2 eIP eRP sRP) rfl (by simp [box2]) h5) (by simp; omega)
  have i0 : ν3.sides[n]? = some (sdI1 st (100 + n) 0) := by rw [g3, List.getElem?_set_ne (by omega), c3, List.getElem?_set_ne (by omega), a3, List.getElem?_set_self hn1]
  have i1 : ν3.place (ν2.pool.length : Int) = .pub (101 + n) := place_app (by rw [g2]; simp)
  have i2 : ν3.place ((ν2.pool.length : Int) + 1) = box1 (100 + n) (101 + n) sr := place_app (k := ν2.pool.length + 1) (by rw [g2, List.getElem?_append_right (by omega)]; simp)
  have i3 : ν3.place ((ν2.pool.length : Int) + 1 + 1) = box2 (100 + n) (101 + n) sr := place_app (k := ν2.pool.length + 1 + 1) (by rw [g2, List.getElem?_append_right (by omega), show ν2.pool.length + 1 + 1 - ν2.pool.length = 2 by omega]; rfl)
  obtain ⟨ν4, j1, j2, j3, j4, j5, j6⟩ := hear_ok N hP g4 g5 i0 (by rfl) (a := ν2.pool.length) (b := ν2.pool.length + 1) (ts := [.pub (101 + n), box1 (100 + n) (101 + n) sr, box2 (100 + n) (101 + n) sr]) (by simp [hearAt, sdI1, i1, i2, i3]) (by simp [box1, box2]) (heard_I1 st (100 + n) (101 + n) sr)
  have s2 : ν2.shake1 f P 3 (n + 1 : Nat) n = (ν4, true) := by
    unfold MS.shake1
    rw [g1]
    rw [if_neg (by rw [g2]; simp)]
    rw [j1]; rfl
  -- the third one
  have hst4 : Stay μ ν4 := hst2.trans (g6.trans j6)
  have k0 : ν4.sides[n]? = some (sdI2 st (100 + n) 0 (101 + n) sr) := by rw [j3, List.getElem?_set_self (by rw [g3, List.length_set, c3, List.length_set, a3, List.length_set]; exact hn1)]
  have k0m := List.mem_of_getElem? k0
  have f3 : names f ν4.pool (nm f (box3 (100 + n) (101 + n) sr st)) = false := j4.unsent N hP j5 (ok_box3 eIP eRP sRP sIP) rfl rfl (key ν4 hst4).2.1 (fun ⟨r, hr, hb⟩ => by
    obtain ⟨e1, e2, e3⟩ := hbs_box3 hb rfl
    have := j4.same hr k0m e3
    subst this
    simp [sdI2] at e2)
  have f4 : names f ν4.pool (nm f (box4 (100 + n) (101 + n) sr st)) = false := j4.unsent N hP j5 (ok_box4 eIP eRP sRP sIP) rfl rfl (key ν4 hst4).2.2 (fun ⟨r, hr, hb⟩ => by
    obtain ⟨e1, e2, e3, e4, e5, e6⟩ := hbs_box4 hb rfl
    have := j4.same hr k0m e5
    subst this
    simp [sdI2] at e2)
  have hpl4 : ν4.pool.length = μ.pool.length + 4 := by rw [j2, g2, List.length_append, hpl2]; rfl
  obtain ⟨ν5, l1, l2, l3, l4, l5, l6⟩ := speak_ok N hP j4 j5 k0 (by rfl) (parts_I2 st (100 + n) (101 + n) sr) (by
      intro t ht; simp at ht
      rcases ht with rfl | rfl
      · exact hon_box3 eIP eRP sRP sIP
      · exact hon_box4 eIP eRP sRP sIP) (by
      intro t ht; simp at ht
      rcases ht with rfl | rfl
      · exact f3
      · exact f4) (by
      simp only [List.map_cons, List.map_nil, List.nodup_cons, List.mem_cons, List.not_mem_nil, or_false, not_false_iff, List.nodup_nil, and_true]
      exact ne_names N (ok_box3 eIP eRP sRP sIP) (ok_box4 eIP eRP sRP sIP) rfl (by simp [box3, box4])) (by simp; omega)
  have m0 : ν5.sides[n + 1]? = some (sdR2 sr (101 + n) 0 (100 + n)) := by
    rw [l3, List.getElem?_set_ne (by omega), j3, List.getElem?_set_ne (by omega), g3, List.getElem?_set_self (by rw [c3, List.length_set, a3, List.length_set]; exact hn2)]
  have m1 : ν5.place (ν4.pool.length : Int) = box3 (100 + n) (101 + n) sr st := place_app (by rw [l2]; simp)
  have m2 : ν5.place ((ν4.pool.length : Int) + 1) = box4 (100 + n) (101 + n) sr st := place_app (k := ν4.pool.length + 1) (by rw [l2, List.getElem?_append_right (by omega)]; simp)
  obtain ⟨ν6, o1, o2, o3, o4, o5, o6⟩ := hear_ok N hP l4 l5 m0 (by rfl) (a := ν4.pool.length) (b := ν4.pool.length + 1) (ts := [box3 (100 + n) (101 + n) sr st, box4 (100 + n) (101 + n) sr st]) (by simp [hearAt, sdR2, m1, m2]) (by simp [box3, box4]) (heard_R2 sr (101 + n) (100 + n) st)
  have s3 : ν4.shake1 f P 2 n (n + 1 : Nat) = (ν6, true) := by
    unfold MS.shake1
    rw [l1]
    rw [if_neg (by rw [l2]; simp)]
    rw [o1]; rfl
  refine ⟨ν6, ?_, ?_, ?_, o4, o5, hst4.trans (l6.trans o6)⟩
  · show (if (μ.shake1 f P 1 n (n + 1 : Nat)).2 then MS.shk f P n (n + 1 : Nat) 2 (μ.shake1 f P 1 n (n + 1 : Nat)).1 else μ.shake1 f P 1 n (n + 1 : Nat)) = _
    rw [s1]
    show (if (ν2.shake1 f P 3 (n + 1 : Nat) n).2 then MS.shk f P n (n + 1 : Nat) 1 (ν2.shake1 f P 3 (n + 1 : Nat) n).1 else ν2.shake1 f P 3 (n + 1 : Nat) n) = _
    rw [s2]
    show (if (ν4.shake1 f P 2 n (n + 1 : Nat)).2 then MS.shk f P n (n + 1 : Nat) 0 (ν4.shake1 f P 2 n (n + 1 : Nat)).1 else ν4.shake1 f P 2 n (n + 1 : Nat)) = _
    rw [s3]; rfl
  · rw [o3, l3, j3, g3, c3, a3]
    simp only [List.set_set]
    rw [List.set_comm (i := n + 1) (j := n) _ _ (by omega)]
    simp only [List.set_set]
  · rw [o2, l2, List.length_append, hpl4]; rfl

end Go.Proofs.YtjodmedgkmeklaaGreat

/-
  Two sides are begun, and shake hands: plain.
-/
namespace Go.Proofs.YtjodmedgkmeklaaGreat
open Go Go.RowKit
variable {f : Int → List UInt8} {P : Int → Prop} {c n : Nat} {μ : MS}

theorem play1_ok {st : Int} (hst : st ∈ μ.statics) (hl : μ.sides.length < 12) (a e : Int) : μ.play f P 1 a st e = ({ μ with sides := μ.sides ++ [sd0 (decide (a = 1)) st (100 + μ.sides.length) 0] }, 0) := by
  rw [play_begin_eq]
  unfold MS.begin
  rw [if_pos hst, if_neg (by omega)]
  rfl
/-- What two new sides come to. -/
structure Pair (f : Int → List UInt8) (P : Int → Prop) (c : Nat) (μ μ1 μ2 μ3 : MS) (n : Nat) (x y : Int) : Prop where
  one : ∀ e, μ.play f P 1 1 x e = (μ1, 0)
  two : ∀ e, μ1.play f P 1 0 y e = (μ2, 0)
  shk : μ2.shk f P n (n + 1 : Nat) 3 = (μ3, true)
  si : μ3.sides = μ.sides ++ [sdI3 x (100 + n) (101 + n) y 0 0 [] [], sdR3 y (101 + n) (100 + n) x 0 0 [] []]
  pool1 : μ1.pool = μ.pool
  pool2 : μ2.pool = μ.pool
  len : μ3.pool.length = μ.pool.length + 6
  inv : Inv f P c μ3
  ok : PoolOk f P μ3
  stay : Stay μ μ3
theorem pair (N : Nums f P) (hP : ∀ n, P1 n → P n) (h : Inv f P c μ) (hp : PoolOk f P μ) {x y : Int} (hx : x ∈ μ.statics) (hy : y ∈ μ.statics) (hn : μ.sides.length = n) (hn10 : n ≤ 10) (hl : μ.pool.length + 6 ≤ 300) :
    ∃ μ1 μ2 μ3, Pair f P c μ μ1 μ2 μ3 n x y := by
  have e1 := fun e => play1_ok (f := f) (P := P) hx (by omega) 1 e
  have i1 := h.begin true x
  have i1' : Inv f P c { μ with sides := μ.sides ++ [sd0 true x (100 + n) 0] } := by
    have := play_begin_eq (f := f) (P := P) (μ := μ) 1 x 0
    rw [e1 0] at this
    have h2 := (congrArg Prod.fst this)
    rw [show (decide ((1 : Int) = 1)) = true from rfl, hn] at h2
    have h3 : ({ μ with sides := μ.sides ++ [sd0 true x (100 + n) 0] } : MS) = (μ.begin true x).1 := h2
    rw [h3]; exact i1
  have e2 := fun e => play1_ok (f := f) (P := P) (μ := { μ with sides := μ.sides ++ [sd0 true x (100 + n) 0] }) (st := y) hy (by simp; omega) 0 e
  have i2 := i1'.begin false y
  have hlen : (μ.sides ++ [sd0 true x (100 + (n : Int)) 0]).length = n + 1 := by simp; omega
  have i2' : Inv f P c { μ with sides := (μ.sides ++ [sd0 true x (100 + n) 0]) ++ [sd0 false y (101 + n) 0] } := by
    have := play_begin_eq (f := f) (P := P) (μ := { μ with sides := μ.sides ++ [sd0 true x (100 + n) 0] }) 0 y 0
    rw [e2 0] at this
    have h2 := (congrArg Prod.fst this)
    rw [show (decide ((0 : Int) = 1)) = false from rfl] at h2
    dsimp only at h2
    rw [hlen, show (100 : Int) + (n + 1 : Nat) = 101 + n by omega] at h2
    have h3 : ({ μ with sides := (μ.sides ++ [sd0 true x (100 + n) 0]) ++ [sd0 false y (101 + n) 0] } : MS) = (({ μ with sides := μ.sides ++ [sd0 true x (100 + n) 0] } : MS).begin false y).1 := h2
    rw [h3]; exact i2
  have hp2 : PoolOk f P { μ with sides := (μ.sides ++ [sd0 true x (100 + n) 0]) ++ [sd0 false y (101 + n) 0] } := ⟨hp.fine, hp.few, hp.ground, hp.inU⟩
  have g1 : ((μ.sides ++ [sd0 true x (100 + (n : Int)) 0]) ++ [sd0 false y (101 + n) 0])[n]? = some (sd0 true x (100 + n) 0) := by
    rw [List.append_assoc, List.getElem?_append_right (by omega), hn, Nat.sub_self]; rfl
  have g2 : ((μ.sides ++ [sd0 true x (100 + (n : Int)) 0]) ++ [sd0 false y (101 + n) 0])[n + 1]? = some (sd0 false y (101 + n) 0) := by
    rw [List.getElem?_append_right (by omega), hlen, Nat.sub_self]; rfl
  obtain ⟨μ3, s1, s2⟩ := shaken N hP i2' hp2 g1 g2 hl
  refine ⟨{ μ with sides := μ.sides ++ [sd0 true x (100 + n) 0] }, { μ with sides := (μ.sides ++ [sd0 true x (100 + n) 0]) ++ [sd0 false y (101 + n) 0] }, μ3, fun e => by rw [e1 e, hn]; rfl, fun e => ?_, s1, ?_, rfl, rfl, s2.len, s2.inv, s2.ok, ⟨s2.stay.x, s2.stay.st, s2.stay.lk⟩⟩
  · rw [e2 e]
    dsimp only
    rw [hlen, show (100 : Int) + (n + 1 : Nat) = 101 + n by omega]; rfl
  · rw [s2.si]
    show ((((μ.sides ++ [sd0 true x (100 + (n : Int)) 0]) ++ [sd0 false y (101 + n) 0]).set n _).set (n + 1) _) = _
    rw [List.append_assoc, List.set_append_right _ _ (by omega), hn, Nat.sub_self, List.set_append_right _ _ (by omega), hn, show n + 1 - n = 1 by omega]
    rfl

end Go.Proofs.YtjodmedgkmeklaaGreat

/-
  Chapter 14's example (known).
-/
namespace Go.Proofs.YtjodmedgkmeklaaGreat
open Go Go.RowKit Go.Maps
attribute [local go_sem] extUpon run_store_tm
attribute [local go_sem ↓] Tm.val_cell eval_put_ne eval_put_none eval_put_same size_put eval_const
attribute [local go_sem ↓] meth_Atom meth_Public meth_Shared meth_Chain meth_Digest meth_Box meth_Empty
attribute [local go_sem ↓] run_build_chain run_build_digest run_build_box
attribute [local go_sem] ta_Atom_Atom ta_Public_Atom ta_Shared_Atom ta_Chain_Atom ta_Digest_Atom ta_Box_Atom ta_Empty_Atom ta_Nil_Atom ta_Atom_Public ta_Public_Public ta_Shared_Public ta_Chain_Public ta_Digest_Public ta_Box_Public ta_Empty_Public ta_Nil_Public ta_Atom_Shared ta_Public_Shared ta_Shared_Shared ta_Chain_Shared ta_Digest_Shared ta_Box_Shared ta_Empty_Shared ta_Nil_Shared ta_Atom_Chain ta_Public_Chain ta_Shared_Chain ta_Chain_Chain ta_Digest_Chain ta_Box_Chain ta_Empty_Chain ta_Nil_Chain ta_Atom_Digest ta_Public_Digest ta_Shared_Digest ta_Chain_Digest ta_Digest_Digest ta_Box_Digest ta_Empty_Digest ta_Nil_Digest ta_Atom_Box ta_Public_Box ta_Shared_Box ta_Chain_Box ta_Digest_Box ta_Box_Box ta_Empty_Box ta_Nil_Box ta_Atom_Empty ta_Public_Empty ta_Shared_Empty ta_Chain_Empty ta_Digest_Empty ta_Box_Empty ta_Empty_Empty ta_Nil_Empty
variable {f : Int → List UInt8} {P : Int → Prop} {w0 w W W2 W3 : World} {μ μ2 : MS} {c d wb : Nat} {B : Int} {F : Nat → Prop}

theorem same_self (t : Tm) (w : World) (hI : Itoa w Small f) (ht : t.all Small) (hs : sz t ≤ 10000) : Calls Tryz.prog 15 #[t.val, t.val] w fun e w' => e = .returned (.bool true) ∧ Ext w w' := by
  have := same_any (R := Small) (f := f) t t w hI ht ht hs hs
  rwa [decide_eq_true rfl] at this
theorem SRow.at10 {w : World} {a : Option Addr} {l : List Sd} (h : SRow w a l) (h0 : 0 < l.length) : ∃ g, a = some ⟨g, 0, none⟩ ∧ ∀ i s, l[i]? = some s → ∀ j u, s.cells10[j]? = some u → w.cell? ⟨g, i * 10 + j, none⟩ = some u := by
  obtain ⟨g, h1, _⟩ := h 0 _ (List.getElem?_eq_getElem h0)
  refine ⟨g, h1, fun i s hs j u hu => ?_⟩
  obtain ⟨g2, h2, h3⟩ := h i s hs
  rw [h1] at h2
  cases h2
  exact h3 j u hu

set_option maxHeartbeats 16000000 in
set_option maxRecDepth 100000 in
theorem known_any (N : Nums f P) (hP : ∀ n, P1 n → P n) (hI : Itoa w Small f) :
    Calls Tryz.prog 12 #[] w fun e w' => e = .returned (.bool true) ∧ Ext w w' := by
  have HN := hid N
  have HP := hid hP
  have HE0 := hid (Ext.alloc w (.cells #[.int .i64 1, .int .i64 2] 3 (0, 0)))
  have HI := hid (hI.later HE0.out)
  have HNW := hid (new_w (W := w.alloc (.cells #[.int .i64 1, .int .i64 2] 3 (0, 0))) (sa := some ⟨w.heap.size, 0, none⟩) (sc := 2) N hP HI.out (ns := [1, 2]) (by decide) (by decide) (by decide) (rd_new _ _ _ _ _ (blk_new w _) rfl))
  have hst : (newMS f P [1, 2]).statics = [1, 2] := by
    have := (sees_same (f := f) (P := P) (μ := newMS0 f [1, 2]) (newMS0 f [1, 2]).pool).2.2.2.1
    exact this.trans (newMS0_statics _)
  have hbl := newMS0_bland (f := f) hP (ns := [1, 2]) (fun n hn => by simp at hn; exact ⟨hP _ (.inl (by omega)), by omega⟩)
  obtain ⟨q1, q2, q3, _, _⟩ := sees_same (f := f) (P := P) (μ := newMS0 f [1, 2]) (newMS0 f [1, 2]).pool
  have hsd : (newMS f P [1, 2]).sides = [] := q3.trans hbl.sides
  have hpl : (newMS f P [1, 2]).pool.length ≤ 7 := by
    have h1 : (newMS f P [1, 2]).pool = (newMS0 f [1, 2]).pool := q1
    rw [h1]; exact hbl.len
  have hinv := Inv.new N hP (ns := [1, 2]) (by decide) (by decide)
  obtain ⟨μ1, μ2, μ3, hpair⟩ := pair N hP hinv.1 hinv.2 (x := 1) (y := 2) (n := 0) (by rw [hst]; decide) (by rw [hst]; decide) (by rw [hsd]; rfl) (by omega) (by omega)
  have HA := hid (hpair.one 0)
  have HB := hid (hpair.two 0)
  have HS := hid hpair.shk
  have hsi := hpair.si
  rw [hsd, List.nil_append] at hsi
  have HSI := hid hsi
  have e100 : P (100 + ((0 : Nat) : Int)) := hP _ (.inr (by omega))
  have e101 : P (101 + ((0 : Nat) : Int)) := hP _ (.inr (by omega))
  have s1 : P 1 := hP _ (.inl (by omega))
  have s2 : P 2 := hP _ (.inl (by omega))
  have HH6 := hid (all_of N.small (ok_hash6 e100 e101 s2 s1))
  have HH4 := hid (all_of N.small (ok_hash4 e100 e101 s2))
  clear N hP hI hst hbl q1 q2 q3 hsd hpl hinv hpair hsi e100 e101 s1 s2
  go_enter Tryz.func12, Tryz.ntmps12
  go_wp2_with fail
  refine HNW.out.mono ?_
  rintro e w2 ⟨wb, rfl, hw2⟩
  have HW0 := hid hw2
  clear hw2 HNW
  generalize newMS f P [1, 2] = μ0 at *
  generalize World.alloc w _ = w1 at *
  go_wp2_with fail
  have hplay := play_n HN.out HP.out HI.out HW0.out (kind := 1) (a := 1) (b := 1) (e := 0) (by omega) (by omega) (by omega) (by omega) (by omega) (by omega) (by omega) (by omega) (by omega)
  rw [HA.out] at hplay
  refine hplay.mono ?_
  rintro e w3 ⟨rfl, hw3, _⟩
  have HW1 := hid hw3
  clear hw3 hplay HW0 HA
  go_wp2_with fail
  have hplay := play_n HN.out HP.out HI.out HW1.out (kind := 1) (a := 0) (b := 2) (e := 0) (by omega) (by omega) (by omega) (by omega) (by omega) (by omega) (by omega) (by omega) (by omega)
  rw [HB.out] at hplay
  refine hplay.mono ?_
  rintro e w4 ⟨rfl, hw4, _⟩
  have HW2 := hid hw4
  clear hw4 hplay HW1 HB
  go_wp2_with fail
  have hshk := shakes_w HN.out HP.out HI.out HW2.out 0 1 (intOk_small (by omega)) (intOk_small (by omega)) (by omega) (by omega) (by omega) (by omega)
  have hs := HS.out
  change MS.shk f P 0 1 3 μ2 = (μ3, true) at hs
  rw [hs] at hshk
  refine hshk.mono ?_
  rintro e w5 ⟨rfl, hw5⟩
  have HW3 := hid hw5
  clear hw5 hshk HW2 HS hs
  go_wp2_with fail
  have hsd := sides_w HN.out.small HP.out HW3.out (by omega) (by omega)
  rw [HSI.out] at hsd
  refine hsd.mono ?_
  rintro e w6 ⟨sa, sc, rfl, hrow, hE6⟩
  obtain ⟨g, rfl, hcell⟩ := hrow.at10 (by decide)
  have HE6 := hid (HE0.out.trans (HW3.out.ext.trans hE6))
  have HI6 := hid (HI.out.later (HW3.out.ext.trans hE6))
  obtain ⟨hu, hd, hhv⟩ := Va.of (t := hash6 (100 + ((0 : Nat) : Int)) (101 + ((0 : Nat) : Int)) 2 1) (by simp [hash6])
  obtain ⟨mu, md, hmv⟩ := Va.of (t := hash4 (100 + ((0 : Nat) : Int)) (101 + ((0 : Nat) : Int)) 2) (by simp [hash4])
  have HC0 := hid (hcell 0 _ rfl)
  have HC1 := hid (hcell 1 _ rfl)
  have q4 : w6.cell? ⟨g, 4, none⟩ = some (.int .i64 1) := HC0.out 4 _ rfl
  have q5 : w6.cell? ⟨g, 5, none⟩ = some (.int .i64 2) := HC0.out 5 _ rfl
  have q6 : w6.cell? ⟨g, 6, none⟩ = some (.iface hu hd) := hhv.eq ▸ HC0.out 6 _ rfl
  have q7 : w6.cell? ⟨g, 7, none⟩ = some (.iface mu md) := hmv.eq ▸ HC0.out 7 _ rfl
  have q14 : w6.cell? ⟨g, 14, none⟩ = some (.int .i64 1) := HC1.out 4 _ rfl
  have q15 : w6.cell? ⟨g, 15, none⟩ = some (.int .i64 1) := HC1.out 5 _ rfl
  have q16 : w6.cell? ⟨g, 16, none⟩ = some (.iface hu hd) := hhv.eq ▸ HC1.out 6 _ rfl
  have q17 : w6.cell? ⟨g, 17, none⟩ = some (.iface mu md) := hmv.eq ▸ HC1.out 7 _ rfl
  have HQ8 := hid (And.intro q4 (And.intro q5 (And.intro q6 (And.intro q7 (And.intro q14 (And.intro q15 (And.intro q16 q17)))))))
  have hs1 := fun W' (hW : Ext w6 W') => same_self (f := f) _ W' (HI6.out.later hW) HH6.out (by rw [sz_hash6]; omega)
  have hs2 := fun W' (hW : Ext w6 W') => same_self (f := f) _ W' (HI6.out.later hW) HH4.out (by rw [sz_hash4]; omega)
  rw [hhv.eq] at hs1
  rw [hmv.eq] at hs2
  have HS1 := hid hs1
  have HS2 := hid hs2
  clear hcell hrow hE6 hhv hmv HC0 HC1 q4 q5 q6 q7 q14 q15 q16 q17 hs1 hs2 HI6 HSI hsd HW3
  go_wp2_with fail
  refine reg_begin 54 (by kernel_rfl) ?_
  refine reg_hide (fun Q2 HQ => ?_)
  generalize hW : World.drew _ = Wa
  have HE : Hid (Ext w6 Wa) := hid (by rw [← hW]; exact Ext.drew _)
  clear hW
  refine reg_pure 0 rfl (by kernel_rfl) (by kernel_rfl) ?_; apply Exists.intro; refine ⟨fun w' => ?_, ?_⟩; · go_simp; exact rfl
  refine reg_pure 1 rfl (by kernel_rfl) (by kernel_rfl) ?_; apply Exists.intro; refine ⟨fun w' => ?_, ?_⟩; · go_simp; exact rfl
  refine reg_pure 2 rfl (by kernel_rfl) (by kernel_rfl) ?_; apply Exists.intro; refine ⟨fun w' => ?_, ?_⟩; · go_simp; exact rfl
  refine reg_pure 3 rfl (by kernel_rfl) (by kernel_rfl) ?_; apply Exists.intro; refine ⟨fun w' => ?_, ?_⟩; · go_simp; exact rfl
  refine reg_pure 4 rfl (by kernel_rfl) (by kernel_rfl) ?_; apply Exists.intro; refine ⟨fun w' => ?_, ?_⟩; · go_simp; exact rfl
  refine reg_pure 5 rfl (by kernel_rfl) (by kernel_rfl) ?_; apply Exists.intro; refine ⟨fun w' => ?_, ?_⟩; · go_simp; exact rfl
  refine reg_pure 6 rfl (by kernel_rfl) (by kernel_rfl) ?_; apply Exists.intro; refine ⟨fun w' => ?_, ?_⟩; · go_simp; exact rfl
  refine reg_quiet 7 rfl (by kernel_rfl) (by kernel_rfl) ?_; apply Exists.intro; refine ⟨fun w' hw' => ?_, ?_⟩; · have q0 := (HE.out.trans hw').cell (HQ8.out.1); go_simp; exact ⟨rfl, Ext.refl _⟩
  refine reg_pure 8 rfl (by kernel_rfl) (by kernel_rfl) ?_; apply Exists.intro; refine ⟨fun w' => ?_, ?_⟩; · go_simp; exact rfl
  refine reg_pure 9 rfl (by kernel_rfl) (by kernel_rfl) ?_; apply Exists.intro; refine ⟨fun w' => ?_, ?_⟩; · go_simp; exact rfl
  refine reg_pure 10 rfl (by kernel_rfl) (by kernel_rfl) ?_; apply Exists.intro; refine ⟨fun w' => ?_, ?_⟩; · go_simp; exact rfl
  refine reg_pure 11 rfl (by kernel_rfl) (by kernel_rfl) ?_; apply Exists.intro; refine ⟨fun w' => ?_, ?_⟩; · go_simp; exact rfl
  refine reg_pure 12 rfl (by kernel_rfl) (by kernel_rfl) ?_; apply Exists.intro; refine ⟨fun w' => ?_, ?_⟩; · go_simp; exact rfl
  refine reg_pure 13 rfl (by kernel_rfl) (by kernel_rfl) ?_; apply Exists.intro; refine ⟨fun w' => ?_, ?_⟩; · go_simp; exact rfl
  refine reg_quiet 14 rfl (by kernel_rfl) (by kernel_rfl) ?_; apply Exists.intro; refine ⟨fun w' hw' => ?_, ?_⟩; · have q0 := (HE.out.trans hw').cell (HQ8.out.2.2.2.2.1); go_simp; exact ⟨rfl, Ext.refl _⟩
  refine reg_pure 15 rfl (by kernel_rfl) (by kernel_rfl) ?_; apply Exists.intro; refine ⟨fun w' => ?_, ?_⟩; · go_simp; exact rfl
  refine reg_pure 16 rfl (by kernel_rfl) (by kernel_rfl) ?_; apply Exists.intro; refine ⟨fun w' => ?_, ?_⟩; · go_simp; exact rfl
  refine reg_pure 17 rfl (by kernel_rfl) (by kernel_rfl) ?_; apply Exists.intro; refine ⟨fun w' => ?_, ?_⟩; · go_simp; exact rfl
  refine reg_pure 18 rfl (by kernel_rfl) (by kernel_rfl) ?_; apply Exists.intro; refine ⟨fun w' => ?_, ?_⟩; · go_simp; exact rfl
  refine reg_pure 19 rfl (by kernel_rfl) (by kernel_rfl) ?_; apply Exists.intro; refine ⟨fun w' => ?_, ?_⟩; · go_simp; exact rfl
  refine reg_pure 20 rfl (by kernel_rfl) (by kernel_rfl) ?_; apply Exists.intro; refine ⟨fun w' => ?_, ?_⟩; · go_simp; exact rfl
  refine reg_quiet 21 rfl (by kernel_rfl) (by kernel_rfl) ?_; apply Exists.intro; refine ⟨fun w' hw' => ?_, ?_⟩; · have q0 := (HE.out.trans hw').cell (HQ8.out.2.1); go_simp; exact ⟨rfl, Ext.refl _⟩
  refine reg_pure 22 rfl (by kernel_rfl) (by kernel_rfl) ?_; apply Exists.intro; refine ⟨fun w' => ?_, ?_⟩; · go_simp; exact rfl
  refine reg_pure 23 rfl (by kernel_rfl) (by kernel_rfl) ?_; apply Exists.intro; refine ⟨fun w' => ?_, ?_⟩; · go_simp; exact rfl
  refine reg_pure 24 rfl (by kernel_rfl) (by kernel_rfl) ?_; apply Exists.intro; refine ⟨fun w' => ?_, ?_⟩; · go_simp; exact rfl
  refine reg_pure 25 rfl (by kernel_rfl) (by kernel_rfl) ?_; apply Exists.intro; refine ⟨fun w' => ?_, ?_⟩; · go_simp; exact rfl
  refine reg_pure 26 rfl (by kernel_rfl) (by kernel_rfl) ?_; apply Exists.intro; refine ⟨fun w' => ?_, ?_⟩; · go_simp; exact rfl
  refine reg_pure 27 rfl (by kernel_rfl) (by kernel_rfl) ?_; apply Exists.intro; refine ⟨fun w' => ?_, ?_⟩; · go_simp; exact rfl
  refine reg_quiet 28 rfl (by kernel_rfl) (by kernel_rfl) ?_; apply Exists.intro; refine ⟨fun w' hw' => ?_, ?_⟩; · have q0 := (HE.out.trans hw').cell (HQ8.out.2.2.2.2.2.1); go_simp; exact ⟨rfl, Ext.refl _⟩
  refine reg_pure 29 rfl (by kernel_rfl) (by kernel_rfl) ?_; apply Exists.intro; refine ⟨fun w' => ?_, ?_⟩; · go_simp; exact rfl
  refine reg_pure 30 rfl (by kernel_rfl) (by kernel_rfl) ?_; apply Exists.intro; refine ⟨fun w' => ?_, ?_⟩; · go_simp; exact rfl
  refine reg_pure 31 rfl (by kernel_rfl) (by kernel_rfl) ?_; apply Exists.intro; refine ⟨fun w' => ?_, ?_⟩; · go_simp; exact rfl
  refine reg_pure 32 rfl (by kernel_rfl) (by kernel_rfl) ?_; apply Exists.intro; refine ⟨fun w' => ?_, ?_⟩; · go_simp; exact rfl
  refine reg_pure 33 rfl (by kernel_rfl) (by kernel_rfl) ?_; apply Exists.intro; refine ⟨fun w' => ?_, ?_⟩; · go_simp; exact rfl
  refine reg_pure 34 rfl (by kernel_rfl) (by kernel_rfl) ?_; apply Exists.intro; refine ⟨fun w' => ?_, ?_⟩; · go_simp; exact rfl
  refine reg_quiet 35 rfl (by kernel_rfl) (by kernel_rfl) ?_; apply Exists.intro; refine ⟨fun w' hw' => ?_, ?_⟩; · have q0 := (HE.out.trans hw').cell (HQ8.out.2.2.1); go_simp; exact ⟨rfl, Ext.refl _⟩
  refine reg_pure 36 rfl (by kernel_rfl) (by kernel_rfl) ?_; apply Exists.intro; refine ⟨fun w' => ?_, ?_⟩; · go_simp; exact rfl
  refine reg_pure 37 rfl (by kernel_rfl) (by kernel_rfl) ?_; apply Exists.intro; refine ⟨fun w' => ?_, ?_⟩; · go_simp; exact rfl
  refine reg_pure 38 rfl (by kernel_rfl) (by kernel_rfl) ?_; apply Exists.intro; refine ⟨fun w' => ?_, ?_⟩; · go_simp; exact rfl
  refine reg_quiet 39 rfl (by kernel_rfl) (by kernel_rfl) ?_; apply Exists.intro; refine ⟨fun w' hw' => ?_, ?_⟩; · have q0 := (HE.out.trans hw').cell (HQ8.out.2.2.2.2.2.2.1); go_simp; exact ⟨rfl, Ext.refl _⟩
  refine reg_quiet 40 rfl (by kernel_rfl) (by kernel_rfl) ?_; apply Exists.intro; refine ⟨fun w' hw' => ?_, ?_⟩; · go_simp; exact HS1.out w' (HE.out.trans hw')
  refine reg_pure 41 rfl (by kernel_rfl) (by kernel_rfl) ?_; apply Exists.intro; refine ⟨fun w' => ?_, ?_⟩; · go_simp; exact rfl
  refine reg_pure 42 rfl (by kernel_rfl) (by kernel_rfl) ?_; apply Exists.intro; refine ⟨fun w' => ?_, ?_⟩; · go_simp; exact rfl
  refine reg_pure 43 rfl (by kernel_rfl) (by kernel_rfl) ?_; apply Exists.intro; refine ⟨fun w' => ?_, ?_⟩; · go_simp; exact rfl
  refine reg_pure 44 rfl (by kernel_rfl) (by kernel_rfl) ?_; apply Exists.intro; refine ⟨fun w' => ?_, ?_⟩; · go_simp; exact rfl
  refine reg_pure 45 rfl (by kernel_rfl) (by kernel_rfl) ?_; apply Exists.intro; refine ⟨fun w' => ?_, ?_⟩; · go_simp; exact rfl
  refine reg_quiet 46 rfl (by kernel_rfl) (by kernel_rfl) ?_; apply Exists.intro; refine ⟨fun w' hw' => ?_, ?_⟩; · have q0 := (HE.out.trans hw').cell (HQ8.out.2.2.2.1); go_simp; exact ⟨rfl, Ext.refl _⟩
  refine reg_pure 47 rfl (by kernel_rfl) (by kernel_rfl) ?_; apply Exists.intro; refine ⟨fun w' => ?_, ?_⟩; · go_simp; exact rfl
  refine reg_pure 48 rfl (by kernel_rfl) (by kernel_rfl) ?_; apply Exists.intro; refine ⟨fun w' => ?_, ?_⟩; · go_simp; exact rfl
  refine reg_pure 49 rfl (by kernel_rfl) (by kernel_rfl) ?_; apply Exists.intro; refine ⟨fun w' => ?_, ?_⟩; · go_simp; exact rfl
  refine reg_quiet 50 rfl (by kernel_rfl) (by kernel_rfl) ?_; apply Exists.intro; refine ⟨fun w' hw' => ?_, ?_⟩; · have q0 := (HE.out.trans hw').cell (HQ8.out.2.2.2.2.2.2.2); go_simp; exact ⟨rfl, Ext.refl _⟩
  refine reg_quiet 51 rfl (by kernel_rfl) (by kernel_rfl) ?_; apply Exists.intro; refine ⟨fun w' hw' => ?_, ?_⟩; · go_simp; exact HS2.out w' (HE.out.trans hw')
  refine reg_pure 52 rfl (by kernel_rfl) (by kernel_rfl) ?_; apply Exists.intro; refine ⟨fun w' => ?_, ?_⟩; · go_simp; exact rfl
  refine reg_pure 53 rfl (by kernel_rfl) (by kernel_rfl) ?_; apply Exists.intro; refine ⟨fun w' => ?_, ?_⟩; · go_simp; exact rfl
  refine reg_done (by kernel_rfl) (fun W9 hw9 => ?_) _
  rw [HQ.out]
  clear HQ Q2
  have HE9 := hid (HE6.out.trans (HE.out.trans hw9))
  clear hw9 HE
  go_simp
  go_wp2_with fail
  go_ret
  exact ⟨rfl, HE9.out⟩

end Go.Proofs.YtjodmedgkmeklaaGreat

/-
  Secrets' numbers are told apart, whatever the digit table holds; so are great data from small.
-/
namespace Go.Proofs.YtjodmedgkmeklaaGreat
open Go Go.RowKit

def dgn (k u : Nat) : List UInt8 := (((wrote zero24 k u).drop 1).take k).map bt
def cand (u : Nat) (b : Bool) : List UInt8 := if u < 100 then Lib.decDigits u else dgn (Lib.l10 (Lib.bitLen u) + if b then 1 else 0) u
def okN (u : Nat) : Bool := (decide (1 ≤ u) && decide (u < 60) && decide (u ≠ 10) && decide (u ≠ 11)) || (decide (100 ≤ u) && decide (u < 112))
def chkN : Bool := (List.range 112).all fun u => (List.range 112).all fun v => !okN u || !okN v || (u == v) || [true, false].all fun a => [true, false].all fun b => !(cand u a == cand v b)
theorem chkN_ok : chkN = true := by decide +kernel
theorem cand_inj (u : Nat) (h1 : u < 112) (h2 : okN u = true) (v : Nat) (h3 : v < 112) (h4 : okN v = true) (a b : Bool) (h : cand u a = cand v b) : u = v := by
  have h5 := chkN_ok
  unfold chkN at h5
  rw [List.all_eq_true] at h5
  have h6 := h5 u (List.mem_range.2 h1)
  rw [List.all_eq_true] at h6
  have h7 := h6 v (List.mem_range.2 h3)
  rw [h2, h4] at h7
  simp only [Bool.not_true, Bool.false_or, Bool.or_eq_true, beq_iff_eq] at h7
  rcases h7 with h7 | h7
  · exact h7
  · rw [List.all_eq_true] at h7
    have h8 := h7 a (by cases a <;> simp)
    rw [List.all_eq_true] at h8
    have h9 := h8 b (by cases b <;> simp)
    rw [h] at h9
    simp at h9
theorem itoaT_cand (T : Nat → Int) {n : Int} (h0 : 0 ≤ n) : ∃ b, itoaT T n = cand n.toNat b := by
  unfold itoaT cand
  rw [if_neg (by omega)]
  by_cases h : n < 100
  · exact ⟨true, by rw [if_pos h, if_pos (by omega)]⟩
  · rw [if_neg h]
    refine ⟨decide (T (Lib.l10 (Lib.bitLen n.toNat)) ≤ n.toNat), ?_⟩
    rw [if_neg (by omega)]
    unfold dg dgs dgn nd
    simp only [decide_eq_true_eq]
theorem okN_P1 {n : Int} (h : P1 n) : okN n.toNat = true ∧ n.toNat < 112 ∧ 0 ≤ n := by
  unfold P1 at h
  refine ⟨?_, by omega, by omega⟩
  simp only [okN, Bool.or_eq_true, Bool.and_eq_true, decide_eq_true_eq]
  omega
theorem inj1 (T : Nat → Int) (m n : Int) (hm : P1 m) (hn : P1 n) (h : itoaT T m = itoaT T n) : m = n := by
  obtain ⟨a1, a2, a3⟩ := okN_P1 hm
  obtain ⟨b1, b2, b3⟩ := okN_P1 hn
  obtain ⟨x, hx⟩ := itoaT_cand T a3
  obtain ⟨y, hy⟩ := itoaT_cand T b3
  rw [hx, hy] at h
  have := cand_inj _ a2 a1 _ b2 b1 x y h
  omega
theorem nums1 (T : Nat → Int) : Nums (itoaT T) P1 := nums_of T (fun _ h => h.small) (inj1 T)

theorem l10_lo : ∀ u, u < 61 → Lib.l10 (Lib.bitLen u) ≤ 1 := by decide +kernel
theorem l10_hi : ∀ u, u < 100 → Lib.l10 (Lib.bitLen (u + 900)) = 3 := by decide +kernel
theorem dg_len' (T : Nat → Int) {u : Nat} (h : u < 8192) : (dg T u).length = nd T u := by
  unfold dg; rw [List.length_map, dgs_len T h]
/-- Great data bears no small data's name. -/
theorem atom_apart (T : Nat → Int) {m n : Int} (hm : 0 ≤ m ∧ m ≤ 59) (hn : 900 ≤ n ∧ n ≤ 998) : nm (itoaT T) (.atom (-1 - n)) ≠ nm (itoaT T) (.atom (-1 - m)) := by
  intro h
  simp only [nm, List.cons.injEq, true_and] at h
  unfold itoaT at h
  rw [if_pos (by omega), if_pos (by omega)] at h
  have h := congrArg List.length h
  rw [List.length_cons, List.length_cons, dg_len' T (by omega), dg_len' T (by omega)] at h
  unfold nd at h
  have h1 := l10_lo (-1 - m).natAbs (by omega)
  have h2 := l10_hi ((-1 - n).natAbs - 900) (by omega)
  rw [show (-1 - n).natAbs - 900 + 900 = (-1 - n).natAbs by omega] at h2
  rw [h2] at h
  split at h <;> split at h <;> omega

end Go.Proofs.YtjodmedgkmeklaaGreat

/-
  In a world of the right shape the digit table holds twenty numbers, whatever they are.
-/
namespace Go.Proofs.YtjodmedgkmeklaaGreat
open Go Go.RowKit

theorem tab_ct : Tryz.prog.cellTypes Tryz.prog.depth 175 = some (List.replicate 20 144) := by kernel_rfl
theorem tab_row : ((begin Tryz.prog (fun _ _ => 0) default).world.heap[0]?).bind Obj.row? = some (Array.replicate 20 (.int .u64 0), 175) := by kernel_rfl
theorem tab_bd : Tryz.prog.buildable 175 = true := by kernel_rfl
theorem tab_lt : 0 < Tryz.prog.globals.size := of_decide_eq_true (by kernel_rfl)
theorem tab_u : Tryz.prog.underlying 144 = some (.int .u64) := by kernel_rfl

set_option maxRecDepth 100000 in
theorem cell_u64 {w : World} {v : Value} (h : Cell.ok Tryz.prog w .any 0 144 v) : ∃ n, v = .int .u64 n := by
  unfold Cell.ok at h
  rw [tab_u] at h
  cases v <;> simp at h
  exact ⟨_, by rw [h.1]⟩

set_option maxRecDepth 100000 in
theorem tab_of {w : World} (h : w.ShapedOpen Tryz.prog) : ∃ T, TabAt w T := by
  obtain ⟨cs, hc, hs, hok⟩ := h.1 _ _ _ tab_lt tab_row
  obtain ⟨ts, ht, _, hc2⟩ := hok tab_bd
  rw [tab_ct] at ht
  have ht := Option.some.inj ht
  have hs : cs.size = 20 := by simpa using hs
  have hall : ∀ i, i < 20 → ∃ n, cs[i]? = some (.int .u64 n) := by
    intro i hi
    have hi' : i < cs.size := by omega
    obtain ⟨u, hu, hk⟩ := hc2 i cs[i] (Array.getElem?_eq_getElem hi')
    rw [← ht] at hu
    have hu2 : u = 144 := List.eq_of_mem_replicate (List.mem_of_getElem? hu)
    subst hu2
    obtain ⟨n, hn⟩ := cell_u64 hk
    exact ⟨n, by rw [Array.getElem?_eq_getElem hi', hn]⟩
  refine ⟨fun i => match cs[i]? with | some (.int _ n) => n | _ => 0, fun i hi => ?_⟩
  obtain ⟨n, hn⟩ := hall i hi
  refine cell_blk hc ?_
  simp only [hn]

end Go.Proofs.YtjodmedgkmeklaaGreat
