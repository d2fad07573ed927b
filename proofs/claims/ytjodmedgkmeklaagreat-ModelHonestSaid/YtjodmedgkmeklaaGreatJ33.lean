/-
  Texts merged: Q43.
-/
import Derived.Test.YtjodmedgkmeklaaGreatJ32
/-
  A world, whatever was done: what its functions do (Play and all that tells).
-/
namespace Go.Proofs.YtjodmedgkmeklaaGreat
open Go Go.RowKit Go.Maps
variable {f : Int → List UInt8} {P : Int → Prop} {w0 w W W2 W3 : World} {μ μ2 : MS} {c d wb : Nat} {B : Int} {F G : Nat → Prop}

theorem add_prefix (μ : MS) (t : Tm) : μ.pool <+: (μ.add f t).pool := by
  rw [add_pool]; split
  · exact List.prefix_refl _
  · exact List.prefix_append _ _
theorem sent_prefix : ∀ (l : List Tm) {μ : MS}, μ.pool <+: (μ.sent f P l).pool
  | [], _ => List.prefix_refl _
  | t :: l, μ => (add_prefix μ t).trans (sent_prefix l (μ := (μ.add f t).see f P t))
theorem put_prefix (t : Tm) : μ.pool <+: (μ.put f t).1.pool := by
  unfold MS.put; split
  · exact List.prefix_refl _
  · exact add_prefix μ t
theorem play_prefix (kind a b e : Int) : μ.pool <+: (μ.play f P kind a b e).1.pool := by
  by_cases k1 : kind = 1
  · subst k1
    rw [play_begin_eq]; unfold MS.begin
    split <;> (try split) <;> exact List.prefix_refl _
  · by_cases h2 : 2 ≤ kind ∧ kind ≤ 5
    · rw [act_eq h2.1 h2.2]; unfold MS.honest
      cases hs : μ.sideAt a with
      | none => exact List.prefix_refl _
      | some s =>
        show μ.pool <+: (μ.act f P a.toNat s kind b e).1.pool
        unfold MS.act
        split
        · unfold MS.speak
          split
          · exact List.prefix_refl _
          · split
            · exact List.prefix_refl _
            · exact sent_prefix _
        · split
          · rw [hear_eq]
            split
            · exact List.prefix_refl _
            · split
              · exact List.prefix_refl _
              · unfold heardT; split <;> exact List.prefix_refl _
          · split
            · unfold MS.say
              split
              · exact List.prefix_refl _
              · split
                · exact List.prefix_refl _
                · exact sent_prefix _
            · rw [take_eq]
              split
              · exact List.prefix_refl _
              · unfold takeT
                split
                · exact List.prefix_refl _
                · split <;> exact List.prefix_refl _
                · exact List.prefix_refl _
    · by_cases k6 : kind = 6
      · subst k6; rw [play_leak_eq]; unfold MS.leak
        split <;> exact List.prefix_refl _
      · have e1 : μ.play f P kind a b e = match μ.made f kind a b e with | none => (μ, 1) | some t => μ.put f t := by
          unfold MS.play; rw [if_neg k1, if_neg h2, if_neg k6]; rfl
        rw [e1]
        cases μ.made f kind a b e with
        | none => exact List.prefix_refl _
        | some t => exact put_prefix t
theorem Inv.xfew (h : Inv f P c μ) : XFew μ := ⟨own10 ++ [1, 2, 3, 4, 5, 6], by decide, fun n hn => by
  rcases (h.x n).1 hn with h1 | h1
  · refine List.mem_append_left _ ?_
    rcases (show n = 50 ∨ n = 51 ∨ n = 52 ∨ n = 53 ∨ n = 54 ∨ n = 55 ∨ n = 56 ∨ n = 57 ∨ n = 58 ∨ n = 59 by omega) with rfl | rfl | rfl | rfl | rfl | rfl | rfl | rfl | rfl | rfl <;> decide
  · have h2 := h.stat _ (h.lk n h1)
    refine List.mem_append_right _ ?_
    rcases (show n = 1 ∨ n = 2 ∨ n = 3 ∨ n = 4 ∨ n = 5 ∨ n = 6 by omega) with rfl | rfl | rfl | rfl | rfl | rfl <;> decide⟩

/-- A world, whatever was done. -/
def Wd (f : Int → List UInt8) (P : Int → Prop) (c d : Nat) (B : Int) (F : Nat → Prop) (w0 W : World) (wb : Nat) (μ : MS) : Prop :=
  ∃ own m v, MAt f P w0 W own m μ v ∧ m.wb = wb ∧ PoolOk f P μ ∧ Inv f P c μ ∧ Took d μ ∧ Upto B μ ∧ 0 < μ.pool.length ∧ ∀ b, F b → own b = none ∧ b < W.heap.size
theorem Wd.later (h : Wd f P c d B F w0 W wb μ) (he : Ext W W2) : Wd f P c d B F w0 W2 wb μ := by
  obtain ⟨own, m, v, h1, h2, h3, h4, h5, h6, h7, h8⟩ := h
  exact ⟨own, m, v, h1.later he, h2, h3, h4, h5, h6, h7, fun b hb => ⟨(h8 b hb).1, Nat.lt_of_lt_of_le (h8 b hb).2 he.size⟩⟩
/-- A fresh block is nobody's. -/
theorem Wd.free (h : Wd f P c d B F w0 W wb μ) (he : Ext W W2) (hG : ∀ b, G b → F b ∨ (W.heap.size ≤ b ∧ b < W2.heap.size)) : Wd f P c d B G w0 W2 wb μ := by
  obtain ⟨own, m, v, h1, h2, h3, h4, h5, h6, h7, h8⟩ := h
  refine ⟨own, m, v, h1.later he, h2, h3, h4, h5, h6, h7, fun b hb => ?_⟩
  rcases hG b hb with h9 | h9
  · exact ⟨(h8 b h9).1, Nat.lt_of_lt_of_le (h8 b h9).2 he.size⟩
  · exact ⟨h1.fresh h9.1, h9.2⟩
theorem Wd.less (h : Wd f P c d B F w0 W wb μ) (hG : ∀ b, G b → F b) : Wd f P c d B G w0 W wb μ := h.free (Ext.refl _) (fun b hb => .inl (hG b hb))
theorem Wd.ext (h : Wd f P c d B F w0 W wb μ) : Ext w0 W := by
  obtain ⟨own, m, v, h1, h2⟩ := h
  exact h1.ext
theorem Wd.inv (h : Wd f P c d B F w0 W wb μ) : Inv f P c μ := by
  obtain ⟨own, m, v, h1, h2, h3, h4, _⟩ := h
  exact h4
theorem Wd.pool (h : Wd f P c d B F w0 W wb μ) : PoolOk f P μ := by
  obtain ⟨own, m, v, h1, h2, h3, h4, _⟩ := h
  exact h3
theorem Wd.upto (h : Wd f P c d B F w0 W wb μ) : Upto B μ := by
  obtain ⟨own, m, v, h1, h2, h3, h4, h5, h6, _⟩ := h
  exact h6
theorem Wd.took (h : Wd f P c d B F w0 W wb μ) : Took d μ := by
  obtain ⟨own, m, v, h1, h2, h3, h4, h5, h6, _⟩ := h
  exact h5
theorem Wd.mono {c2 d2 : Nat} {B2 : Int} (h : Wd f P c d B F w0 W wb μ) (hc : c ≤ c2) (hd : d ≤ d2) (hB : B ≤ B2) : Wd f P c2 d2 B2 F w0 W wb μ := by
  obtain ⟨own, m, v, h1, h2, h3, h4, h5, h6, h7⟩ := h
  exact ⟨own, m, v, h1, h2, h3, h4.mono hc, h5.mono hd, h6.mono hB, h7⟩
theorem Wd.fit (hN : ∀ n, P n → Small n) (hP : ∀ n, P1 n → P n) (h : Wd f P c d B F w0 W wb μ) (hc : c ≤ 98) (hd : d ≤ 900) {s : Sd} (hs : s ∈ μ.sides) : Fit P s :=
  (h.inv.cn s hs).fit hN hc (Nat.le_trans (h.took s hs) hd) ((h.inv.own hP).fr s hs) ((h.inv.own hP).st s hs)
theorem new_w (N : Nums f P) (hP : ∀ n, P1 n → P n) (hI : Itoa W Small f) {ns : List Int} {sa : Option Addr} {sc : Nat} (hns : ∀ n ∈ ns, 1 ≤ n ∧ n ≤ 6) (hnl : ns.length ≤ 6) (hnd : ns.Nodup) (hrd : Rd W sa (ns.map (Value.int .i64))) :
    Calls Tryz.prog 27 #[.slice sa ns.length sc] W fun e w' => ∃ wb, e = .returned (ptr wb) ∧ Wd f P 0 0 0 (fun _ => False) W w' wb (newMS f P ns) := by
  refine (new_world N hP hI hns hnl hnd hrd).mono ?_
  rintro e w' ⟨own, m, v, he, h⟩
  have h2 := Inv.new N hP hns hnl
  obtain ⟨e1, e2, e3, e4, e5⟩ := sees_same (f := f) (P := P) (μ := newMS0 f ns) (newMS0 f ns).pool
  have hb := newMS0_bland (f := f) hP (ns := ns) (fun n hn => by have := hns n hn; exact ⟨hP _ (.inl (by omega)), by omega⟩)
  have hs0 : (newMS f P ns).sides = [] := e3.trans hb.sides
  refine ⟨m.wb, he, own, m, v, h, rfl, h2.2, h2.1, (fun s hs => by rw [hs0] at hs; cases hs), (fun s hs => by rw [hs0] at hs; cases hs), ?_⟩
  have hp0 : (newMS f P ns).pool = (newMS0 f ns).pool := e1
  rw [hp0]
  have h3 : ((mu0 (secs own10)).add f .empty).pool <+: (newMS0 f ns).pool := by
    unfold newMS0
    have h4 : ∀ (ns : List Int) (μ : MS), μ.pool <+: (μ.statics0 f ns).pool := by
      intro ns
      induction ns with
      | nil => intro μ; exact List.prefix_refl _
      | cons n ns ih => intro μ; exact (add_prefix (f := f) { μ with statics := μ.statics ++ [n] } (.pub n)).trans (ih (μ.static f n))
    have h5 : ∀ (k : Nat) (μ : MS), μ.pool <+: (μ.shown f k).pool := by
      intro k μ
      induction k with
      | zero => exact List.prefix_refl _
      | succ k ih => rw [shown_succ]; exact ih.trans (add_prefix _ _)
    exact (h4 ns _).trans (h5 4 _)
  have h6 : ((mu0 (secs own10)).add f .empty).pool = [.empty] := by rw [add_pool]; simp [mu0, names]
  have := h3.length_le
  rw [h6] at this
  exact ⟨this, fun b hb => False.elim hb⟩

/-- Play. -/
theorem play_w (N : Nums f P) (hP : ∀ n, P1 n → P n) (hI : Itoa w0 Small f) (h : Wd f P c d B F w0 W wb μ) {kind a b e : Int} (hk : 1 ≤ kind ∧ kind ≤ 12) (hao : IntOk a) (he : -1000000 ≤ e ∧ e ≤ 1000000) (hb : kind = 4 → b ≤ B) (hc : c ≤ 98) (hd : d ≤ 900) (h0 : 0 ≤ B) (h9 : B ≤ 999) :
    Calls Tryz.prog 16 #[ptr wb, .agg #[.int .i64 kind, .int .i64 a, .int .i64 b, .int .i64 e]] W fun r w' => r = .returned (.int .i64 (μ.play f P kind a b e).2) ∧ Wd f P (if kind = 4 then c + 1 else c) (if kind = 5 then d + 1 else d) B F w0 w' wb (μ.play f P kind a b e).1 ∧ ∀ b, F b → w'.heap[b]? = W.heap[b]? := by
  have hfit := fun s hs => Wd.fit N.small hP h hc hd (s := s) hs
  obtain ⟨own, m, v, h1, rfl, h3, h4, h5, h6, h7, h8⟩ := h
  have hinv := h4.play N hP h3 hc hk a b e
  have htk := h5.play (f := f) (P := P) kind a b e
  have hup := h6.play (f := f) (P := P) kind a b e hb h0 h9
  have hlen : 0 < (μ.play f P kind a b e).1.pool.length := Nat.lt_of_lt_of_le h7 (play_prefix (f := f) (P := P) (μ := μ) kind a b e).length_le
  have hst : μ.statics.length ≤ 1000 := Nat.le_trans h4.stl (by omega)
  have hlk : μ.leaked.length ≤ 1000 := Nat.le_trans h4.lkl (by omega)
  have hleft : ∀ {W' : World} {own2 : Nat → Option Tg} {m2 : MB} {v2 : KV} {T : Tg → Prop}, MAt f P w0 W' own2 m2 (μ.play f P kind a b e).1 v2 → m2.wb = m.wb → PoolOk f P (μ.play f P kind a b e).1 → Kept own T W W' → Owns W own own2 → Wd f P (if kind = 4 then c + 1 else c) (if kind = 5 then d + 1 else d) B F w0 W' m.wb (μ.play f P kind a b e).1 ∧ ∀ b, F b → W'.heap[b]? = W.heap[b]? :=
    fun hm hw hp hk ho => ⟨⟨_, _, _, hm, hw, hp, hinv, htk, hup, hlen, fun b hb => ⟨ho.none b (h8 b hb).2 (h8 b hb).1, Nat.lt_of_lt_of_le (h8 b hb).2 hk.size⟩⟩, fun b hb => hk.free b (h8 b hb).2 (h8 b hb).1⟩
  by_cases k1 : kind = 1
  · subst k1
    rw [play_begin_eq] at *
    refine (play_begin a b e h1 hst).mono ?_
    rintro r w' ⟨hr, own2, m2, hm, hw, _, _, _, hk, ho⟩
    refine ⟨hr, hleft hm hw ?_ hk ho⟩
    unfold MS.begin
    split
    · split
      · exact h3
      · exact ⟨h3.fine, h3.few, h3.ground, h3.inU⟩
    · exact h3
  · by_cases k5 : kind ≤ 5
    · rw [act_eq (by omega) k5] at *
      refine (play_honest N kind a b e ⟨by omega, k5⟩ hI h1 h3 (fun s hs => hfit s (List.mem_of_getElem? (sideAt_at hs))) he).mono ?_
      rintro r w' ⟨hr, own2, m2, v2, hm, hcore, hp, hk, ho⟩
      exact ⟨hr, hleft hm hcore.wb hp hk ho⟩
    · by_cases k6 : kind = 6
      · subst k6
        rw [play_leak_eq] at *
        refine (play_leak N a b e hao hI h1 h3 h4.xfew hst hlk).mono ?_
        rintro r w' ⟨hr, v2, hm, hk⟩
        refine ⟨hr, hleft hm rfl ?_ hk (Owns.refl _ _)⟩
        rw [leak_eq]
        split
        · exact PoolOk.learn N (μ := { μ with leaked := leakL μ a }) ⟨h3.fine, h3.few, h3.ground, h3.inU⟩ a
        · exact h3
      · have hpe : μ.play f P kind a b e = μ.make f (μ.made f kind a b e) := by
          rw [play_made_eq (by omega)]
          unfold MS.make
          cases μ.made f kind a b e <;> rfl
        refine (play_made N kind a b e ⟨by omega, hk.2⟩ hao hI h1 h3 (fun t ht => ?_)).mono ?_
        · have := h4.made N hP h3 ht
          exact ⟨this.ok, this.sz, this.grounded⟩
        · rintro r w' ⟨hr, own2, m2, v2, hm, hcore, hp, hk, ho⟩
          exact ⟨by rw [hpe]; exact hr, hleft (own2 := own2) (m2 := m2) (v2 := v2) (by rw [hpe]; exact hm) hcore.wb (by rw [hpe]; exact hp) hk ho⟩

theorem sides_w (hN : ∀ n, P n → Small n) (hP : ∀ n, P1 n → P n) (h : Wd f P c d B F w0 W wb μ) (hc : c ≤ 98) (hd : d ≤ 900) :
    Calls Tryz.prog 13 #[ptr wb] W fun e w' => ∃ a c, e = .returned (.slice a μ.sides.length c) ∧ SRow w' a μ.sides ∧ Ext W w' := by
  have hfit := fun s hs => Wd.fit hN hP h hc hd (s := s) hs
  have hfew := h.inv.few
  obtain ⟨own, m, v, h1, rfl, _⟩ := h
  exact sides_any h1 (by omega) (fun s hs => (hfit s hs).gh.gd.hash)
theorem pool_w (h : Wd f P c d B F w0 W wb μ) :
    Calls Tryz.prog 18 #[ptr wb] W fun e w' => ∃ a c, e = .returned (.slice a μ.pool.length c) ∧ Rd w' a (μ.pool.map Tm.val) ∧ Ext W w' := by
  have hfew := h.pool.few
  obtain ⟨own, m, v, h1, rfl, _, _, _, _, h7, _⟩ := h
  exact pool_any h1 h7 (by omega)
theorem leaked_w (h : Wd f P c d B F w0 W wb μ) (a : Int) (ha : IntOk a) :
    Calls Tryz.prog 14 #[ptr wb, .int .i64 a] W fun e w' => e = .returned (.bool (decide (a ∈ μ.leaked))) ∧ W = w' := by
  obtain ⟨own, m, v, h1, rfl, _⟩ := h
  exact leaked_any h1 a ha
/-- A base that tells what can be made. -/
structure Tells2 (f : Int → List UInt8) (μ : MS) (W : World) (kb : Nat) : Prop where
  can : ∀ W2, Ext W W2 → ∀ t : Tm, t.all Small → sz t ≤ 10000 → Calls Tryz.prog 21 #[ptr kb, t.val] W2 fun e w' => e = .returned (.bool (can f μ.x μ.S t)) ∧ Ext W2 w'
  has : ∀ W2, Ext W W2 → ∀ a, IntOk a → Calls Tryz.prog 22 #[ptr kb, .int .i64 a] W2 fun e w' => e = .returned (.bool (μ.x a)) ∧ W2 = w'
theorem Tells2.later {kb : Nat} (h : Tells2 f μ W kb) (he : Ext W W2) : Tells2 f μ W2 kb := ⟨fun W3 h3 => h.can W3 (he.trans h3), fun W3 h3 => h.has W3 (he.trans h3)⟩
theorem base_w (hI : Itoa w0 Small f) (h : Wd f P c d B F w0 W wb μ) :
    Calls Tryz.prog 20 #[ptr wb] W fun e w' => ∃ kb, e = .returned (ptr kb) ∧ W = w' ∧ Tells2 f μ W kb := by
  obtain ⟨own, m, v, h1, rfl, _⟩ := h
  refine (base_any h1).mono ?_
  rintro e w' ⟨rfl, rfl⟩
  refine ⟨m.k.kb, rfl, rfl, fun W2 hW t ht hs => ?_, fun W2 hW a ha => has_m (h1.later hW) a ha⟩
  have := can_any (f := f) (P := P) t W2 m.k v ((h1.itoa hI).later hW) (h1.later hW).base ht hs
  rwa [h1.bx, h1.bS] at this
theorem said_w (h : Wd f P c d B F w0 W wb μ) (hc : c ≤ 98) (k : Int) :
    Calls Tryz.prog 23 #[ptr wb, .int .i64 k] W fun e w' => ∃ a c, e = .returned (.slice a (saidAt μ k).length c) ∧ Rd w' a ((saidAt μ k).map Tm.val) ∧ Ext W w' := by
  have hinv := h.inv
  obtain ⟨own, m, v, h1, rfl, _⟩ := h
  refine said_any k h1 (fun s hs => ?_)
  have := hinv.cn s (List.mem_of_getElem? (sideAt_at hs))
  cases this with
  | i3 _ _ _ _ _ _ _ _ _ _ hr => have := hr.fewS; show _ ≤ 1000; simp only [sdI3]; omega
  | r3 _ _ _ _ _ _ _ _ _ _ hr => have := hr.fewS; show _ ≤ 1000; simp only [sdR3]; omega
  | _ => exact Nat.zero_le _
theorem accepted_w (h : Wd f P c d B F w0 W wb μ) (hd : d ≤ 900) (k : Int) :
    Calls Tryz.prog 26 #[ptr wb, .int .i64 k] W fun e w' => ∃ a c, e = .returned (.slice a (tookAt μ k).length c) ∧ Rd w' a ((tookAt μ k).map Tm.val) ∧ Ext W w' := by
  have htk := h.took
  obtain ⟨own, m, v, h1, rfl, _⟩ := h
  exact accepted_any k h1 (fun s hs => by have := htk s (List.mem_of_getElem? (sideAt_at hs)); omega)

end Go.Proofs.YtjodmedgkmeklaaGreat
