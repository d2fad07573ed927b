/-
  Texts merged: V6, Q41, V7.
-/
import Derived.Test.YtjodmedgkmeklaaGreatJ30
import Derived.Test.YtjodmedgkmeklaaGreatJ28
/-
  Ops keep the invariant: the listener makes a term; any op.
-/
namespace Go.Proofs.YtjodmedgkmeklaaGreat
open Go Go.RowKit
variable {f : Int → List UInt8} {P : Int → Prop} {x x2 : Int → Bool} {l l2 : List Sd} {s s2 r : Sd} {c d : Nat} {μ : MS}

theorem isBox_iff {t : Tm} : t.isBox = true ↔ ∃ k n a y, t = .box k n a y := by
  constructor
  · intro h; cases t <;> first | exact ⟨_, _, _, _, rfl⟩ | cases h
  · rintro ⟨_, _, _, _, rfl⟩; rfl
theorem sim_isBox {t u : Tm} (h : Sim f t u) (hu : u.isBox = true) : t.isBox = true := by
  obtain ⟨k, n, a, y, rfl⟩ := isBox_iff.1 hu
  cases t <;> simp only [Sim] at h
  rfl
/-- What is known of a box that is known. -/
theorem Inv.parts (h : Inv f P c μ) {k a y : Tm} {n : Int} (hF : Fine P (.box k n a y)) (hc : can f μ.x μ.S (.box k n a y) = true) : can f μ.x μ.S a = true ∧ (can f μ.x μ.S k = true → can f μ.x μ.S y = true) := by
  simp only [can, Bool.or_eq_true, Bool.and_eq_true] at hc
  rcases hc with h1 | h1
  · have h2 := h.cl k n a y hF h1
    exact ⟨can_here hF.ok.2.2.1.ne h2.1, fun hk => can_here hF.ok.2.2.2.ne (h2.2 hk)⟩
  · exact ⟨h1.1.2, fun _ => h1.2⟩
/-- A term that the listener may make: what the walk needs, and what the invariant needs. -/
structure MadeOk (f : Int → List UInt8) (P : Int → Prop) (μ : MS) (t : Tm) : Prop where
  ok : t.ok P
  sz : Go.Proofs.YtjodmedgkmeklaaGreat.sz t ≤ 5000
  grounded : Grounded f μ.pool t
  known : can f μ.x μ.S t = true
  box : t.isBox = true → names f μ.pool (nm f t) = true ∨ ∃ k n a y, t = .box k n a y ∧ can f μ.x μ.S k = true
  pubs : names f μ.pool (nm f t) = true ∨ ∀ n, PubIn t n → 100 ≤ n → ∃ s ∈ μ.sides, s.fresh = n ∧ s.spoke
theorem Inv.made (N : Nums f P) (hP : ∀ n, P1 n → P n) (h : Inv f P c μ) (hp : PoolOk f P μ) {kind a b e : Int} {t : Tm} (hm : μ.made f kind a b e = some t) : MadeOk f P μ t := by
  have hpl : ∀ k, μ.place k ≠ .non → μ.place k ∈ μ.pool ∧ (μ.place k).ok P ∧ sz (μ.place k) ≤ 1500 ∧ can f μ.x μ.S (μ.place k) = true := fun k hk => ⟨place_mem hk, (hp.fine _ (place_mem hk)).1, (hp.fine _ (place_mem hk)).2, h.kn _ (place_mem hk)⟩
  unfold MS.made at hm
  dsimp only at hm
  split at hm
  · split at hm
    · rename_i ha
      split at hm
      · rename_i p hy
        obtain rfl := Option.some.inj hm
        have hpp : P p := by have := (hpl b (by rw [hy]; simp)).2.1; rwa [hy] at this
        have hxa : μ.x a = true := (h.x a).2 ha
        have hpa : P a := h.xP hP hxa
        refine ⟨ok_dT hpa hpp, by simp [sz], fun k n a x e => by (cases e), ?_, fun hb => (by cases hb), .inr fun n hn => by rcases hn with hn | ⟨_, _, _, hn⟩ <;> cases hn⟩
        have h5 : Go.Proofs.YtjodmedgkmeklaaGreat.bare f μ.x (dT a p) = true := by rw [bare_dT, sh, hxa]; rfl
        exact can_mono (fun _ h => h) (fun _ h => by cases h) _ h5
      · cases hm
    · cases hm
  · split at hm
    · split at hm
      · rename_i hc
        obtain rfl := Option.some.inj hm
        have hy := hpl b hc.2.1
        have hz := hpl e hc.2.2
        refine ⟨⟨by unfold P0; omega, hy.2.1, hz.2.1⟩, by simp only [sz]; omega, fun k n a x e => by (cases e), ?_, fun hb => (by cases hb), .inr fun n hn => by rcases hn with hn | ⟨_, _, _, hn⟩ <;> cases hn⟩
        simp only [can, Bool.or_eq_true, Bool.and_eq_true]
        exact .inr ⟨hy.2.2.2, hz.2.2.2⟩
      · cases hm
    · split at hm
      · split at hm
        · rename_i hc
          obtain rfl := Option.some.inj hm
          have hy := hpl b hc.1
          have hz := hpl e hc.2
          refine ⟨⟨hy.2.1, hz.2.1⟩, by simp only [sz]; omega, fun k n a x e => by (cases e), ?_, fun hb => (by cases hb), .inr fun n hn => by rcases hn with hn | ⟨_, _, _, hn⟩ <;> cases hn⟩
          simp only [can, Bool.or_eq_true, Bool.and_eq_true]
          exact .inr ⟨hy.2.2.2, hz.2.2.2⟩
        · cases hm
      · split at hm
        · split at hm
          · rename_i hc
            obtain rfl := Option.some.inj hm
            have hx := hpl a hc.1
            have hy := hpl b hc.2.1
            have hz := hpl e hc.2.2
            refine ⟨⟨p00, hx.2.1, hy.2.1, hz.2.1⟩, by simp only [sz]; omega, fun k n u x e => ?_, ?_, fun hb => .inr ⟨_, _, _, _, rfl, hx.2.2.2⟩, .inr fun n hn h100 => ?_⟩
            · obtain ⟨rfl, rfl, rfl, rfl⟩ := Tm.box.inj e
              exact ⟨fun _ => names_iff.2 ⟨_, hy.1, rfl⟩, fun _ => names_iff.2 ⟨_, hz.1, rfl⟩⟩
            · simp only [can, Bool.or_eq_true, Bool.and_eq_true]
              exact .inr ⟨⟨hx.2.2.2, hy.2.2.2⟩, hz.2.2.2⟩
            · rcases hn with hn | ⟨_, _, _, hn⟩
              · cases hn
              · exact h.pb _ hz.1 n (.inl (Tm.box.inj hn).2.2.2) h100
          · cases hm
        · split at hm
          · split at hm
            · rename_i k n u y hx
              split at hm
              · rename_i hc
                obtain rfl := Option.some.inj hm
                have hxx := hpl a (by rw [hx]; simp)
                rw [hx] at hxx
                have hF : Fine P (.box k n u y) := ⟨hxx.2.1, by omega⟩
                have hpt := h.parts hF hxx.2.2.2
                refine ⟨⟨by unfold P0; omega, hxx.2.1.2.1, hxx.2.1.2.2.1, hxx.2.1.2.2.2⟩, by have := hxx.2.2.1; simp only [sz] at this ⊢; omega, fun k2 n2 u2 x2 e => ?_, ?_, fun hb => .inr ⟨_, _, _, _, rfl, hc.1⟩, .inr fun m hm h100 => ?_⟩
                · obtain ⟨rfl, rfl, rfl, rfl⟩ := Tm.box.inj e
                  exact hp.ground _ _ _ _ hxx.1
                · simp only [can, Bool.or_eq_true, Bool.and_eq_true]
                  exact .inr ⟨⟨hc.1, hpt.1⟩, hpt.2 hc.1⟩
                · rcases hm with hm | ⟨_, _, _, hm⟩
                  · cases hm
                  · exact h.pb _ hxx.1 m (.inr ⟨k, n, u, by rw [(Tm.box.inj hm).2.2.2]⟩) h100
              · cases hm
            · cases hm
          · split at hm
            · split at hm
              · rename_i k n u y hx
                split at hm
                · rename_i hc
                  obtain rfl := Option.some.inj hm
                  have hxx := hpl a (by rw [hx]; simp)
                  rw [hx] at hxx
                  have hF : Fine P (.box k n u y) := ⟨hxx.2.1, by omega⟩
                  have hpt := h.parts hF hxx.2.2.2
                  have hgr := hp.ground _ _ _ _ hxx.1
                  have hin : y.isBox = true → names f μ.pool (nm f y) = true := hgr.2
                  refine ⟨hxx.2.1.2.2.2, by have := hxx.2.2.1; have p1 := sz_pos k; have p2 := sz_pos u; simp only [sz] at this; omega, fun k2 n2 u2 x2 e => ?_, hpt.2 hc, fun hb => .inl (hin hb), ?_⟩
                  · subst e
                    obtain ⟨t2, ht2, he2⟩ := names_iff.1 (hin rfl)
                    have hs := nm_sim N (hp.fine t2 ht2).1 hxx.2.1.2.2.2 he2
                    cases t2 <;> simp only [Sim] at hs
                    rename_i k3 n3 u3 y3
                    have hg2 := hp.ground _ _ _ _ ht2
                    have hok2 := (hp.fine _ ht2).1
                    have ho := hxx.2.1.2.2.2
                    refine ⟨fun hb => ?_, fun hb => ?_⟩
                    · have := sim_isBox (nm_sim N hok2.2.2.1 ho.2.2.1 hs.2.2.1) hb
                      rw [← hs.2.2.1]; exact hg2.1 this
                    · have := sim_isBox (nm_sim N hok2.2.2.2 ho.2.2.2 hs.2.2.2) hb
                      rw [← hs.2.2.2]; exact hg2.2 this
                  · by_cases hb : y.isBox = true
                    · exact .inl (hin hb)
                    · refine .inr fun m hm h100 => ?_
                      rcases hm with hm | ⟨_, _, _, hm⟩
                      · exact h.pb _ hxx.1 m (.inr ⟨k, n, u, by rw [hm]⟩) h100
                      · rw [hm] at hb; exact absurd rfl hb
                · cases hm
              · cases hm
            · cases hm
theorem Inv.put (h : Inv f P c μ) {t : Tm} (ht : MadeOk f P μ t) : Inv f P c (μ.put f t).1 := by
  unfold MS.put
  split
  · exact h
  · by_cases hn : names f μ.pool (nm f t) = true
    · have e : μ.add f t = μ := by unfold MS.add; rw [if_pos hn]
      show Inv f P c (μ.add f t)
      rw [e]; exact h
    · exact h.add ht.known (fun hb => .inr ((ht.box hb).resolve_left hn)) (ht.pubs.resolve_left hn)

/-! ### any op -/
theorem act_eq {kind : Int} (h2 : 2 ≤ kind) (h5 : kind ≤ 5) (a b e : Int) : μ.play f P kind a b e = μ.honest f P kind a b e := by
  unfold MS.play MS.honest MS.sideAt MS.act
  rw [if_neg (by omega), if_pos ⟨h2, h5⟩]
  cases (if 0 ≤ a then μ.sides[a.toNat]? else none) <;> rfl
theorem play_begin_eq (a b e : Int) : μ.play f P 1 a b e = μ.begin (decide (a = 1)) b := by unfold MS.play; rw [if_pos rfl]
theorem play_leak_eq (a b e : Int) : μ.play f P 6 a b e = μ.leak f P a := by
  unfold MS.play; rw [if_neg (by omega), if_neg (by omega), if_pos rfl]
theorem play_made_eq {kind : Int} (h : 7 ≤ kind) (a b e : Int) : μ.play f P kind a b e = match μ.made f kind a b e with | none => (μ, 1) | some t => μ.put f t := by
  unfold MS.play; rw [if_neg (by omega), if_neg (by omega), if_neg (by omega)]; rfl
theorem sideAt_at {a : Int} (h : μ.sideAt a = some s) : μ.sides[a.toNat]? = some s := by
  unfold MS.sideAt at h
  split at h
  · exact h
  · cases h
theorem Inv.play (N : Nums f P) (hP : ∀ n, P1 n → P n) (h : Inv f P c μ) (hp : PoolOk f P μ) (hc : c ≤ 98) {kind : Int} (hk : 1 ≤ kind ∧ kind ≤ 12) (a b e : Int) : Inv f P (if kind = 4 then c + 1 else c) (μ.play f P kind a b e).1 := by
  by_cases k1 : kind = 1
  · subst k1; rw [play_begin_eq, if_neg (by omega)]; exact h.begin _ _
  · by_cases k5 : kind ≤ 5
    · rw [act_eq (by omega) k5]
      unfold MS.honest
      cases hs : μ.sideAt a with
      | none =>
        show Inv f P _ μ
        split
        · exact h.mono (by omega)
        · exact h
      | some s =>
        have hi := sideAt_at hs
        show Inv f P _ (μ.act f P a.toNat s kind b e).1
        unfold MS.act
        by_cases k2 : kind = 2
        · subst k2; rw [if_neg (by omega), if_pos rfl]; exact h.speak N hP hi
        · by_cases k3 : kind = 3
          · subst k3; rw [if_neg (by omega), if_neg (by omega), if_pos rfl]; exact h.hear N hP hp hi _ _
          · by_cases k4 : kind = 4
            · subst k4; rw [if_pos rfl, if_neg (by omega), if_neg (by omega), if_pos rfl]; exact h.say N hP hc hi _
            · rw [if_neg (by omega), if_neg (by omega), if_neg (by omega), if_neg (by omega)]; exact h.take N hP hp hi _
    · rw [if_neg (by omega)]
      by_cases k6 : kind = 6
      · subst k6; rw [play_leak_eq]; exact h.leak N hP _
      · rw [play_made_eq (by omega)]
        cases hm : μ.made f kind a b e with
        | none => exact h
        | some t => exact h.put (h.made N hP hp hm)

end Go.Proofs.YtjodmedgkmeklaaGreat

/-
  A world as it is made (New): plain.
-/
namespace Go.Proofs.YtjodmedgkmeklaaGreat
open Go Go.RowKit Go.Maps
variable {f : Int → List UInt8} {P : Int → Prop} {w0 w W W2 W3 : World} {own own2 : Nat → Option Tg} {m m2 : MB} {μ μ2 : MS} {v v2 : KV}

def mu0 (x : Int → Bool) : MS := ⟨[], [], [], [], x, fun _ => false⟩
theorem MAt.start {k : KS} {nb lb wb q : Nat} (hE : Ext w0 W) (hn : MapG CB W nb (fun _ => none) 0) (hl : MapG CI W lb (fun _ => none) 0)
    (hb : W.heap[wb]? = some (.cells #[.slice none 0 0, .slice none 0 0, .slice none 0 0, .map (some nb), ptr k.kb, .map (some lb)] 64 (0, 0)))
    (hk : KAt f P W k v) (h1 : w0.heap.size ≤ nb) (h2 : nb < lb) (h3 : lb < wb) (h4 : wb < q) (k1 : q ≤ k.kb) (k2 : q ≤ k.sb) (k3 : q ≤ k.nb) (k4 : q ≤ k.ab) (hkc : KC f P v) (hS : ∀ s, v.S s = false) :
    ∃ own, MAt f P w0 W own ⟨wb, nb, lb, k, .slice none 0 0, .slice none 0 0, .slice none 0 0, []⟩ (mu0 v.x) v := by
  have hlt : ∀ {b : Nat} {o : Obj}, W.heap[b]? = some o → b < W.heap.size := fun h => (Array.getElem?_eq_some_iff.1 h).1
  have e1 := hk.ne1; have e2 := hk.ne2; have e3 := hk.ne3
  obtain ⟨e4, e5, e6⟩ := hk.kb_ne
  refine ⟨fun b => if b = wb then some .w else if b = nb then some .names else if b = lb then some .leak else if b = k.kb then some .kb else if b = k.sb then some .sb else if b = k.nb then some .nb else if b = k.ab then some .ab else none,
    hb, World.ownsRow_nil _ _ _ _, World.ownsRow_nil _ _ _ _, World.ownsRow_nil _ _ _ _, ?_, ?_, hk, rfl, fun i x s h => by simp at h, hE, fun b t h => ?_, by simp, ?_, ?_, ?_, ?_, ?_, ?_, fun g hg => (by cases hg), fun g hg => (by cases hg), fun g hg => (by cases hg), rfl, ?_, hkc, fun s hs => ?_⟩
  · have : flag (names f (mu0 v.x).pool) = fun _ => none := by funext s; simp [flag, names, mu0]
    rw [this]; exact hn
  · have : flag (fun n => decide (n ∈ (mu0 v.x).leaked)) = fun _ => none := by funext s; simp [flag, mu0]
    rw [this]; exact hl
  · have b1 := hlt hb; have b2 := hn.lt; have b3 := hl.lt; have b4 := hlt hk.blk; have b5 := hk.sec.lt; have b6 := hk.seen.lt; have b7 := hk.all.lt
    have hin : b = wb ∨ b = nb ∨ b = lb ∨ b = k.kb ∨ b = k.sb ∨ b = k.nb ∨ b = k.ab := by
      by_cases c1 : b = wb; · exact .inl c1
      by_cases c2 : b = nb; · exact .inr (.inl c2)
      by_cases c3 : b = lb; · exact .inr (.inr (.inl c3))
      by_cases c4 : b = k.kb; · exact .inr (.inr (.inr (.inl c4)))
      by_cases c5 : b = k.sb; · exact .inr (.inr (.inr (.inr (.inl c5))))
      by_cases c6 : b = k.nb; · exact .inr (.inr (.inr (.inr (.inr (.inl c6)))))
      by_cases c7 : b = k.ab; · exact .inr (.inr (.inr (.inr (.inr (.inr c7)))))
      simp [c1, c2, c3, c4, c5, c6, c7] at h
    omega
  · rw [if_neg (by show nb ≠ wb; omega), if_pos rfl]
  · rw [if_neg (by show lb ≠ wb; omega), if_neg (by show lb ≠ nb; omega), if_pos rfl]
  · rw [if_neg (by show k.kb ≠ wb; omega), if_neg (by show k.kb ≠ nb; omega), if_neg (by show k.kb ≠ lb; omega), if_pos rfl]
  · rw [if_neg (by show k.sb ≠ wb; omega), if_neg (by show k.sb ≠ nb; omega), if_neg (by show k.sb ≠ lb; omega), if_neg (by show k.sb ≠ k.kb; omega), if_pos rfl]
  · rw [if_neg (by show k.nb ≠ wb; omega), if_neg (by show k.nb ≠ nb; omega), if_neg (by show k.nb ≠ lb; omega), if_neg (by show k.nb ≠ k.kb; omega), if_neg (by show k.nb ≠ k.sb; omega), if_pos rfl]
  · rw [if_neg (by show k.ab ≠ wb; omega), if_neg (by show k.ab ≠ nb; omega), if_neg (by show k.ab ≠ lb; omega), if_neg (by show k.ab ≠ k.kb; omega), if_neg (by show k.ab ≠ k.sb; omega), if_neg (by show k.ab ≠ k.nb; omega), if_pos rfl]
  · funext s; exact hS s
  · have := hkc.seen s hs
    rw [hS s] at this; cases this
def StatT (t : Tg) : Prop := t = .w ∨ t = .st
theorem MAt.stat {n : Int} {vst : Value} (h : MAt f P w0 W own m μ v) (hk : Kept own StatT W W3)
    (hblk : W3.heap[m.wb]? = some (.cells #[vst, m.vsd, m.vpl, .map (some m.nb), ptr m.k.kb, .map (some m.lb)] 64 (0, 0)))
    (hst : W3.ownsRow w0.heap.size 3 1 vst (μ.statics.length + 1) (μ.statics.map (Value.int .i64) ++ [.int .i64 n]))
    (hv : ∀ g, vst.ownBlock = some g → own g = some .st ∨ own g = none) :
    MAt f P w0 W3 (ownAlso own vst .st) { m with vst := vst } { μ with statics := μ.statics ++ [n] } v := by
  have hle := ownAlso_le (own := own) (v := vst) (t := .st) hv
  have hsame : ∀ b t, own b = some t → (t ≠ .w ∧ t ≠ .st) → W3.heap[b]? = W.heap[b]? := fun b t hb ht => hk.same b t hb (by rintro (h | h) <;> simp_all)
  refine ⟨hblk, ?_, own_keep h.sds fun g hg => hsame g _ (h.osd g hg) (by simp), own_keep h.pl fun g hg => hsame g _ (h.opl g hg) (by simp), h.nm.keep (hsame _ _ h.on (by simp)), h.lk.keep (hsame _ _ h.ol (by simp)), h.base.keep fun b hb => ?_, h.len,
    fun i x s h1 h2 => (h.side i x s h1 h2).keep (fun b t hb ht => hsame b t hb (by rcases ht with rfl | rfl | rfl <;> simp)) hle, hk.ext h.ext (fun b t hb => (h.owns b t hb).1), fun b t hb => ?_, hle _ _ h.ow, hle _ _ h.on, hle _ _ h.ol, hle _ _ h.okb, hle _ _ h.osb, hle _ _ h.onb, hle _ _ h.oab,
    ownAlso_self, fun g hg => hle _ _ (h.osd g hg), fun g hg => hle _ _ (h.opl g hg), h.bx, h.bS, h.kc, h.seen⟩
  · simpa using hst
  · rcases hb with rfl | rfl | rfl | rfl
    · exact hsame _ _ h.okb (by simp)
    · exact hsame _ _ h.osb (by simp)
    · exact hsame _ _ h.onb (by simp)
    · exact hsame _ _ h.oab (by simp)
  · rcases ownAlso_inv hb with ⟨h1, rfl⟩ | h1
    · exact hst.lt b h1
    · exact ⟨(h.owns b t h1).1, Nat.lt_of_lt_of_le (h.owns b t h1).2 hk.size⟩

/-! ### the world that New makes -/
def MS.static (f : Int → List UInt8) (μ : MS) (n : Int) : MS := ({ μ with statics := μ.statics ++ [n] } : MS).add f (.pub n)
def MS.statics0 (f : Int → List UInt8) (μ : MS) (ns : List Int) : MS := ns.foldl (fun μ n => μ.static f n) μ
def MS.shown (f : Int → List UInt8) (μ : MS) (k : Nat) : MS := (List.range k).foldl (fun (μ : MS) (i : Nat) => μ.add f (.pub (50 + (i : Int)))) μ
noncomputable def MS.sees (f : Int → List UInt8) (P : Int → Prop) (μ : MS) (l : List Tm) : MS := l.foldl (fun μ t => μ.see f P t) μ
theorem statics0_succ {ns : List Int} {j : Nat} (h : j < ns.length) : μ.statics0 f (ns.take (j + 1)) = (μ.statics0 f (ns.take j)).static f ns[j] := by
  unfold MS.statics0
  rw [List.take_succ_eq_append_getElem h, List.foldl_append]; rfl
theorem shown_succ (k : Nat) : μ.shown f (k + 1) = (μ.shown f k).add f (.pub (50 + (k : Int))) := by
  unfold MS.shown
  rw [List.range_succ, List.foldl_append]; rfl
theorem sees_succ {l : List Tm} {j : Nat} (h : j < l.length) : μ.sees f P (l.take (j + 1)) = (μ.sees f P (l.take j)).see f P l[j] := by
  unfold MS.sees
  rw [List.take_succ_eq_append_getElem h, List.foldl_append]; rfl
theorem sees_same (l : List Tm) : (μ.sees f P l).pool = μ.pool ∧ (μ.sees f P l).x = μ.x ∧ (μ.sees f P l).sides = μ.sides ∧ (μ.sees f P l).statics = μ.statics ∧ (μ.sees f P l).leaked = μ.leaked := by
  unfold MS.sees
  induction l generalizing μ with
  | nil => exact ⟨rfl, rfl, rfl, rfl, rfl⟩
  | cons t l ih => exact ih (μ := μ.see f P t)
def own10 : List Int := [50, 51, 52, 53, 54, 55, 56, 57, 58, 59]
/-- The world that New makes, ahead of what is seen. -/
def newMS0 (f : Int → List UInt8) (ns : List Int) : MS := ((((mu0 (secs own10)).add f .empty).statics0 f ns).shown f 4)
noncomputable def newMS (f : Int → List UInt8) (P : Int → Prop) (ns : List Int) : MS := (newMS0 f ns).sees f P (newMS0 f ns).pool
theorem add_same (μ : MS) (t : Tm) : (μ.add f t).x = μ.x ∧ (μ.add f t).sides = μ.sides ∧ (μ.add f t).statics = μ.statics ∧ (μ.add f t).leaked = μ.leaked ∧ (μ.add f t).S = μ.S := by
  unfold MS.add; split <;> exact ⟨rfl, rfl, rfl, rfl, rfl⟩
/-- A pool of Publics and what is empty. -/
structure Bland (P : Int → Prop) (c : Nat) (μ : MS) : Prop where
  pool : ∀ t ∈ μ.pool, t = .empty ∨ ∃ n, t = .pub n ∧ P n ∧ n < 100
  len : μ.pool.length ≤ c
  S : μ.S = fun _ => false
  sides : μ.sides = []
  leaked : μ.leaked = []
  x : μ.x = secs own10
theorem Bland.add {c : Nat} (h : Bland P c μ) {t : Tm} (ht : t = .empty ∨ ∃ n, t = .pub n ∧ P n ∧ n < 100) : Bland P (c + 1) (μ.add f t) := by
  obtain ⟨e1, e2, e3, e4, e5⟩ := add_same (f := f) μ t
  refine ⟨fun u hu => ?_, ?_, e5.trans h.S, e2.trans h.sides, e4.trans h.leaked, e1.trans h.x⟩
  · rw [add_pool] at hu
    split at hu
    · exact h.pool u hu
    · rcases List.mem_append.1 hu with hu | hu
      · exact h.pool u hu
      · simp at hu; subst hu; exact ht
  · rw [add_pool]
    have := h.len
    split
    · omega
    · simp; omega
theorem Bland.static {c : Nat} (h : Bland P c μ) {n : Int} (hn : P n ∧ n < 100) : Bland P (c + 1) (μ.static f n) :=
  Bland.add (μ := { μ with statics := μ.statics ++ [n] }) ⟨h.pool, h.len, h.S, h.sides, h.leaked, h.x⟩ (.inr ⟨n, rfl, hn⟩)
theorem Bland.statics {ns : List Int} (hn : ∀ n ∈ ns, P n ∧ n < 100) : ∀ {c : Nat} {μ : MS}, Bland P c μ → Bland P (c + ns.length) (μ.statics0 f ns) := by
  induction ns with
  | nil => intro c μ h; exact h
  | cons n ns ih =>
    intro c μ h
    have := ih (fun k hk => hn k (by simp [hk])) (h.static (f := f) (hn n (by simp)))
    rw [List.length_cons, show c + (ns.length + 1) = c + 1 + ns.length by omega]
    exact this
theorem Bland.shown (hP : ∀ n, P1 n → P n) {c : Nat} (h : Bland P c μ) : ∀ k, k ≤ 4 → Bland P (c + k) (μ.shown f k)
  | 0, _ => h
  | k + 1, hk => by
    rw [shown_succ]
    exact (Bland.shown hP h k (by omega)).add (.inr ⟨_, rfl, hP _ (.inl (by omega)), by omega⟩)
theorem Bland.zero : Bland P 0 (mu0 (secs own10)) := ⟨fun t h => by simp [mu0] at h, by simp [mu0], rfl, rfl, rfl, rfl⟩
theorem Bland.poolOk {c : Nat} (hc : c ≤ 300) (h : Bland P c μ) : PoolOk f P μ :=
  ⟨fun t ht => by
    rcases h.pool t ht with rfl | ⟨n, rfl, hn, _⟩
    · exact ⟨trivial, by simp [sz]⟩
    · exact ⟨hn, by simp [sz]⟩, by have := h.len; omega, (fun k n a x hm => by
    rcases h.pool _ hm with h1 | ⟨n, h1, _⟩ <;> cases h1), fun s hs => by rw [h.S] at hs; cases hs⟩
theorem statics0_statics (ns : List Int) : ∀ (μ : MS), (μ.statics0 f ns).statics = μ.statics ++ ns := by
  induction ns with
  | nil => intro μ; simp [MS.statics0]
  | cons n ns ih =>
    intro μ
    have := ih (μ.static f n)
    show (MS.statics0 f (μ.static f n) ns).statics = _
    rw [this]
    unfold MS.static
    rw [(add_same _ _).2.2.1]
    simp
theorem shown_statics (k : Nat) : (μ.shown f k).statics = μ.statics := by
  induction k with
  | zero => rfl
  | succ k ih => rw [shown_succ, (add_same _ _).2.2.1, ih]
theorem newMS0_bland (hP : ∀ n, P1 n → P n) {ns : List Int} (hn : ∀ n ∈ ns, P n ∧ n < 100) : Bland P (ns.length + 5) (newMS0 f ns) := by
  have h1 := ((Bland.zero (P := P)).add (f := f) (t := .empty) (.inl rfl)).statics (f := f) hn
  have h2 := h1.shown (f := f) hP 4 (by omega)
  rw [show ns.length + 5 = 0 + 1 + ns.length + 4 by omega]
  exact h2
theorem newMS0_statics (ns : List Int) : (newMS0 f ns).statics = ns := by
  unfold newMS0
  rw [shown_statics, statics0_statics, (add_same _ _).2.2.1]; rfl

end Go.Proofs.YtjodmedgkmeklaaGreat

/-
  The world that New makes keeps the invariant.
-/
namespace Go.Proofs.YtjodmedgkmeklaaGreat
open Go Go.RowKit
variable {f : Int → List UInt8} {P : Int → Prop} {c : Nat} {μ : MS}

theorem sees_le (l : List Tm) : ∀ {μ : MS} (s : List UInt8), μ.S s = true → (μ.sees f P l).S s = true := by
  induction l with
  | nil => intro μ s h; exact h
  | cons t l ih => intro μ s h; exact ih (μ := μ.see f P t) s ((clo_cl (f := f) (P := P) μ.x (plus μ.S (nm f t))).le s (plus_le _ _ _ h))
theorem sees_has (l : List Tm) : ∀ {μ : MS} (t : Tm), t ∈ l → (μ.sees f P l).S (nm f t) = true := by
  induction l with
  | nil => intro μ t h; cases h
  | cons u l ih =>
    intro μ t h
    rcases List.mem_cons.1 h with rfl | h
    · exact sees_le l (μ := μ.see f P t) _ (see_self μ t)
    · exact ih (μ := μ.see f P u) t h
theorem sees_sub {C : List UInt8 → Bool} (l : List Tm) : ∀ {μ : MS}, Closed f P μ.x C → (∀ s, μ.S s = true → C s = true) → (∀ t ∈ l, C (nm f t) = true) → ∀ s, (μ.sees f P l).S s = true → C s = true := by
  induction l with
  | nil => intro μ _ h _ s hs; exact h s hs
  | cons u l ih =>
    intro μ hC h hl s hs
    refine ih (μ := μ.see f P u) hC (fun s hs => ?_) (fun t ht => hl t (by simp [ht])) s hs
    refine clo_iff.1 hs C hC (fun s hs => ?_)
    unfold plus at hs
    simp only [Bool.or_eq_true] at hs
    rcases hs with h5 | h5
    · exact h s h5
    · rw [of_decide_eq_true h5]; exact hl u (by simp)
theorem sees_closed (l : List Tm) : ∀ {μ : MS}, Closed f P μ.x μ.S → Closed f P μ.x (μ.sees f P l).S := by
  induction l with
  | nil => intro μ h; exact h
  | cons u l ih => intro μ _; exact ih (μ := μ.see f P u) (clo_closed _ _)
theorem PoolOk.sees (N : Nums f P) (l : List Tm) : ∀ {μ : MS}, PoolOk f P μ → (∀ t ∈ l, t ∈ μ.pool) → PoolOk f P (μ.sees f P l) := by
  induction l with
  | nil => intro μ h _; exact h
  | cons u l ih =>
    intro μ h hl
    exact ih (μ := μ.see f P u) (h.see N (names_iff.2 ⟨u, hl u (by simp), rfl⟩)) (fun t ht => hl t (by simp [ht]))
theorem nodup_add {t : Tm} (h : (μ.pool.map (nm f)).Nodup) : ((μ.add f t).pool.map (nm f)).Nodup := by
  rw [add_pool]
  split
  · exact h
  · rename_i hn
    rw [List.map_append, List.map_cons, List.map_nil, List.nodup_append]
    refine ⟨h, by simp, fun a ha b hb => ?_⟩
    simp at hb
    rintro rfl
    subst hb
    exact hn (by unfold names; exact decide_eq_true ha)
theorem nodup_statics0 (ns : List Int) : ∀ {μ : MS}, (μ.pool.map (nm f)).Nodup → ((μ.statics0 f ns).pool.map (nm f)).Nodup := by
  induction ns with
  | nil => intro μ h; exact h
  | cons n ns ih =>
    intro μ h
    refine ih (μ := μ.static f n) ?_
    exact nodup_add (μ := { μ with statics := μ.statics ++ [n] }) h
theorem nodup_shown (h : (μ.pool.map (nm f)).Nodup) : ∀ k, ((μ.shown f k).pool.map (nm f)).Nodup
  | 0 => h
  | k + 1 => by rw [shown_succ]; exact nodup_add (nodup_shown h k)
theorem Inv.new (N : Nums f P) (hP : ∀ n, P1 n → P n) {ns : List Int} (hns : ∀ n ∈ ns, 1 ≤ n ∧ n ≤ 6) (hl : ns.length ≤ 6) : Inv f P 0 (newMS f P ns) ∧ PoolOk f P (newMS f P ns) := by
  have hb := newMS0_bland (f := f) hP (ns := ns) (fun n hn => by have := hns n hn; exact ⟨hP _ (.inl (by omega)), by omega⟩)
  obtain ⟨e1, e2, e3, e4, e5⟩ := sees_same (f := f) (P := P) (μ := newMS0 f ns) (newMS0 f ns).pool
  have hs0 : (newMS f P ns).sides = [] := e3.trans hb.sides
  have hl0 : (newMS f P ns).leaked = [] := e5.trans hb.leaked
  have hx0 : (newMS f P ns).x = secs own10 := e2.trans hb.x
  have hp0 : (newMS f P ns).pool = (newMS0 f ns).pool := e1
  have hst : (newMS f P ns).statics = ns := e4.trans (newMS0_statics ns)
  have hS0 : Closed f P (newMS0 f ns).x (newMS0 f ns).S := by rw [hb.S]; exact closed_none _
  have hno : ∀ {Q : Sd → Prop}, ∀ s ∈ (newMS f P ns).sides, Q s := fun s hs => by rw [hs0] at hs; cases hs
  have hown : Own P (newMS f P ns).sides 0 := ⟨hno, hno, hno⟩
  refine ⟨⟨hno, (fun i s h => by rw [hs0] at h; simp at h), hno, (by rw [hs0]; simp), (fun n hn => by rw [hst] at hn; exact hns n hn), (by rw [hst]; exact hl), fun n => ?_, (fun n hn => by rw [hl0] at hn; cases hn), by rw [hl0]; exact List.nodup_nil, ?_, ?_, fun t ht => ?_, ?_, fun t ht hbx => ?_, fun t ht n hn h100 => ?_, hno⟩, ?_⟩
  · rw [hx0, hl0]
    simp [secs, own10]; omega
  · have hmc := most_closed (x := (newMS f P ns).x) N hown
    have hx : (newMS0 f ns).x = (newMS f P ns).x := e2.symm
    exact sees_sub _ (μ := newMS0 f ns) (by rw [hx]; exact hmc) (fun s hs => by rw [hb.S] at hs; cases hs) (fun t ht => by
      rcases hb.pool t ht with rfl | ⟨n, rfl, hn, _⟩
      · exact most_of (t := .empty) trivial (.inl rfl)
      · exact most_of (t := .pub n) hn (.inr (.inl ⟨n, rfl⟩)))
  · have := sees_closed (newMS0 f ns).pool hS0
    rw [← e2] at this
    exact this
  · rw [hp0] at ht
    refine can_here (fun e => ?_) (sees_has _ t ht)
    rcases hb.pool t ht with rfl | ⟨n, rfl, _⟩ <;> cases e
  · rw [hp0]
    exact nodup_shown (nodup_statics0 ns (nodup_add (by simp [mu0]))) 4
  · rw [hp0] at ht
    rcases hb.pool t ht with rfl | ⟨n, rfl, _⟩ <;> cases hbx
  · rw [hp0] at ht
    rcases hb.pool t ht with rfl | ⟨m, rfl, _, hm⟩
    · rcases hn with hn | ⟨_, _, _, hn⟩ <;> cases hn
    · rcases hn with hn | ⟨_, _, _, hn⟩ <;> cases hn
      omega
  · exact PoolOk.sees N _ (hb.poolOk (by omega)) (fun t ht => ht)

end Go.Proofs.YtjodmedgkmeklaaGreat
