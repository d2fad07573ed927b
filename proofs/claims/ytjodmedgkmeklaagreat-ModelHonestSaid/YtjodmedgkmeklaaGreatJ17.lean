/-
  Texts merged: Q15, Q16, Q17.
-/
import Derived.Test.YtjodmedgkmeklaaGreatJ16
/-
  A world of sides in memory.
-/
namespace Go.Proofs.YtjodmedgkmeklaaGreat
open Go Go.RowKit Go.Maps
attribute [local go_sem] extUpon run_store_tm
attribute [local go_sem ↓] Tm.val_cell eval_put_ne eval_put_none eval_put_same size_put eval_const
attribute [local go_sem ↓] meth_Atom meth_Public meth_Shared meth_Chain meth_Digest meth_Box meth_Empty
attribute [local go_sem ↓] run_build_chain run_build_digest run_build_box
attribute [local go_sem] ta_Atom_Atom ta_Public_Atom ta_Shared_Atom ta_Chain_Atom ta_Digest_Atom ta_Box_Atom ta_Empty_Atom ta_Nil_Atom ta_Atom_Public ta_Public_Public ta_Shared_Public ta_Chain_Public ta_Digest_Public ta_Box_Public ta_Empty_Public ta_Nil_Public ta_Atom_Shared ta_Public_Shared ta_Shared_Shared ta_Chain_Shared ta_Digest_Shared ta_Box_Shared ta_Empty_Shared ta_Nil_Shared ta_Atom_Chain ta_Public_Chain ta_Shared_Chain ta_Chain_Chain ta_Digest_Chain ta_Box_Chain ta_Empty_Chain ta_Nil_Chain ta_Atom_Digest ta_Public_Digest ta_Shared_Digest ta_Chain_Digest ta_Digest_Digest ta_Box_Digest ta_Empty_Digest ta_Nil_Digest ta_Atom_Box ta_Public_Box ta_Shared_Box ta_Chain_Box ta_Digest_Box ta_Box_Box ta_Empty_Box ta_Nil_Box ta_Atom_Empty ta_Public_Empty ta_Shared_Empty ta_Chain_Empty ta_Digest_Empty ta_Box_Empty ta_Empty_Empty ta_Nil_Empty

/-- Names that are there. -/
def CB : MC (List UInt8) Bool where
  mt := 61
  kt := 9
  et := 4
  ek s := str s
  ok s := s.length ≤ 1000000
  ev b := .bool b
  R _ := some (.lit (.bool true), [])
  z := .bool false
  hm := Tryz.underlying61
  law := string_keyed Tryz.underlying9
  key s hs := ⟨_, Go.WideMaps.keyOf_string_mk Tryz.underlying9 (str_small hs)⟩
  inj a b h := str_inj h
  reads _ := ⟨_, rfl⟩
  zero _ := by kernel_rfl
/-- The map of a set. -/
def flag {α : Type} (p : α → Bool) (a : α) : Option Bool := if p a then some true else none
theorem flag_get {α : Type} (p : α → Bool) (a : α) : (match flag p a with | some x => Value.bool x | none => Value.bool false) = Value.bool (p a) := by
  unfold flag; cases p a <;> rfl
theorem flag_set {α : Type} [DecidableEq α] (p : α → Bool) (a : α) : fset (flag p) a true = flag (fun k => p k || decide (k = a)) := by
  funext k
  unfold fset flag
  by_cases h : k = a
  · simp [h]
  · simp [h]
theorem flag_some {α : Type} (p : α → Bool) (a : α) : (flag p a).isSome = p a := by unfold flag; cases p a <;> rfl

/-- Whose a block is. -/
inductive Tg where
  | w | st | sides | pool | names | leak | kb | sb | nb | ab
  | side (i : Nat) | said (i : Nat) | took (i : Nat)
  deriving DecidableEq
structure SB where
  b : Nat
  vs : Value
  va : Value
structure MB where
  wb : Nat
  nb : Nat
  lb : Nat
  k : KS
  vst : Value
  vsd : Value
  vpl : Value
  sd : List SB
variable {f : Int → List UInt8} {P : Int → Prop} {w0 w W W2 : World} {own own2 : Nat → Option Tg} {m : MB} {μ μ2 : MS} {v : KV}

/-- One side, and its rows. -/
structure SideAt (w0 W : World) (own : Nat → Option Tg) (i : Nat) (x : SB) (s : Sd) : Prop where
  at_ : SdAt W x.b s x.vs x.va
  said : W.ownsRow w0.heap.size 29 1 x.vs s.said.length (s.said.map Tm.val)
  took : W.ownsRow w0.heap.size 29 1 x.va s.took.length (s.took.map Tm.val)
  ob : own x.b = some (.side i)
  os : ∀ g, x.vs.ownBlock = some g → own g = some (.said i)
  oa : ∀ g, x.va.ownBlock = some g → own g = some (.took i)
structure MAt (f : Int → List UInt8) (P : Int → Prop) (w0 W : World) (own : Nat → Option Tg) (m : MB) (μ : MS) (v : KV) : Prop where
  blk : W.heap[m.wb]? = some (.cells #[m.vst, m.vsd, m.vpl, .map (some m.nb), ptr m.k.kb, .map (some m.lb)] 64 (0, 0))
  st : W.ownsRow w0.heap.size 3 1 m.vst μ.statics.length (μ.statics.map (Value.int .i64))
  sds : W.ownsRow w0.heap.size 65 1 m.vsd m.sd.length (m.sd.map fun x => ptr x.b)
  pl : W.ownsRow w0.heap.size 29 1 m.vpl μ.pool.length (μ.pool.map Tm.val)
  nm : MapG CB W m.nb (flag (names f μ.pool)) μ.pool.length
  lk : MapG CI W m.lb (flag (fun n => decide (n ∈ μ.leaked))) μ.leaked.length
  base : KAt f P W m.k v
  len : m.sd.length = μ.sides.length
  side : ∀ i x s, m.sd[i]? = some x → μ.sides[i]? = some s → SideAt w0 W own i x s
  ext : Ext w0 W
  owns : ∀ b t, own b = some t → w0.heap.size ≤ b ∧ b < W.heap.size
  ow : own m.wb = some .w
  on : own m.nb = some .names
  ol : own m.lb = some .leak
  okb : own m.k.kb = some .kb
  osb : own m.k.sb = some .sb
  onb : own m.k.nb = some .nb
  oab : own m.k.ab = some .ab
  ost : ∀ g, m.vst.ownBlock = some g → own g = some .st
  osd : ∀ g, m.vsd.ownBlock = some g → own g = some .sides
  opl : ∀ g, m.vpl.ownBlock = some g → own g = some .pool
  bx : v.x = μ.x
  bS : v.S = μ.S
  kc : KC f P v
  seen : ∀ s, (v.seen s).isSome = true → names f μ.pool s = true

theorem SideAt.keep {i : Nat} {x : SB} {s : Sd} (h : SideAt w0 W own i x s) (hk : ∀ b t, own b = some t → (t = .side i ∨ t = .said i ∨ t = .took i) → W2.heap[b]? = W.heap[b]?) (ho : ∀ b t, own b = some t → own2 b = some t) : SideAt w0 W2 own2 i x s :=
  ⟨h.at_.keep (hk _ _ h.ob (.inl rfl)), own_keep h.said fun g hg => hk g _ (h.os g hg) (.inr (.inl rfl)), own_keep h.took fun g hg => hk g _ (h.oa g hg) (.inr (.inr rfl)), ho _ _ h.ob, fun g hg => ho _ _ (h.os g hg), fun g hg => ho _ _ (h.oa g hg)⟩
theorem MAt.later (h : MAt f P w0 W own m μ v) (he : Ext W W2) : MAt f P w0 W2 own m μ v :=
  ⟨he.blk h.blk, own_ext he h.st, own_ext he h.sds, own_ext he h.pl, h.nm.later he, h.lk.later he, h.base.later he, h.len, fun i x s h1 h2 => (h.side i x s h1 h2).keep (fun b t hb _ => he.block b (h.owns b t hb).2) (fun _ _ h => h), h.ext.trans he,
    fun b t hb => ⟨(h.owns b t hb).1, Nat.lt_of_lt_of_le (h.owns b t hb).2 he.size⟩, h.ow, h.on, h.ol, h.okb, h.osb, h.onb, h.oab, h.ost, h.osd, h.opl, h.bx, h.bS, h.kc, h.seen⟩
/-- The owners, with one row more. -/
def ownAlso (own : Nat → Option Tg) (v : Value) (t : Tg) (b : Nat) : Option Tg := if v.ownBlock = some b then some t else own b
theorem ownAlso_le {v : Value} {t : Tg} (h : ∀ g, v.ownBlock = some g → own g = some t ∨ own g = none) : ∀ b u, own b = some u → ownAlso own v t b = some u := by
  intro b u hb
  unfold ownAlso
  split
  · rename_i hg
    rcases h b hg with h5 | h5
    · rw [← h5, hb]
    · rw [h5] at hb; cases hb
  · exact hb
theorem ownAlso_self {v : Value} {t : Tg} : ∀ g, v.ownBlock = some g → ownAlso own v t g = some t := fun g hg => by unfold ownAlso; rw [if_pos hg]
theorem ownAlso_inv {v : Value} {t u : Tg} {b : Nat} (h : ownAlso own v t b = some u) : (v.ownBlock = some b ∧ u = t) ∨ own b = some u := by
  unfold ownAlso at h
  split at h
  · rename_i hg; cases h; exact .inl ⟨hg, rfl⟩
  · exact .inr h
/-- A fresh block has no owner. -/
theorem MAt.fresh (h : MAt f P w0 W own m μ v) {b : Nat} (hb : W.heap.size ≤ b) : own b = none := by
  cases ho : own b with
  | none => rfl
  | some t => have := (h.owns b t ho).2; omega
/-- What of a world stands while blocks of some tags are turned. -/
structure Kept (own : Nat → Option Tg) (T : Tg → Prop) (W W2 : World) : Prop where
  same : ∀ b t, own b = some t → ¬ T t → W2.heap[b]? = W.heap[b]?
  free : ∀ b, b < W.heap.size → own b = none → W2.heap[b]? = W.heap[b]?
  ext : ∀ {w0 : World}, Ext w0 W → (∀ b t, own b = some t → w0.heap.size ≤ b) → Ext w0 W2
  size : W.heap.size ≤ W2.heap.size
theorem Kept.of {T : Tg → Prop} (h : Same W W2 (fun k => ∀ t, own k = some t → ¬ T t)) (hlt : ∀ b t, own b = some t → b < W.heap.size) : Kept own T W W2 :=
  ⟨fun b t hb ht => h.2.2.2.2 b (hlt b t hb) (fun u hu => by rw [hb] at hu; cases hu; exact ht), fun b hb ho => h.2.2.2.2 b hb (fun u hu => by rw [ho] at hu; cases hu), fun he hlo => Same.ext he h (fun b hb t ht => absurd (hlo b t ht) (by omega)), h.2.2.2.1⟩
/-- Owners that came in: of fresh blocks. -/
structure Owns (W : World) (own own2 : Nat → Option Tg) : Prop where
  le : ∀ b t, own b = some t → own2 b = some t
  none : ∀ b, b < W.heap.size → own b = Option.none → own2 b = Option.none
theorem Owns.refl (W : World) (own : Nat → Option Tg) : Owns W own own := ⟨fun _ _ h => h, fun _ _ h => h⟩
theorem Owns.trans {own3 : Nat → Option Tg} (h : Owns W own own2) (k : Owns W2 own2 own3) (hs : W.heap.size ≤ W2.heap.size) : Owns W own own3 :=
  ⟨fun b t hb => k.le b t (h.le b t hb), fun b hb ho => k.none b (by omega) (h.none b hb ho)⟩
theorem Kept.mono {T T2 : Tg → Prop} (h : Kept own T W W2) (ht : ∀ t, T t → T2 t) : Kept own T2 W W2 :=
  ⟨fun b t hb hn => h.same b t hb (fun hT => hn (ht t hT)), h.free, h.ext, h.size⟩
theorem Kept.trans {T : Tg → Prop} {W3 : World} (h : Kept own T W W2) (o : Owns W own own2) (k : Kept own2 T W2 W3) : Kept own T W W3 :=
  ⟨fun b t hb hn => (k.same b t (o.le b t hb) hn).trans (h.same b t hb hn), fun b hb ho => (k.free b (by have := h.size; omega) (o.none b hb ho)).trans (h.free b hb ho),
    fun {w0} he hl => k.ext (h.ext he hl) (fun b t hb => by
      rcases Nat.lt_or_ge b W.heap.size with hlt | hge
      · cases ho : own b with
        | none => rw [o.none b hlt ho] at hb; cases hb
        | some u => exact hl b u ho
      · have := he.size; omega), Nat.le_trans h.size k.size⟩
theorem ownAlso_owns {v : Value} {t : Tg} (h : ∀ g, v.ownBlock = some g → own g = some t ∨ (own g = none ∧ W.heap.size ≤ g)) : Owns W own (ownAlso own v t) :=
  ⟨ownAlso_le fun g hg => (h g hg).imp id (fun h => h.1), fun b hb ho => by
    unfold ownAlso
    split
    · rename_i hg
      rcases h b hg with h5 | h5
      · rw [ho] at h5; cases h5
      · omega
    · exact ho⟩

end Go.Proofs.YtjodmedgkmeklaaGreat

/-
  A term is added to the pool (add).
-/
namespace Go.Proofs.YtjodmedgkmeklaaGreat
open Go Go.RowKit Go.Maps
attribute [local go_sem] extUpon run_store_tm
attribute [local go_sem ↓] Tm.val_cell eval_put_ne eval_put_none eval_put_same size_put eval_const
attribute [local go_sem ↓] meth_Atom meth_Public meth_Shared meth_Chain meth_Digest meth_Box meth_Empty
attribute [local go_sem ↓] run_build_chain run_build_digest run_build_box
attribute [local go_sem] ta_Atom_Atom ta_Public_Atom ta_Shared_Atom ta_Chain_Atom ta_Digest_Atom ta_Box_Atom ta_Empty_Atom ta_Nil_Atom ta_Atom_Public ta_Public_Public ta_Shared_Public ta_Chain_Public ta_Digest_Public ta_Box_Public ta_Empty_Public ta_Nil_Public ta_Atom_Shared ta_Public_Shared ta_Shared_Shared ta_Chain_Shared ta_Digest_Shared ta_Box_Shared ta_Empty_Shared ta_Nil_Shared ta_Atom_Chain ta_Public_Chain ta_Shared_Chain ta_Chain_Chain ta_Digest_Chain ta_Box_Chain ta_Empty_Chain ta_Nil_Chain ta_Atom_Digest ta_Public_Digest ta_Shared_Digest ta_Chain_Digest ta_Digest_Digest ta_Box_Digest ta_Empty_Digest ta_Nil_Digest ta_Atom_Box ta_Public_Box ta_Shared_Box ta_Chain_Box ta_Digest_Box ta_Box_Box ta_Empty_Box ta_Nil_Box ta_Atom_Empty ta_Public_Empty ta_Shared_Empty ta_Chain_Empty ta_Digest_Empty ta_Box_Empty ta_Empty_Empty ta_Nil_Empty
variable {f : Int → List UInt8} {P : Int → Prop} {w0 w W W2 W3 : World} {own own2 : Nat → Option Tg} {m : MB} {μ μ2 : MS} {v : KV}

theorem names_push {l : List Tm} {t : Tm} : names f (l ++ [t]) = fun s => names f l s || decide (s = nm f t) := by
  funext s
  unfold names
  simp only [List.map_append, List.mem_append, List.map_cons, List.map_nil, List.mem_singleton, Bool.decide_or]
theorem MAt.push {t : Tm} {vpl : Value} (h : MAt f P w0 W own m μ v) (hk : Kept own (fun t => t = .w ∨ t = .pool ∨ t = .names) W W3)
    (hblk : W3.heap[m.wb]? = some (.cells #[m.vst, m.vsd, vpl, .map (some m.nb), ptr m.k.kb, .map (some m.lb)] 64 (0, 0)))
    (hpl : W3.ownsRow w0.heap.size 29 1 vpl (μ.pool.length + 1) (μ.pool.map Tm.val ++ [t.val])) (hnm : MapG CB W3 m.nb (flag (names f (μ.pool ++ [t]))) (μ.pool.length + 1))
    (hv : ∀ g, vpl.ownBlock = some g → own g = some .pool ∨ own g = none) :
    MAt f P w0 W3 (ownAlso own vpl .pool) { m with vpl := vpl } { μ with pool := μ.pool ++ [t] } v := by
  have hle := ownAlso_le (own := own) (v := vpl) (t := .pool) hv
  have hsame : ∀ b t, own b = some t → (t ≠ .w ∧ t ≠ .pool ∧ t ≠ .names) → W3.heap[b]? = W.heap[b]? := fun b t hb ht => hk.same b t hb (by rintro (h | h | h) <;> simp_all)
  refine ⟨hblk, own_keep h.st fun g hg => hsame g _ (h.ost g hg) (by simp), own_keep h.sds fun g hg => hsame g _ (h.osd g hg) (by simp), ?_, ?_, h.lk.keep (hsame _ _ h.ol (by simp)), h.base.keep fun b hb => ?_, h.len,
    fun i x s h1 h2 => (h.side i x s h1 h2).keep (fun b t hb ht => hsame b t hb (by rcases ht with rfl | rfl | rfl <;> simp)) hle, hk.ext h.ext (fun b t hb => (h.owns b t hb).1), fun b t hb => ?_, hle _ _ h.ow, hle _ _ h.on, hle _ _ h.ol, hle _ _ h.okb, hle _ _ h.osb, hle _ _ h.onb, hle _ _ h.oab,
    fun g hg => hle _ _ (h.ost g hg), fun g hg => hle _ _ (h.osd g hg), ownAlso_self, h.bx, h.bS, h.kc, fun s hs => by rw [names_push]; simp [h.seen s hs]⟩
  · simpa using hpl
  · simpa using hnm
  · rcases hb with rfl | rfl | rfl | rfl
    · exact hsame _ _ h.okb (by simp)
    · exact hsame _ _ h.osb (by simp)
    · exact hsame _ _ h.onb (by simp)
    · exact hsame _ _ h.oab (by simp)
  · rcases ownAlso_inv hb with ⟨h1, rfl⟩ | h1
    · exact hpl.lt b h1
    · exact ⟨(h.owns b t h1).1, Nat.lt_of_lt_of_le (h.owns b t h1).2 hk.size⟩

theorem MAt.name (h : MAt f P w0 W own m μ v) (s : List UInt8) (hs : CB.ok s) (W2 : World) (hW : Ext W W2) :
    (Instr.lookup 61 (.map (some m.nb)) (str s) false).run Tryz.prog W2 = .ok (.bool (names f μ.pool s)) W2 := by
  have h5 := (h.nm.later hW).get (a := s) hs
  refine h5.trans ?_
  unfold flag
  cases names f μ.pool s <;> rfl

set_option maxHeartbeats 2000000 in
set_option maxRecDepth 100000 in
/-- A term is added. -/
theorem add_any {t : Tm} {u : TypeId} {d : Value} (ht : Va t u d) (hI : Itoa W Small f) (ha : t.all Small) (hs : sz t ≤ 10000) (hfew : names f μ.pool (nm f t) = true ∨ μ.pool.length < 1000) (h : MAt f P w0 W own m μ v) :
    Calls Tryz.prog 39 #[ptr m.wb, .iface u d] W fun e w' => (∃ x, e = .returned x) ∧ ∃ own2 vpl, MAt f P w0 w' own2 { m with vpl := vpl } (μ.add f t) v ∧ Kept own (fun t => t = .w ∨ t = .pool ∨ t = .names) W w' ∧ Owns W own own2 := by
  have hne : t ≠ .non := fun e => by have := ht.eq; rw [e] at this; cases this
  have hno := nm_ok hI t hs
  have HNM : Hid (∀ W', Ext W W' → Calls Tryz.prog t.nf #[t.arg] W' fun e w' => e = .returned (str (nm f t)) ∧ Ext W' w') := hid (fun W' hW => call_name t W hne hI ha hs W' hW)
  obtain ⟨u', hu', hme, hen⟩ := t.iface hne
  have hud : u = u' ∧ d = t.arg := by have := ht.eq; rw [hu'] at this; cases this; exact ⟨rfl, rfl⟩
  obtain ⟨rfl, rfl⟩ := hud
  have HC := hid (fun W' (hW : Ext W W') => (cell_blk (j := 3) (hW.blk h.blk) rfl : W'.cell? ⟨m.wb, 3, none⟩ = some (.map (some m.nb))))
  have HLK := hid (fun W' (hW : Ext W W') => h.name (nm f t) hno W' hW)
  have HM := hid h
  have HT := hid ht
  have HNO := hid hno
  have HHI := hid hI
  clear hno ht ha hs hI h
  go_enter Tryz.func39, Tryz.ntmps39
  go_wp2_with fail
  refine reg_begin 8 (by kernel_rfl) ?_
  refine reg_hide (fun Q2 HQ => ?_)
  generalize hW : World.drew _ = W1
  have HE : Hid (Ext W W1) := hid (by rw [← hW]; exact Ext.drew _)
  clear hW
  refine reg_pure 0 rfl (by kernel_rfl) (by kernel_rfl) ?_; apply Exists.intro; refine ⟨fun w' => ?_, ?_⟩; · go_simp; exact rfl
  refine reg_pure 1 rfl (by kernel_rfl) (by kernel_rfl) ?_; apply Exists.intro; refine ⟨fun w' => ?_, ?_⟩; · go_simp; exact rfl
  refine reg_pure 2 rfl (by kernel_rfl) (by kernel_rfl) ?_; apply Exists.intro; refine ⟨fun w' => ?_, ?_⟩; · go_simp; exact rfl
  refine reg_quiet 3 rfl (by kernel_rfl) (by kernel_rfl) ?_; apply Exists.intro; refine ⟨fun w' hw' => ?_, ?_⟩; · have q0 := HC.out w' (HE.out.trans hw'); go_simp; exact ⟨rfl, Ext.refl _⟩
  refine reg_pure 4 rfl (by kernel_rfl) (by kernel_rfl) ?_; apply Exists.intro; refine ⟨fun w' => ?_, ?_⟩; · go_simp; exact rfl
  refine reg_quiet 5 rfl (by kernel_rfl) (by kernel_rfl) ?_; apply Exists.intro; refine ⟨fun w' hw' => ?_, ?_⟩; · go_simp; exact HNM.out w' (HE.out.trans hw')
  refine reg_quiet 6 rfl (by kernel_rfl) (by kernel_rfl) ?_; apply Exists.intro; refine ⟨fun w' hw' => ?_, ?_⟩; · have q0 := HLK.out w' (HE.out.trans hw'); go_simp; exact ⟨rfl, Ext.refl _⟩
  refine reg_pure 7 rfl (by kernel_rfl) (by kernel_rfl) ?_; apply Exists.intro; refine ⟨fun w' => ?_, ?_⟩; · go_simp; exact rfl
  refine reg_done (by kernel_rfl) (fun W5 hw5 => ?_) _
  have HE5 := hid (HE.out.trans hw5)
  clear HE hw5
  go_simp
  rw [HQ.out]
  clear HQ Q2
  cases hn : names f μ.pool (nm f t)
  · have HN := hid hn
    clear hn
    have hno5 := HNO.out
    have hst := (HM.out.later HE5.out).nm.store (a := nm f t) hno5 (by rcases hfew with h | h; rw [HN.out] at h; cases h; omega) true
    rw [flag_set, flag_some, HN.out] at hst
    have HST : Hid (∀ W6, Ext W5 W6 → ∃ w2, (Instr.mapUpdate 61 (.map (some m.nb)) (str (nm f t)) (.bool true)).run Tryz.prog W6 = .ok () w2 ∧ MapG CB w2 m.nb (flag (names f (μ.pool ++ [t]))) (μ.pool.length + 1) ∧ W6.grownBy w2 (some m.nb)) := hid (fun W6 h6 => by
      have hst := ((HM.out.later HE5.out).later h6).nm.store (a := nm f t) hno5 (by rcases hfew with h | h; rw [HN.out] at h; cases h; omega) true
      rw [flag_set, flag_some, HN.out] at hst
      obtain ⟨w2, h1, h2, h3⟩ := hst
      refine ⟨w2, h1, ?_, h3⟩
      rw [names_push]
      exact h2)
    clear hst hno5
    generalize hnt : nm f t = nt at *
    have HNT := hid hnt
    clear hnt
    go_wp2_with fail
    refine reg_begin 6 (by kernel_rfl) ?_
    refine reg_hide (fun Q2 HQ => ?_)
    generalize hW : World.drew _ = W1
    have HE : Hid (Ext W5 W1) := hid (by rw [← hW]; exact Ext.drew _)
    clear hW
    refine reg_pure 0 rfl (by kernel_rfl) (by kernel_rfl) ?_; apply Exists.intro; refine ⟨fun w' => ?_, ?_⟩; · go_simp; exact rfl
    refine reg_pure 1 rfl (by kernel_rfl) (by kernel_rfl) ?_; apply Exists.intro; refine ⟨fun w' => ?_, ?_⟩; · go_simp; exact rfl
    refine reg_pure 2 rfl (by kernel_rfl) (by kernel_rfl) ?_; apply Exists.intro; refine ⟨fun w' => ?_, ?_⟩; · go_simp; exact rfl
    refine reg_quiet 3 rfl (by kernel_rfl) (by kernel_rfl) ?_; apply Exists.intro; refine ⟨fun w' hw' => ?_, ?_⟩; · have q0 := HC.out w' (HE5.out.trans (HE.out.trans hw')); go_simp; exact ⟨rfl, Ext.refl _⟩
    refine reg_pure 4 rfl (by kernel_rfl) (by kernel_rfl) ?_; apply Exists.intro; refine ⟨fun w' => ?_, ?_⟩; · go_simp; exact rfl
    refine reg_quiet 5 rfl (by kernel_rfl) (by kernel_rfl) ?_; apply Exists.intro; refine ⟨fun w' hw' => ?_, ?_⟩; · go_simp; exact HNM.out w' (HE5.out.trans (HE.out.trans hw'))
    refine reg_one 6 rfl (by kernel_rfl) (by kernel_rfl) (fun w' hw' => ?_)
    have h2 := Classical.choose_spec (HST.out w' (HE.out.trans hw'))
    generalize Classical.choose _ = w2 at h2
    have hrun := h2.1
    have HMG := hid h2.2.1
    have HG2 := hid (h2.2.2)
    have HE6 := hid (HE5.out.trans (HE.out.trans hw'))
    clear h2 hw' HST HE
    go_simp
    clear hrun
    refine reg_done (by kernel_rfl) (fun W7 hw7 => ?_) _
    have HMG7 := hid (HMG.out.later hw7)
    have HS7 : Hid (Same W W7 (fun k => k ≠ m.nb)) := hid ((Same.of_ext HE6.out).trans ((Same.of_grown HG2.out (fun b hb e => hb (Option.some.inj e))).trans (Same.of_ext hw7)))
    clear hw7 HMG HG2 HE6 HE5 HNM HLK
    go_simp
    rw [HQ.out]
    clear HQ Q2
    have hwn : m.wb ≠ m.nb := fun e => by have h1 := HM.out.ow; rw [e, HM.out.on] at h1; cases h1
    have hwlt := (HM.out.owns _ _ HM.out.ow).2
    have c2 : W7.cell? ⟨m.wb, 2, none⟩ = some m.vpl := cell_blk (j := 2) ((HS7.out.2.2.2.2 _ hwlt hwn).trans HM.out.blk) rfl
    have HPL : Hid (W7.ownsRow w0.heap.size 29 1 m.vpl μ.pool.length (μ.pool.map Tm.val)) := hid (own_keep HM.out.pl fun g hg => HS7.out.2.2.2.2 g (HM.out.owns _ _ (HM.out.opl g hg)).2 (fun e => by have h1 := HM.out.opl g hg; rw [e, HM.out.on] at h1; cases h1))
    have HBW : Hid (W7.heap[m.wb]? = some (.cells #[m.vst, m.vsd, m.vpl, .map (some m.nb), ptr m.k.kb, .map (some m.lb)] 64 (0, 0))) := hid ((HS7.out.2.2.2.2 _ hwlt hwn).trans HM.out.blk)
    have HA := hid (Ext.alloc W7 (.cells #[.iface u t.arg] 29 (0, 0)))
    have HBA := hid (blk_new W7 (.cells #[.iface u t.arg] 29 (0, 0)))
    have hsz : w0.heap.size ≤ (W7.alloc (.cells #[.iface u t.arg] 29 (0, 0))).heap.size := by
      have h1 := HM.out.ext.size
      have h2 := HS7.out.2.2.2.1
      have h3 := HA.out.size
      omega
    have hfew2 : μ.pool.length ≤ 1000 := by rcases hfew with h | h; rw [HN.out] at h; cases h; omega
    clear hwn hwlt hfew HC
    go_wp2_with (first
      | (at_builtin; refine wpl_app1 (.tmp 22) (.tmp 24) rfl rfl rfl w0.heap.size m.vpl μ.pool.length (μ.pool.map Tm.val) (by rfl) (own_ext HA.out HPL.out) W7.heap.size (.iface u t.arg) (by rfl) (cell_blk HBA.out rfl) rfl hfew2 hsz ?_; intro v' w4 hown hgr hnb hv1; obtain ⟨va', vc', hve, _⟩ := row_cells hown; subst hve; have hb4 := grown_blk hgr (HA.out.blk HBW.out) (own_ne (own_ext HA.out HPL.out) (HA.out.blk HBW.out) (by decide)); have c2b : w4.cell? ⟨m.wb, 2, none⟩ = some m.vpl := cell_blk hb4 rfl; have f2 : w4.frozen? ⟨m.wb, 2, none⟩ = false := blk_frozen hb4))
    have hnp : ∀ g, m.vpl.ownBlock = some g → g ≠ m.nb ∧ g ≠ m.wb := fun g hg => ⟨fun e => (by have h1 := HM.out.opl g hg; rw [e, HM.out.on] at h1; cases h1), fun e => (by have h1 := HM.out.opl g hg; rw [e, HM.out.ow] at h1; cases h1)⟩
    have hwn : m.nb ≠ m.wb := fun e => by have h1 := HM.out.on; rw [e, HM.out.ow] at h1; cases h1
    have hS : Same W (w4.setCell ⟨m.wb, 2, none⟩ (.slice va' (μ.pool.length + 1) vc')) (fun k => ∀ t, own k = some t → ¬ (t = .w ∨ t = .pool ∨ t = .names)) :=
      (HS7.out.mono (fun k hk e => hk .names (by rw [e]; exact HM.out.on) (.inr (.inr rfl)))).trans ((Same.of_ext HA.out).trans ((Same.of_grown hgr (fun k hk e => hk .pool (HM.out.opl k e.symm) (.inr (.inl rfl)))).trans ((same_set w4 m.wb 2 _).mono (fun k hk e => hk .w (by rw [e]; exact HM.out.ow) (.inl rfl)))))
    have hk := Kept.of hS (fun b t hb => (HM.out.owns b t hb).2)
    have hblk : (w4.setCell ⟨m.wb, 2, none⟩ (.slice va' (μ.pool.length + 1) vc')).heap[m.wb]? = some (.cells #[m.vst, m.vsd, .slice va' (μ.pool.length + 1) vc', .map (some m.nb), ptr m.k.kb, .map (some m.lb)] 64 (0, 0)) := by
      simp only [World.setCell, Array.getElem?_modify, hb4, if_true, Option.map_some]; rfl
    have hpl := own_set hown (p := ⟨m.wb, 2, none⟩) (own_ne hown hb4 (by decide)) (.slice va' (μ.pool.length + 1) vc')
    have hnm := (HMG7.out.later HA.out).keep (w' := w4.setCell ⟨m.wb, 2, none⟩ (.slice va' (μ.pool.length + 1) vc')) ((Below.heap_setCell w4 ⟨m.wb, 2, none⟩ _ m.nb hwn).trans (hgr.block m.nb (HMG7.out.later HA.out).lt (fun e => (hnp m.nb e.symm).1 rfl)))
    have hpush := MAt.push (t := t) HM.out hk hblk (by rw [HT.out.eq]; exact hpl) hnm (fun g hg => by
      rcases hnb g hg with h5 | h5
      · exact .inl (HM.out.opl g h5)
      · exact .inr (HM.out.fresh (by have h6 := HS7.out.2.2.2.1; have h7 := HA.out.size; omega)))
    have HPU := hid hpush
    have HKK := hid hk
    have HLE := hid (ownAlso_owns (W := W) (own := own) (v := .slice va' (μ.pool.length + 1) vc') (t := .pool) (fun g hg => by
      rcases hnb g hg with h5 | h5
      · exact .inl (HM.out.opl g h5)
      · have hge : W.heap.size ≤ g := by have h6 := HS7.out.2.2.2.1; have h7 := HA.out.size; omega
        exact .inr ⟨HM.out.fresh hge, hge⟩))
    clear hpush hk hS hblk hpl hnm hnp hwn hown hgr hnb hv1 hb4 c2b f2 c2
    go_end0
    have hadd : μ.add f t = { μ with pool := μ.pool ++ [t] } := by unfold MS.add; rw [HNT.out, if_neg (by rw [HN.out]; simp)]
    rw [hadd]
    exact ⟨⟨_, rfl⟩, _, _, HPU.out, HKK.out, HLE.out⟩
  · have HN := hid hn
    clear hn
    go_wp2_with fail
    go_end0
    refine ⟨⟨_, rfl⟩, own, m.vpl, ?_, Kept.of (Same.of_ext HE5.out) (fun b t hb => (HM.out.owns b t hb).2), Owns.refl _ _⟩
    have : μ.add f t = μ := by unfold MS.add; rw [if_pos HN.out]
    rw [this]
    exact HM.out.later HE5.out

end Go.Proofs.YtjodmedgkmeklaaGreat

/-
  Places of the pool, sides by number, room for terms.
-/
namespace Go.Proofs.YtjodmedgkmeklaaGreat
open Go Go.RowKit Go.Maps
attribute [local go_sem] extUpon run_store_tm
attribute [local go_sem ↓] Tm.val_cell eval_put_ne eval_put_none eval_put_same size_put eval_const
attribute [local go_sem ↓] meth_Atom meth_Public meth_Shared meth_Chain meth_Digest meth_Box meth_Empty
attribute [local go_sem ↓] run_build_chain run_build_digest run_build_box
attribute [local go_sem] ta_Atom_Atom ta_Public_Atom ta_Shared_Atom ta_Chain_Atom ta_Digest_Atom ta_Box_Atom ta_Empty_Atom ta_Nil_Atom ta_Atom_Public ta_Public_Public ta_Shared_Public ta_Chain_Public ta_Digest_Public ta_Box_Public ta_Empty_Public ta_Nil_Public ta_Atom_Shared ta_Public_Shared ta_Shared_Shared ta_Chain_Shared ta_Digest_Shared ta_Box_Shared ta_Empty_Shared ta_Nil_Shared ta_Atom_Chain ta_Public_Chain ta_Shared_Chain ta_Chain_Chain ta_Digest_Chain ta_Box_Chain ta_Empty_Chain ta_Nil_Chain ta_Atom_Digest ta_Public_Digest ta_Shared_Digest ta_Chain_Digest ta_Digest_Digest ta_Box_Digest ta_Empty_Digest ta_Nil_Digest ta_Atom_Box ta_Public_Box ta_Shared_Box ta_Chain_Box ta_Digest_Box ta_Box_Box ta_Empty_Box ta_Nil_Box ta_Atom_Empty ta_Public_Empty ta_Shared_Empty ta_Chain_Empty ta_Digest_Empty ta_Box_Empty ta_Empty_Empty ta_Nil_Empty
variable {f : Int → List UInt8} {P : Int → Prop} {w0 w W W2 W3 : World} {own own2 : Nat → Option Tg} {m : MB} {μ μ2 : MS} {v : KV}

/-- What some cells hold (as Rd), for a row of the call's own. -/
theorem own_rd {w : World} {base n : Nat} {e : TypeId} {v : Value} {xs : List Value} (h : w.ownsRow base e 1 v n xs) : ∃ a cap, v = .slice a n cap ∧ n ≤ cap ∧ Rd w a xs := by
  rcases h.2 with ⟨rfl, rfl⟩ | ⟨g, cap, cur, rfl, hB, hh, hn, hc, hs, ht⟩
  · have h0 : xs = [] := by
      have := h.1
      simpa using this
    exact ⟨none, 0, rfl, Nat.le_refl _, fun h5 => by rw [h0] at h5; exact absurd h5 (by decide)⟩
  · refine ⟨_, _, rfl, by omega, fun _ => ⟨g, rfl, (Array.getElem?_eq_some_iff.1 hh).1, fun i u hu => cell_blk hh ?_⟩⟩
    subst ht
    rw [List.getElem?_take] at hu
    split at hu
    · simpa using hu
    · cases hu

set_option maxHeartbeats 2000000 in
set_option maxRecDepth 100000 in
theorem place_any (k : Int) (h : MAt f P w0 W own m μ v) :
    Calls Tryz.prog 47 #[ptr m.wb, .int .i64 k] W fun e w' => e = .returned (μ.place k).val ∧ W = w' := by
  obtain ⟨pa, pc, hpv, hpc, hrd⟩ := own_rd h.pl
  have c2 : W.cell? ⟨m.wb, 2, none⟩ = some (.slice pa μ.pool.length pc) := hpv ▸ cell_blk h.blk rfl
  have HRD := hid hrd
  clear h hrd hpv
  by_cases h0 : k < 0
  · have hp : μ.place k = .non := by unfold MS.place; rw [if_neg (by omega)]
    rw [hp]
    clear hp
    go_enter Tryz.func47, Tryz.ntmps47
    go_wp2_with fail
    go_ret
    exact ⟨rfl, rfl⟩
  · by_cases h1 : (μ.pool.length : Int) ≤ k
    · have hp : μ.place k = .non := by unfold MS.place; rw [if_neg (by omega)]
      rw [hp]
      clear hp
      go_enter Tryz.func47, Tryz.ntmps47
      go_wp2_with fail
      go_ret
      exact ⟨rfl, rfl⟩
    · obtain ⟨j, rfl⟩ : ∃ j : Nat, k = (j : Int) := ⟨k.toNat, by omega⟩
      have hj : j < μ.pool.length := by omega
      have hp : μ.place (j : Int) = μ.pool[j] := by
        unfold MS.place
        rw [if_pos (by omega), Int.toNat_natCast, List.getD_eq_getElem?_getD, List.getElem?_eq_getElem hj]
        rfl
      rw [hp]
      obtain ⟨g, rfl, _, hcell⟩ := HRD.out (by simp; omega)
      have q0 : W.cell? ⟨g, j, none⟩ = some μ.pool[j].val := hcell j _ (by rw [List.getElem?_map, List.getElem?_eq_getElem hj]; rfl)
      have hlt : (j : Int) < (μ.pool.length : Int) := by omega
      clear hp hcell HRD
      generalize μ.pool[j].val = tv at *
      go_enter Tryz.func47, Tryz.ntmps47
      go_wp2_with fail
      go_ret
      exact ⟨rfl, rfl⟩

/-- A side's pointer, by its number. -/
def sideAt (m : MB) (k : Int) : Value := if 0 ≤ k ∧ k < m.sd.length then ptr (m.sd.getD k.toNat ⟨0, .nilIface, .nilIface⟩).b else .pointer none
set_option maxHeartbeats 2000000 in
set_option maxRecDepth 100000 in
theorem side_any (k : Int) (h : MAt f P w0 W own m μ v) :
    Calls Tryz.prog 36 #[ptr m.wb, .int .i64 k] W fun e w' => e = .returned (sideAt m k) ∧ W = w' := by
  obtain ⟨pa, pc, hpv, hpc, hrd⟩ := own_rd h.sds
  have c1 : W.cell? ⟨m.wb, 1, none⟩ = some (.slice pa m.sd.length pc) := hpv ▸ cell_blk h.blk rfl
  have HRD := hid hrd
  clear h hrd hpv
  by_cases h0 : k < 0
  · have hp : sideAt m k = .pointer none := by unfold sideAt; rw [if_neg (by omega)]
    rw [hp]
    clear hp
    go_enter Tryz.func36, Tryz.ntmps36
    go_wp2_with fail
    go_ret
    exact ⟨rfl, rfl⟩
  · by_cases h1 : (m.sd.length : Int) ≤ k
    · have hp : sideAt m k = .pointer none := by unfold sideAt; rw [if_neg (by omega)]
      rw [hp]
      clear hp
      go_enter Tryz.func36, Tryz.ntmps36
      go_wp2_with fail
      go_ret
      exact ⟨rfl, rfl⟩
    · obtain ⟨j, rfl⟩ : ∃ j : Nat, k = (j : Int) := ⟨k.toNat, by omega⟩
      have hj : j < m.sd.length := by omega
      have hp : sideAt m (j : Int) = ptr m.sd[j].b := by
        unfold sideAt
        rw [if_pos (by omega), Int.toNat_natCast, List.getD_eq_getElem?_getD, List.getElem?_eq_getElem hj]
        rfl
      rw [hp]
      obtain ⟨g, rfl, _, hcell⟩ := HRD.out (by simp; omega)
      have q0 : W.cell? ⟨g, j, none⟩ = some (ptr m.sd[j].b) := hcell j _ (by rw [List.getElem?_map, List.getElem?_eq_getElem hj]; rfl)
      have hlt : (j : Int) < (m.sd.length : Int) := by omega
      clear hp hcell HRD
      generalize m.sd[j].b = bb at *
      go_enter Tryz.func36, Tryz.ntmps36
      go_wp2_with fail
      go_ret
      exact ⟨rfl, rfl⟩

theorem newsL_succ {pool l : List Tm} {j : Nat} (h : j < l.length) : newsL f pool (l.take (j + 1)) = if names f pool (nm f l[j]) || decide (nm f l[j] ∈ newsL f pool (l.take j)) then newsL f pool (l.take j) else newsL f pool (l.take j) ++ [nm f l[j]] := by
  unfold newsL
  rw [List.take_succ_eq_append_getElem h, List.foldl_append]
  rfl
theorem flag_mem {acc : List (List UInt8)} {s : List UInt8} (h : s ∈ acc) : flag (fun k => decide (k ∈ acc) || decide (k = s)) = flag (fun k => decide (k ∈ acc)) := by
  congr 1
  funext k
  by_cases hk : k = s
  · subst hk; simp [h]
  · simp [hk]
theorem flag_app {acc : List (List UInt8)} {s : List UInt8} : flag (fun k => decide (k ∈ acc) || decide (k = s)) = flag (fun k => decide (k ∈ acc ++ [s])) := by
  congr 1
  funext k
  simp only [List.mem_append, List.mem_singleton, Bool.decide_or]
theorem newsL_len {pool l : List Tm} : (newsL f pool l).length ≤ l.length := by
  unfold newsL
  suffices h : ∀ (l : List Tm) (acc : List (List UInt8)), (l.foldl (fun acc t => if names f pool (nm f t) || decide (nm f t ∈ acc) then acc else acc ++ [nm f t]) acc).length ≤ acc.length + l.length by
    have := h l []
    simpa using this
  intro l
  induction l with
  | nil => intro acc; simp
  | cons t l ih =>
    intro acc
    simp only [List.foldl_cons, List.length_cons]
    split
    · have := ih acc; omega
    · have := ih (acc ++ [nm f t]); simp only [List.length_append, List.length_singleton] at this; omega

set_option maxHeartbeats 4000000 in
set_option maxRecDepth 100000 in
theorem room_any {l : List Tm} {la : Option Addr} {lc : Nat} (hI : Itoa W Small f) (hl : ∀ t ∈ l, t ≠ .non ∧ t.all Small ∧ sz t ≤ 10000) (hll : l.length ≤ 10) (hrd : Rd W la (l.map Tm.val)) (h : MAt f P w0 W own m μ v) (hp : μ.pool.length ≤ 1000) :
    Calls Tryz.prog 50 #[ptr m.wb, .slice la l.length lc] W fun e w' => e = .returned (.bool (μ.room f l)) ∧ Ext W w' := by
  have HM := hid h
  have HI := hid hI
  have HL := hid hl
  have HRD := hid hrd
  have hmm := @run_makeMap Tryz.prog
  clear h hI hl hrd
  go_enter Tryz.func50, Tryz.ntmps50
  go_wp2_with fail
  clear hmm
  have HX0 := hid (Ext.alloc W (.map #[] 0))
  have HG0 : Hid (MapG CB (W.alloc (.map #[] 0)) W.heap.size (flag (fun k => decide (k ∈ newsL f μ.pool (l.take 0)))) (newsL f μ.pool (l.take 0)).length) := hid (by
    have := MapG.made CB W
    have he : flag (fun k : List UInt8 => decide (k ∈ newsL f μ.pool (l.take 0))) = fun _ => none := by funext k; simp [flag, newsL]
    rw [he]
    exact this)
  generalize hW1 : World.alloc W _ = W1 at *
  generalize hq : W.heap.size = q at *
  have HQ := hid hq
  clear hW1 hq
  have HB : Hid (W.heap.size ≤ q) := hid (by have := HQ.out; omega)
  go_loopw [11] (fun iv wr => ∃ j : Nat, iv = .int .i64 j ∧ j ≤ l.length ∧ Hid (Ext W wr) ∧ Hid (MapG CB wr q (flag (fun k => decide (k ∈ newsL f μ.pool (l.take j)))) (newsL f μ.pool (l.take j)).length)) (fun iv _ => l.length - (intOf iv).toNat)
  case atStart => exact ⟨0, rfl, by omega, HX0, HG0⟩
  case round =>
    clear HX0 HG0
    obtain ⟨j, rfl, hj, HX, HG⟩ := hrel
    by_cases hlt : j < l.length
    · have hlt2 : (j : Int) < (l.length : Int) := by omega
      obtain ⟨g, rfl, _, hcell⟩ := HRD.out (by simp; omega)
      have hlj := HL.out l[j] (List.getElem_mem hlt)
      obtain ⟨u, hu, hme, hen⟩ := l[j].iface hlj.1
      have q0 : wr.cell? ⟨g, j, none⟩ = some (.iface u l[j].arg) := HX.out.cell (hcell j _ (by rw [List.getElem?_map, List.getElem?_eq_getElem hlt]; simp [hu]))
      have hno := nm_ok HI.out l[j] hlj.2.2
      have HNO := hid hno
      have HNM : Hid (∀ W', Ext wr W' → Calls Tryz.prog l[j].nf #[l[j].arg] W' fun e w' => e = .returned (str (nm f l[j])) ∧ Ext W' w') := hid (fun W' hW => call_name l[j] W hlj.1 HI.out hlj.2.1 hlj.2.2 W' (HX.out.trans hW))
      have HC := hid (fun W' (hW : Ext wr W') => (cell_blk (j := 3) (((HX.out.trans hW)).blk HM.out.blk) rfl : W'.cell? ⟨m.wb, 3, none⟩ = some (.map (some m.nb))))
      have HLK := hid (fun W' (hW : Ext wr W') => HM.out.name (nm f l[j]) hno W' (HX.out.trans hW))
      have HSU := hid (newsL_succ (f := f) (pool := μ.pool) hlt)
      clear hcell hno hu hlj
      generalize l[j].nf = nfv at *
      generalize l[j].arg = d at *
      generalize nm f l[j] = nt at *
      go_wp2_with fail
      clear q0
      refine reg_begin 8 (by kernel_rfl) ?_
      refine reg_hide (fun Q2 HQ2 => ?_)
      generalize hW : World.drew _ = W3
      have HE : Hid (Ext wr W3) := hid (by rw [← hW]; exact Ext.drew _)
      clear hW
      refine reg_pure 0 rfl (by kernel_rfl) (by kernel_rfl) ?_; apply Exists.intro; refine ⟨fun w' => ?_, ?_⟩; · go_simp; exact rfl
      refine reg_pure 1 rfl (by kernel_rfl) (by kernel_rfl) ?_; apply Exists.intro; refine ⟨fun w' => ?_, ?_⟩; · go_simp; exact rfl
      refine reg_pure 2 rfl (by kernel_rfl) (by kernel_rfl) ?_; apply Exists.intro; refine ⟨fun w' => ?_, ?_⟩; · go_simp; exact rfl
      refine reg_quiet 3 rfl (by kernel_rfl) (by kernel_rfl) ?_; apply Exists.intro; refine ⟨fun w' hw' => ?_, ?_⟩; · have q0 := HC.out w' (HE.out.trans hw'); go_simp; exact ⟨rfl, Ext.refl _⟩
      refine reg_pure 4 rfl (by kernel_rfl) (by kernel_rfl) ?_; apply Exists.intro; refine ⟨fun w' => ?_, ?_⟩; · go_simp; exact rfl
      refine reg_quiet 5 rfl (by kernel_rfl) (by kernel_rfl) ?_; apply Exists.intro; refine ⟨fun w' hw' => ?_, ?_⟩; · go_simp; exact HNM.out w' (HE.out.trans hw')
      refine reg_quiet 6 rfl (by kernel_rfl) (by kernel_rfl) ?_; apply Exists.intro; refine ⟨fun w' hw' => ?_, ?_⟩; · have q0 := HLK.out w' (HE.out.trans hw'); go_simp; exact ⟨rfl, Ext.refl _⟩
      refine reg_pure 7 rfl (by kernel_rfl) (by kernel_rfl) ?_; apply Exists.intro; refine ⟨fun w' => ?_, ?_⟩; · go_simp; exact rfl
      refine reg_done (by kernel_rfl) (fun W5 hw5 => ?_) _
      have HE5 := hid (HE.out.trans hw5)
      clear HE hw5 HLK HC
      go_simp
      rw [HQ2.out]
      clear HQ2 Q2
      cases hn : names f μ.pool nt
      · have HN := hid hn
        clear hn
        go_wp2_with fail
        refine (HNM.out W5 HE5.out).mono ?_
        rintro e W6 ⟨rfl, hE6⟩
        have HE6 := hid (HE5.out.trans hE6)
        clear hE6
        have hst := (HG.out.later HE6.out).store (a := nt) HNO.out (by have := newsL_len (f := f) (pool := μ.pool) (l := l.take j); simp at this; omega) true
        obtain ⟨w2, hrun, hm2, hg2⟩ := hst
        change (Instr.mapUpdate 61 (.map (some q)) (str nt) (.bool true)).run Tryz.prog W6 = _ at hrun
        have HEX : Hid (Ext W w2) := hid (Same.ext (HX.out.trans HE6.out) (Same.of_grown (p := fun k => k ≠ q) hg2 (fun b hb e => hb (Option.some.inj e))) (fun b hb e => by have := HB.out; omega))
        rw [flag_set, flag_some] at hm2
        have HM2 : Hid (MapG CB w2 q (flag (fun k => decide (k ∈ newsL f μ.pool (l.take (j + 1))))) (newsL f μ.pool (l.take (j + 1))).length) := hid (by
          rw [HSU.out, HN.out, Bool.false_or]
          by_cases hmem : nt ∈ newsL f μ.pool (l.take j)
          · rw [flag_mem hmem] at hm2
            rw [if_pos (decide_eq_true hmem)]
            simpa [hmem] using hm2
          · rw [flag_app] at hm2
            rw [if_neg (by simp [hmem])]
            simpa [hmem] using hm2)
        clear hm2 hg2
        go_wp2_with fail
        go_roundw
        case rel => exact ⟨j + 1, by go_num, by omega, HEX, HM2⟩
        case measure => simp [intOf]; omega
      · have HM2 : Hid (MapG CB W5 q (flag (fun k => decide (k ∈ newsL f μ.pool (l.take (j + 1))))) (newsL f μ.pool (l.take (j + 1))).length) := hid (by
          rw [HSU.out, hn, Bool.true_or, if_pos rfl]
          exact HG.out.later HE5.out)
        clear hn
        go_wp2_with fail
        go_roundw
        case rel => exact ⟨j + 1, by go_num, by omega, hid (HX.out.trans HE5.out), HM2⟩
        case measure => simp [intOf]; omega
    · have hlt2 : ¬ (j : Int) < (l.length : Int) := by omega
      obtain rfl : j = l.length := by omega
      have HGE : Hid (MapG CB wr q (flag (fun k => decide (k ∈ newsL f μ.pool l))) (newsL f μ.pool l).length) := hid (by have := HG.out; rwa [List.take_length] at this)
      have hnl := newsL_len (f := f) (pool := μ.pool) (l := l)
      obtain ⟨pa, pc, hpv, hpc, _⟩ := own_rd HM.out.pl
      have HC2 := hid (fun W' (hW : Ext wr W') => (hpv ▸ cell_blk (j := 2) ((HX.out.trans hW).blk HM.out.blk) rfl : W'.cell? ⟨m.wb, 2, none⟩ = some (.slice pa μ.pool.length pc)))
      have HLN := hid (fun W' (hW : Ext wr W') => (HGE.out.later hW).len 3)
      have HRES : Hid (μ.room f l = decide ((μ.pool.length : Int) + ((newsL f μ.pool l).length : Int) ≤ 300)) := hid (by
        unfold MS.room
        rw [decide_eq_decide]
        omega)
      clear HG HGE hpv
      generalize (newsL f μ.pool l).length = nn at *
      have hwr : IntKind.i64.wrap ((μ.pool.length : Int) + (nn : Int)) = (μ.pool.length : Int) + (nn : Int) := by rw [IntKind.wrap_i64]; omega
      go_wp2_with fail
      refine reg_begin 10 (by kernel_rfl) ?_
      refine reg_hide (fun Q2 HQ2 => ?_)
      generalize hW : World.drew _ = W3
      have HE : Hid (Ext wr W3) := hid (by rw [← hW]; exact Ext.drew _)
      clear hW
      refine reg_pure 0 rfl (by kernel_rfl) (by kernel_rfl) ?_; apply Exists.intro; refine ⟨fun w' => ?_, ?_⟩; · go_simp; exact rfl
      refine reg_pure 1 rfl (by kernel_rfl) (by kernel_rfl) ?_; apply Exists.intro; refine ⟨fun w' => ?_, ?_⟩; · go_simp; exact rfl
      refine reg_pure 2 rfl (by kernel_rfl) (by kernel_rfl) ?_; apply Exists.intro; refine ⟨fun w' => ?_, ?_⟩; · go_simp; exact rfl
      refine reg_quiet 3 rfl (by kernel_rfl) (by kernel_rfl) ?_; apply Exists.intro; refine ⟨fun w' hw' => ?_, ?_⟩; · have q0 := HC2.out w' (HE.out.trans hw'); go_simp; exact ⟨rfl, Ext.refl _⟩
      refine reg_pure 4 rfl (by kernel_rfl) (by kernel_rfl) ?_; apply Exists.intro; refine ⟨fun w' => ?_, ?_⟩; · go_simp; exact rfl
      refine reg_pure 5 rfl (by kernel_rfl) (by kernel_rfl) ?_; apply Exists.intro; refine ⟨fun w' => ?_, ?_⟩; · go_simp; exact rfl
      refine reg_quiet 6 rfl (by kernel_rfl) (by kernel_rfl) ?_; apply Exists.intro; refine ⟨fun w' hw' => ?_, ?_⟩; · have q0 := HLN.out w' (HE.out.trans hw'); change (Builtin.len_ #[61] 3 #[.map (some q)]).run Tryz.prog w' = _ at q0; go_simp; exact ⟨rfl, Ext.refl _⟩
      refine reg_pure 7 rfl (by kernel_rfl) (by kernel_rfl) ?_; apply Exists.intro; refine ⟨fun w' => ?_, ?_⟩; · go_simp; exact rfl
      refine reg_pure 8 rfl (by kernel_rfl) (by kernel_rfl) ?_; apply Exists.intro; refine ⟨fun w' => ?_, ?_⟩; · go_simp; exact rfl
      refine reg_pure 9 rfl (by kernel_rfl) (by kernel_rfl) ?_; apply Exists.intro; refine ⟨fun w' => ?_, ?_⟩; · go_simp; exact rfl
      refine reg_done (by kernel_rfl) (fun W5 hw5 => ?_) _
      have HE5 := hid (HX.out.trans (HE.out.trans hw5))
      clear HE hw5 HLN HC2
      go_simp
      rw [HQ2.out]
      clear HQ2 Q2
      go_wp2_with fail
      go_ret
      exact ⟨by rw [HRES.out]; rfl, HE5.out⟩

end Go.Proofs.YtjodmedgkmeklaaGreat
