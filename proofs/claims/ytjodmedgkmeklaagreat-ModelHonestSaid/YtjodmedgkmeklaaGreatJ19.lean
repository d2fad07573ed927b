/-
  Texts merged: Q22, Q23, Q24.
-/
import Derived.Test.YtjodmedgkmeklaaGreatJ18
/-
  An honest side speaks (speak).
-/
namespace Go.Proofs.YtjodmedgkmeklaaGreat
open Go Go.RowKit Go.Maps
attribute [local go_sem] extUpon run_store_tm
attribute [local go_sem ↓] Tm.val_cell eval_put_ne eval_put_none eval_put_same size_put eval_const
attribute [local go_sem ↓] meth_Atom meth_Public meth_Shared meth_Chain meth_Digest meth_Box meth_Empty
attribute [local go_sem ↓] run_build_chain run_build_digest run_build_box
attribute [local go_sem] ta_Atom_Atom ta_Public_Atom ta_Shared_Atom ta_Chain_Atom ta_Digest_Atom ta_Box_Atom ta_Empty_Atom ta_Nil_Atom ta_Atom_Public ta_Public_Public ta_Shared_Public ta_Chain_Public ta_Digest_Public ta_Box_Public ta_Empty_Public ta_Nil_Public ta_Atom_Shared ta_Public_Shared ta_Shared_Shared ta_Chain_Shared ta_Digest_Shared ta_Box_Shared ta_Empty_Shared ta_Nil_Shared ta_Atom_Chain ta_Public_Chain ta_Shared_Chain ta_Chain_Chain ta_Digest_Chain ta_Box_Chain ta_Empty_Chain ta_Nil_Chain ta_Atom_Digest ta_Public_Digest ta_Shared_Digest ta_Chain_Digest ta_Digest_Digest ta_Box_Digest ta_Empty_Digest ta_Nil_Digest ta_Atom_Box ta_Public_Box ta_Shared_Box ta_Chain_Box ta_Digest_Box ta_Box_Box ta_Empty_Box ta_Nil_Box ta_Atom_Empty ta_Public_Empty ta_Shared_Empty ta_Chain_Empty ta_Digest_Empty ta_Box_Empty ta_Empty_Empty ta_Nil_Empty
variable {f : Int → List UInt8} {P : Int → Prop} {w0 w W W2 W3 : World} {own own2 : Nat → Option Tg} {m : MB} {μ μ2 : MS} {v : KV} {i : Nat} {x : SB} {s : Sd}

/-- What stays of a world's blocks. -/
structure Core (m m2 : MB) : Prop where
  wb : m2.wb = m.wb
  nb : m2.nb = m.nb
  lb : m2.lb = m.lb
  k : m2.k = m.k
  vsd : m2.vsd = m.vsd
  sd : m2.sd.map SB.b = m.sd.map SB.b
theorem Core.refl (m : MB) : Core m m := ⟨rfl, rfl, rfl, rfl, rfl, rfl⟩
/-- A side within its bounds: it may speak, if it is open. -/
structure SdOk (P : Int → Prop) (s : Sd) : Prop where
  gd : Gd 2 s
  s0 : 0 ≤ s.step
  s3 : s.step ≤ 3
  op : s.state = 0 → s.step ≤ 2
  say : s.state = 0 → ∀ t ∈ s.parts.2, Hon P t
theorem parts_len (s : Sd) : s.parts.2.length ≤ 3 := by unfold Sd.parts; split <;> (try split) <;> simp
theorem parts_rows (s : Sd) : s.parts.1.said = s.said ∧ s.parts.1.took = s.took := by
  have hseal : ∀ (s : Sd) t, (s.seal t).1.said = s.said ∧ (s.seal t).1.took = s.took := fun s t => by unfold Sd.seal; split <;> exact ⟨rfl, rfl⟩
  have hdh : ∀ (s : Sd) x t, (s.dh x t).said = s.said ∧ (s.dh x t).took = s.took := fun s x t => by cases t <;> exact ⟨rfl, rfl⟩
  have hes : ∀ (s : Sd), s.es.said = s.said ∧ s.es.took = s.took := fun s => by unfold Sd.es; split <;> exact hdh _ _ _
  have hse : ∀ (s : Sd), s.se.said = s.said ∧ s.se.took = s.took := fun s => by unfold Sd.se; split <;> exact hdh _ _ _
  unfold Sd.parts
  split
  · exact ⟨(hseal _ _).1, (hseal _ _).2⟩
  · split
    · exact ⟨((hseal _ _).1.trans ((hes _).1.trans ((hseal _ _).1.trans (hdh _ _ _).1))), ((hseal _ _).2.trans ((hes _).2.trans ((hseal _ _).2.trans (hdh _ _ _).2)))⟩
    · exact ⟨((hseal _ _).1.trans ((hse _).1.trans (hseal _ _).1)), ((hseal _ _).2.trans ((hse _).2.trans (hseal _ _).2))⟩
def SpeakT (i : Nat) (t : Tg) : Prop := SentT t ∨ SideT i t
theorem setSide_sent (μ : MS) (i : Nat) (s : Sd) (l : List Tm) : (μ.sent f P l).setSide i s = (μ.setSide i s).sent f P l := by
  unfold MS.sent
  suffices h : ∀ (l : List Tm) (μ : MS), (l.foldl (fun μ t => (μ.add f t).see f P t) μ).setSide i s = l.foldl (fun μ t => (μ.add f t).see f P t) (μ.setSide i s) from h l μ
  intro l
  induction l with
  | nil => intro μ; rfl
  | cons t l ih =>
    intro μ
    simp only [List.foldl_cons]
    rw [ih]
    congr 1
    unfold MS.add MS.see MS.setSide
    split <;> rfl
theorem room_setSide (μ : MS) (i : Nat) (s : Sd) (l : List Tm) : (μ.setSide i s).room f l = μ.room f l := rfl
theorem PoolOk.setSide (h : PoolOk f P μ) (i : Nat) (s : Sd) : PoolOk f P (μ.setSide i s) := ⟨h.fine, h.few, h.ground, h.inU⟩
theorem setSide_self (h : μ.sides[i]? = some s) (s2 : Sd) : (μ.setSide i s2).setSide i s = μ := by
  obtain ⟨hl, he⟩ := List.getElem?_eq_some_iff.1 h
  unfold MS.setSide
  simp only [List.set_set]
  rw [← he, List.set_getElem_self hl]

def zeroSd : Sd := ⟨false, 0, 0, 0, 0, 0, .non, .non, 0, 0, .non, .non, 0, .non, .non, [], []⟩

set_option maxHeartbeats 8000000 in
set_option maxRecDepth 100000 in
theorem speak_any (N : Nums f P) (hI : Itoa w0 Small f) (h : MAt f P w0 W own m μ v) (hp : PoolOk f P μ) (hx : m.sd[i]? = some x) (hs : μ.sides[i]? = some s) (hok : SdOk P s) :
    Calls Tryz.prog 41 #[ptr m.wb, ptr x.b] W fun e w' => e = .returned (.int .i64 (μ.speak f P i s).2) ∧ ∃ own2 m2 v2, MAt f P w0 w' own2 m2 (μ.speak f P i s).1 v2 ∧ Core m m2 ∧ PoolOk f P (μ.speak f P i s).1 ∧ Kept own (SpeakT i) W w' ∧ Owns W own own2 := by
  have hsd := h.side i x s hx hs
  have HT := hid (turn_any true hok.s0 hok.s3 hsd.at_)
  have HM := hid h
  have HP := hid hp
  have HX := hid hx
  have HSS := hid hs
  have HOK := hid hok
  have HSD := hid hsd
  have HI := hid hI
  have HN := hid N
  clear h hp hx hs hok hsd hI N
  go_enter Tryz.func41, Tryz.ntmps41
  go_wp2_with fail
  refine HT.out.mono ?_
  rintro e w1 ⟨rfl, hE1⟩
  have HE1 := hid hE1
  clear hE1 HT
  cases ht : s.turn true
  · have HEQ : Hid (μ.speak f P i s = (μ, 4)) := hid (by unfold MS.speak; rw [if_pos ht])
    clear ht
    go_wp2_with fail
    go_ret
    rw [HEQ.out]
    exact ⟨rfl, own, m, v, HM.out.later HE1.out, Core.refl _, HP.out, (Kept.of (Same.of_ext HE1.out) (fun b t hb => (HM.out.owns b t hb).2)), Owns.refl _ _⟩
  · have hst : s.state = 0 := by unfold Sd.turn at ht; simp at ht; exact ht.1
    have HTU := hid ht
    have HST := hid hst
    clear ht hst
    have hvs : x.vs.oneCell' = true := by obtain ⟨a, c, e, _⟩ := own_rd HSD.out.said; rw [e]; rfl
    have hva : x.va.oneCell' = true := by obtain ⟨a, c, e, _⟩ := own_rd HSD.out.took; rw [e]; rfl
    go_upto_region 4 with (first
      | (refine wpl_load_side (b := x.b) (s := s) (vs := x.vs) (va := x.va) (.tmp 11) rfl rfl (by rfl) (HSD.out.at_.later HE1.out) ?_)
      | (refine wpl_store_side (b := w1.heap.size) (s := zeroSd) (vs := .slice none 0 0) (va := .slice none 0 0) (s2 := s) (vs2 := x.vs) (va2 := x.va) (.tmp 5) (.tmp 12) rfl rfl (by rfl) ⟨blk_new w1 _⟩ (by rfl) hvs hva ?_; intro W2 hz1 hz2))
    have hexz : Ext w1 W2 := Same.ext (Ext.alloc w1 _) hz2 (fun k hk e => by rw [e] at hk; omega)
    have HWAS := hid hz1
    have HE2 := hid (HE1.out.trans hexz)
    have HFQ : Hid (own w1.heap.size = none ∧ w1.heap.size ≠ x.b) := hid ⟨HM.out.fresh HE1.out.size, by have := HSD.out.at_.lt; have := HE1.out.size; omega⟩
    clear hz1 hz2 hexz HE1
    generalize w1.heap.size = q at *
    have HSD2 := hid (HSD.out.at_.later HE2.out)
    have HPA := hid (parts_any HOK.out.gd HOK.out.s0 (HOK.out.op HST.out) HSD2.out)
    go_wp2_with fail
    refine HPA.out.mono ?_
    rintro e w3 ⟨v', rfl, hown, hsd3, hsm3⟩
    obtain ⟨la, lc, hve, hlc, hlrd⟩ := own_rd hown
    have hrows := parts_rows s
    have ht1 := (HM.out.later HE2.out).turn1 HX.out HSS.out hsm3 hsd3 hrows.1 hrows.2
    have HM3 := hid ht1.1
    have HK3 := hid ht1.2
    have HS3 := hid hsm3
    have HSD3 := hid hsd3
    have HLR := hid hlrd
    have HOW := hid hown
    have hwas3 : SdAt w3 q s x.vs x.va := HWAS.out.keep (hsm3.2.2.2.2 q HWAS.out.lt HFQ.out.2)
    have HWAS3 := hid hwas3
    have HHON := hid (HOK.out.say HST.out)
    have hpl := parts_len s
    have HROOM := hid (room_any (f := f) (la := la) (lc := lc) (HM3.out.itoa HI.out) (fun t ht => ⟨(HHON.out t ht).ok.ne, (HHON.out t ht).ok.all HN.out.small, by have := (HHON.out t ht).sz; omega⟩) (by omega) hlrd HM3.out (by have := HP.out.few; show μ.pool.length ≤ 1000; omega))
    subst hve
    clear hown hsd3 hsm3 hlrd hrows ht1 hwas3 HPA HWAS hlc
    go_wp2_with fail
    refine HROOM.out.mono ?_
    rintro e w4 ⟨rfl, hE4⟩
    have HE4 := hid hE4
    clear hE4 HROOM
    rw [room_setSide]
    cases hr : μ.room f s.parts.2
    · have HEQ : Hid (μ.speak f P i s = (μ, 2)) := hid (by unfold MS.speak; rw [if_neg (by rw [HTU.out]; simp), if_pos hr])
      clear hr
      go_upto_region 7 with (first
        | (refine wpl_load_side (b := q) (s := s) (vs := x.vs) (va := x.va) (.tmp 5) rfl rfl (by rfl) (HWAS3.out.later HE4.out) ?_)
        | (refine wpl_store_side (b := x.b) (s := s.parts.1) (vs := x.vs) (va := x.va) (s2 := s) (vs2 := x.vs) (va2 := x.va) (.tmp 21) (.tmp 20) rfl rfl (by rfl) (HSD3.out.later HE4.out) (by rfl) hvs hva ?_; intro W5 hz1 hz2))
      have hsi : (μ.setSide i s.parts.1).sides[i]? = some s.parts.1 := by
        unfold MS.setSide
        rw [List.getElem?_set_self (List.getElem?_eq_some_iff.1 HSS.out).1]
      have hrows := parts_rows s
      have hb := (HM3.out.later HE4.out).turn1 HX.out hsi hz2 hz1 hrows.1.symm hrows.2.symm
      rw [setSide_self HSS.out] at hb
      have HMB := hid hb.1
      have HKB := hid (((Kept.of (T := SideT i) (Same.of_ext HE2.out) (fun b t hb => (HM.out.owns b t hb).2)).trans (Owns.refl _ _) HK3.out).trans (Owns.refl _ _) ((Kept.of (T := SideT i) (Same.of_ext HE4.out) (fun b t hb => (HM3.out.owns b t hb).2)).trans (Owns.refl _ _) hb.2))
      clear hz1 hz2 hsi hrows hb
      go_wp2_with fail
      go_ret
      rw [HEQ.out]
      exact ⟨rfl, own, m, v, HMB.out, Core.refl _, HP.out, HKB.out.mono (fun t ht => .inr ht), Owns.refl _ _⟩
    · have HEQ : Hid (μ.speak f P i s = ((μ.setSide i s.parts.1).sent f P s.parts.2, 0)) := hid (by unfold MS.speak; rw [if_neg (by rw [HTU.out]; simp), if_neg (by rw [hr]; simp), setSide_sent])
      have hfr : ∀ g, la = some ⟨g, 0, none⟩ → own g = none := fun g hg => by
        have h5 := (HOW.out.lt g (by rw [hg]; rfl)).1
        exact HM.out.fresh (by have := HE2.out.size; omega)
      have HSENT := hid (sent_any HN.out (la := la) (lc := lc) HI.out HHON.out (by omega) (HLR.out.later HE4.out) hfr (HM3.out.later HE4.out) (HP.out.setSide i s.parts.1) hr)
      clear hr hfr
      go_wp2_with fail
      refine HSENT.out.mono ?_
      rintro e w5 ⟨⟨xx, rfl⟩, own2, vpl, v2, h1, h2, h3, h4⟩
      have HA := hid h1
      have HPO := hid h2
      have hk0 := ((Kept.of (T := SideT i) (Same.of_ext HE2.out) (fun b t hb => (HM.out.owns b t hb).2)).trans (Owns.refl _ _) HK3.out).trans (Owns.refl _ _) (Kept.of (T := SideT i) (Same.of_ext HE4.out) (fun b t hb => (HM3.out.owns b t hb).2))
      have HK := hid ((hk0.mono (T2 := SpeakT i) (fun t ht => .inr ht)).trans (Owns.refl _ _) (h3.mono (fun t ht => .inl ht)))
      have HO := hid ((Owns.refl W own).trans h4 hk0.size)
      clear h1 h2 h3 h4 hk0 HSENT
      go_wp2_with fail
      go_ret
      rw [HEQ.out]
      exact ⟨rfl, own2, _, v2, HA.out, ⟨rfl, rfl, rfl, rfl, rfl, rfl⟩, HPO.out, HK.out, HO.out⟩

end Go.Proofs.YtjodmedgkmeklaaGreat

/-
  A side is begun (begin); is a number in a row? (slices.Contains)
-/
namespace Go.Proofs.YtjodmedgkmeklaaGreat
open Go Go.RowKit Go.Maps
attribute [local go_sem] extUpon run_store_tm
attribute [local go_sem ↓] Tm.val_cell eval_put_ne eval_put_none eval_put_same size_put eval_const
attribute [local go_sem ↓] meth_Atom meth_Public meth_Shared meth_Chain meth_Digest meth_Box meth_Empty
attribute [local go_sem ↓] run_build_chain run_build_digest run_build_box
attribute [local go_sem] ta_Atom_Atom ta_Public_Atom ta_Shared_Atom ta_Chain_Atom ta_Digest_Atom ta_Box_Atom ta_Empty_Atom ta_Nil_Atom ta_Atom_Public ta_Public_Public ta_Shared_Public ta_Chain_Public ta_Digest_Public ta_Box_Public ta_Empty_Public ta_Nil_Public ta_Atom_Shared ta_Public_Shared ta_Shared_Shared ta_Chain_Shared ta_Digest_Shared ta_Box_Shared ta_Empty_Shared ta_Nil_Shared ta_Atom_Chain ta_Public_Chain ta_Shared_Chain ta_Chain_Chain ta_Digest_Chain ta_Box_Chain ta_Empty_Chain ta_Nil_Chain ta_Atom_Digest ta_Public_Digest ta_Shared_Digest ta_Chain_Digest ta_Digest_Digest ta_Box_Digest ta_Empty_Digest ta_Nil_Digest ta_Atom_Box ta_Public_Box ta_Shared_Box ta_Chain_Box ta_Digest_Box ta_Box_Box ta_Empty_Box ta_Nil_Box ta_Atom_Empty ta_Public_Empty ta_Shared_Empty ta_Chain_Empty ta_Digest_Empty ta_Box_Empty ta_Empty_Empty ta_Nil_Empty
variable {f : Int → List UInt8} {P : Int → Prop} {w0 w W W2 W3 : World} {own own2 : Nat → Option Tg} {m : MB} {μ μ2 : MS} {v : KV} {i : Nat} {x : SB} {s : Sd}

set_option maxHeartbeats 2000000 in
set_option maxRecDepth 100000 in
theorem index_any (k : Int) (l : List Int) (a : Option Addr) (c : Nat) (hl : l.length ≤ 1000000) (hrd : Rd W a (l.map (Value.int .i64))) :
    Calls Tryz.prog 45 #[.slice a l.length c, .int .i64 k] W fun e w' => ∃ r : Int, e = .returned (.int .i64 r) ∧ (0 ≤ r ↔ k ∈ l) ∧ W = w' := by
  have HRD := hid hrd
  clear hrd
  go_enter Tryz.func45, Tryz.ntmps45
  go_wp2_with fail
  go_loopw [8] (fun iv wr => ∃ j : Nat, iv = .int .i64 j ∧ j ≤ l.length ∧ k ∉ l.take j ∧ W = wr) (fun iv _ => l.length - (intOf iv).toNat)
  case atStart => exact ⟨0, rfl, by omega, by simp, rfl⟩
  case round =>
    obtain ⟨j, rfl, hj, hno, rfl⟩ := hrel
    by_cases hlt : j < l.length
    · have hlt2 : (j : Int) < (l.length : Int) := by omega
      obtain ⟨g, rfl, _, hcell⟩ := HRD.out (by simp; omega)
      have q0 : W.cell? ⟨g, j, none⟩ = some (.int .i64 l[j]) := hcell j _ (by rw [List.getElem?_map, List.getElem?_eq_getElem hlt]; rfl)
      have HMEM := hid (List.getElem_mem hlt)
      have HTK := hid (List.take_succ_eq_append_getElem hlt)
      have HNO := hid hno
      clear hcell hno
      generalize l[j] = y at *
      by_cases hy : k = y
      · subst hy
        go_wp2_with fail
        go_ret
        refine ⟨_, rfl, ?_⟩
        have hm := HMEM.out
        simp [hm] <;> omega
      · go_wp2_with fail
        go_roundw
        case rel =>
          refine ⟨j + 1, by go_num, by omega, ?_⟩
          rw [HTK.out]
          simp [HNO.out, hy]
        case measure => simp [intOf]; omega
    · have hlt2 : ¬ (j : Int) < (l.length : Int) := by omega
      obtain rfl : j = l.length := by omega
      rw [List.take_length] at hno
      have HNO := hid hno
      clear hno
      go_wp2_with fail
      go_ret
      refine ⟨_, rfl, ?_⟩
      simp [HNO.out]

set_option maxHeartbeats 2000000 in
set_option maxRecDepth 100000 in
theorem contains_any (k : Int) (l : List Int) (a : Option Addr) (c : Nat) (hl : l.length ≤ 1000000) (hrd : Rd W a (l.map (Value.int .i64))) :
    Calls Tryz.prog 32 #[.slice a l.length c, .int .i64 k] W fun e w' => e = .returned (.bool (decide (k ∈ l))) ∧ W = w' := by
  have HX := hid (index_any k l a c hl hrd)
  clear hrd
  go_enter Tryz.func32, Tryz.ntmps32
  go_wp2_with fail
  refine HX.out.mono ?_
  rintro e w' ⟨r, rfl, h1, rfl⟩
  have H1 := hid h1
  clear h1
  go_wp2_with fail
  go_ret
  have h1 : decide (0 ≤ r) = decide (k ∈ l) := decide_eq_decide.2 H1.out
  exact ⟨by rw [← h1]; rfl, rfl⟩

def BeginT (t : Tg) : Prop := t = .w ∨ t = .sides
/-- A side came in. -/
theorem MAt.more {b : Nat} {vsd : Value} {s : Sd} (h : MAt f P w0 W own m μ v) (hk : Kept own BeginT W W3) (hb : W.heap.size ≤ b) (hs : SdAt W3 b s (.slice none 0 0) (.slice none 0 0)) (h1 : s.said = []) (h2 : s.took = [])
    (hblk : W3.heap[m.wb]? = some (.cells #[m.vst, vsd, m.vpl, .map (some m.nb), ptr m.k.kb, .map (some m.lb)] 64 (0, 0)))
    (hrow : W3.ownsRow w0.heap.size 65 1 vsd (m.sd.length + 1) ((m.sd.map fun x => ptr x.b) ++ [ptr b])) (hv : ∀ g, vsd.ownBlock = some g → (own g = some .sides ∨ (own g = none ∧ W.heap.size ≤ g)) ∧ g ≠ b) :
    ∃ own2, MAt f P w0 W3 own2 { m with vsd := vsd, sd := m.sd ++ [⟨b, .slice none 0 0, .slice none 0 0⟩] } { μ with sides := μ.sides ++ [s] } v ∧ Owns W own own2 := by
  have hfb : own b = none := h.fresh hb
  have ho1 := ownAlso_owns (W := W) (own := own) (v := vsd) (t := .sides) (fun g hg => (hv g hg).1)
  have ho2 : Owns W (ownAlso own vsd .sides) (ownAlso (ownAlso own vsd .sides) (.slice (some ⟨b, 0, none⟩) 0 0) (.side m.sd.length)) := ownAlso_owns (fun g hg => by
    simp only [Value.ownBlock, Option.some.injEq] at hg
    subst hg
    refine .inr ⟨?_, hb⟩
    unfold ownAlso
    rw [if_neg (fun e => (hv _ e).2 rfl)]
    exact hfb)
  have ho := ho1.trans ho2 (Nat.le_refl _)
  refine ⟨_, ?_, ho⟩
  have hsame : ∀ b t, own b = some t → ¬ BeginT t → W3.heap[b]? = W.heap[b]? := hk.same
  have hbl := hs.lt
  refine ⟨hblk, own_keep h.st fun g hg => hsame g _ (h.ost g hg) (by simp [BeginT]), by simpa using hrow, own_keep h.pl fun g hg => hsame g _ (h.opl g hg) (by simp [BeginT]), h.nm.keep (hsame _ _ h.on (by simp [BeginT])), h.lk.keep (hsame _ _ h.ol (by simp [BeginT])), h.base.keep fun c hc => ?_, by simp [h.len], ?_, hk.ext h.ext (fun b t hb => (h.owns b t hb).1), fun c t hc => ?_,
    ho.le _ _ h.ow, ho.le _ _ h.on, ho.le _ _ h.ol, ho.le _ _ h.okb, ho.le _ _ h.osb, ho.le _ _ h.onb, ho.le _ _ h.oab, fun g hg => ho.le _ _ (h.ost g hg), fun g hg => ho2.le _ _ (ownAlso_self g hg), fun g hg => ho.le _ _ (h.opl g hg), h.bx, h.bS, h.kc, h.seen⟩
  · rcases hc with rfl | rfl | rfl | rfl
    · exact hsame _ _ h.okb (by simp [BeginT])
    · exact hsame _ _ h.osb (by simp [BeginT])
    · exact hsame _ _ h.onb (by simp [BeginT])
    · exact hsame _ _ h.oab (by simp [BeginT])
  · intro j y t hy ht
    have hy : (m.sd ++ [⟨b, .slice none 0 0, .slice none 0 0⟩])[j]? = some y := hy
    have ht : (μ.sides ++ [s])[j]? = some t := ht
    by_cases hj : j < m.sd.length
    · rw [List.getElem?_append_left hj] at hy
      rw [List.getElem?_append_left (by rw [← h.len]; exact hj)] at ht
      exact (h.side j y t hy ht).keep (fun c u hc hu => hsame c u hc (by rcases hu with rfl | rfl | rfl <;> simp [BeginT])) ho.le
    · have hje : j = m.sd.length := by
        have := (List.getElem?_eq_some_iff.1 hy).1
        simp at this
        omega
      subst hje
      rw [List.getElem?_append_right (Nat.le_refl _), Nat.sub_self] at hy
      rw [h.len, List.getElem?_append_right (Nat.le_refl _), Nat.sub_self] at ht
      simp at hy ht
      subst hy ht
      refine ⟨hs, by rw [h1]; exact World.ownsRow_nil _ _ _ _, by rw [h2]; exact World.ownsRow_nil _ _ _ _, ?_, fun g hg => (by cases hg), fun g hg => (by cases hg)⟩
      exact ownAlso_self (v := .slice (some ⟨b, 0, none⟩) 0 0) b rfl
  · rcases ownAlso_inv hc with ⟨h5, _⟩ | h5
    · simp only [Value.ownBlock, Option.some.injEq] at h5
      subst h5
      have := h.ext.size
      exact ⟨by omega, hbl⟩
    · rcases ownAlso_inv h5 with ⟨h6, _⟩ | h6
      · exact hrow.lt c h6
      · exact ⟨(h.owns c t h6).1, Nat.lt_of_lt_of_le (h.owns c t h6).2 hk.size⟩

set_option maxHeartbeats 4000000 in
set_option maxRecDepth 100000 in
theorem begin_any (first : Bool) (static : Int) (h : MAt f P w0 W own m μ v) (hfs : μ.statics.length ≤ 1000) :
    Calls Tryz.prog 30 #[ptr m.wb, .bool first, .int .i64 static] W fun e w' => e = .returned (.int .i64 (μ.begin first static).2) ∧ ∃ own2 m2, MAt f P w0 w' own2 m2 (μ.begin first static).1 v ∧ m2.wb = m.wb ∧ m2.nb = m.nb ∧ m2.lb = m.lb ∧ m2.k = m.k ∧ Kept own BeginT W w' ∧ Owns W own own2 := by
  obtain ⟨sa, sc, hsv, _, hsr⟩ := own_rd h.st
  obtain ⟨pa, pc, hpv, _, hpr⟩ := own_rd h.sds
  have c0 : W.cell? ⟨m.wb, 0, none⟩ = some (.slice sa μ.statics.length sc) := hsv ▸ cell_blk h.blk rfl
  have c1 : W.cell? ⟨m.wb, 1, none⟩ = some (.slice pa m.sd.length pc) := hpv ▸ cell_blk h.blk rfl
  have HCO := hid (contains_any static μ.statics sa sc (by omega) hsr)
  have HM := hid h
  have HPV := hid hpv
  have hlen := h.len
  have HKE := hid (fun (W2 : World) (hE : Ext W W2) => (Kept.of (T := BeginT) (Same.of_ext hE) (fun b t hb => (h.owns b t hb).2)))
  have i9 : (Tryz.prog.info? 65).map (fun i => (i.zero, i.size, i.bytes)) = some (some (.pointer none), 1, 8) := by kernel_rfl
  obtain ⟨j0, hi, hz0, hz1, hz2⟩ := info_parts i9
  have HIN := hid (And.intro hi (And.intro hz0 (And.intro hz1 hz2)))
  clear h hsv hpv hsr hpr i9 hi hz0 hz1 hz2
  go_enter Tryz.func30, Tryz.ntmps30
  go_wp2_with fail
  refine HCO.out.mono ?_
  rintro e w1 ⟨rfl, rfl⟩
  by_cases hst : static ∈ μ.statics
  · rw [decide_eq_true hst]
    have HST := hid hst
    clear hst HCO
    by_cases h12 : 12 ≤ m.sd.length
    · have HEQ : Hid (μ.begin first static = (μ, 2)) := hid (by unfold MS.begin; rw [if_pos HST.out, if_pos (by rw [← hlen]; exact h12)])
      go_wp2_with fail
      go_ret
      rw [HEQ.out]
      exact ⟨rfl, own, m, HM.out, rfl, rfl, rfl, rfl, HKE.out _ (Ext.refl _), Owns.refl _ _⟩
    · have HEQ : Hid (μ.begin first static = ({ μ with sides := μ.sides ++ [newSide first static (100 + μ.sides.length)] }, 0)) := hid (by unfold MS.begin; rw [if_pos HST.out, if_neg (by rw [← hlen]; exact h12)])
      go_upto_region 6 with fail
      have hex := Ext.alloc W (.cells (({ newSide first static (100 + μ.sides.length) with hash := .non } : Sd).cells (.slice none 0 0) (.slice none 0 0)) 67 (0, 0))
      have hz1 : SdAt (W.alloc (.cells (({ newSide first static (100 + μ.sides.length) with hash := .non } : Sd).cells (.slice none 0 0) (.slice none 0 0)) 67 (0, 0))) W.heap.size ({ newSide first static (100 + μ.sides.length) with hash := .non } : Sd) (.slice none 0 0) (.slice none 0 0) := ⟨blk_new W _⟩
      have c6 : (W.alloc (.cells (({ newSide first static (100 + μ.sides.length) with hash := .non } : Sd).cells (.slice none 0 0) (.slice none 0 0)) 67 (0, 0))).cell? ⟨W.heap.size, 6, none⟩ = some .nilIface := hz1.cell rfl
      have f6 := hz1.free 6
      have hz2 := hz1.sets (s2 := newSide first static (100 + μ.sides.length)) (vs2 := .slice none 0 0) (va2 := .slice none 0 0) 6 (.iface 88 (.agg #[.iface 80 (.agg #[]), .iface 80 (.agg #[])])) (by simp [Sd.cells, newSide, Tm.val])
      have HZ2 := hid hz2
      have HEX := hid hex
      have HBQ : Hid (W.heap.size = (W.heap.size)) := hid rfl
      clear hz1 hz2 hex c0 c1
      change Code.wp _ _ _ _ (W.alloc (.cells (({ newSide first static (100 + μ.sides.length) with hash := .non } : Sd).cells (.slice none 0 0) (.slice none 0 0)) 67 (0, 0)))
      generalize hW1 : World.alloc W _ = W1 at *
      generalize hq : W.heap.size = q at *
      have HQ := hid hq
      clear hW1 hq HBQ
      go_upto_region 7 with fail
      generalize World.setCell W1 _ _ = W2 at *
      have HS2 : Hid (Ext W W2) := hid (Same.ext HEX.out HZ2.out.2 (fun k hk e => by have := HQ.out; rw [e] at hk; omega))
      have HSD := hid HZ2.out.1
      clear HZ2 HEX c6 f6
      have hbw := HS2.out.blk HM.out.blk
      have HPL := hid (own_ext HS2.out HM.out.sds)
      have HBW := hid hbw
      have c1 : W2.cell? ⟨m.wb, 1, none⟩ = some (.slice pa m.sd.length pc) := HPV.out ▸ cell_blk hbw rfl
      have HA := hid (Ext.alloc W2 (.cells #[ptr q] 65 (0, 0)))
      have HBA := hid (blk_new W2 (.cells #[ptr q] 65 (0, 0)))
      have hsz : w0.heap.size ≤ (W2.alloc (.cells #[ptr q] 65 (0, 0))).heap.size := by
        have h1 := HM.out.ext.size
        have h2 := HS2.out.size
        have h3 := HA.out.size
        omega
      have hl2 : m.sd.length ≤ 20 := by omega
      clear hbw
      have HLEN := hid hlen
      rw [HPV.out] at HPL
      clear hlen
      go_wp2_with (first
        | (at_builtin; refine wpList_append_lies _ rfl (.tmp 48) (.tmp 50) _ rfl w0.heap.size 65 j0 (.pointer none) 1 8 Tryz.underlying60 HIN.out.1 HIN.out.2.1 HIN.out.2.2.1 HIN.out.2.2.2 rfl (by omega) (.slice pa m.sd.length pc) m.sd.length (m.sd.map fun x => ptr x.b) (by rfl) (own_ext HA.out HPL.out) ⟨W2.heap.size, 0, none⟩ 1 1 [ptr q] (by rfl) (by rfl) (World.news_of_block HBA.out) (by intro u hu; simp at hu; subst hu; rfl) (by omega) (by unfold maxLen; omega) (by omega) hsz (W2.heap.size + 1) (by simp) ?_; intro g2 cap3 w4 hown hgr hat hlt2; have hb4 := grown_blk hgr (HA.out.blk HBW.out) (own_ne (own_ext HA.out HPL.out) (HA.out.blk HBW.out) (by decide)); have c2b : w4.cell? ⟨m.wb, 1, none⟩ = some m.vsd := cell_blk hb4 rfl; have f2 : w4.frozen? ⟨m.wb, 1, none⟩ = false := blk_frozen hb4))
      have hqlt : q < W2.heap.size := HSD.out.lt
      have hrow : ∀ g, (Value.slice pa m.sd.length pc).ownBlock = some g → own g = some .sides := fun g hg => HM.out.osd g (by rw [HPV.out]; exact hg)
      have hqn : own q = none := HM.out.fresh (by have := HQ.out; omega)
      have hqw : q ≠ m.wb := fun e => by rw [e, HM.out.ow] at hqn; cases hqn
      have hqr : (Value.slice pa m.sd.length pc).ownBlock ≠ some q := fun e => by rw [hrow q e] at hqn; cases hqn
      have hS : Same W (w4.setCell ⟨m.wb, 1, none⟩ (.slice (some ⟨g2, 0, none⟩) (m.sd.length + 1) cap3)) (fun k => ∀ t, own k = some t → ¬ BeginT t) :=
        (Same.of_ext HS2.out).trans ((Same.of_ext HA.out).trans ((Same.of_grown hgr (fun k hk e => hk .sides (hrow k e.symm) (.inr rfl))).trans ((same_set w4 m.wb 1 _).mono (fun k hk e => hk .w (by rw [e]; exact HM.out.ow) (.inl rfl)))))
      have hk := Kept.of hS (fun b t hb => (HM.out.owns b t hb).2)
      have hblk : (w4.setCell ⟨m.wb, 1, none⟩ (.slice (some ⟨g2, 0, none⟩) (m.sd.length + 1) cap3)).heap[m.wb]? = some (.cells #[m.vst, .slice (some ⟨g2, 0, none⟩) (m.sd.length + 1) cap3, m.vpl, .map (some m.nb), ptr m.k.kb, .map (some m.lb)] 64 (0, 0)) := by
        simp only [World.setCell, Array.getElem?_modify, hb4, if_true, Option.map_some]; rfl
      have hpl := own_set hown (p := ⟨m.wb, 1, none⟩) (own_ne hown hb4 (by decide)) (.slice (some ⟨g2, 0, none⟩) (m.sd.length + 1) cap3)
      have hsd := (HSD.out.later HA.out).keep (w2 := w4.setCell ⟨m.wb, 1, none⟩ (.slice (some ⟨g2, 0, none⟩) (m.sd.length + 1) cap3)) ((Below.heap_setCell w4 ⟨m.wb, 1, none⟩ _ q hqw).trans (hgr.block q (HSD.out.later HA.out).lt (fun e => hqr e.symm)))
      have hge := HQ.out
      obtain ⟨own2, hmore, ho⟩ := MAt.more HM.out hk (b := q) (by omega) hsd rfl rfl hblk hpl (fun g hg => by
        simp only [Value.ownBlock, Option.some.injEq] at hg
        subst hg
        rcases hat with h5 | h5
        · exact ⟨.inl (hrow _ h5), fun e => hqr (by rw [← e]; exact h5)⟩
        · have h6 := HS2.out.size
          have hge2 : W.heap.size ≤ g2 := by omega
          exact ⟨.inr ⟨HM.out.fresh hge2, hge2⟩, by omega⟩)
      have HMO := hid hmore
      have HKK := hid hk
      have HOO := hid ho
      clear hmore hk ho hS hblk hpl hsd hown hgr hat hlt2 hb4 c2b f2 hrow hqn hqw hqr hqlt c1
      go_ret
      rw [HEQ.out]
      exact ⟨rfl, own2, _, HMO.out, rfl, rfl, rfl, rfl, HKK.out, HOO.out⟩
  · rw [decide_eq_false hst]
    have HEQ : Hid (μ.begin first static = (μ, 1)) := hid (by unfold MS.begin; rw [if_neg hst])
    clear hst HCO
    go_wp2_with fail
    go_ret
    rw [HEQ.out]
    exact ⟨rfl, own, m, HM.out, rfl, rfl, rfl, rfl, HKE.out _ (Ext.refl _), Owns.refl _ _⟩

end Go.Proofs.YtjodmedgkmeklaaGreat

/-
  A side says a text (say).
-/
namespace Go.Proofs.YtjodmedgkmeklaaGreat
open Go Go.RowKit Go.Maps
attribute [local go_sem] extUpon run_store_tm
attribute [local go_sem ↓] Tm.val_cell eval_put_ne eval_put_none eval_put_same size_put eval_const
attribute [local go_sem ↓] meth_Atom meth_Public meth_Shared meth_Chain meth_Digest meth_Box meth_Empty
attribute [local go_sem ↓] run_build_chain run_build_digest run_build_box
attribute [local go_sem] ta_Atom_Atom ta_Public_Atom ta_Shared_Atom ta_Chain_Atom ta_Digest_Atom ta_Box_Atom ta_Empty_Atom ta_Nil_Atom ta_Atom_Public ta_Public_Public ta_Shared_Public ta_Chain_Public ta_Digest_Public ta_Box_Public ta_Empty_Public ta_Nil_Public ta_Atom_Shared ta_Public_Shared ta_Shared_Shared ta_Chain_Shared ta_Digest_Shared ta_Box_Shared ta_Empty_Shared ta_Nil_Shared ta_Atom_Chain ta_Public_Chain ta_Shared_Chain ta_Chain_Chain ta_Digest_Chain ta_Box_Chain ta_Empty_Chain ta_Nil_Chain ta_Atom_Digest ta_Public_Digest ta_Shared_Digest ta_Chain_Digest ta_Digest_Digest ta_Box_Digest ta_Empty_Digest ta_Nil_Digest ta_Atom_Box ta_Public_Box ta_Shared_Box ta_Chain_Box ta_Digest_Box ta_Box_Box ta_Empty_Box ta_Nil_Box ta_Atom_Empty ta_Public_Empty ta_Shared_Empty ta_Chain_Empty ta_Digest_Empty ta_Box_Empty ta_Empty_Empty ta_Nil_Empty
variable {f : Int → List UInt8} {P : Int → Prop} {w0 w W W2 W3 : World} {own own2 : Nat → Option Tg} {m : MB} {μ μ2 : MS} {v : KV} {i : Nat} {x : SB} {s : Sd}

/-- A struct of four cells is stored. -/
theorem store_four {ty : TypeId} (hi : (Tryz.prog.info? ty).map (·.size) = some 4) {p : Nat} {x0 x1 x2 x3 y0 y1 y2 y3 : Value} {w : World} (hb : w.heap[p]? = some (.cells #[x0, x1, x2, x3] ty (0, 0))) (h0 : y0.oneCell' = true) (h1 : y1.oneCell' = true) (h2 : y2.oneCell' = true) (h3 : y3.oneCell' = true) :
    (Instr.storeAt ty (ptr p) (.agg #[y0, y1, y2, y3])).run Tryz.prog w = .ok () (w.setCells p 0 [y0, y1, y2, y3]) ∧ (w.setCells p 0 [y0, y1, y2, y3]).heap[p]? = some (.cells #[y0, y1, y2, y3] ty (0, 0)) ∧ Same w (w.setCells p 0 [y0, y1, y2, y3]) (OnlyB p) := by
  refine ⟨run_storeAt_mid w p 0 ty #[y0, y1, y2, y3] (fun j hj => ?_) hi (by simp [h0, h1, h2, h3]), ?_, setCells_same p _ 0 w⟩
  · rw [Nat.zero_add]
    have hj2 : j < (#[x0, x1, x2, x3] : Array Value).size := hj
    exact ⟨by rw [cell_blk hb (Array.getElem?_eq_getElem hj2)]; rfl, by simp [World.frozen?, hb]⟩
  · have := setCells_blk p [y0, y1, y2, y3] 0 w _ hb
    simpa [setAll] using this
theorem reg_four {md : Region.Mode} {Q : Exit → Act → World → Prop} {E fuel : Nat} {l tl : List Oper} {oi : Oper} {listed : Array Bool} {a : Act} {w : World} (i : Nat) {x y : Operand} {ty : TypeId} (p : Nat) (x0 x1 x2 x3 y0 y1 y2 y3 : Value)
    (hi : l.drop i = oi :: tl) (hr : (Region.ready md l.toArray listed == [i]) = true) (hw : Region.wanted oi (yielded l.toArray a.tmps) = true) (ho : oi.op = .store ty x y) (hE : E ≤ i)
    (hx : a.eval x = ptr p) (hy : a.eval y = .agg #[y0, y1, y2, y3]) (hz : (Tryz.prog.info? ty).map (·.size) = some 4) (h0 : y0.oneCell' = true) (h1 : y1.oneCell' = true) (h2 : y2.oneCell' = true) (h3 : y3.oneCell' = true)
    (hb : w.heap[p]? = some (.cells #[x0, x1, x2, x3] ty (0, 0)))
    (h : ∀ w' w2, Ext w w' → w2.heap[p]? = some (.cells #[y0, y1, y2, y3] ty (0, 0)) → Same w' w2 (OnlyB p) → wpAnyU Tryz.prog md l.toArray (calm Q) E fuel (listed.setIfInBounds i true) (a.put oi.dst undef) w2) :
    wpAnyU Tryz.prog md l.toArray (calm Q) E (fuel + 1) listed a w :=
  reg_one i hi hr hw fun w' hw' => by
    obtain ⟨hrun, hb2, hs2⟩ := store_four hz (hw'.blk hb) h0 h1 h2 h3
    unfold Oper.wp execOp
    simp only [ho, hx, hy, Sem.run_bind, hrun, Result.andThen_ok]
    exact ⟨fun hlt => absurd hlt (by omega), h w' _ hw' hb2 hs2⟩

theorem setSide_setSide (μ : MS) (i : Nat) (s s2 : Sd) : (μ.setSide i s).setSide i s2 = μ.setSide i s2 := by
  unfold MS.setSide
  simp only [List.set_set]
/-- A term comes behind what a side said. -/
theorem MAt.said_push {t : Tm} {v' : Value} {Wa Wb : World} (h : MAt f P w0 W own m μ v) (hx : m.sd[i]? = some x) (hs : μ.sides[i]? = some s) (hE : Ext W Wa) (hgr : Wa.grownBy Wb x.vs.ownBlock) (hown : Wb.ownsRow w0.heap.size 29 1 v' (s.said.length + 1) (s.said.map Tm.val ++ [t.val]))
    (hnb : ∀ g, v'.ownBlock = some g → x.vs.ownBlock = some g ∨ W.heap.size ≤ g) :
    ∃ own2, MAt f P w0 (Wb.setCell ⟨x.b, 15, none⟩ v') own2 { m with sd := m.sd.set i { x with vs := v' } } (μ.setSide i { s with said := s.said ++ [t] }) v ∧ Kept own (SideT i) W (Wb.setCell ⟨x.b, 15, none⟩ v') ∧ Owns W own own2 := by
  have hsd := h.side i x s hx hs
  have ho := ownAlso_owns (W := W) (own := own) (v := v') (t := .said i) (fun g hg => by
    rcases hnb g hg with h5 | h5
    · exact .inl (hsd.os g h5)
    · exact .inr ⟨h.fresh h5, h5⟩)
  have hne1 : x.vs.ownBlock ≠ some x.b := fun e => by have h5 := hsd.os _ e; rw [hsd.ob] at h5; cases h5
  have hbb : Wb.heap[x.b]? = Wa.heap[x.b]? := hgr.block x.b (Nat.lt_of_lt_of_le hsd.at_.lt hE.size) (fun e => hne1 e.symm)
  have hsb : SdAt Wb x.b s x.vs x.va := (hsd.at_.later hE).keep hbb
  have hput := hsb.put (s2 := { s with said := s.said ++ [t] }) (vs2 := v') (va2 := x.va) 15 v' (by simp [Sd.cells])
  have hS : Same W (Wb.setCell ⟨x.b, 15, none⟩ v') (fun k => ∀ t, own k = some t → ¬ SideT i t) :=
    (Same.of_ext hE).trans ((Same.of_grown hgr (fun k hk e => hk _ (hsd.os k e.symm) (.inr (.inl rfl)))).trans ((same_set Wb x.b 15 v').mono (fun k hk e => hk _ (by rw [e]; exact hsd.ob) (.inl rfl))))
  have hk := Kept.of hS (fun b t hb => (h.owns b t hb).2)
  have hvb : v'.ownBlock ≠ some x.b := fun e => by
    rcases hnb _ e with h5 | h5
    · exact hne1 h5
    · have := hsd.at_.lt; omega
  refine ⟨_, h.turn (x2 := { x with vs := v' }) (s2 := { s with said := s.said ++ [t] }) hx hs hk ho (fun b u hb => ?_) rfl ⟨hput, ?_, own_keep hsd.took fun g hg => ?_, ho.le _ _ hsd.ob, fun g hg => ownAlso_self g hg, fun g hg => ho.le _ _ (hsd.oa g hg)⟩, hk, ho⟩
  · rcases ownAlso_inv hb with ⟨h5, _⟩ | h5
    · have h6 := hown.lt b h5
      exact ⟨h6.1, by simpa [World.setCell] using h6.2⟩
    · exact ⟨(h.owns b u h5).1, Nat.lt_of_lt_of_le (h.owns b u h5).2 hk.size⟩
  · have h5 := own_set hown (p := ⟨x.b, 15, none⟩) hvb v'
    simpa using h5
  · refine (Below.heap_setCell Wb ⟨x.b, 15, none⟩ v' g (fun e => ?_)).trans ((hgr.block g (Nat.lt_of_lt_of_le (hsd.took.lt g hg).2 hE.size) (fun e => ?_)).trans (hE.block g (hsd.took.lt g hg).2))
    · have h5 := hsd.oa g hg
      rw [show g = x.b from e, hsd.ob] at h5; cases h5
    · have h5 := hsd.oa g hg
      rw [hsd.os g e.symm] at h5; cases h5
/-- A term comes behind what a side took. -/
theorem MAt.took_push {t : Tm} {v' : Value} {Wa Wb : World} (h : MAt f P w0 W own m μ v) (hx : m.sd[i]? = some x) (hs : μ.sides[i]? = some s) (hE : Ext W Wa) (hgr : Wa.grownBy Wb x.va.ownBlock) (hown : Wb.ownsRow w0.heap.size 29 1 v' (s.took.length + 1) (s.took.map Tm.val ++ [t.val]))
    (hnb : ∀ g, v'.ownBlock = some g → x.va.ownBlock = some g ∨ W.heap.size ≤ g) :
    ∃ own2, MAt f P w0 (Wb.setCell ⟨x.b, 16, none⟩ v') own2 { m with sd := m.sd.set i { x with va := v' } } (μ.setSide i { s with took := s.took ++ [t] }) v ∧ Kept own (SideT i) W (Wb.setCell ⟨x.b, 16, none⟩ v') ∧ Owns W own own2 := by
  have hsd := h.side i x s hx hs
  have ho := ownAlso_owns (W := W) (own := own) (v := v') (t := .took i) (fun g hg => by
    rcases hnb g hg with h5 | h5
    · exact .inl (hsd.oa g h5)
    · exact .inr ⟨h.fresh h5, h5⟩)
  have hne1 : x.va.ownBlock ≠ some x.b := fun e => by have h5 := hsd.oa _ e; rw [hsd.ob] at h5; cases h5
  have hbb : Wb.heap[x.b]? = Wa.heap[x.b]? := hgr.block x.b (Nat.lt_of_lt_of_le hsd.at_.lt hE.size) (fun e => hne1 e.symm)
  have hsb : SdAt Wb x.b s x.vs x.va := (hsd.at_.later hE).keep hbb
  have hput := hsb.put (s2 := { s with took := s.took ++ [t] }) (vs2 := x.vs) (va2 := v') 16 v' (by simp [Sd.cells])
  have hS : Same W (Wb.setCell ⟨x.b, 16, none⟩ v') (fun k => ∀ t, own k = some t → ¬ SideT i t) :=
    (Same.of_ext hE).trans ((Same.of_grown hgr (fun k hk e => hk _ (hsd.oa k e.symm) (.inr (.inr rfl)))).trans ((same_set Wb x.b 16 v').mono (fun k hk e => hk _ (by rw [e]; exact hsd.ob) (.inl rfl))))
  have hk := Kept.of hS (fun b t hb => (h.owns b t hb).2)
  have hvb : v'.ownBlock ≠ some x.b := fun e => by
    rcases hnb _ e with h5 | h5
    · exact hne1 h5
    · have := hsd.at_.lt; omega
  refine ⟨_, h.turn (x2 := { x with va := v' }) (s2 := { s with took := s.took ++ [t] }) hx hs hk ho (fun b u hb => ?_) rfl ⟨hput, own_keep hsd.said fun g hg => ?_, ?_, ho.le _ _ hsd.ob, fun g hg => ho.le _ _ (hsd.os g hg), fun g hg => ownAlso_self g hg⟩, hk, ho⟩
  · rcases ownAlso_inv hb with ⟨h5, _⟩ | h5
    · have h6 := hown.lt b h5
      exact ⟨h6.1, by simpa [World.setCell] using h6.2⟩
    · exact ⟨(h.owns b u h5).1, Nat.lt_of_lt_of_le (h.owns b u h5).2 hk.size⟩
  · refine (Below.heap_setCell Wb ⟨x.b, 16, none⟩ v' g (fun e => ?_)).trans ((hgr.block g (Nat.lt_of_lt_of_le (hsd.said.lt g hg).2 hE.size) (fun e => ?_)).trans (hE.block g (hsd.said.lt g hg).2))
    · have h5 := hsd.os g hg
      rw [show g = x.b from e, hsd.ob] at h5; cases h5
    · have h5 := hsd.os g hg
      rw [hsd.oa g e.symm] at h5; cases h5
  · have h5 := own_set hown (p := ⟨x.b, 16, none⟩) hvb v'
    simpa using h5

end Go.Proofs.YtjodmedgkmeklaaGreat
