/-
  Texts merged: Q27, K11, KL, Q28.
-/
import Derived.Deep.DeepCutAuto
import Derived.Deep.Cut
import Derived.Deep.CutRange
import Derived.Deep.CutBlock
import Derived.Test.YtjodmedgkmeklaaGreatJ21
import Derived.Test.YtjodmedgkmeklaaGreatJ09
/-
  A side hears what stands at some places (hear).
-/
namespace Go.Proofs.YtjodmedgkmeklaaGreat
open Go Go.RowKit Go.Maps
attribute [local go_sem] extUpon run_store_tm
attribute [local go_sem ↓] Tm.val_cell eval_put_ne eval_put_none eval_put_same size_put eval_const
attribute [local go_sem ↓] meth_Atom meth_Public meth_Shared meth_Chain meth_Digest meth_Box meth_Empty
attribute [local go_sem ↓] run_build_chain run_build_digest run_build_box
attribute [local go_sem] ta_Atom_Atom ta_Public_Atom ta_Shared_Atom ta_Chain_Atom ta_Digest_Atom ta_Box_Atom ta_Empty_Atom ta_Nil_Atom ta_Atom_Public ta_Public_Public ta_Shared_Public ta_Chain_Public ta_Digest_Public ta_Box_Public ta_Empty_Public ta_Nil_Public ta_Atom_Shared ta_Public_Shared ta_Shared_Shared ta_Chain_Shared ta_Digest_Shared ta_Box_Shared ta_Empty_Shared ta_Nil_Shared ta_Atom_Chain ta_Public_Chain ta_Shared_Chain ta_Chain_Chain ta_Digest_Chain ta_Box_Chain ta_Empty_Chain ta_Nil_Chain ta_Atom_Digest ta_Public_Digest ta_Shared_Digest ta_Chain_Digest ta_Digest_Digest ta_Box_Digest ta_Empty_Digest ta_Nil_Digest ta_Atom_Box ta_Public_Box ta_Shared_Box ta_Chain_Box ta_Digest_Box ta_Box_Box ta_Empty_Box ta_Nil_Box ta_Atom_Empty ta_Public_Empty ta_Shared_Empty ta_Chain_Empty ta_Digest_Empty ta_Box_Empty ta_Empty_Empty ta_Nil_Empty
variable {f : Int → List UInt8} {P : Int → Prop} {w0 w W W2 W3 : World} {own own2 : Nat → Option Tg} {m : MB} {μ μ2 : MS} {v : KV} {i : Nat} {x : SB} {s : Sd}

theorem hears_any {b g cap : Nat} {vs va : Value} {l : List Tm} (hg : Gh 3 4000 s) (hI : ∀ W, Same w W (OnlyB b) → Itoa W Small f) (h : SdAt w b s vs va) (hr : Heard w b g cap l) (hst : (s.step = 0 ∧ l.length = 1) ∨ (s.step = 1 ∧ l.length = 3) ∨ (s.step = 2 ∧ l.length = 2)) (hth : s.theirs.all Small) :
    Calls Tryz.prog 56 #[ptr b, .slice (some ⟨g, 0, none⟩) l.length cap] w fun e w' => e = .returned (.bool (s.hears f l).isSome) ∧ (∀ s2, s.hears f l = some s2 → SdAt w' b s2 vs va) ∧ Same w w' (OnlyB b) := by
  rcases hst with ⟨h1, h2⟩ | ⟨h1, h2⟩ | ⟨h1, h2⟩
  · match l, h2 with
    | [a], _ => exact hears0_any hg hI h hr h1
  · match l, h2 with
    | [a0, a, c], _ => exact hears1_any hg hI h hr h1
  · match l, h2 with
    | [a, c], _ => exact hears2_any hg hI h hr h1 hth
theorem place_ht (hp : PoolOk f P μ) (hP : ∀ n, P n → Small n) {k : Int} (h : μ.place k ≠ .non) : Ht 1600 (μ.place k) := by
  have h1 := hp.fine _ (place_mem h)
  exact Ht.of hP h1.1 (by omega)
def heardT (f : Int → List UInt8) (μ : MS) (i : Nat) (s : Sd) (l : List Tm) : MS × Int :=
  match s.hears f l with
  | some s2 => (μ.setSide i s2, 0)
  | none => (μ.setSide i { s with state := 2 }, 8)
theorem hear_eq (b c : Int) : μ.hear f i s b c = if s.turn false = false then (μ, 4) else if Tm.non ∈ (hearAt s b c).map μ.place then (μ, 1) else heardT f μ i s ((hearAt s b c).map μ.place) := rfl
theorem hears_rows {s2 : Sd} {l : List Tm} (h : s.hears f l = some s2) : s2.said = s.said ∧ s2.took = s.took := by
  have hop : ∀ (a : Sd) t (r : Sd × Tm), a.opens f t = some r → r.1.said = a.said ∧ r.1.took = a.took := fun a t r ho => by
    unfold Sd.opens at ho
    split at ho
    · cases ho; exact ⟨rfl, rfl⟩
    · cases t <;> simp only [] at ho <;> try cases ho
      split at ho
      · cases ho; exact ⟨rfl, rfl⟩
      · cases ho
  have hdh : ∀ (a : Sd) y t, (a.dh y t).said = a.said ∧ (a.dh y t).took = a.took := fun a y t => by cases t <;> exact ⟨rfl, rfl⟩
  have hes : ∀ (a : Sd), a.es.said = a.said ∧ a.es.took = a.took := fun a => by unfold Sd.es; split <;> exact hdh _ _ _
  have hse : ∀ (a : Sd), a.se.said = a.said ∧ a.se.took = a.took := fun a => by unfold Sd.se; split <;> exact hdh _ _ _
  have hcl : ∀ (a r : Sd) t, a.close f t = some r → r.said = a.said ∧ r.took = a.took := fun a r t ho => by
    unfold Sd.close at ho
    cases hr : a.opens f t with
    | none => rw [hr] at ho; cases ho
    | some p =>
      rw [hr] at ho
      have h1 := hop a t p hr
      obtain ⟨p1, p2⟩ := p
      simp only at ho
      split at ho
      · cases ho; exact h1
      · cases ho
  have hbd : ∀ (a r : Sd) t c, a.body f t c = some r → r.said = a.said ∧ r.took = a.took := fun a r t c ho => by
    cases hr : a.opens f t with
    | none => rw [body_none hr] at ho; cases ho
    | some p =>
      obtain ⟨p1, p2⟩ := p
      rw [body_some hr] at ho
      have h1 := hop a t _ hr
      cases p2 <;> simp only [Sd.body2] at ho <;> try cases ho
      have h2 := hcl _ _ _ ho
      split at h2
      · exact ⟨h2.1.trans ((hes _).1.trans h1.1), h2.2.trans ((hes _).2.trans h1.2)⟩
      · exact ⟨h2.1.trans ((hse _).1.trans h1.1), h2.2.trans ((hse _).2.trans h1.2)⟩
  unfold Sd.hears at h
  split at h
  · split at h
    · have h2 := hcl _ _ _ h
      exact ⟨h2.1, h2.2⟩
    · cases h
  · split at h
    · split at h
      · have h2 := hbd _ _ _ _ h
        exact ⟨h2.1.trans (hdh _ _ _).1, h2.2.trans (hdh _ _ _).2⟩
      · cases h
    · split at h
      · exact hbd _ _ _ _ h
      · cases h

theorem ext_grown {w1 w2 : World} {e : TypeId} {n B : Nat} {v : Value} {xs : List Value} (he : Ext W w1) (hown : w1.ownsRow B e 1 v n xs) (hB : W.heap.size ≤ B) (hg : w1.grownBy w2 v.ownBlock) : Ext W w2 :=
  ⟨hg.os.trans he.os, hg.tape.trans he.tape, hg.output.trans he.output, Nat.le_trans he.size hg.size, fun k hk => (hg.block k (Nat.lt_of_lt_of_le hk he.size) (fun h => by have := (hown.lt k h.symm).1; omega)).trans (he.block k hk)⟩
def hearW (w1 : World) (b c : Int) : World := ((((w1.alloc (.cells #[.int .i64 b] 3 (0, 0))).alloc (.cells #[.int .i64 b, .int .i64 c, .int .i64 (c + 1)] 3 (0, 0))).alloc (.cells #[.int .i64 b, .int .i64 c] 3 (0, 0))).alloc (.cells #[.slice (some ⟨w1.heap.size, 0, none⟩) 1 1, .slice (some ⟨w1.heap.size + 1, 0, none⟩) 3 3, .slice (some ⟨w1.heap.size + 1 + 1, 0, none⟩) 2 2] 51 (0, 0)))
theorem hearW_ext (w1 : World) (b c : Int) : Ext w1 (hearW w1 b c) := (((Ext.alloc _ _).trans (Ext.alloc _ _)).trans (Ext.alloc _ _)).trans (Ext.alloc _ _)
theorem hearRows (w1 : World) (b c : Int) {k : Nat} (hk : s.step = k) (h2 : k ≤ 2) : ∃ g : Nat, (hearW w1 b c).cell? ⟨w1.heap.size + 1 + 1 + 1, k, none⟩ = some (.slice (some ⟨g, 0, none⟩) (hearAt s b c).length (hearAt s b c).length) ∧ ∀ j y, (hearAt s b c)[j]? = some y → (hearW w1 b c).cell? ⟨g, j, none⟩ = some (.int .i64 y) := by
  have hl : (hearW w1 b c).heap[w1.heap.size + 1 + 1 + 1]? = some (.cells #[.slice (some ⟨w1.heap.size, 0, none⟩) 1 1, .slice (some ⟨w1.heap.size + 1, 0, none⟩) 3 3, .slice (some ⟨w1.heap.size + 1 + 1, 0, none⟩) 2 2] 51 (0, 0)) := blk_at (by simp)
  have h3 : (hearW w1 b c).heap[w1.heap.size + 1 + 1]? = some (.cells #[.int .i64 b, .int .i64 c] 3 (0, 0)) := (Ext.alloc _ _).blk (blk_at (by simp))
  have h4 : (hearW w1 b c).heap[w1.heap.size + 1]? = some (.cells #[.int .i64 b, .int .i64 c, .int .i64 (c + 1)] 3 (0, 0)) := ((Ext.alloc _ _).trans (Ext.alloc _ _)).blk (blk_at (by simp))
  have h5 : (hearW w1 b c).heap[w1.heap.size]? = some (.cells #[.int .i64 b] 3 (0, 0)) := (((Ext.alloc _ _).trans (Ext.alloc _ _)).trans (Ext.alloc _ _)).blk (blk_at (by simp))
  unfold hearAt
  rcases (show k = 0 ∨ k = 1 ∨ k = 2 by omega) with rfl | rfl | rfl
  · rw [if_pos (by omega)]
    refine ⟨_, cell_blk hl rfl, fun j y hy => cell_blk h5 ?_⟩
    rcases j with _ | j
    · simp at hy; subst hy; rfl
    · simp at hy
  · rw [if_neg (by omega), if_pos (by omega)]
    refine ⟨_, cell_blk hl rfl, fun j y hy => cell_blk h4 ?_⟩
    rcases j with _ | _ | _ | j
    · simp at hy; subst hy; rfl
    · simp at hy; subst hy; rfl
    · simp at hy; subst hy; rfl
    · simp at hy
  · rw [if_neg (by omega), if_neg (by omega)]
    refine ⟨_, cell_blk hl rfl, fun j y hy => cell_blk h3 ?_⟩
    rcases j with _ | _ | j
    · simp at hy; subst hy; rfl
    · simp at hy; subst hy; rfl
    · simp at hy
theorem hearAt_le (b c : Int) : (hearAt s b c).length ≤ 3 := by unfold hearAt; split <;> (try split) <;> simp

set_option maxHeartbeats 8000000 in
set_option maxRecDepth 100000 in
theorem hear_any (N : Nums f P) (b c : Int) (hI : Itoa w0 Small f) (h : MAt f P w0 W own m μ v) (hp : PoolOk f P μ) (hx : m.sd[i]? = some x) (hs : μ.sides[i]? = some s) (hg : Gh 3 4000 s) (hs0 : 0 ≤ s.step) (hs3 : s.step ≤ 3) (hop : s.state = 0 → s.step ≤ 2) (hth : s.theirs.all Small) (hcb : -1000000 ≤ c ∧ c ≤ 1000000) :
    Calls Tryz.prog 42 #[ptr m.wb, .int .i64 i, .int .i64 b, .int .i64 c] W fun e w' => e = .returned (.int .i64 (μ.hear f i s b c).2) ∧ MAt f P w0 w' own m (μ.hear f i s b c).1 v ∧ Kept own (SideT i) W w' := by
  have hsd := h.side i x s hx hs
  obtain ⟨pa, pc, hpv, _, hpr⟩ := own_rd h.sds
  have hil : i < m.sd.length := (List.getElem?_eq_some_iff.1 hx).1
  have c1 : W.cell? ⟨m.wb, 1, none⟩ = some (.slice pa m.sd.length pc) := hpv ▸ cell_blk h.blk rfl
  obtain ⟨g, rfl, _, hcell⟩ := hpr (by simp; omega)
  have q0 : W.cell? ⟨g, i, none⟩ = some (ptr x.b) := hcell i _ (by rw [List.getElem?_map, hx]; rfl)
  have hi2 : (i : Int) < (m.sd.length : Int) := by omega
  have HT := hid (turn_any false hs0 hs3 hsd.at_)
  have HM := hid h
  have HP := hid hp
  have HX := hid hx
  have HSS := hid hs
  have HSD := hid hsd
  have HI := hid hI
  have HN := hid N
  have HG := hid hg
  have HTH := hid hth
  clear hcell hpr hpv h hp hx hs hsd hI N hg hth
  go_enter Tryz.func42, Tryz.ntmps42
  go_wp2_with fail
  refine HT.out.mono ?_
  rintro e w1 ⟨rfl, hE1⟩
  have HE1 := hid hE1
  clear hE1 HT q0 c1
  cases ht : s.turn false
  · have HEQ : Hid (μ.hear f i s b c = (μ, 4)) := hid (by unfold MS.hear; rw [if_pos ht])
    clear ht
    go_wp2_with fail
    go_ret
    rw [HEQ.out]
    exact ⟨rfl, HM.out.later HE1.out, Kept.of (Same.of_ext HE1.out) (fun b t hb => (HM.out.owns b t hb).2)⟩
  · have hst : s.state = 0 := by unfold Sd.turn at ht; simp at ht; exact ht.1
    have hs2 := hop hst
    have HTU := hid ht
    have HEH : Hid (μ.hear f i s b c = if Tm.non ∈ (hearAt s b c).map μ.place then (μ, 1) else heardT f μ i s ((hearAt s b c).map μ.place)) := hid (by rw [hear_eq, if_neg (by rw [ht]; simp)])
    clear ht hst hop
    obtain ⟨k, hk⟩ : ∃ k : Nat, s.step = k := ⟨s.step.toNat, by omega⟩
    have hk2 : k ≤ 2 := by omega
    obtain ⟨g2, r1, r2⟩ := hearRows w1 b c hk hk2
    have c3 : (hearW w1 b c).cell? ⟨x.b, 3, none⟩ = some (.int .i64 (k : Int)) := hk ▸ (HSD.out.at_.later (HE1.out.trans (hearW_ext w1 b c))).cell rfl
    have HST3 : Hid (((hearAt s b c).length = 1 ∧ s.step = 0) ∨ ((hearAt s b c).length = 3 ∧ s.step = 1) ∨ ((hearAt s b c).length = 2 ∧ s.step = 2)) := hid (by unfold hearAt; rcases (show k = 0 ∨ k = 1 ∨ k = 2 by omega) with rfl | rfl | rfl <;> simp [hk])
    have HR2 := hid r2
    have HEW := hid (HE1.out.trans (hearW_ext w1 b c))
    have hk3 : (k : Int) < 3 := by omega
    have hk0 : (0 : Int) ≤ k := by omega
    have hlen := hearAt_le (s := s) b c
    clear r2
    generalize hW5 : hearW w1 b c = W5 at *
    have HW5 := hid hW5
    clear hW5
    generalize hearAt s b c = ks at *
    clear hk hs2 hs0 hs3
    unfold hearW at HW5
    rw [← HW5.out] at c3 r1
    go_wp2_with fail
    rw [HW5.out] at c3 r1 ⊢
    clear HW5 c3 r1 HE1
    go_loopw [44, 10] (fun iv lv wr => ∃ j : Nat, iv = .int .i64 j ∧ j ≤ ks.length ∧ Hid (Ext W5 wr) ∧ Hid (wr.ownsRow W5.heap.size 29 1 lv j (((ks.map μ.place).take j).map Tm.val)) ∧ Hid (Tm.non ∉ (ks.map μ.place).take j)) (fun iv _ _ => ks.length - (intOf iv).toNat)
    case atStart => exact ⟨0, rfl, by omega, hid (Ext.refl _), hid (World.ownsRow_nil _ _ _ _), hid (by simp)⟩
    case round =>
      obtain ⟨j, rfl, hj, HX5, HO, HNO⟩ := hrel
      by_cases hlt : j < ks.length
      · have hlt2 : (j : Int) < (ks.length : Int) := by omega
        have q0 : wr.cell? ⟨g2, j, none⟩ = some (.int .i64 ks[j]) := HX5.out.cell (HR2.out j _ (List.getElem?_eq_getElem hlt))
        have HTK : Hid ((ks.map μ.place).take (j + 1) = (ks.map μ.place).take j ++ [μ.place ks[j]]) := hid (by
          rw [List.take_succ_eq_append_getElem (by rw [List.length_map]; exact hlt), List.getElem_map])
        have HIN : Hid (μ.place ks[j] ∈ ks.map μ.place) := hid (List.mem_map.2 ⟨_, List.getElem_mem hlt, rfl⟩)
        have HPL := hid (place_any ks[j] (HM.out.later (HEW.out.trans HX5.out)))
        generalize ks[j] = y at *
        by_cases hn : μ.place y = .non
        · have hno := HPL.out
          have hin := HIN.out
          rw [hn] at hno hin
          rw [show Tm.val .non = .nilIface from rfl] at hno
          have HEQ : Hid (μ.hear f i s b c = (μ, 1)) := hid (by rw [HEH.out, if_pos hin])
          clear HPL hin HTK HIN
          have hp := hid hno
          clear hno
          go_wp2_with fail
          refine hp.out.mono ?_
          rintro e w1 ⟨rfl, rfl⟩
          go_wp2_with fail
          go_ret
          rw [HEQ.out]
          exact ⟨rfl, HM.out.later (HEW.out.trans HX5.out), Kept.of (Same.of_ext (HEW.out.trans HX5.out)) (fun b t hb => (HM.out.owns b t hb).2)⟩
        · obtain ⟨u, d, hv⟩ := Va.of hn
          have hno := HPL.out
          rw [hv.eq] at hno
          have hp := hid hno
          have HV := hid hv
          have HNN := hid hn
          clear hno HPL hn hv
          go_wp2_with fail
          refine hp.out.mono ?_
          rintro e w1 ⟨rfl, rfl⟩
          have HA := hid (Ext.alloc wr (.cells #[.iface u d] 29 (0, 0)))
          have HBA := hid (blk_new wr (.cells #[.iface u d] 29 (0, 0)))
          have hsz : W5.heap.size ≤ (wr.alloc (.cells #[.iface u d] 29 (0, 0))).heap.size := Nat.le_trans HX5.out.size HA.out.size
          have hj9 : j ≤ 1000 := by omega
          go_wp2_with (first
            | (at_builtin; refine wpl_app1 (.tmp 53) (.tmp 55) rfl rfl rfl W5.heap.size _ j (((ks.map μ.place).take j).map Tm.val) (by rfl) (own_ext HA.out HO.out) wr.heap.size (.iface u d) (by rfl) (cell_blk HBA.out rfl) rfl hj9 hsz ?_; intro v' w4 hown hgr hnb hv1; obtain ⟨va', vc', hve, _⟩ := row_cells hown; subst hve))
          have HX4 := hid (ext_grown (HX5.out.trans HA.out) (own_ext HA.out HO.out) (Nat.le_refl _) hgr)
          have HO4 : Hid (w4.ownsRow W5.heap.size 29 1 (.slice va' (j + 1) vc') (j + 1) (((ks.map μ.place).take (j + 1)).map Tm.val)) := hid (by rw [HTK.out, List.map_append, List.map_cons, List.map_nil, HV.out.eq]; exact hown)
          have HN4 : Hid (Tm.non ∉ (ks.map μ.place).take (j + 1)) := hid (by
            rw [HTK.out, List.mem_append]
            rintro (h | h)
            · exact HNO.out h
            · exact HNN.out (List.mem_singleton.1 h).symm)
          clear hown hgr hnb hv1 hsz
          go_roundw
          case rel => exact ⟨j + 1, by go_num, by omega, HX4, HO4, HN4⟩
          case measure => simp [intOf]; omega
      · obtain rfl : j = ks.length := by omega
        have ho := HO.out
        have hno := HNO.out
        rw [List.take_of_length_le (by simp)] at ho hno
        have HEQ : Hid (μ.hear f i s b c = heardT f μ i s (ks.map μ.place)) := hid (by rw [HEH.out, if_neg hno])
        have hno2 := hno
        clear HNO HO hno
        obtain ⟨la, lc, hve, hlc, hrd⟩ := own_rd ho
        subst hve
        have hl1 : 1 ≤ ks.length := by rcases HST3.out with h | h | h <;> omega
        obtain ⟨gr, rfl, hgl, hcell⟩ := hrd (by simp; omega)
        have hvs : x.vs.oneCell' = true := by obtain ⟨a, c, e, _⟩ := own_rd HSD.out.said; rw [e]; rfl
        have hva : x.va.oneCell' = true := by obtain ⟨a, c, e, _⟩ := own_rd HSD.out.took; rw [e]; rfl
        have HTRM : Hid (∀ t ∈ ks.map μ.place, Ht 1600 t) := hid (fun t ht => by
          obtain ⟨y, hy, rfl⟩ := List.mem_map.1 ht
          exact place_ht HP.out HN.out.small (fun e => hno2 (e ▸ ht)))
        have HCELL := hid hcell
        clear ho hrd hcell
        go_upto_region 14 with (first
          | (refine wpl_load_side (b := x.b) (s := s) (vs := x.vs) (va := x.va) (.tmp 59) rfl rfl (by rfl) (HSD.out.at_.later (HEW.out.trans HX5.out)) ?_)
          | (refine wpl_store_side (b := wr.heap.size) (s := zeroSd) (vs := .slice none 0 0) (va := .slice none 0 0) (s2 := s) (vs2 := x.vs) (va2 := x.va) (.tmp 14) (.tmp 60) rfl rfl (by rfl) ⟨blk_new wr _⟩ (by rfl) hvs hva ?_; intro W2 hz1 hz2))
        have hexz : Ext wr W2 := Same.ext (Ext.alloc wr _) hz2 (fun k hk e => by rw [e] at hk; omega)
        have HE2 := hid ((HEW.out.trans HX5.out).trans hexz)
        have hqb : W.heap.size ≤ wr.heap.size := (HEW.out.trans HX5.out).size
        have hwas := hz1.lt
        generalize wr.heap.size = q at *
        have hhear : Heard W2 q gr lc (ks.map μ.place) := ⟨HTRM.out, fun i t hi => hexz.cell (HCELL.out i _ (by rw [List.getElem?_map, hi]; rfl)), by omega, by omega, by rw [List.length_map]; exact hlc⟩
        have hcall := hears_any (f := f) (b := q) HG.out (fun W3 hS => HI.out.later (Same.ext (HM.out.ext.trans HE2.out) hS (fun k hk e => by have := HM.out.ext.size; omega))) hz1 hhear (by rw [List.length_map]; rcases HST3.out with h | h | h <;> simp [h.1, h.2]) HTH.out
        rw [List.length_map] at hcall
        have HCALL := hid hcall
        clear hcall hhear hz1 hz2 hexz HTRM HCELL
        go_wp2_with fail
        refine HCALL.out.mono ?_
        rintro e w3 ⟨rfl, h2, h3⟩
        have HE3 := hid (Same.ext HE2.out h3 (fun k hk e => by omega))
        have HSD3 := hid (HSD.out.at_.later HE3.out)
        have HK3 : Hid (Kept own (SideT i) W w3) := hid (Kept.of (Same.of_ext HE3.out) (fun b t hb => (HM.out.owns b t hb).2))
        cases hh : s.hears f (ks.map μ.place) with
        | none =>
          have HEQ2 : Hid (μ.hear f i s b c = (μ.setSide i { s with state := 2 }, 8)) := hid (by rw [HEQ.out]; unfold heardT; rw [hh])
          have c4 : w3.cell? ⟨x.b, 4, none⟩ = some (.int .i64 s.state) := HSD3.out.cell rfl
          have f4 := HSD3.out.free 4
          have hput := HSD3.out.put (s2 := { s with state := 2 }) (vs2 := x.vs) (va2 := x.va) 4 (.int .i64 2) (by simp [Sd.cells])
          have ht1 := (HM.out.later HE3.out).turn1 HX.out HSS.out (same_set w3 x.b 4 _) hput rfl rfl
          have HT1 := hid ht1
          clear hput ht1 h2 h3 HCALL
          rw [Option.isSome_none]
          go_wp2_with fail
          go_ret
          rw [HEQ2.out]
          exact ⟨rfl, HT1.out.1, HK3.out.trans (Owns.refl _ _) HT1.out.2⟩
        | some s2 =>
          have HEQ2 : Hid (μ.hear f i s b c = (μ.setSide i s2, 0)) := hid (by rw [HEQ.out]; unfold heardT; rw [hh])
          have HSQ := hid (h2 s2 hh)
          have HROW := hid (hears_rows hh)
          clear h2 h3 hh HCALL
          rw [Option.isSome_some]
          go_wp2_with (first
            | (refine wpl_load_side (b := q) (s := s2) (vs := x.vs) (va := x.va) (.tmp 14) rfl rfl (by rfl) HSQ.out ?_)
            | (refine wpl_store_side (b := x.b) (s := s) (vs := x.vs) (va := x.va) (s2 := s2) (vs2 := x.vs) (va2 := x.va) (.tmp 70) (.tmp 69) rfl rfl (by rfl) HSD3.out (by rfl) hvs hva ?_; intro W5 hz1 hz2))
          have HT1 := hid ((HM.out.later HE3.out).turn1 HX.out HSS.out hz2 hz1 HROW.out.1 HROW.out.2)
          clear hz1 hz2
          go_wp2_with fail
          go_ret
          rw [HEQ2.out]
          exact ⟨rfl, HT1.out.1, HK3.out.trans (Owns.refl _ _) HT1.out.2⟩

end Go.Proofs.YtjodmedgkmeklaaGreat

/-
  A base of some secrets and some terms (know.New).
-/
namespace Go.Proofs.YtjodmedgkmeklaaGreat
open Go Go.RowKit Go.Maps
attribute [local go_sem] extUpon run_store_tm
attribute [local go_sem ↓] Tm.val_cell eval_put_ne eval_put_none eval_put_same size_put eval_const
variable {f : Int → List UInt8} {P : Int → Prop}

def kv0 : KV := ⟨fun _ => none, 0, fun _ => none, 0, fun _ => none, 0⟩
theorem KAt.made (w : World) : KAt f P ((((w.alloc (.map #[] 0)).alloc (.map #[] 0)).alloc (.map #[] 0)).alloc (.cells #[.map (some w.heap.size), .map (some (w.heap.size + 1)), .map (some (w.heap.size + 2))] 78 (0, 0))) ⟨w.heap.size + 3, w.heap.size, w.heap.size + 1, w.heap.size + 2⟩ kv0 := by
  have s1 : (w.alloc (.map #[] 0)).heap.size = w.heap.size + 1 := by simp
  have s2 : ((w.alloc (.map #[] 0)).alloc (.map #[] 0)).heap.size = w.heap.size + 2 := by simp
  have s3 : (((w.alloc (.map #[] 0)).alloc (.map #[] 0)).alloc (.map #[] 0)).heap.size = w.heap.size + 3 := by simp
  have m1 := MapG.made CI w
  have m2 := MapG.made CS (w.alloc (.map #[] 0))
  have m3 := MapG.made CS ((w.alloc (.map #[] 0)).alloc (.map #[] 0))
  have hb := blk_new (((w.alloc (.map #[] 0)).alloc (.map #[] 0)).alloc (.map #[] 0)) (.cells #[.map (some w.heap.size), .map (some (w.heap.size + 1)), .map (some (w.heap.size + 2))] 78 (0, 0))
  rw [s1] at m2
  rw [s2] at m3
  rw [s3] at hb
  exact ⟨hb, ((m1.later (Ext.alloc _ _)).later (Ext.alloc _ _)).later (Ext.alloc _ _), (m2.later (Ext.alloc _ _)).later (Ext.alloc _ _), m3.later (Ext.alloc _ _), (by show w.heap.size ≠ w.heap.size + 1; omega), (by show w.heap.size ≠ w.heap.size + 2; omega), (by show w.heap.size + 1 ≠ w.heap.size + 2; omega), fun s t h => (by cases h), (by show 0 ≤ 400; omega), (by show 0 ≤ 1000; omega)⟩

set_option maxHeartbeats 8000000 in
set_option maxRecDepth 100000 in
theorem new_any (U : List (List UInt8)) (hsee : SeeSaid f P U) (w : World) (ns : List Int) (ts : List Tm) (a1 a2 : Option Addr) (c1 c2 : Nat) (hI : Itoa w Small f)
    (hr1 : Rd w a1 (ns.map fun n => .int .i64 n)) (hr2 : Rd w a2 (ts.map Tm.val)) (hn : ∀ n ∈ ns, IntOk n) (hnl : ns.length ≤ 100) (ht : ∀ t ∈ ts, Fine P t ∧ nm f t ∈ U) (htl : ts.length ≤ 300) :
    Calls Tryz.prog 38 #[.slice a1 ns.length c1, .slice a2 ts.length c2] w fun e w' => ∃ k v, e = .returned (.pointer (some ⟨k.kb, 0, none⟩)) ∧ NewR f P U w w' k v ns ts := by
  have HI := hid hI
  have HR1 := hid hr1
  have HR2 := hid hr2
  have HN := hid hn
  have HT := hid ht
  have hK0 := KAt.made (f := f) (P := P) w
  have hE0 : Ext w ((((w.alloc (.map #[] 0)).alloc (.map #[] 0)).alloc (.map #[] 0)).alloc (.cells #[.map (some w.heap.size), .map (some (w.heap.size + 1)), .map (some (w.heap.size + 2))] 78 (0, 0))) :=
    (((Ext.alloc _ _).trans (Ext.alloc _ _)).trans (Ext.alloc _ _)).trans (Ext.alloc _ _)
  have HS0 : Hid (NewR f P U w _ _ kv0 [] []) := hid (NewR.start hK0 hE0 (by show w.heap.size ≤ w.heap.size + 3; omega) (by show w.heap.size ≤ w.heap.size + 1; omega) (by show w.heap.size ≤ w.heap.size + 2; omega) (Nat.le_refl _) rfl)
  have hs1 : (w.alloc (.map #[] 0)).heap.size = w.heap.size + 1 := by simp
  have hs2 : ((w.alloc (.map #[] 0)).alloc (.map #[] 0)).heap.size = w.heap.size + 2 := by simp
  have hs3 : (((w.alloc (.map #[] 0)).alloc (.map #[] 0)).alloc (.map #[] 0)).heap.size = w.heap.size + 3 := by simp
  clear hI hr1 hr2 hn ht hK0 hE0
  have hmm := @run_makeMap Tryz.prog
  go_enter Tryz.func38, Tryz.ntmps38
  go_upto_region 2 with fail
  generalize hk : (⟨w.heap.size + 3, w.heap.size, w.heap.size + 1, w.heap.size + 2⟩ : KS) = k at *
  have hkb : w.heap.size + 3 = k.kb := by rw [← hk]
  generalize World.alloc (((w.alloc (.map #[] 0)).alloc (.map #[] 0)).alloc (.map #[] 0)) _ = W0 at *
  clear hk
  go_wp2_with fail
  clear hmm
  go_loopw [17] (fun iv wr => ∃ (j : Nat) (v : KV), iv = .int .i64 j ∧ j ≤ ns.length ∧ Hid (NewR f P U w wr k v (ns.take j) []) ∧ Hid (v.S = fun _ => false) ∧ Hid (∀ s, v.seen s = none)) (fun iv _ => ns.length - (intOf iv).toNat)
  case atStart => exact ⟨0, kv0, rfl, by omega, HS0, hid rfl, hid (fun _ => rfl)⟩
  case round =>
    clear HS0
    obtain ⟨j, v, rfl, hj, HA, HS, HZ⟩ := hrel
    by_cases hlt : j < ns.length
    · have hlt2 : (j : Int) < (ns.length : Int) := by omega
      obtain ⟨g, rfl, hg, hc⟩ := HR1.out (by simp; omega)
      have q0 := HA.out.ext.cell (hc j (.int .i64 ns[j]) (by simp [hlt]))
      have q1 := cell_blk (j := 0) HA.out.at_.blk rfl
      have hno := HN.out ns[j] (List.getElem_mem hlt)
      have hsn : v.sn < 1000 := by have := HA.out.sn; simp at this; omega
      obtain ⟨w2, hrun, hK2, hg2⟩ := HA.out.at_.learn hno hsn
      change (Instr.mapUpdate 62 (.map (some k.sb)) (.int .i64 ns[j]) (.bool true)).run Tryz.prog wr = _ at hrun
      have HA2 := hid (NewR.learn hlt HA.out HS.out HZ.out hK2 hg2)
      have HS2 : Hid ((v.learn ns[j]).S = fun _ => false) := hid HS.out
      have HZ2 : Hid (∀ s, (v.learn ns[j]).seen s = none) := hid HZ.out
      clear hc hno hsn hK2 hg2
      generalize ns[j] = x at *
      go_wp2_with fail
      go_roundw
      case rel => exact ⟨j + 1, _, by go_num, by omega, HA2, HS2, HZ2⟩
      case measure => simp [intOf]; omega
    · have hlt2 : ¬ (j : Int) < (ns.length : Int) := by omega
      obtain rfl : j = ns.length := by omega
      have HB0 : Hid (NewR f P U w wr k v ns (ts.take 0)) := hid (by have := HA.out; rwa [List.take_length] at this)
      clear HA HS HZ
      go_wp2_with fail
      go_loopw [29] (fun iv wr => ∃ (j : Nat) (v : KV), iv = .int .i64 j ∧ j ≤ ts.length ∧ Hid (NewR f P U w wr k v ns (ts.take j))) (fun iv _ => ts.length - (intOf iv).toNat)
      case atStart => exact ⟨0, v, rfl, by omega, HB0⟩
      case round =>
        clear HB0
        obtain ⟨j, v, rfl, hj, HB⟩ := hrel
        by_cases hlt : j < ts.length
        · have hlt2 : (j : Int) < (ts.length : Int) := by omega
          obtain ⟨g, rfl, hg, hc⟩ := HR2.out (by simp; omega)
          have q0 := HB.out.ext.cell (hc j ts[j].val (by simp [hlt]))
          have hn4 : v.n < 400 := by have := HB.out.n; simp at this; omega
          have htj := HT.out ts[j] (List.getElem_mem hlt)
          have HC := hid (hsee ts[j] wr k v (fun W hW => HI.out.later (Same.ext HB.out.ext hW (fun b hb => ⟨by have := HB.out.ab; omega, by have := HB.out.nb; omega⟩))) HB.out.at_ htj.1 hn4 HB.out.inU htj.2 HB.out.kc)
          have HNX : Hid (∀ v2 W, KAt f P W k v2 → Same wr W (KP k) → SeeR f P U v v2 (nm f ts[j]) → NewR f P U w W k v2 ns (ts.take (j + 1))) := hid (fun v2 W h1 h2 h3 => NewR.see hlt HB.out h1 h2 h3)
          clear hc hn4 htj
          generalize ts[j] = x at *
          go_wp2_with fail
          refine HC.out.mono ?_
          rintro e w2 ⟨rfl, v2, h1, h2, h3⟩
          have HX := hid (HNX.out v2 w2 h1 h2 h3)
          clear h1 h2 h3 q0 HC
          go_wp2_with fail
          go_roundw
          case rel => exact ⟨j + 1, v2, by go_num, by omega, HX⟩
          case measure => simp [intOf]; omega
        · have hlt2 : ¬ (j : Int) < (ts.length : Int) := by omega
          obtain rfl : j = ts.length := by omega
          have HX : Hid (NewR f P U w wr k v ns ts) := hid (by have := HB.out; rwa [List.take_length] at this)
          clear HB
          go_wp2_with fail
          go_ret
          exact ⟨k, rfl, v, HX.out⟩

end Go.Proofs.YtjodmedgkmeklaaGreat

/-
  A secret is learnt (know.Learn, know.Has).
-/
namespace Go.Proofs.YtjodmedgkmeklaaGreat
open Go Go.RowKit Go.Maps
attribute [local go_sem] extUpon run_store_tm
attribute [local go_sem ↓] Tm.val_cell eval_put_ne eval_put_none eval_put_same size_put eval_const
attribute [local go_sem ↓] meth_Atom meth_Public meth_Shared meth_Chain meth_Digest meth_Box meth_Empty
attribute [local go_sem ↓] run_build_chain run_build_digest run_build_box
attribute [local go_sem] ta_Atom_Atom ta_Public_Atom ta_Shared_Atom ta_Chain_Atom ta_Digest_Atom ta_Box_Atom ta_Empty_Atom ta_Nil_Atom ta_Atom_Public ta_Public_Public ta_Shared_Public ta_Chain_Public ta_Digest_Public ta_Box_Public ta_Empty_Public ta_Nil_Public ta_Atom_Shared ta_Public_Shared ta_Shared_Shared ta_Chain_Shared ta_Digest_Shared ta_Box_Shared ta_Empty_Shared ta_Nil_Shared ta_Atom_Chain ta_Public_Chain ta_Shared_Chain ta_Chain_Chain ta_Digest_Chain ta_Box_Chain ta_Empty_Chain ta_Nil_Chain ta_Atom_Digest ta_Public_Digest ta_Shared_Digest ta_Chain_Digest ta_Digest_Digest ta_Box_Digest ta_Empty_Digest ta_Nil_Digest ta_Atom_Box ta_Public_Box ta_Shared_Box ta_Chain_Box ta_Digest_Box ta_Box_Box ta_Empty_Box ta_Nil_Box ta_Atom_Empty ta_Public_Empty ta_Shared_Empty ta_Chain_Empty ta_Digest_Empty ta_Box_Empty ta_Empty_Empty ta_Nil_Empty
variable {f : Int → List UInt8} {P : Int → Prop}

/-- Nothing is turned but the base's tables. -/
abbrev KPL (k : KS) (b : Nat) : Prop := b ≠ k.sb ∧ KP k b
def also (x : Int → Bool) (a : Int) (n : Int) : Bool := x n || decide (n = a)
theorem learn_also (v : KV) (a : Int) : (v.learn a).x = also v.x a := by
  funext n
  show ((fset v.sec a true) n).getD false = ((v.sec n).getD false || decide (n = a))
  unfold fset
  split
  · rename_i h; simp [h]
  · rename_i h; simp [h]
structure LearnR (f : Int → List UInt8) (P : Int → Prop) (U : List (List UInt8)) (v v2 : KV) (a : Int) : Prop where
  x : v2.x = also v.x a
  seen : v2.seen = v.seen
  kc : KC f P v2
  inU : ∀ s, v2.S s = true → s ∈ U
  cl : Cl f P (also v.x a) v.S v2.S
theorem LearnR.of {U : List (List UInt8)} {v v2 : KV} {a : Int} (hc : KC f P v) (hi : CInv f P U (v.learn a) v2) (hcl : Cl f P (v.learn a).x (v.learn a).S v2.S) : LearnR f P U v v2 a := by
  have hx : v2.x = (v.learn a).x := by unfold KV.x; rw [hi.sec]
  refine ⟨hx.trans (learn_also v a), hi.seen, ⟨fun s hs => ?_, ?_, fun n => ?_⟩, hi.inU, ?_⟩
  · rw [hi.seen] at hs
    exact hi.le s (hc.seen s hs)
  · rw [hx]; exact hcl.closed
  · rw [hi.sec]; exact learn_tr hc.tr a n
  · rw [← learn_also]; exact hcl

set_option maxHeartbeats 4000000 in
set_option maxRecDepth 100000 in
theorem learn_any (N : Nums f P) (U : List (List UInt8)) (hUl : U.length ≤ 80000) (hUn : Univ f P U) (a : Int) (ha : IntOk a) (w : World) (k : KS) (v : KV) (hI : ∀ W, Same w W (KPL k) → Itoa W Small f) (hK : KAt f P w k v) (hsn : v.sn < 1000) (hvU : ∀ s, v.S s = true → s ∈ U) (hc : KC f P v) :
    Calls Tryz.prog 33 #[(.pointer (some ⟨k.kb, 0, none⟩)), .int .i64 a] w fun e w' => (∃ x, e = .returned x) ∧ ∃ v2, KAt f P w' k v2 ∧ Same w w' (KPL k) ∧ LearnR f P U v v2 a := by
  have q1 := cell_blk (j := 0) hK.blk rfl
  obtain ⟨w2, hrun, hK2, hg2⟩ := hK.learn ha hsn
  change (Instr.mapUpdate 62 (.map (some k.sb)) (.int .i64 a) (.bool true)).run Tryz.prog w = _ at hrun
  have hs2 : Same w w2 (KPL k) := (Same.of_grown (p := fun b => b ≠ k.sb) hg2 (fun b hb e => hb (Option.some.inj e))).mono (fun b hb => hb.1)
  have HCL := hid (close_any N U hUl hUn w2 k (v.learn a) (fun W hW => hI W (hs2.trans (hW.mono fun b hb => hb.2))) hK2 hvU)
  have HS2 := hid hs2
  have HKC := hid hc
  clear hK hK2 hg2 hs2 hI hvU hc hUn
  go_enter Tryz.func33, Tryz.ntmps33
  go_wp2_with fail
  refine HCL.out.mono ?_
  rintro e w3 ⟨⟨x, rfl⟩, v2, h1, h2, h3, h4⟩
  have HA := hid h1
  have HS3 := hid (HS2.out.trans (h2.mono fun b hb => hb.2))
  have HR := hid (LearnR.of HKC.out h3 h4)
  clear h1 h2 h3 h4 HCL HS2 HKC hrun q1
  go_wp2_with fail
  go_end0
  exact ⟨⟨_, rfl⟩, v2, HA.out, HS3.out, HR.out⟩

set_option maxHeartbeats 4000000 in
set_option maxRecDepth 100000 in
theorem has_any (a : Int) (ha : IntOk a) (w : World) (k : KS) (v : KV) (hK : KAt f P w k v) :
    Calls Tryz.prog 22 #[(.pointer (some ⟨k.kb, 0, none⟩)), .int .i64 a] w fun e w' => e = .returned (.bool (v.x a)) ∧ w = w' := by
  have q1 := cell_blk (j := 0) hK.blk rfl
  have hrun := hK.secret a ha w (Ext.refl _)
  clear hK
  go_enter Tryz.func22, Tryz.ntmps22
  go_wp2_with fail
  go_ret
  exact ⟨rfl, rfl⟩

end Go.Proofs.YtjodmedgkmeklaaGreat

/-
  A world's base learns a secret; what it can make.
-/
namespace Go.Proofs.YtjodmedgkmeklaaGreat
open Go Go.RowKit Go.Maps
attribute [local go_sem] extUpon run_store_tm
attribute [local go_sem ↓] Tm.val_cell eval_put_ne eval_put_none eval_put_same size_put eval_const
attribute [local go_sem ↓] meth_Atom meth_Public meth_Shared meth_Chain meth_Digest meth_Box meth_Empty
attribute [local go_sem ↓] run_build_chain run_build_digest run_build_box
attribute [local go_sem] ta_Atom_Atom ta_Public_Atom ta_Shared_Atom ta_Chain_Atom ta_Digest_Atom ta_Box_Atom ta_Empty_Atom ta_Nil_Atom ta_Atom_Public ta_Public_Public ta_Shared_Public ta_Chain_Public ta_Digest_Public ta_Box_Public ta_Empty_Public ta_Nil_Public ta_Atom_Shared ta_Public_Shared ta_Shared_Shared ta_Chain_Shared ta_Digest_Shared ta_Box_Shared ta_Empty_Shared ta_Nil_Shared ta_Atom_Chain ta_Public_Chain ta_Shared_Chain ta_Chain_Chain ta_Digest_Chain ta_Box_Chain ta_Empty_Chain ta_Nil_Chain ta_Atom_Digest ta_Public_Digest ta_Shared_Digest ta_Chain_Digest ta_Digest_Digest ta_Box_Digest ta_Empty_Digest ta_Nil_Digest ta_Atom_Box ta_Public_Box ta_Shared_Box ta_Chain_Box ta_Digest_Box ta_Box_Box ta_Empty_Box ta_Nil_Box ta_Atom_Empty ta_Public_Empty ta_Shared_Empty ta_Chain_Empty ta_Digest_Empty ta_Box_Empty ta_Empty_Empty ta_Nil_Empty
variable {f : Int → List UInt8} {P : Int → Prop} {w0 w W W2 W3 : World} {own own2 : Nat → Option Tg} {m : MB} {μ μ2 : MS} {v : KV}

/-- The secrets a world's base has are few. -/
structure XFew (μ : MS) : Prop where
  few : ∃ L : List Int, L.length ≤ 900 ∧ ∀ n, μ.x n = true → n ∈ L
theorem MAt.sn_le (h : MAt f P w0 W own m μ v) (hx : XFew μ) : v.sn < 1000 := by
  obtain ⟨L, hl, hL⟩ := hx.few
  have := h.base.sec.card L (fun a x hs => hL a (by
    rw [← h.bx]
    show (v.sec a).getD false = true
    cases x
    · exact absurd hs (h.kc.tr a)
    · rw [hs]; rfl))
  omega
theorem MAt.kpl (h : MAt f P w0 W own m μ v) (hS : Same W W2 (KPL m.k)) : Kept own (fun t => t = .sb ∨ t = .nb ∨ t = .ab) W W2 :=
  Kept.of (hS.mono fun b hb => ⟨fun e => hb .sb (by rw [e]; exact h.osb) (.inl rfl), fun e => hb .ab (by rw [e]; exact h.oab) (.inr (.inr rfl)), fun e => hb .nb (by rw [e]; exact h.onb) (.inr (.inl rfl))⟩) (fun b t hb => (h.owns b t hb).2)
noncomputable def MS.learn (f : Int → List UInt8) (P : Int → Prop) (μ : MS) (a : Int) : MS := { μ with x := also μ.x a, S := Clo f P (also μ.x a) μ.S }
theorem PoolOk.learn (N : Nums f P) (h : PoolOk f P μ) (a : Int) : PoolOk f P (μ.learn f P a) :=
  ⟨h.fine, h.few, h.ground, fun s hs => by
    have h1 := clo_iff.1 hs (fun s => decide (s ∈ Uof f μ.pool)) (univ_closed (h.univ N) _) (fun s hs => decide_eq_true (h.inU s hs))
    exact of_decide_eq_true h1⟩
theorem learn_m (N : Nums f P) (hI : Itoa w0 Small f) (h : MAt f P w0 W own m μ v) (hp : PoolOk f P μ) (hx : XFew μ) (a : Int) (ha : IntOk a) :
    Calls Tryz.prog 33 #[ptr m.k.kb, .int .i64 a] W fun e w' => (∃ x, e = .returned x) ∧ ∃ v2, MAt f P w0 w' own m (μ.learn f P a) v2 ∧ Kept own (fun t => t = .sb ∨ t = .nb ∨ t = .ab) W w' := by
  have l1 := (h.owns _ _ h.oab).1
  have l2 := (h.owns _ _ h.onb).1
  have l3 := (h.owns _ _ h.osb).1
  have hc := learn_any N (Uof f μ.pool) (by have := uof_len (f := f) μ.pool; have := hp.few; omega) (hp.univ N) a ha W m.k v (fun W2 hW => hI.later (Same.ext h.ext hW (fun b hb => ⟨by omega, by omega, by omega⟩))) h.base (h.sn_le hx)
    (fun s hs => by rw [h.bS] at hs; exact hp.inU s hs) h.kc
  refine hc.mono ?_
  rintro e w' ⟨hr, v2, h1, h2, h3⟩
  have hk := h.kpl h2
  refine ⟨hr, v2, h.known hk (fun t ht => ht) h1 ?_ ?_ h3.kc (fun s hs => ?_), hk⟩
  · rw [h3.x, h.bx]
  · have := Cl.eq_clo h3.cl
    rw [this, h.bx, h.bS]
  · rw [h3.seen] at hs; exact h.seen s hs
theorem has_m (h : MAt f P w0 W own m μ v) (a : Int) (ha : IntOk a) :
    Calls Tryz.prog 22 #[ptr m.k.kb, .int .i64 a] W fun e w' => e = .returned (.bool (μ.x a)) ∧ W = w' := by
  have := has_any a ha W m.k v h.base
  rwa [h.bx] at this

end Go.Proofs.YtjodmedgkmeklaaGreat
