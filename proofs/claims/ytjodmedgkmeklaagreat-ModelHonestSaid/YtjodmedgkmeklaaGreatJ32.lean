/-
  Texts merged: Q42, V8.
-/
import Derived.Test.YtjodmedgkmeklaaGreatJ31
import Derived.Test.YtjodmedgkmeklaaGreatJ22
/-
  A world is made (New).
-/
namespace Go.Proofs.YtjodmedgkmeklaaGreat
open Go Go.RowKit Go.Maps
attribute [local go_sem] extUpon run_store_tm
attribute [local go_sem ↓] Tm.val_cell eval_put_ne eval_put_none eval_put_same size_put eval_const
attribute [local go_sem ↓] meth_Atom meth_Public meth_Shared meth_Chain meth_Digest meth_Box meth_Empty
attribute [local go_sem ↓] run_build_chain run_build_digest run_build_box
attribute [local go_sem] ta_Atom_Atom ta_Public_Atom ta_Shared_Atom ta_Chain_Atom ta_Digest_Atom ta_Box_Atom ta_Empty_Atom ta_Nil_Atom ta_Atom_Public ta_Public_Public ta_Shared_Public ta_Chain_Public ta_Digest_Public ta_Box_Public ta_Empty_Public ta_Nil_Public ta_Atom_Shared ta_Public_Shared ta_Shared_Shared ta_Chain_Shared ta_Digest_Shared ta_Box_Shared ta_Empty_Shared ta_Nil_Shared ta_Atom_Chain ta_Public_Chain ta_Shared_Chain ta_Chain_Chain ta_Digest_Chain ta_Box_Chain ta_Empty_Chain ta_Nil_Chain ta_Atom_Digest ta_Public_Digest ta_Shared_Digest ta_Chain_Digest ta_Digest_Digest ta_Box_Digest ta_Empty_Digest ta_Nil_Digest ta_Atom_Box ta_Public_Box ta_Shared_Box ta_Chain_Box ta_Digest_Box ta_Box_Box ta_Empty_Box ta_Nil_Box ta_Atom_Empty ta_Public_Empty ta_Shared_Empty ta_Chain_Empty ta_Digest_Empty ta_Box_Empty ta_Empty_Empty ta_Nil_Empty
variable {f : Int → List UInt8} {P : Int → Prop} {w0 w W W2 W3 : World} {own own2 : Nat → Option Tg} {m m2 : MB} {μ μ2 : MS} {v v2 : KV}

theorem see_none (N : Nums f P) : SeeSaid f P [] := fun t w k v h1 h2 h3 h4 h5 h6 h7 => see_any N [] (by simp) (fun k n a t _ h => by cases h) t w k v h1 h2 h3 h4 h5 h6 h7
theorem none_S {x : Int → Bool} {S : List UInt8 → Bool} (h : Cl f P x (names f []) S) (s : List UInt8) : S s = false := by
  cases hs : S s with
  | false => rfl
  | true => exact absurd (h.least (fun _ => false) (closed_none _) (fun s hs => by rw [names_nil] at hs; exact hs) s hs) (by simp)

set_option maxHeartbeats 16000000 in
set_option maxRecDepth 100000 in
theorem new_world (N : Nums f P) (hP : ∀ n, P1 n → P n) (hI : Itoa W Small f) {ns : List Int} {sa : Option Addr} {sc : Nat} (hns : ∀ n ∈ ns, 1 ≤ n ∧ n ≤ 6) (hnl : ns.length ≤ 6) (hnd : ns.Nodup) (hrd : Rd W sa (ns.map (Value.int .i64))) :
    Calls Tryz.prog 27 #[.slice sa ns.length sc] W fun e w' => ∃ own m v, e = .returned (ptr m.wb) ∧ MAt f P W w' own m (newMS f P ns) v := by
  have i9 : (Tryz.prog.info? 3).map (fun i => (i.zero, i.size, i.bytes)) = some (some (.int .i64 0), 1, 8) := by kernel_rfl
  obtain ⟨j0, hi, hz0, hz1, hz2⟩ := info_parts i9
  have HIN := hid (And.intro hi (And.intro hz0 (And.intro hz1 hz2)))
  have HN := hid N
  have HP1 := hid hP
  have HI := hid hI
  have HNS := hid hns
  have HND := hid hnd
  have HRD := hid hrd
  have hE0 : Ext W (((W.alloc (.map #[] 0)).alloc (.map #[] 0)).alloc (.cells #[.slice none 0 0, .slice none 0 0, .slice none 0 0, .map (some W.heap.size), .pointer none, .map (some (W.heap.size + 1))] 64 (0, 0))) :=
    ((Ext.alloc _ _).trans (Ext.alloc _ _)).trans (Ext.alloc _ _)
  have s1 : (W.alloc (.map #[] 0)).heap.size = W.heap.size + 1 := by simp
  have s2 : ((W.alloc (.map #[] 0)).alloc (.map #[] 0)).heap.size = W.heap.size + 2 := by simp
  have m1 := ((MapG.made CB W).later (Ext.alloc (W.alloc (.map #[] 0)) (.map #[] 0))).later (Ext.alloc ((W.alloc (.map #[] 0)).alloc (.map #[] 0)) (.cells #[.slice none 0 0, .slice none 0 0, .slice none 0 0, .map (some W.heap.size), .pointer none, .map (some (W.heap.size + 1))] 64 (0, 0)))
  have m2 := (MapG.made CI (W.alloc (.map #[] 0))).later (Ext.alloc ((W.alloc (.map #[] 0)).alloc (.map #[] 0)) (.cells #[.slice none 0 0, .slice none 0 0, .slice none 0 0, .map (some W.heap.size), .pointer none, .map (some (W.heap.size + 1))] 64 (0, 0)))
  have hb := blk_new ((W.alloc (.map #[] 0)).alloc (.map #[] 0)) (.cells #[.slice none 0 0, .slice none 0 0, .slice none 0 0, .map (some W.heap.size), .pointer none, .map (some (W.heap.size + 1))] 64 (0, 0))
  rw [s1] at m2
  rw [s2] at hb
  have HE0 := hid hE0
  have HM1 := hid m1
  have HM2 := hid m2
  have HWB := hid hb
  have hmm := @run_makeMap Tryz.prog
  clear i9 hi hz0 hz1 hz2 N hP hI hns hnd hrd hE0 s1 s2 m1 m2 hb
  go_enter Tryz.func27, Tryz.ntmps27
  go_upto_region 2 with fail
  generalize World.alloc _ _ = W1 at *
  generalize hq : W.heap.size = q at *
  have HQ := hid hq
  clear hmm hq
  go_wp2_with fail
  -- the listener's own secrets
  go_loopw [4, 15] (fun ov iv wr => ∃ j : Nat, iv = .int .i64 j ∧ j ≤ 10 ∧ Hid (Ext W1 wr) ∧ Hid (wr.ownsRow W1.heap.size 3 1 ov j ((own10.take j).map (Value.int .i64)))) (fun _ iv _ => 10 - (intOf iv).toNat)
  case atStart => exact ⟨0, rfl, by omega, hid (Ext.refl _), hid (World.ownsRow_nil _ _ _ _)⟩
  case round =>
    obtain ⟨j, rfl, hj, HX, HO⟩ := hrel
    by_cases hlt : j < 10
    · have hlt2 : (j : Int) < 10 := by omega
      have HT : Hid ((own10.take (j + 1)).map (Value.int .i64) = (own10.take j).map (Value.int .i64) ++ [.int .i64 (50 + (j : Int))]) := hid (by
        rcases (show j = 0 ∨ j = 1 ∨ j = 2 ∨ j = 3 ∨ j = 4 ∨ j = 5 ∨ j = 6 ∨ j = 7 ∨ j = 8 ∨ j = 9 by omega) with rfl | rfl | rfl | rfl | rfl | rfl | rfl | rfl | rfl | rfl <;> rfl)
      go_wp2_with (first
        | (at_builtin; refine wpList_append_lies _ rfl (.tmp 18) (.tmp 21) _ rfl W1.heap.size 3 j0 (.int .i64 0) 1 8 Tryz.underlying51 HIN.out.1 HIN.out.2.1 HIN.out.2.2.1 HIN.out.2.2.2 rfl (by omega) u4 j ((own10.take j).map (Value.int .i64)) (by rfl) (own_ext ((Ext.refl wr).alloc' _) HO.out) ⟨wr.heap.size, 0, none⟩ 1 1 [.int .i64 (50 + (j : Int))] (by rfl) (by rfl) (World.news_of_block (blk_new wr _)) (by intro u hu; simp at hu; subst hu; rfl) (by omega) (by unfold maxLen; omega) (by omega) (by have := HX.out.size; simp; omega) (wr.heap.size + 1) (by simp) ?_; intro g2 cap3 w2 hown hgrow hat hlt2))
      have HF : Hid (Ext W1 w2) := hid (Below.grown (HX.out.alloc' _) hgrow (by have := HX.out.size; simp; omega) (fun k hk => (HO.out.lt k hk).1))
      have HO2 := hid hown
      clear hown hgrow hat
      go_roundw
      case rel => exact ⟨j + 1, by go_num, by omega, HF, hid (by rw [HT.out]; exact HO2.out)⟩
      case measure => simp [intOf]; omega
    · have hlt2 : ¬ (j : Int) < 10 := by omega
      obtain rfl : j = 10 := by omega
      obtain ⟨oa, oc, hov, _, hord⟩ := own_rd HO.out
      subst hov
      have HORD := hid hord
      clear hord HO
      have HEW := hid (HE0.out.trans HX.out)
      go_wp2_with fail
      have hnew := new_any (f := f) (P := P) [] (see_none HN.out) wr own10 [] oa none oc 0 (HI.out.later HEW.out) HORD.out (fun h => absurd h (by decide)) (by intro n hn; simp [own10] at hn; unfold IntOk; omega) (by decide) (by intro t ht; cases ht) (by decide)
      refine hnew.mono ?_
      rintro e w5 ⟨k, v, rfl, ha⟩
      have hwbl := (Array.getElem?_eq_some_iff.1 HWB.out).1
      have hsz := HX.out.size
      have HWB5 := hid ((HX.out.trans ha.ext).blk HWB.out)
      have c4 : w5.cell? ⟨q + 2, 4, none⟩ = some (.pointer none) := cell_blk HWB5.out rfl
      have f4 : w5.frozen? ⟨q + 2, 4, none⟩ = false := by simp [World.frozen?, HWB5.out]
      have hkeep : ∀ b, b ≠ q + 2 → (w5.setCell ⟨q + 2, 4, none⟩ (ptr k.kb)).heap[b]? = w5.heap[b]? := fun b hb => Below.heap_setCell w5 ⟨q + 2, 4, none⟩ _ b hb
      have hb6 : (w5.setCell ⟨q + 2, 4, none⟩ (ptr k.kb)).heap[q + 2]? = some (.cells #[.slice none 0 0, .slice none 0 0, .slice none 0 0, .map (some q), ptr k.kb, .map (some (q + 1))] 64 (0, 0)) := by
        simp only [World.setCell, Array.getElem?_modify, HWB5.out, if_true, Option.map_some]; rfl
      have e1 := ha.kb; have e2 := ha.sb; have e3 := ha.nb; have e4 := ha.ab
      have hE6 : Ext W (w5.setCell ⟨q + 2, 4, none⟩ (ptr k.kb)) := Same.ext (HEW.out.trans ha.ext) (same_set w5 (q + 2) 4 (ptr k.kb)) (fun b hb e => by have := HQ.out; omega)
      obtain ⟨own0, hM⟩ := MAt.start (f := f) (P := P) (w0 := W) (W := w5.setCell ⟨q + 2, 4, none⟩ (ptr k.kb)) (k := k) (v := v) (nb := q) (lb := q + 1) (wb := q + 2) (q := wr.heap.size) hE6
        (((HM1.out.later HX.out).later ha.ext).keep (hkeep q (by omega))) (((HM2.out.later HX.out).later ha.ext).keep (hkeep (q + 1) (by omega))) hb6
        (ha.at_.keep (fun b hb => hkeep b (by rcases hb with rfl | rfl | rfl | rfl <;> omega))) (by have := HQ.out; omega) (by omega) (by omega) (by omega) e1 e2 e3 e4 ha.kc (none_S ha.cl)
      rw [ha.x] at hM
      have HM := hid hM
      clear hM hE6 hb6 hkeep e1 e2 e3 e4 ha hwbl hsz hnew HEW HX HWB HWB5 HM1 HM2 HE0 HORD
      go_upto_region 9 with fail
      generalize World.setCell w5 _ _ = W6 at *
      clear c4 f4
      go_wp2_with fail
      refine (add_any (t := .empty) (u := 80) (d := .agg #[]) ⟨rfl⟩ (HM.out.itoa HI.out) trivial (by simp [sz]) (.inr (by simp [mu0])) HM.out).mono ?_
      rintro e w7 ⟨⟨xx, rfl⟩, own1, vpl1, h1, h2, h3⟩
      have HMA := hid h1
      clear h1 h2 h3 HM
      go_wp2_with fail
      -- the statics
      go_loopw [35] (fun iv wr => ∃ (j : Nat) (own : Nat → Option Tg) (m : MB), iv = .int .i64 j ∧ j ≤ ns.length ∧ m.wb = q + 2 ∧ Hid (MAt f P W wr own m (((mu0 (secs own10)).add f .empty).statics0 f (ns.take j)) v)) (fun iv _ => ns.length - (intOf iv).toNat)
      case atStart => exact ⟨0, own1, _, rfl, by omega, rfl, HMA⟩
      case round =>
        clear HMA
        obtain ⟨j, own, m, rfl, hj, hmw, HM⟩ := hrel
        by_cases hlt : j < ns.length
        · have hlt2 : (j : Int) < (ns.length : Int) := by omega
          obtain ⟨g, rfl, _, hcell⟩ := HRD.out (by simp; omega)
          have q0 : wr.cell? ⟨g, j, none⟩ = some (.int .i64 ns[j]) := HM.out.ext.cell (hcell j _ (by rw [List.getElem?_map, List.getElem?_eq_getElem hlt]; rfl))
          have hn16 := HNS.out ns[j] (List.getElem_mem hlt)
          have hstat : (((mu0 (secs own10)).add f .empty).statics0 f (ns.take j)).statics = ns.take j := by rw [statics0_statics, (add_same _ _).2.2.1]; simp [mu0]
          have hnot : ns[j] ∉ ns.take j := by
            have h5 : ns = ns.take j ++ ns[j] :: ns.drop (j + 1) := by rw [← List.drop_eq_getElem_cons hlt, List.take_append_drop]
            have h6 : (ns.take j ++ ns[j] :: ns.drop (j + 1)).Nodup := h5 ▸ HND.out
            rw [List.nodup_append] at h6
            intro hm
            exact h6.2.2 _ hm _ List.mem_cons_self rfl
          have HBL := hid (((Bland.zero (P := P)).add (f := f) (t := .empty) (.inl rfl)).statics (f := f) (ns := ns.take j) (fun n hn => by have := HNS.out n (List.mem_of_mem_take hn); exact ⟨HP1.out _ (.inl (by omega)), by omega⟩))
          have HSU := hid (statics0_succ (f := f) (μ := (mu0 (secs own10)).add f .empty) hlt)
          have hpl := HBL.out.len
          have htl : (ns.take j).length = j := by simp; omega
          rw [htl] at hpl
          obtain ⟨sa, sc2, hsv, _, hsr⟩ := own_rd HM.out.st
          have c0 : wr.cell? ⟨q + 2, 0, none⟩ = some (.slice sa (((mu0 (secs own10)).add f .empty).statics0 f (ns.take j)).statics.length sc2) := by rw [← hmw, ← hsv]; exact cell_blk HM.out.blk rfl
          have HCO := contains_any ns[j] (((mu0 (secs own10)).add f .empty).statics0 f (ns.take j)).statics sa sc2 (by rw [hstat, htl]; omega) hsr
          rw [decide_eq_false (by rw [hstat]; exact hnot)] at HCO
          have HCON := hid HCO
          have HPN : Hid (P ns[j]) := hid (HP1.out _ (.inl (by omega)))
          have HPL := hid hpl
          have HSV := hid hsv
          have HJ : Hid ((((mu0 (secs own10)).add f .empty).statics0 f (ns.take j)).statics.length ≤ 6) := hid (by rw [hstat, htl]; omega)
          clear hcell hstat hnot hsr HCO hpl htl HBL hsv
          generalize ns[j] = n at *
          generalize hμ : ((mu0 (secs own10)).add f .empty).statics0 f (ns.take j) = μ at *
          clear hμ
          obtain ⟨hn1, hn6⟩ := hn16
          go_wp2_with fail
          refine HCON.out.mono ?_
          rintro e w8 ⟨rfl, rfl⟩
          have HA := hid (Ext.alloc wr (.cells #[.int .i64 n] 3 (0, 0)))
          have HBA := hid (blk_new wr (.cells #[.int .i64 n] 3 (0, 0)))
          have hsz : W.heap.size ≤ (wr.alloc (.cells #[.int .i64 n] 3 (0, 0))).heap.size := by have := HM.out.ext.size; have := HA.out.size; omega
          have hst6 := HJ.out
          have HST := hid (own_ext HA.out HM.out.st)
          rw [HSV.out] at HST
          have HBW := hid (hmw ▸ HA.out.blk HM.out.blk)
          go_upto_region 15 with (first
            | (at_builtin; refine wpList_append_lies _ rfl (.tmp 58) (.tmp 60) _ rfl W.heap.size 3 j0 (.int .i64 0) 1 8 Tryz.underlying51 HIN.out.1 HIN.out.2.1 HIN.out.2.2.1 HIN.out.2.2.2 rfl (by omega) (.slice sa μ.statics.length sc2) μ.statics.length (μ.statics.map (Value.int .i64)) (by rfl) HST.out ⟨wr.heap.size, 0, none⟩ 1 1 [.int .i64 n] (by rfl) (by rfl) (World.news_of_block HBA.out) (by intro u hu; simp at hu; subst hu; rfl) (by omega) (by unfold maxLen; omega) (by omega) hsz (wr.heap.size + 1) (by simp) ?_; intro g2 cap3 w4 hown hgr hat hlt2; have hb4 := grown_blk hgr HBW.out (own_ne HST.out HBW.out (by decide)); have c2b : w4.cell? ⟨q + 2, 0, none⟩ = some m.vst := cell_blk hb4 rfl; have f2 : w4.frozen? ⟨q + 2, 0, none⟩ = false := blk_frozen hb4))
          have hrow : ∀ g, (Value.slice sa μ.statics.length sc2).ownBlock = some g → own g = some .st := fun g hg => HM.out.ost g (by rw [HSV.out]; exact hg)
          have hS : Same wr (w4.setCell ⟨q + 2, 0, none⟩ (.slice (some ⟨g2, 0, none⟩) (μ.statics.length + 1) cap3)) (fun k => ∀ t, own k = some t → ¬ StatT t) :=
            (Same.of_ext HA.out).trans ((Same.of_grown hgr (fun k hk e => hk .st (hrow k e.symm) (.inr rfl))).trans ((same_set w4 (q + 2) 0 _).mono (fun k hk e => hk .w (by rw [e, ← hmw]; exact HM.out.ow) (.inl rfl))))
          have hk := Kept.of hS (fun b t hb => (HM.out.owns b t hb).2)
          have hblk : (w4.setCell ⟨q + 2, 0, none⟩ (.slice (some ⟨g2, 0, none⟩) (μ.statics.length + 1) cap3)).heap[m.wb]? = some (.cells #[.slice (some ⟨g2, 0, none⟩) (μ.statics.length + 1) cap3, m.vsd, m.vpl, .map (some m.nb), ptr m.k.kb, .map (some m.lb)] 64 (0, 0)) := by
            rw [hmw]; simp only [World.setCell, Array.getElem?_modify, hb4, if_true, Option.map_some]; rfl
          have hpl := own_set hown (p := ⟨q + 2, 0, none⟩) (own_ne hown hb4 (by decide)) (.slice (some ⟨g2, 0, none⟩) (μ.statics.length + 1) cap3)
          have hM2 := HM.out.stat (n := n) hk hblk hpl (fun g hg => by
            simp only [Value.ownBlock, Option.some.injEq] at hg
            subst hg
            rcases hat with h5 | h5
            · exact .inl (hrow _ h5)
            · exact .inr (HM.out.fresh (by omega)))
          have HM2 := hid hM2
          clear hM2 hpl hblk hk hS hrow hown hgr hat hlt2 hb4 c2b f2 q0 c0 hsz HM HST HBW HA HBA
          generalize World.setCell w4 _ _ = W9 at *
          have hadd := add_any (t := .pub n) (u := 82) (d := .agg #[.int .i64 n]) ⟨rfl⟩ (HM2.out.itoa HI.out) (HN.out.small _ HPN.out) (by simp [sz]) (.inr (by show μ.pool.length < 1000; have := HPL.out; omega)) HM2.out
          rw [show ptr ({ m with vst := .slice (some ⟨g2, 0, none⟩) (μ.statics.length + 1) cap3 } : MB).wb = ptr (q + 2) from congrArg ptr hmw] at hadd
          go_wp2_with fail
          refine hadd.mono ?_
          rintro e w10 ⟨⟨xx, rfl⟩, own3, vpl3, h1, h2, h3⟩
          have HM3 := hid h1
          clear h1 h2 h3 HM2 hadd
          go_wp2_with fail
          go_roundw
          case rel => exact ⟨j + 1, own3, { m with vst := .slice (some ⟨g2, 0, none⟩) (μ.statics.length + 1) cap3, vpl := vpl3 }, by go_num, by omega, hmw, hid (by rw [HSU.out]; exact HM3.out)⟩
          case measure => simp [intOf]; omega
        · have hlt2 : ¬ (j : Int) < (ns.length : Int) := by omega
          have hje : j = ns.length := by omega
          rw [hje, List.take_length] at HM
          have HMB := hid HM.out
          clear HM hje
          go_wp2_with fail
          -- what is shown
          go_loopw [70] (fun iv wr => ∃ (i : Nat) (own : Nat → Option Tg) (m : MB), iv = .int .i64 i ∧ i ≤ 4 ∧ m.wb = q + 2 ∧ Hid (MAt f P W wr own m ((((mu0 (secs own10)).add f .empty).statics0 f ns).shown f i) v)) (fun iv _ => 4 - (intOf iv).toNat)
          case atStart => exact ⟨0, own, m, rfl, by omega, hmw, HMB⟩
          case round =>
            clear HMB hmw
            obtain ⟨i, own, m, rfl, hi, hmw, HM⟩ := hrel
            by_cases hlt : i < 4
            · have hlt2 : (i : Int) < 4 := by omega
              have HSU := hid (shown_succ (f := f) (μ := ((mu0 (secs own10)).add f .empty).statics0 f ns) i)
              have hbl := (((Bland.zero (P := P)).add (f := f) (t := .empty) (.inl rfl)).statics (f := f) (ns := ns) (fun n hn => by have := HNS.out n hn; exact ⟨HP1.out _ (.inl (by omega)), by omega⟩)).shown (f := f) HP1.out i (by omega)
              have hadd := add_any (t := .pub (50 + (i : Int))) (u := 82) (d := .agg #[.int .i64 (50 + (i : Int))]) ⟨rfl⟩ (HM.out.itoa HI.out) (HN.out.small _ (HP1.out _ (.inl (by omega)))) (by simp [sz]) (.inr (by have := hbl.len; omega)) HM.out
              rw [hmw] at hadd
              clear hbl
              go_wp2_with fail
              refine hadd.mono ?_
              rintro e w10 ⟨⟨xx, rfl⟩, own3, vpl3, h1, h2, h3⟩
              have HM3 := hid h1
              clear h1 h2 h3 HM hadd
              go_wp2_with fail
              go_roundw
              case rel => exact ⟨i + 1, own3, { m with wb := q + 2, vpl := vpl3 }, by go_num, by omega, rfl, hid (by rw [HSU.out]; exact HM3.out)⟩
              case measure => simp [intOf]; omega
            · have hlt2 : ¬ (i : Int) < 4 := by omega
              obtain rfl : i = 4 := by omega
              have HMC : Hid (MAt f P W wr own m (newMS0 f ns) v) := hid HM.out
              have HBL := hid (newMS0_bland (f := f) HP1.out (ns := ns) (fun n hn => by have := HNS.out n hn; exact ⟨HP1.out _ (.inl (by omega)), by omega⟩))
              have HP0 : Hid (PoolOk f P (newMS0 f ns)) := hid (HBL.out.poolOk (by omega))
              have HFI : Hid (newMS f P ns = (newMS0 f ns).sees f P (newMS0 f ns).pool) := hid rfl
              clear HM
              generalize newMS0 f ns = μ3 at *
              obtain ⟨pa, pc, hpv, _, hpr⟩ := own_rd HMC.out.pl
              have c2 : wr.cell? ⟨q + 2, 2, none⟩ = some (.slice pa μ3.pool.length pc) := by rw [← hmw, ← hpv]; exact cell_blk HMC.out.blk rfl
              have hlen3 : μ3.pool.length ≤ 20 := by have := HBL.out.len; omega
              have HPR := hid hpr
              have HPV := hid hpv
              clear hpr hpv
              go_wp2_with fail
              clear c2
              go_loopw [85] (fun iv wr => ∃ (i : Nat) (v2 : KV), iv = .int .i64 i ∧ i ≤ μ3.pool.length ∧ Hid (MAt f P W wr own m (μ3.sees f P (μ3.pool.take i)) v2) ∧ Hid (PoolOk f P (μ3.sees f P (μ3.pool.take i)))) (fun iv _ => μ3.pool.length - (intOf iv).toNat)
              case atStart => exact ⟨0, v, rfl, by omega, HMC, HP0⟩
              case round =>
                clear HMC HP0
                obtain ⟨i, v2, rfl, hi, HM, HPO⟩ := hrel
                by_cases hlt : i < μ3.pool.length
                · have hlt2 : (i : Int) < (μ3.pool.length : Int) := by omega
                  have HSU := hid (sees_succ (f := f) (P := P) (μ := μ3) hlt)
                  obtain ⟨e1, e2, e3, e4, e5⟩ := sees_same (f := f) (P := P) (μ := μ3) (μ3.pool.take i)
                  obtain ⟨pa2, pc2, hpv2, _, hpr2⟩ := own_rd HM.out.pl
                  rw [e1] at hpv2 hpr2
                  rw [HPV.out] at hpv2
                  obtain ⟨rfl, rfl⟩ : pa = pa2 ∧ pc = pc2 := by cases hpv2; exact ⟨rfl, rfl⟩
                  obtain ⟨g, rfl, _, hcell⟩ := hpr2 (by simp; omega)
                  have hpt := HBL.out.pool _ (List.getElem_mem hlt)
                  obtain ⟨u, d, hv⟩ := Va.of (t := μ3.pool[i]) (by rcases hpt with h | ⟨n, h, _⟩ <;> rw [h] <;> simp)
                  have q0 : wr.cell? ⟨g, i, none⟩ = some (.iface u d) := hcell i _ (by rw [List.getElem?_map, List.getElem?_eq_getElem hlt]; simp [hv.eq])
                  have c4 : wr.cell? ⟨q + 2, 4, none⟩ = some (ptr m.k.kb) := by rw [← hmw]; exact cell_blk HM.out.blk rfl
                  have hfi : Fine P μ3.pool[i] := by rcases hpt with h | ⟨n, h, hn, _⟩ <;> rw [h] <;> first | exact ⟨trivial, by simp [sz]⟩ | exact ⟨hn, by simp [sz]⟩
                  have hin : names f (μ3.sees f P (μ3.pool.take i)).pool (nm f μ3.pool[i]) = true := by rw [e1]; exact names_iff.2 ⟨_, List.getElem_mem hlt, rfl⟩
                  have HSEE := hid (see_m HN.out HI.out HM.out HPO.out hv hfi hin)
                  have HPS := hid (HPO.out.see HN.out hin)
                  clear hcell hpr2 hpt hfi hin hv e1 e2 e3 e4 e5 hpv2
                  generalize μ3.pool[i] = t at *
                  go_wp2_with fail
                  refine HSEE.out.mono ?_
                  rintro e w11 ⟨rfl, v3, h1, h2⟩
                  have HM3 := hid h1
                  clear h1 h2 HSEE q0 c4
                  go_wp2_with fail
                  go_roundw
                  case rel => exact ⟨i + 1, v3, by go_num, by omega, hid (by rw [HSU.out]; exact HM3.out), hid (by rw [HSU.out]; exact HPS.out)⟩
                  case measure => simp [intOf]; omega
                · have hlt2 : ¬ (i : Int) < (μ3.pool.length : Int) := by omega
                  obtain rfl : i = μ3.pool.length := by omega
                  have hfin := HM.out
                  rw [List.take_length, ← HFI.out] at hfin
                  have HF := hid hfin
                  clear hfin HM HPO HFI
                  go_wp2_with fail
                  go_ret
                  exact ⟨own, m, by rw [hmw]; rfl, v2, HF.out⟩

end Go.Proofs.YtjodmedgkmeklaaGreat

/-
  What ops leave of sides' rows, and of statics.
-/
namespace Go.Proofs.YtjodmedgkmeklaaGreat
open Go Go.RowKit
variable {f : Int → List UInt8} {P : Int → Prop} {c : Nat} {μ : MS} {s : Sd}

theorem sent_same : ∀ (l : List Tm) {μ : MS}, (μ.sent f P l).sides = μ.sides ∧ (μ.sent f P l).statics = μ.statics ∧ (μ.sent f P l).leaked = μ.leaked ∧ (μ.sent f P l).x = μ.x
  | [], μ => ⟨rfl, rfl, rfl, rfl⟩
  | t :: l, μ => by
    have h := sent_same l (μ := (μ.add f t).see f P t)
    have e : ((μ.add f t).see f P t).sides = μ.sides ∧ ((μ.add f t).see f P t).statics = μ.statics ∧ ((μ.add f t).see f P t).leaked = μ.leaked ∧ ((μ.add f t).see f P t).x = μ.x := by
      unfold MS.add MS.see; split <;> exact ⟨rfl, rfl, rfl, rfl⟩
    exact ⟨h.1.trans e.1, h.2.1.trans e.2.1, h.2.2.1.trans e.2.2.1, h.2.2.2.trans e.2.2.2⟩
/-- What a side's rows may come to. -/
def RowsTo (μ : MS) (kind b : Int) (s2 : Sd) : Prop :=
  (s2.said = [] ∧ s2.took = []) ∨ ∃ s ∈ μ.sides, (s2.said = s.said ∧ s2.took = s.took) ∨ (kind = 4 ∧ s2.said = s.said ++ [textOf b] ∧ s2.took = s.took) ∨ (kind = 5 ∧ s2.said = s.said ∧ ∃ y, s2.took = s.took ++ [y])
theorem rows_self {kind b : Int} : ∀ s ∈ μ.sides, RowsTo μ kind b s := fun s hs => .inr ⟨s, hs, .inl ⟨rfl, rfl⟩⟩
theorem rows_set {kind b : Int} {μ2 : MS} {i : Nat} {s2 : Sd} (h1 : μ2.sides = μ.sides.set i s2) (h2 : RowsTo μ kind b s2) : ∀ s ∈ μ2.sides, RowsTo μ kind b s := fun s hs => by
  rw [h1] at hs
  rcases List.mem_or_eq_of_mem_set hs with hs | rfl
  · exact rows_self s hs
  · exact h2
theorem put_same (t : Tm) : (μ.put f t).1.sides = μ.sides ∧ (μ.put f t).1.statics = μ.statics ∧ (μ.put f t).1.leaked = μ.leaked ∧ (μ.put f t).1.x = μ.x := by
  unfold MS.put MS.add
  split
  · exact ⟨rfl, rfl, rfl, rfl⟩
  · split <;> exact ⟨rfl, rfl, rfl, rfl⟩
theorem play_rows (kind a b e : Int) : (∀ s ∈ (μ.play f P kind a b e).1.sides, RowsTo μ kind b s) ∧ (μ.play f P kind a b e).1.statics = μ.statics := by
  by_cases k1 : kind = 1
  · subst k1
    rw [play_begin_eq]
    unfold MS.begin
    split
    · split
      · exact ⟨rows_self, rfl⟩
      · refine ⟨fun s hs => ?_, rfl⟩
        rcases List.mem_append.1 hs with hs | hs
        · exact rows_self s hs
        · simp at hs; subst hs; exact .inl ⟨rfl, rfl⟩
    · exact ⟨rows_self, rfl⟩
  · by_cases h2 : 2 ≤ kind ∧ kind ≤ 5
    · rw [act_eq h2.1 h2.2]
      unfold MS.honest
      cases hs : μ.sideAt a with
      | none => exact ⟨rows_self, rfl⟩
      | some s =>
        have hi := sideAt_at hs
        have hm : s ∈ μ.sides := List.mem_of_getElem? hi
        show (∀ s2 ∈ (μ.act f P a.toNat s kind b e).1.sides, _) ∧ (μ.act f P a.toNat s kind b e).1.statics = _
        unfold MS.act
        by_cases k2 : kind = 2
        · subst k2; rw [if_pos rfl]
          unfold MS.speak
          split
          · exact ⟨rows_self, rfl⟩
          · split
            · exact ⟨rows_self, rfl⟩
            · obtain ⟨e1, e2, _, _⟩ := sent_same (f := f) (P := P) s.parts.2 (μ := μ)
              exact ⟨rows_set (i := a.toNat) (s2 := s.parts.1) (by show (μ.sent f P s.parts.2).sides.set _ _ = _; rw [e1]) (.inr ⟨s, hm, .inl (parts_rows s)⟩), e2⟩
        · by_cases k3 : kind = 3
          · subst k3; rw [if_neg (by omega), if_pos rfl, hear_eq]
            split
            · exact ⟨rows_self, rfl⟩
            · split
              · exact ⟨rows_self, rfl⟩
              · unfold heardT
                split
                · rename_i s2 hh
                  exact ⟨rows_set (i := a.toNat) (s2 := s2) rfl (.inr ⟨s, hm, .inl (hears_rows hh)⟩), rfl⟩
                · exact ⟨rows_set (i := a.toNat) (s2 := { s with state := 2 }) rfl (.inr ⟨s, hm, .inl ⟨rfl, rfl⟩⟩), rfl⟩
          · by_cases k4 : kind = 4
            · subst k4; rw [if_neg (by omega), if_neg (by omega), if_pos rfl]
              unfold MS.say
              split
              · exact ⟨rows_self, rfl⟩
              · split
                · exact ⟨rows_self, rfl⟩
                · obtain ⟨e1, e2, _, _⟩ := sent_same (f := f) (P := P) [.box s.keys.1 s.sent .empty (textOf b)] (μ := μ)
                  exact ⟨rows_set (i := a.toNat) (s2 := { s with sent := s.sent + 1, said := s.said ++ [textOf b] }) (by show (μ.sent f P _).sides.set _ _ = _; rw [e1]) (.inr ⟨s, hm, .inr (.inl ⟨rfl, rfl, rfl⟩)⟩), e2⟩
            · obtain rfl : kind = 5 := by omega
              rw [if_neg (by omega), if_neg (by omega), if_neg (by omega), take_eq]
              split
              · exact ⟨rows_self, rfl⟩
              · unfold takeT
                split
                · exact ⟨rows_self, rfl⟩
                · split
                  · rename_i y _ _
                    exact ⟨rows_set (i := a.toNat) rfl (.inr ⟨s, hm, .inr (.inr ⟨rfl, rfl, _, rfl⟩)⟩), rfl⟩
                  · exact ⟨rows_self, rfl⟩
                · exact ⟨rows_self, rfl⟩
    · by_cases k6 : kind = 6
      · subst k6
        rw [play_leak_eq]
        unfold MS.leak
        split <;> exact ⟨rows_self, rfl⟩
      · have e1 : μ.play f P kind a b e = match μ.made f kind a b e with | none => (μ, 1) | some t => μ.put f t := by
          unfold MS.play; rw [if_neg k1, if_neg h2, if_neg k6]; rfl
        rw [e1]
        cases μ.made f kind a b e with
        | none => exact ⟨rows_self, rfl⟩
        | some t =>
          obtain ⟨e1, e2, _, _⟩ := put_same (f := f) (μ := μ) t
          exact ⟨fun s hs => rows_self s (e1 ▸ hs), e2⟩

/-- So many were taken at most. -/
def Took (d : Nat) (μ : MS) : Prop := ∀ s ∈ μ.sides, s.took.length ≤ d
/-- What was said is of numbers up to B. -/
def Upto (B : Int) (μ : MS) : Prop := ∀ s ∈ μ.sides, ∀ t ∈ s.said, ∃ n, 0 ≤ n ∧ n ≤ B ∧ t = .atom (-1 - n)
theorem Took.mono {d d2 : Nat} (h : Took d μ) (hd : d ≤ d2) : Took d2 μ := fun s hs => Nat.le_trans (h s hs) hd
theorem Upto.mono {B B2 : Int} (h : Upto B μ) (hd : B ≤ B2) : Upto B2 μ := fun s hs t ht => by
  obtain ⟨n, h1, h2, h3⟩ := h s hs t ht
  exact ⟨n, h1, by omega, h3⟩
theorem Took.play {d : Nat} (h : Took d μ) (kind a b e : Int) : Took (if kind = 5 then d + 1 else d) (μ.play f P kind a b e).1 := fun s hs => by
  rcases (play_rows (f := f) (P := P) (μ := μ) kind a b e).1 s hs with h1 | ⟨r, hr, h1 | h1 | h1⟩
  · rw [h1.2]; simp
  · rw [h1.2]; have := h r hr; split <;> omega
  · rw [h1.2.2]; have := h r hr; split <;> omega
  · obtain ⟨rfl, _, y, hy⟩ := h1
    rw [hy, if_pos rfl]; have := h r hr; simp; omega
theorem Upto.play {B : Int} (h : Upto B μ) (kind a b e : Int) (hb : kind = 4 → b ≤ B) (h0 : 0 ≤ B) (h9 : B ≤ 999) : Upto B (μ.play f P kind a b e).1 := fun s hs t ht => by
  rcases (play_rows (f := f) (P := P) (μ := μ) kind a b e).1 s hs with h1 | ⟨r, hr, h1 | h1 | h1⟩
  · rw [h1.1] at ht; cases ht
  · rw [h1.1] at ht; exact h r hr t ht
  · rw [h1.2.1] at ht
    rcases List.mem_append.1 ht with ht | ht
    · exact h r hr t ht
    · simp at ht
      have := hb h1.1
      exact ⟨min (max b 0) 999, by omega, by omega, ht⟩
  · rw [h1.2.1] at ht; exact h r hr t ht

end Go.Proofs.YtjodmedgkmeklaaGreat
