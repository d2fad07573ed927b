/-
  Texts merged: K7, K8, K9S, K10, Q0, Same, RegS, Q1.
-/
import Derived.Deep.DeepCutAuto
import Derived.Deep.Cut
import Derived.Deep.CutRange
import Derived.Deep.CutBlock
import Derived.Deep.MidRow
import Derived.Test.YtjodmedgkmeklaaGreatJ08
import Derived.Test.YtjodmedgkmeklaaGreatJ04
import Derived.Test.YtjodmedgkmeklaaGreatJ01
/-
  A round over all boxes (know.round).
-/
namespace Go.Proofs.YtjodmedgkmeklaaGreat
open Go Go.RowKit Go.Maps
attribute [local go_sem] extUpon run_store_tm
attribute [local go_sem ↓] Tm.val_cell eval_put_ne eval_put_none eval_put_same size_put eval_const
variable {f : Int → List UInt8} {P : Int → Prop}

def KP (k : KS) (b : Nat) : Prop := b ≠ k.ab ∧ b ≠ k.nb
def Univ (f : Int → List UInt8) (P : Int → Prop) (U : List (List UInt8)) : Prop := ∀ k n a t, Fine P (.box k n a t) → nm f (.box k n a t) ∈ U → nm f a ∈ U ∧ nm f t ∈ U
theorem ta_box (k : Tm) (n : Int) (a x : Tm) (w : World) : (Instr.typeAssert (Tm.box k n a x).val 29 90 true).run Tryz.prog w = .ok (.tuple #[.agg #[k.val, .int .i64 n, a.val, x.val], .bool true]) w := ta_Box_Box _ _
theorem ta_nobox (t : Tm) (ht : t ≠ .non) (hb : ∀ k n a x, t ≠ .box k n a x) (w : World) :
    (Instr.typeAssert t.val 29 90 true).run Tryz.prog w = .ok (.tuple #[.agg #[.nilIface, .int .i64 0, .nilIface, .nilIface], .bool false]) w := by
  cases t with
  | non => exact absurd rfl ht
  | atom n => exact ta_Atom_Box _ _
  | pub n => exact ta_Public_Box _ _
  | shared a b => exact ta_Shared_Box _ _
  | empty => exact ta_Empty_Box _ _
  | digest x y => exact ta_Digest_Box _ _
  | chain i x y => exact ta_Chain_Box _ _
  | box k n x y => exact absurd rfl (hb k n x y)
theorem row_cells {w : World} {B : Nat} {e : TypeId} {v : Value} {n : Nat} {xs : List Value} (h : w.ownsRow B e 1 v n xs) :
    ∃ a cap, v = .slice a n cap ∧ (0 < n → ∃ g, a = some ⟨g, 0, none⟩ ∧ B ≤ g ∧ g < w.heap.size ∧ ∀ i u, xs[i]? = some u → w.cell? ⟨g, i, none⟩ = some u) := by
  rcases h.2 with ⟨rfl, rfl⟩ | ⟨g, cap, cur, rfl, hB, hh, hn, hc, hs, ht⟩
  · exact ⟨none, 0, rfl, fun h => by omega⟩
  · refine ⟨_, _, rfl, fun _ => ⟨g, rfl, hB, (Array.getElem?_eq_some_iff.1 hh).1, fun i u hu => cell_blk hh ?_⟩⟩
    subst ht
    rw [List.getElem?_take] at hu
    split at hu
    · simpa using hu
    · cases hu
theorem KAt.few_m {w : World} {k : KS} {v : KV} {U : List (List UInt8)} (h : KAt f P w k v) (hU : ∀ s, v.S s = true → s ∈ U) (hl : U.length ≤ 80000) : v.m < 90000 := by
  have := h.all.card U (fun s x hs => hU s (by unfold KV.S; rw [hs]; rfl))
  omega
theorem KAt.get {w : World} {k : KS} {v : KV} {s : List UInt8} {t : Tm} (h : KAt f P w k v) (hs : v.all s = some t) :
    (Instr.lookup 76 (.map (some k.ab)) (str s) false).run Tryz.prog w = .ok t.val w := by
  have h5 := h.all.get (a := s) (h.all.dom hs)
  rw [hs] at h5
  exact h5

set_option maxHeartbeats 4000000 in
set_option maxRecDepth 100000 in
theorem round_any (N : Nums f P) (U : List (List UInt8)) (hUl : U.length ≤ 80000) (hUn : Univ f P U) (w : World) (k : KS) (v : KV) (hI : ∀ W, Same w W (KP k) → Itoa W Small f) (hK : KAt f P w k v) (hvU : ∀ s, v.S s = true → s ∈ U) :
    Calls Tryz.prog 58 #[.pointer (some ⟨k.kb, 0, none⟩)] w fun e w' => ∃ v2, e = .returned (.bool (decide (v.m < v2.m))) ∧ KAt f P w' k v2 ∧ Same w w' (KP k) ∧ ∃ ss, RInv f P U v v2 ss ss.length ∧ ∀ s, v.S s = true → s ∈ ss := by
  have hm := hK.few_m hvU hUl
  have hkey := keys_any hK.all (by omega)
  have HK1 := hid hkey.1
  have HK2 := hid hkey.2
  have HI := hid hI
  have HK := hid hK
  have HVU := hid hvU
  have HUN := hid hUn
  have q2 := cell_blk (j := 2) hK.blk rfl
  have hln := hK.all.len 3
  have hab := hK.all.lt
  have hnb := hK.seen.lt
  change (Builtin.len_ #[76] 3 #[.map (some k.ab)]).run Tryz.prog w = _ at hln
  clear hkey hI hK hvU hUn
  go_enter Tryz.func58, Tryz.ntmps58
  go_wp2_with fail
  refine HK1.out.mono ?_
  rintro e w1 ⟨rfl, rfl⟩
  go_wp2_with fail
  refine HK2.out.mono ?_
  rintro e w2 ⟨vv, ss, rfl, hss, hrow, hE2, hsn⟩
  obtain ⟨ra, rcap, rfl, hcells⟩ := row_cells hrow
  have hE := (Ext.alloc w (.cells #[.map (some k.ab)] 76 (0, 0))).trans hE2
  have HSS := hid hss
  have HCE := hid hcells
  replace HK := hid (HK.out.later hE)
  have HS2 : Hid (Same w w2 (KP k)) := hid (Same.of_ext hE)
  have hw2 := hE.size
  have hw3 := hE2.size
  clear hss hrow hcells hE hE2 q2 hln HK1 HK2
  have HR : Hid (RInv f P U v v ss 0) := hid (RInv.start HVU.out)
  clear HVU
  go_wp2_with fail
  go_loopw [20] (fun iv wr => ∃ (j : Nat) (v2 : KV), iv = .int .i64 j ∧ j ≤ ss.length ∧ Hid (KAt f P wr k v2) ∧ Hid (Same w2 wr (KP k)) ∧ Hid (RInv f P U v v2 ss j)) (fun iv _ => ss.length - (intOf iv).toNat)
  case atStart => exact ⟨0, v, rfl, by omega, HK, hid (Same.refl _ _), HR⟩
  case round =>
    clear HK HR
    obtain ⟨j, v2, rfl, hj, HK, HS, HR⟩ := hrel
    by_cases hlt : j < ss.length
    · have hlt2 : (j : Int) < (ss.length : Int) := by omega
      obtain ⟨g, rfl, hg1, hg2, hgc⟩ := HCE.out (by omega)
      have q0 := HS.out.cell (b := g) (by omega) ⟨by omega, by omega⟩ (hgc j (str ss[j]) (by simp [hlt]))
      clear hgc
      obtain ⟨t, ht⟩ : ∃ t, v2.all ss[j] = some t := by
        have h5 : v.S ss[j] = true := by
          unfold KV.S
          have := (HSS.out ss[j]).1 (List.getElem_mem hlt)
          cases hx : v.all ss[j] with
          | none => exact absurd hx this
          | some _ => rfl
        have h6 := HR.out.le _ h5
        unfold KV.S at h6
        cases hx : v2.all ss[j] with
        | none => rw [hx] at h6; cases h6
        | some t => exact ⟨t, rfl⟩
      obtain ⟨hnt, hF⟩ := HK.out.named _ _ ht
      have hget := HK.out.get ht
      have hS2 : v2.S ss[j] = true := by unfold KV.S; rw [ht]; rfl
      have hjU := HR.out.inU _ hS2
      have HJU := hid hjU
      have HS3 := hid hS2
      clear ht hjU hS2
      have HNT := hid hnt
      clear hnt
      generalize hsj : ss[j] = sj at q0 hget HJU HS3
      have HSJ := hid hsj
      clear hsj
      have q2 := cell_blk (j := 2) HK.out.blk rfl
      have habr := HK.out.all.lt
      have hnbr := HK.out.seen.lt
      by_cases hb : ∃ kk n a x, t = .box kk n a x
      · obtain ⟨kk, n, a, x, rfl⟩ := hb
        obtain ⟨fk, fa, fx⟩ := hF.box
        have hta := ta_box kk n a x wr
        have HF := hid hF
        clear hF
        generalize Tm.val (.box kk n a x) = bv at hget hta
        have hbn := blk_new wr (.cells #[kk.val, .int .i64 n, a.val, x.val] 90 (0, 0))
        go_upto_region 7 with fail
        have hE3 : Ext wr (wr.alloc (.cells #[kk.val, .int .i64 n, a.val, x.val] 90 (0, 0))) := Ext.alloc _ _
        replace HK := hid (HK.out.later hE3)
        replace HS := hid (HS.out.trans (Same.of_ext hE3))
        have hbl := (Array.getElem?_eq_some_iff.1 hbn).1
        have hkp : KP k wr.heap.size := ⟨by omega, by omega⟩
        have HSZ := hid hE3.size
        have HB0 := hid (cell_blk (j := 0) hbn rfl)
        have HB3 := hid (cell_blk (j := 3) hbn rfl)
        have b2 := cell_blk (j := 2) hbn rfl
        clear hE3 q2 q0 hget hta hbn habr hnbr
        generalize World.alloc wr _ = W3 at *
        generalize wr.heap.size = bb at *
        have hfew := HK.out.few_m HR.out.inU hUl
        have hI3 := HI.out _ (HS2.out.trans HS.out)
        go_wp2_with fail
        refine (out_any N.small a W3 k v2 hI3 HK.out fa hfew).mono ?_
        rintro e W4 ⟨⟨o, rfl⟩, hK4, hS4⟩
        replace hS4 : Same W3 W4 (KP k) := hS4.mono (fun b hb => hb.1)
        have HR1 := hid (HR.out.put a (fun C hC hS => (hC kk n a x HF.out (by rw [HNT.out, HSJ.out]; exact HR.out.sound C hC hS _ HS3.out)).1) (HUN.out kk n a x HF.out (by rw [HNT.out, HSJ.out]; exact HJU.out)).1)
        have HR0 := HR
        have b0 := hS4.cell hbl hkp HB0.out
        have HB4 := hid (hS4.cell hbl hkp HB3.out)
        have hbl4 : bb < W4.heap.size := Nat.lt_of_lt_of_le hbl hS4.2.2.2.1
        have HK4 := hid hK4
        replace HS := hid (HS.out.trans hS4)
        clear b2 hK4 hS4 HK HR HB0 HB3 hI3 hfew
        have hI4 := HI.out _ (HS2.out.trans HS.out)
        have hsk : sz kk ≤ 10000 := by have := fk.size; omega
        go_wp2_with fail
        refine (can_any kk W4 k (v2.put f a) hI4 HK4.out (fk.ok.all N.small) hsk).mono ?_
        rintro e W5 ⟨rfl, hE5⟩
        have hx2 : (v2.put f a).x = v.x := HR1.out.x_eq
        rw [hx2]
        clear hx2
        have HA := hid (show (v2.put f a).S (nm f a) = true by rw [put_S]; exact plus_self _ _)
        replace HK4 := hid (HK4.out.later hE5)
        replace HS := hid (HS.out.trans (Same.of_ext hE5))
        have b3 := hE5.cell HB4.out
        clear hE5 hI4 b0 HB4
        cases hc : can f v.x (v2.put f a).S kk
        · have HR3 := hid (HR1.out.shut hlt HNT.out HF.out HA.out hc)
          clear hc b3
          go_wp2_with fail
          go_roundw
          case rel => exact ⟨j + 1, v2.put f a, by go_num, by omega, HK4, HS, HR3⟩
          case measure => simp [intOf]; omega
        · have hfew5 := HK4.out.few_m HR1.out.inU hUl
          have hI5 := HI.out _ (HS2.out.trans HS.out)
          have HRX := hid (HR1.out.put x (fun C hC hS => (hC kk n a x HF.out (by rw [HNT.out, HSJ.out]; exact HR0.out.sound C hC hS _ HS3.out)).2 (can_mono (fun _ h => h) (HR1.out.sound C hC hS) kk hc)) (HUN.out kk n a x HF.out (by rw [HNT.out, HSJ.out]; exact HJU.out)).2)
          have HX1 := hid (show ((v2.put f a).put f x).S (nm f a) = true by rw [put_S]; exact plus_le _ _ _ HA.out)
          have HX2 := hid (show ((v2.put f a).put f x).S (nm f x) = true by rw [put_S]; exact plus_self _ _)
          have HR3 := hid (HRX.out.opened hlt HNT.out HF.out HX1.out HX2.out)
          clear hc
          go_wp2_with fail
          refine (out_any N.small x W5 k (v2.put f a) hI5 HK4.out fx hfew5).mono ?_
          rintro e W6 ⟨⟨o2, rfl⟩, hK6, hS6⟩
          replace hS6 : Same W5 W6 (KP k) := hS6.mono (fun b hb => hb.1)
          have HK6 := hid hK6
          replace HS := hid (HS.out.trans hS6)
          clear hK6 hS6 b3 hI5 hfew5
          go_wp2_with fail
          go_roundw
          case rel => exact ⟨j + 1, (v2.put f a).put f x, by go_num, by omega, HK6, HS, HR3⟩
          case measure => simp [intOf]; omega
      · have hta := ta_nobox t hF.ok.ne (fun kk n a x e => hb ⟨kk, n, a, x, e⟩) wr
        have HR2 := hid (HR.out.plain hlt HNT.out hF (fun kk n a x e => hb ⟨kk, n, a, x, e⟩))
        clear hb hF
        generalize t.val = tv at hget hta
        go_wp2_with fail
        go_roundw
        case rel => exact ⟨j + 1, v2, by go_num, by omega, hid (HK.out.later (Ext.alloc _ _)), hid (HS.out.trans (Same.of_ext (Ext.alloc _ _))), HR2⟩
        case measure => simp [intOf]; omega
    · have hlt2 : ¬ (j : Int) < (ss.length : Int) := by omega
      obtain rfl : j = ss.length := by omega
      have q2 := cell_blk (j := 2) HK.out.blk rfl
      have hln := HK.out.all.len 3
      change (Builtin.len_ #[76] 3 #[.map (some k.ab)]).run Tryz.prog wr = _ at hln
      go_wp2_with fail
      go_ret
      exact ⟨v2, rfl, HK.out, HS2.out.trans HS.out, ss, HR.out, fun s hs => (HSS.out s).2 (by unfold KV.S at hs; intro e; rw [e] at hs; cases hs)⟩

end Go.Proofs.YtjodmedgkmeklaaGreat

/-
  Rounds till nothing new comes out (know.close).
-/
namespace Go.Proofs.YtjodmedgkmeklaaGreat
open Go Go.RowKit Go.Maps
attribute [local go_sem] extUpon run_store_tm
attribute [local go_sem ↓] Tm.val_cell eval_put_ne eval_put_none eval_put_same size_put eval_const
variable {f : Int → List UInt8} {P : Int → Prop}

def mapSize (w : World) (b : Nat) : Nat :=
  match w.heap[b]? with
  | some (.map es _) => es.size
  | _ => 0
theorem KAt.mapSize {w : World} {k : KS} {v : KV} (h : KAt f P w k v) : Go.Proofs.YtjodmedgkmeklaaGreat.mapSize w k.ab = v.m := by
  obtain ⟨es, c, hb, _, hn, _⟩ := h.all
  unfold Go.Proofs.YtjodmedgkmeklaaGreat.mapSize
  rw [hb]
  exact hn

/-- Since the start v: more is known, all of it comes out. -/
structure CInv (f : Int → List UInt8) (P : Int → Prop) (U : List (List UInt8)) (v v2 : KV) : Prop where
  sec : v2.sec = v.sec
  sn : v2.sn = v.sn
  seen : v2.seen = v.seen
  n : v2.n = v.n
  le : ∀ s, v.S s = true → v2.S s = true
  sound : ∀ C, Closed f P v.x C → (∀ s, v.S s = true → C s = true) → ∀ s, v2.S s = true → C s = true
  inU : ∀ s, v2.S s = true → s ∈ U
theorem CInv.start {U : List (List UInt8)} {v : KV} (hU : ∀ s, v.S s = true → s ∈ U) : CInv f P U v v := ⟨rfl, rfl, rfl, rfl, fun _ h => h, fun _ _ h => h, hU⟩
theorem CInv.round {U : List (List UInt8)} {v v2 v3 : KV} {ss : List (List UInt8)} {j : Nat} (h : CInv f P U v v2) (r : RInv f P U v2 v3 ss j) : CInv f P U v v3 := by
  have hx : v2.x = v.x := by unfold KV.x; rw [h.sec]
  exact ⟨r.sec.trans h.sec, r.sn.trans h.sn, r.seen.trans h.seen, r.n.trans h.n, fun s hs => r.le s (h.le s hs), fun C hC hS => r.sound C (by rw [hx]; exact hC) (h.sound C hC hS), r.inU⟩
theorem CInv.cl {U : List (List UInt8)} {v v2 v3 : KV} {ss : List (List UInt8)} (N : Nums f P) (h : CInv f P U v v2) (r : RInv f P U v2 v3 ss ss.length) (hss : ∀ s, v2.S s = true → s ∈ ss) (hm : ¬ v2.m < v3.m) : Cl f P v.x v.S v3.S := by
  have hx : v2.x = v.x := by unfold KV.x; rw [h.sec]
  have he : v3.m = v2.m := by have := r.m; omega
  have hc := r.closed N hss he
  rw [r.eq he]
  rw [hx] at hc
  exact ⟨h.le, hc, h.sound⟩

set_option maxHeartbeats 4000000 in
set_option maxRecDepth 100000 in
theorem close_any (N : Nums f P) (U : List (List UInt8)) (hUl : U.length ≤ 80000) (hUn : Univ f P U) (w : World) (k : KS) (v : KV) (hI : ∀ W, Same w W (KP k) → Itoa W Small f) (hK : KAt f P w k v) (hvU : ∀ s, v.S s = true → s ∈ U) :
    Calls Tryz.prog 46 #[.pointer (some ⟨k.kb, 0, none⟩)] w fun e w' => (∃ x, e = .returned x) ∧ ∃ v2, KAt f P w' k v2 ∧ Same w w' (KP k) ∧ CInv f P U v v2 ∧ Cl f P v.x v.S v2.S := by
  have HI := hid hI
  have HK := hid hK
  have HC : Hid (CInv f P U v v) := hid (CInv.start hvU)
  have HUN := hid hUn
  clear hI hK hvU hUn
  go_enter Tryz.func46, Tryz.ntmps46
  go_wp2_with fail
  go_loopw [3] (fun _ wr => ∃ v2, Hid (KAt f P wr k v2) ∧ Hid (Same w wr (KP k)) ∧ Hid (CInv f P U v v2)) (fun _ wr => 80001 - mapSize wr k.ab)
  case atStart => exact ⟨v, HK, hid (Same.refl _ _), HC⟩
  case round =>
    clear HK HC
    obtain ⟨v2, HK, HS, HC⟩ := hrel
    go_wp2_with fail
    refine (round_any N U hUl HUN.out wr k v2 (fun W hW => HI.out W (HS.out.trans hW)) HK.out HC.out.inU).mono ?_
    rintro e W2 ⟨v3, rfl, hK3, hS3, ss, hR, hss⟩
    have HK3 := hid hK3
    have HS3 := hid (HS.out.trans hS3)
    have HC3 := hid (HC.out.round hR)
    by_cases hm : v2.m < v3.m
    · have hme : 80001 - mapSize W2 k.ab < 80001 - mapSize wr k.ab := by
        rw [hK3.mapSize, HK.out.mapSize]
        have := hK3.all.card U (fun s x hs => HC3.out.inU s (by unfold KV.S; rw [hs]; rfl))
        omega
      have HME := hid hme
      clear hme hK3 hS3 hR hss
      go_wp2_with fail
      go_roundw
      case rel => exact ⟨v3, HK3, HS3, HC3⟩
      case measure => exact HME.out
    · have HCL := hid (HC.out.cl N hR hss hm)
      clear hK3 hS3 hR hss
      go_wp2_with fail
      go_end0
      exact ⟨⟨_, rfl⟩, v3, HK3.out, HS3.out, HC3.out, HCL.out⟩

end Go.Proofs.YtjodmedgkmeklaaGreat

/-
  A term is seen: what is kept (plain; stores).
-/
namespace Go.Proofs.YtjodmedgkmeklaaGreat
open Go Go.RowKit Go.Maps
variable {f : Int → List UInt8} {P : Int → Prop}

def KV.note (f : Int → List UInt8) (v : KV) (t : Tm) : KV := { v with seen := fset v.seen (nm f t) t, n := if (v.seen (nm f t)).isSome then v.n else v.n + 1 }
theorem KAt.note {w : World} {k : KS} {v : KV} {t : Tm} (h : KAt f P w k v) (hno : CS.ok (nm f t)) (hn : v.n < 400) :
    ∃ w2, (Instr.mapUpdate CS.mt (.map (some k.nb)) (CS.ek (nm f t)) (CS.ev t)).run Tryz.prog w = .ok () w2 ∧ KAt f P w2 k (v.note f t) ∧ w.grownBy w2 (some k.nb) := by
  obtain ⟨w2, h1, h2, h3⟩ := h.seen.store (a := nm f t) hno (by omega) t
  have hb : ∀ b, b < w.heap.size → b ≠ k.nb → w2.heap[b]? = w.heap[b]? := fun b hb hne => h3.block b hb (fun e => hne (Option.some.inj e))
  refine ⟨w2, h1, ⟨(hb _ (Array.getElem?_eq_some_iff.1 h.blk).1 h.kb_ne.2.1).trans h.blk, h.sec.keep (hb _ h.sec.lt h.ne1), h2, h.all.keep (hb _ h.all.lt (Ne.symm h.ne3)), h.ne1, h.ne2, h.ne3, h.named, ?_, h.fews⟩, h3⟩
  show (if (v.seen (nm f t)).isSome then v.n else v.n + 1) ≤ 400
  split <;> omega
theorem KAt.heard {w : World} {k : KS} {v : KV} (h : KAt f P w k v) (s : List UInt8) (hs : CS.ok s) : ∃ xv, ∀ W, Ext w W →
    (Instr.lookup 76 (.map (some k.nb)) (str s) true).run Tryz.prog W = .ok (.tuple #[xv, .bool (v.seen s).isSome]) W := ⟨_, fun _ hW => (h.seen.later hW).look hs⟩

/-- What is kept from one term seen to the next. -/
structure KC (f : Int → List UInt8) (P : Int → Prop) (v : KV) : Prop where
  seen : ∀ s, (v.seen s).isSome = true → v.S s = true
  closed : Closed f P v.x v.S
  tr : ∀ n, v.sec n ≠ some false
structure SeeR (f : Int → List UInt8) (P : Int → Prop) (U : List (List UInt8)) (v v2 : KV) (nt : List UInt8) : Prop where
  sec : v2.sec = v.sec
  sn : v2.sn = v.sn
  n : v2.n ≤ v.n + 1
  kc : KC f P v2
  inU : ∀ s, v2.S s = true → s ∈ U
  cl : Cl f P v.x (plus v.S nt) v2.S
  more : ∀ s, (v2.seen s).isSome = true → (v.seen s).isSome = true ∨ s = nt
theorem plus_there {S : List UInt8 → Bool} {x : List UInt8} (h : S x = true) : plus S x = S := by
  funext s
  unfold plus
  by_cases hs : s = x
  · subst hs; simp [h]
  · simp [hs]
theorem SeeR.there {U : List (List UInt8)} {v : KV} {nt : List UInt8} (hc : KC f P v) (hU : ∀ s, v.S s = true → s ∈ U) (h : (v.seen nt).isSome = true) : SeeR f P U v v nt :=
  ⟨rfl, rfl, by omega, hc, hU, by rw [plus_there (hc.seen _ h)]; exact Cl.self hc.closed, fun _ h => .inl h⟩
theorem SeeR.laid {U : List (List UInt8)} {v v2 : KV} {t : Tm} (hc : KC f P v) (hi : CInv f P U ((v.note f t).put f t) v2) (hcl : Cl f P ((v.note f t).put f t).x ((v.note f t).put f t).S v2.S) : SeeR f P U v v2 (nm f t) := by
  have hS : ((v.note f t).put f t).S = plus v.S (nm f t) := funext fun s => put_S _ _ s
  have hx2 : v2.x = v.x := by unfold KV.x; rw [hi.sec]; rfl
  refine ⟨hi.sec, hi.sn, ?_, ⟨fun s hs => ?_, ?_, fun n => by rw [hi.sec]; exact hc.tr n⟩, hi.inU, ?_, ?_⟩
  · rw [hi.n]
    show (if (v.seen (nm f t)).isSome then v.n else v.n + 1) ≤ v.n + 1
    split <;> omega
  · refine hi.le s ?_
    rw [hS]
    rw [hi.seen] at hs
    change (fset v.seen (nm f t) t s).isSome = true at hs
    by_cases hn : s = nm f t
    · subst hn; exact plus_self _ _
    · rw [fset_ne hn] at hs
      exact plus_le _ _ _ (hc.seen s hs)
  · rw [hx2]; exact hcl.closed
  · rw [← hS]; exact hcl
  · intro s hs
    rw [hi.seen] at hs
    change (fset v.seen (nm f t) t s).isSome = true at hs
    by_cases hn : s = nm f t
    · exact .inr hn
    · rw [fset_ne hn] at hs; exact .inl hs
theorem put_inU {U : List (List UInt8)} {v : KV} {t : Tm} (hU : ∀ s, v.S s = true → s ∈ U) (ht : nm f t ∈ U) : ∀ s, ((v.note f t).put f t).S s = true → s ∈ U := by
  intro s hs
  rw [put_S] at hs
  unfold plus at hs
  simp only [Bool.or_eq_true] at hs
  rcases hs with h | h
  · exact hU s h
  · rw [of_decide_eq_true h]; exact ht

/-- What See does. -/
def SeeSaid (f : Int → List UInt8) (P : Int → Prop) (U : List (List UInt8)) : Prop := ∀ (t : Tm) (w : World) (k : KS) (v : KV), (∀ W, Same w W (KP k) → Itoa W Small f) → KAt f P w k v → Fine P t → v.n < 400 → (∀ s, v.S s = true → s ∈ U) → nm f t ∈ U → KC f P v →
    Calls Tryz.prog 40 #[.pointer (some ⟨k.kb, 0, none⟩), t.val] w fun e w' => e = .returned (.bool true) ∧ ∃ v2, KAt f P w' k v2 ∧ Same w w' (KP k) ∧ SeeR f P U v v2 (nm f t)

end Go.Proofs.YtjodmedgkmeklaaGreat

/-
  A base of some secrets and some terms (know.New): plain part.
-/
namespace Go.Proofs.YtjodmedgkmeklaaGreat
open Go Go.RowKit Go.Maps
variable {f : Int → List UInt8} {P : Int → Prop}

theorem Cl.step {sec : Int → Bool} {A S S2 : List UInt8 → Bool} {x : List UInt8} (h1 : Cl f P sec A S) (h2 : Cl f P sec (plus S x) S2) : Cl f P sec (plus A x) S2 := by
  have key : ∀ {C : List UInt8 → Bool} {B : List UInt8 → Bool}, (∀ s, B s = true → C s = true) → C x = true → ∀ s, plus B x s = true → C s = true := fun h hx s hs => by
    unfold plus at hs
    simp only [Bool.or_eq_true] at hs
    rcases hs with h5 | h5
    · exact h s h5
    · rw [of_decide_eq_true h5]; exact hx
  refine ⟨key (fun s hs => h2.le s (plus_le _ _ _ (h1.le s hs))) (h2.le _ (plus_self _ _)), h2.closed, fun C hC hS => h2.least C hC (key (h1.least C hC (fun s hs => hS s (plus_le _ _ _ hs))) (hS _ (plus_self _ _)))⟩

/-- The names of some terms. -/
def names (f : Int → List UInt8) (l : List Tm) (s : List UInt8) : Bool := decide (s ∈ l.map (nm f))
theorem names_nil : names f [] = fun _ => false := by funext s; simp [names]
theorem names_take {l : List Tm} {j : Nat} (h : j < l.length) : names f (l.take (j + 1)) = plus (names f (l.take j)) (nm f l[j]) := by
  funext s
  unfold names plus
  rw [List.take_succ_eq_append_getElem h]
  simp only [List.map_append, List.mem_append, List.map_cons, List.map_nil, List.mem_singleton, Bool.decide_or]
theorem closed_none (sec : Int → Bool) : Closed f P sec (fun _ => false) := fun _ _ _ _ _ h => by cases h

def secs (l : List Int) (n : Int) : Bool := decide (n ∈ l)
def KV.learn (v : KV) (n : Int) : KV := { v with sec := fset v.sec n true, sn := if (v.sec n).isSome then v.sn else v.sn + 1 }
theorem mem_take_succ {l : List Int} {j : Nat} (h : j < l.length) (n : Int) : n ∈ l.take (j + 1) ↔ n ∈ l.take j ∨ n = l[j] := by
  rw [List.take_succ_eq_append_getElem h, List.mem_append, List.mem_singleton]
theorem learn_x {v : KV} {l : List Int} {j : Nat} (h : j < l.length) (hx : v.x = secs (l.take j)) : (v.learn l[j]).x = secs (l.take (j + 1)) := by
  funext n
  show ((fset v.sec l[j] true) n).getD false = _
  unfold secs
  by_cases hn : n = l[j]
  · rw [hn, fset_self]
    exact (decide_eq_true ((mem_take_succ h _).2 (.inr rfl))).symm
  · rw [fset_ne hn]
    have h5 : (v.sec n).getD false = secs (l.take j) n := congrFun hx n
    rw [h5]
    unfold secs
    exact decide_eq_decide.2 ⟨fun h6 => (mem_take_succ h _).2 (.inl h6), fun h6 => ((mem_take_succ h _).1 h6).resolve_right hn⟩
theorem learn_tr {v : KV} (h : ∀ n, v.sec n ≠ some false) (a n : Int) : (v.learn a).sec n ≠ some false := by
  show fset v.sec a true n ≠ some false
  unfold fset
  split
  · simp
  · exact h n
theorem KAt.learn {w : World} {k : KS} {v : KV} {n : Int} (h : KAt f P w k v) (hno : IntOk n) (hn : v.sn < 1000) :
    ∃ w2, (Instr.mapUpdate CI.mt (.map (some k.sb)) (CI.ek n) (CI.ev true)).run Tryz.prog w = .ok () w2 ∧ KAt f P w2 k (v.learn n) ∧ w.grownBy w2 (some k.sb) := by
  obtain ⟨w2, h1, h2, h3⟩ := h.sec.store (a := n) hno (by omega) true
  have hb : ∀ b, b < w.heap.size → b ≠ k.sb → w2.heap[b]? = w.heap[b]? := fun b hb hne => h3.block b hb (fun e => hne (Option.some.inj e))
  refine ⟨w2, h1, ⟨(hb _ (Array.getElem?_eq_some_iff.1 h.blk).1 h.kb_ne.2.2).trans h.blk, h2, h.seen.keep (hb _ h.seen.lt (Ne.symm h.ne1)), h.all.keep (hb _ h.all.lt (Ne.symm h.ne2)), h.ne1, h.ne2, h.ne3, h.named, h.few, ?_⟩, h3⟩
  show (if (v.sec n).isSome then v.sn else v.sn + 1) ≤ 1000
  split <;> omega

/-- What some cells hold. -/
def Rd (w : World) (a : Option Addr) (xs : List Value) : Prop := 0 < xs.length → ∃ g, a = some ⟨g, 0, none⟩ ∧ g < w.heap.size ∧ ∀ i u, xs[i]? = some u → w.cell? ⟨g, i, none⟩ = some u
theorem Rd.later {w w2 : World} {a : Option Addr} {xs : List Value} (h : Rd w a xs) (he : Ext w w2) : Rd w2 a xs := fun h0 => by
  obtain ⟨g, h1, h2, h3⟩ := h h0
  exact ⟨g, h1, Nat.lt_of_lt_of_le h2 he.size, fun i u hu => he.cell (h3 i u hu)⟩

/-- A base of some secrets; some of the terms were seen. -/
structure NewR (f : Int → List UInt8) (P : Int → Prop) (U : List (List UInt8)) (w w2 : World) (k : KS) (v : KV) (ns : List Int) (ts : List Tm) : Prop where
  at_ : KAt f P w2 k v
  ext : Ext w w2
  kb : w.heap.size ≤ k.kb
  nb : w.heap.size ≤ k.nb
  ab : w.heap.size ≤ k.ab
  sb : w.heap.size ≤ k.sb
  x : v.x = secs ns
  sn : v.sn ≤ ns.length
  n : v.n ≤ ts.length
  kc : KC f P v
  inU : ∀ s, v.S s = true → s ∈ U
  cl : Cl f P v.x (names f ts) v.S
theorem NewR.learn {U : List (List UInt8)} {w w2 w3 : World} {k : KS} {v : KV} {ns : List Int} {j : Nat} (hj : j < ns.length) (h : NewR f P U w w2 k v (ns.take j) []) (hS : v.S = fun _ => false) (hN : ∀ s, v.seen s = none) (hK : KAt f P w3 k (v.learn ns[j]))
    (hg : w2.grownBy w3 (some k.sb)) : NewR f P U w w3 k (v.learn ns[j]) (ns.take (j + 1)) [] := by
  have hl : (ns.take j).length = j := by simp; omega
  have hl2 : (ns.take (j + 1)).length = j + 1 := by simp; omega
  have hse : (v.learn ns[j]).S = fun _ => false := hS
  refine ⟨hK, ?_, h.kb, h.nb, h.ab, h.sb, learn_x hj h.x, ?_, h.n, ⟨fun s hs => ?_, ?_, learn_tr h.kc.tr _⟩, h.inU, ?_⟩
  · exact Same.ext h.ext (Same.of_grown (p := fun b => b ≠ k.sb) hg (fun b hb e => hb (Option.some.inj e))) (fun b hb e => by have := h.sb; omega)
  · have := h.sn
    rw [hl] at this
    rw [hl2]
    show (if (v.sec ns[j]).isSome then v.sn else v.sn + 1) ≤ j + 1
    split <;> omega
  · have h5 : (v.learn ns[j]).seen s = none := hN s
    rw [h5] at hs; cases hs
  · rw [hse]; exact closed_none _
  · rw [hse, names_nil]; exact Cl.self (closed_none _)
theorem NewR.see {U : List (List UInt8)} {w w2 w3 : World} {k : KS} {v v2 : KV} {ns : List Int} {ts : List Tm} {j : Nat} (hj : j < ts.length) (h : NewR f P U w w2 k v ns (ts.take j)) (hK : KAt f P w3 k v2) (hS : Same w2 w3 (KP k)) (hR : SeeR f P U v v2 (nm f ts[j])) :
    NewR f P U w w3 k v2 ns (ts.take (j + 1)) := by
  have hl : (ts.take j).length = j := by simp; omega
  have hl2 : (ts.take (j + 1)).length = j + 1 := by simp; omega
  have hx : v2.x = v.x := by unfold KV.x; rw [hR.sec]
  refine ⟨hK, Same.ext h.ext hS (fun b hb => ⟨by have := h.ab; omega, by have := h.nb; omega⟩), h.kb, h.nb, h.ab, h.sb, hx.trans h.x, by rw [hR.sn]; exact h.sn, ?_, hR.kc, hR.inU, ?_⟩
  · have h1 := h.n; have h2 := hR.n
    rw [hl] at h1
    rw [hl2]; omega
  · rw [hx, names_take hj]
    exact Cl.step h.cl hR.cl
theorem NewR.start {U : List (List UInt8)} {w w2 : World} {k : KS} {v : KV} (hK : KAt f P w2 k v) (hE : Ext w w2) (h1 : w.heap.size ≤ k.kb) (h2 : w.heap.size ≤ k.nb) (h3 : w.heap.size ≤ k.ab) (h4 : w.heap.size ≤ k.sb) (hv : v = ⟨fun _ => none, 0, fun _ => none, 0, fun _ => none, 0⟩) : NewR f P U w w2 k v [] [] := by
  subst hv
  refine ⟨hK, hE, h1, h2, h3, h4, ?_, Nat.le_refl _, Nat.le_refl _, ⟨fun s hs => (by cases hs), closed_none _, fun _ hs => (by cases hs)⟩, fun s hs => (by cases hs), ?_⟩
  · funext n; simp [KV.x, secs]
  · rw [names_nil]; exact Cl.self (closed_none _)

end Go.Proofs.YtjodmedgkmeklaaGreat

/-
  The handshake in symbols (package model): plain.
-/
namespace Go.Proofs.YtjodmedgkmeklaaGreat
open Go Go.RowKit

/-- A side of a handshake. -/
structure Sd where
  first : Bool
  static : Int
  fresh : Int
  step : Int
  state : Int
  peerN : Int
  hash : Tm
  mid : Tm
  sent : Int
  got : Int
  chain : Tm
  key : Tm
  n : Int
  theirs : Tm
  peer : Tm
  said : List Tm
  took : List Tm

def Sd.mix (s : Sd) (t : Tm) : Sd := { s with hash := .digest s.hash t }
def Sd.mixKey (s : Sd) (t : Tm) : Sd := { s with key := .chain 2 s.chain t, chain := .chain 1 s.chain t, n := 0 }
def Sd.seal (s : Sd) (t : Tm) : Sd × Tm :=
  if s.key = .non then (s.mix t, t) else (({ s with n := s.n + 1 } : Sd).mix (.box s.key s.n s.hash t), .box s.key s.n s.hash t)
def Sd.opens (f : Int → List UInt8) (s : Sd) (t : Tm) : Option (Sd × Tm) :=
  if s.key = .non then some (s.mix t, t) else
  match t with
  | .box k n a x => if nm f k = nm f s.key ∧ n = s.n ∧ nm f a = nm f s.hash then some (({ s with n := s.n + 1 } : Sd).mix (.box k n a x), x) else none
  | _ => none
def Sd.dh (s : Sd) (sec : Int) (h : Tm) : Sd :=
  match h with
  | .pub p => s.mixKey (.shared (min sec p) (max sec p))
  | _ => s
def Sd.ee (s : Sd) : Sd := s.dh s.fresh s.theirs
def Sd.es (s : Sd) : Sd := if s.first then s.dh s.fresh s.peer else s.dh s.static s.theirs
def Sd.se (s : Sd) : Sd := if s.first then s.dh s.static s.theirs else s.dh s.fresh s.peer
def Sd.next (s : Sd) : Sd := { s with step := s.step + 1, mid := if s.step + 1 = 2 then s.hash else s.mid, state := if s.step + 1 = 3 then 1 else s.state }
def Sd.turn (s : Sd) (speak : Bool) : Bool := decide (s.state = 0) && ((decide (s.step % 2 = 0) == s.first) == speak)
/-- What a side says next. -/
def Sd.parts (s : Sd) : Sd × List Tm :=
  if s.step = 0 then (((s.mix (.pub s.fresh)).seal .empty).1.next, [.pub s.fresh])
  else if s.step = 1 then
    let p := (s.mix (.pub s.fresh)).ee.seal (.pub s.static)
    let q := p.1.es.seal .empty
    (q.1.next, [.pub s.fresh, p.2, q.2])
  else
    let p := s.seal (.pub s.static)
    let q := p.1.se.seal .empty
    (q.1.next, [p.2, q.2])
def Sd.close (f : Int → List UInt8) (s : Sd) (t : Tm) : Option Sd :=
  match s.opens f t with
  | some (s1, x) => if nm f x = nm f .empty then some s1.next else none
  | none => none
def Sd.body (f : Int → List UInt8) (s : Sd) (b c : Tm) : Option Sd :=
  match s.opens f b with
  | some (s1, .pub p) => ((if s1.step = 1 then ({ s1 with peer := .pub p, peerN := p } : Sd).es else ({ s1 with peer := .pub p, peerN := p } : Sd).se)).close f c
  | _ => none
/-- A side hears parts: what is it then, if they are as they must be? -/
def Sd.hears (f : Int → List UInt8) (s : Sd) (l : List Tm) : Option Sd :=
  if s.step = 0 then
    match l with
    | [.pub p] => (({ s with theirs := .pub p } : Sd).mix (.pub p)).close f .empty
    | _ => none
  else if s.step = 1 then
    match l with
    | [.pub p, b, c] => (({ s with theirs := .pub p } : Sd).mix (.pub p)).ee.body f b c
    | _ => none
  else
    match l with
    | [b, c] => s.body f b c
    | _ => none
/-- The key that it sends under, and that it receives under. -/
def Sd.keys (s : Sd) : Tm × Tm := if s.first then (.chain 1 s.chain .empty, .chain 2 s.chain .empty) else (.chain 2 s.chain .empty, .chain 1 s.chain .empty)

end Go.Proofs.YtjodmedgkmeklaaGreat

/-
  Two terms compared by their names.
-/
namespace Go.Proofs.YtjodmedgkmeklaaGreat
open Go Go.RowKit
attribute [local go_sem] extUpon run_store_tm
attribute [local go_sem ↓] Tm.val_cell eval_put_ne eval_put_none eval_put_same size_put eval_const
attribute [local go_sem ↓] meth_Atom meth_Public meth_Shared meth_Chain meth_Digest meth_Box meth_Empty
attribute [local go_sem ↓] run_build_chain run_build_digest run_build_box
attribute [local go_sem] ta_Atom_Atom ta_Public_Atom ta_Shared_Atom ta_Chain_Atom ta_Digest_Atom ta_Box_Atom ta_Empty_Atom ta_Nil_Atom ta_Atom_Public ta_Public_Public ta_Shared_Public ta_Chain_Public ta_Digest_Public ta_Box_Public ta_Empty_Public ta_Nil_Public ta_Atom_Shared ta_Public_Shared ta_Shared_Shared ta_Chain_Shared ta_Digest_Shared ta_Box_Shared ta_Empty_Shared ta_Nil_Shared ta_Atom_Chain ta_Public_Chain ta_Shared_Chain ta_Chain_Chain ta_Digest_Chain ta_Box_Chain ta_Empty_Chain ta_Nil_Chain ta_Atom_Digest ta_Public_Digest ta_Shared_Digest ta_Chain_Digest ta_Digest_Digest ta_Box_Digest ta_Empty_Digest ta_Nil_Digest ta_Atom_Box ta_Public_Box ta_Shared_Box ta_Chain_Box ta_Digest_Box ta_Box_Box ta_Empty_Box ta_Nil_Box ta_Atom_Empty ta_Public_Empty ta_Shared_Empty ta_Chain_Empty ta_Digest_Empty ta_Box_Empty ta_Empty_Empty ta_Nil_Empty
variable {R : Int → Prop} {f : Int → List UInt8}

theorem same_any (x y : Tm) (w : World) (hI : Itoa w R f) (hx : x.all R) (hy : y.all R) (sx : sz x ≤ 10000) (sy : sz y ≤ 10000) :
    Calls Tryz.prog 15 #[x.val, y.val] w fun e w' => e = .returned (.bool (decide (nm f x = nm f y))) ∧ Ext w w' := by
  have H1 := hid (name_any (f := f) (R := R) trivial x w hI hx sx)
  have H2 := hid (fun w' h' => name_any (f := f) (R := R) trivial y w' (hI.later h') hy sy)
  clear hI
  go_enter Tryz.func15, Tryz.ntmps15
  go_wp2_with fail
  refine H1.out.mono ?_
  rintro e w1 ⟨rfl, hE1⟩
  go_wp2_with fail
  refine (H2.out w1 hE1).mono ?_
  rintro e w2 ⟨rfl, hE2⟩
  go_wp2_with fail
  go_ret
  exact ⟨by simp; exact Bool.eq_iff_iff.2 (by simp), hE1.trans hE2⟩

end Go.Proofs.YtjodmedgkmeklaaGreat

/-
  Stores in a region that draws its order.
-/
namespace Go.Proofs.YtjodmedgkmeklaaGreat
open Go Go.RowKit

theorem reg_hide {P : Program} {md : Region.Mode} {Q : Exit → Act → World → Prop} {E fuel : Nat} {ops : Array Oper} {listed : Array Bool} {a : Act} {w : World}
    (h : ∀ Q2 : Exit → Act → World → Prop, Hid (Q2 = Q) → wpAnyU P md ops (calm Q2) E fuel listed a w) : wpAnyU P md ops (calm Q) E fuel listed a w := h Q (hid rfl)
section
variable {P : Program} {Q : Exit → Act → World → Prop} {md : Region.Mode}
theorem run_storeAt_one {t : TypeId} (hi : (P.info? t).map (·.size) = some 1) {p : Addr} {u : Value} (hu : u.cells = #[u]) (h1 : u.oneCell' = true) {w : World} {v : Value} (hc : w.cell? p = some v) (hf : w.frozen? p = false) :
    (Instr.storeAt t (.pointer (some p)) u).run P w = .ok () (w.setCell p u) := by
  obtain ⟨i, hi1, hi2⟩ := Option.map_eq_some_iff.1 hi
  have hadd : p.add 0 = p := by unfold Addr.add; split <;> simp_all
  simp [Instr.storeAt, Instr.sureAddr, storeVar, sizeOf, typeInfo, hi1, hi2, hu, storeCells, run_store P w p u _ h1, hc, hf, hadd, Sem.run_bind, Result.andThen]
/-- The store that is ready. -/
theorem reg_store {E fuel : Nat} {l tl : List Oper} {oi : Oper} {listed : Array Bool} {a : Act} {w : World} (i : Nat) {x y : Operand} {t : TypeId} (p : Addr) (u : Value)
    (hi : l.drop i = oi :: tl) (hr : (Region.ready md l.toArray listed == [i]) = true) (hw : Region.wanted oi (yielded l.toArray a.tmps) = true) (ho : oi.op = .store t x y) (hE : E ≤ i)
    (hx : a.eval x = .pointer (some p)) (hy : a.eval y = u) (hz : (P.info? t).map (·.size) = some 1) (hu : u.cells = #[u]) (h1 : u.oneCell' = true)
    (hc : ∀ w', Ext w w' → (∃ v, w'.cell? p = some v) ∧ w'.frozen? p = false)
    (h : ∀ w', Ext w w' → wpAnyU P md l.toArray (calm Q) E fuel (listed.setIfInBounds i true) (a.put oi.dst undef) (w'.setCell p u)) :
    wpAnyU P md l.toArray (calm Q) E (fuel + 1) listed a w :=
  reg_one i hi hr hw fun w' hw' => by
    obtain ⟨⟨v, hv⟩, hf⟩ := hc w' hw'
    unfold Oper.wp execOp
    simp only [ho, hx, hy, Sem.run_bind, run_storeAt_one hz hu h1 hv hf, Result.andThen_ok]
    exact ⟨fun hlt => absurd hlt (by omega), h w' hw'⟩
end

end Go.Proofs.YtjodmedgkmeklaaGreat

/-
  A side in memory.
-/
namespace Go.Proofs.YtjodmedgkmeklaaGreat
open Go Go.RowKit Go.Maps
attribute [local go_sem] extUpon run_store_tm
attribute [local go_sem ↓] Tm.val_cell eval_put_ne eval_put_none eval_put_same size_put eval_const
attribute [local go_sem ↓] meth_Atom meth_Public meth_Shared meth_Chain meth_Digest meth_Box meth_Empty
attribute [local go_sem ↓] run_build_chain run_build_digest run_build_box
attribute [local go_sem] ta_Atom_Atom ta_Public_Atom ta_Shared_Atom ta_Chain_Atom ta_Digest_Atom ta_Box_Atom ta_Empty_Atom ta_Nil_Atom ta_Atom_Public ta_Public_Public ta_Shared_Public ta_Chain_Public ta_Digest_Public ta_Box_Public ta_Empty_Public ta_Nil_Public ta_Atom_Shared ta_Public_Shared ta_Shared_Shared ta_Chain_Shared ta_Digest_Shared ta_Box_Shared ta_Empty_Shared ta_Nil_Shared ta_Atom_Chain ta_Public_Chain ta_Shared_Chain ta_Chain_Chain ta_Digest_Chain ta_Box_Chain ta_Empty_Chain ta_Nil_Chain ta_Atom_Digest ta_Public_Digest ta_Shared_Digest ta_Chain_Digest ta_Digest_Digest ta_Box_Digest ta_Empty_Digest ta_Nil_Digest ta_Atom_Box ta_Public_Box ta_Shared_Box ta_Chain_Box ta_Digest_Box ta_Box_Box ta_Empty_Box ta_Nil_Box ta_Atom_Empty ta_Public_Empty ta_Shared_Empty ta_Chain_Empty ta_Digest_Empty ta_Box_Empty ta_Empty_Empty ta_Nil_Empty

abbrev ptr (b : Nat) : Value := .pointer (some ⟨b, 0, none⟩)
def Sd.cells (s : Sd) (vs va : Value) : Array Value :=
  #[.bool s.first, .int .i64 s.static, .int .i64 s.fresh, .int .i64 s.step, .int .i64 s.state, .int .i64 s.peerN, s.hash.val, s.mid.val, .int .i64 s.sent, .int .i64 s.got, s.chain.val, s.key.val, .int .i64 s.n, s.theirs.val, s.peer.val, vs, va]
/-- A side: its block; the rows of what it said and took. -/
structure SdAt (w : World) (b : Nat) (s : Sd) (vs va : Value) : Prop where
  blk : w.heap[b]? = some (.cells (s.cells vs va) 67 (0, 0))
variable {w w2 : World} {b : Nat} {s : Sd} {vs va : Value}
theorem SdAt.later (h : SdAt w b s vs va) (he : Ext w w2) : SdAt w2 b s vs va := ⟨he.blk h.blk⟩
theorem SdAt.keep (h : SdAt w b s vs va) (he : w2.heap[b]? = w.heap[b]?) : SdAt w2 b s vs va := ⟨he.trans h.blk⟩
theorem SdAt.lt (h : SdAt w b s vs va) : b < w.heap.size := (Array.getElem?_eq_some_iff.1 h.blk).1
theorem SdAt.cell (h : SdAt w b s vs va) {j : Nat} {u : Value} (hu : (s.cells vs va)[j]? = some u) : w.cell? ⟨b, j, none⟩ = some u := cell_blk h.blk hu
theorem SdAt.free (h : SdAt w b s vs va) (j : Nat) : w.frozen? ⟨b, j, none⟩ = false := by simp [World.frozen?, h.blk]
theorem SdAt.put (h : SdAt w b s vs va) {s2 : Sd} {vs2 va2 : Value} (j : Nat) (u : Value) (hu : (s.cells vs va).setIfInBounds j u = s2.cells vs2 va2) : SdAt (w.setCell ⟨b, j, none⟩ u) b s2 vs2 va2 :=
  ⟨by simp only [World.setCell, Array.getElem?_modify, h.blk, if_true, Option.map_some, hu]; rfl⟩
theorem same_set (w : World) (b j : Nat) (u : Value) : Same w (w.setCell ⟨b, j, none⟩ u) (fun k => k ≠ b) :=
  ⟨rfl, rfl, rfl, by simp [World.setCell], fun k _ hk => Below.heap_setCell w ⟨b, j, none⟩ u k hk⟩

theorem SdAt.sets (h : SdAt w b s vs va) {s2 : Sd} {vs2 va2 : Value} (j : Nat) (u : Value) (hu : (s.cells vs va).setIfInBounds j u = s2.cells vs2 va2) : SdAt (w.setCell ⟨b, j, none⟩ u) b s2 vs2 va2 ∧ Same w (w.setCell ⟨b, j, none⟩ u) (fun k => k ≠ b) :=
  ⟨h.put j u hu, same_set w b j u⟩
/-- A term that is there, as a value. -/
structure Va (t : Tm) (u : TypeId) (d : Value) : Prop where
  eq : t.val = .iface u d
theorem Va.of {t : Tm} (h : t ≠ .non) : ∃ u d, Va t u d := by
  cases t <;> first | exact (h rfl).elim | exact ⟨_, _, ⟨rfl⟩⟩

set_option maxHeartbeats 1000000 in
set_option maxRecDepth 100000 in
theorem mixHash_any {t : Tm} {u : TypeId} {d : Value} (ht : Va t u d) (hh : s.hash ≠ .non) (h : SdAt w b s vs va) :
    Calls Tryz.prog 62 #[ptr b, .iface u d] w fun e w' => (∃ x, e = .returned x) ∧ SdAt w' b (s.mix t) vs va ∧ Same w w' (fun k => k ≠ b) := by
  obtain ⟨hu, hd, h6⟩ := Va.of hh
  have c6 : w.cell? ⟨b, 6, none⟩ = some (.iface hu hd) := h6.eq ▸ h.cell rfl
  have f6 := h.free 6
  have HP := hid (h.sets (s2 := s.mix t) (vs2 := vs) (va2 := va) 6 (.iface 88 (.agg #[.iface hu hd, .iface u d])) (by simp [Sd.cells, Sd.mix, Tm.val, h6.eq, ht.eq]))
  clear h h6 ht hh
  go_enter Tryz.func62, Tryz.ntmps62
  go_wp2_with fail
  go_end0
  exact ⟨⟨_, rfl⟩, HP.out⟩

end Go.Proofs.YtjodmedgkmeklaaGreat
