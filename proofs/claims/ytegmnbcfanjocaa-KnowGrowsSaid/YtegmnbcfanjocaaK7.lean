/-
  A round over all boxes (know.round).
-/
import Derived.Test.YtegmnbcfanjocaaK6
import Derived.Deep.DeepCutAuto
import Derived.Deep.Cut
import Derived.Deep.CutRange
import Derived.Deep.CutBlock
namespace Go.Proofs.Ytegmnbcfanjocaa
open Go Go.RowKit Go.Maps
attribute [local go_sem] extUpon run_store_tm
attribute [local go_sem ↓] Tm.val_cell eval_put_ne eval_put_none eval_put_same size_put eval_const
variable {f : Int → List UInt8} {P : Int → Prop}

def KP (k : KS) (b : Nat) : Prop := b ≠ k.ab ∧ b ≠ k.nb
def Univ (f : Int → List UInt8) (P : Int → Prop) (U : List (List UInt8)) : Prop := ∀ k n a t, Fine P (.box k n a t) → nm f (.box k n a t) ∈ U → nm f a ∈ U ∧ nm f t ∈ U
theorem ta_box (k : Tm) (n : Int) (a x : Tm) (w : World) : (Instr.typeAssert (Tm.box k n a x).val 32 39 true).run Try.prog w = .ok (.tuple #[.agg #[k.val, .int .i64 n, a.val, x.val], .bool true]) w := ta_Box_Box _ _
theorem ta_nobox (t : Tm) (ht : t ≠ .non) (hb : ∀ k n a x, t ≠ .box k n a x) (w : World) :
    (Instr.typeAssert t.val 32 39 true).run Try.prog w = .ok (.tuple #[.agg #[.nilIface, .int .i64 0, .nilIface, .nilIface], .bool false]) w := by
  cases t with
  | non => exact absurd rfl ht
  | atom n => exact ta_Atom_Box _ _
  | pub n => exact ta_Public_Box _ _
  | shared a b => exact ta_Shared_Box _ _
  | empty => exact ta_Empty_Box _ _
  | digest x y => exact ta_Digest_Box _ _
  | chain i x y => exact ta_Chain_Box _ _
  | box k n x y => exact absurd rfl (hb k n x y)
theorem row_cells {w : World} {B : Nat} {e : TypeId} {v : Value} {n : Nat} {xs : List Value} (h : w.ownsRow B e 1 v n xs) :
    ∃ a cap, v = .slice a n cap ∧ (0 < n → ∃ g, a = some ⟨g, 0, none⟩ ∧ B ≤ g ∧ g < w.heap.size ∧ ∀ i u, xs[i]? = some u → w.cell? ⟨g, i, none⟩ = some u) := by
  rcases h.2 with ⟨rfl, rfl⟩ | ⟨g, cap, cur, rfl, hB, hh, hn, hc, hs, ht⟩
  · exact ⟨none, 0, rfl, fun h => by omega⟩
  · refine ⟨_, _, rfl, fun _ => ⟨g, rfl, hB, (Array.getElem?_eq_some_iff.1 hh).1, fun i u hu => cell_blk hh ?_⟩⟩
    subst ht
    rw [List.getElem?_take] at hu
    split at hu
    · simpa using hu
    · cases hu
theorem KAt.few_m {w : World} {k : KS} {v : KV} {U : List (List UInt8)} (h : KAt f P w k v) (hU : ∀ s, v.S s = true → s ∈ U) (hl : U.length ≤ 80000) : v.m < 90000 := by
  have := h.all.card U (fun s x hs => hU s (by unfold KV.S; rw [hs]; rfl))
  omega
theorem KAt.get {w : World} {k : KS} {v : KV} {s : List UInt8} {t : Tm} (h : KAt f P w k v) (hs : v.all s = some t) :
    (Instr.lookup 67 (.map (some k.ab)) (str s) false).run Try.prog w = .ok t.val w := by
  have h5 := h.all.get (a := s) (h.all.dom hs)
  rw [hs] at h5
  exact h5

set_option maxHeartbeats 4000000 in
set_option maxRecDepth 100000 in
theorem round_any (N : Nums f P) (U : List (List UInt8)) (hUl : U.length ≤ 80000) (hUn : Univ f P U) (w : World) (k : KS) (v : KV) (hI : ∀ W, Same w W (KP k) → Itoa W Small f) (hK : KAt f P w k v) (hvU : ∀ s, v.S s = true → s ∈ U) :
    Calls Try.prog 35 #[.pointer (some ⟨k.kb, 0, none⟩)] w fun e w' => ∃ v2, e = .returned (.bool (decide (v.m < v2.m))) ∧ KAt f P w' k v2 ∧ Same w w' (KP k) ∧ ∃ ss, RInv f P U v v2 ss ss.length ∧ ∀ s, v.S s = true → s ∈ ss := by
  have hm := hK.few_m hvU hUl
  have hkey := keys_any hK.all (by omega)
  have HK1 := hid hkey.1
  have HK2 := hid hkey.2
  have HI := hid hI
  have HK := hid hK
  have HVU := hid hvU
  have HUN := hid hUn
  have q2 := cell_blk (j := 2) hK.blk rfl
  have hln := hK.all.len 3
  have hab := hK.all.lt
  have hnb := hK.seen.lt
  change (Builtin.len_ #[67] 3 #[.map (some k.ab)]).run Try.prog w = _ at hln
  clear hkey hI hK hvU hUn
  go_enter Try.func35, Try.ntmps35
  go_wp2_with fail
  refine HK1.out.mono ?_
  rintro e w1 ⟨rfl, rfl⟩
  go_wp2_with fail
  refine HK2.out.mono ?_
  rintro e w2 ⟨vv, ss, rfl, hss, hrow, hE2, hsn⟩
  obtain ⟨ra, rcap, rfl, hcells⟩ := row_cells hrow
  have hE := (Ext.alloc w (.cells #[.map (some k.ab)] 67 (0, 0))).trans hE2
  have HSS := hid hss
  have HCE := hid hcells
  replace HK := hid (HK.out.later hE)
  have HS2 : Hid (Same w w2 (KP k)) := hid (Same.of_ext hE)
  have hw2 := hE.size
  have hw3 := hE2.size
  clear hss hrow hcells hE hE2 q2 hln HK1 HK2
  have HR : Hid (RInv f P U v v ss 0) := hid (RInv.start HVU.out)
  clear HVU
  go_wp2_with fail
  go_loopw [20] (fun iv wr => ∃ (j : Nat) (v2 : KV), iv = .int .i64 j ∧ j ≤ ss.length ∧ Hid (KAt f P wr k v2) ∧ Hid (Same w2 wr (KP k)) ∧ Hid (RInv f P U v v2 ss j)) (fun iv _ => ss.length - (intOf iv).toNat)
  case atStart => exact ⟨0, v, rfl, by omega, HK, hid (Same.refl _ _), HR⟩
  case round =>
    clear HK HR
    obtain ⟨j, v2, rfl, hj, HK, HS, HR⟩ := hrel
    by_cases hlt : j < ss.length
    · have hlt2 : (j : Int) < (ss.length : Int) := by omega
      obtain ⟨g, rfl, hg1, hg2, hgc⟩ := HCE.out (by omega)
      have q0 := HS.out.cell (b := g) (by omega) ⟨by omega, by omega⟩ (hgc j (str ss[j]) (by simp [hlt]))
      clear hgc
      obtain ⟨t, ht⟩ : ∃ t, v2.all ss[j] = some t := by
        have h5 : v.S ss[j] = true := by
          unfold KV.S
          have := (HSS.out ss[j]).1 (List.getElem_mem hlt)
          cases hx : v.all ss[j] with
          | none => exact absurd hx this
          | some _ => rfl
        have h6 := HR.out.le _ h5
        unfold KV.S at h6
        cases hx : v2.all ss[j] with
        | none => rw [hx] at h6; cases h6
        | some t => exact ⟨t, rfl⟩
      obtain ⟨hnt, hF⟩ := HK.out.named _ _ ht
      have hget := HK.out.get ht
      have hS2 : v2.S ss[j] = true := by unfold KV.S; rw [ht]; rfl
      have hjU := HR.out.inU _ hS2
      have HJU := hid hjU
      have HS3 := hid hS2
      clear ht hjU hS2
      have HNT := hid hnt
      clear hnt
      generalize hsj : ss[j] = sj at q0 hget HJU HS3
      have HSJ := hid hsj
      clear hsj
      have q2 := cell_blk (j := 2) HK.out.blk rfl
      have habr := HK.out.all.lt
      have hnbr := HK.out.seen.lt
      by_cases hb : ∃ kk n a x, t = .box kk n a x
      · obtain ⟨kk, n, a, x, rfl⟩ := hb
        obtain ⟨fk, fa, fx⟩ := hF.box
        have hta := ta_box kk n a x wr
        have HF := hid hF
        clear hF
        generalize Tm.val (.box kk n a x) = bv at hget hta
        have hbn := blk_new wr (.cells #[kk.val, .int .i64 n, a.val, x.val] 39 (0, 0))
        go_upto_region 7 with fail
        have hE3 : Ext wr (wr.alloc (.cells #[kk.val, .int .i64 n, a.val, x.val] 39 (0, 0))) := Ext.alloc _ _
        replace HK := hid (HK.out.later hE3)
        replace HS := hid (HS.out.trans (Same.of_ext hE3))
        have hbl := (Array.getElem?_eq_some_iff.1 hbn).1
        have hkp : KP k wr.heap.size := ⟨by omega, by omega⟩
        have HSZ := hid hE3.size
        have HB0 := hid (cell_blk (j := 0) hbn rfl)
        have HB3 := hid (cell_blk (j := 3) hbn rfl)
        have b2 := cell_blk (j := 2) hbn rfl
        clear hE3 q2 q0 hget hta hbn habr hnbr
        generalize World.alloc wr _ = W3 at *
        generalize wr.heap.size = bb at *
        have hfew := HK.out.few_m HR.out.inU hUl
        have hI3 := HI.out _ (HS2.out.trans HS.out)
        go_wp2_with fail
        refine (out_any N.small a W3 k v2 hI3 HK.out fa hfew).mono ?_
        rintro e W4 ⟨⟨o, rfl⟩, hK4, hS4⟩
        replace hS4 : Same W3 W4 (KP k) := hS4.mono (fun b hb => hb.1)
        have HR1 := hid (HR.out.put a (fun C hC hS => (hC kk n a x HF.out (by rw [HNT.out, HSJ.out]; exact HR.out.sound C hC hS _ HS3.out)).1) (HUN.out kk n a x HF.out (by rw [HNT.out, HSJ.out]; exact HJU.out)).1)
        have HR0 := HR
        have b0 := hS4.cell hbl hkp HB0.out
        have HB4 := hid (hS4.cell hbl hkp HB3.out)
        have hbl4 : bb < W4.heap.size := Nat.lt_of_lt_of_le hbl hS4.2.2.2.1
        have HK4 := hid hK4
        replace HS := hid (HS.out.trans hS4)
        clear b2 hK4 hS4 HK HR HB0 HB3 hI3 hfew
        have hI4 := HI.out _ (HS2.out.trans HS.out)
        have hsk : sz kk ≤ 10000 := by have := fk.size; omega
        go_wp2_with fail
        refine (can_any kk W4 k (v2.put f a) hI4 HK4.out (fk.ok.all N.small) hsk).mono ?_
        rintro e W5 ⟨rfl, hE5⟩
        have hx2 : (v2.put f a).x = v.x := HR1.out.x_eq
        rw [hx2]
        clear hx2
        have HA := hid (show (v2.put f a).S (nm f a) = true by rw [put_S]; exact plus_self _ _)
        replace HK4 := hid (HK4.out.later hE5)
        replace HS := hid (HS.out.trans (Same.of_ext hE5))
        have b3 := hE5.cell HB4.out
        clear hE5 hI4 b0 HB4
        cases hc : can f v.x (v2.put f a).S kk
        · have HR3 := hid (HR1.out.shut hlt HNT.out HF.out HA.out hc)
          clear hc b3
          go_wp2_with fail
          go_roundw
          case rel => exact ⟨j + 1, v2.put f a, by go_num, by omega, HK4, HS, HR3⟩
          case measure => simp [intOf]; omega
        · have hfew5 := HK4.out.few_m HR1.out.inU hUl
          have hI5 := HI.out _ (HS2.out.trans HS.out)
          have HRX := hid (HR1.out.put x (fun C hC hS => (hC kk n a x HF.out (by rw [HNT.out, HSJ.out]; exact HR0.out.sound C hC hS _ HS3.out)).2 (can_mono (fun _ h => h) (HR1.out.sound C hC hS) kk hc)) (HUN.out kk n a x HF.out (by rw [HNT.out, HSJ.out]; exact HJU.out)).2)
          have HX1 := hid (show ((v2.put f a).put f x).S (nm f a) = true by rw [put_S]; exact plus_le _ _ _ HA.out)
          have HX2 := hid (show ((v2.put f a).put f x).S (nm f x) = true by rw [put_S]; exact plus_self _ _)
          have HR3 := hid (HRX.out.opened hlt HNT.out HF.out HX1.out HX2.out)
          clear hc
          go_wp2_with fail
          refine (out_any N.small x W5 k (v2.put f a) hI5 HK4.out fx hfew5).mono ?_
          rintro e W6 ⟨⟨o2, rfl⟩, hK6, hS6⟩
          replace hS6 : Same W5 W6 (KP k) := hS6.mono (fun b hb => hb.1)
          have HK6 := hid hK6
          replace HS := hid (HS.out.trans hS6)
          clear hK6 hS6 b3 hI5 hfew5
          go_wp2_with fail
          go_roundw
          case rel => exact ⟨j + 1, (v2.put f a).put f x, by go_num, by omega, HK6, HS, HR3⟩
          case measure => simp [intOf]; omega
      · have hta := ta_nobox t hF.ok.ne (fun kk n a x e => hb ⟨kk, n, a, x, e⟩) wr
        have HR2 := hid (HR.out.plain hlt HNT.out hF (fun kk n a x e => hb ⟨kk, n, a, x, e⟩))
        clear hb hF
        generalize t.val = tv at hget hta
        go_wp2_with fail
        go_roundw
        case rel => exact ⟨j + 1, v2, by go_num, by omega, hid (HK.out.later (Ext.alloc _ _)), hid (HS.out.trans (Same.of_ext (Ext.alloc _ _))), HR2⟩
        case measure => simp [intOf]; omega
    · have hlt2 : ¬ (j : Int) < (ss.length : Int) := by omega
      obtain rfl : j = ss.length := by omega
      have q2 := cell_blk (j := 2) HK.out.blk rfl
      have hln := HK.out.all.len 3
      change (Builtin.len_ #[67] 3 #[.map (some k.ab)]).run Try.prog wr = _ at hln
      go_wp2_with fail
      go_ret
      exact ⟨v2, rfl, HK.out, HS2.out.trans HS.out, ss, HR.out, fun s hs => (HSS.out s).2 (by unfold KV.S at hs; intro e; rw [e] at hs; cases hs)⟩

end Go.Proofs.Ytegmnbcfanjocaa
