/-
  A base of some secrets and some terms (know.New).
-/
import Derived.Test.YtegmnbcfanjocaaK10
import Derived.Deep.DeepCutAuto
import Derived.Deep.Cut
import Derived.Deep.CutRange
import Derived.Deep.CutBlock
namespace Go.Proofs.Ytegmnbcfanjocaa
open Go Go.RowKit Go.Maps
attribute [local go_sem] extUpon run_store_tm
attribute [local go_sem ↓] Tm.val_cell eval_put_ne eval_put_none eval_put_same size_put eval_const
variable {f : Int → List UInt8} {P : Int → Prop}

def kv0 : KV := ⟨fun _ => none, 0, fun _ => none, 0, fun _ => none, 0⟩
theorem KAt.made (w : World) : KAt f P ((((w.alloc (.map #[] 0)).alloc (.map #[] 0)).alloc (.map #[] 0)).alloc (.cells #[.map (some w.heap.size), .map (some (w.heap.size + 1)), .map (some (w.heap.size + 2))] 69 (0, 0))) ⟨w.heap.size + 3, w.heap.size, w.heap.size + 1, w.heap.size + 2⟩ kv0 := by
  have s1 : (w.alloc (.map #[] 0)).heap.size = w.heap.size + 1 := by simp
  have s2 : ((w.alloc (.map #[] 0)).alloc (.map #[] 0)).heap.size = w.heap.size + 2 := by simp
  have s3 : (((w.alloc (.map #[] 0)).alloc (.map #[] 0)).alloc (.map #[] 0)).heap.size = w.heap.size + 3 := by simp
  have m1 := MapG.made CI w
  have m2 := MapG.made CS (w.alloc (.map #[] 0))
  have m3 := MapG.made CS ((w.alloc (.map #[] 0)).alloc (.map #[] 0))
  have hb := blk_new (((w.alloc (.map #[] 0)).alloc (.map #[] 0)).alloc (.map #[] 0)) (.cells #[.map (some w.heap.size), .map (some (w.heap.size + 1)), .map (some (w.heap.size + 2))] 69 (0, 0))
  rw [s1] at m2
  rw [s2] at m3
  rw [s3] at hb
  exact ⟨hb, ((m1.later (Ext.alloc _ _)).later (Ext.alloc _ _)).later (Ext.alloc _ _), (m2.later (Ext.alloc _ _)).later (Ext.alloc _ _), m3.later (Ext.alloc _ _), (by show w.heap.size ≠ w.heap.size + 1; omega), (by show w.heap.size ≠ w.heap.size + 2; omega), (by show w.heap.size + 1 ≠ w.heap.size + 2; omega), fun s t h => (by cases h), (by show 0 ≤ 400; omega), (by show 0 ≤ 1000; omega)⟩

set_option maxHeartbeats 8000000 in
set_option maxRecDepth 100000 in
theorem new_any (U : List (List UInt8)) (hsee : SeeSaid f P U) (w : World) (ns : List Int) (ts : List Tm) (a1 a2 : Option Addr) (c1 c2 : Nat) (hI : Itoa w Small f)
    (hr1 : Rd w a1 (ns.map fun n => .int .i64 n)) (hr2 : Rd w a2 (ts.map Tm.val)) (hn : ∀ n ∈ ns, IntOk n) (hnl : ns.length ≤ 100) (ht : ∀ t ∈ ts, Fine P t ∧ nm f t ∈ U) (htl : ts.length ≤ 300) :
    Calls Try.prog 11 #[.slice a1 ns.length c1, .slice a2 ts.length c2] w fun e w' => ∃ k v, e = .returned (.pointer (some ⟨k.kb, 0, none⟩)) ∧ NewR f P U w w' k v ns ts := by
  have HI := hid hI
  have HR1 := hid hr1
  have HR2 := hid hr2
  have HN := hid hn
  have HT := hid ht
  have hK0 := KAt.made (f := f) (P := P) w
  have hE0 : Ext w ((((w.alloc (.map #[] 0)).alloc (.map #[] 0)).alloc (.map #[] 0)).alloc (.cells #[.map (some w.heap.size), .map (some (w.heap.size + 1)), .map (some (w.heap.size + 2))] 69 (0, 0))) :=
    (((Ext.alloc _ _).trans (Ext.alloc _ _)).trans (Ext.alloc _ _)).trans (Ext.alloc _ _)
  have HS0 : Hid (NewR f P U w _ _ kv0 [] []) := hid (NewR.start hK0 hE0 (by show w.heap.size ≤ w.heap.size + 3; omega) (by show w.heap.size ≤ w.heap.size + 1; omega) (by show w.heap.size ≤ w.heap.size + 2; omega) (Nat.le_refl _) rfl)
  have hs1 : (w.alloc (.map #[] 0)).heap.size = w.heap.size + 1 := by simp
  have hs2 : ((w.alloc (.map #[] 0)).alloc (.map #[] 0)).heap.size = w.heap.size + 2 := by simp
  have hs3 : (((w.alloc (.map #[] 0)).alloc (.map #[] 0)).alloc (.map #[] 0)).heap.size = w.heap.size + 3 := by simp
  clear hI hr1 hr2 hn ht hK0 hE0
  have hmm := @run_makeMap Try.prog
  go_enter Try.func11, Try.ntmps11
  go_upto_region 2 with fail
  generalize hk : (⟨w.heap.size + 3, w.heap.size, w.heap.size + 1, w.heap.size + 2⟩ : KS) = k at *
  have hkb : w.heap.size + 3 = k.kb := by rw [← hk]
  generalize World.alloc (((w.alloc (.map #[] 0)).alloc (.map #[] 0)).alloc (.map #[] 0)) _ = W0 at *
  clear hk
  go_wp2_with fail
  clear hmm
  go_loopw [17] (fun iv wr => ∃ (j : Nat) (v : KV), iv = .int .i64 j ∧ j ≤ ns.length ∧ Hid (NewR f P U w wr k v (ns.take j) []) ∧ Hid (v.S = fun _ => false) ∧ Hid (∀ s, v.seen s = none)) (fun iv _ => ns.length - (intOf iv).toNat)
  case atStart => exact ⟨0, kv0, rfl, by omega, HS0, hid rfl, hid (fun _ => rfl)⟩
  case round =>
    clear HS0
    obtain ⟨j, v, rfl, hj, HA, HS, HZ⟩ := hrel
    by_cases hlt : j < ns.length
    · have hlt2 : (j : Int) < (ns.length : Int) := by omega
      obtain ⟨g, rfl, hg, hc⟩ := HR1.out (by simp; omega)
      have q0 := HA.out.ext.cell (hc j (.int .i64 ns[j]) (by simp [hlt]))
      have q1 := cell_blk (j := 0) HA.out.at_.blk rfl
      have hno := HN.out ns[j] (List.getElem_mem hlt)
      have hsn : v.sn < 1000 := by have := HA.out.sn; simp at this; omega
      obtain ⟨w2, hrun, hK2, hg2⟩ := HA.out.at_.learn hno hsn
      change (Instr.mapUpdate 66 (.map (some k.sb)) (.int .i64 ns[j]) (.bool true)).run Try.prog wr = _ at hrun
      have HA2 := hid (NewR.learn hlt HA.out HS.out HZ.out hK2 hg2)
      have HS2 : Hid ((v.learn ns[j]).S = fun _ => false) := hid HS.out
      have HZ2 : Hid (∀ s, (v.learn ns[j]).seen s = none) := hid HZ.out
      clear hc hno hsn hK2 hg2
      generalize ns[j] = x at *
      go_wp2_with fail
      go_roundw
      case rel => exact ⟨j + 1, _, by go_num, by omega, HA2, HS2, HZ2⟩
      case measure => simp [intOf]; omega
    · have hlt2 : ¬ (j : Int) < (ns.length : Int) := by omega
      obtain rfl : j = ns.length := by omega
      have HB0 : Hid (NewR f P U w wr k v ns (ts.take 0)) := hid (by have := HA.out; rwa [List.take_length] at this)
      clear HA HS HZ
      go_wp2_with fail
      go_loopw [29] (fun iv wr => ∃ (j : Nat) (v : KV), iv = .int .i64 j ∧ j ≤ ts.length ∧ Hid (NewR f P U w wr k v ns (ts.take j))) (fun iv _ => ts.length - (intOf iv).toNat)
      case atStart => exact ⟨0, v, rfl, by omega, HB0⟩
      case round =>
        clear HB0
        obtain ⟨j, v, rfl, hj, HB⟩ := hrel
        by_cases hlt : j < ts.length
        · have hlt2 : (j : Int) < (ts.length : Int) := by omega
          obtain ⟨g, rfl, hg, hc⟩ := HR2.out (by simp; omega)
          have q0 := HB.out.ext.cell (hc j ts[j].val (by simp [hlt]))
          have hn4 : v.n < 400 := by have := HB.out.n; simp at this; omega
          have htj := HT.out ts[j] (List.getElem_mem hlt)
          have HC := hid (hsee ts[j] wr k v (fun W hW => HI.out.later (Same.ext HB.out.ext hW (fun b hb => ⟨by have := HB.out.ab; omega, by have := HB.out.nb; omega⟩))) HB.out.at_ htj.1 hn4 HB.out.inU htj.2 HB.out.kc)
          have HNX : Hid (∀ v2 W, KAt f P W k v2 → Same wr W (KP k) → SeeR f P U v v2 (nm f ts[j]) → NewR f P U w W k v2 ns (ts.take (j + 1))) := hid (fun v2 W h1 h2 h3 => NewR.see hlt HB.out h1 h2 h3)
          clear hc hn4 htj
          generalize ts[j] = x at *
          go_wp2_with fail
          refine HC.out.mono ?_
          rintro e w2 ⟨rfl, v2, h1, h2, h3⟩
          have HX := hid (HNX.out v2 w2 h1 h2 h3)
          clear h1 h2 h3 q0 HC
          go_wp2_with fail
          go_roundw
          case rel => exact ⟨j + 1, v2, by go_num, by omega, HX⟩
          case measure => simp [intOf]; omega
        · have hlt2 : ¬ (j : Int) < (ts.length : Int) := by omega
          obtain rfl : j = ts.length := by omega
          have HX : Hid (NewR f P U w wr k v ns ts) := hid (by have := HB.out; rwa [List.take_length] at this)
          clear HB
          go_wp2_with fail
          go_ret
          exact ⟨k, rfl, v, HX.out⟩

end Go.Proofs.Ytegmnbcfanjocaa
