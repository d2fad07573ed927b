/-
  Rounds till nothing new comes out (know.close).
-/
import Derived.Test.YtegmnbcfanjocaaK7
namespace Go.Proofs.Ytegmnbcfanjocaa
open Go Go.RowKit Go.Maps
attribute [local go_sem] extUpon run_store_tm
attribute [local go_sem ↓] Tm.val_cell eval_put_ne eval_put_none eval_put_same size_put eval_const
variable {f : Int → List UInt8} {P : Int → Prop}

def mapSize (w : World) (b : Nat) : Nat :=
  match w.heap[b]? with
  | some (.map es _) => es.size
  | _ => 0
theorem KAt.mapSize {w : World} {k : KS} {v : KV} (h : KAt f P w k v) : Go.Proofs.Ytegmnbcfanjocaa.mapSize w k.ab = v.m := by
  obtain ⟨es, c, hb, _, hn, _⟩ := h.all
  unfold Go.Proofs.Ytegmnbcfanjocaa.mapSize
  rw [hb]
  exact hn

/-- Since the start v: more is known, all of it comes out. -/
structure CInv (f : Int → List UInt8) (P : Int → Prop) (U : List (List UInt8)) (v v2 : KV) : Prop where
  sec : v2.sec = v.sec
  sn : v2.sn = v.sn
  seen : v2.seen = v.seen
  n : v2.n = v.n
  le : ∀ s, v.S s = true → v2.S s = true
  sound : ∀ C, Closed f P v.x C → (∀ s, v.S s = true → C s = true) → ∀ s, v2.S s = true → C s = true
  inU : ∀ s, v2.S s = true → s ∈ U
theorem CInv.start {U : List (List UInt8)} {v : KV} (hU : ∀ s, v.S s = true → s ∈ U) : CInv f P U v v := ⟨rfl, rfl, rfl, rfl, fun _ h => h, fun _ _ h => h, hU⟩
theorem CInv.round {U : List (List UInt8)} {v v2 v3 : KV} {ss : List (List UInt8)} {j : Nat} (h : CInv f P U v v2) (r : RInv f P U v2 v3 ss j) : CInv f P U v v3 := by
  have hx : v2.x = v.x := by unfold KV.x; rw [h.sec]
  exact ⟨r.sec.trans h.sec, r.sn.trans h.sn, r.seen.trans h.seen, r.n.trans h.n, fun s hs => r.le s (h.le s hs), fun C hC hS => r.sound C (by rw [hx]; exact hC) (h.sound C hC hS), r.inU⟩
theorem CInv.cl {U : List (List UInt8)} {v v2 v3 : KV} {ss : List (List UInt8)} (N : Nums f P) (h : CInv f P U v v2) (r : RInv f P U v2 v3 ss ss.length) (hss : ∀ s, v2.S s = true → s ∈ ss) (hm : ¬ v2.m < v3.m) : Cl f P v.x v.S v3.S := by
  have hx : v2.x = v.x := by unfold KV.x; rw [h.sec]
  have he : v3.m = v2.m := by have := r.m; omega
  have hc := r.closed N hss he
  rw [r.eq he]
  rw [hx] at hc
  exact ⟨h.le, hc, h.sound⟩

set_option maxHeartbeats 4000000 in
set_option maxRecDepth 100000 in
theorem close_any (N : Nums f P) (U : List (List UInt8)) (hUl : U.length ≤ 80000) (hUn : Univ f P U) (w : World) (k : KS) (v : KV) (hI : ∀ W, Same w W (KP k) → Itoa W Small f) (hK : KAt f P w k v) (hvU : ∀ s, v.S s = true → s ∈ U) :
    Calls Try.prog 27 #[.pointer (some ⟨k.kb, 0, none⟩)] w fun e w' => (∃ x, e = .returned x) ∧ ∃ v2, KAt f P w' k v2 ∧ Same w w' (KP k) ∧ CInv f P U v v2 ∧ Cl f P v.x v.S v2.S := by
  have HI := hid hI
  have HK := hid hK
  have HC : Hid (CInv f P U v v) := hid (CInv.start hvU)
  have HUN := hid hUn
  clear hI hK hvU hUn
  go_enter Try.func27, Try.ntmps27
  go_wp2_with fail
  go_loopw [3] (fun _ wr => ∃ v2, Hid (KAt f P wr k v2) ∧ Hid (Same w wr (KP k)) ∧ Hid (CInv f P U v v2)) (fun _ wr => 80001 - mapSize wr k.ab)
  case atStart => exact ⟨v, HK, hid (Same.refl _ _), HC⟩
  case round =>
    clear HK HC
    obtain ⟨v2, HK, HS, HC⟩ := hrel
    go_wp2_with fail
    refine (round_any N U hUl HUN.out wr k v2 (fun W hW => HI.out W (HS.out.trans hW)) HK.out HC.out.inU).mono ?_
    rintro e W2 ⟨v3, rfl, hK3, hS3, ss, hR, hss⟩
    have HK3 := hid hK3
    have HS3 := hid (HS.out.trans hS3)
    have HC3 := hid (HC.out.round hR)
    by_cases hm : v2.m < v3.m
    · have hme : 80001 - mapSize W2 k.ab < 80001 - mapSize wr k.ab := by
        rw [hK3.mapSize, HK.out.mapSize]
        have := hK3.all.card U (fun s x hs => HC3.out.inU s (by unfold KV.S; rw [hs]; rfl))
        omega
      have HME := hid hme
      clear hme hK3 hS3 hR hss
      go_wp2_with fail
      go_roundw
      case rel => exact ⟨v3, HK3, HS3, HC3⟩
      case measure => exact HME.out
    · have HCL := hid (HC.out.cl N hR hss hm)
      clear hK3 hS3 hR hss
      go_wp2_with fail
      go_end0
      exact ⟨⟨_, rfl⟩, v3, HK3.out, HS3.out, HC3.out, HCL.out⟩

end Go.Proofs.Ytegmnbcfanjocaa
