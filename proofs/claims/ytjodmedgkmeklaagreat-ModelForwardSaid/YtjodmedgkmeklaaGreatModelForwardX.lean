/-
  The row of ModelForward: for every input the law returns true, and leaves its arguments as they were.
-/
import Derived.Test.YtjodmedgkmeklaaGreatBase
/-
  What the listener can't make: plain.
-/
namespace Go.Proofs.YtjodmedgkmeklaaGreat
open Go Go.RowKit
variable {f : Int → List UInt8} {P : Int → Prop} {c i : Nat} {μ : MS} {s : Sd}

theorem Inv.cannot (N : Nums f P) (h : Inv f P c μ) {n : Int} (hn : n < 0) (hsm : Small n) (hno : ∀ sd ∈ μ.sides, sd.opened f μ.x → ∀ u ∈ sd.said, nm f u ≠ nm f (.atom n)) : can f μ.x μ.S (.atom n) = false := by
  rw [Bool.eq_false_iff]
  intro hc
  simp only [can, Bool.or_eq_true, decide_eq_true_eq] at hc
  rcases hc with hc | hc
  · obtain ⟨u, hu, he, hw⟩ := most_iff.1 (h.S _ hc)
    have h1 := nm_sim N hu (show (Tm.atom n).ok P from hsm) he
    rcases hw with rfl | ⟨m, rfl⟩ | ⟨a, b, rfl⟩ | ⟨r, _, hb⟩ | ⟨sd, hsd, ho, hm⟩
    · simp only [Sim] at h1
    · simp only [Sim] at h1
    · simp only [Sim] at h1
    · obtain ⟨k, m, a, y, rfl⟩ := hbs_box hb
      simp only [Sim] at h1
    · exact hno sd hsd ho u hm he
  · omega
theorem Inv.shut (h : Inv f P c μ) (hs : s ∈ μ.sides) (h1 : s.state = 1) (hx : μ.x s.peerN = false) : ¬ s.opened f μ.x := by
  intro ho
  have hf := h.noX (n := s.fresh) (by have := h.fr100 hs; omega)
  have hb := ho.2
  rcases fin_cases (h.cn s hs) h1 with ⟨st, fr, eR, sR, _, _, _, _, _, _, _, rfl⟩ | ⟨st, fr, eI, sI, _, _, _, _, _, _, _, rfl⟩
  · have hb2 : Go.Proofs.YtjodmedgkmeklaaGreat.bare f μ.x (ck3 fr eR sR st) = true := hb
    rw [bare_ck3] at hb2
    have e1 : μ.x fr = false := hf
    have e2 : μ.x sR = false := hx
    simp [sh, e1, e2] at hb2
  · have hb2 : Go.Proofs.YtjodmedgkmeklaaGreat.bare f μ.x (ck3 eI fr st sI) = true := hb
    rw [bare_ck3] at hb2
    have e1 : μ.x fr = false := hf
    have e2 : μ.x sI = false := hx
    simp [sh, e1, e2] at hb2
theorem saidAt_nat {k : Nat} : saidAt μ (k : Int) = match μ.sides[k]? with | some s => s.said | none => [] := by
  unfold saidAt MS.sideAt
  rw [if_pos (by omega), Int.toNat_natCast]
  cases μ.sides[k]? <;> rfl
theorem Inv.said_atom (h : Inv f P c μ) (hs : s ∈ μ.sides) {t : Tm} (ht : t ∈ s.said) : ∃ n, t = .atom n ∧ n < 0 ∧ -1000 ≤ n := by
  obtain ⟨n, rfl⟩ := (h.cn s hs).texts t ht
  exact ⟨_, rfl, by omega, by omega⟩
/-- What a side said to an honest peer that is not leaked can't be made, unless another side said the same. -/
theorem Inv.secret (N : Nums f P) (h : Inv f P c μ) (hi : μ.sides[i]? = some s) (h1 : s.state = 1) (hx : μ.x s.peerN = false) {t : Tm} (ht : t ∈ s.said) (hno : ∀ m, m < μ.sides.length → m ≠ i → names f (saidAt μ (m : Int)) (nm f t) = false) : can f μ.x μ.S t = false := by
  have hs := List.mem_of_getElem? hi
  obtain ⟨n, rfl, hn, hn2⟩ := h.said_atom hs ht
  refine h.cannot N hn (by unfold Small; omega) (fun sd hsd ho u hu he => ?_)
  obtain ⟨m, hm⟩ := List.getElem?_of_mem hsd
  by_cases hmi : m = i
  · subst hmi
    rw [hi] at hm
    cases hm
    exact h.shut hs h1 hx ho
  · have h5 := hno m (List.getElem?_eq_some_iff.1 hm).1 hmi
    rw [saidAt_nat, hm] at h5
    have h6 : names f sd.said (nm f (.atom n)) = true := names_iff.2 ⟨u, hu, he⟩
    rw [h5] at h6; cases h6

/-! ### forward -/
/-- A finished side that has said one thing more. -/
def Sd.more (s : Sd) (n : Int) : Sd := { s with sent := s.sent + 1, said := s.said ++ [textOf n] }
theorem say_ok {i : Nat} {n : Int} (hi : μ.sides[i]? = some s) (h1 : s.state = 1) (hl : μ.pool.length + 1 ≤ 300) :
    (μ.play f P 4 i n 0).2 = 0 ∧ (μ.play f P 4 i n 0).1.sides = μ.sides.set i (s.more n) ∧ (μ.play f P 4 i n 0).1.statics = μ.statics ∧ (μ.play f P 4 i n 0).1.pool = (μ.sent f P [.box s.keys.1 s.sent .empty (textOf n)]).pool := by
  have e1 : μ.play f P 4 i n 0 = μ.say f P i s n := by
    rw [act_eq (by omega) (by omega)]
    unfold MS.honest
    rw [sideAt_nat hi]
    show μ.act f P (i : Int).toNat s 4 n 0 = _
    rw [Int.toNat_natCast]; rfl
  have hroom : μ.room f [.box s.keys.1 s.sent .empty (textOf n)] = true := by
    unfold MS.room
    have := news_le (f := f) (μ := μ) [.box s.keys.1 s.sent .empty (textOf n)]
    exact decide_eq_true (by simp at this; omega)
  have e2 : μ.say f P i s n = ((μ.sent f P [.box s.keys.1 s.sent .empty (textOf n)]).setSide i (s.more n), 0) := by
    unfold MS.say
    rw [if_neg (by simp [h1]), if_neg (by rw [hroom]; simp)]
    rfl
  obtain ⟨e3, e4, e5, e6⟩ := sent_same (f := f) (P := P) [.box s.keys.1 s.sent .empty (textOf n)] (μ := μ)
  rw [e1, e2]
  exact ⟨rfl, by show (μ.sent f P _).sides.set i _ = _; rw [e3], e4, rfl⟩
theorem leak_sides (a b e : Int) : (μ.play f P 6 a b e).1.sides = μ.sides ∧ (μ.play f P 6 a b e).1.statics = μ.statics := by
  rw [play_leak_eq]
  unfold MS.leak
  split <;> exact ⟨rfl, rfl⟩
theorem Inv.forward (N : Nums f P) (hap : ∀ m n : Int, 0 ≤ m ∧ m ≤ 59 → 900 ≤ n ∧ n ≤ 998 → nm f (.atom (-1 - n)) ≠ nm f (.atom (-1 - m))) (h : Inv f P c μ) {l0 : List Sd} {n : Nat} {st sr n0 : Int} {d : Sd}
    (hs : μ.sides = l0 ++ [(sdI3 st (100 + n) (101 + n) sr 0 0 [] []).more n0, d]) (hd : d.said = []) (hu : ∀ s ∈ l0, ∀ t ∈ s.said, ∃ m, 0 ≤ m ∧ m ≤ 59 ∧ t = .atom (-1 - m)) (hn : 900 ≤ n0 ∧ n0 ≤ 998) : can f μ.x μ.S (.atom (-1 - n0)) = false := by
  refine h.cannot N (by omega) (by unfold Small; omega) (fun sd hsd ho u hm he => ?_)
  rw [hs] at hsd
  rcases List.mem_append.1 hsd with h1 | h1
  · obtain ⟨m, h2, h3, rfl⟩ := hu sd h1 u hm
    exact hap _ _ ⟨h2, h3⟩ hn he.symm
  · simp at h1
    rcases h1 with rfl | rfl
    · have hb : Go.Proofs.YtjodmedgkmeklaaGreat.bare f μ.x (ck3 (100 + n) (101 + n) sr st) = true := ho.2
      rw [bare_ck3] at hb
      simp [sh, h.noX (n := 100 + (n : Int)) (by omega), h.noX (n := 101 + (n : Int)) (by omega)] at hb
    · rw [hd] at hm; cases hm

end Go.Proofs.YtjodmedgkmeklaaGreat

/-
  The walk of ModelForward.
-/
namespace Go.Proofs.YtjodmedgkmeklaaGreat
open Go Go.RowKit Go.Maps
attribute [local go_sem] extUpon run_store_tm
attribute [local go_sem ↓] Tm.val_cell eval_put_ne eval_put_none eval_put_same size_put eval_const
attribute [local go_sem ↓] meth_Atom meth_Public meth_Shared meth_Chain meth_Digest meth_Box meth_Empty
attribute [local go_sem ↓] run_build_chain run_build_digest run_build_box
attribute [local go_sem] ta_Atom_Atom ta_Public_Atom ta_Shared_Atom ta_Chain_Atom ta_Digest_Atom ta_Box_Atom ta_Empty_Atom ta_Nil_Atom ta_Atom_Public ta_Public_Public ta_Shared_Public ta_Chain_Public ta_Digest_Public ta_Box_Public ta_Empty_Public ta_Nil_Public ta_Atom_Shared ta_Public_Shared ta_Shared_Shared ta_Chain_Shared ta_Digest_Shared ta_Box_Shared ta_Empty_Shared ta_Nil_Shared ta_Atom_Chain ta_Public_Chain ta_Shared_Chain ta_Chain_Chain ta_Digest_Chain ta_Box_Chain ta_Empty_Chain ta_Nil_Chain ta_Atom_Digest ta_Public_Digest ta_Shared_Digest ta_Chain_Digest ta_Digest_Digest ta_Box_Digest ta_Empty_Digest ta_Nil_Digest ta_Atom_Box ta_Public_Box ta_Shared_Box ta_Chain_Box ta_Digest_Box ta_Box_Box ta_Empty_Box ta_Nil_Box ta_Atom_Empty ta_Public_Empty ta_Shared_Empty ta_Chain_Empty ta_Digest_Empty ta_Box_Empty ta_Empty_Empty ta_Nil_Empty
variable {f : Int → List UInt8} {P : Int → Prop} {w0 w W W2 W3 : World} {μ μ2 : MS} {c d wb : Nat} {B : Int} {F : Nat → Prop}

set_option maxHeartbeats 32000000 in
set_option maxRecDepth 100000 in
theorem ModelForward_walk (T : Nat → Int) (av : Option Addr) (cap : Nat) (l : List Raw) (a b n : Int) (w : World) (hT : TabAt w T) (hl : l.length ≤ 9223372036854775807) (hr : RawAt w av l) :
    Calls Tryz.prog 4 #[.slice av l.length cap, .int .i64 a, .int .i64 b, .int .i64 n] w fun e w' => e = .returned (.bool true) ∧ Ext w w' := by
  have HAP := hid (fun (m n : Int) (h1 : 0 ≤ m ∧ m ≤ 59) (h2 : 900 ≤ n ∧ n ≤ 998) => atom_apart T h1 h2)
  have HN := hid (nums1 T)
  have HP : Hid (∀ n, P1 n → P1 n) := hid (fun _ h => h)
  have HI := hid (itoa_tab hT)
  have HPL := hid (play_law HN.out HP.out HI.out av cap l hl hr)
  clear hl hr hT
  generalize itoaT T = f at *
  go_enter Tryz.func4, Tryz.ntmps4
  go_wp2_with fail
  refine HPL.out.mono ?_
  rintro e w2 ⟨wb, μ, rfl, hpw⟩
  obtain ⟨w1, hE1, hwd⟩ := hpw.wd
  have HST := hid hpw.st
  have HI1 := hid (HI.out.later hE1)
  have HEW1 := hid hE1
  have hE2 := hE1.trans hwd.ext
  have hkn := known_any HN.out HP.out (HI.out.later hE2)
  clear hpw HPL hE1
  go_wp2_with fail
  refine hkn.mono ?_
  rintro e w3 ⟨rfl, hE3⟩
  have HW := hid (hwd.later hE3)
  have HE := hid (hE2.trans hE3)
  clear hkn hE2 hE3 hwd
  go_wp2_with fail
  refine (sides_w HN.out.small HP.out HW.out (by omega) (by omega)).mono ?_
  rintro e w5 ⟨sa, sc, rfl, _, hE5⟩
  have HX5 := hid hE5
  have hfew := HW.out.inv.few
  have HKN := hid (fun W' (hW : Ext w5 W') => known_any (w := W') HN.out HP.out (HI1.out.later (HW.out.ext.trans (hE5.trans hW))))
  clear hE5
  by_cases h10 : 10 < μ.sides.length
  · have h102 : (10 : Int) < (μ.sides.length : Int) := by omega
    go_wp2_with fail
    refine (HKN.out w5 (Ext.refl _)).mono ?_
    rintro e w6 ⟨rfl, hE6⟩
    have HE6 := hid (HE.out.trans (HX5.out.trans hE6))
    clear hE6
    go_wp2_with fail
    go_ret
    exact ⟨rfl, HE6.out⟩
  · have h102 : ¬ (10 : Int) < (μ.sides.length : Int) := by omega
    go_wp2_with fail
    refine (sides_w HN.out.small HP.out (HW.out.later HX5.out) (by omega) (by omega)).mono ?_
    rintro e w6 ⟨sa2, sc2, rfl, _, hE6⟩
    have HW6 := hid (HW.out.later (HX5.out.trans hE6))
    clear hE6 HKN
    have hma := emod_in a (m := 4) (by omega)
    have hmb := emod_in b (m := 4) (by omega)
    have hmn := emod_in n (m := 99) (by omega)
    have hwr1 : IntKind.i64.wrap (1 + a % 4) = 1 + a % 4 := by rw [IntKind.wrap_i64]; omega
    have hwr2 : IntKind.i64.wrap (1 + b % 4) = 1 + b % 4 := by rw [IntKind.wrap_i64]; omega
    have hwr3 : IntKind.i64.wrap (900 + n % 99) = 900 + n % 99 := by rw [IntKind.wrap_i64]; omega
    have hinv := HW.out.inv
    have hok := HW.out.pool
    have hin : ∀ k : Int, 0 ≤ k ∧ k < 4 → 1 + k ∈ μ.statics := fun k hk => by
      rw [HST.out]
      rcases (show k = 0 ∨ k = 1 ∨ k = 2 ∨ k = 3 by omega) with rfl | rfl | rfl | rfl <;> decide
    have e1 := fun e => play1_ok (f := f) (P := P1) (hin (a % 4) hma) (by omega) 1 e
    have HUP := hid HW.out.upto
    -- the pool's length stays till they shake
    by_cases h250 : 250 < μ.pool.length
    · have h2502 : (250 : Int) < (μ.pool.length : Int) := by omega
      have hpp : ((μ.play f P1 1 1 (1 + a % 4) 0).1.play f P1 1 0 (1 + b % 4) 0).1.pool.length = μ.pool.length := by
        have e2 : ∀ (ν : MS) (x y : Int), (ν.play f P1 1 x y 0).1.pool = ν.pool := fun ν x y => by
          rw [play_begin_eq]; unfold MS.begin; split <;> (try split) <;> rfl
        rw [e2, e2]
      have HPP := hid hpp
      clear hinv hok hin e1 hpp
      go_wp2_with fail
      refine (pick_any a 4 _ (by omega) (by omega)).mono ?_
      rintro e wx ⟨rfl, rfl⟩
      go_wp2_with fail
      refine (play_n HN.out HP.out HI1.out HW6.out (kind := 1) (a := 1) (b := 1 + a % 4) (e := 0) (by omega) (by omega) (by omega) (by omega) (by omega) (by omega) (by omega) (by omega) (by omega)).mono ?_
      rintro e w7 ⟨rfl, hw7, _⟩
      have HW7 := hid hw7
      clear hw7
      go_wp2_with fail
      refine (pick_any b 4 _ (by omega) (by omega)).mono ?_
      rintro e wx ⟨rfl, rfl⟩
      go_wp2_with fail
      refine (play_n HN.out HP.out HI1.out HW7.out (kind := 1) (a := 0) (b := 1 + b % 4) (e := 0) (by omega) (by omega) (by omega) (by omega) (by omega) (by omega) (by omega) (by omega) (by omega)).mono ?_
      rintro e w8 ⟨rfl, hw8, _⟩
      have HW8 := hid hw8
      clear hw8 HW7
      generalize MS.play f P1 _ 1 0 (1 + b % 4) 0 = res2 at *
      go_wp2_with fail
      have hpw := pool_w HW8.out
      rw [HPP.out] at hpw
      refine hpw.mono ?_
      rintro e w9 ⟨pa, pc, rfl, _, hE9⟩
      have HW9 := hid (HW8.out.later hE9)
      clear hpw hE9
      go_wp2_with fail
      have hpw := pool_w HW9.out
      rw [HPP.out] at hpw
      refine hpw.mono ?_
      rintro e w10 ⟨pa2, pc2, rfl, _, hE10⟩
      have HZ := hid (HW9.out.ext.trans hE10)
      clear hpw hE10
      go_wp2_with fail
      go_ret
      exact ⟨rfl, HEW1.out.trans HZ.out⟩
    · have h2502 : ¬ (250 : Int) < (μ.pool.length : Int) := by omega
      obtain ⟨μ1, μ2, μ3, hpair⟩ := pair HN.out HP.out hinv hok (hin (a % 4) hma) (hin (b % 4) hmb) rfl (by omega) (by omega)
      have HA := hid (hpair.one 0)
      have HB := hid (hpair.two 0)
      have HS := hid hpair.shk
      have HSI := hid hpair.si
      have HL2 : Hid (μ2.pool.length = μ.pool.length) := hid (by rw [hpair.pool2])
      have HL3 := hid hpair.len
      have HST3 := hid hpair.stay.st
      generalize hnn : μ.sides.length = nn at *
      clear hinv hok hin e1 hpair
      go_wp2_with fail
      refine (pick_any a 4 _ (by omega) (by omega)).mono ?_
      rintro e wx ⟨rfl, rfl⟩
      go_wp2_with fail
      have hplay := play_n HN.out HP.out HI1.out HW6.out (kind := 1) (a := 1) (b := 1 + a % 4) (e := 0) (by omega) (by omega) (by omega) (by omega) (by omega) (by omega) (by omega) (by omega) (by omega)
      rw [HA.out] at hplay
      refine hplay.mono ?_
      rintro e w7 ⟨rfl, hw7, _⟩
      have HW7 := hid hw7
      clear hw7 hplay
      go_wp2_with fail
      refine (pick_any b 4 _ (by omega) (by omega)).mono ?_
      rintro e wx ⟨rfl, rfl⟩
      go_wp2_with fail
      have hplay := play_n HN.out HP.out HI1.out HW7.out (kind := 1) (a := 0) (b := 1 + b % 4) (e := 0) (by omega) (by omega) (by omega) (by omega) (by omega) (by omega) (by omega) (by omega) (by omega)
      rw [HB.out] at hplay
      refine hplay.mono ?_
      rintro e w8 ⟨rfl, hw8, _⟩
      have HW8 := hid hw8
      clear hw8 hplay HW7
      go_wp2_with fail
      have hpw := pool_w HW8.out
      rw [HL2.out] at hpw
      refine hpw.mono ?_
      rintro e w9 ⟨pa, pc, rfl, _, hE9⟩
      have HW9 := hid (HW8.out.later hE9)
      clear hpw hE9 HW8
      have hwr4 : IntKind.i64.wrap ((nn : Int) + 1) = (nn : Int) + 1 := by rw [IntKind.wrap_i64]; omega
      go_wp2_with fail
      have hshk := shakes_w HN.out HP.out HI1.out HW9.out (nn : Int) ((nn : Int) + 1) (intOk_small (by omega)) (intOk_small (by omega)) (by omega) (by omega) (by omega) (by omega)
      have hs := HS.out
      change MS.shk f P1 (nn : Int) ((nn : Int) + 1) 3 μ2 = (μ3, true) at hs
      rw [hs] at hshk
      refine hshk.mono ?_
      rintro e w10 ⟨rfl, hw10⟩
      have HW10 := hid (hw10.mono (Nat.le_refl _) (Nat.le_refl _) (by omega : (59 : Int) ≤ 999))
      clear hw10 hshk hs HW9
      go_wp2_with fail
      refine (pick_any n 99 _ (by omega) (by omega)).mono ?_
      rintro e wx ⟨rfl, rfl⟩
      go_wp2_with fail
      have hplay := play_4 HN.out HP.out HI1.out HW10.out (a := (nn : Int)) (b := 900 + n % 99) (e := 0) (by omega) (by omega) (by omega) (by omega) (by omega) (by omega) (by omega)
      have hsi : μ3.sides[nn]? = some (sdI3 (1 + a % 4) (100 + nn) (101 + nn) (1 + b % 4) 0 0 [] []) := by
        rw [HSI.out, List.getElem?_append_right (by omega), hnn, Nat.sub_self]; rfl
      obtain ⟨z1, z2, z3, _⟩ := say_ok (f := f) (P := P1) (n := 900 + n % 99) hsi rfl (by have := HL3.out; omega)
      have HZ2 : Hid ((MS.play f P1 μ3 4 (nn : Int) (900 + n % 99) 0).1.sides = μ.sides ++ [(sdI3 (1 + a % 4) (100 + nn) (101 + nn) (1 + b % 4) 0 0 [] []).more (900 + n % 99), sdR3 (1 + b % 4) (101 + nn) (100 + nn) (1 + a % 4) 0 0 [] []]) := hid (by
        rw [z2, HSI.out, List.set_append_right _ _ (by omega), hnn, Nat.sub_self]; rfl)
      rw [z1] at hplay
      refine hplay.mono ?_
      rintro e w11 ⟨rfl, hw11, _⟩
      have HW11 := hid hw11
      clear hw11 hplay hsi z1 z2 z3 HW10
      generalize (MS.play f P1 μ3 4 (nn : Int) (900 + n % 99) 0).1 = μ4 at *
      have hn0 : 900 ≤ 900 + n % 99 ∧ 900 + n % 99 ≤ 998 := by omega
      generalize 900 + n % 99 = n0 at *
      go_wp2_with fail
      go_loopw [11] (fun iv wr => ∃ (k : Nat) (ν : MS), iv = .int .i64 k ∧ 1 ≤ k ∧ k ≤ 5 ∧ Hid (Wd f P1 61 60 999 (fun _ => False) w1 wr wb ν) ∧ Hid (ν.sides = μ4.sides)) (fun iv _ => 5 - (intOf iv).toNat)
      case atStart => exact ⟨1, μ4, rfl, by omega, by omega, HW11, hid rfl⟩
      case round =>
        clear HW11
        obtain ⟨k, ν, rfl, hk1, hk5, HV, HVS⟩ := hrel
        by_cases hlk : k ≤ 4
        · have hlk2 : (k : Int) ≤ 4 := by omega
          have hplay := play_n HN.out HP.out HI1.out HV.out (kind := 6) (a := (k : Int)) (b := 0) (e := 0) (by omega) (by omega) (by omega) (by omega) (by omega) (by omega) (by omega) (by omega) (by omega)
          have HLS := hid ((leak_sides (f := f) (P := P1) (μ := ν) (k : Int) 0 0).1.trans HVS.out)
          go_wp2_with fail
          refine hplay.mono ?_
          rintro e w12 ⟨rfl, hw12, _⟩
          have HW12 := hid hw12
          clear hw12 hplay
          generalize MS.play f P1 ν 6 (k : Int) 0 0 = res at *
          go_wp2_with fail
          go_roundw
          case rel => exact ⟨k + 1, res.1, by go_num, by omega, by omega, HW12, HLS⟩
          case measure => simp [intOf]; omega
        · have hlk2 : ¬ (k : Int) ≤ 4 := by omega
          obtain ⟨kb, hbs, htl⟩ := base_at HI1.out HV.out
          have hcan := Inv.forward (μ := ν) (l0 := μ.sides) (n := nn) HN.out HAP.out HV.out.inv (by rw [HVS.out, HZ2.out]) rfl HUP.out hn0
          have hct := htl.can
          have HBS := hid hbs
          have HCT := hid (fun W' (hW : Ext wr W') => htl.can W' hW (.atom (-1 - n0)) (by show Small _; unfold Small; omega) (by simp [sz]))
          rw [hcan] at HCT
          have HZ := hid HV.out.ext
          have hwr5 : IntKind.i64.wrap (-1 - n0) = -1 - n0 := by rw [IntKind.wrap_i64]; omega
          clear hbs htl hcan hct
          go_wp2_with fail
          refine (HBS.out wr (Ext.refl _)).mono ?_
          rintro e w12 ⟨rfl, hE12⟩
          have HE12 := hid hE12
          clear hE12
          go_wp2_with fail
          refine (HCT.out w12 HE12.out).mono ?_
          rintro e w13 ⟨rfl, hE13⟩
          have HFIN := hid (HEW1.out.trans (HZ.out.trans (HE12.out.trans hE13)))
          clear hE13
          go_wp2_with fail
          go_ret
          exact ⟨rfl, HFIN.out⟩

end Go.Proofs.YtjodmedgkmeklaaGreat

/-
  The row of ModelForward: for every input the law returns true, and leaves its arguments as they were.
-/
namespace Go.Proofs.YtjodmedgkmeklaaGreat
open Go Go.RowKit Go.ChangeShapes Go.WideShapes Go.ChangeAt

set_option maxRecDepth 100000 in
set_option maxHeartbeats 1000000 in
theorem ModelForward_lifted (os : Os) (started : os.Started) (H : Type) (enc : TypeId × Value → H) :
    ReturnsInHanded {} Tryz.checked os 4 .any (Rows.modelForwardSpec.pre6 enc Tryz.prog Tryz.f4 Rows.modelForwardRow.domain false) (Rows.modelForwardSpec.post enc Tryz.prog Tryz.f4 false true false false) := by
  refine returnsInHanded_of_change_shaped (C := Tryz.checked) own started (by kernel_rfl) Tryz.func4
    (ChangeSpec.witness6 (enc := enc) (C := Tryz.checked) false ⟨#[], #[.slice none 0 0, .int .i64 0, .int .i64 0, .int .i64 0], []⟩ 8 (by kernel_rfl) (by kernel_rfl) (by kernel_rfl) (by kernel_rfl)) ?_
  intro W base args ds gs before hval0 hW hcnd _ hsh _
  have hval : ∀ (j : Nat) t v, Tryz.f4.params[j]? = some t → args[j]? = some v → Value.okWide Tryz.prog W .any base t v := hval0
  have hW' := hW
  obtain ⟨p, q, hA0, hV, rfl, hfz, hnd⟩ := hW
  have hA : DataW.TrodAll enc Tryz.prog W 0 (fun _ => true) true Tryz.f4.params.toList args.toList ds p := hA0
  rw [Tryz.params4] at hA hval
  obtain ⟨v0, vs0, d0, ds0, p0, q0, hargs, rfl, rfl, h0, r0⟩ := trodAll_cons hA
  obtain ⟨v1, vs1, d1, ds1, p1, q1, rfl, rfl, rfl, h1, r1⟩ := trodAll_cons r0
  obtain ⟨v2, vs2, d2, ds2, p2, q2, rfl, rfl, rfl, h2, r2⟩ := trodAll_cons r1
  obtain ⟨v3, vs3, d3, ds3, p3, q3, rfl, rfl, rfl, h3, r3⟩ := trodAll_cons r2
  obtain ⟨rfl, rfl, rfl⟩ := trodAll_nil r3
  obtain rfl : args = #[v0, v1, v2, v3] := by cases args; simp_all
  obtain ⟨rfl, rfl⟩ := trodVars_none hV
  have hlt0 : ∀ x ∈ p0, x.block < W.heap.size := fun x hx => by simpa using hW'.lt x (by simp [hx])
  have hk0 := h0
  obtain ⟨s0, len0, cap0, rfl⟩ := okWide_slice Tryz.underlying22 (hval 0 22 v0 rfl rfl)
  obtain ⟨fuel0, hf0⟩ := h0
  obtain ⟨av0, cav0, l0, hcs0, hr0, hl0⟩ := open_raws hf0
  simp only [Value.cells, List.cons.injEq, and_true] at hcs0
  obtain ⟨rfl, rfl, rfl⟩ := Value.slice.inj hcs0
  obtain ⟨a1, rfl, rfl, rfl, w1⟩ := open_int Tryz.underlying3 (hval 1 3 v1 rfl rfl) h1
  obtain ⟨a2, rfl, rfl, rfl, w2⟩ := open_int Tryz.underlying3 (hval 2 3 v2 rfl rfl) h2
  obtain ⟨a3, rfl, rfl, rfl, w3⟩ := open_int Tryz.underlying3 (hval 3 3 v3 rfl rfl) h3
  clear hA0 hval0
  simp only [List.append_nil] at hW'
  obtain ⟨T, hT⟩ := tab_of hsh
  refine (ModelForward_walk T s0 cap0 l0 a1 a2 a3 W hT hl0 hr0).mono fun e W' ⟨he, hg⟩ => ?_
  subst he
  exact ⟨_, rfl, _, _, _, _, _, _, hW', trodAll_cons_mk (shut_bool Tryz.underlying4 _) trodAll_mk0, (trodAll_cons_mk (Below.trod laidOut (by kernel_rfl) (of_decide_eq_true (by kernel_rfl)) hk0 hg hlt0) (trodAll_cons_mk (shut_int Tryz.underlying3 w1) (trodAll_cons_mk (shut_int Tryz.underlying3 w2) (trodAll_cons_mk (shut_int Tryz.underlying3 w3) trodAll_mk0)))), rfl, hg.frame _, fun h => by cases h⟩

theorem ModelForward_over : Rows.modelForwardRow.holds Tryz.pinned (OpenSpec.ofChange Rows.modelForwardSpec) :=
  OpenClaim.holds_of_wide 4 Tryz.f4 rfl rfl rfl rfl rfl rfl rfl ⟨rfl, rfl, rfl, rfl, rfl⟩ rfl rfl rfl rfl rfl (by kernel_rfl) Tryz.func4 (by kernel_rfl)
    (of_decide_eq_true (by kernel_rfl)) (by unfold Func.isWrapper; first | (rw [if_pos (by decide +kernel)]; kernel_rfl) | (rw [if_neg (by decide +kernel)]; exact ⟨rfl, rfl⟩))
    (fun os started H enc _ => ModelForward_lifted os started H enc)

theorem ModelForward_holds : Rows.ModelForwardSaid := ModelForward_over
#print axioms ModelForward_holds
end Go.Proofs.YtjodmedgkmeklaaGreat
