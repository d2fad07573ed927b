/-
  The row of ModelSecret: for every input the law returns true, and leaves its arguments as they were.
-/
import Derived.Test.YtjodmedgkmeklaaGreatBase
/-
  What the listener can't make: plain.
-/
namespace Go.Proofs.YtjodmedgkmeklaaGreat
open Go Go.RowKit
variable {f : Int → List UInt8} {P : Int → Prop} {c i : Nat} {μ : MS} {s : Sd}

theorem Inv.cannot (N : Nums f P) (h : Inv f P c μ) {n : Int} (hn : n < 0) (hsm : Small n) (hno : ∀ sd ∈ μ.sides, sd.opened f μ.x → ∀ u ∈ sd.said, nm f u ≠ nm f (.atom n)) : can f μ.x μ.S (.atom n) = false := by
  rw [Bool.eq_false_iff]
  intro hc
  simp only [can, Bool.or_eq_true, decide_eq_true_eq] at hc
  rcases hc with hc | hc
  · obtain ⟨u, hu, he, hw⟩ := most_iff.1 (h.S _ hc)
    have h1 := nm_sim N hu (show (Tm.atom n).ok P from hsm) he
    rcases hw with rfl | ⟨m, rfl⟩ | ⟨a, b, rfl⟩ | ⟨r, _, hb⟩ | ⟨sd, hsd, ho, hm⟩
    · simp only [Sim] at h1
    · simp only [Sim] at h1
    · simp only [Sim] at h1
    · obtain ⟨k, m, a, y, rfl⟩ := hbs_box hb
      simp only [Sim] at h1
    · exact hno sd hsd ho u hm he
  · omega
theorem Inv.shut (h : Inv f P c μ) (hs : s ∈ μ.sides) (h1 : s.state = 1) (hx : μ.x s.peerN = false) : ¬ s.opened f μ.x := by
  intro ho
  have hf := h.noX (n := s.fresh) (by have := h.fr100 hs; omega)
  have hb := ho.2
  rcases fin_cases (h.cn s hs) h1 with ⟨st, fr, eR, sR, _, _, _, _, _, _, _, rfl⟩ | ⟨st, fr, eI, sI, _, _, _, _, _, _, _, rfl⟩
  · have hb2 : Go.Proofs.YtjodmedgkmeklaaGreat.bare f μ.x (ck3 fr eR sR st) = true := hb
    rw [bare_ck3] at hb2
    have e1 : μ.x fr = false := hf
    have e2 : μ.x sR = false := hx
    simp [sh, e1, e2] at hb2
  · have hb2 : Go.Proofs.YtjodmedgkmeklaaGreat.bare f μ.x (ck3 eI fr st sI) = true := hb
    rw [bare_ck3] at hb2
    have e1 : μ.x fr = false := hf
    have e2 : μ.x sI = false := hx
    simp [sh, e1, e2] at hb2
theorem saidAt_nat {k : Nat} : saidAt μ (k : Int) = match μ.sides[k]? with | some s => s.said | none => [] := by
  unfold saidAt MS.sideAt
  rw [if_pos (by omega), Int.toNat_natCast]
  cases μ.sides[k]? <;> rfl
theorem Inv.said_atom (h : Inv f P c μ) (hs : s ∈ μ.sides) {t : Tm} (ht : t ∈ s.said) : ∃ n, t = .atom n ∧ n < 0 ∧ -1000 ≤ n := by
  obtain ⟨n, rfl⟩ := (h.cn s hs).texts t ht
  exact ⟨_, rfl, by omega, by omega⟩
/-- What a side said to an honest peer that is not leaked can't be made, unless another side said the same. -/
theorem Inv.secret (N : Nums f P) (h : Inv f P c μ) (hi : μ.sides[i]? = some s) (h1 : s.state = 1) (hx : μ.x s.peerN = false) {t : Tm} (ht : t ∈ s.said) (hno : ∀ m, m < μ.sides.length → m ≠ i → names f (saidAt μ (m : Int)) (nm f t) = false) : can f μ.x μ.S t = false := by
  have hs := List.mem_of_getElem? hi
  obtain ⟨n, rfl, hn, hn2⟩ := h.said_atom hs ht
  refine h.cannot N hn (by unfold Small; omega) (fun sd hsd ho u hu he => ?_)
  obtain ⟨m, hm⟩ := List.getElem?_of_mem hsd
  by_cases hmi : m = i
  · subst hmi
    rw [hi] at hm
    cases hm
    exact h.shut hs h1 hx ho
  · have h5 := hno m (List.getElem?_eq_some_iff.1 hm).1 hmi
    rw [saidAt_nat, hm] at h5
    have h6 : names f sd.said (nm f (.atom n)) = true := names_iff.2 ⟨u, hu, he⟩
    rw [h5] at h6; cases h6

/-! ### forward -/
/-- A finished side that has said one thing more. -/
def Sd.more (s : Sd) (n : Int) : Sd := { s with sent := s.sent + 1, said := s.said ++ [textOf n] }
theorem say_ok {i : Nat} {n : Int} (hi : μ.sides[i]? = some s) (h1 : s.state = 1) (hl : μ.pool.length + 1 ≤ 300) :
    (μ.play f P 4 i n 0).2 = 0 ∧ (μ.play f P 4 i n 0).1.sides = μ.sides.set i (s.more n) ∧ (μ.play f P 4 i n 0).1.statics = μ.statics ∧ (μ.play f P 4 i n 0).1.pool = (μ.sent f P [.box s.keys.1 s.sent .empty (textOf n)]).pool := by
  have e1 : μ.play f P 4 i n 0 = μ.say f P i s n := by
    rw [act_eq (by omega) (by omega)]
    unfold MS.honest
    rw [sideAt_nat hi]
    show μ.act f P (i : Int).toNat s 4 n 0 = _
    rw [Int.toNat_natCast]; rfl
  have hroom : μ.room f [.box s.keys.1 s.sent .empty (textOf n)] = true := by
    unfold MS.room
    have := news_le (f := f) (μ := μ) [.box s.keys.1 s.sent .empty (textOf n)]
    exact decide_eq_true (by simp at this; omega)
  have e2 : μ.say f P i s n = ((μ.sent f P [.box s.keys.1 s.sent .empty (textOf n)]).setSide i (s.more n), 0) := by
    unfold MS.say
    rw [if_neg (by simp [h1]), if_neg (by rw [hroom]; simp)]
    rfl
  obtain ⟨e3, e4, e5, e6⟩ := sent_same (f := f) (P := P) [.box s.keys.1 s.sent .empty (textOf n)] (μ := μ)
  rw [e1, e2]
  exact ⟨rfl, by show (μ.sent f P _).sides.set i _ = _; rw [e3], e4, rfl⟩
theorem leak_sides (a b e : Int) : (μ.play f P 6 a b e).1.sides = μ.sides ∧ (μ.play f P 6 a b e).1.statics = μ.statics := by
  rw [play_leak_eq]
  unfold MS.leak
  split <;> exact ⟨rfl, rfl⟩
theorem Inv.forward (N : Nums f P) (hap : ∀ m n : Int, 0 ≤ m ∧ m ≤ 59 → 900 ≤ n ∧ n ≤ 998 → nm f (.atom (-1 - n)) ≠ nm f (.atom (-1 - m))) (h : Inv f P c μ) {l0 : List Sd} {n : Nat} {st sr n0 : Int} {d : Sd}
    (hs : μ.sides = l0 ++ [(sdI3 st (100 + n) (101 + n) sr 0 0 [] []).more n0, d]) (hd : d.said = []) (hu : ∀ s ∈ l0, ∀ t ∈ s.said, ∃ m, 0 ≤ m ∧ m ≤ 59 ∧ t = .atom (-1 - m)) (hn : 900 ≤ n0 ∧ n0 ≤ 998) : can f μ.x μ.S (.atom (-1 - n0)) = false := by
  refine h.cannot N (by omega) (by unfold Small; omega) (fun sd hsd ho u hm he => ?_)
  rw [hs] at hsd
  rcases List.mem_append.1 hsd with h1 | h1
  · obtain ⟨m, h2, h3, rfl⟩ := hu sd h1 u hm
    exact hap _ _ ⟨h2, h3⟩ hn he.symm
  · simp at h1
    rcases h1 with rfl | rfl
    · have hb : Go.Proofs.YtjodmedgkmeklaaGreat.bare f μ.x (ck3 (100 + n) (101 + n) sr st) = true := ho.2
      rw [bare_ck3] at hb
      simp [sh, h.noX (n := 100 + (n : Int)) (by omega), h.noX (n := 101 + (n : Int)) (by omega)] at hb
    · rw [hd] at hm; cases hm

end Go.Proofs.YtjodmedgkmeklaaGreat

/-
  The walk of ModelSecret.
-/
namespace Go.Proofs.YtjodmedgkmeklaaGreat
open Go Go.RowKit Go.Maps
attribute [local go_sem] extUpon run_store_tm
attribute [local go_sem ↓] Tm.val_cell eval_put_ne eval_put_none eval_put_same size_put eval_const
attribute [local go_sem ↓] meth_Atom meth_Public meth_Shared meth_Chain meth_Digest meth_Box meth_Empty
attribute [local go_sem ↓] run_build_chain run_build_digest run_build_box
attribute [local go_sem] ta_Atom_Atom ta_Public_Atom ta_Shared_Atom ta_Chain_Atom ta_Digest_Atom ta_Box_Atom ta_Empty_Atom ta_Nil_Atom ta_Atom_Public ta_Public_Public ta_Shared_Public ta_Chain_Public ta_Digest_Public ta_Box_Public ta_Empty_Public ta_Nil_Public ta_Atom_Shared ta_Public_Shared ta_Shared_Shared ta_Chain_Shared ta_Digest_Shared ta_Box_Shared ta_Empty_Shared ta_Nil_Shared ta_Atom_Chain ta_Public_Chain ta_Shared_Chain ta_Chain_Chain ta_Digest_Chain ta_Box_Chain ta_Empty_Chain ta_Nil_Chain ta_Atom_Digest ta_Public_Digest ta_Shared_Digest ta_Chain_Digest ta_Digest_Digest ta_Box_Digest ta_Empty_Digest ta_Nil_Digest ta_Atom_Box ta_Public_Box ta_Shared_Box ta_Chain_Box ta_Digest_Box ta_Box_Box ta_Empty_Box ta_Nil_Box ta_Atom_Empty ta_Public_Empty ta_Shared_Empty ta_Chain_Empty ta_Digest_Empty ta_Box_Empty ta_Empty_Empty ta_Nil_Empty
variable {f : Int → List UInt8} {P : Int → Prop} {w0 w W W2 W3 : World} {μ μ2 : MS} {c d wb : Nat} {B : Int} {F : Nat → Prop}

/-- Did another one say it? -/
def othB (f : Int → List UInt8) (μ : MS) (i : Nat) (t : Tm) (n : Nat) : Bool := (List.range n).any fun m => decide (m ≠ i) && names f (saidAt μ (m : Int)) (nm f t)
theorem othB_succ (i : Nat) (t : Tm) (n : Nat) : othB f μ i t (n + 1) = (othB f μ i t n || (decide (n ≠ i) && names f (saidAt μ (n : Int)) (nm f t))) := by
  unfold othB
  rw [List.range_succ, List.any_append]; simp
theorem othB_false {i : Nat} {t : Tm} {n : Nat} (h : othB f μ i t n = false) : ∀ m, m < n → m ≠ i → names f (saidAt μ (m : Int)) (nm f t) = false := fun m hm hne => by
  unfold othB at h
  rw [List.any_eq_false] at h
  have := h m (List.mem_range.2 hm)
  simpa [hne] using this
set_option maxHeartbeats 32000000 in
set_option maxRecDepth 100000 in
theorem ModelSecret_walk (T : Nat → Int) (av : Option Addr) (cap : Nat) (l : List Raw) (w : World) (hT : TabAt w T) (hl : l.length ≤ 9223372036854775807) (hr : RawAt w av l) :
    Calls Tryz.prog 7 #[.slice av l.length cap] w fun e w' => e = .returned (.bool true) ∧ Ext w w' := by
  have HN := hid (nums1 T)
  have HP : Hid (∀ n, P1 n → P1 n) := hid (fun _ h => h)
  have HI := hid (itoa_tab hT)
  have HPL := hid (play_law HN.out HP.out HI.out av cap l hl hr)
  clear hl hr hT
  generalize itoaT T = f at *
  go_enter Tryz.func7, Tryz.ntmps7
  go_wp2_with fail
  refine HPL.out.mono ?_
  rintro e w2 ⟨wb, μ, rfl, hpw⟩
  obtain ⟨w1, hE1, hwd⟩ := hpw.wd
  have HST := hid hpw.st
  have HI1 := hid (HI.out.later hE1)
  have HEW1 := hid hE1
  have hE2 := hE1.trans hwd.ext
  have hkn := known_any HN.out HP.out (HI.out.later hE2)
  clear hpw HPL hE1
  go_wp2_with fail
  refine hkn.mono ?_
  rintro e w3 ⟨rfl, hE3⟩
  have HW := hid (hwd.later hE3)
  have HE := hid (hE2.trans hE3)
  clear hkn hE2 hE3 hwd
  go_wp2_with fail
  refine (sides_w HN.out.small HP.out HW.out (by omega) (by omega)).mono ?_
  rintro e w4 ⟨sa, sc, rfl, hrow, hE4⟩
  obtain ⟨kb, hbs, htl⟩ := base_at HI1.out HW.out
  have HBS := hid hbs
  have HTL := hid htl
  have HX4 := hid hE4
  have HROW4 := hid hrow
  clear hrow hE4 hbs htl
  go_wp2_with fail
  refine (HBS.out w4 HX4.out).mono ?_
  rintro e w5 ⟨rfl, hE5⟩
  have HX5 := hid (HX4.out.trans hE5)
  have HROW := hid (HROW4.out.later hE5)
  have HIW := hid (HI1.out.later (HW.out.ext.trans HX5.out))
  clear hE5 HX4 HROW4
  go_wp2_with fail
  go_loopw [6] (fun iv wr => ∃ i : Nat, iv = .int .i64 i ∧ i ≤ μ.sides.length ∧ Hid (Ext w5 wr)) (fun iv _ => μ.sides.length - (intOf iv).toNat)
  case atStart => exact ⟨0, rfl, by omega, hid (Ext.refl _)⟩
  case round =>
    obtain ⟨i, rfl, hi, HY⟩ := hrel
    by_cases hlt : i < μ.sides.length
    · have hlt2 : (i : Int) < (μ.sides.length : Int) := by omega
      obtain ⟨g, rfl, hcell⟩ := HROW.out.at10 (by omega)
      have hsi := List.getElem?_eq_getElem hlt
      have hsm := List.getElem_mem hlt
      have HCI := hid (hcell i _ hsi)
      have HSI := hid hsi
      have HSM := hid hsm
      have hfew := HW.out.inv.few
      clear hcell hsi hsm
      generalize μ.sides[i] = s at *
      have c4 : wr.cell? ⟨g, i * 10 + 4, none⟩ = some (.int .i64 s.state) := HY.out.cell (HCI.out 4 _ rfl)
      have c5 : wr.cell? ⟨g, i * 10 + 5, none⟩ = some (.int .i64 s.peerN) := HY.out.cell (HCI.out 5 _ rfl)
      by_cases hst : s.state = 1
      ·
        rw [hst] at c4
        by_cases hp1 : s.peerN < 1
        ·
          go_wp2_with fail
          go_roundw
          case rel => exact ⟨i + 1, by go_num, by omega, HY⟩
          case measure => simp [intOf]; omega
        ·
          by_cases hp4 : 4 < s.peerN
          ·
            go_wp2_with fail
            go_roundw
            case rel => exact ⟨i + 1, by go_num, by omega, HY⟩
            case measure => simp [intOf]; omega
          ·
            have hlk := leaked_at HW.out s.peerN (intOk_small (by omega)) wr (HX5.out.trans HY.out)
            have hxl := HW.out.inv.xleak (n := s.peerN) (by omega)
            rw [← hxl] at hlk
            go_wp2_with fail
            refine hlk.mono ?_
            rintro e wl ⟨rfl, hEl⟩
            replace HY := hid (HY.out.trans hEl)
            clear hlk hEl c4 c5
            cases hx : μ.x s.peerN
            ·
              have HSEC := hid (fun (t : Tm) (ht : t ∈ s.said) (hno : othB f μ i t μ.sides.length = false) => HW.out.inv.secret HN.out HSI.out hst hx ht (othB_false hno))
              have hsd := said_w (HW.out.later (HX5.out.trans HY.out)) (by omega) (i : Int)
              have hse : saidAt μ (i : Int) = s.said := by rw [saidAt_nat, HSI.out]
              rw [hse] at hsd
              have HATM := hid (fun t (ht : t ∈ s.said) => HW.out.inv.said_atom HSM.out ht)
              have hsl : s.said.length ≤ 1000 := by have := (fin_step (HW.out.inv.cn s HSM.out) hst).2.2.2; omega
              clear hxl hx hse hst hp1 hp4
              go_wp2_with fail
              refine hsd.mono ?_
              rintro e w7 ⟨sa7, sc7, rfl, hrd7, hE7⟩
              have HRD7 := hid hrd7
              have HY7 := hid (HY.out.trans hE7)
              clear hsd hrd7 hE7 HY
              go_wp2_with fail
              go_loopw [8] (fun jv wj => ∃ j : Nat, jv = .int .i64 j ∧ j ≤ s.said.length ∧ Hid (Ext w7 wj)) (fun jv _ => s.said.length - (intOf jv).toNat)
              case atStart => exact ⟨0, rfl, by omega, hid (Ext.refl _)⟩
              case round =>
                obtain ⟨j, rfl, hj, HJ⟩ := hrel
                by_cases hlj : j < s.said.length
                · have hlj2 : (j : Int) < (s.said.length : Int) := by omega
                  have htm := List.getElem_mem hlj
                  obtain ⟨an, hat, hat0, hat1⟩ := HATM.out _ htm
                  obtain ⟨tu, td, htv⟩ := Va.of (t := s.said[j]) (by rw [hat]; simp)
                  obtain ⟨g7, rfl, _, hcell⟩ := HRD7.out (by simp; omega)
                  have HTC0 : Hid (w7.cell? ⟨g7, j, none⟩ = some (.iface tu td)) := hid (hcell j _ (by rw [List.getElem?_map, List.getElem?_eq_getElem hlj]; simp [htv.eq]))
                  have hall : s.said[j].all Small := by rw [hat]; show Small an; unfold Small; omega
                  have hsz : sz s.said[j] ≤ 10000 := by rw [hat]; simp [sz]
                  have hne : s.said[j] ≠ .non := by rw [hat]; simp
                  have HSEJ := hid (HSEC.out _ htm)
                  have HTVJ := hid htv.eq
                  have HOK := hid (And.intro hne (And.intro hall hsz))
                  clear hcell htv hall hsz hne hat hat0 hat1 htm
                  generalize s.said[j] = t at *
                  go_wp2_with fail
                  go_loopw [9, 10] (fun bv nv wn => ∃ n : Nat, nv = .int .i64 n ∧ n ≤ μ.sides.length ∧ Hid (Ext w7 wn) ∧ bv = .bool (othB f μ i t n)) (fun _ nv _ => μ.sides.length - (intOf nv).toNat)
                  case atStart => exact ⟨0, rfl, by omega, HJ, rfl⟩
                  case round =>
                    obtain ⟨n, rfl, hn, HN0, hbv⟩ := hrel
                    have HN4 := hid (HY7.out.trans HN0.out)
                    have HTC := HTC0
                    by_cases hln : n < μ.sides.length
                    · have hln2 : (n : Int) < (μ.sides.length : Int) := by omega
                      have HSU := hid (othB_succ (f := f) (μ := μ) i t n)
                      generalize hb : othB f μ i t n = b at *
                      clear hb
                      subst hbv
                      by_cases hni : n = i
                      · have hni2 : (n : Int) = (i : Int) := by omega
                        have hsu : othB f μ i t (n + 1) = b := by rw [HSU.out]; simp [hni]
                        go_wp2_with fail
                        go_roundw
                        case rel => exact ⟨n + 1, by go_num, by omega, HN0, by rw [hsu]⟩
                        case measure => simp [intOf]; omega
                      · have hni2 : ((n : Int) == (i : Int)) = false := by simp; omega
                        have hni3 : ¬ (n : Int) = (i : Int) := by omega
                        cases b
                        · have hsu : othB f μ i t (n + 1) = names f (saidAt μ (n : Int)) (nm f t) := by rw [HSU.out]; simp [hni]
                          have HSU2 := hid hsu
                          have HHAS := hid (fun (la : Option Addr) (lc : Nat) W' (hW : Ext w5 W') (hrd : Rd W' la ((saidAt μ (n : Int)).map Tm.val)) => by
                            have hq : μ.sides[n]? = some μ.sides[n] := List.getElem?_eq_getElem hln
                            have hsa : saidAt μ (n : Int) = μ.sides[n].said := by rw [saidAt_nat, hq]
                            have h1 := lhas_any (f := f) (W := W') (l := saidAt μ (n : Int)) (la := la) (lc := lc) (t := t) (HIW.out.later hW) (fun x hx => by
                              rw [hsa] at hx
                              obtain ⟨m, rfl, h2, h3⟩ := HW.out.inv.said_atom (List.getElem_mem hln) hx
                              exact ⟨by simp, by show Small m; unfold Small; omega, by simp [sz]⟩) HOK.out (by
                              rw [hsa]
                              have hcn := HW.out.inv.cn _ (List.getElem_mem hln)
                              have : μ.sides[n].said.length ≤ 60 := by
                                generalize μ.sides[n] = z at *
                                cases hcn with
                                | i3 _ _ _ _ _ _ _ _ _ _ hr => exact hr.fewS
                                | r3 _ _ _ _ _ _ _ _ _ _ hr => exact hr.fewS
                                | _ => exact Nat.zero_le _
                              omega) hrd
                            rw [HTVJ.out] at h1
                            exact h1)
                          clear hsu
                          generalize names f (saidAt μ (n : Int)) (nm f t) = nb at *
                          go_wp2_with fail
                          refine reg_begin 12 (by kernel_rfl) ?_
                          refine reg_hide (fun Q2 HQ => ?_)
                          generalize hW : World.drew _ = W8
                          have HE8 : Hid (Ext wr W8) := hid (by rw [← hW]; exact Ext.drew _)
                          clear hW
                          refine reg_pure 0 rfl (by kernel_rfl) (by kernel_rfl) ?_; apply Exists.intro; refine ⟨fun w' => ?_, ?_⟩; · go_simp; exact rfl
                          refine reg_pure 1 rfl (by kernel_rfl) (by kernel_rfl) ?_; apply Exists.intro; refine ⟨fun w' => ?_, ?_⟩; · go_simp; exact rfl
                          refine reg_pure 2 rfl (by kernel_rfl) (by kernel_rfl) ?_; apply Exists.intro; refine ⟨fun w' => ?_, ?_⟩; · go_simp; exact rfl
                          refine reg_pure 3 rfl (by kernel_rfl) (by kernel_rfl) ?_; apply Exists.intro; refine ⟨fun w' => ?_, ?_⟩; · go_simp; exact rfl
                          refine reg_pure 5 rfl (by kernel_rfl) (by kernel_rfl) ?_; apply Exists.intro; refine ⟨fun w' => ?_, ?_⟩; · go_simp; exact rfl
                          refine reg_pure 6 rfl (by kernel_rfl) (by kernel_rfl) ?_; apply Exists.intro; refine ⟨fun w' => ?_, ?_⟩; · go_simp; exact rfl
                          refine reg_pure 7 rfl (by kernel_rfl) (by kernel_rfl) ?_; apply Exists.intro; refine ⟨fun w' => ?_, ?_⟩; · go_simp; exact rfl
                          refine reg_quiet 8 rfl (by kernel_rfl) (by kernel_rfl) ?_; apply Exists.intro; refine ⟨fun w' hw' => ?_, ?_⟩; · have q0 : w'.cell? ⟨g7, j, none⟩ = some (.iface tu td) := (HE8.out.trans hw').cell (HN0.out.cell HTC.out); go_simp; exact ⟨rfl, Ext.refl _⟩
                          refine reg_one 4 rfl (by kernel_rfl) (by kernel_rfl) (fun w' hw' => ?_)
                          have hsd := said_w (HW.out.later (HX5.out.trans (HN4.out.trans (HE8.out.trans hw')))) (by omega) (n : Int)
                          go_simp
                          refine hsd.mono ?_
                          rintro e w6 ⟨na, nc, rfl, hnr, hE6⟩
                          refine ⟨hE6, ?_⟩
                          have HE6 := hid (HN0.out.trans ((HE8.out.trans hw').trans hE6))
                          have HNR := hid hnr
                          clear hsd hE6 hnr hw' 
                          refine reg_quiet 9 rfl (by kernel_rfl) (by kernel_rfl) ?_; apply Exists.intro; refine ⟨fun w' hw' => ?_, ?_⟩; · go_simp; exact HHAS.out na nc w' (HY7.out.trans (HE6.out.trans hw')) (HNR.out.later hw')
                          refine reg_pure 10 rfl (by kernel_rfl) (by kernel_rfl) ?_; apply Exists.intro; refine ⟨fun w' => ?_, ?_⟩; · go_simp; exact rfl
                          refine reg_pure 11 rfl (by kernel_rfl) (by kernel_rfl) ?_; apply Exists.intro; refine ⟨fun w' => ?_, ?_⟩; · go_simp; exact rfl
                          refine reg_done (by kernel_rfl) (fun W9 hw5 => ?_) _
                          rw [HQ.out]
                          clear HQ Q2
                          have HN5 := hid (HE6.out.trans hw5)
                          clear hw5
                          go_simp
                          go_wp2_with fail
                          go_roundw
                          case rel => exact ⟨n + 1, by go_num, by omega, HN5, by rw [HSU2.out]⟩
                          case measure => simp [intOf]; omega
                        · have hsu : othB f μ i t (n + 1) = true := by rw [HSU.out]; rfl
                          go_wp2_with fail
                          refine reg_begin 12 (by kernel_rfl) ?_
                          refine reg_hide (fun Q2 HQ => ?_)
                          generalize hW : World.drew _ = W8
                          have HE8 : Hid (Ext wr W8) := hid (by rw [← hW]; exact Ext.drew _)
                          clear hW
                          refine reg_pure 0 rfl (by kernel_rfl) (by kernel_rfl) ?_; apply Exists.intro; refine ⟨fun w' => ?_, ?_⟩; · go_simp; exact rfl
                          refine reg_pure 1 rfl (by kernel_rfl) (by kernel_rfl) ?_; apply Exists.intro; refine ⟨fun w' => ?_, ?_⟩; · go_simp; exact rfl
                          refine reg_skip 2 rfl (by kernel_rfl) (by kernel_rfl) ?_
                          refine reg_skip 3 rfl (by kernel_rfl) (by kernel_rfl) ?_
                          refine reg_skip 4 rfl (by kernel_rfl) (by kernel_rfl) ?_
                          refine reg_skip 5 rfl (by kernel_rfl) (by kernel_rfl) ?_
                          refine reg_skip 6 rfl (by kernel_rfl) (by kernel_rfl) ?_
                          refine reg_skip 7 rfl (by kernel_rfl) (by kernel_rfl) ?_
                          refine reg_skip 8 rfl (by kernel_rfl) (by kernel_rfl) ?_
                          refine reg_skip 9 rfl (by kernel_rfl) (by kernel_rfl) ?_
                          refine reg_pure 10 rfl (by kernel_rfl) (by kernel_rfl) ?_; apply Exists.intro; refine ⟨fun w' => ?_, ?_⟩; · go_simp; exact rfl
                          refine reg_pure 11 rfl (by kernel_rfl) (by kernel_rfl) ?_; apply Exists.intro; refine ⟨fun w' => ?_, ?_⟩; · go_simp; exact rfl
                          refine reg_done (by kernel_rfl) (fun W9 hw5 => ?_) _
                          rw [HQ.out]
                          clear HQ Q2
                          have HE9 := hid (HE8.out.trans hw5)
                          clear hw5
                          go_simp
                          have HN5 := hid (HN0.out.trans HE9.out)
                          go_wp2_with fail
                          go_roundw
                          case rel => exact ⟨n + 1, by go_num, by omega, HN5, by rw [hsu]⟩
                          case measure => simp [intOf]; omega
                    · have hln2 : ¬ (n : Int) < (μ.sides.length : Int) := by omega
                      obtain rfl : n = μ.sides.length := by omega
                      cases hb : othB f μ i t μ.sides.length
                      · rw [hb] at hbv
                        subst hbv
                        have hcan := fun W' (hW : Ext w3 W') => HTL.out.can W' hW t HOK.out.2.1 HOK.out.2.2
                        rw [HSEJ.out hb, HTVJ.out] at hcan
                        have HCAN := hid hcan
                        have q7 : wr.cell? ⟨g7, j, none⟩ = some (.iface tu td) := HN0.out.cell HTC0.out
                        clear hcan
                        go_wp2_with fail
                        refine (HCAN.out wr (HX5.out.trans HN4.out)).mono ?_
                        rintro e wz ⟨rfl, hEz⟩
                        have HZ := hid (HN0.out.trans hEz)
                        clear hEz
                        go_wp2_with fail
                        go_roundw
                        case rel => exact ⟨j + 1, by go_num, by omega, HZ⟩
                        case measure => simp [intOf]; omega
                      · rw [hb] at hbv
                        subst hbv
                        go_wp2_with fail
                        go_roundw
                        case rel => exact ⟨j + 1, by go_num, by omega, HN0⟩
                        case measure => simp [intOf]; omega
                · have hlj2 : ¬ (j : Int) < (s.said.length : Int) := by omega
                  have HZ := hid (HY7.out.trans HJ.out)
                  go_wp2_with fail
                  go_roundw
                  case rel => exact ⟨i + 1, by go_num, by omega, HZ⟩
                  case measure => simp [intOf]; omega
            ·
              go_wp2_with fail
              go_roundw
              case rel => exact ⟨i + 1, by go_num, by omega, HY⟩
              case measure => simp [intOf]; omega
      ·
        have hst2 : (s.state == 1) = false := by simp [hst]
        go_wp2_with fail
        go_roundw
        case rel => exact ⟨i + 1, by go_num, by omega, HY⟩
        case measure => simp [intOf]; omega
    · have hlt2 : ¬ (i : Int) < (μ.sides.length : Int) := by omega
      go_wp2_with fail
      go_ret
      exact ⟨rfl, HE.out.trans (HX5.out.trans HY.out)⟩

end Go.Proofs.YtjodmedgkmeklaaGreat

/-
  The row of ModelSecret: for every input the law returns true, and leaves its arguments as they were.
-/
namespace Go.Proofs.YtjodmedgkmeklaaGreat
open Go Go.RowKit Go.ChangeShapes Go.WideShapes Go.ChangeAt

set_option maxRecDepth 100000 in
set_option maxHeartbeats 1000000 in
theorem ModelSecret_lifted (os : Os) (started : os.Started) (H : Type) (enc : TypeId × Value → H) :
    ReturnsInHanded {} Tryz.checked os 7 .any (Rows.modelSecretSpec.pre6 enc Tryz.prog Tryz.f7 Rows.modelSecretRow.domain false) (Rows.modelSecretSpec.post enc Tryz.prog Tryz.f7 false true false false) := by
  refine returnsInHanded_of_change_shaped (C := Tryz.checked) own started (by kernel_rfl) Tryz.func7
    (ChangeSpec.witness6 (enc := enc) (C := Tryz.checked) false ⟨#[], #[.slice none 0 0], []⟩ 8 (by kernel_rfl) (by kernel_rfl) (by kernel_rfl) (by kernel_rfl)) ?_
  intro W base args ds gs before hval0 hW hcnd _ hsh _
  have hval : ∀ (j : Nat) t v, Tryz.f7.params[j]? = some t → args[j]? = some v → Value.okWide Tryz.prog W .any base t v := hval0
  have hW' := hW
  obtain ⟨p, q, hA0, hV, rfl, hfz, hnd⟩ := hW
  have hA : DataW.TrodAll enc Tryz.prog W 0 (fun _ => true) true Tryz.f7.params.toList args.toList ds p := hA0
  rw [Tryz.params7] at hA hval
  obtain ⟨v0, vs0, d0, ds0, p0, q0, hargs, rfl, rfl, h0, r0⟩ := trodAll_cons hA
  obtain ⟨rfl, rfl, rfl⟩ := trodAll_nil r0
  obtain rfl : args = #[v0] := by cases args; simp_all
  obtain ⟨rfl, rfl⟩ := trodVars_none hV
  have hlt0 : ∀ x ∈ p0, x.block < W.heap.size := fun x hx => by simpa using hW'.lt x (by simp [hx])
  have hk0 := h0
  obtain ⟨s0, len0, cap0, rfl⟩ := okWide_slice Tryz.underlying22 (hval 0 22 v0 rfl rfl)
  obtain ⟨fuel0, hf0⟩ := h0
  obtain ⟨av0, cav0, l0, hcs0, hr0, hl0⟩ := open_raws hf0
  simp only [Value.cells, List.cons.injEq, and_true] at hcs0
  obtain ⟨rfl, rfl, rfl⟩ := Value.slice.inj hcs0
  clear hA0 hval0
  simp only [List.append_nil] at hW'
  obtain ⟨T, hT⟩ := tab_of hsh
  refine (ModelSecret_walk T s0 cap0 l0 W hT hl0 hr0).mono fun e W' ⟨he, hg⟩ => ?_
  subst he
  exact ⟨_, rfl, _, _, _, _, _, _, hW', trodAll_cons_mk (shut_bool Tryz.underlying4 _) trodAll_mk0, (trodAll_cons_mk (Below.trod laidOut (by kernel_rfl) (of_decide_eq_true (by kernel_rfl)) hk0 hg hlt0) trodAll_mk0), rfl, hg.frame _, fun h => by cases h⟩

theorem ModelSecret_over : Rows.modelSecretRow.holds Tryz.pinned (OpenSpec.ofChange Rows.modelSecretSpec) :=
  OpenClaim.holds_of_wide 7 Tryz.f7 rfl rfl rfl rfl rfl rfl rfl ⟨rfl, rfl, rfl, rfl, rfl⟩ rfl rfl rfl rfl rfl (by kernel_rfl) Tryz.func7 (by kernel_rfl)
    (of_decide_eq_true (by kernel_rfl)) (by unfold Func.isWrapper; first | (rw [if_pos (by decide +kernel)]; kernel_rfl) | (rw [if_neg (by decide +kernel)]; exact ⟨rfl, rfl⟩))
    (fun os started H enc _ => ModelSecret_lifted os started H enc)

theorem ModelSecret_holds : Rows.ModelSecretSaid := ModelSecret_over
#print axioms ModelSecret_holds
end Go.Proofs.YtjodmedgkmeklaaGreat
