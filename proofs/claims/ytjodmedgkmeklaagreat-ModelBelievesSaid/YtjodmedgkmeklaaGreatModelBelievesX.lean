/-
  The row of ModelBelieves: for every input the law returns true, and leaves its arguments as they were.
-/
import Derived.Test.YtjodmedgkmeklaaGreatBase
/-
  The walk of ModelBelieves.
-/
namespace Go.Proofs.YtjodmedgkmeklaaGreat
open Go Go.RowKit Go.Maps
attribute [local go_sem] extUpon run_store_tm
attribute [local go_sem ↓] Tm.val_cell eval_put_ne eval_put_none eval_put_same size_put eval_const
attribute [local go_sem ↓] meth_Atom meth_Public meth_Shared meth_Chain meth_Digest meth_Box meth_Empty
attribute [local go_sem ↓] run_build_chain run_build_digest run_build_box
attribute [local go_sem] ta_Atom_Atom ta_Public_Atom ta_Shared_Atom ta_Chain_Atom ta_Digest_Atom ta_Box_Atom ta_Empty_Atom ta_Nil_Atom ta_Atom_Public ta_Public_Public ta_Shared_Public ta_Chain_Public ta_Digest_Public ta_Box_Public ta_Empty_Public ta_Nil_Public ta_Atom_Shared ta_Public_Shared ta_Shared_Shared ta_Chain_Shared ta_Digest_Shared ta_Box_Shared ta_Empty_Shared ta_Nil_Shared ta_Atom_Chain ta_Public_Chain ta_Shared_Chain ta_Chain_Chain ta_Digest_Chain ta_Box_Chain ta_Empty_Chain ta_Nil_Chain ta_Atom_Digest ta_Public_Digest ta_Shared_Digest ta_Chain_Digest ta_Digest_Digest ta_Box_Digest ta_Empty_Digest ta_Nil_Digest ta_Atom_Box ta_Public_Box ta_Shared_Box ta_Chain_Box ta_Digest_Box ta_Box_Box ta_Empty_Box ta_Nil_Box ta_Atom_Empty ta_Public_Empty ta_Shared_Empty ta_Chain_Empty ta_Digest_Empty ta_Box_Empty ta_Empty_Empty ta_Nil_Empty
variable {f : Int → List UInt8} {P : Int → Prop} {w0 w W W2 W3 : World} {μ μ2 : MS} {c d wb : Nat} {B : Int} {F : Nat → Prop} {s : Sd}

/-- A side that another one may believe. -/
def goodB (f : Int → List UInt8) (s r : Sd) : Bool := decide (r.static = s.peerN) && ((r.first != s.first) && (if s.first then (decide (r.mid ≠ .non) && decide (nm f r.mid = nm f s.mid)) else (decide (r.state = 1) && decide (nm f r.hash = nm f s.hash))))
theorem Cn.mid_ok (hN : ∀ n, P n → Small n) (h : Cn P c s) (hf : P s.fresh) (hs : P s.static) : s.mid.all Small ∧ sz s.mid ≤ 1000 ∧ s.hash.all Small ∧ sz s.hash ≤ 1000 ∧ s.hash ≠ .non ∧ (2 ≤ s.step → s.mid ≠ .non) := by
  cases h with
  | s0 => exact ⟨trivial, by simp [sd0, sz], ⟨trivial, trivial⟩, by simp [sd0, hash0, sz], by simp [sd0, hash0], fun h => absurd h (by simp [sd0])⟩
  | i1 => exact ⟨trivial, by simp [sdI1, sz], all_of hN (ok_hash1 hf), by show sz (hash1 _) ≤ _; rw [sz_hash1]; omega, by simp [sdI1, hash1], fun h => absurd h (by simp [sdI1])⟩
  | r1 _ _ _ _ _ h1 => exact ⟨trivial, by simp [sdR1, sz], all_of hN (ok_hash1 h1), by show sz (hash1 _) ≤ _; rw [sz_hash1]; omega, by simp [sdR1, hash1], fun h => absurd h (by simp [sdR1])⟩
  | i2 _ _ _ _ _ _ h1 h2 => exact ⟨all_of hN (ok_hash4 hf h1 h2), by show sz (hash4 _ _ _) ≤ _; rw [sz_hash4]; omega, all_of hN (ok_hash4 hf h1 h2), by show sz (hash4 _ _ _) ≤ _; rw [sz_hash4]; omega, by simp [sdI2, hash4], fun _ => by simp [sdI2, hash4]⟩
  | r2 _ _ _ _ _ h1 => exact ⟨all_of hN (ok_hash4 h1 hf hs), by show sz (hash4 _ _ _) ≤ _; rw [sz_hash4]; omega, all_of hN (ok_hash4 h1 hf hs), by show sz (hash4 _ _ _) ≤ _; rw [sz_hash4]; omega, by simp [sdR2, hash4], fun _ => by simp [sdR2, hash4]⟩
  | i3 _ _ _ _ _ _ _ _ h1 h2 => exact ⟨all_of hN (ok_hash4 hf h1 h2), by show sz (hash4 _ _ _) ≤ _; rw [sz_hash4]; omega, all_of hN (ok_hash6 hf h1 h2 hs), by show sz (hash6 _ _ _ _) ≤ _; rw [sz_hash6]; omega, by simp [sdI3, hash6], fun _ => by simp [sdI3, hash4]⟩
  | r3 _ _ _ _ _ _ _ _ h1 h2 => exact ⟨all_of hN (ok_hash4 h1 hf hs), by show sz (hash4 _ _ _) ≤ _; rw [sz_hash4]; omega, all_of hN (ok_hash6 h1 hf hs h2), by show sz (hash6 _ _ _ _) ≤ _; rw [sz_hash6]; omega, by simp [sdR3, hash6], fun _ => by simp [sdR3, hash4]⟩
/-- Whoever is believed was there. -/
theorem Inv.believed (h : Inv f P c μ) {s : Sd} (hs : s ∈ μ.sides) (h1 : s.state = 1) (hx : μ.x s.peerN = false) (hmid : ∀ r ∈ μ.sides, 2 ≤ r.step → r.mid ≠ .non) : μ.sides.any (goodB f s) = true := by
  have h3 := (h.fin_iff hs).1.1 h1
  rw [List.any_eq_true]
  cases hf : s.first with
  | true =>
    obtain ⟨r, hr, e1, e2, e3, e4⟩ := (h.bel s hs).ai hf (by omega) hx
    refine ⟨r, hr, ?_⟩
    unfold goodB
    simp [e1, e2, hf, e4, hmid s hs (by omega)]
  | false =>
    obtain ⟨r, hr, e1, e2, e3, e4⟩ := (h.bel s hs).ar hf h3 hx
    refine ⟨r, hr, ?_⟩
    unfold goodB
    simp [e1, e2, hf, e4, (h.fin_iff hr).1.2 e3]
theorem any_succ {l : List Sd} {k : Nat} (p : Sd → Bool) (h : k < l.length) : (l.take (k + 1)).any p = ((l.take k).any p || p l[k]) := by
  rw [List.take_succ_eq_append_getElem h, List.any_append]; simp

set_option maxHeartbeats 32000000 in
set_option maxRecDepth 100000 in
theorem ModelBelieves_walk (T : Nat → Int) (av : Option Addr) (cap : Nat) (l : List Raw) (w : World) (hT : TabAt w T) (hl : l.length ≤ 9223372036854775807) (hr : RawAt w av l) :
    Calls Tryz.prog 3 #[.slice av l.length cap] w fun e w' => e = .returned (.bool true) ∧ Ext w w' := by
  have HN := hid (nums1 T)
  have HP : Hid (∀ n, P1 n → P1 n) := hid (fun _ h => h)
  have HI := hid (itoa_tab hT)
  have HPL := hid (play_law HN.out HP.out HI.out av cap l hl hr)
  clear hl hr hT
  generalize itoaT T = f at *
  go_enter Tryz.func3, Tryz.ntmps3
  go_wp2_with fail
  refine HPL.out.mono ?_
  rintro e w2 ⟨wb, μ, rfl, hpw⟩
  obtain ⟨w1, hE1, hwd⟩ := hpw.wd
  have HST := hid hpw.st
  have HI1 := hid (HI.out.later hE1)
  have HEW1 := hid hE1
  have hE2 := hE1.trans hwd.ext
  have hkn := known_any HN.out HP.out (HI.out.later hE2)
  clear hpw HPL hE1
  go_wp2_with fail
  refine hkn.mono ?_
  rintro e w3 ⟨rfl, hE3⟩
  have HW := hid (hwd.later hE3)
  have HE := hid (hE2.trans hE3)
  clear hkn hE2 hE3 hwd
  go_wp2_with fail
  refine (sides_w HN.out.small HP.out HW.out (by omega) (by omega)).mono ?_
  rintro e w5 ⟨sa, sc, rfl, hrow, hE5⟩
  have HX5 := hid hE5
  have HROW := hid hrow
  have hfw := HW.out.inv.few
  have HIW := hid (HI1.out.later (HW.out.ext.trans HX5.out))
  clear hrow hE5
  go_wp2_with fail
  go_loopw [5] (fun iv wr => ∃ i : Nat, iv = .int .i64 i ∧ i ≤ μ.sides.length ∧ Hid (Ext w5 wr)) (fun iv _ => μ.sides.length - (intOf iv).toNat)
  case atStart => exact ⟨0, rfl, by omega, hid (Ext.refl _)⟩
  case round =>
    obtain ⟨i, rfl, hi, HY⟩ := hrel
    by_cases hlt : i < μ.sides.length
    · have hlt2 : (i : Int) < (μ.sides.length : Int) := by omega
      obtain ⟨g, rfl, hcell⟩ := HROW.out.at10 (by omega)
      have hsi := List.getElem?_eq_getElem hlt
      have hsm := List.getElem_mem hlt
      have HCE := hid hcell
      have HCI := hid (hcell i _ hsi)
      have HSM := hid hsm
      clear hcell hsi hsm
      generalize μ.sides[i] = s at *
      have c4 : wr.cell? ⟨g, i * 10 + 4, none⟩ = some (.int .i64 s.state) := HY.out.cell (HCI.out 4 _ rfl)
      have c5 : wr.cell? ⟨g, i * 10 + 5, none⟩ = some (.int .i64 s.peerN) := HY.out.cell (HCI.out 5 _ rfl)
      by_cases hst : s.state = 1
      ·
        rw [hst] at c4
        by_cases hp1 : s.peerN < 1
        ·
          go_wp2_with fail
          go_roundw
          case rel => exact ⟨i + 1, by go_num, by omega, HY⟩
          case measure => simp [intOf]; omega
        ·
          by_cases hp4 : 4 < s.peerN
          ·
            go_wp2_with fail
            go_roundw
            case rel => exact ⟨i + 1, by go_num, by omega, HY⟩
            case measure => simp [intOf]; omega
          ·
            have hlk := leaked_at HW.out s.peerN (intOk_small (by omega)) wr (HX5.out.trans HY.out)
            have hxl := HW.out.inv.xleak (n := s.peerN) (by omega)
            rw [← hxl] at hlk
            go_wp2_with fail
            refine hlk.mono ?_
            rintro e wl ⟨rfl, hEl⟩
            replace HY := hid (HY.out.trans hEl)
            clear hlk hEl c4 c5
            cases hx : μ.x s.peerN
            ·
              have hown := HW.out.inv.own HP.out
              have hmo := fun r (hr : r ∈ μ.sides) => (HW.out.inv.cn r hr).mid_ok HN.out.small (hown.fr r hr) (hown.st r hr)
              have HALL := hid (HW.out.inv.believed HSM.out hst hx (fun r hr => (hmo r hr).2.2.2.2.2))
              have HMO := hid hmo
              have hsf := (HW.out.inv.fin_iff HSM.out).1.1 hst
              obtain ⟨mu, md, hmv⟩ := Va.of ((hmo s HSM.out).2.2.2.2.2 (by omega))
              obtain ⟨hu, hd, hhv⟩ := Va.of (hmo s HSM.out).2.2.2.2.1
              have HMV := hid hmv.eq
              have HHV := hid hhv.eq
              clear hown hmo hmv hhv hxl hsf hx
              go_wp2_with fail
              go_loopw [6, 7] (fun bv iv wk => ∃ k : Nat, iv = .int .i64 k ∧ k ≤ μ.sides.length ∧ Hid (Ext w5 wk) ∧ bv = .bool ((μ.sides.take k).any (goodB f s))) (fun _ iv _ => μ.sides.length - (intOf iv).toNat)
              case atStart => exact ⟨0, rfl, by omega, HY, rfl⟩
              case round =>
                obtain ⟨k, rfl, hk, HK, hbv⟩ := hrel
                by_cases hlk : k < μ.sides.length
                · have hlk2 : (k : Int) < (μ.sides.length : Int) := by omega
                  have HAS := hid (any_succ (goodB f s) hlk)
                  have HCK := hid (HCE.out k _ (List.getElem?_eq_getElem hlk))
                  have HRM := hid (List.getElem_mem hlk)
                  generalize μ.sides[k] = r at *
                  generalize hb : (μ.sides.take k).any (goodB f s) = b at *
                  clear hb
                  subst hbv
                  go_wp2_with fail
                  by_cases hrs : r.static = s.peerN
                  ·
                    have hrs2 : (r.static != s.peerN) = false := by simp [hrs]
                    cases hsf : s.first
                    ·
                      cases hrf : r.first
                      ·
                        refine reg_begin 24 (by kernel_rfl) ?_
                        refine reg_hide (fun Q2 HQ => ?_)
                        generalize hW : World.drew _ = W8
                        have HE8 : Hid (Ext wr W8) := hid (by rw [← hW]; exact Ext.drew _)
                        clear hW
                        refine reg_pure 0 rfl (by kernel_rfl) (by kernel_rfl) ?_; apply Exists.intro; refine ⟨fun w' => ?_, ?_⟩; · go_simp; exact rfl
                        refine reg_pure 1 rfl (by kernel_rfl) (by kernel_rfl) ?_; apply Exists.intro; refine ⟨fun w' => ?_, ?_⟩; · go_simp; exact rfl
                        refine reg_pure 2 rfl (by kernel_rfl) (by kernel_rfl) ?_; apply Exists.intro; refine ⟨fun w' => ?_, ?_⟩; · go_simp; exact rfl
                        refine reg_pure 3 rfl (by kernel_rfl) (by kernel_rfl) ?_; apply Exists.intro; refine ⟨fun w' => ?_, ?_⟩; · go_simp; exact rfl
                        refine reg_quiet 4 rfl (by kernel_rfl) (by kernel_rfl) ?_; apply Exists.intro; refine ⟨fun w' hw' => ?_, ?_⟩; · have q0 : w'.cell? ⟨g, k * 10 + 1, none⟩ = some (.int .i64 r.static) := (HE8.out.trans hw').cell (HK.out.cell (HCK.out 1 _ rfl)); go_simp; exact ⟨rfl, Ext.refl _⟩
                        refine reg_pure 5 rfl (by kernel_rfl) (by kernel_rfl) ?_; apply Exists.intro; refine ⟨fun w' => ?_, ?_⟩; · go_simp; exact rfl
                        refine reg_pure 6 rfl (by kernel_rfl) (by kernel_rfl) ?_; apply Exists.intro; refine ⟨fun w' => ?_, ?_⟩; · go_simp; exact rfl
                        refine reg_pure 7 rfl (by kernel_rfl) (by kernel_rfl) ?_; apply Exists.intro; refine ⟨fun w' => ?_, ?_⟩; · go_simp; exact rfl
                        refine reg_pure 8 rfl (by kernel_rfl) (by kernel_rfl) ?_; apply Exists.intro; refine ⟨fun w' => ?_, ?_⟩; · go_simp; exact rfl
                        refine reg_quiet 9 rfl (by kernel_rfl) (by kernel_rfl) ?_; apply Exists.intro; refine ⟨fun w' hw' => ?_, ?_⟩; · have q0 : w'.cell? ⟨g, i * 10 + 5, none⟩ = some (.int .i64 s.peerN) := (HE8.out.trans hw').cell (HK.out.cell (HCI.out 5 _ rfl)); go_simp; exact ⟨rfl, Ext.refl _⟩
                        refine reg_pure 10 rfl (by kernel_rfl) (by kernel_rfl) ?_; apply Exists.intro; refine ⟨fun w' => ?_, ?_⟩; · go_simp; exact rfl
                        refine reg_pure 11 rfl (by kernel_rfl) (by kernel_rfl) ?_; apply Exists.intro; refine ⟨fun w' => ?_, ?_⟩; · go_simp; exact rfl
                        refine reg_pure 12 rfl (by kernel_rfl) (by kernel_rfl) ?_; apply Exists.intro; refine ⟨fun w' => ?_, ?_⟩; · go_simp; exact rfl
                        refine reg_pure 13 rfl (by kernel_rfl) (by kernel_rfl) ?_; apply Exists.intro; refine ⟨fun w' => ?_, ?_⟩; · go_simp; exact rfl
                        refine reg_pure 14 rfl (by kernel_rfl) (by kernel_rfl) ?_; apply Exists.intro; refine ⟨fun w' => ?_, ?_⟩; · go_simp; exact rfl
                        refine reg_pure 15 rfl (by kernel_rfl) (by kernel_rfl) ?_; apply Exists.intro; refine ⟨fun w' => ?_, ?_⟩; · go_simp; exact rfl
                        refine reg_quiet 16 rfl (by kernel_rfl) (by kernel_rfl) ?_; apply Exists.intro; refine ⟨fun w' hw' => ?_, ?_⟩; · have q0 : w'.cell? ⟨g, k * 10, none⟩ = some (.bool false) := hrf ▸ (HE8.out.trans hw').cell (HK.out.cell (HCK.out 0 _ rfl)); go_simp; exact ⟨rfl, Ext.refl _⟩
                        refine reg_pure 17 rfl (by kernel_rfl) (by kernel_rfl) ?_; apply Exists.intro; refine ⟨fun w' => ?_, ?_⟩; · go_simp; exact rfl
                        refine reg_pure 18 rfl (by kernel_rfl) (by kernel_rfl) ?_; apply Exists.intro; refine ⟨fun w' => ?_, ?_⟩; · go_simp; exact rfl
                        refine reg_pure 19 rfl (by kernel_rfl) (by kernel_rfl) ?_; apply Exists.intro; refine ⟨fun w' => ?_, ?_⟩; · go_simp; exact rfl
                        refine reg_pure 20 rfl (by kernel_rfl) (by kernel_rfl) ?_; apply Exists.intro; refine ⟨fun w' => ?_, ?_⟩; · go_simp; exact rfl
                        refine reg_quiet 21 rfl (by kernel_rfl) (by kernel_rfl) ?_; apply Exists.intro; refine ⟨fun w' hw' => ?_, ?_⟩; · have q0 : w'.cell? ⟨g, i * 10, none⟩ = some (.bool false) := hsf ▸ (HE8.out.trans hw').cell (HK.out.cell (HCI.out 0 _ rfl)); go_simp; exact ⟨rfl, Ext.refl _⟩
                        refine reg_pure 22 rfl (by kernel_rfl) (by kernel_rfl) ?_; apply Exists.intro; refine ⟨fun w' => ?_, ?_⟩; · go_simp; exact rfl
                        refine reg_pure 23 rfl (by kernel_rfl) (by kernel_rfl) ?_; apply Exists.intro; refine ⟨fun w' => ?_, ?_⟩; · go_simp; exact rfl
                        refine reg_done (by kernel_rfl) (fun W9 hw5 => ?_) _
                        rw [HQ.out]
                        clear HQ Q2
                        have HK9 := hid (HE8.out.trans hw5)
                        clear hw5
                        go_simp
                        have HZ := hid (HK.out.trans HK9.out)
                        clear HE8 HK9
                        have hgo : goodB f s r = false := by unfold goodB; simp [hsf, hrf]
                        go_wp2_with fail
                        go_roundw
                        case rel => exact ⟨k + 1, by go_num, by omega, HZ, by rw [HAS.out, hgo, Bool.or_false]⟩
                        case measure => simp [intOf]; omega
                      ·
                        refine reg_begin 24 (by kernel_rfl) ?_
                        refine reg_hide (fun Q2 HQ => ?_)
                        generalize hW : World.drew _ = W8
                        have HE8 : Hid (Ext wr W8) := hid (by rw [← hW]; exact Ext.drew _)
                        clear hW
                        refine reg_pure 0 rfl (by kernel_rfl) (by kernel_rfl) ?_; apply Exists.intro; refine ⟨fun w' => ?_, ?_⟩; · go_simp; exact rfl
                        refine reg_pure 1 rfl (by kernel_rfl) (by kernel_rfl) ?_; apply Exists.intro; refine ⟨fun w' => ?_, ?_⟩; · go_simp; exact rfl
                        refine reg_pure 2 rfl (by kernel_rfl) (by kernel_rfl) ?_; apply Exists.intro; refine ⟨fun w' => ?_, ?_⟩; · go_simp; exact rfl
                        refine reg_pure 3 rfl (by kernel_rfl) (by kernel_rfl) ?_; apply Exists.intro; refine ⟨fun w' => ?_, ?_⟩; · go_simp; exact rfl
                        refine reg_quiet 4 rfl (by kernel_rfl) (by kernel_rfl) ?_; apply Exists.intro; refine ⟨fun w' hw' => ?_, ?_⟩; · have q0 : w'.cell? ⟨g, k * 10 + 1, none⟩ = some (.int .i64 r.static) := (HE8.out.trans hw').cell (HK.out.cell (HCK.out 1 _ rfl)); go_simp; exact ⟨rfl, Ext.refl _⟩
                        refine reg_pure 5 rfl (by kernel_rfl) (by kernel_rfl) ?_; apply Exists.intro; refine ⟨fun w' => ?_, ?_⟩; · go_simp; exact rfl
                        refine reg_pure 6 rfl (by kernel_rfl) (by kernel_rfl) ?_; apply Exists.intro; refine ⟨fun w' => ?_, ?_⟩; · go_simp; exact rfl
                        refine reg_pure 7 rfl (by kernel_rfl) (by kernel_rfl) ?_; apply Exists.intro; refine ⟨fun w' => ?_, ?_⟩; · go_simp; exact rfl
                        refine reg_pure 8 rfl (by kernel_rfl) (by kernel_rfl) ?_; apply Exists.intro; refine ⟨fun w' => ?_, ?_⟩; · go_simp; exact rfl
                        refine reg_quiet 9 rfl (by kernel_rfl) (by kernel_rfl) ?_; apply Exists.intro; refine ⟨fun w' hw' => ?_, ?_⟩; · have q0 : w'.cell? ⟨g, i * 10 + 5, none⟩ = some (.int .i64 s.peerN) := (HE8.out.trans hw').cell (HK.out.cell (HCI.out 5 _ rfl)); go_simp; exact ⟨rfl, Ext.refl _⟩
                        refine reg_pure 10 rfl (by kernel_rfl) (by kernel_rfl) ?_; apply Exists.intro; refine ⟨fun w' => ?_, ?_⟩; · go_simp; exact rfl
                        refine reg_pure 11 rfl (by kernel_rfl) (by kernel_rfl) ?_; apply Exists.intro; refine ⟨fun w' => ?_, ?_⟩; · go_simp; exact rfl
                        refine reg_pure 12 rfl (by kernel_rfl) (by kernel_rfl) ?_; apply Exists.intro; refine ⟨fun w' => ?_, ?_⟩; · go_simp; exact rfl
                        refine reg_pure 13 rfl (by kernel_rfl) (by kernel_rfl) ?_; apply Exists.intro; refine ⟨fun w' => ?_, ?_⟩; · go_simp; exact rfl
                        refine reg_pure 14 rfl (by kernel_rfl) (by kernel_rfl) ?_; apply Exists.intro; refine ⟨fun w' => ?_, ?_⟩; · go_simp; exact rfl
                        refine reg_pure 15 rfl (by kernel_rfl) (by kernel_rfl) ?_; apply Exists.intro; refine ⟨fun w' => ?_, ?_⟩; · go_simp; exact rfl
                        refine reg_quiet 16 rfl (by kernel_rfl) (by kernel_rfl) ?_; apply Exists.intro; refine ⟨fun w' hw' => ?_, ?_⟩; · have q0 : w'.cell? ⟨g, k * 10, none⟩ = some (.bool true) := hrf ▸ (HE8.out.trans hw').cell (HK.out.cell (HCK.out 0 _ rfl)); go_simp; exact ⟨rfl, Ext.refl _⟩
                        refine reg_pure 17 rfl (by kernel_rfl) (by kernel_rfl) ?_; apply Exists.intro; refine ⟨fun w' => ?_, ?_⟩; · go_simp; exact rfl
                        refine reg_pure 18 rfl (by kernel_rfl) (by kernel_rfl) ?_; apply Exists.intro; refine ⟨fun w' => ?_, ?_⟩; · go_simp; exact rfl
                        refine reg_pure 19 rfl (by kernel_rfl) (by kernel_rfl) ?_; apply Exists.intro; refine ⟨fun w' => ?_, ?_⟩; · go_simp; exact rfl
                        refine reg_pure 20 rfl (by kernel_rfl) (by kernel_rfl) ?_; apply Exists.intro; refine ⟨fun w' => ?_, ?_⟩; · go_simp; exact rfl
                        refine reg_quiet 21 rfl (by kernel_rfl) (by kernel_rfl) ?_; apply Exists.intro; refine ⟨fun w' hw' => ?_, ?_⟩; · have q0 : w'.cell? ⟨g, i * 10, none⟩ = some (.bool false) := hsf ▸ (HE8.out.trans hw').cell (HK.out.cell (HCI.out 0 _ rfl)); go_simp; exact ⟨rfl, Ext.refl _⟩
                        refine reg_pure 22 rfl (by kernel_rfl) (by kernel_rfl) ?_; apply Exists.intro; refine ⟨fun w' => ?_, ?_⟩; · go_simp; exact rfl
                        refine reg_pure 23 rfl (by kernel_rfl) (by kernel_rfl) ?_; apply Exists.intro; refine ⟨fun w' => ?_, ?_⟩; · go_simp; exact rfl
                        refine reg_done (by kernel_rfl) (fun W9 hw5 => ?_) _
                        rw [HQ.out]
                        clear HQ Q2
                        have HK9 := hid (HE8.out.trans hw5)
                        clear hw5
                        go_simp
                        have HZ := hid (HK.out.trans HK9.out)
                        clear HE8 HK9
                        have d0 : W9.cell? ⟨g, i * 10, none⟩ = some (.bool false) := hsf ▸ HZ.out.cell (HCI.out 0 _ rfl)
                        go_wp2_with fail
                        clear d0
                        cases b
                        ·
                          by_cases hrn : r.state = 1
                          ·
                            obtain ⟨ru, rd, hrv⟩ := Va.of (HMO.out r HRM.out).2.2.2.2.1
                            have hsame := fun W' (hW : Ext w5 W') => same_any (R := Small) (f := f) r.hash s.hash W' (HIW.out.later hW) (HMO.out r HRM.out).2.2.1 (HMO.out s HSM.out).2.2.1 (by have := (HMO.out r HRM.out).2.2.2.1; omega) (by have := (HMO.out s HSM.out).2.2.2.1; omega)
                            rw [hrv.eq, HHV.out] at hsame
                            have HSAME := hid hsame
                            have HRV := hid hrv.eq
                            have HRN := hid hrn
                            have hgo : goodB f s r = decide (nm f r.hash = nm f s.hash) := by unfold goodB; simp [hsf, hrf, hrs, hrn]
                            have HGO := hid hgo
                            clear hsame hgo hrv
                            generalize decide (nm f r.hash = nm f s.hash) = bb at *
                            refine reg_begin 23 (by kernel_rfl) ?_
                            refine reg_hide (fun Q2 HQ => ?_)
                            generalize hW : World.drew _ = Wa
                            have HE9 : Hid (Ext W9 Wa) := hid (by rw [← hW]; exact Ext.drew _)
                            clear hW
                            refine reg_pure 0 rfl (by kernel_rfl) (by kernel_rfl) ?_; apply Exists.intro; refine ⟨fun w' => ?_, ?_⟩; · go_simp; exact rfl
                            refine reg_pure 1 rfl (by kernel_rfl) (by kernel_rfl) ?_; apply Exists.intro; refine ⟨fun w' => ?_, ?_⟩; · go_simp; exact rfl
                            refine reg_pure 2 rfl (by kernel_rfl) (by kernel_rfl) ?_; apply Exists.intro; refine ⟨fun w' => ?_, ?_⟩; · go_simp; exact rfl
                            refine reg_pure 3 rfl (by kernel_rfl) (by kernel_rfl) ?_; apply Exists.intro; refine ⟨fun w' => ?_, ?_⟩; · go_simp; exact rfl
                            refine reg_pure 4 rfl (by kernel_rfl) (by kernel_rfl) ?_; apply Exists.intro; refine ⟨fun w' => ?_, ?_⟩; · go_simp; exact rfl
                            refine reg_pure 5 rfl (by kernel_rfl) (by kernel_rfl) ?_; apply Exists.intro; refine ⟨fun w' => ?_, ?_⟩; · go_simp; exact rfl
                            refine reg_quiet 6 rfl (by kernel_rfl) (by kernel_rfl) ?_; apply Exists.intro; refine ⟨fun w' hw' => ?_, ?_⟩; · have q0 : w'.cell? ⟨g, k * 10 + 4, none⟩ = some (.int .i64 1) := HRN.out ▸ (HE9.out.trans hw').cell (HZ.out.cell (HCK.out 4 _ rfl)); go_simp; exact ⟨rfl, Ext.refl _⟩
                            refine reg_pure 7 rfl (by kernel_rfl) (by kernel_rfl) ?_; apply Exists.intro; refine ⟨fun w' => ?_, ?_⟩; · go_simp; exact rfl
                            refine reg_pure 8 rfl (by kernel_rfl) (by kernel_rfl) ?_; apply Exists.intro; refine ⟨fun w' => ?_, ?_⟩; · go_simp; exact rfl
                            refine reg_pure 9 rfl (by kernel_rfl) (by kernel_rfl) ?_; apply Exists.intro; refine ⟨fun w' => ?_, ?_⟩; · go_simp; exact rfl
                            refine reg_pure 10 rfl (by kernel_rfl) (by kernel_rfl) ?_; apply Exists.intro; refine ⟨fun w' => ?_, ?_⟩; · go_simp; exact rfl
                            refine reg_pure 11 rfl (by kernel_rfl) (by kernel_rfl) ?_; apply Exists.intro; refine ⟨fun w' => ?_, ?_⟩; · go_simp; exact rfl
                            refine reg_pure 12 rfl (by kernel_rfl) (by kernel_rfl) ?_; apply Exists.intro; refine ⟨fun w' => ?_, ?_⟩; · go_simp; exact rfl
                            refine reg_quiet 13 rfl (by kernel_rfl) (by kernel_rfl) ?_; apply Exists.intro; refine ⟨fun w' hw' => ?_, ?_⟩; · have q0 : w'.cell? ⟨g, k * 10 + 6, none⟩ = some (.iface ru rd) := HRV.out ▸ (HE9.out.trans hw').cell (HZ.out.cell (HCK.out 6 _ rfl)); go_simp; exact ⟨rfl, Ext.refl _⟩
                            refine reg_pure 14 rfl (by kernel_rfl) (by kernel_rfl) ?_; apply Exists.intro; refine ⟨fun w' => ?_, ?_⟩; · go_simp; exact rfl
                            refine reg_pure 15 rfl (by kernel_rfl) (by kernel_rfl) ?_; apply Exists.intro; refine ⟨fun w' => ?_, ?_⟩; · go_simp; exact rfl
                            refine reg_pure 16 rfl (by kernel_rfl) (by kernel_rfl) ?_; apply Exists.intro; refine ⟨fun w' => ?_, ?_⟩; · go_simp; exact rfl
                            refine reg_pure 17 rfl (by kernel_rfl) (by kernel_rfl) ?_; apply Exists.intro; refine ⟨fun w' => ?_, ?_⟩; · go_simp; exact rfl
                            refine reg_quiet 18 rfl (by kernel_rfl) (by kernel_rfl) ?_; apply Exists.intro; refine ⟨fun w' hw' => ?_, ?_⟩; · have q0 : w'.cell? ⟨g, i * 10 + 6, none⟩ = some (.iface hu hd) := HHV.out ▸ (HE9.out.trans hw').cell (HZ.out.cell (HCI.out 6 _ rfl)); go_simp; exact ⟨rfl, Ext.refl _⟩
                            refine reg_quiet 19 rfl (by kernel_rfl) (by kernel_rfl) ?_; apply Exists.intro; refine ⟨fun w' hw' => ?_, ?_⟩; · go_simp; exact HSAME.out w' (HZ.out.trans (HE9.out.trans hw'))
                            refine reg_pure 20 rfl (by kernel_rfl) (by kernel_rfl) ?_; apply Exists.intro; refine ⟨fun w' => ?_, ?_⟩; · go_simp; exact rfl
                            refine reg_pure 21 rfl (by kernel_rfl) (by kernel_rfl) ?_; apply Exists.intro; refine ⟨fun w' => ?_, ?_⟩; · go_simp; exact rfl
                            refine reg_pure 22 rfl (by kernel_rfl) (by kernel_rfl) ?_; apply Exists.intro; refine ⟨fun w' => ?_, ?_⟩; · go_simp; exact rfl
                            refine reg_done (by kernel_rfl) (fun Wb hw5 => ?_) _
                            rw [HQ.out]
                            clear HQ Q2
                            have HEb := hid (HE9.out.trans hw5)
                            clear hw5
                            go_simp
                            have HZ2 := hid (HZ.out.trans HEb.out)
                            cases bb
                            ·
                              go_wp2_with fail
                              go_roundw
                              case rel => exact ⟨k + 1, by go_num, by omega, HZ2, by rw [HAS.out, HGO.out]; rfl⟩
                              case measure => simp [intOf]; omega
                            ·
                              go_wp2_with fail
                              go_roundw
                              case rel => exact ⟨k + 1, by go_num, by omega, HZ2, by rw [HAS.out, HGO.out]; rfl⟩
                              case measure => simp [intOf]; omega
                          ·
                            have hrn2 : (r.state == 1) = false := by simp [hrn]
                            refine reg_begin 23 (by kernel_rfl) ?_
                            refine reg_hide (fun Q2 HQ => ?_)
                            generalize hW : World.drew _ = Wa
                            have HE9 : Hid (Ext W9 Wa) := hid (by rw [← hW]; exact Ext.drew _)
                            clear hW
                            refine reg_pure 0 rfl (by kernel_rfl) (by kernel_rfl) ?_; apply Exists.intro; refine ⟨fun w' => ?_, ?_⟩; · go_simp; exact rfl
                            refine reg_pure 1 rfl (by kernel_rfl) (by kernel_rfl) ?_; apply Exists.intro; refine ⟨fun w' => ?_, ?_⟩; · go_simp; exact rfl
                            refine reg_pure 2 rfl (by kernel_rfl) (by kernel_rfl) ?_; apply Exists.intro; refine ⟨fun w' => ?_, ?_⟩; · go_simp; exact rfl
                            refine reg_pure 3 rfl (by kernel_rfl) (by kernel_rfl) ?_; apply Exists.intro; refine ⟨fun w' => ?_, ?_⟩; · go_simp; exact rfl
                            refine reg_pure 4 rfl (by kernel_rfl) (by kernel_rfl) ?_; apply Exists.intro; refine ⟨fun w' => ?_, ?_⟩; · go_simp; exact rfl
                            refine reg_pure 5 rfl (by kernel_rfl) (by kernel_rfl) ?_; apply Exists.intro; refine ⟨fun w' => ?_, ?_⟩; · go_simp; exact rfl
                            refine reg_quiet 6 rfl (by kernel_rfl) (by kernel_rfl) ?_; apply Exists.intro; refine ⟨fun w' hw' => ?_, ?_⟩; · have q0 : w'.cell? ⟨g, k * 10 + 4, none⟩ = some (.int .i64 r.state) := (HE9.out.trans hw').cell (HZ.out.cell (HCK.out 4 _ rfl)); go_simp; exact ⟨rfl, Ext.refl _⟩
                            refine reg_pure 7 rfl (by kernel_rfl) (by kernel_rfl) ?_; apply Exists.intro; refine ⟨fun w' => ?_, ?_⟩; · go_simp; exact rfl
                            refine reg_pure 8 rfl (by kernel_rfl) (by kernel_rfl) ?_; apply Exists.intro; refine ⟨fun w' => ?_, ?_⟩; · go_simp; exact rfl
                            refine reg_skip 9 rfl (by kernel_rfl) (by kernel_rfl) ?_
                            refine reg_skip 10 rfl (by kernel_rfl) (by kernel_rfl) ?_
                            refine reg_skip 11 rfl (by kernel_rfl) (by kernel_rfl) ?_
                            refine reg_skip 12 rfl (by kernel_rfl) (by kernel_rfl) ?_
                            refine reg_skip 13 rfl (by kernel_rfl) (by kernel_rfl) ?_
                            refine reg_skip 14 rfl (by kernel_rfl) (by kernel_rfl) ?_
                            refine reg_skip 15 rfl (by kernel_rfl) (by kernel_rfl) ?_
                            refine reg_skip 16 rfl (by kernel_rfl) (by kernel_rfl) ?_
                            refine reg_skip 17 rfl (by kernel_rfl) (by kernel_rfl) ?_
                            refine reg_skip 18 rfl (by kernel_rfl) (by kernel_rfl) ?_
                            refine reg_skip 19 rfl (by kernel_rfl) (by kernel_rfl) ?_
                            refine reg_pure 20 rfl (by kernel_rfl) (by kernel_rfl) ?_; apply Exists.intro; refine ⟨fun w' => ?_, ?_⟩; · go_simp; exact rfl
                            refine reg_pure 21 rfl (by kernel_rfl) (by kernel_rfl) ?_; apply Exists.intro; refine ⟨fun w' => ?_, ?_⟩; · go_simp; exact rfl
                            refine reg_pure 22 rfl (by kernel_rfl) (by kernel_rfl) ?_; apply Exists.intro; refine ⟨fun w' => ?_, ?_⟩; · go_simp; exact rfl
                            refine reg_done (by kernel_rfl) (fun Wb hw5 => ?_) _
                            rw [HQ.out]
                            clear HQ Q2
                            have HEb := hid (HE9.out.trans hw5)
                            clear hw5
                            go_simp
                            have HZ2 := hid (HZ.out.trans HEb.out)
                            have hgo : goodB f s r = false := by unfold goodB; simp [hsf, hrn]
                            go_wp2_with fail
                            go_roundw
                            case rel => exact ⟨k + 1, by go_num, by omega, HZ2, by rw [HAS.out, hgo, Bool.or_false]⟩
                            case measure => simp [intOf]; omega
                        ·
                          refine reg_begin 23 (by kernel_rfl) ?_
                          refine reg_hide (fun Q2 HQ => ?_)
                          generalize hW : World.drew _ = Wa
                          have HE9 : Hid (Ext W9 Wa) := hid (by rw [← hW]; exact Ext.drew _)
                          clear hW
                          refine reg_pure 0 rfl (by kernel_rfl) (by kernel_rfl) ?_; apply Exists.intro; refine ⟨fun w' => ?_, ?_⟩; · go_simp; exact rfl
                          refine reg_pure 1 rfl (by kernel_rfl) (by kernel_rfl) ?_; apply Exists.intro; refine ⟨fun w' => ?_, ?_⟩; · go_simp; exact rfl
                          refine reg_skip 2 rfl (by kernel_rfl) (by kernel_rfl) ?_
                          refine reg_skip 3 rfl (by kernel_rfl) (by kernel_rfl) ?_
                          refine reg_skip 4 rfl (by kernel_rfl) (by kernel_rfl) ?_
                          refine reg_skip 5 rfl (by kernel_rfl) (by kernel_rfl) ?_
                          refine reg_skip 6 rfl (by kernel_rfl) (by kernel_rfl) ?_
                          refine reg_skip 7 rfl (by kernel_rfl) (by kernel_rfl) ?_
                          refine reg_skip 8 rfl (by kernel_rfl) (by kernel_rfl) ?_
                          refine reg_skip 9 rfl (by kernel_rfl) (by kernel_rfl) ?_
                          refine reg_skip 10 rfl (by kernel_rfl) (by kernel_rfl) ?_
                          refine reg_skip 11 rfl (by kernel_rfl) (by kernel_rfl) ?_
                          refine reg_skip 12 rfl (by kernel_rfl) (by kernel_rfl) ?_
                          refine reg_skip 13 rfl (by kernel_rfl) (by kernel_rfl) ?_
                          refine reg_skip 14 rfl (by kernel_rfl) (by kernel_rfl) ?_
                          refine reg_skip 15 rfl (by kernel_rfl) (by kernel_rfl) ?_
                          refine reg_skip 16 rfl (by kernel_rfl) (by kernel_rfl) ?_
                          refine reg_skip 17 rfl (by kernel_rfl) (by kernel_rfl) ?_
                          refine reg_skip 18 rfl (by kernel_rfl) (by kernel_rfl) ?_
                          refine reg_skip 19 rfl (by kernel_rfl) (by kernel_rfl) ?_
                          refine reg_skip 20 rfl (by kernel_rfl) (by kernel_rfl) ?_
                          refine reg_pure 21 rfl (by kernel_rfl) (by kernel_rfl) ?_; apply Exists.intro; refine ⟨fun w' => ?_, ?_⟩; · go_simp; exact rfl
                          refine reg_pure 22 rfl (by kernel_rfl) (by kernel_rfl) ?_; apply Exists.intro; refine ⟨fun w' => ?_, ?_⟩; · go_simp; exact rfl
                          refine reg_done (by kernel_rfl) (fun Wb hw5 => ?_) _
                          rw [HQ.out]
                          clear HQ Q2
                          have HEb := hid (HE9.out.trans hw5)
                          clear hw5
                          go_simp
                          have HZ2 := hid (HZ.out.trans HEb.out)
                          go_wp2_with fail
                          go_roundw
                          case rel => exact ⟨k + 1, by go_num, by omega, HZ2, by rw [HAS.out, Bool.true_or]⟩
                          case measure => simp [intOf]; omega
                    ·
                      cases hrf : r.first
                      ·
                        refine reg_begin 24 (by kernel_rfl) ?_
                        refine reg_hide (fun Q2 HQ => ?_)
                        generalize hW : World.drew _ = W8
                        have HE8 : Hid (Ext wr W8) := hid (by rw [← hW]; exact Ext.drew _)
                        clear hW
                        refine reg_pure 0 rfl (by kernel_rfl) (by kernel_rfl) ?_; apply Exists.intro; refine ⟨fun w' => ?_, ?_⟩; · go_simp; exact rfl
                        refine reg_pure 1 rfl (by kernel_rfl) (by kernel_rfl) ?_; apply Exists.intro; refine ⟨fun w' => ?_, ?_⟩; · go_simp; exact rfl
                        refine reg_pure 2 rfl (by kernel_rfl) (by kernel_rfl) ?_; apply Exists.intro; refine ⟨fun w' => ?_, ?_⟩; · go_simp; exact rfl
                        refine reg_pure 3 rfl (by kernel_rfl) (by kernel_rfl) ?_; apply Exists.intro; refine ⟨fun w' => ?_, ?_⟩; · go_simp; exact rfl
                        refine reg_quiet 4 rfl (by kernel_rfl) (by kernel_rfl) ?_; apply Exists.intro; refine ⟨fun w' hw' => ?_, ?_⟩; · have q0 : w'.cell? ⟨g, k * 10 + 1, none⟩ = some (.int .i64 r.static) := (HE8.out.trans hw').cell (HK.out.cell (HCK.out 1 _ rfl)); go_simp; exact ⟨rfl, Ext.refl _⟩
                        refine reg_pure 5 rfl (by kernel_rfl) (by kernel_rfl) ?_; apply Exists.intro; refine ⟨fun w' => ?_, ?_⟩; · go_simp; exact rfl
                        refine reg_pure 6 rfl (by kernel_rfl) (by kernel_rfl) ?_; apply Exists.intro; refine ⟨fun w' => ?_, ?_⟩; · go_simp; exact rfl
                        refine reg_pure 7 rfl (by kernel_rfl) (by kernel_rfl) ?_; apply Exists.intro; refine ⟨fun w' => ?_, ?_⟩; · go_simp; exact rfl
                        refine reg_pure 8 rfl (by kernel_rfl) (by kernel_rfl) ?_; apply Exists.intro; refine ⟨fun w' => ?_, ?_⟩; · go_simp; exact rfl
                        refine reg_quiet 9 rfl (by kernel_rfl) (by kernel_rfl) ?_; apply Exists.intro; refine ⟨fun w' hw' => ?_, ?_⟩; · have q0 : w'.cell? ⟨g, i * 10 + 5, none⟩ = some (.int .i64 s.peerN) := (HE8.out.trans hw').cell (HK.out.cell (HCI.out 5 _ rfl)); go_simp; exact ⟨rfl, Ext.refl _⟩
                        refine reg_pure 10 rfl (by kernel_rfl) (by kernel_rfl) ?_; apply Exists.intro; refine ⟨fun w' => ?_, ?_⟩; · go_simp; exact rfl
                        refine reg_pure 11 rfl (by kernel_rfl) (by kernel_rfl) ?_; apply Exists.intro; refine ⟨fun w' => ?_, ?_⟩; · go_simp; exact rfl
                        refine reg_pure 12 rfl (by kernel_rfl) (by kernel_rfl) ?_; apply Exists.intro; refine ⟨fun w' => ?_, ?_⟩; · go_simp; exact rfl
                        refine reg_pure 13 rfl (by kernel_rfl) (by kernel_rfl) ?_; apply Exists.intro; refine ⟨fun w' => ?_, ?_⟩; · go_simp; exact rfl
                        refine reg_pure 14 rfl (by kernel_rfl) (by kernel_rfl) ?_; apply Exists.intro; refine ⟨fun w' => ?_, ?_⟩; · go_simp; exact rfl
                        refine reg_pure 15 rfl (by kernel_rfl) (by kernel_rfl) ?_; apply Exists.intro; refine ⟨fun w' => ?_, ?_⟩; · go_simp; exact rfl
                        refine reg_quiet 16 rfl (by kernel_rfl) (by kernel_rfl) ?_; apply Exists.intro; refine ⟨fun w' hw' => ?_, ?_⟩; · have q0 : w'.cell? ⟨g, k * 10, none⟩ = some (.bool false) := hrf ▸ (HE8.out.trans hw').cell (HK.out.cell (HCK.out 0 _ rfl)); go_simp; exact ⟨rfl, Ext.refl _⟩
                        refine reg_pure 17 rfl (by kernel_rfl) (by kernel_rfl) ?_; apply Exists.intro; refine ⟨fun w' => ?_, ?_⟩; · go_simp; exact rfl
                        refine reg_pure 18 rfl (by kernel_rfl) (by kernel_rfl) ?_; apply Exists.intro; refine ⟨fun w' => ?_, ?_⟩; · go_simp; exact rfl
                        refine reg_pure 19 rfl (by kernel_rfl) (by kernel_rfl) ?_; apply Exists.intro; refine ⟨fun w' => ?_, ?_⟩; · go_simp; exact rfl
                        refine reg_pure 20 rfl (by kernel_rfl) (by kernel_rfl) ?_; apply Exists.intro; refine ⟨fun w' => ?_, ?_⟩; · go_simp; exact rfl
                        refine reg_quiet 21 rfl (by kernel_rfl) (by kernel_rfl) ?_; apply Exists.intro; refine ⟨fun w' hw' => ?_, ?_⟩; · have q0 : w'.cell? ⟨g, i * 10, none⟩ = some (.bool true) := hsf ▸ (HE8.out.trans hw').cell (HK.out.cell (HCI.out 0 _ rfl)); go_simp; exact ⟨rfl, Ext.refl _⟩
                        refine reg_pure 22 rfl (by kernel_rfl) (by kernel_rfl) ?_; apply Exists.intro; refine ⟨fun w' => ?_, ?_⟩; · go_simp; exact rfl
                        refine reg_pure 23 rfl (by kernel_rfl) (by kernel_rfl) ?_; apply Exists.intro; refine ⟨fun w' => ?_, ?_⟩; · go_simp; exact rfl
                        refine reg_done (by kernel_rfl) (fun W9 hw5 => ?_) _
                        rw [HQ.out]
                        clear HQ Q2
                        have HK9 := hid (HE8.out.trans hw5)
                        clear hw5
                        go_simp
                        have HZ := hid (HK.out.trans HK9.out)
                        clear HE8 HK9
                        have d0 : W9.cell? ⟨g, i * 10, none⟩ = some (.bool true) := hsf ▸ HZ.out.cell (HCI.out 0 _ rfl)
                        go_wp2_with fail
                        clear d0
                        cases b
                        ·
                          rcases r.mid.form with ⟨hrn, hmn⟩ | ⟨hrn, ru, rd, hrv⟩
                          ·
                            have HMN := hid hmn
                            refine reg_begin 23 (by kernel_rfl) ?_
                            refine reg_hide (fun Q2 HQ => ?_)
                            generalize hW : World.drew _ = Wa
                            have HE9 : Hid (Ext W9 Wa) := hid (by rw [← hW]; exact Ext.drew _)
                            clear hW
                            refine reg_pure 0 rfl (by kernel_rfl) (by kernel_rfl) ?_; apply Exists.intro; refine ⟨fun w' => ?_, ?_⟩; · go_simp; exact rfl
                            refine reg_pure 1 rfl (by kernel_rfl) (by kernel_rfl) ?_; apply Exists.intro; refine ⟨fun w' => ?_, ?_⟩; · go_simp; exact rfl
                            refine reg_pure 2 rfl (by kernel_rfl) (by kernel_rfl) ?_; apply Exists.intro; refine ⟨fun w' => ?_, ?_⟩; · go_simp; exact rfl
                            refine reg_pure 3 rfl (by kernel_rfl) (by kernel_rfl) ?_; apply Exists.intro; refine ⟨fun w' => ?_, ?_⟩; · go_simp; exact rfl
                            refine reg_pure 4 rfl (by kernel_rfl) (by kernel_rfl) ?_; apply Exists.intro; refine ⟨fun w' => ?_, ?_⟩; · go_simp; exact rfl
                            refine reg_pure 5 rfl (by kernel_rfl) (by kernel_rfl) ?_; apply Exists.intro; refine ⟨fun w' => ?_, ?_⟩; · go_simp; exact rfl
                            refine reg_quiet 6 rfl (by kernel_rfl) (by kernel_rfl) ?_; apply Exists.intro; refine ⟨fun w' hw' => ?_, ?_⟩; · have q0 : w'.cell? ⟨g, k * 10 + 7, none⟩ = some (.nilIface) := HMN.out ▸ (HE9.out.trans hw').cell (HZ.out.cell (HCK.out 7 _ rfl)); go_simp; exact ⟨rfl, Ext.refl _⟩
                            refine reg_pure 7 rfl (by kernel_rfl) (by kernel_rfl) ?_; apply Exists.intro; refine ⟨fun w' => ?_, ?_⟩; · go_simp; exact rfl
                            refine reg_pure 8 rfl (by kernel_rfl) (by kernel_rfl) ?_; apply Exists.intro; refine ⟨fun w' => ?_, ?_⟩; · go_simp; exact rfl
                            refine reg_skip 9 rfl (by kernel_rfl) (by kernel_rfl) ?_
                            refine reg_skip 10 rfl (by kernel_rfl) (by kernel_rfl) ?_
                            refine reg_skip 11 rfl (by kernel_rfl) (by kernel_rfl) ?_
                            refine reg_skip 12 rfl (by kernel_rfl) (by kernel_rfl) ?_
                            refine reg_skip 13 rfl (by kernel_rfl) (by kernel_rfl) ?_
                            refine reg_skip 14 rfl (by kernel_rfl) (by kernel_rfl) ?_
                            refine reg_skip 15 rfl (by kernel_rfl) (by kernel_rfl) ?_
                            refine reg_skip 16 rfl (by kernel_rfl) (by kernel_rfl) ?_
                            refine reg_skip 17 rfl (by kernel_rfl) (by kernel_rfl) ?_
                            refine reg_skip 18 rfl (by kernel_rfl) (by kernel_rfl) ?_
                            refine reg_skip 19 rfl (by kernel_rfl) (by kernel_rfl) ?_
                            refine reg_pure 20 rfl (by kernel_rfl) (by kernel_rfl) ?_; apply Exists.intro; refine ⟨fun w' => ?_, ?_⟩; · go_simp; exact rfl
                            refine reg_pure 21 rfl (by kernel_rfl) (by kernel_rfl) ?_; apply Exists.intro; refine ⟨fun w' => ?_, ?_⟩; · go_simp; exact rfl
                            refine reg_pure 22 rfl (by kernel_rfl) (by kernel_rfl) ?_; apply Exists.intro; refine ⟨fun w' => ?_, ?_⟩; · go_simp; exact rfl
                            refine reg_done (by kernel_rfl) (fun Wb hw5 => ?_) _
                            rw [HQ.out]
                            clear HQ Q2
                            have HEb := hid (HE9.out.trans hw5)
                            clear hw5
                            go_simp
                            have HZ2 := hid (HZ.out.trans HEb.out)
                            have hgo : goodB f s r = false := by unfold goodB; simp [hsf, hrn]
                            go_wp2_with fail
                            go_roundw
                            case rel => exact ⟨k + 1, by go_num, by omega, HZ2, by rw [HAS.out, hgo, Bool.or_false]⟩
                            case measure => simp [intOf]; omega
                          ·
                            have hsame := fun W' (hW : Ext w5 W') => same_any (R := Small) (f := f) r.mid s.mid W' (HIW.out.later hW) (HMO.out r HRM.out).1 (HMO.out s HSM.out).1 (by have := (HMO.out r HRM.out).2.1; omega) (by have := (HMO.out s HSM.out).2.1; omega)
                            rw [hrv, HMV.out] at hsame
                            have HSAME := hid hsame
                            have HRV := hid hrv
                            have hgo : goodB f s r = decide (nm f r.mid = nm f s.mid) := by unfold goodB; simp [hsf, hrf, hrs, hrn]
                            have HGO := hid hgo
                            clear hsame hgo
                            generalize decide (nm f r.mid = nm f s.mid) = bb at *
                            refine reg_begin 23 (by kernel_rfl) ?_
                            refine reg_hide (fun Q2 HQ => ?_)
                            generalize hW : World.drew _ = Wa
                            have HE9 : Hid (Ext W9 Wa) := hid (by rw [← hW]; exact Ext.drew _)
                            clear hW
                            refine reg_pure 0 rfl (by kernel_rfl) (by kernel_rfl) ?_; apply Exists.intro; refine ⟨fun w' => ?_, ?_⟩; · go_simp; exact rfl
                            refine reg_pure 1 rfl (by kernel_rfl) (by kernel_rfl) ?_; apply Exists.intro; refine ⟨fun w' => ?_, ?_⟩; · go_simp; exact rfl
                            refine reg_pure 2 rfl (by kernel_rfl) (by kernel_rfl) ?_; apply Exists.intro; refine ⟨fun w' => ?_, ?_⟩; · go_simp; exact rfl
                            refine reg_pure 3 rfl (by kernel_rfl) (by kernel_rfl) ?_; apply Exists.intro; refine ⟨fun w' => ?_, ?_⟩; · go_simp; exact rfl
                            refine reg_pure 4 rfl (by kernel_rfl) (by kernel_rfl) ?_; apply Exists.intro; refine ⟨fun w' => ?_, ?_⟩; · go_simp; exact rfl
                            refine reg_pure 5 rfl (by kernel_rfl) (by kernel_rfl) ?_; apply Exists.intro; refine ⟨fun w' => ?_, ?_⟩; · go_simp; exact rfl
                            refine reg_quiet 6 rfl (by kernel_rfl) (by kernel_rfl) ?_; apply Exists.intro; refine ⟨fun w' hw' => ?_, ?_⟩; · have q0 : w'.cell? ⟨g, k * 10 + 7, none⟩ = some (.iface ru rd) := HRV.out ▸ (HE9.out.trans hw').cell (HZ.out.cell (HCK.out 7 _ rfl)); go_simp; exact ⟨rfl, Ext.refl _⟩
                            refine reg_pure 7 rfl (by kernel_rfl) (by kernel_rfl) ?_; apply Exists.intro; refine ⟨fun w' => ?_, ?_⟩; · go_simp; exact rfl
                            refine reg_pure 8 rfl (by kernel_rfl) (by kernel_rfl) ?_; apply Exists.intro; refine ⟨fun w' => ?_, ?_⟩; · go_simp; exact rfl
                            refine reg_pure 9 rfl (by kernel_rfl) (by kernel_rfl) ?_; apply Exists.intro; refine ⟨fun w' => ?_, ?_⟩; · go_simp; exact rfl
                            refine reg_pure 10 rfl (by kernel_rfl) (by kernel_rfl) ?_; apply Exists.intro; refine ⟨fun w' => ?_, ?_⟩; · go_simp; exact rfl
                            refine reg_pure 11 rfl (by kernel_rfl) (by kernel_rfl) ?_; apply Exists.intro; refine ⟨fun w' => ?_, ?_⟩; · go_simp; exact rfl
                            refine reg_pure 12 rfl (by kernel_rfl) (by kernel_rfl) ?_; apply Exists.intro; refine ⟨fun w' => ?_, ?_⟩; · go_simp; exact rfl
                            refine reg_quiet 13 rfl (by kernel_rfl) (by kernel_rfl) ?_; apply Exists.intro; refine ⟨fun w' hw' => ?_, ?_⟩; · have q0 : w'.cell? ⟨g, k * 10 + 7, none⟩ = some (.iface ru rd) := HRV.out ▸ (HE9.out.trans hw').cell (HZ.out.cell (HCK.out 7 _ rfl)); go_simp; exact ⟨rfl, Ext.refl _⟩
                            refine reg_pure 14 rfl (by kernel_rfl) (by kernel_rfl) ?_; apply Exists.intro; refine ⟨fun w' => ?_, ?_⟩; · go_simp; exact rfl
                            refine reg_pure 15 rfl (by kernel_rfl) (by kernel_rfl) ?_; apply Exists.intro; refine ⟨fun w' => ?_, ?_⟩; · go_simp; exact rfl
                            refine reg_pure 16 rfl (by kernel_rfl) (by kernel_rfl) ?_; apply Exists.intro; refine ⟨fun w' => ?_, ?_⟩; · go_simp; exact rfl
                            refine reg_pure 17 rfl (by kernel_rfl) (by kernel_rfl) ?_; apply Exists.intro; refine ⟨fun w' => ?_, ?_⟩; · go_simp; exact rfl
                            refine reg_quiet 18 rfl (by kernel_rfl) (by kernel_rfl) ?_; apply Exists.intro; refine ⟨fun w' hw' => ?_, ?_⟩; · have q0 : w'.cell? ⟨g, i * 10 + 7, none⟩ = some (.iface mu md) := HMV.out ▸ (HE9.out.trans hw').cell (HZ.out.cell (HCI.out 7 _ rfl)); go_simp; exact ⟨rfl, Ext.refl _⟩
                            refine reg_quiet 19 rfl (by kernel_rfl) (by kernel_rfl) ?_; apply Exists.intro; refine ⟨fun w' hw' => ?_, ?_⟩; · go_simp; exact HSAME.out w' (HZ.out.trans (HE9.out.trans hw'))
                            refine reg_pure 20 rfl (by kernel_rfl) (by kernel_rfl) ?_; apply Exists.intro; refine ⟨fun w' => ?_, ?_⟩; · go_simp; exact rfl
                            refine reg_pure 21 rfl (by kernel_rfl) (by kernel_rfl) ?_; apply Exists.intro; refine ⟨fun w' => ?_, ?_⟩; · go_simp; exact rfl
                            refine reg_pure 22 rfl (by kernel_rfl) (by kernel_rfl) ?_; apply Exists.intro; refine ⟨fun w' => ?_, ?_⟩; · go_simp; exact rfl
                            refine reg_done (by kernel_rfl) (fun Wb hw5 => ?_) _
                            rw [HQ.out]
                            clear HQ Q2
                            have HEb := hid (HE9.out.trans hw5)
                            clear hw5
                            go_simp
                            have HZ2 := hid (HZ.out.trans HEb.out)
                            cases bb
                            ·
                              go_wp2_with fail
                              go_roundw
                              case rel => exact ⟨k + 1, by go_num, by omega, HZ2, by rw [HAS.out, HGO.out]; rfl⟩
                              case measure => simp [intOf]; omega
                            ·
                              go_wp2_with fail
                              go_roundw
                              case rel => exact ⟨k + 1, by go_num, by omega, HZ2, by rw [HAS.out, HGO.out]; rfl⟩
                              case measure => simp [intOf]; omega
                        ·
                          refine reg_begin 23 (by kernel_rfl) ?_
                          refine reg_hide (fun Q2 HQ => ?_)
                          generalize hW : World.drew _ = Wa
                          have HE9 : Hid (Ext W9 Wa) := hid (by rw [← hW]; exact Ext.drew _)
                          clear hW
                          refine reg_pure 0 rfl (by kernel_rfl) (by kernel_rfl) ?_; apply Exists.intro; refine ⟨fun w' => ?_, ?_⟩; · go_simp; exact rfl
                          refine reg_pure 1 rfl (by kernel_rfl) (by kernel_rfl) ?_; apply Exists.intro; refine ⟨fun w' => ?_, ?_⟩; · go_simp; exact rfl
                          refine reg_skip 2 rfl (by kernel_rfl) (by kernel_rfl) ?_
                          refine reg_skip 3 rfl (by kernel_rfl) (by kernel_rfl) ?_
                          refine reg_skip 4 rfl (by kernel_rfl) (by kernel_rfl) ?_
                          refine reg_skip 5 rfl (by kernel_rfl) (by kernel_rfl) ?_
                          refine reg_skip 6 rfl (by kernel_rfl) (by kernel_rfl) ?_
                          refine reg_skip 7 rfl (by kernel_rfl) (by kernel_rfl) ?_
                          refine reg_skip 8 rfl (by kernel_rfl) (by kernel_rfl) ?_
                          refine reg_skip 9 rfl (by kernel_rfl) (by kernel_rfl) ?_
                          refine reg_skip 10 rfl (by kernel_rfl) (by kernel_rfl) ?_
                          refine reg_skip 11 rfl (by kernel_rfl) (by kernel_rfl) ?_
                          refine reg_skip 12 rfl (by kernel_rfl) (by kernel_rfl) ?_
                          refine reg_skip 13 rfl (by kernel_rfl) (by kernel_rfl) ?_
                          refine reg_skip 14 rfl (by kernel_rfl) (by kernel_rfl) ?_
                          refine reg_skip 15 rfl (by kernel_rfl) (by kernel_rfl) ?_
                          refine reg_skip 16 rfl (by kernel_rfl) (by kernel_rfl) ?_
                          refine reg_skip 17 rfl (by kernel_rfl) (by kernel_rfl) ?_
                          refine reg_skip 18 rfl (by kernel_rfl) (by kernel_rfl) ?_
                          refine reg_skip 19 rfl (by kernel_rfl) (by kernel_rfl) ?_
                          refine reg_skip 20 rfl (by kernel_rfl) (by kernel_rfl) ?_
                          refine reg_pure 21 rfl (by kernel_rfl) (by kernel_rfl) ?_; apply Exists.intro; refine ⟨fun w' => ?_, ?_⟩; · go_simp; exact rfl
                          refine reg_pure 22 rfl (by kernel_rfl) (by kernel_rfl) ?_; apply Exists.intro; refine ⟨fun w' => ?_, ?_⟩; · go_simp; exact rfl
                          refine reg_done (by kernel_rfl) (fun Wb hw5 => ?_) _
                          rw [HQ.out]
                          clear HQ Q2
                          have HEb := hid (HE9.out.trans hw5)
                          clear hw5
                          go_simp
                          have HZ2 := hid (HZ.out.trans HEb.out)
                          go_wp2_with fail
                          go_roundw
                          case rel => exact ⟨k + 1, by go_num, by omega, HZ2, by rw [HAS.out, Bool.true_or]⟩
                          case measure => simp [intOf]; omega
                      ·
                        refine reg_begin 24 (by kernel_rfl) ?_
                        refine reg_hide (fun Q2 HQ => ?_)
                        generalize hW : World.drew _ = W8
                        have HE8 : Hid (Ext wr W8) := hid (by rw [← hW]; exact Ext.drew _)
                        clear hW
                        refine reg_pure 0 rfl (by kernel_rfl) (by kernel_rfl) ?_; apply Exists.intro; refine ⟨fun w' => ?_, ?_⟩; · go_simp; exact rfl
                        refine reg_pure 1 rfl (by kernel_rfl) (by kernel_rfl) ?_; apply Exists.intro; refine ⟨fun w' => ?_, ?_⟩; · go_simp; exact rfl
                        refine reg_pure 2 rfl (by kernel_rfl) (by kernel_rfl) ?_; apply Exists.intro; refine ⟨fun w' => ?_, ?_⟩; · go_simp; exact rfl
                        refine reg_pure 3 rfl (by kernel_rfl) (by kernel_rfl) ?_; apply Exists.intro; refine ⟨fun w' => ?_, ?_⟩; · go_simp; exact rfl
                        refine reg_quiet 4 rfl (by kernel_rfl) (by kernel_rfl) ?_; apply Exists.intro; refine ⟨fun w' hw' => ?_, ?_⟩; · have q0 : w'.cell? ⟨g, k * 10 + 1, none⟩ = some (.int .i64 r.static) := (HE8.out.trans hw').cell (HK.out.cell (HCK.out 1 _ rfl)); go_simp; exact ⟨rfl, Ext.refl _⟩
                        refine reg_pure 5 rfl (by kernel_rfl) (by kernel_rfl) ?_; apply Exists.intro; refine ⟨fun w' => ?_, ?_⟩; · go_simp; exact rfl
                        refine reg_pure 6 rfl (by kernel_rfl) (by kernel_rfl) ?_; apply Exists.intro; refine ⟨fun w' => ?_, ?_⟩; · go_simp; exact rfl
                        refine reg_pure 7 rfl (by kernel_rfl) (by kernel_rfl) ?_; apply Exists.intro; refine ⟨fun w' => ?_, ?_⟩; · go_simp; exact rfl
                        refine reg_pure 8 rfl (by kernel_rfl) (by kernel_rfl) ?_; apply Exists.intro; refine ⟨fun w' => ?_, ?_⟩; · go_simp; exact rfl
                        refine reg_quiet 9 rfl (by kernel_rfl) (by kernel_rfl) ?_; apply Exists.intro; refine ⟨fun w' hw' => ?_, ?_⟩; · have q0 : w'.cell? ⟨g, i * 10 + 5, none⟩ = some (.int .i64 s.peerN) := (HE8.out.trans hw').cell (HK.out.cell (HCI.out 5 _ rfl)); go_simp; exact ⟨rfl, Ext.refl _⟩
                        refine reg_pure 10 rfl (by kernel_rfl) (by kernel_rfl) ?_; apply Exists.intro; refine ⟨fun w' => ?_, ?_⟩; · go_simp; exact rfl
                        refine reg_pure 11 rfl (by kernel_rfl) (by kernel_rfl) ?_; apply Exists.intro; refine ⟨fun w' => ?_, ?_⟩; · go_simp; exact rfl
                        refine reg_pure 12 rfl (by kernel_rfl) (by kernel_rfl) ?_; apply Exists.intro; refine ⟨fun w' => ?_, ?_⟩; · go_simp; exact rfl
                        refine reg_pure 13 rfl (by kernel_rfl) (by kernel_rfl) ?_; apply Exists.intro; refine ⟨fun w' => ?_, ?_⟩; · go_simp; exact rfl
                        refine reg_pure 14 rfl (by kernel_rfl) (by kernel_rfl) ?_; apply Exists.intro; refine ⟨fun w' => ?_, ?_⟩; · go_simp; exact rfl
                        refine reg_pure 15 rfl (by kernel_rfl) (by kernel_rfl) ?_; apply Exists.intro; refine ⟨fun w' => ?_, ?_⟩; · go_simp; exact rfl
                        refine reg_quiet 16 rfl (by kernel_rfl) (by kernel_rfl) ?_; apply Exists.intro; refine ⟨fun w' hw' => ?_, ?_⟩; · have q0 : w'.cell? ⟨g, k * 10, none⟩ = some (.bool true) := hrf ▸ (HE8.out.trans hw').cell (HK.out.cell (HCK.out 0 _ rfl)); go_simp; exact ⟨rfl, Ext.refl _⟩
                        refine reg_pure 17 rfl (by kernel_rfl) (by kernel_rfl) ?_; apply Exists.intro; refine ⟨fun w' => ?_, ?_⟩; · go_simp; exact rfl
                        refine reg_pure 18 rfl (by kernel_rfl) (by kernel_rfl) ?_; apply Exists.intro; refine ⟨fun w' => ?_, ?_⟩; · go_simp; exact rfl
                        refine reg_pure 19 rfl (by kernel_rfl) (by kernel_rfl) ?_; apply Exists.intro; refine ⟨fun w' => ?_, ?_⟩; · go_simp; exact rfl
                        refine reg_pure 20 rfl (by kernel_rfl) (by kernel_rfl) ?_; apply Exists.intro; refine ⟨fun w' => ?_, ?_⟩; · go_simp; exact rfl
                        refine reg_quiet 21 rfl (by kernel_rfl) (by kernel_rfl) ?_; apply Exists.intro; refine ⟨fun w' hw' => ?_, ?_⟩; · have q0 : w'.cell? ⟨g, i * 10, none⟩ = some (.bool true) := hsf ▸ (HE8.out.trans hw').cell (HK.out.cell (HCI.out 0 _ rfl)); go_simp; exact ⟨rfl, Ext.refl _⟩
                        refine reg_pure 22 rfl (by kernel_rfl) (by kernel_rfl) ?_; apply Exists.intro; refine ⟨fun w' => ?_, ?_⟩; · go_simp; exact rfl
                        refine reg_pure 23 rfl (by kernel_rfl) (by kernel_rfl) ?_; apply Exists.intro; refine ⟨fun w' => ?_, ?_⟩; · go_simp; exact rfl
                        refine reg_done (by kernel_rfl) (fun W9 hw5 => ?_) _
                        rw [HQ.out]
                        clear HQ Q2
                        have HK9 := hid (HE8.out.trans hw5)
                        clear hw5
                        go_simp
                        have HZ := hid (HK.out.trans HK9.out)
                        clear HE8 HK9
                        have hgo : goodB f s r = false := by unfold goodB; simp [hsf, hrf]
                        go_wp2_with fail
                        go_roundw
                        case rel => exact ⟨k + 1, by go_num, by omega, HZ, by rw [HAS.out, hgo, Bool.or_false]⟩
                        case measure => simp [intOf]; omega
                  ·
                    have hrs2 : (r.static != s.peerN) = true := by simp [hrs]
                    refine reg_begin 24 (by kernel_rfl) ?_
                    refine reg_hide (fun Q2 HQ => ?_)
                    generalize hW : World.drew _ = W8
                    have HE8 : Hid (Ext wr W8) := hid (by rw [← hW]; exact Ext.drew _)
                    clear hW
                    refine reg_pure 0 rfl (by kernel_rfl) (by kernel_rfl) ?_; apply Exists.intro; refine ⟨fun w' => ?_, ?_⟩; · go_simp; exact rfl
                    refine reg_pure 1 rfl (by kernel_rfl) (by kernel_rfl) ?_; apply Exists.intro; refine ⟨fun w' => ?_, ?_⟩; · go_simp; exact rfl
                    refine reg_pure 2 rfl (by kernel_rfl) (by kernel_rfl) ?_; apply Exists.intro; refine ⟨fun w' => ?_, ?_⟩; · go_simp; exact rfl
                    refine reg_pure 3 rfl (by kernel_rfl) (by kernel_rfl) ?_; apply Exists.intro; refine ⟨fun w' => ?_, ?_⟩; · go_simp; exact rfl
                    refine reg_quiet 4 rfl (by kernel_rfl) (by kernel_rfl) ?_; apply Exists.intro; refine ⟨fun w' hw' => ?_, ?_⟩; · have q0 : w'.cell? ⟨g, k * 10 + 1, none⟩ = some (.int .i64 r.static) := (HE8.out.trans hw').cell (HK.out.cell (HCK.out 1 _ rfl)); go_simp; exact ⟨rfl, Ext.refl _⟩
                    refine reg_pure 5 rfl (by kernel_rfl) (by kernel_rfl) ?_; apply Exists.intro; refine ⟨fun w' => ?_, ?_⟩; · go_simp; exact rfl
                    refine reg_pure 6 rfl (by kernel_rfl) (by kernel_rfl) ?_; apply Exists.intro; refine ⟨fun w' => ?_, ?_⟩; · go_simp; exact rfl
                    refine reg_pure 7 rfl (by kernel_rfl) (by kernel_rfl) ?_; apply Exists.intro; refine ⟨fun w' => ?_, ?_⟩; · go_simp; exact rfl
                    refine reg_pure 8 rfl (by kernel_rfl) (by kernel_rfl) ?_; apply Exists.intro; refine ⟨fun w' => ?_, ?_⟩; · go_simp; exact rfl
                    refine reg_quiet 9 rfl (by kernel_rfl) (by kernel_rfl) ?_; apply Exists.intro; refine ⟨fun w' hw' => ?_, ?_⟩; · have q0 : w'.cell? ⟨g, i * 10 + 5, none⟩ = some (.int .i64 s.peerN) := (HE8.out.trans hw').cell (HK.out.cell (HCI.out 5 _ rfl)); go_simp; exact ⟨rfl, Ext.refl _⟩
                    refine reg_pure 10 rfl (by kernel_rfl) (by kernel_rfl) ?_; apply Exists.intro; refine ⟨fun w' => ?_, ?_⟩; · go_simp; exact rfl
                    refine reg_pure 11 rfl (by kernel_rfl) (by kernel_rfl) ?_; apply Exists.intro; refine ⟨fun w' => ?_, ?_⟩; · go_simp; exact rfl
                    refine reg_skip 12 rfl (by kernel_rfl) (by kernel_rfl) ?_
                    refine reg_skip 13 rfl (by kernel_rfl) (by kernel_rfl) ?_
                    refine reg_skip 14 rfl (by kernel_rfl) (by kernel_rfl) ?_
                    refine reg_skip 15 rfl (by kernel_rfl) (by kernel_rfl) ?_
                    refine reg_skip 16 rfl (by kernel_rfl) (by kernel_rfl) ?_
                    refine reg_skip 17 rfl (by kernel_rfl) (by kernel_rfl) ?_
                    refine reg_skip 18 rfl (by kernel_rfl) (by kernel_rfl) ?_
                    refine reg_skip 19 rfl (by kernel_rfl) (by kernel_rfl) ?_
                    refine reg_skip 20 rfl (by kernel_rfl) (by kernel_rfl) ?_
                    refine reg_skip 21 rfl (by kernel_rfl) (by kernel_rfl) ?_
                    refine reg_skip 22 rfl (by kernel_rfl) (by kernel_rfl) ?_
                    refine reg_pure 23 rfl (by kernel_rfl) (by kernel_rfl) ?_; apply Exists.intro; refine ⟨fun w' => ?_, ?_⟩; · go_simp; exact rfl
                    refine reg_done (by kernel_rfl) (fun W9 hw5 => ?_) _
                    rw [HQ.out]
                    clear HQ Q2
                    have HK9 := hid (HE8.out.trans hw5)
                    clear hw5
                    go_simp
                    have HZ := hid (HK.out.trans HK9.out)
                    clear HE8 HK9
                    have hgo : goodB f s r = false := by unfold goodB; simp [hrs]
                    go_wp2_with fail
                    go_roundw
                    case rel => exact ⟨k + 1, by go_num, by omega, HZ, by rw [HAS.out, hgo, Bool.or_false]⟩
                    case measure => simp [intOf]; omega
                · have hlk2 : ¬ (k : Int) < (μ.sides.length : Int) := by omega
                  have hkl : k = μ.sides.length := by omega
                  rw [hkl, List.take_length, HALL.out] at hbv
                  subst hbv
                  go_wp2_with fail
                  go_roundw
                  case rel => exact ⟨i + 1, by go_num, by omega, HK⟩
                  case measure => simp [intOf]; omega
            ·
              go_wp2_with fail
              go_roundw
              case rel => exact ⟨i + 1, by go_num, by omega, HY⟩
              case measure => simp [intOf]; omega
      ·
        have hst2 : (s.state == 1) = false := by simp [hst]
        go_wp2_with fail
        go_roundw
        case rel => exact ⟨i + 1, by go_num, by omega, HY⟩
        case measure => simp [intOf]; omega
    · have hlt2 : ¬ (i : Int) < (μ.sides.length : Int) := by omega
      go_wp2_with fail
      go_ret
      exact ⟨rfl, HE.out.trans (HX5.out.trans HY.out)⟩

end Go.Proofs.YtjodmedgkmeklaaGreat

/-
  The row of ModelBelieves: for every input the law returns true, and leaves its arguments as they were.
-/
namespace Go.Proofs.YtjodmedgkmeklaaGreat
open Go Go.RowKit Go.ChangeShapes Go.WideShapes Go.ChangeAt

set_option maxRecDepth 100000 in
set_option maxHeartbeats 1000000 in
theorem ModelBelieves_lifted (os : Os) (started : os.Started) (H : Type) (enc : TypeId × Value → H) :
    ReturnsInHanded {} Tryz.checked os 3 .any (Rows.modelBelievesSpec.pre6 enc Tryz.prog Tryz.f3 Rows.modelBelievesRow.domain false) (Rows.modelBelievesSpec.post enc Tryz.prog Tryz.f3 false true false false) := by
  refine returnsInHanded_of_change_shaped (C := Tryz.checked) own started (by kernel_rfl) Tryz.func3
    (ChangeSpec.witness6 (enc := enc) (C := Tryz.checked) false ⟨#[], #[.slice none 0 0], []⟩ 8 (by kernel_rfl) (by kernel_rfl) (by kernel_rfl) (by kernel_rfl)) ?_
  intro W base args ds gs before hval0 hW hcnd _ hsh _
  have hval : ∀ (j : Nat) t v, Tryz.f3.params[j]? = some t → args[j]? = some v → Value.okWide Tryz.prog W .any base t v := hval0
  have hW' := hW
  obtain ⟨p, q, hA0, hV, rfl, hfz, hnd⟩ := hW
  have hA : DataW.TrodAll enc Tryz.prog W 0 (fun _ => true) true Tryz.f3.params.toList args.toList ds p := hA0
  rw [Tryz.params3] at hA hval
  obtain ⟨v0, vs0, d0, ds0, p0, q0, hargs, rfl, rfl, h0, r0⟩ := trodAll_cons hA
  obtain ⟨rfl, rfl, rfl⟩ := trodAll_nil r0
  obtain rfl : args = #[v0] := by cases args; simp_all
  obtain ⟨rfl, rfl⟩ := trodVars_none hV
  have hlt0 : ∀ x ∈ p0, x.block < W.heap.size := fun x hx => by simpa using hW'.lt x (by simp [hx])
  have hk0 := h0
  obtain ⟨s0, len0, cap0, rfl⟩ := okWide_slice Tryz.underlying22 (hval 0 22 v0 rfl rfl)
  obtain ⟨fuel0, hf0⟩ := h0
  obtain ⟨av0, cav0, l0, hcs0, hr0, hl0⟩ := open_raws hf0
  simp only [Value.cells, List.cons.injEq, and_true] at hcs0
  obtain ⟨rfl, rfl, rfl⟩ := Value.slice.inj hcs0
  clear hA0 hval0
  simp only [List.append_nil] at hW'
  obtain ⟨T, hT⟩ := tab_of hsh
  refine (ModelBelieves_walk T s0 cap0 l0 W hT hl0 hr0).mono fun e W' ⟨he, hg⟩ => ?_
  subst he
  exact ⟨_, rfl, _, _, _, _, _, _, hW', trodAll_cons_mk (shut_bool Tryz.underlying4 _) trodAll_mk0, (trodAll_cons_mk (Below.trod laidOut (by kernel_rfl) (of_decide_eq_true (by kernel_rfl)) hk0 hg hlt0) trodAll_mk0), rfl, hg.frame _, fun h => by cases h⟩

theorem ModelBelieves_over : Rows.modelBelievesRow.holds Tryz.pinned (OpenSpec.ofChange Rows.modelBelievesSpec) :=
  OpenClaim.holds_of_wide 3 Tryz.f3 rfl rfl rfl rfl rfl rfl rfl ⟨rfl, rfl, rfl, rfl, rfl⟩ rfl rfl rfl rfl rfl (by kernel_rfl) Tryz.func3 (by kernel_rfl)
    (of_decide_eq_true (by kernel_rfl)) (by unfold Func.isWrapper; first | (rw [if_pos (by decide +kernel)]; kernel_rfl) | (rw [if_neg (by decide +kernel)]; exact ⟨rfl, rfl⟩))
    (fun os started H enc _ => ModelBelieves_lifted os started H enc)

theorem ModelBelieves_holds : Rows.ModelBelievesSaid := ModelBelieves_over
#print axioms ModelBelieves_holds
end Go.Proofs.YtjodmedgkmeklaaGreat
