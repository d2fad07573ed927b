/-
  Texts merged: Q44, Raw, Pick.
-/
import Derived.Test.YtjodmedgkmeklaaGreatJ33
import Derived.Test.YtjodmedgkmeklaaGreatJ01
import Derived.Test.YtjodmedgkmeklaaGreatRows
/-
  Two sides shake hands (shakes).
-/
namespace Go.Proofs.YtjodmedgkmeklaaGreat
open Go Go.RowKit Go.Maps
attribute [local go_sem] extUpon run_store_tm
attribute [local go_sem ↓] Tm.val_cell eval_put_ne eval_put_none eval_put_same size_put eval_const
attribute [local go_sem ↓] meth_Atom meth_Public meth_Shared meth_Chain meth_Digest meth_Box meth_Empty
attribute [local go_sem ↓] run_build_chain run_build_digest run_build_box
attribute [local go_sem] ta_Atom_Atom ta_Public_Atom ta_Shared_Atom ta_Chain_Atom ta_Digest_Atom ta_Box_Atom ta_Empty_Atom ta_Nil_Atom ta_Atom_Public ta_Public_Public ta_Shared_Public ta_Chain_Public ta_Digest_Public ta_Box_Public ta_Empty_Public ta_Nil_Public ta_Atom_Shared ta_Public_Shared ta_Shared_Shared ta_Chain_Shared ta_Digest_Shared ta_Box_Shared ta_Empty_Shared ta_Nil_Shared ta_Atom_Chain ta_Public_Chain ta_Shared_Chain ta_Chain_Chain ta_Digest_Chain ta_Box_Chain ta_Empty_Chain ta_Nil_Chain ta_Atom_Digest ta_Public_Digest ta_Shared_Digest ta_Chain_Digest ta_Digest_Digest ta_Box_Digest ta_Empty_Digest ta_Nil_Digest ta_Atom_Box ta_Public_Box ta_Shared_Box ta_Chain_Box ta_Digest_Box ta_Box_Box ta_Empty_Box ta_Nil_Box ta_Atom_Empty ta_Public_Empty ta_Shared_Empty ta_Chain_Empty ta_Digest_Empty ta_Box_Empty ta_Empty_Empty ta_Nil_Empty
variable {f : Int → List UInt8} {P : Int → Prop} {w0 w W W2 W3 : World} {μ μ2 : MS} {c d wb : Nat} {B : Int} {F : Nat → Prop}

/-- An operation that is passed over, ahead of whatever else. -/
theorem reg_pskip {Pg : Program} {md : Region.Mode} {Q : Exit → Act → World → Prop} {E fuel : Nat} {l tl : List Oper} {oi : Oper} {listed : Array Bool} {a : Act} {w : World} (i : Nat) (hi : l.drop i = oi :: tl) (hB : pureB md l.toArray listed i = true)
    (hw : Region.wanted oi (yielded l.toArray a.tmps) = false) (h : wpAnyU Pg md l.toArray (calm Q) E fuel (listed.setIfInBounds i true) (a.put oi.dst undef) w) : wpAnyU Pg md l.toArray (calm Q) E (fuel + 1) listed a w := by
  simp only [pureB, Bool.and_eq_true] at hB
  obtain ⟨⟨b1, b2⟩, b3⟩ := hB
  exact wpAnyU_pure (at_drop hi) (Region.noSelect_spec b1) (fun _ _ _ h => h) fuel listed a w (Region.free_spec (at_drop hi) b3) (by simpa using b2) (.inr ⟨hw, rfl⟩) h
noncomputable def MS.shake1 (f : Int → List UInt8) (P : Int → Prop) (μ : MS) (k : Nat) (a b : Int) : MS × Bool :=
  if (μ.play f P 2 a 0 0).2 ≠ 0 ∨ (μ.play f P 2 a 0 0).1.pool.length ≠ μ.pool.length + k then ((μ.play f P 2 a 0 0).1, false)
  else (((μ.play f P 2 a 0 0).1.play f P 3 b μ.pool.length (μ.pool.length + 1)).1, decide (((μ.play f P 2 a 0 0).1.play f P 3 b μ.pool.length (μ.pool.length + 1)).2 = 0))
def shN (j : Nat) : Nat := if j = 0 then 1 else if j = 1 then 3 else 2
/-- From step j on. -/
noncomputable def MS.shk (f : Int → List UInt8) (P : Int → Prop) (a b : Int) : Nat → MS → MS × Bool
  | 0, μ => (μ, true)
  | r + 1, μ => if (μ.shake1 f P (shN (2 - r)) (if r = 1 then b else a) (if r = 1 then a else b)).2 then MS.shk f P a b r (μ.shake1 f P (shN (2 - r)) (if r = 1 then b else a) (if r = 1 then a else b)).1 else (μ.shake1 f P (shN (2 - r)) (if r = 1 then b else a) (if r = 1 then a else b))
theorem shk_succ (a b : Int) (r : Nat) : μ.shk f P a b (r + 1) = if (μ.shake1 f P (shN (2 - r)) (if r = 1 then b else a) (if r = 1 then a else b)).2 then MS.shk f P a b r (μ.shake1 f P (shN (2 - r)) (if r = 1 then b else a) (if r = 1 then a else b)).1 else (μ.shake1 f P (shN (2 - r)) (if r = 1 then b else a) (if r = 1 then a else b)) := rfl

set_option maxHeartbeats 16000000 in
set_option maxRecDepth 100000 in
theorem shakes_w (N : Nums f P) (hP : ∀ n, P1 n → P n) (hI : Itoa w0 Small f) (h : Wd f P c d B F w0 W wb μ) (a b : Int) (hao : IntOk a) (hbo : IntOk b) (hc : c ≤ 98) (hd : d ≤ 900) (h0 : 0 ≤ B) (h9 : B ≤ 999) :
    Calls Tryz.prog 19 #[ptr wb, .int .i64 a, .int .i64 b] W fun e w' => e = .returned (.bool (μ.shk f P a b 3).2) ∧ Wd f P c d B F w0 w' wb (μ.shk f P a b 3).1 := by
  have HW := hid h
  have HN := hid N
  have HP := hid hP
  have HI := hid hI
  have aok := hid hao
  have bok := hid hbo
  clear h N hP hI hao hbo
  go_enter Tryz.func19, Tryz.ntmps19
  go_wp2_with fail
  go_loopw [7] (fun iv wr => ∃ (j : Nat) (μj : MS), iv = .int .i64 j ∧ j ≤ 3 ∧ Hid (Wd f P c d B F w0 wr wb μj) ∧ Hid (μ.shk f P a b 3 = μj.shk f P a b (3 - j))) (fun iv _ => 3 - (intOf iv).toNat)
  case atStart => exact ⟨0, μ, rfl, by omega, HW, hid rfl⟩
  case round =>
    clear HW
    obtain ⟨j, μj, rfl, hj, HW, HF⟩ := hrel
    rcases (show j = 0 ∨ j = 1 ∨ j = 2 ∨ j = 3 by omega) with rfl | rfl | rfl | rfl
    ·
      have hfe : μj.shk f P a b (2 + 1) = if (μj.shake1 f P 1 a b).2 then MS.shk f P a b 2 (μj.shake1 f P 1 a b).1 else μj.shake1 f P 1 a b := rfl
      have HFE := hid ((show μ.shk f P a b 3 = μj.shk f P a b (2 + 1) from HF.out).trans hfe)
      clear hfe HF
      have HPW := hid (fun W2 (hW : Ext wr W2) => play_w HN.out HP.out HI.out (HW.out.later hW) (kind := 2) (a := a) (b := 0) (e := 0) (by omega) aok.out (by omega) (by omega) hc hd h0 h9)
      have hfew := HW.out.pool.few
      have HFEW := hid hfew
      have HPO := hid (pool_w HW.out)
      have HSH : Hid (μj.shake1 f P 1 a b = if (μj.play f P 2 a 0 0).2 ≠ 0 ∨ (μj.play f P 2 a 0 0).1.pool.length ≠ μj.pool.length + 1 then ((μj.play f P 2 a 0 0).1, false) else (((μj.play f P 2 a 0 0).1.play f P 3 b μj.pool.length (μj.pool.length + 1)).1, decide (((μj.play f P 2 a 0 0).1.play f P 3 b μj.pool.length (μj.pool.length + 1)).2 = 0))) := hid rfl
      clear HW
      generalize μj.shake1 f P 1 a b = res at *
      rcases hp1 : μj.play f P 2 a 0 0 with ⟨μ1, r1⟩
      rw [hp1] at HPW HSH
      clear hp1
      generalize μj.pool.length = n at *
      go_wp2_with fail
      refine HPO.out.mono ?_
      rintro e w1 ⟨pa, pc, rfl, _, hE1⟩
      have HE1 := hid hE1
      clear hE1 HPO
      go_wp2_with fail
      refine reg_begin 3 (by kernel_rfl) ?_
      refine reg_hide (fun Q2 HQ => ?_)
      generalize hW : World.drew _ = Wa
      have HE : Hid (Ext wr Wa) := hid (HE1.out.trans (by rw [← hW]; exact Ext.drew _))
      clear hW HE1
      refine reg_pure 0 rfl (by kernel_rfl) (by kernel_rfl) ?_; apply Exists.intro; refine ⟨fun w' => ?_, ?_⟩; · go_simp; exact rfl
      refine reg_pure 1 rfl (by kernel_rfl) (by kernel_rfl) ?_; apply Exists.intro; refine ⟨fun w' => ?_, ?_⟩; · go_simp; exact rfl
      refine reg_pure 2 rfl (by kernel_rfl) (by kernel_rfl) ?_; apply Exists.intro; refine ⟨fun w' => ?_, ?_⟩; · go_simp; exact rfl
      refine reg_one 3 rfl (by kernel_rfl) (by kernel_rfl) (fun w' hw' => ?_)
      have hpl := HPW.out w' (HE.out.trans hw')
      go_simp
      refine hpl.mono ?_
      rintro e w2 ⟨rfl, hw2, _⟩
      have HW1 := hid hw2
      clear hpl hw2 hw' HE HPW
      by_cases hr : r1 = 0
      ·
        subst hr
        refine reg_pure 4 rfl (by kernel_rfl) (by kernel_rfl) ?_; apply Exists.intro; refine ⟨fun w' => ?_, ?_⟩; · go_simp; exact rfl
        refine reg_pure 5 rfl (by kernel_rfl) (by kernel_rfl) ?_; apply Exists.intro; refine ⟨fun w' => ?_, ?_⟩; · go_simp; exact rfl
        refine reg_pure 6 rfl (by kernel_rfl) (by kernel_rfl) ?_; apply Exists.intro; refine ⟨fun w' => ?_, ?_⟩; · go_simp; exact rfl
        refine reg_pure 9 rfl (by kernel_rfl) (by kernel_rfl) ?_; apply Exists.intro; refine ⟨fun w' => ?_, ?_⟩; · go_simp; exact rfl
        refine reg_pure 10 rfl (by kernel_rfl) (by kernel_rfl) ?_; apply Exists.intro; refine ⟨fun w' => ?_, ?_⟩; · go_simp; exact rfl
        refine reg_pure 11 rfl (by kernel_rfl) (by kernel_rfl) ?_; apply Exists.intro; refine ⟨fun w' => ?_, ?_⟩; · go_simp; exact rfl
        refine reg_pure 12 rfl (by kernel_rfl) (by kernel_rfl) ?_; apply Exists.intro; refine ⟨fun w' => ?_, ?_⟩; · go_simp; exact rfl
        refine reg_pure 13 rfl (by kernel_rfl) (by kernel_rfl) ?_; apply Exists.intro; refine ⟨fun w' => ?_, ?_⟩; · go_simp; exact rfl
        refine reg_one 7 rfl (by kernel_rfl) (by kernel_rfl) (fun w' hw' => ?_)
        have hpl := pool_w (HW1.out.later hw')
        go_simp
        refine hpl.mono ?_
        rintro e w3 ⟨pa2, pc2, rfl, _, hE3⟩
        have HW2 := hid ((HW1.out.later hw').later hE3)
        clear hpl hE3 hw' HW1
        by_cases hlen : μ1.pool.length = n + 1
        ·
          have hn3 : n ≤ 300 := HFEW.out
          have hl2 : (μ1.pool.length : Int) = (n : Int) + 1 := by omega
          have hwr : IntKind.i64.wrap ((n : Int) + 1) = (n : Int) + 1 := by rw [IntKind.wrap_i64]; omega
          refine reg_pure 8 rfl (by kernel_rfl) (by kernel_rfl) ?_; apply Exists.intro; refine ⟨fun w' => ?_, ?_⟩; · go_simp; exact rfl
          refine reg_pure 14 rfl (by kernel_rfl) (by kernel_rfl) ?_; apply Exists.intro; refine ⟨fun w' => ?_, ?_⟩; · go_simp; exact rfl
          refine reg_pure 15 rfl (by kernel_rfl) (by kernel_rfl) ?_; apply Exists.intro; refine ⟨fun w' => ?_, ?_⟩; · go_simp; exact rfl
          refine reg_done (by kernel_rfl) (fun W5 hw5 => ?_) _
          rw [HQ.out]
          clear HQ Q2
          have HW5 := hid (HW2.out.later hw5)
          have HSE : Hid (res = ((μ1.play f P 3 b n (n + 1)).1, decide ((μ1.play f P 3 b n (n + 1)).2 = 0))) := hid (by rw [HSH.out, if_neg (by simp [hlen])])
          have HPW := hid (play_w HN.out HP.out HI.out HW5.out (kind := 3) (a := b) (b := n) (e := n + 1) (by omega) bok.out (by omega) (by omega) hc hd h0 h9)
          clear hw5 HW2 HW5 HSH
          rcases hp2 : μ1.play f P 3 b n (n + 1) with ⟨μ2, r2⟩
          rw [hp2] at HPW HSE
          clear hp2
          go_simp
          go_wp2_with fail
          refine HPW.out.mono ?_
          rintro e w6 ⟨rfl, hw6, _⟩
          have HW6 := hid hw6
          clear hw6 HPW
          by_cases hr2 : r2 = 0
          ·
            subst hr2
            have HG : Hid (μ.shk f P a b 3 = μ2.shk f P a b 2) := hid (by rw [HFE.out, HSE.out]; rfl)
            go_wp2_with fail
            go_roundw
            case rel => exact ⟨0 + 1, μ2, by go_num, by omega, HW6, HG⟩
            case measure => simp [intOf] <;> omega
          ·
            have HG : Hid (μ.shk f P a b 3 = (μ2, false)) := hid (by rw [HFE.out, HSE.out]; simp [hr2])
            go_wp2_with fail
            go_ret
            rw [HG.out]
            exact ⟨rfl, HW6.out⟩
        ·
          have hn3 : n ≤ 300 := HFEW.out
          have hl2 : ¬ (μ1.pool.length : Int) = (n : Int) + 1 := by omega
          have hwr : IntKind.i64.wrap ((n : Int) + 1) = (n : Int) + 1 := by rw [IntKind.wrap_i64]; omega
          refine reg_pure 8 rfl (by kernel_rfl) (by kernel_rfl) ?_; apply Exists.intro; refine ⟨fun w' => ?_, ?_⟩; · go_simp; exact rfl
          refine reg_pure 14 rfl (by kernel_rfl) (by kernel_rfl) ?_; apply Exists.intro; refine ⟨fun w' => ?_, ?_⟩; · go_simp; exact rfl
          refine reg_pure 15 rfl (by kernel_rfl) (by kernel_rfl) ?_; apply Exists.intro; refine ⟨fun w' => ?_, ?_⟩; · go_simp; exact rfl
          refine reg_done (by kernel_rfl) (fun W5 hw5 => ?_) _
          rw [HQ.out]
          clear HQ Q2
          have HW5 := hid (HW2.out.later hw5)
          have HSE : Hid (res = (μ1, false)) := hid (by rw [HSH.out, if_pos (.inr hlen)])
          have HG : Hid (μ.shk f P a b 3 = (μ1, false)) := hid (by rw [HFE.out, HSE.out]; rfl)
          clear hw5 HW2 HSH HSE HFE
          go_simp
          go_wp2_with fail
          go_ret
          rw [HG.out]
          exact ⟨rfl, HW5.out⟩
      ·
        have hr2 : (r1 == 0) = false := by simp [hr]
        have hr3 : (r1 != 0) = true := by simp [hr]
        refine reg_pure 4 rfl (by kernel_rfl) (by kernel_rfl) ?_; apply Exists.intro; refine ⟨fun w' => ?_, ?_⟩; · go_simp; exact rfl
        refine reg_pure 5 rfl (by kernel_rfl) (by kernel_rfl) ?_; apply Exists.intro; refine ⟨fun w' => ?_, ?_⟩; · go_simp; exact rfl
        refine reg_pskip 6 rfl (by kernel_rfl) (by kernel_rfl) ?_
        refine reg_pskip 7 rfl (by kernel_rfl) (by kernel_rfl) ?_
        refine reg_pskip 8 rfl (by kernel_rfl) (by kernel_rfl) ?_
        refine reg_pskip 9 rfl (by kernel_rfl) (by kernel_rfl) ?_
        refine reg_pskip 10 rfl (by kernel_rfl) (by kernel_rfl) ?_
        refine reg_pskip 11 rfl (by kernel_rfl) (by kernel_rfl) ?_
        refine reg_pskip 12 rfl (by kernel_rfl) (by kernel_rfl) ?_
        refine reg_pskip 13 rfl (by kernel_rfl) (by kernel_rfl) ?_
        refine reg_pskip 14 rfl (by kernel_rfl) (by kernel_rfl) ?_
        refine reg_pure 15 rfl (by kernel_rfl) (by kernel_rfl) ?_; apply Exists.intro; refine ⟨fun w' => ?_, ?_⟩; · go_simp; exact rfl
        refine reg_done (by kernel_rfl) (fun W5 hw5 => ?_) _
        rw [HQ.out]
        clear HQ Q2
        have HW5 := hid (HW1.out.later hw5)
        have HSE : Hid (res = (μ1, false)) := hid (by rw [HSH.out, if_pos (.inl hr)])
        have HG : Hid (μ.shk f P a b 3 = (μ1, false)) := hid (by rw [HFE.out, HSE.out]; rfl)
        clear hw5 HW1 HSH HSE HFE
        go_simp
        go_wp2_with fail
        go_ret
        rw [HG.out]
        exact ⟨rfl, HW5.out⟩
    ·
      have hfe : μj.shk f P a b (1 + 1) = if (μj.shake1 f P 3 b a).2 then MS.shk f P a b 1 (μj.shake1 f P 3 b a).1 else μj.shake1 f P 3 b a := rfl
      have HFE := hid ((show μ.shk f P a b 3 = μj.shk f P a b (1 + 1) from HF.out).trans hfe)
      clear hfe HF
      have HPW := hid (fun W2 (hW : Ext wr W2) => play_w HN.out HP.out HI.out (HW.out.later hW) (kind := 2) (a := b) (b := 0) (e := 0) (by omega) bok.out (by omega) (by omega) hc hd h0 h9)
      have hfew := HW.out.pool.few
      have HFEW := hid hfew
      have HPO := hid (pool_w HW.out)
      have HSH : Hid (μj.shake1 f P 3 b a = if (μj.play f P 2 b 0 0).2 ≠ 0 ∨ (μj.play f P 2 b 0 0).1.pool.length ≠ μj.pool.length + 3 then ((μj.play f P 2 b 0 0).1, false) else (((μj.play f P 2 b 0 0).1.play f P 3 a μj.pool.length (μj.pool.length + 1)).1, decide (((μj.play f P 2 b 0 0).1.play f P 3 a μj.pool.length (μj.pool.length + 1)).2 = 0))) := hid rfl
      clear HW
      generalize μj.shake1 f P 3 b a = res at *
      rcases hp1 : μj.play f P 2 b 0 0 with ⟨μ1, r1⟩
      rw [hp1] at HPW HSH
      clear hp1
      generalize μj.pool.length = n at *
      go_wp2_with fail
      refine HPO.out.mono ?_
      rintro e w1 ⟨pa, pc, rfl, _, hE1⟩
      have HE1 := hid hE1
      clear hE1 HPO
      go_wp2_with fail
      refine reg_begin 3 (by kernel_rfl) ?_
      refine reg_hide (fun Q2 HQ => ?_)
      generalize hW : World.drew _ = Wa
      have HE : Hid (Ext wr Wa) := hid (HE1.out.trans (by rw [← hW]; exact Ext.drew _))
      clear hW HE1
      refine reg_pure 0 rfl (by kernel_rfl) (by kernel_rfl) ?_; apply Exists.intro; refine ⟨fun w' => ?_, ?_⟩; · go_simp; exact rfl
      refine reg_pure 1 rfl (by kernel_rfl) (by kernel_rfl) ?_; apply Exists.intro; refine ⟨fun w' => ?_, ?_⟩; · go_simp; exact rfl
      refine reg_pure 2 rfl (by kernel_rfl) (by kernel_rfl) ?_; apply Exists.intro; refine ⟨fun w' => ?_, ?_⟩; · go_simp; exact rfl
      refine reg_one 3 rfl (by kernel_rfl) (by kernel_rfl) (fun w' hw' => ?_)
      have hpl := HPW.out w' (HE.out.trans hw')
      go_simp
      refine hpl.mono ?_
      rintro e w2 ⟨rfl, hw2, _⟩
      have HW1 := hid hw2
      clear hpl hw2 hw' HE HPW
      by_cases hr : r1 = 0
      ·
        subst hr
        refine reg_pure 4 rfl (by kernel_rfl) (by kernel_rfl) ?_; apply Exists.intro; refine ⟨fun w' => ?_, ?_⟩; · go_simp; exact rfl
        refine reg_pure 5 rfl (by kernel_rfl) (by kernel_rfl) ?_; apply Exists.intro; refine ⟨fun w' => ?_, ?_⟩; · go_simp; exact rfl
        refine reg_pure 6 rfl (by kernel_rfl) (by kernel_rfl) ?_; apply Exists.intro; refine ⟨fun w' => ?_, ?_⟩; · go_simp; exact rfl
        refine reg_pure 9 rfl (by kernel_rfl) (by kernel_rfl) ?_; apply Exists.intro; refine ⟨fun w' => ?_, ?_⟩; · go_simp; exact rfl
        refine reg_pure 10 rfl (by kernel_rfl) (by kernel_rfl) ?_; apply Exists.intro; refine ⟨fun w' => ?_, ?_⟩; · go_simp; exact rfl
        refine reg_pure 11 rfl (by kernel_rfl) (by kernel_rfl) ?_; apply Exists.intro; refine ⟨fun w' => ?_, ?_⟩; · go_simp; exact rfl
        refine reg_pure 12 rfl (by kernel_rfl) (by kernel_rfl) ?_; apply Exists.intro; refine ⟨fun w' => ?_, ?_⟩; · go_simp; exact rfl
        refine reg_pure 13 rfl (by kernel_rfl) (by kernel_rfl) ?_; apply Exists.intro; refine ⟨fun w' => ?_, ?_⟩; · go_simp; exact rfl
        refine reg_one 7 rfl (by kernel_rfl) (by kernel_rfl) (fun w' hw' => ?_)
        have hpl := pool_w (HW1.out.later hw')
        go_simp
        refine hpl.mono ?_
        rintro e w3 ⟨pa2, pc2, rfl, _, hE3⟩
        have HW2 := hid ((HW1.out.later hw').later hE3)
        clear hpl hE3 hw' HW1
        by_cases hlen : μ1.pool.length = n + 3
        ·
          have hn3 : n ≤ 300 := HFEW.out
          have hl2 : (μ1.pool.length : Int) = (n : Int) + 3 := by omega
          have hwr : IntKind.i64.wrap ((n : Int) + 3) = (n : Int) + 3 := by rw [IntKind.wrap_i64]; omega
          refine reg_pure 8 rfl (by kernel_rfl) (by kernel_rfl) ?_; apply Exists.intro; refine ⟨fun w' => ?_, ?_⟩; · go_simp; exact rfl
          refine reg_pure 14 rfl (by kernel_rfl) (by kernel_rfl) ?_; apply Exists.intro; refine ⟨fun w' => ?_, ?_⟩; · go_simp; exact rfl
          refine reg_pure 15 rfl (by kernel_rfl) (by kernel_rfl) ?_; apply Exists.intro; refine ⟨fun w' => ?_, ?_⟩; · go_simp; exact rfl
          refine reg_done (by kernel_rfl) (fun W5 hw5 => ?_) _
          rw [HQ.out]
          clear HQ Q2
          have HW5 := hid (HW2.out.later hw5)
          have HSE : Hid (res = ((μ1.play f P 3 a n (n + 1)).1, decide ((μ1.play f P 3 a n (n + 1)).2 = 0))) := hid (by rw [HSH.out, if_neg (by simp [hlen])])
          have HPW := hid (play_w HN.out HP.out HI.out HW5.out (kind := 3) (a := a) (b := n) (e := n + 1) (by omega) aok.out (by omega) (by omega) hc hd h0 h9)
          clear hw5 HW2 HW5 HSH
          rcases hp2 : μ1.play f P 3 a n (n + 1) with ⟨μ2, r2⟩
          rw [hp2] at HPW HSE
          clear hp2
          go_simp
          go_wp2_with fail
          refine HPW.out.mono ?_
          rintro e w6 ⟨rfl, hw6, _⟩
          have HW6 := hid hw6
          clear hw6 HPW
          by_cases hr2 : r2 = 0
          ·
            subst hr2
            have HG : Hid (μ.shk f P a b 3 = μ2.shk f P a b 1) := hid (by rw [HFE.out, HSE.out]; rfl)
            go_wp2_with fail
            go_roundw
            case rel => exact ⟨1 + 1, μ2, by go_num, by omega, HW6, HG⟩
            case measure => simp [intOf] <;> omega
          ·
            have HG : Hid (μ.shk f P a b 3 = (μ2, false)) := hid (by rw [HFE.out, HSE.out]; simp [hr2])
            go_wp2_with fail
            go_ret
            rw [HG.out]
            exact ⟨rfl, HW6.out⟩
        ·
          have hn3 : n ≤ 300 := HFEW.out
          have hl2 : ¬ (μ1.pool.length : Int) = (n : Int) + 3 := by omega
          have hwr : IntKind.i64.wrap ((n : Int) + 3) = (n : Int) + 3 := by rw [IntKind.wrap_i64]; omega
          refine reg_pure 8 rfl (by kernel_rfl) (by kernel_rfl) ?_; apply Exists.intro; refine ⟨fun w' => ?_, ?_⟩; · go_simp; exact rfl
          refine reg_pure 14 rfl (by kernel_rfl) (by kernel_rfl) ?_; apply Exists.intro; refine ⟨fun w' => ?_, ?_⟩; · go_simp; exact rfl
          refine reg_pure 15 rfl (by kernel_rfl) (by kernel_rfl) ?_; apply Exists.intro; refine ⟨fun w' => ?_, ?_⟩; · go_simp; exact rfl
          refine reg_done (by kernel_rfl) (fun W5 hw5 => ?_) _
          rw [HQ.out]
          clear HQ Q2
          have HW5 := hid (HW2.out.later hw5)
          have HSE : Hid (res = (μ1, false)) := hid (by rw [HSH.out, if_pos (.inr hlen)])
          have HG : Hid (μ.shk f P a b 3 = (μ1, false)) := hid (by rw [HFE.out, HSE.out]; rfl)
          clear hw5 HW2 HSH HSE HFE
          go_simp
          go_wp2_with fail
          go_ret
          rw [HG.out]
          exact ⟨rfl, HW5.out⟩
      ·
        have hr2 : (r1 == 0) = false := by simp [hr]
        have hr3 : (r1 != 0) = true := by simp [hr]
        refine reg_pure 4 rfl (by kernel_rfl) (by kernel_rfl) ?_; apply Exists.intro; refine ⟨fun w' => ?_, ?_⟩; · go_simp; exact rfl
        refine reg_pure 5 rfl (by kernel_rfl) (by kernel_rfl) ?_; apply Exists.intro; refine ⟨fun w' => ?_, ?_⟩; · go_simp; exact rfl
        refine reg_pskip 6 rfl (by kernel_rfl) (by kernel_rfl) ?_
        refine reg_pskip 7 rfl (by kernel_rfl) (by kernel_rfl) ?_
        refine reg_pskip 8 rfl (by kernel_rfl) (by kernel_rfl) ?_
        refine reg_pskip 9 rfl (by kernel_rfl) (by kernel_rfl) ?_
        refine reg_pskip 10 rfl (by kernel_rfl) (by kernel_rfl) ?_
        refine reg_pskip 11 rfl (by kernel_rfl) (by kernel_rfl) ?_
        refine reg_pskip 12 rfl (by kernel_rfl) (by kernel_rfl) ?_
        refine reg_pskip 13 rfl (by kernel_rfl) (by kernel_rfl) ?_
        refine reg_pskip 14 rfl (by kernel_rfl) (by kernel_rfl) ?_
        refine reg_pure 15 rfl (by kernel_rfl) (by kernel_rfl) ?_; apply Exists.intro; refine ⟨fun w' => ?_, ?_⟩; · go_simp; exact rfl
        refine reg_done (by kernel_rfl) (fun W5 hw5 => ?_) _
        rw [HQ.out]
        clear HQ Q2
        have HW5 := hid (HW1.out.later hw5)
        have HSE : Hid (res = (μ1, false)) := hid (by rw [HSH.out, if_pos (.inl hr)])
        have HG : Hid (μ.shk f P a b 3 = (μ1, false)) := hid (by rw [HFE.out, HSE.out]; rfl)
        clear hw5 HW1 HSH HSE HFE
        go_simp
        go_wp2_with fail
        go_ret
        rw [HG.out]
        exact ⟨rfl, HW5.out⟩
    ·
      have hfe : μj.shk f P a b (0 + 1) = if (μj.shake1 f P 2 a b).2 then MS.shk f P a b 0 (μj.shake1 f P 2 a b).1 else μj.shake1 f P 2 a b := rfl
      have HFE := hid ((show μ.shk f P a b 3 = μj.shk f P a b (0 + 1) from HF.out).trans hfe)
      clear hfe HF
      have HPW := hid (fun W2 (hW : Ext wr W2) => play_w HN.out HP.out HI.out (HW.out.later hW) (kind := 2) (a := a) (b := 0) (e := 0) (by omega) aok.out (by omega) (by omega) hc hd h0 h9)
      have hfew := HW.out.pool.few
      have HFEW := hid hfew
      have HPO := hid (pool_w HW.out)
      have HSH : Hid (μj.shake1 f P 2 a b = if (μj.play f P 2 a 0 0).2 ≠ 0 ∨ (μj.play f P 2 a 0 0).1.pool.length ≠ μj.pool.length + 2 then ((μj.play f P 2 a 0 0).1, false) else (((μj.play f P 2 a 0 0).1.play f P 3 b μj.pool.length (μj.pool.length + 1)).1, decide (((μj.play f P 2 a 0 0).1.play f P 3 b μj.pool.length (μj.pool.length + 1)).2 = 0))) := hid rfl
      clear HW
      generalize μj.shake1 f P 2 a b = res at *
      rcases hp1 : μj.play f P 2 a 0 0 with ⟨μ1, r1⟩
      rw [hp1] at HPW HSH
      clear hp1
      generalize μj.pool.length = n at *
      go_wp2_with fail
      refine HPO.out.mono ?_
      rintro e w1 ⟨pa, pc, rfl, _, hE1⟩
      have HE1 := hid hE1
      clear hE1 HPO
      go_wp2_with fail
      refine reg_begin 3 (by kernel_rfl) ?_
      refine reg_hide (fun Q2 HQ => ?_)
      generalize hW : World.drew _ = Wa
      have HE : Hid (Ext wr Wa) := hid (HE1.out.trans (by rw [← hW]; exact Ext.drew _))
      clear hW HE1
      refine reg_pure 0 rfl (by kernel_rfl) (by kernel_rfl) ?_; apply Exists.intro; refine ⟨fun w' => ?_, ?_⟩; · go_simp; exact rfl
      refine reg_pure 1 rfl (by kernel_rfl) (by kernel_rfl) ?_; apply Exists.intro; refine ⟨fun w' => ?_, ?_⟩; · go_simp; exact rfl
      refine reg_pure 2 rfl (by kernel_rfl) (by kernel_rfl) ?_; apply Exists.intro; refine ⟨fun w' => ?_, ?_⟩; · go_simp; exact rfl
      refine reg_one 3 rfl (by kernel_rfl) (by kernel_rfl) (fun w' hw' => ?_)
      have hpl := HPW.out w' (HE.out.trans hw')
      go_simp
      refine hpl.mono ?_
      rintro e w2 ⟨rfl, hw2, _⟩
      have HW1 := hid hw2
      clear hpl hw2 hw' HE HPW
      by_cases hr : r1 = 0
      ·
        subst hr
        refine reg_pure 4 rfl (by kernel_rfl) (by kernel_rfl) ?_; apply Exists.intro; refine ⟨fun w' => ?_, ?_⟩; · go_simp; exact rfl
        refine reg_pure 5 rfl (by kernel_rfl) (by kernel_rfl) ?_; apply Exists.intro; refine ⟨fun w' => ?_, ?_⟩; · go_simp; exact rfl
        refine reg_pure 6 rfl (by kernel_rfl) (by kernel_rfl) ?_; apply Exists.intro; refine ⟨fun w' => ?_, ?_⟩; · go_simp; exact rfl
        refine reg_pure 9 rfl (by kernel_rfl) (by kernel_rfl) ?_; apply Exists.intro; refine ⟨fun w' => ?_, ?_⟩; · go_simp; exact rfl
        refine reg_pure 10 rfl (by kernel_rfl) (by kernel_rfl) ?_; apply Exists.intro; refine ⟨fun w' => ?_, ?_⟩; · go_simp; exact rfl
        refine reg_pure 11 rfl (by kernel_rfl) (by kernel_rfl) ?_; apply Exists.intro; refine ⟨fun w' => ?_, ?_⟩; · go_simp; exact rfl
        refine reg_pure 12 rfl (by kernel_rfl) (by kernel_rfl) ?_; apply Exists.intro; refine ⟨fun w' => ?_, ?_⟩; · go_simp; exact rfl
        refine reg_pure 13 rfl (by kernel_rfl) (by kernel_rfl) ?_; apply Exists.intro; refine ⟨fun w' => ?_, ?_⟩; · go_simp; exact rfl
        refine reg_one 7 rfl (by kernel_rfl) (by kernel_rfl) (fun w' hw' => ?_)
        have hpl := pool_w (HW1.out.later hw')
        go_simp
        refine hpl.mono ?_
        rintro e w3 ⟨pa2, pc2, rfl, _, hE3⟩
        have HW2 := hid ((HW1.out.later hw').later hE3)
        clear hpl hE3 hw' HW1
        by_cases hlen : μ1.pool.length = n + 2
        ·
          have hn3 : n ≤ 300 := HFEW.out
          have hl2 : (μ1.pool.length : Int) = (n : Int) + 2 := by omega
          have hwr : IntKind.i64.wrap ((n : Int) + 2) = (n : Int) + 2 := by rw [IntKind.wrap_i64]; omega
          refine reg_pure 8 rfl (by kernel_rfl) (by kernel_rfl) ?_; apply Exists.intro; refine ⟨fun w' => ?_, ?_⟩; · go_simp; exact rfl
          refine reg_pure 14 rfl (by kernel_rfl) (by kernel_rfl) ?_; apply Exists.intro; refine ⟨fun w' => ?_, ?_⟩; · go_simp; exact rfl
          refine reg_pure 15 rfl (by kernel_rfl) (by kernel_rfl) ?_; apply Exists.intro; refine ⟨fun w' => ?_, ?_⟩; · go_simp; exact rfl
          refine reg_done (by kernel_rfl) (fun W5 hw5 => ?_) _
          rw [HQ.out]
          clear HQ Q2
          have HW5 := hid (HW2.out.later hw5)
          have HSE : Hid (res = ((μ1.play f P 3 b n (n + 1)).1, decide ((μ1.play f P 3 b n (n + 1)).2 = 0))) := hid (by rw [HSH.out, if_neg (by simp [hlen])])
          have HPW := hid (play_w HN.out HP.out HI.out HW5.out (kind := 3) (a := b) (b := n) (e := n + 1) (by omega) bok.out (by omega) (by omega) hc hd h0 h9)
          clear hw5 HW2 HW5 HSH
          rcases hp2 : μ1.play f P 3 b n (n + 1) with ⟨μ2, r2⟩
          rw [hp2] at HPW HSE
          clear hp2
          go_simp
          go_wp2_with fail
          refine HPW.out.mono ?_
          rintro e w6 ⟨rfl, hw6, _⟩
          have HW6 := hid hw6
          clear hw6 HPW
          by_cases hr2 : r2 = 0
          ·
            subst hr2
            have HG : Hid (μ.shk f P a b 3 = μ2.shk f P a b 0) := hid (by rw [HFE.out, HSE.out]; rfl)
            go_wp2_with fail
            go_roundw
            case rel => exact ⟨2 + 1, μ2, by go_num, by omega, HW6, HG⟩
            case measure => simp [intOf] <;> omega
          ·
            have HG : Hid (μ.shk f P a b 3 = (μ2, false)) := hid (by rw [HFE.out, HSE.out]; simp [hr2])
            go_wp2_with fail
            go_ret
            rw [HG.out]
            exact ⟨rfl, HW6.out⟩
        ·
          have hn3 : n ≤ 300 := HFEW.out
          have hl2 : ¬ (μ1.pool.length : Int) = (n : Int) + 2 := by omega
          have hwr : IntKind.i64.wrap ((n : Int) + 2) = (n : Int) + 2 := by rw [IntKind.wrap_i64]; omega
          refine reg_pure 8 rfl (by kernel_rfl) (by kernel_rfl) ?_; apply Exists.intro; refine ⟨fun w' => ?_, ?_⟩; · go_simp; exact rfl
          refine reg_pure 14 rfl (by kernel_rfl) (by kernel_rfl) ?_; apply Exists.intro; refine ⟨fun w' => ?_, ?_⟩; · go_simp; exact rfl
          refine reg_pure 15 rfl (by kernel_rfl) (by kernel_rfl) ?_; apply Exists.intro; refine ⟨fun w' => ?_, ?_⟩; · go_simp; exact rfl
          refine reg_done (by kernel_rfl) (fun W5 hw5 => ?_) _
          rw [HQ.out]
          clear HQ Q2
          have HW5 := hid (HW2.out.later hw5)
          have HSE : Hid (res = (μ1, false)) := hid (by rw [HSH.out, if_pos (.inr hlen)])
          have HG : Hid (μ.shk f P a b 3 = (μ1, false)) := hid (by rw [HFE.out, HSE.out]; rfl)
          clear hw5 HW2 HSH HSE HFE
          go_simp
          go_wp2_with fail
          go_ret
          rw [HG.out]
          exact ⟨rfl, HW5.out⟩
      ·
        have hr2 : (r1 == 0) = false := by simp [hr]
        have hr3 : (r1 != 0) = true := by simp [hr]
        refine reg_pure 4 rfl (by kernel_rfl) (by kernel_rfl) ?_; apply Exists.intro; refine ⟨fun w' => ?_, ?_⟩; · go_simp; exact rfl
        refine reg_pure 5 rfl (by kernel_rfl) (by kernel_rfl) ?_; apply Exists.intro; refine ⟨fun w' => ?_, ?_⟩; · go_simp; exact rfl
        refine reg_pskip 6 rfl (by kernel_rfl) (by kernel_rfl) ?_
        refine reg_pskip 7 rfl (by kernel_rfl) (by kernel_rfl) ?_
        refine reg_pskip 8 rfl (by kernel_rfl) (by kernel_rfl) ?_
        refine reg_pskip 9 rfl (by kernel_rfl) (by kernel_rfl) ?_
        refine reg_pskip 10 rfl (by kernel_rfl) (by kernel_rfl) ?_
        refine reg_pskip 11 rfl (by kernel_rfl) (by kernel_rfl) ?_
        refine reg_pskip 12 rfl (by kernel_rfl) (by kernel_rfl) ?_
        refine reg_pskip 13 rfl (by kernel_rfl) (by kernel_rfl) ?_
        refine reg_pskip 14 rfl (by kernel_rfl) (by kernel_rfl) ?_
        refine reg_pure 15 rfl (by kernel_rfl) (by kernel_rfl) ?_; apply Exists.intro; refine ⟨fun w' => ?_, ?_⟩; · go_simp; exact rfl
        refine reg_done (by kernel_rfl) (fun W5 hw5 => ?_) _
        rw [HQ.out]
        clear HQ Q2
        have HW5 := hid (HW1.out.later hw5)
        have HSE : Hid (res = (μ1, false)) := hid (by rw [HSH.out, if_pos (.inl hr)])
        have HG : Hid (μ.shk f P a b 3 = (μ1, false)) := hid (by rw [HFE.out, HSE.out]; rfl)
        clear hw5 HW1 HSH HSE HFE
        go_simp
        go_wp2_with fail
        go_ret
        rw [HG.out]
        exact ⟨rfl, HW5.out⟩
    ·
      have HG : Hid (μ.shk f P a b 3 = (μj, true)) := hid HF.out
      go_wp2_with fail
      go_ret
      rw [HG.out]
      exact ⟨rfl, HW.out⟩

end Go.Proofs.YtjodmedgkmeklaaGreat

/-
  Raw terms, and where they lie.
-/
namespace Go.Proofs.YtjodmedgkmeklaaGreat
open Go Go.RowKit

/-- A raw term. -/
structure Raw where
  kind : Int
  n : Int
  a : Int
  b : Int
  c : Int
def RawAt (w : World) (a : Option Addr) (l : List Raw) : Prop :=
  ∀ i (h : i < l.length), ∃ b o, a = some ⟨b, o, none⟩ ∧ w.cell? ⟨b, o + i * 5, none⟩ = some (.int .i64 l[i].kind) ∧ w.cell? ⟨b, o + i * 5 + 1, none⟩ = some (.int .i64 l[i].n) ∧
    w.cell? ⟨b, o + i * 5 + 2, none⟩ = some (.int .i64 l[i].a) ∧ w.cell? ⟨b, o + i * 5 + 3, none⟩ = some (.int .i64 l[i].b) ∧ w.cell? ⟨b, o + i * 5 + 4, none⟩ = some (.int .i64 l[i].c)
theorem RawAt.ext {w w1 : World} {a : Option Addr} {l : List Raw} (h : RawAt w a l) (he : Ext w w1) : RawAt w1 a l := fun i hi => by
  obtain ⟨b, o, ha, c0, c1, c2, c3, c4⟩ := h i hi
  exact ⟨b, o, ha, he.cell c0, he.cell c1, he.cell c2, he.cell c3, he.cell c4⟩

end Go.Proofs.YtjodmedgkmeklaaGreat

/-
  portholehand.Pick: a number brought within bounds.
-/
namespace Go.Proofs.YtjodmedgkmeklaaGreat
open Go Go.RowKit

theorem tmod_bd (n m : Int) (hm : 0 < m) : -m < n.tmod m ∧ n.tmod m < m ∧ (n.tmod m = n % m ∨ (n.tmod m = n % m - m ∧ n % m ≠ 0)) := by
  rw [Int.tmod_eq_emod]
  have h1 : (m.natAbs : Int) = m := by omega
  have h2 := Int.emod_nonneg n (show m ≠ 0 by omega)
  have h3 := Int.emod_lt_of_pos n hm
  by_cases h : 0 ≤ n ∨ m ∣ n
  · rw [if_pos h]; omega
  · rw [if_neg h, h1]
    have h5 : n % m ≠ 0 := fun h' => h (.inr (Int.dvd_of_emod_eq_zero h'))
    omega

theorem pick_eq (n m : Int) (hm : 0 < m) : (if n.tmod m < 0 then n.tmod m + m else n.tmod m) = n % m := by
  have h := tmod_bd n m hm
  have h2 := Int.emod_nonneg n (show m ≠ 0 by omega)
  have h3 := Int.emod_lt_of_pos n hm
  by_cases hneg : n.tmod m < 0
  · rw [if_pos hneg]; omega
  · rw [if_neg hneg]; omega

theorem pick_any (n m : Int) (w : World) (hm0 : 0 < m) (hm1 : m ≤ 1000000000) :
    Calls Tryz.prog 17 #[.int .i64 n, .int .i64 m] w fun e w' => e = .returned (.int .i64 (n % m)) ∧ w = w' := by
  have hlo : -m < n.tmod m := (tmod_bd n m hm0).1
  have hhi : n.tmod m < m := (tmod_bd n m hm0).2.1
  by_cases hneg : n.tmod m < 0
  · have H := hid (show n.tmod m + m = n % m by have := pick_eq n m hm0; rwa [if_pos hneg] at this)
    go_enter Tryz.func17, Tryz.ntmps17
    go_wp2
    go_ret
    exact ⟨by rw [← H.out]; rfl, rfl⟩
  · have H := hid (show n.tmod m = n % m by have := pick_eq n m hm0; rwa [if_neg hneg] at this)
    go_enter Tryz.func17, Tryz.ntmps17
    go_wp2
    go_ret
    exact ⟨by rw [← H.out]; rfl, rfl⟩

end Go.Proofs.YtjodmedgkmeklaaGreat
