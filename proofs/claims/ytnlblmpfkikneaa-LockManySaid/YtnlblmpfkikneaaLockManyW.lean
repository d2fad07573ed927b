/-
  The walk of LockMany.
-/
import Derived.Test.YtnlblmpfkikneaaS14
import Derived.Test.YtnlblmpfkikneaaLkRow
import Derived.Test.YtnlblmpfkikneaaM7
import Derived.Test.YtnlblmpfkikneaaPick
namespace Go.Proofs.Ytnlblmpfkikneaa
open Go Go.RowKit Go.Maps
attribute [local go_sem] extUpon
attribute [local go_sem ↓] eval_put_ne eval_put_none eval_put_same size_put eval_const

/-- One that is locked the longest, and others. -/
structure Many (v : TV) (tb b i : Nat) : Prop where
  tb : v.tb = tb
  c : v.c = ⟨1, 10, b⟩
  seven : ∃ r, v.rows 7 = some r ∧ r.til = 1 + 2 * b
  rest : ∀ k r, v.rows k = some r → k ≠ 7 → r.til = 1 + b ∧ 1000 ≤ k ∧ k < 1000 + (i : Int)
theorem hit_many {b now : Nat} (hb : b ≤ 50) (til times : Nat) (l : List Nat) (hn : now = 1) (ht : times ≤ 1) : (LRow.hit ⟨1, 10, b⟩ ⟨l, til, times⟩ now).2 = ⟨[], 1 + b * 2 ^ times, times + 1⟩ := by
  subst hn
  unfold LRow.hit
  rw [if_neg (by simp)]
  simp only [LRow.mk.injEq, true_and]
  have h2 : times = 0 ∨ times = 1 := by omega
  rcases h2 with rfl | rfl
  · refine ⟨?_, by omega⟩
    unfold capT
    simp
    omega
  · refine ⟨?_, by omega⟩
    unfold capT
    simp
    omega
theorem cap1 : capT 1 = 1 := by decide
section
variable {w0 W : World} {vs : Nat → Option TV} {v : TV} {tb b i : Nat}
theorem rset_cases {rows : Int → Option LRow} {a k : Int} {r r2 : LRow} (h : rset rows a r k = some r2) : (k = a ∧ r2 = r) ∨ (k ≠ a ∧ rows k = some r2) := by
  unfold rset at h
  split at h
  · rename_i hk; exact .inl ⟨hk, (Option.some.inj h).symm⟩
  · rename_i hk; exact .inr ⟨hk, h⟩
theorem Many.push (h : Many v tb b i) (hT : Tabs w0 W vs []) (hv : vs 0 = some v) (hb : 1 ≤ b ∧ b ≤ 50) : Many (v.push (1000 + (i : Int)) 1) tb b (i + 1) := by
  obtain ⟨h1, h2, ⟨r7, h3, h4⟩, h5⟩ := h
  have hnew : v.rows (1000 + (i : Int)) = none := by
    cases hr : v.rows (1000 + (i : Int)) with
    | none => rfl
    | some r => have := h5 _ r hr (by omega); omega
  have hrow : v.row (1000 + (i : Int)) = LRow.new := by unfold TV.row; rw [hnew]; rfl
  have hhit : (LRow.new.hit v.c (capT 1)).2 = ⟨[], 1 + b, 1⟩ := by
    rw [h2, cap1]
    have := hit_many (b := b) (now := 1) hb.2 0 0 [] rfl (by omega)
    unfold LRow.new
    rw [this]; simp
  cases hr : v.room (1000 + (i : Int)) with
  | true =>
    have e : v.push (1000 + (i : Int)) 1 = v.put (1000 + (i : Int)) 1 := by unfold TV.push; rw [if_pos hr]
    rw [e]
    have e2 : (v.put (1000 + (i : Int)) 1).rows = rset v.rows (1000 + (i : Int)) ⟨[], 1 + b, 1⟩ := by
      show rset v.rows _ ((v.row _).hit v.c (capT 1)).2 = _
      rw [hrow, hhit]
    refine ⟨h1, h2, ⟨r7, ?_, h4⟩, fun k r hk hne => ?_⟩
    · rw [e2, rset_ne (by omega)]; exact h3
    · rw [e2] at hk
      rcases rset_cases hk with ⟨rfl, rfl⟩ | ⟨_, hk⟩
      · exact ⟨rfl, by omega, by omega⟩
      · have := h5 k r hk hne; exact ⟨this.1, this.2.1, by omega⟩
  | false =>
    have e : v.push (1000 + (i : Int)) 1 = ⟨v.tb, v.c, 32, rset (rdel v.rows (gk v.rows)) (1000 + (i : Int)) (LRow.new.hit v.c (capT 1)).2⟩ := by unfold TV.push; rw [if_neg (by rw [hr]; simp)]
    have hn32 : v.n = 32 := by
      have hfew := (hT.rising hv).1
      unfold TV.room at hr
      rw [hnew] at hr
      simp at hr
      omega
    have hg := hT.gone hv (by omega)
    have hg7 : gk v.rows ≠ 7 := by
      intro h7
      rw [h7] at hg
      obtain ⟨_, ks, k1, k2, k3⟩ := hT.rising hv
      obtain ⟨k0, ka, l, rfl⟩ : ∃ k0 ka l, ks = k0 :: ka :: l := by
        match ks, k2 with
        | [], h => simp at h; omega
        | [_], h => simp at h; omega
        | k0 :: ka :: l, _ => exact ⟨k0, ka, l, rfl⟩
      have hlt : k0 < ka := (List.pairwise_cons.1 k1).1 ka (List.mem_cons_self ..)
      obtain ⟨k, hk, hk7⟩ : ∃ k, (v.rows k).isSome = true ∧ k ≠ 7 := by
        by_cases h0 : k0 = 7
        · exact ⟨ka, (k3 ka).1 (List.mem_cons_of_mem _ (List.mem_cons_self ..)), by omega⟩
        · exact ⟨k0, (k3 k0).1 (List.mem_cons_self ..), h0⟩
      obtain ⟨r, hr2⟩ := Option.isSome_iff_exists.1 hk
      have h6 := hg.2 k hk
      have h8 := (h5 k r hr2 hk7).1
      have e7 : tilK v.rows 7 = 1 + 2 * b := by unfold tilK; rw [h3]; exact h4
      have e8 : tilK v.rows k = 1 + b := by unfold tilK; rw [hr2]; exact h8
      omega
    rw [e, hhit]
    refine ⟨h1, h2, ⟨r7, ?_, h4⟩, fun k r hk hne => ?_⟩
    · show rset (rdel v.rows (gk v.rows)) _ _ 7 = _
      rw [rset_ne (by omega)]
      unfold rdel
      rw [if_neg (fun e => hg7 e.symm)]
      exact h3
    · rcases rset_cases hk with ⟨rfl, rfl⟩ | ⟨_, hk⟩
      · exact ⟨rfl, by omega, by omega⟩
      · unfold rdel at hk
        split at hk
        · cases hk
        · have := h5 k r hk hne; exact ⟨this.1, this.2.1, by omega⟩
theorem Many.til (h : Many v tb b i) (hb : 1 ≤ b ∧ b ≤ 50) : v.til 7 1 = 1 + 2 * b := by
  obtain ⟨r7, h3, h4⟩ := h.seven
  unfold TV.til tilAt
  rw [h3]
  simp only
  rw [cap1, h4, if_neg (by omega)]
theorem many_start (tb : Nat) (hb : 1 ≤ b ∧ b ≤ 50) : Many ((TV.put ⟨tb, ⟨1, 10, b⟩, 0, fun _ => none⟩ 7 1).put 7 1) tb b 0 := by
  have e1 : (TV.put ⟨tb, ⟨1, 10, b⟩, 0, fun _ => none⟩ 7 1).rows = rset (fun _ => none) 7 ⟨[], 1 + b, 1⟩ := by
    show rset _ _ (LRow.new.hit ⟨1, 10, b⟩ (capT 1)).2 = _
    have := hit_many (b := b) (now := 1) hb.2 0 0 [] rfl (by omega)
    rw [cap1]
    unfold LRow.new
    rw [this]; simp
  have e2 : ((TV.put ⟨tb, ⟨1, 10, b⟩, 0, fun _ => none⟩ 7 1).put 7 1).rows = rset (fun _ => none) 7 ⟨[], 1 + 2 * b, 2⟩ := by
    show rset (TV.put ⟨tb, ⟨1, 10, b⟩, 0, fun _ => none⟩ 7 1).rows 7 (((TV.put ⟨tb, ⟨1, 10, b⟩, 0, fun _ => none⟩ 7 1).row 7).hit ⟨1, 10, b⟩ (capT 1)).2 = _
    have e3 : (TV.put ⟨tb, ⟨1, 10, b⟩, 0, fun _ => none⟩ 7 1).row 7 = ⟨[], 1 + b, 1⟩ := by
      unfold TV.row
      rw [e1, rset_self]; rfl
    rw [e3, e1, rset_rset, cap1, hit_many hb.2 _ _ _ rfl (by omega)]
    congr 2
    omega
  refine ⟨rfl, rfl, ⟨⟨[], 1 + 2 * b, 2⟩, by rw [e2, rset_self], rfl⟩, fun k r hk hne => ?_⟩
  rw [e2] at hk
  rcases rset_cases hk with ⟨rfl, _⟩ | ⟨_, hk⟩
  · exact absurd rfl hne
  · cases hk
end

set_option maxHeartbeats 4000000 in
set_option maxRecDepth 100000 in
theorem LockMany_walk (n : Int) (backoff : Nat) (w : World) (hb : backoff < 18446744073709551616) :
    Calls Try.prog 6 #[.int .i64 n, .int .u64 backoff] w fun e w' => e = .returned (.bool true) ∧ Ext w w' := by
  have hu : U32 7 := by unfold U32; omega
  obtain ⟨rn, hrn, hr12⟩ : ∃ f : Nat, n % 100 = (f : Int) ∧ f < 100 := ⟨(n % 100).toNat, by omega, by omega⟩
  have HRN := hid hrn
  clear hrn
  obtain ⟨bo, v4, hbo1, hbo2⟩ : ∃ bo : Nat, 1 + (backoff : Int) % 50 = (bo : Int) ∧ 1 ≤ bo ∧ bo ≤ 50 := ⟨1 + backoff % 50, by omega, by omega, by omega⟩
  have hc : Cfg.Ok ⟨1, 10, bo⟩ := ⟨by show 1 ≤ 1; omega, by show 1 ≤ 20; omega, by show 1 ≤ 10; omega, by show 10 ≤ 100000; omega, hbo1, by show bo ≤ 100000; omega⟩
  have HC := hid hc
  have HBO := hid (And.intro hbo1 hbo2)
  clear hc
  go_enter Try.func6, Try.ntmps6
  go_wp2_with fail
  refine ((Tabs.start w).new 0 rfl 1 10 bo HC.out).mono ?_
  rintro e w1 ⟨tb, rfl, hT, _⟩
  have HT := hid hT
  clear hT v4
  unfold ptr
  go_wp2_with fail
  refine (known18 _).mono ?_
  rintro e w2 ⟨rfl, hE⟩
  replace HT := hid (HT.out.later hE)
  clear hE
  go_wp2_with fail
  refine (HT.out.fail (vupd_self _ _ _) hu (now := 1) (by omega) (.inr (show (0 : Nat) < 32 by decide))).mono ?_
  rintro e w3 ⟨rfl, hT, _⟩
  have HT2 := hid hT
  clear hT HT
  go_wp2_with fail
  refine (HT2.out.fail (vupd_self _ _ _) hu (now := 1) (by omega) (room_put _ _ _)).mono ?_
  rintro e w4 ⟨rfl, hT, _⟩
  have HT3 := hid hT
  have HM := hid (many_start tb HBO.out)
  clear hT HT2
  go_wp2_with fail
  have hbo50 : bo ≤ 50 := HBO.out.2
  go_loopw [7] (fun iv wr => ∃ (i : Nat) (vs : Nat → Option TV) (v : TV), iv = .int .i64 i ∧ i ≤ rn ∧ Hid (Tabs w wr vs []) ∧ Hid (vs 0 = some v) ∧ Hid (Many v tb bo i)) (fun iv _ => rn - (intOf iv).toNat)
  case atStart => exact ⟨0, _, _, rfl, Nat.zero_le _, HT3, hid (vupd_self _ _ _), HM⟩
  case round =>
    clear HT3 HM
    obtain ⟨i, vs, v, rfl, hi, HT, HV, HM⟩ := hrel
    go_wp2_with fail
    refine (pick_any _ _ _ (by omega) (by omega)).mono ?_
    rintro e w' ⟨rfl, rfl⟩
    rw [HRN.out]
    by_cases hkr : i < rn
    · have hkr2 : (i : Int) < (rn : Int) := by omega
      have hua : U32 (1000 + (i : Int)) := by unfold U32; omega
      have hf := HT.out.failx HV.out hua (now := 1) (by omega)
      rw [HM.out.tb] at hf
      have HF := hid hf
      have HM2 := hid (HM.out.push HT.out HV.out HBO.out)
      clear hf hua
      unfold ptr at HF
      go_wp2_with fail
      refine HF.out.mono ?_
      rintro e w5 ⟨rfl, hT, _⟩
      have HT2 := hid hT
      clear hT HF HT HV HM
      generalize v.push (1000 + (i : Int)) 1 = v2 at *
      have hl := HT2.out.len (vupd_self _ _ _)
      have ht := HT2.out.until (vupd_self _ _ _) hu (now := 1)
      have hn32 := (HT2.out.rising (vupd_self _ _ _)).1
      have hn32z : ¬ (32 : Int) < (v2.n : Int) := by omega
      rw [HM2.out.til HBO.out, HM2.out.tb, show ((1 + 2 * bo : Nat) : Int) = 1 + 2 * (bo : Int) by omega] at ht
      rw [HM2.out.tb] at hl
      have HL := hid hl
      have HTI := hid ht
      clear hl ht
      unfold ptr at HL HTI
      go_wp2_with fail
      refine HL.out.mono ?_
      rintro e w6 ⟨rfl, rfl⟩
      go_wp2_with fail
      refine HTI.out.mono ?_
      rintro e w7 ⟨rfl, rfl⟩
      go_wp2_with fail
      go_roundw
      case rel => exact ⟨i + 1, _, v2, by go_num, by omega, HT2, hid (vupd_self _ _ _), HM2⟩
      case measure => simp [intOf]; omega
    · have hkr2 : ¬ (i : Int) < (rn : Int) := by omega
      have hf := HT.out.addr HV.out
      have hl := HT.out.len HV.out
      rw [HM.out.tb] at hf
      have HF := hid hf
      clear hf hl
      unfold ptr at HF
      go_wp2_with fail
      refine HF.out.mono ?_
      rintro e w5 ⟨x, ks, rfl, ⟨k1, k2, _⟩, ⟨a, cap, rfl, hcell⟩, hE⟩
      have HT2 := hid (HT.out.later hE)
      have HK1 := hid k1
      have HK2 := hid k2
      have HCE := hid hcell
      clear k1 k2 hcell hE HT HF
      go_wp2_with fail
      go_loopw [9] (fun iv wr => ∃ j : Nat, iv = .int .i64 j ∧ 1 ≤ j ∧ Hid (Ext w5 wr)) (fun iv _ => ks.length - (intOf iv).toNat)
      case atStart => exact ⟨1, rfl, Nat.le_refl _, hid (Ext.refl _)⟩
      case round =>
        obtain ⟨j, rfl, hj, HE⟩ := hrel
        have hks : ks.length ≤ 32 := by rw [HK2.out]; exact (HT2.out.rising HV.out).1
        by_cases hjl : j < ks.length
        · have hjz : (j : Int) < (ks.length : Int) := by omega
          obtain ⟨jp, hjp⟩ : ∃ q, q + 1 = j := ⟨j - 1, by omega⟩
          have zjp : IntKind.i64.wrap ((j : Int) - 1) = (jp : Int) := by rw [IntKind.wrap_i64]; omega
          have hjpl : jp < ks.length := by omega
          have hjpz : (jp : Int) < (ks.length : Int) := by omega
          obtain ⟨g, rfl, hce⟩ := HCE.out (by omega)
          have HC1 := hid (hce j hjl)
          have HC2 := hid (hce jp hjpl)
          have hlt := List.pairwise_iff_getElem.1 HK1.out jp j hjpl hjl (by omega)
          clear hce hjp
          generalize ks[j] = x at *
          generalize ks[jp] = y at *
          have hle : ¬ x ≤ y := by omega
          clear hlt
          go_wp2_with fail
          refine reg_begin 10 (by kernel_rfl) ?_
          refine reg_hide (fun Q2 HQ => ?_)
          generalize hW : World.drew _ = W8
          have HE8 : Hid (Ext wr W8) := hid (by rw [← hW]; exact Ext.drew _)
          clear hW
          iterate 3 (refine reg_pf 10 rfl (by kernel_rfl) (by kernel_rfl) ?_; apply Exists.intro; refine ⟨fun w' => ?_, ?_⟩; · go_simp; exact rfl)
          refine reg_quiet 3 rfl (by kernel_rfl) (by kernel_rfl) ?_; apply Exists.intro; refine ⟨fun w' hw' => ?_, ?_⟩; · have q0 := (HE.out.trans (HE8.out.trans hw')).cell HC1.out; go_simp; exact ⟨rfl, Ext.refl _⟩
          iterate 4 (refine reg_pf 10 rfl (by kernel_rfl) (by kernel_rfl) ?_; apply Exists.intro; refine ⟨fun w' => ?_, ?_⟩; · go_simp; exact rfl)
          refine reg_quiet 8 rfl (by kernel_rfl) (by kernel_rfl) ?_; apply Exists.intro; refine ⟨fun w' hw' => ?_, ?_⟩; · have q0 := (HE.out.trans (HE8.out.trans hw')).cell HC2.out; go_simp; exact ⟨rfl, Ext.refl _⟩
          iterate 1 (refine reg_pf 10 rfl (by kernel_rfl) (by kernel_rfl) ?_; apply Exists.intro; refine ⟨fun w' => ?_, ?_⟩; · go_simp; exact rfl)
          refine reg_done (by kernel_rfl) (fun W9 hw5 => ?_) _
          rw [HQ.out]
          clear HQ Q2
          have HE9 := hid (HE.out.trans (HE8.out.trans hw5))
          clear hw5 HE8
          go_simp
          go_wp2_with fail
          go_roundw
          case rel => exact ⟨j + 1, by go_num, by omega, HE9⟩
          case measure => simp [intOf]; omega
        · have hjz : ¬ (j : Int) < (ks.length : Int) := by omega
          have hl := (HT2.out.later HE.out).len HV.out
          rw [HM.out.tb, ← HK2.out] at hl
          have HL := hid hl
          have HX := hid (HT2.out.ext.trans HE.out)
          clear hl
          unfold ptr at HL
          go_wp2_with fail
          refine HL.out.mono ?_
          rintro e w6 ⟨rfl, rfl⟩
          go_wp2_with fail
          go_ret
          exact ⟨by simp, HX.out⟩

end Go.Proofs.Ytnlblmpfkikneaa
