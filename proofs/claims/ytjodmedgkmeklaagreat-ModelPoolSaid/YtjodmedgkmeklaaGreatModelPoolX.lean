/-
  The row of ModelPool: for every input the law returns true, and leaves its arguments as they were.
-/
import Derived.Test.YtjodmedgkmeklaaGreatBase
/-
  The walk of ModelPool.
-/
namespace Go.Proofs.YtjodmedgkmeklaaGreat
open Go Go.RowKit Go.Maps
attribute [local go_sem] extUpon run_store_tm
attribute [local go_sem ↓] Tm.val_cell eval_put_ne eval_put_none eval_put_same size_put eval_const
attribute [local go_sem ↓] meth_Atom meth_Public meth_Shared meth_Chain meth_Digest meth_Box meth_Empty
attribute [local go_sem ↓] run_build_chain run_build_digest run_build_box
attribute [local go_sem] ta_Atom_Atom ta_Public_Atom ta_Shared_Atom ta_Chain_Atom ta_Digest_Atom ta_Box_Atom ta_Empty_Atom ta_Nil_Atom ta_Atom_Public ta_Public_Public ta_Shared_Public ta_Chain_Public ta_Digest_Public ta_Box_Public ta_Empty_Public ta_Nil_Public ta_Atom_Shared ta_Public_Shared ta_Shared_Shared ta_Chain_Shared ta_Digest_Shared ta_Box_Shared ta_Empty_Shared ta_Nil_Shared ta_Atom_Chain ta_Public_Chain ta_Shared_Chain ta_Chain_Chain ta_Digest_Chain ta_Box_Chain ta_Empty_Chain ta_Nil_Chain ta_Atom_Digest ta_Public_Digest ta_Shared_Digest ta_Chain_Digest ta_Digest_Digest ta_Box_Digest ta_Empty_Digest ta_Nil_Digest ta_Atom_Box ta_Public_Box ta_Shared_Box ta_Chain_Box ta_Digest_Box ta_Box_Box ta_Empty_Box ta_Nil_Box ta_Atom_Empty ta_Public_Empty ta_Shared_Empty ta_Chain_Empty ta_Digest_Empty ta_Box_Empty ta_Empty_Empty ta_Nil_Empty
variable {f : Int → List UInt8} {P : Int → Prop} {w0 w W W2 W3 : World} {μ μ2 : MS} {c d wb : Nat} {B : Int} {F : Nat → Prop}

set_option maxHeartbeats 16000000 in
set_option maxRecDepth 100000 in
theorem ModelPool_walk (T : Nat → Int) (av : Option Addr) (cap : Nat) (l : List Raw) (w : World) (hT : TabAt w T) (hl : l.length ≤ 9223372036854775807) (hr : RawAt w av l) :
    Calls Tryz.prog 5 #[.slice av l.length cap] w fun e w' => e = .returned (.bool true) ∧ Ext w w' := by
  have HN := hid (nums1 T)
  have HP : Hid (∀ n, P1 n → P1 n) := hid (fun _ h => h)
  have HI := hid (itoa_tab hT)
  have HPL := hid (play_law HN.out HP.out HI.out av cap l hl hr)
  clear hl hr hT
  generalize itoaT T = f at *
  go_enter Tryz.func5, Tryz.ntmps5
  go_wp2_with fail
  refine HPL.out.mono ?_
  rintro e w2 ⟨wb, μ, rfl, hpw⟩
  obtain ⟨w1, hE1, hwd⟩ := hpw.wd
  have HST := hid hpw.st
  have HI1 := hid (HI.out.later hE1)
  have HEW1 := hid hE1
  have hE2 := hE1.trans hwd.ext
  have hkn := known_any HN.out HP.out (HI.out.later hE2)
  clear hpw HPL hE1
  go_wp2_with fail
  refine hkn.mono ?_
  rintro e w3 ⟨rfl, hE3⟩
  have HW := hid (hwd.later hE3)
  have HE := hid (hE2.trans hE3)
  clear hkn hE2 hE3 hwd
  obtain ⟨kb, hbs, htl⟩ := base_at HI1.out HW.out
  have HBS := hid hbs
  have HTL := hid htl
  clear hbs htl
  go_wp2_with fail
  refine (HBS.out w3 (Ext.refl _)).mono ?_
  rintro e w4 ⟨rfl, hE4⟩
  have HX0 := hid hE4
  clear hE4
  go_wp2_with fail
  refine (pool_w (HW.out.later HX0.out)).mono ?_
  rintro e w5 ⟨pa, pc, rfl, hrow, hE5⟩
  have HX5 := hid (HX0.out.trans hE5)
  obtain ⟨g, rfl, _, hcell⟩ := hrow (by have := HW.out.pool0; simpa using this)
  have HCE := hid hcell
  have hpl := HW.out.pool.few
  have HIW := hid (HI1.out.later (HW.out.ext.trans HX5.out))
  clear hrow hcell hE5 HX0
  go_wp2_with fail
  go_loopw [5] (fun iv wr => ∃ i : Nat, iv = .int .i64 i ∧ i ≤ μ.pool.length ∧ Hid (Ext w5 wr)) (fun iv _ => μ.pool.length - (intOf iv).toNat)
  case atStart => exact ⟨0, rfl, by omega, hid (Ext.refl _)⟩
  case round =>
    obtain ⟨i, rfl, hi, HY⟩ := hrel
    by_cases hlt : i < μ.pool.length
    · have hlt2 : (i : Int) < (μ.pool.length : Int) := by omega
      have hti := HW.out.pool.fine _ (List.getElem_mem hlt)
      have hkn := HW.out.inv.kn _ (List.getElem_mem hlt)
      obtain ⟨au, ad, hav⟩ := Va.of hti.1.ne
      have hall := hti.1.all HN.out.small
      have hcan := fun W' (hW : Ext w3 W') => HTL.out.can W' hW _ hall (by omega)
      rw [hkn, hav.eq] at hcan
      have HCAN := hid hcan
      have HCI0 : Hid (w5.cell? ⟨g, i, none⟩ = some (.iface au ad)) := hid (HCE.out i _ (by rw [List.getElem?_map, List.getElem?_eq_getElem hlt]; simp [hav.eq]))
      have HCI := hid (HY.out.cell HCI0.out)
      have HSM := hid (fun (k : Nat) (hk : k < μ.pool.length) (hne : k ≠ i) W' (hW : Ext w5 W') => by
        have h1 := same_any (R := Small) (f := f) μ.pool[i] μ.pool[k] W' (HIW.out.later hW) hall ((HW.out.pool.fine _ (List.getElem_mem hk)).1.all HN.out.small) (by omega) (by have := (HW.out.pool.fine _ (List.getElem_mem hk)).2; omega)
        have h2 : nm f μ.pool[i] ≠ nm f μ.pool[k] := by
          intro e
          have h3 := HW.out.inv.ap
          have h4 := List.pairwise_iff_getElem.1 h3
          rcases Nat.lt_or_gt_of_ne hne with h5 | h5
          · have h6 := h4 k i (by simpa using hk) (by simpa using hlt) h5
            simp only [List.getElem_map] at h6
            exact h6 e.symm
          · have h6 := h4 i k (by simpa using hlt) (by simpa using hk) h5
            simp only [List.getElem_map] at h6
            exact h6 e
        rw [decide_eq_false h2, hav.eq] at h1
        exact h1)
      clear hti hkn hall hcan hav
      go_wp2_with fail
      refine reg_begin 8 (by kernel_rfl) ?_
      refine reg_hide (fun Q2 HQ => ?_)
      generalize hW : World.drew _ = W8
      have HE8 : Hid (Ext wr W8) := hid (by rw [← hW]; exact Ext.drew _)
      clear hW
      refine reg_pure 0 rfl (by kernel_rfl) (by kernel_rfl) ?_; apply Exists.intro; refine ⟨fun w' => ?_, ?_⟩; · go_simp; exact rfl
      refine reg_quiet 1 rfl (by kernel_rfl) (by kernel_rfl) ?_; apply Exists.intro; refine ⟨fun w' hw' => ?_, ?_⟩; · go_simp; exact HBS.out w' (HX5.out.trans (HY.out.trans (HE8.out.trans hw')))
      refine reg_pure 2 rfl (by kernel_rfl) (by kernel_rfl) ?_; apply Exists.intro; refine ⟨fun w' => ?_, ?_⟩; · go_simp; exact rfl
      refine reg_pure 3 rfl (by kernel_rfl) (by kernel_rfl) ?_; apply Exists.intro; refine ⟨fun w' => ?_, ?_⟩; · go_simp; exact rfl
      refine reg_pure 4 rfl (by kernel_rfl) (by kernel_rfl) ?_; apply Exists.intro; refine ⟨fun w' => ?_, ?_⟩; · go_simp; exact rfl
      refine reg_quiet 5 rfl (by kernel_rfl) (by kernel_rfl) ?_; apply Exists.intro; refine ⟨fun w' hw' => ?_, ?_⟩; · have q0 : w'.cell? ⟨g, i, none⟩ = some (.iface au ad) := (HE8.out.trans hw').cell HCI.out; go_simp; exact ⟨rfl, Ext.refl _⟩
      refine reg_quiet 6 rfl (by kernel_rfl) (by kernel_rfl) ?_; apply Exists.intro; refine ⟨fun w' hw' => ?_, ?_⟩; · go_simp; exact HCAN.out w' (HX5.out.trans (HY.out.trans (HE8.out.trans hw')))
      refine reg_pure 7 rfl (by kernel_rfl) (by kernel_rfl) ?_; apply Exists.intro; refine ⟨fun w' => ?_, ?_⟩; · go_simp; exact rfl
      refine reg_done (by kernel_rfl) (fun W9 hw5 => ?_) _
      rw [HQ.out]
      clear HQ Q2
      have HE9 := hid (HE8.out.trans hw5)
      clear hw5
      go_simp
      have HZ := hid (HY.out.trans HE9.out)
      clear HE8 HE9 HCI HCAN
      go_wp2_with fail
      go_loopw [6] (fun iv wk => ∃ k : Nat, iv = .int .i64 k ∧ k ≤ i ∧ Hid (Ext w5 wk)) (fun iv _ => i - (intOf iv).toNat)
      case atStart => exact ⟨0, rfl, by omega, HZ⟩
      case round =>
        obtain ⟨k, rfl, hk, HK⟩ := hrel
        by_cases hlk : k < i
        · have hlk2 : (k : Int) < (i : Int) := by omega
          have hklt : k < μ.pool.length := by omega
          have htk := HW.out.pool.fine _ (List.getElem_mem hklt)
          obtain ⟨bu, bd, hbv⟩ := Va.of htk.1.ne
          have hsm := HSM.out k hklt (by omega)
          rw [hbv.eq] at hsm
          have HSK := hid hsm
          have HCK := hid (HK.out.cell (HCE.out k (.iface bu bd) (by rw [List.getElem?_map, List.getElem?_eq_getElem hklt]; simp [hbv.eq])))
          have HCI := hid (HK.out.cell HCI0.out)
          clear htk hbv hsm
          go_wp2_with fail
          refine reg_begin 9 (by kernel_rfl) ?_
          refine reg_hide (fun Q2 HQ => ?_)
          generalize hW : World.drew _ = W8
          have HE8 : Hid (Ext wr W8) := hid (by rw [← hW]; exact Ext.drew _)
          clear hW
          refine reg_pure 0 rfl (by kernel_rfl) (by kernel_rfl) ?_; apply Exists.intro; refine ⟨fun w' => ?_, ?_⟩; · go_simp; exact rfl
          refine reg_pure 1 rfl (by kernel_rfl) (by kernel_rfl) ?_; apply Exists.intro; refine ⟨fun w' => ?_, ?_⟩; · go_simp; exact rfl
          refine reg_pure 2 rfl (by kernel_rfl) (by kernel_rfl) ?_; apply Exists.intro; refine ⟨fun w' => ?_, ?_⟩; · go_simp; exact rfl
          refine reg_quiet 3 rfl (by kernel_rfl) (by kernel_rfl) ?_; apply Exists.intro; refine ⟨fun w' hw' => ?_, ?_⟩; · have q0 : w'.cell? ⟨g, i, none⟩ = some (.iface au ad) := (HE8.out.trans hw').cell HCI.out; go_simp; exact ⟨rfl, Ext.refl _⟩
          refine reg_pure 4 rfl (by kernel_rfl) (by kernel_rfl) ?_; apply Exists.intro; refine ⟨fun w' => ?_, ?_⟩; · go_simp; exact rfl
          refine reg_pure 5 rfl (by kernel_rfl) (by kernel_rfl) ?_; apply Exists.intro; refine ⟨fun w' => ?_, ?_⟩; · go_simp; exact rfl
          refine reg_pure 6 rfl (by kernel_rfl) (by kernel_rfl) ?_; apply Exists.intro; refine ⟨fun w' => ?_, ?_⟩; · go_simp; exact rfl
          refine reg_quiet 7 rfl (by kernel_rfl) (by kernel_rfl) ?_; apply Exists.intro; refine ⟨fun w' hw' => ?_, ?_⟩; · have q0 : w'.cell? ⟨g, k, none⟩ = some (.iface bu bd) := (HE8.out.trans hw').cell HCK.out; go_simp; exact ⟨rfl, Ext.refl _⟩
          refine reg_quiet 8 rfl (by kernel_rfl) (by kernel_rfl) ?_; apply Exists.intro; refine ⟨fun w' hw' => ?_, ?_⟩; · go_simp; exact HSK.out w' (HK.out.trans (HE8.out.trans hw'))
          refine reg_done (by kernel_rfl) (fun W9 hw5 => ?_) _
          rw [HQ.out]
          clear HQ Q2
          have HE9 := hid (HE8.out.trans hw5)
          clear hw5
          go_simp
          have HZK := hid (HK.out.trans HE9.out)
          clear HE8 HE9 HCI HCK HSK
          go_wp2_with fail
          go_roundw
          case rel => exact ⟨k + 1, by go_num, by omega, HZK⟩
          case measure => simp [intOf]; omega
        · have hlk2 : ¬ (k : Int) < (i : Int) := by omega
          go_wp2_with fail
          go_roundw
          case rel => exact ⟨i + 1, by go_num, by omega, HK⟩
          case measure => simp [intOf]; omega
    · have hlt2 : ¬ (i : Int) < (μ.pool.length : Int) := by omega
      go_wp2_with fail
      go_ret
      exact ⟨rfl, HE.out.trans (HX5.out.trans HY.out)⟩

end Go.Proofs.YtjodmedgkmeklaaGreat

/-
  The row of ModelPool: for every input the law returns true, and leaves its arguments as they were.
-/
namespace Go.Proofs.YtjodmedgkmeklaaGreat
open Go Go.RowKit Go.ChangeShapes Go.WideShapes Go.ChangeAt

set_option maxRecDepth 100000 in
set_option maxHeartbeats 1000000 in
theorem ModelPool_lifted (os : Os) (started : os.Started) (H : Type) (enc : TypeId × Value → H) :
    ReturnsInHanded {} Tryz.checked os 5 .any (Rows.modelPoolSpec.pre6 enc Tryz.prog Tryz.f5 Rows.modelPoolRow.domain false) (Rows.modelPoolSpec.post enc Tryz.prog Tryz.f5 false true false false) := by
  refine returnsInHanded_of_change_shaped (C := Tryz.checked) own started (by kernel_rfl) Tryz.func5
    (ChangeSpec.witness6 (enc := enc) (C := Tryz.checked) false ⟨#[], #[.slice none 0 0], []⟩ 8 (by kernel_rfl) (by kernel_rfl) (by kernel_rfl) (by kernel_rfl)) ?_
  intro W base args ds gs before hval0 hW hcnd _ hsh _
  have hval : ∀ (j : Nat) t v, Tryz.f5.params[j]? = some t → args[j]? = some v → Value.okWide Tryz.prog W .any base t v := hval0
  have hW' := hW
  obtain ⟨p, q, hA0, hV, rfl, hfz, hnd⟩ := hW
  have hA : DataW.TrodAll enc Tryz.prog W 0 (fun _ => true) true Tryz.f5.params.toList args.toList ds p := hA0
  rw [Tryz.params5] at hA hval
  obtain ⟨v0, vs0, d0, ds0, p0, q0, hargs, rfl, rfl, h0, r0⟩ := trodAll_cons hA
  obtain ⟨rfl, rfl, rfl⟩ := trodAll_nil r0
  obtain rfl : args = #[v0] := by cases args; simp_all
  obtain ⟨rfl, rfl⟩ := trodVars_none hV
  have hlt0 : ∀ x ∈ p0, x.block < W.heap.size := fun x hx => by simpa using hW'.lt x (by simp [hx])
  have hk0 := h0
  obtain ⟨s0, len0, cap0, rfl⟩ := okWide_slice Tryz.underlying22 (hval 0 22 v0 rfl rfl)
  obtain ⟨fuel0, hf0⟩ := h0
  obtain ⟨av0, cav0, l0, hcs0, hr0, hl0⟩ := open_raws hf0
  simp only [Value.cells, List.cons.injEq, and_true] at hcs0
  obtain ⟨rfl, rfl, rfl⟩ := Value.slice.inj hcs0
  clear hA0 hval0
  simp only [List.append_nil] at hW'
  obtain ⟨T, hT⟩ := tab_of hsh
  refine (ModelPool_walk T s0 cap0 l0 W hT hl0 hr0).mono fun e W' ⟨he, hg⟩ => ?_
  subst he
  exact ⟨_, rfl, _, _, _, _, _, _, hW', trodAll_cons_mk (shut_bool Tryz.underlying4 _) trodAll_mk0, (trodAll_cons_mk (Below.trod laidOut (by kernel_rfl) (of_decide_eq_true (by kernel_rfl)) hk0 hg hlt0) trodAll_mk0), rfl, hg.frame _, fun h => by cases h⟩

theorem ModelPool_over : Rows.modelPoolRow.holds Tryz.pinned (OpenSpec.ofChange Rows.modelPoolSpec) :=
  OpenClaim.holds_of_wide 5 Tryz.f5 rfl rfl rfl rfl rfl rfl rfl ⟨rfl, rfl, rfl, rfl, rfl⟩ rfl rfl rfl rfl rfl (by kernel_rfl) Tryz.func5 (by kernel_rfl)
    (of_decide_eq_true (by kernel_rfl)) (by unfold Func.isWrapper; first | (rw [if_pos (by decide +kernel)]; kernel_rfl) | (rw [if_neg (by decide +kernel)]; exact ⟨rfl, rfl⟩))
    (fun os started H enc _ => ModelPool_lifted os started H enc)

theorem ModelPool_holds : Rows.ModelPoolSaid := ModelPool_over
#print axioms ModelPool_holds
end Go.Proofs.YtjodmedgkmeklaaGreat
