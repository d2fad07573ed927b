/-
  A term is seen (know.See).
-/
import Derived.Test.YtegmnbcfanjocaaK9S
import Derived.Test.YtegmnbcfanjocaaSz
namespace Go.Proofs.Ytegmnbcfanjocaa
open Go Go.RowKit Go.Maps
attribute [local go_sem] extUpon run_store_tm
attribute [local go_sem ↓] Tm.val_cell eval_put_ne eval_put_none eval_put_same size_put eval_const
attribute [local go_sem ↓] meth_Atom meth_Public meth_Shared meth_Chain meth_Digest meth_Box meth_Empty
attribute [local go_sem ↓] run_build_chain run_build_digest run_build_box
attribute [local go_sem] ta_Atom_Atom ta_Public_Atom ta_Shared_Atom ta_Chain_Atom ta_Digest_Atom ta_Box_Atom ta_Empty_Atom ta_Nil_Atom ta_Atom_Public ta_Public_Public ta_Shared_Public ta_Chain_Public ta_Digest_Public ta_Box_Public ta_Empty_Public ta_Nil_Public ta_Atom_Shared ta_Public_Shared ta_Shared_Shared ta_Chain_Shared ta_Digest_Shared ta_Box_Shared ta_Empty_Shared ta_Nil_Shared ta_Atom_Chain ta_Public_Chain ta_Shared_Chain ta_Chain_Chain ta_Digest_Chain ta_Box_Chain ta_Empty_Chain ta_Nil_Chain ta_Atom_Digest ta_Public_Digest ta_Shared_Digest ta_Chain_Digest ta_Digest_Digest ta_Box_Digest ta_Empty_Digest ta_Nil_Digest ta_Atom_Box ta_Public_Box ta_Shared_Box ta_Chain_Box ta_Digest_Box ta_Box_Box ta_Empty_Box ta_Nil_Box ta_Atom_Empty ta_Public_Empty ta_Shared_Empty ta_Chain_Empty ta_Digest_Empty ta_Box_Empty ta_Empty_Empty ta_Nil_Empty
variable {f : Int → List UInt8} {P : Int → Prop}
theorem reg_hide {P : Program} {md : Region.Mode} {Q : Exit → Act → World → Prop} {E fuel : Nat} {ops : Array Oper} {listed : Array Bool} {a : Act} {w : World}
    (h : ∀ Q2 : Exit → Act → World → Prop, Hid (Q2 = Q) → wpAnyU P md ops (calm Q2) E fuel listed a w) : wpAnyU P md ops (calm Q) E fuel listed a w := h Q (hid rfl)

set_option maxHeartbeats 16000000 in
set_option maxRecDepth 100000 in
theorem see_any (N : Nums f P) (U : List (List UInt8)) (hUl : U.length ≤ 80000) (hUn : Univ f P U) (t : Tm) (w : World) (k : KS) (v : KV) (hI : ∀ W, Same w W (KP k) → Itoa W Small f) (hK : KAt f P w k v) (ht : Fine P t) (hn : v.n < 400)
    (hvU : ∀ s, v.S s = true → s ∈ U) (htU : nm f t ∈ U) (hc : KC f P v) :
    Calls Try.prog 14 #[.pointer (some ⟨k.kb, 0, none⟩), t.val] w fun e w' => e = .returned (.bool true) ∧ ∃ v2, KAt f P w' k v2 ∧ Same w w' (KP k) ∧ SeeR f P U v v2 (nm f t) := by
  have hs : sz t ≤ 10000 := by have := ht.size; omega
  obtain ⟨u, hu, hme, hen⟩ := t.iface ht.ok.ne
  have hI0 := hI w (Same.refl _ _)
  have hno := nm_ok hI0 t hs
  have HNM : Hid (∀ W, Same w W (KP k) → Calls Try.prog t.nf #[t.arg] W fun e w' => e = .returned (str (nm f t)) ∧ Ext W w') := hid (fun W hW => call_name t W ht.ok.ne (hI W hW) (ht.ok.all N.small) hs W (Ext.refl W))
  obtain ⟨xv, hlk⟩ := hK.heard (nm f t) hno
  have HLK := hid hlk
  have HSZ : Hid (∀ W, Calls Try.prog 26 #[t.val] W fun e w' => e = .returned (.int .i64 (szf t 0)) ∧ Ext W w') := hid (fun W => Size_any t W)
  have hzf : ¬ (2000 : Int) < szf t 0 := by
    have h1 := ht.size
    rw [szf_small hs]
    omega
  have HST1 : Hid (∀ W, KAt f P W k v → ∃ w2, (Instr.mapUpdate 67 (.map (some k.nb)) (str (nm f t)) t.val).run Try.prog W = .ok () w2 ∧ KAt f P w2 k (v.note f t) ∧ W.grownBy w2 (some k.nb)) := hid (fun W hW => hW.note hno hn)
  have HST2 : Hid (∀ W, KAt f P W k (v.note f t) → ∃ w2, (Instr.mapUpdate 67 (.map (some k.ab)) (str (nm f t)) t.val).run Try.prog W = .ok () w2 ∧ KAt f P w2 k ((v.note f t).put f t) ∧ W.grownBy w2 (some k.ab)) := hid (fun W hW => hW.lay ht hno (hK.few_m hvU hUl))
  have HTH : Hid ((v.seen (nm f t)).isSome = true → SeeR f P U v v (nm f t)) := hid (SeeR.there hc hvU)
  have HNW : Hid (∀ v2, CInv f P U ((v.note f t).put f t) v2 → Cl f P ((v.note f t).put f t).x ((v.note f t).put f t).S v2.S → SeeR f P U v v2 (nm f t)) := hid (fun v2 h1 h2 => SeeR.laid hc h1 h2)
  have HPU := hid (put_inU (f := f) (t := t) hvU htU)
  have HC1 := hid (cell_blk (j := 1) hK.blk rfl)
  have HC2 := hid (cell_blk (j := 2) hK.blk rfl)
  have hln := hK.seen.len 3
  change (Builtin.len_ #[67] 3 #[.map (some k.nb)]).run Try.prog w = _ at hln
  have HLN := hid (fun W (hW : Ext w W) => (hK.seen.later hW).len 3)
  have HKL := hid (And.intro (Array.getElem?_eq_some_iff.1 hK.blk).1 (And.intro hK.kb_ne.1 hK.kb_ne.2.1))
  have HK := hid hK
  have HI := hid hI
  rw [hu] at HSZ HST1 HST2
  rw [hu]
  generalize t.nf = g at *
  generalize t.arg = x at *
  generalize (v.note f t).put f t = vp at *
  generalize v.note f t = vn at *
  generalize nm f t = nt at *
  generalize szf t 0 = z at *
  clear hu hno hI hI0 hK ht hs hvU htU hc hlk hln
  go_enter Try.func14, Try.ntmps14
  go_wp2_with fail
  refine (HSZ.out _).mono ?_
  rintro e w1 ⟨rfl, hE1⟩
  have HS1 : Hid (Ext w w1) := hid hE1
  clear hE1
  go_wp2_with fail
  refine reg_begin 12 (by kernel_rfl) ?_
  refine reg_hide (fun Q2 HQ => ?_)
  generalize hW : World.drew _ = W
  have HE : Hid (Ext w W) := hid (by rw [← hW]; exact HS1.out.trans (Ext.drew _))
  clear hW
  refine reg_quiet 0 rfl (by kernel_rfl) (by kernel_rfl) ?_
  apply Exists.intro
  refine ⟨fun w' hw' => ?_, ?_⟩
  · go_simp
    exact ⟨rfl, Ext.refl _⟩
  refine reg_quiet 1 rfl (by kernel_rfl) (by kernel_rfl) ?_
  apply Exists.intro
  refine ⟨fun w' hw' => ?_, ?_⟩
  · go_simp
    exact ⟨rfl, Ext.refl _⟩
  refine reg_quiet 2 rfl (by kernel_rfl) (by kernel_rfl) ?_
  apply Exists.intro
  refine ⟨fun w' hw' => ?_, ?_⟩
  · go_simp
    exact ⟨rfl, Ext.refl _⟩
  refine reg_quiet 3 rfl (by kernel_rfl) (by kernel_rfl) ?_
  apply Exists.intro
  refine ⟨fun w' hw' => ?_, ?_⟩
  · have q0 := (HE.out.trans hw').cell HC1.out
    go_simp
    exact ⟨rfl, Ext.refl _⟩
  refine reg_quiet 4 rfl (by kernel_rfl) (by kernel_rfl) ?_
  apply Exists.intro
  refine ⟨fun w' hw' => ?_, ?_⟩
  · go_simp
    exact ⟨rfl, Ext.refl _⟩
  refine reg_quiet 5 rfl (by kernel_rfl) (by kernel_rfl) ?_
  apply Exists.intro
  refine ⟨fun w' hw' => ?_, ?_⟩
  · go_simp
    exact HNM.out w' (Same.of_ext (HE.out.trans hw'))
  refine reg_quiet 6 rfl (by kernel_rfl) (by kernel_rfl) ?_
  apply Exists.intro
  refine ⟨fun w' hw' => ?_, ?_⟩
  · have q0 := HLK.out w' (HE.out.trans hw')
    go_simp
    exact ⟨rfl, Ext.refl _⟩
  refine reg_quiet 7 rfl (by kernel_rfl) (by kernel_rfl) ?_
  apply Exists.intro
  refine ⟨fun w' hw' => ?_, ?_⟩
  · go_simp
    exact ⟨rfl, Ext.refl _⟩
  refine reg_quiet 8 rfl (by kernel_rfl) (by kernel_rfl) ?_
  apply Exists.intro
  refine ⟨fun w' hw' => ?_, ?_⟩
  · go_simp
    exact ⟨rfl, Ext.refl _⟩
  refine reg_quiet 9 rfl (by kernel_rfl) (by kernel_rfl) ?_
  apply Exists.intro
  refine ⟨fun w' hw' => ?_, ?_⟩
  · go_simp
    exact ⟨rfl, Ext.refl _⟩
  refine reg_quiet 10 rfl (by kernel_rfl) (by kernel_rfl) ?_
  apply Exists.intro
  refine ⟨fun w' hw' => ?_, ?_⟩
  · go_simp
    exact ⟨rfl, Ext.refl _⟩
  refine reg_quiet 11 rfl (by kernel_rfl) (by kernel_rfl) ?_
  apply Exists.intro
  refine ⟨fun w' hw' => ?_, ?_⟩
  · go_simp
    exact ⟨rfl, Ext.refl _⟩
  refine reg_done (by kernel_rfl) (fun W2 hw2 => ?_) _
  rw [HQ.out]
  clear HQ Q2
  replace HE := hid (HE.out.trans hw2)
  clear hw2 HLK HS1
  go_simp
  cases hS : (v.seen nt).isSome
  · have q0 := HE.out.cell HC1.out
    have hln := HLN.out W2 HE.out
    change (Builtin.len_ #[67] 3 #[.map (some k.nb)]).run Try.prog W2 = _ at hln
    have hn4 : ¬ (400 : Int) ≤ (v.n : Int) := by omega
    go_wp2_with fail
    refine reg_begin 7 (by kernel_rfl) ?_
    refine reg_hide (fun Q2 HQ => ?_)
    generalize hW : World.drew _ = W
    replace HE : Hid (Ext w W) := hid (by rw [← hW]; exact HE.out.trans (Ext.drew _))
    clear hW q0 hln HLN
    refine reg_quiet 0 rfl (by kernel_rfl) (by kernel_rfl) ?_
    apply Exists.intro
    refine ⟨fun w' hw' => ?_, ?_⟩
    · go_simp
      exact ⟨rfl, Ext.refl _⟩
    refine reg_quiet 1 rfl (by kernel_rfl) (by kernel_rfl) ?_
    apply Exists.intro
    refine ⟨fun w' hw' => ?_, ?_⟩
    · go_simp
      exact ⟨rfl, Ext.refl _⟩
    refine reg_quiet 2 rfl (by kernel_rfl) (by kernel_rfl) ?_
    apply Exists.intro
    refine ⟨fun w' hw' => ?_, ?_⟩
    · go_simp
      exact ⟨rfl, Ext.refl _⟩
    refine reg_quiet 3 rfl (by kernel_rfl) (by kernel_rfl) ?_
    apply Exists.intro
    refine ⟨fun w' hw' => ?_, ?_⟩
    · have q0 := (HE.out.trans hw').cell HC1.out
      go_simp
      exact ⟨rfl, Ext.refl _⟩
    refine reg_quiet 4 rfl (by kernel_rfl) (by kernel_rfl) ?_
    apply Exists.intro
    refine ⟨fun w' hw' => ?_, ?_⟩
    · go_simp
      exact ⟨rfl, Ext.refl _⟩
    refine reg_quiet 5 rfl (by kernel_rfl) (by kernel_rfl) ?_
    apply Exists.intro
    refine ⟨fun w' hw' => ?_, ?_⟩
    · go_simp
      exact HNM.out w' (Same.of_ext (HE.out.trans hw'))
    refine reg_quiet 6 rfl (by kernel_rfl) (by kernel_rfl) ?_
    apply Exists.intro
    refine ⟨fun w' hw' => ?_, ?_⟩
    · go_simp
      exact ⟨rfl, Ext.refl _⟩
    refine reg_one 7 rfl (by kernel_rfl) (by kernel_rfl) (fun w' hw' => ?_)
    have h2 := Classical.choose_spec (HST1.out w' (HK.out.later (HE.out.trans hw')))
    generalize Classical.choose _ = w2 at h2
    have hrun := h2.1
    have hK2 := h2.2.1
    have hg2 := h2.2.2
    clear h2
    have HK2 := hid hK2
    have HSM : Hid (Same w w2 (fun b => b ≠ k.nb)) := hid ((Same.of_ext (HE.out.trans hw')).trans (Same.of_grown hg2 (fun b hb e => hb (Option.some.inj e))))
    clear hK2 hg2 hw'
    go_simp
    clear hrun
    refine reg_done (by kernel_rfl) (fun w3 hw3 => ?_) _
    rw [HQ.out]
    clear HQ Q2
    replace HK2 := hid (HK2.out.later hw3)
    replace HSM := hid (HSM.out.trans (Same.of_ext hw3))
    have q0 := HSM.out.cell HKL.out.1 HKL.out.2.2 HC2.out
    clear hw3 HST1
    go_simp
    go_wp2_with fail
    refine reg_begin 7 (by kernel_rfl) ?_
    refine reg_hide (fun Q2 HQ => ?_)
    generalize hW : World.drew _ = W
    have HE3 : Hid (Ext w3 W) := hid (by rw [← hW]; exact Ext.drew _)
    clear hW q0
    refine reg_quiet 0 rfl (by kernel_rfl) (by kernel_rfl) ?_
    apply Exists.intro
    refine ⟨fun w' hw' => ?_, ?_⟩
    · go_simp
      exact ⟨rfl, Ext.refl _⟩
    refine reg_quiet 1 rfl (by kernel_rfl) (by kernel_rfl) ?_
    apply Exists.intro
    refine ⟨fun w' hw' => ?_, ?_⟩
    · go_simp
      exact ⟨rfl, Ext.refl _⟩
    refine reg_quiet 2 rfl (by kernel_rfl) (by kernel_rfl) ?_
    apply Exists.intro
    refine ⟨fun w' hw' => ?_, ?_⟩
    · go_simp
      exact ⟨rfl, Ext.refl _⟩
    refine reg_quiet 3 rfl (by kernel_rfl) (by kernel_rfl) ?_
    apply Exists.intro
    refine ⟨fun w' hw' => ?_, ?_⟩
    · have q0 := (HSM.out.trans (Same.of_ext (HE3.out.trans hw'))).cell HKL.out.1 HKL.out.2.2 HC2.out
      go_simp
      exact ⟨rfl, Ext.refl _⟩
    refine reg_quiet 4 rfl (by kernel_rfl) (by kernel_rfl) ?_
    apply Exists.intro
    refine ⟨fun w' hw' => ?_, ?_⟩
    · go_simp
      exact ⟨rfl, Ext.refl _⟩
    refine reg_quiet 5 rfl (by kernel_rfl) (by kernel_rfl) ?_
    apply Exists.intro
    refine ⟨fun w' hw' => ?_, ?_⟩
    · go_simp
      exact HNM.out w' ((HSM.out.mono (fun b hb => hb.2)).trans (Same.of_ext (HE3.out.trans hw')))
    refine reg_quiet 6 rfl (by kernel_rfl) (by kernel_rfl) ?_
    apply Exists.intro
    refine ⟨fun w' hw' => ?_, ?_⟩
    · go_simp
      exact ⟨rfl, Ext.refl _⟩
    refine reg_one 7 rfl (by kernel_rfl) (by kernel_rfl) (fun w' hw' => ?_)
    have h2 := Classical.choose_spec (HST2.out w' (HK2.out.later (HE3.out.trans hw')))
    generalize Classical.choose _ = w4 at h2
    have hrun := h2.1
    have hK2 := h2.2.1
    have hg2 := h2.2.2
    clear h2 HK2
    have HK2 := hid hK2
    have HSN : Hid (Same w w4 (KP k)) := hid (((HSM.out.mono (fun b hb => hb.2)).trans (Same.of_ext (HE3.out.trans hw'))).trans (Same.of_grown hg2 (fun b hb e => hb.1 (Option.some.inj e))))
    clear hK2 hg2 hw'
    go_simp
    clear hrun
    refine reg_done (by kernel_rfl) (fun w5 hw5 => ?_) _
    rw [HQ.out]
    clear HQ Q2
    replace HK2 := hid (HK2.out.later hw5)
    replace HSN := hid (HSN.out.trans (Same.of_ext hw5))
    clear hw5 HST2 HSM
    go_simp
    go_wp2_with fail
    refine (close_any N U hUl hUn w5 k vp (fun W hW => HI.out W (HSN.out.trans hW)) HK2.out HPU.out).mono ?_
    rintro e w6 ⟨⟨o, rfl⟩, v2, hK6, hS6, hC6, hL6⟩
    have HK6 := hid hK6
    have HS6 := hid (HSN.out.trans hS6)
    have HR := hid (HNW.out v2 hC6 hL6)
    clear hK6 hS6 hC6 hL6
    go_wp2_with fail
    go_ret
    exact ⟨rfl, v2, HK6.out, HS6.out, HR.out⟩
  · go_wp2_with fail
    go_ret
    exact ⟨rfl, v, HK.out.later HE.out, Same.of_ext HE.out, HTH.out hS⟩

end Go.Proofs.Ytegmnbcfanjocaa
