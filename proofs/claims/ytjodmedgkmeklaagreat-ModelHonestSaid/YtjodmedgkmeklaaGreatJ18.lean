/-
  Texts merged: K9, Q18, Q19, Q20, Q21.
-/
import Derived.Deep.MidRow
import Derived.Test.YtjodmedgkmeklaaGreatJ09
import Derived.Test.YtjodmedgkmeklaaGreatJ02
import Derived.Test.YtjodmedgkmeklaaGreatJ17
/-
  A term is seen (know.See).
-/
namespace Go.Proofs.YtjodmedgkmeklaaGreat
open Go Go.RowKit Go.Maps
attribute [local go_sem] extUpon run_store_tm
attribute [local go_sem ↓] Tm.val_cell eval_put_ne eval_put_none eval_put_same size_put eval_const
attribute [local go_sem ↓] meth_Atom meth_Public meth_Shared meth_Chain meth_Digest meth_Box meth_Empty
attribute [local go_sem ↓] run_build_chain run_build_digest run_build_box
attribute [local go_sem] ta_Atom_Atom ta_Public_Atom ta_Shared_Atom ta_Chain_Atom ta_Digest_Atom ta_Box_Atom ta_Empty_Atom ta_Nil_Atom ta_Atom_Public ta_Public_Public ta_Shared_Public ta_Chain_Public ta_Digest_Public ta_Box_Public ta_Empty_Public ta_Nil_Public ta_Atom_Shared ta_Public_Shared ta_Shared_Shared ta_Chain_Shared ta_Digest_Shared ta_Box_Shared ta_Empty_Shared ta_Nil_Shared ta_Atom_Chain ta_Public_Chain ta_Shared_Chain ta_Chain_Chain ta_Digest_Chain ta_Box_Chain ta_Empty_Chain ta_Nil_Chain ta_Atom_Digest ta_Public_Digest ta_Shared_Digest ta_Chain_Digest ta_Digest_Digest ta_Box_Digest ta_Empty_Digest ta_Nil_Digest ta_Atom_Box ta_Public_Box ta_Shared_Box ta_Chain_Box ta_Digest_Box ta_Box_Box ta_Empty_Box ta_Nil_Box ta_Atom_Empty ta_Public_Empty ta_Shared_Empty ta_Chain_Empty ta_Digest_Empty ta_Box_Empty ta_Empty_Empty ta_Nil_Empty
variable {f : Int → List UInt8} {P : Int → Prop}
set_option maxHeartbeats 16000000 in
set_option maxRecDepth 100000 in
theorem see_any (N : Nums f P) (U : List (List UInt8)) (hUl : U.length ≤ 80000) (hUn : Univ f P U) (t : Tm) (w : World) (k : KS) (v : KV) (hI : ∀ W, Same w W (KP k) → Itoa W Small f) (hK : KAt f P w k v) (ht : Fine P t) (hn : v.n < 400)
    (hvU : ∀ s, v.S s = true → s ∈ U) (htU : nm f t ∈ U) (hc : KC f P v) :
    Calls Tryz.prog 40 #[.pointer (some ⟨k.kb, 0, none⟩), t.val] w fun e w' => e = .returned (.bool true) ∧ ∃ v2, KAt f P w' k v2 ∧ Same w w' (KP k) ∧ SeeR f P U v v2 (nm f t) := by
  have hs : sz t ≤ 10000 := by have := ht.size; omega
  obtain ⟨u, hu, hme, hen⟩ := t.iface ht.ok.ne
  have hI0 := hI w (Same.refl _ _)
  have hno := nm_ok hI0 t hs
  have HNM : Hid (∀ W, Same w W (KP k) → Calls Tryz.prog t.nf #[t.arg] W fun e w' => e = .returned (str (nm f t)) ∧ Ext W w') := hid (fun W hW => call_name t W ht.ok.ne (hI W hW) (ht.ok.all N.small) hs W (Ext.refl W))
  obtain ⟨xv, hlk⟩ := hK.heard (nm f t) hno
  have HLK := hid hlk
  have HSZ : Hid (∀ W, Calls Tryz.prog 49 #[t.val] W fun e w' => e = .returned (.int .i64 (szf t 0)) ∧ Ext W w') := hid (fun W => Size_any t W)
  have hzf : ¬ (2000 : Int) < szf t 0 := by
    have h1 := ht.size
    rw [szf_small hs]
    omega
  have HST1 : Hid (∀ W, KAt f P W k v → ∃ w2, (Instr.mapUpdate 76 (.map (some k.nb)) (str (nm f t)) t.val).run Tryz.prog W = .ok () w2 ∧ KAt f P w2 k (v.note f t) ∧ W.grownBy w2 (some k.nb)) := hid (fun W hW => hW.note hno hn)
  have HST2 : Hid (∀ W, KAt f P W k (v.note f t) → ∃ w2, (Instr.mapUpdate 76 (.map (some k.ab)) (str (nm f t)) t.val).run Tryz.prog W = .ok () w2 ∧ KAt f P w2 k ((v.note f t).put f t) ∧ W.grownBy w2 (some k.ab)) := hid (fun W hW => hW.lay ht hno (hK.few_m hvU hUl))
  have HTH : Hid ((v.seen (nm f t)).isSome = true → SeeR f P U v v (nm f t)) := hid (SeeR.there hc hvU)
  have HNW : Hid (∀ v2, CInv f P U ((v.note f t).put f t) v2 → Cl f P ((v.note f t).put f t).x ((v.note f t).put f t).S v2.S → SeeR f P U v v2 (nm f t)) := hid (fun v2 h1 h2 => SeeR.laid hc h1 h2)
  have HPU := hid (put_inU (f := f) (t := t) hvU htU)
  have HC1 := hid (cell_blk (j := 1) hK.blk rfl)
  have HC2 := hid (cell_blk (j := 2) hK.blk rfl)
  have hln := hK.seen.len 3
  change (Builtin.len_ #[76] 3 #[.map (some k.nb)]).run Tryz.prog w = _ at hln
  have HLN := hid (fun W (hW : Ext w W) => (hK.seen.later hW).len 3)
  have HKL := hid (And.intro (Array.getElem?_eq_some_iff.1 hK.blk).1 (And.intro hK.kb_ne.1 hK.kb_ne.2.1))
  have HK := hid hK
  have HI := hid hI
  rw [hu] at HSZ HST1 HST2
  rw [hu]
  generalize t.nf = g at *
  generalize t.arg = x at *
  generalize (v.note f t).put f t = vp at *
  generalize v.note f t = vn at *
  generalize nm f t = nt at *
  generalize szf t 0 = z at *
  clear hu hno hI hI0 hK ht hs hvU htU hc hlk hln
  go_enter Tryz.func40, Tryz.ntmps40
  go_wp2_with fail
  refine (HSZ.out _).mono ?_
  rintro e w1 ⟨rfl, hE1⟩
  have HS1 : Hid (Ext w w1) := hid hE1
  clear hE1
  go_wp2_with fail
  refine reg_begin 12 (by kernel_rfl) ?_
  refine reg_hide (fun Q2 HQ => ?_)
  generalize hW : World.drew _ = W
  have HE : Hid (Ext w W) := hid (by rw [← hW]; exact HS1.out.trans (Ext.drew _))
  clear hW
  refine reg_quiet 0 rfl (by kernel_rfl) (by kernel_rfl) ?_; apply Exists.intro; refine ⟨fun w' hw' => ?_, ?_⟩; · go_simp; exact ⟨rfl, Ext.refl _⟩
  refine reg_quiet 1 rfl (by kernel_rfl) (by kernel_rfl) ?_; apply Exists.intro; refine ⟨fun w' hw' => ?_, ?_⟩; · go_simp; exact ⟨rfl, Ext.refl _⟩
  refine reg_quiet 2 rfl (by kernel_rfl) (by kernel_rfl) ?_; apply Exists.intro; refine ⟨fun w' hw' => ?_, ?_⟩; · go_simp; exact ⟨rfl, Ext.refl _⟩
  refine reg_quiet 3 rfl (by kernel_rfl) (by kernel_rfl) ?_; apply Exists.intro; refine ⟨fun w' hw' => ?_, ?_⟩; · have q0 := (HE.out.trans hw').cell HC1.out; go_simp; exact ⟨rfl, Ext.refl _⟩
  refine reg_quiet 4 rfl (by kernel_rfl) (by kernel_rfl) ?_; apply Exists.intro; refine ⟨fun w' hw' => ?_, ?_⟩; · go_simp; exact ⟨rfl, Ext.refl _⟩
  refine reg_quiet 5 rfl (by kernel_rfl) (by kernel_rfl) ?_; apply Exists.intro; refine ⟨fun w' hw' => ?_, ?_⟩; · go_simp; exact HNM.out w' (Same.of_ext (HE.out.trans hw'))
  refine reg_quiet 6 rfl (by kernel_rfl) (by kernel_rfl) ?_; apply Exists.intro; refine ⟨fun w' hw' => ?_, ?_⟩; · have q0 := HLK.out w' (HE.out.trans hw'); go_simp; exact ⟨rfl, Ext.refl _⟩
  refine reg_quiet 7 rfl (by kernel_rfl) (by kernel_rfl) ?_; apply Exists.intro; refine ⟨fun w' hw' => ?_, ?_⟩; · go_simp; exact ⟨rfl, Ext.refl _⟩
  refine reg_quiet 8 rfl (by kernel_rfl) (by kernel_rfl) ?_; apply Exists.intro; refine ⟨fun w' hw' => ?_, ?_⟩; · go_simp; exact ⟨rfl, Ext.refl _⟩
  refine reg_quiet 9 rfl (by kernel_rfl) (by kernel_rfl) ?_; apply Exists.intro; refine ⟨fun w' hw' => ?_, ?_⟩; · go_simp; exact ⟨rfl, Ext.refl _⟩
  refine reg_quiet 10 rfl (by kernel_rfl) (by kernel_rfl) ?_; apply Exists.intro; refine ⟨fun w' hw' => ?_, ?_⟩; · go_simp; exact ⟨rfl, Ext.refl _⟩
  refine reg_quiet 11 rfl (by kernel_rfl) (by kernel_rfl) ?_; apply Exists.intro; refine ⟨fun w' hw' => ?_, ?_⟩; · go_simp; exact ⟨rfl, Ext.refl _⟩
  refine reg_done (by kernel_rfl) (fun W2 hw2 => ?_) _
  rw [HQ.out]
  clear HQ Q2
  replace HE := hid (HE.out.trans hw2)
  clear hw2 HLK HS1
  go_simp
  cases hS : (v.seen nt).isSome
  · have q0 := HE.out.cell HC1.out
    have hln := HLN.out W2 HE.out
    change (Builtin.len_ #[76] 3 #[.map (some k.nb)]).run Tryz.prog W2 = _ at hln
    have hn4 : ¬ (400 : Int) ≤ (v.n : Int) := by omega
    go_wp2_with fail
    refine reg_begin 7 (by kernel_rfl) ?_
    refine reg_hide (fun Q2 HQ => ?_)
    generalize hW : World.drew _ = W
    replace HE : Hid (Ext w W) := hid (by rw [← hW]; exact HE.out.trans (Ext.drew _))
    clear hW q0 hln HLN
    refine reg_quiet 0 rfl (by kernel_rfl) (by kernel_rfl) ?_; apply Exists.intro; refine ⟨fun w' hw' => ?_, ?_⟩; · go_simp; exact ⟨rfl, Ext.refl _⟩
    refine reg_quiet 1 rfl (by kernel_rfl) (by kernel_rfl) ?_; apply Exists.intro; refine ⟨fun w' hw' => ?_, ?_⟩; · go_simp; exact ⟨rfl, Ext.refl _⟩
    refine reg_quiet 2 rfl (by kernel_rfl) (by kernel_rfl) ?_; apply Exists.intro; refine ⟨fun w' hw' => ?_, ?_⟩; · go_simp; exact ⟨rfl, Ext.refl _⟩
    refine reg_quiet 3 rfl (by kernel_rfl) (by kernel_rfl) ?_; apply Exists.intro; refine ⟨fun w' hw' => ?_, ?_⟩; · have q0 := (HE.out.trans hw').cell HC1.out; go_simp; exact ⟨rfl, Ext.refl _⟩
    refine reg_quiet 4 rfl (by kernel_rfl) (by kernel_rfl) ?_; apply Exists.intro; refine ⟨fun w' hw' => ?_, ?_⟩; · go_simp; exact ⟨rfl, Ext.refl _⟩
    refine reg_quiet 5 rfl (by kernel_rfl) (by kernel_rfl) ?_; apply Exists.intro; refine ⟨fun w' hw' => ?_, ?_⟩; · go_simp; exact HNM.out w' (Same.of_ext (HE.out.trans hw'))
    refine reg_quiet 6 rfl (by kernel_rfl) (by kernel_rfl) ?_; apply Exists.intro; refine ⟨fun w' hw' => ?_, ?_⟩; · go_simp; exact ⟨rfl, Ext.refl _⟩
    refine reg_one 7 rfl (by kernel_rfl) (by kernel_rfl) (fun w' hw' => ?_)
    have h2 := Classical.choose_spec (HST1.out w' (HK.out.later (HE.out.trans hw')))
    generalize Classical.choose _ = w2 at h2
    have hrun := h2.1
    have hK2 := h2.2.1
    have hg2 := h2.2.2
    clear h2
    have HK2 := hid hK2
    have HSM : Hid (Same w w2 (fun b => b ≠ k.nb)) := hid ((Same.of_ext (HE.out.trans hw')).trans (Same.of_grown hg2 (fun b hb e => hb (Option.some.inj e))))
    clear hK2 hg2 hw'
    go_simp
    clear hrun
    refine reg_done (by kernel_rfl) (fun w3 hw3 => ?_) _
    rw [HQ.out]
    clear HQ Q2
    replace HK2 := hid (HK2.out.later hw3)
    replace HSM := hid (HSM.out.trans (Same.of_ext hw3))
    have q0 := HSM.out.cell HKL.out.1 HKL.out.2.2 HC2.out
    clear hw3 HST1
    go_simp
    go_wp2_with fail
    refine reg_begin 7 (by kernel_rfl) ?_
    refine reg_hide (fun Q2 HQ => ?_)
    generalize hW : World.drew _ = W
    have HE3 : Hid (Ext w3 W) := hid (by rw [← hW]; exact Ext.drew _)
    clear hW q0
    refine reg_quiet 0 rfl (by kernel_rfl) (by kernel_rfl) ?_; apply Exists.intro; refine ⟨fun w' hw' => ?_, ?_⟩; · go_simp; exact ⟨rfl, Ext.refl _⟩
    refine reg_quiet 1 rfl (by kernel_rfl) (by kernel_rfl) ?_; apply Exists.intro; refine ⟨fun w' hw' => ?_, ?_⟩; · go_simp; exact ⟨rfl, Ext.refl _⟩
    refine reg_quiet 2 rfl (by kernel_rfl) (by kernel_rfl) ?_; apply Exists.intro; refine ⟨fun w' hw' => ?_, ?_⟩; · go_simp; exact ⟨rfl, Ext.refl _⟩
    refine reg_quiet 3 rfl (by kernel_rfl) (by kernel_rfl) ?_; apply Exists.intro; refine ⟨fun w' hw' => ?_, ?_⟩; · have q0 := (HSM.out.trans (Same.of_ext (HE3.out.trans hw'))).cell HKL.out.1 HKL.out.2.2 HC2.out; go_simp; exact ⟨rfl, Ext.refl _⟩
    refine reg_quiet 4 rfl (by kernel_rfl) (by kernel_rfl) ?_; apply Exists.intro; refine ⟨fun w' hw' => ?_, ?_⟩; · go_simp; exact ⟨rfl, Ext.refl _⟩
    refine reg_quiet 5 rfl (by kernel_rfl) (by kernel_rfl) ?_; apply Exists.intro; refine ⟨fun w' hw' => ?_, ?_⟩; · go_simp; exact HNM.out w' ((HSM.out.mono (fun b hb => hb.2)).trans (Same.of_ext (HE3.out.trans hw')))
    refine reg_quiet 6 rfl (by kernel_rfl) (by kernel_rfl) ?_; apply Exists.intro; refine ⟨fun w' hw' => ?_, ?_⟩; · go_simp; exact ⟨rfl, Ext.refl _⟩
    refine reg_one 7 rfl (by kernel_rfl) (by kernel_rfl) (fun w' hw' => ?_)
    have h2 := Classical.choose_spec (HST2.out w' (HK2.out.later (HE3.out.trans hw')))
    generalize Classical.choose _ = w4 at h2
    have hrun := h2.1
    have hK2 := h2.2.1
    have hg2 := h2.2.2
    clear h2 HK2
    have HK2 := hid hK2
    have HSN : Hid (Same w w4 (KP k)) := hid (((HSM.out.mono (fun b hb => hb.2)).trans (Same.of_ext (HE3.out.trans hw'))).trans (Same.of_grown hg2 (fun b hb e => hb.1 (Option.some.inj e))))
    clear hK2 hg2 hw'
    go_simp
    clear hrun
    refine reg_done (by kernel_rfl) (fun w5 hw5 => ?_) _
    rw [HQ.out]
    clear HQ Q2
    replace HK2 := hid (HK2.out.later hw5)
    replace HSN := hid (HSN.out.trans (Same.of_ext hw5))
    clear hw5 HST2 HSM
    go_simp
    go_wp2_with fail
    refine (close_any N U hUl hUn w5 k vp (fun W hW => HI.out W (HSN.out.trans hW)) HK2.out HPU.out).mono ?_
    rintro e w6 ⟨⟨o, rfl⟩, v2, hK6, hS6, hC6, hL6⟩
    have HK6 := hid hK6
    have HS6 := hid (HSN.out.trans hS6)
    have HR := hid (HNW.out v2 hC6 hL6)
    clear hK6 hS6 hC6 hL6
    go_wp2_with fail
    go_ret
    exact ⟨rfl, v2, HK6.out, HS6.out, HR.out⟩
  · go_wp2_with fail
    go_ret
    exact ⟨rfl, v, HK.out.later HE.out, Same.of_ext HE.out, HTH.out hS⟩

end Go.Proofs.YtjodmedgkmeklaaGreat

/-
  A world in which what is known stays within bounds; a term is seen.
-/
namespace Go.Proofs.YtjodmedgkmeklaaGreat
open Go Go.RowKit Go.Maps
variable {f : Int → List UInt8} {P : Int → Prop} {w0 w W W2 W3 : World} {own own2 : Nat → Option Tg} {m : MB} {μ μ2 : MS} {v : KV}

def Tm.isBox : Tm → Bool
  | .box _ _ _ _ => true
  | _ => false
/-- The names of a pool, and of what is in its boxes. -/
def Uof (f : Int → List UInt8) (pool : List Tm) : List (List UInt8) := pool.map (nm f) ++ pool.flatMap fun t => match t with | .box _ _ a x => [nm f a, nm f x] | _ => []
structure PoolOk (f : Int → List UInt8) (P : Int → Prop) (μ : MS) : Prop where
  fine : ∀ t ∈ μ.pool, t.ok P ∧ sz t ≤ 1500
  few : μ.pool.length ≤ 300
  ground : ∀ k n a x, Tm.box k n a x ∈ μ.pool → (a.isBox = true → names f μ.pool (nm f a) = true) ∧ (x.isBox = true → names f μ.pool (nm f x) = true)
  inU : ∀ s, μ.S s = true → s ∈ Uof f μ.pool
theorem names_iff {l : List Tm} {s : List UInt8} : names f l s = true ↔ ∃ t ∈ l, nm f t = s := by unfold names; simp
theorem uof_len (pool : List Tm) : (Uof f pool).length ≤ 3 * pool.length := by
  unfold Uof
  rw [List.length_append, List.length_map]
  have : (pool.flatMap fun t => match t with | .box _ _ a x => [nm f a, nm f x] | _ => []).length ≤ 2 * pool.length := by
    induction pool with
    | nil => simp
    | cons t l ih =>
      rw [List.flatMap_cons, List.length_append, List.length_cons]
      have h2 : ∀ t : Tm, (match t with | .box _ _ a x => [nm f a, nm f x] | _ => []).length ≤ 2 := fun t => by cases t <;> simp
      have := h2 t
      omega
  omega
theorem PoolOk.univ (N : Nums f P) (h : PoolOk f P μ) : Univ f P (Uof f μ.pool) := by
  intro k n a x hF hu
  have key : ∀ t ∈ μ.pool, nm f t = nm f (.box k n a x) → nm f a ∈ Uof f μ.pool ∧ nm f x ∈ Uof f μ.pool := fun t ht he => by
    have h1 := nm_sim N (h.fine t ht).1 hF.ok he
    cases t <;> simp only [Sim] at h1
    case box k' n' a' x' =>
      have hm : ∀ s, s = nm f a' ∨ s = nm f x' → s ∈ Uof f μ.pool := fun s hs => List.mem_append_right _ (List.mem_flatMap.2 ⟨_, ht, by simpa using hs⟩)
      exact ⟨hm _ (.inl h1.2.2.1.symm), hm _ (.inr h1.2.2.2.symm)⟩
  rcases List.mem_append.1 hu with hu | hu
  · obtain ⟨t, ht, he⟩ := List.mem_map.1 hu
    exact key t ht he
  · obtain ⟨t, ht, he⟩ := List.mem_flatMap.1 hu
    cases t <;> simp at he
    case box k' n' a' x' =>
      have hok := (h.fine _ ht).1
      have hg := h.ground _ _ _ _ ht
      rcases he with he | he
      · have h1 := nm_sim N hF.ok hok.2.2.1 he
        have hb : a'.isBox = true := by cases a' <;> simp only [Sim] at h1; rfl
        obtain ⟨t2, ht2, he2⟩ := names_iff.1 (hg.1 hb)
        exact key t2 ht2 (he2.trans he.symm)
      · have h1 := nm_sim N hF.ok hok.2.2.2 he
        have hb : x'.isBox = true := by cases x' <;> simp only [Sim] at h1; rfl
        obtain ⟨t2, ht2, he2⟩ := names_iff.1 (hg.2 hb)
        exact key t2 ht2 (he2.trans he.symm)
theorem univ_closed {U : List (List UInt8)} (h : Univ f P U) (sec : Int → Bool) : Closed f P sec (fun s => decide (s ∈ U)) := fun k n a t hF hC =>
  have h1 := h k n a t hF (of_decide_eq_true hC)
  ⟨decide_eq_true h1.1, fun _ => decide_eq_true h1.2⟩
theorem mem_uof {pool : List Tm} {s : List UInt8} (h : names f pool s = true) : s ∈ Uof f pool := by
  obtain ⟨t, ht, rfl⟩ := names_iff.1 h
  exact List.mem_append_left _ (List.mem_map_of_mem ht)
theorem PoolOk.see (N : Nums f P) (h : PoolOk f P μ) {t : Tm} (hn : names f μ.pool (nm f t) = true) : PoolOk f P (μ.see f P t) :=
  ⟨h.fine, h.few, h.ground, fun s hs => by
    have h1 := clo_iff.1 hs (fun s => decide (s ∈ Uof f μ.pool)) (univ_closed (h.univ N) _) (fun s hs => by
      unfold plus at hs
      simp only [Bool.or_eq_true] at hs
      rcases hs with hs | hs
      · exact decide_eq_true (h.inU s hs)
      · rw [of_decide_eq_true hs]; exact decide_eq_true (mem_uof hn))
    exact of_decide_eq_true h1⟩

theorem MAt.n_le (h : MAt f P w0 W own m μ v) : v.n ≤ μ.pool.length := by
  have := h.base.seen.card (μ.pool.map (Go.Proofs.YtjodmedgkmeklaaGreat.nm f)) (fun s x hs => by
    have h1 := h.seen s (by rw [hs]; rfl)
    obtain ⟨t, ht, rfl⟩ := names_iff.1 h1
    exact List.mem_map_of_mem ht)
  simpa using this
theorem MAt.itoa (h : MAt f P w0 W own m μ v) (hI : Itoa w0 Small f) : Itoa W Small f := hI.later h.ext
/-- What is known was turned. -/
theorem MAt.known {v2 : KV} {x2 : Int → Bool} {S2 : List UInt8 → Bool} {T : Tg → Prop} (h : MAt f P w0 W own m μ v) (hk : Kept own T W W2) (hT : ∀ t, T t → t = .sb ∨ t = .nb ∨ t = .ab) (hK : KAt f P W2 m.k v2) (hx : v2.x = x2) (hS : v2.S = S2) (hc : KC f P v2)
    (hs : ∀ s, (v2.seen s).isSome = true → names f μ.pool s = true) : MAt f P w0 W2 own m { μ with x := x2, S := S2 } v2 := by
  have hsame : ∀ b t, own b = some t → (t ≠ .sb ∧ t ≠ .nb ∧ t ≠ .ab) → W2.heap[b]? = W.heap[b]? := fun b t hb ht => hk.same b t hb (fun hT2 => by rcases hT t hT2 with rfl | rfl | rfl <;> simp_all)
  exact ⟨(hsame _ _ h.ow (by simp)).trans h.blk, own_keep h.st fun g hg => hsame g _ (h.ost g hg) (by simp), own_keep h.sds fun g hg => hsame g _ (h.osd g hg) (by simp), own_keep h.pl fun g hg => hsame g _ (h.opl g hg) (by simp),
    h.nm.keep (hsame _ _ h.on (by simp)), h.lk.keep (hsame _ _ h.ol (by simp)), hK, h.len, fun i x s h1 h2 => (h.side i x s h1 h2).keep (fun b t hb ht => hsame b t hb (by rcases ht with rfl | rfl | rfl <;> simp)) (fun _ _ h => h),
    hk.ext h.ext (fun b t hb => (h.owns b t hb).1), fun b t hb => ⟨(h.owns b t hb).1, Nat.lt_of_lt_of_le (h.owns b t hb).2 hk.size⟩, h.ow, h.on, h.ol, h.okb, h.osb, h.onb, h.oab, h.ost, h.osd, h.opl, hx, hS, hc, hs⟩
theorem MAt.kp (h : MAt f P w0 W own m μ v) (hS : Same W W2 (KP m.k)) : Kept own (fun t => t = .nb ∨ t = .ab) W W2 :=
  Kept.of (hS.mono fun b hb => ⟨fun e => hb .ab (by rw [e]; exact h.oab) (.inr rfl), fun e => hb .nb (by rw [e]; exact h.onb) (.inl rfl)⟩) (fun b t hb => (h.owns b t hb).2)
/-- A term is seen. -/
theorem see_m (N : Nums f P) (hI : Itoa w0 Small f) (h : MAt f P w0 W own m μ v) (hp : PoolOk f P μ) {t : Tm} {u : TypeId} {d : Value} (ht : Va t u d) (hF : Fine P t) (hn : names f μ.pool (nm f t) = true) :
    Calls Tryz.prog 40 #[ptr m.k.kb, .iface u d] W fun e w' => e = .returned (.bool true) ∧ ∃ v2, MAt f P w0 w' own m (μ.see f P t) v2 ∧ Kept own (fun t => t = .nb ∨ t = .ab) W w' := by
  have hU := hp.univ N
  have hlow := (h.owns _ _ h.oab).1
  have hlow2 := (h.owns _ _ h.onb).1
  have hs := see_any N (Uof f μ.pool) (by have := uof_len (f := f) μ.pool; have := hp.few; omega) hU t W m.k v (fun W2 hW => hI.later (Same.ext h.ext hW (fun b hb => ⟨by omega, by omega⟩))) h.base hF (by have := h.n_le; have := hp.few; omega)
    (fun s hs => by rw [h.bS] at hs; exact hp.inU s hs) (mem_uof hn) h.kc
  rw [ht.eq] at hs
  refine hs.mono ?_
  rintro e w' ⟨rfl, v2, h1, h2, h3⟩
  have hk := h.kp h2
  refine ⟨rfl, v2, h.known hk (fun t ht => by rcases ht with rfl | rfl <;> simp) h1 ?_ ?_ h3.kc (fun s hs => ?_), hk⟩
  · have : v2.x = v.x := by unfold KV.x; rw [h3.sec]
    rw [this, h.bx]
  · have := Cl.eq_clo h3.cl
    rw [this, h.bx, h.bS]
  · rcases h3.more s hs with h5 | rfl
    · exact h.seen s h5
    · exact hn

end Go.Proofs.YtjodmedgkmeklaaGreat

/-
  What honest sides send; what the listener puts.
-/
namespace Go.Proofs.YtjodmedgkmeklaaGreat
open Go Go.RowKit Go.Maps
attribute [local go_sem] extUpon run_store_tm
attribute [local go_sem ↓] Tm.val_cell eval_put_ne eval_put_none eval_put_same size_put eval_const
attribute [local go_sem ↓] meth_Atom meth_Public meth_Shared meth_Chain meth_Digest meth_Box meth_Empty
attribute [local go_sem ↓] run_build_chain run_build_digest run_build_box
attribute [local go_sem] ta_Atom_Atom ta_Public_Atom ta_Shared_Atom ta_Chain_Atom ta_Digest_Atom ta_Box_Atom ta_Empty_Atom ta_Nil_Atom ta_Atom_Public ta_Public_Public ta_Shared_Public ta_Chain_Public ta_Digest_Public ta_Box_Public ta_Empty_Public ta_Nil_Public ta_Atom_Shared ta_Public_Shared ta_Shared_Shared ta_Chain_Shared ta_Digest_Shared ta_Box_Shared ta_Empty_Shared ta_Nil_Shared ta_Atom_Chain ta_Public_Chain ta_Shared_Chain ta_Chain_Chain ta_Digest_Chain ta_Box_Chain ta_Empty_Chain ta_Nil_Chain ta_Atom_Digest ta_Public_Digest ta_Shared_Digest ta_Chain_Digest ta_Digest_Digest ta_Box_Digest ta_Empty_Digest ta_Nil_Digest ta_Atom_Box ta_Public_Box ta_Shared_Box ta_Chain_Box ta_Digest_Box ta_Box_Box ta_Empty_Box ta_Nil_Box ta_Atom_Empty ta_Public_Empty ta_Shared_Empty ta_Chain_Empty ta_Digest_Empty ta_Box_Empty ta_Empty_Empty ta_Nil_Empty
variable {f : Int → List UInt8} {P : Int → Prop} {w0 w W W2 W3 : World} {own own2 : Nat → Option Tg} {m : MB} {μ μ2 : MS} {v : KV}

theorem MS.sent_succ {l : List Tm} {j : Nat} (h : j < l.length) : μ.sent f P (l.take (j + 1)) = ((μ.sent f P (l.take j)).add f l[j]).see f P l[j] := by
  unfold MS.sent
  rw [List.take_succ_eq_append_getElem h, List.foldl_append]
  rfl
theorem add_pool (μ : MS) (t : Tm) : (μ.add f t).pool = if names f μ.pool (nm f t) then μ.pool else μ.pool ++ [t] := by
  unfold MS.add; split <;> rfl
theorem sent_pool {l : List Tm} (j : Nat) (hj : j ≤ l.length) : (μ.sent f P (l.take j)).pool.length = μ.pool.length + (newsL f μ.pool (l.take j)).length ∧ ∀ s, names f (μ.sent f P (l.take j)).pool s = (names f μ.pool s || decide (s ∈ newsL f μ.pool (l.take j))) := by
  induction j with
  | zero => simp [MS.sent, newsL]
  | succ j ih =>
    obtain ⟨h1, h2⟩ := ih (by omega)
    have hlt : j < l.length := by omega
    rw [MS.sent_succ hlt, newsL_succ hlt]
    have hp : (((μ.sent f P (l.take j)).add f l[j]).see f P l[j]).pool = ((μ.sent f P (l.take j)).add f l[j]).pool := rfl
    rw [hp, add_pool, h2]
    split
    · exact ⟨h1, h2⟩
    · refine ⟨by simp only [List.length_append, List.length_singleton, h1]; omega, fun s => ?_⟩
      rw [names_push]
      simp only [h2, List.mem_append, List.mem_singleton, Bool.decide_or, Bool.or_assoc]
theorem newsL_mono {pool l : List Tm} {j : Nat} (hj : j ≤ l.length) : (newsL f pool (l.take j)).length ≤ (newsL f pool l).length := by
  suffices h : ∀ d, ∀ j, j + d = l.length → (newsL f pool (l.take j)).length ≤ (newsL f pool (l.take (j + d))).length by
    have := h (l.length - j) j (by omega)
    rwa [show j + (l.length - j) = l.length by omega, List.take_length] at this
  intro d
  induction d with
  | zero => intro j _; exact Nat.le_refl _
  | succ d ih =>
    intro j hj
    have h1 := ih (j + 1) (by omega)
    rw [show j + (d + 1) = j + 1 + d by omega]
    refine Nat.le_trans ?_ h1
    rw [newsL_succ (by omega)]
    split
    · exact Nat.le_refl _
    · simp

/-- A term whose parts are no boxes, or in the pool. -/
def Grounded (f : Int → List UInt8) (pool : List Tm) (t : Tm) : Prop := ∀ k n a x, t = .box k n a x → (a.isBox = true → names f pool (nm f a) = true) ∧ (x.isBox = true → names f pool (nm f x) = true)
theorem PoolOk.add (h : PoolOk f P μ) {t : Tm} (ht : t.ok P ∧ sz t ≤ 1500) (hg : Grounded f μ.pool t) (hl : names f μ.pool (nm f t) = true ∨ μ.pool.length < 300) : PoolOk f P (μ.add f t) := by
  unfold MS.add
  split
  · exact h
  · rename_i hn
    have hup : ∀ s, names f μ.pool s = true → names f (μ.pool ++ [t]) s = true := fun s hs => by rw [names_push]; simp [hs]
    refine ⟨fun x hx => ?_, ?_, fun k n a x hx => ?_, fun s hs => ?_⟩
    · rcases List.mem_append.1 hx with hx | hx
      · exact h.fine x hx
      · simp at hx; subst hx; exact ht
    · rcases hl with hl | hl
      · exact absurd hl hn
      · simp; omega
    · have key : ∀ y ∈ μ.pool ++ [t], Grounded f μ.pool y := fun y hy => by
        rcases List.mem_append.1 hy with hy | hy
        · exact fun k n a x e => h.ground k n a x (e ▸ hy)
        · simp at hy; subst hy; exact hg
      have h5 := key _ hx k n a x rfl
      exact ⟨fun hb => hup _ (h5.1 hb), fun hb => hup _ (h5.2 hb)⟩
    · have h5 := h.inU s hs
      unfold Uof at h5 ⊢
      rw [List.map_append, List.flatMap_append, List.mem_append, List.mem_append, List.mem_append]
      rcases List.mem_append.1 h5 with h6 | h6
      · exact .inl (.inl h6)
      · exact .inr (.inl h6)
theorem names_add (μ : MS) (t : Tm) : names f (μ.add f t).pool (nm f t) = true := by
  rw [add_pool]
  split
  · assumption
  · rw [names_push]; simp
/-- An honest term. -/
structure Hon (P : Int → Prop) (t : Tm) : Prop where
  ok : t.ok P
  sz : Go.Proofs.YtjodmedgkmeklaaGreat.sz t ≤ 1500
  flat : ∀ k n a x, t = .box k n a x → a.isBox = false ∧ x.isBox = false
theorem Hon.grounded {t : Tm} (h : Hon P t) (pool : List Tm) : Grounded f pool t := fun k n a x e => by
  have := h.flat k n a x e
  exact ⟨fun hb => (by rw [this.1] at hb; cases hb), fun hb => (by rw [this.2] at hb; cases hb)⟩

/-- The tags that what is sent may turn. -/
def SentT (t : Tg) : Prop := t = .w ∨ t = .pool ∨ t = .names ∨ t = .nb ∨ t = .ab

set_option maxHeartbeats 4000000 in
set_option maxRecDepth 100000 in
theorem sent_any (N : Nums f P) {l : List Tm} {la : Option Addr} {lc : Nat} (hI : Itoa w0 Small f) (hl : ∀ t ∈ l, Hon P t) (hll : l.length ≤ 10) (hrd : Rd W la (l.map Tm.val)) (hfree : ∀ g, la = some ⟨g, 0, none⟩ → own g = none) (h : MAt f P w0 W own m μ v) (hp : PoolOk f P μ) (hroom : μ.room f l = true) :
    Calls Tryz.prog 55 #[ptr m.wb, .slice la l.length lc] W fun e w' => (∃ x, e = .returned x) ∧ ∃ own2 vpl v2, MAt f P w0 w' own2 { m with vpl := vpl } (μ.sent f P l) v2 ∧ PoolOk f P (μ.sent f P l) ∧ Kept own SentT W w' ∧ Owns W own own2 := by
  have hrm : μ.pool.length + (newsL f μ.pool l).length ≤ 300 := of_decide_eq_true hroom
  have HM := hid h
  have HPO := hid hp
  have HI := hid hI
  have HL := hid hl
  have HRD := hid hrd
  have HFR := hid hfree
  have HN := hid N
  clear h hp hI hl hrd hfree hroom N
  go_enter Tryz.func55, Tryz.ntmps55
  go_wp2_with fail
  go_loopw [8] (fun iv wr => ∃ (j : Nat) (own2 : Nat → Option Tg) (vpl : Value) (v2 : KV), iv = .int .i64 j ∧ j ≤ l.length ∧ Hid (MAt f P w0 wr own2 { m with vpl := vpl } (μ.sent f P (l.take j)) v2) ∧ Hid (PoolOk f P (μ.sent f P (l.take j))) ∧ Hid (Kept own SentT W wr) ∧ Hid (Owns W own own2)) (fun iv _ => l.length - (intOf iv).toNat)
  case atStart => exact ⟨0, own, m.vpl, v, rfl, by omega, HM, HPO, hid (Kept.of (Same.refl _ _) (fun b t hb => (HM.out.owns b t hb).2)), hid (Owns.refl _ _)⟩
  case round =>
    obtain ⟨j, own2, vpl, v2, rfl, hj, HA, HP, HK, HO⟩ := hrel
    by_cases hlt : j < l.length
    · have hlt2 : (j : Int) < (l.length : Int) := by omega
      obtain ⟨g, rfl, hgl, hcell⟩ := HRD.out (by simp; omega)
      have hlj := HL.out l[j] (List.getElem_mem hlt)
      obtain ⟨u, d, hv⟩ := Va.of hlj.ok.ne
      have q0 : wr.cell? ⟨g, j, none⟩ = some (.iface u d) := by
        have h1 := hcell j l[j].val (by rw [List.getElem?_map, List.getElem?_eq_getElem hlt]; rfl)
        rw [hv.eq] at h1
        exact (World.cell?_of_block (HK.out.free g hgl (HFR.out g rfl))).trans h1
      obtain ⟨hlen, hnm⟩ := sent_pool (f := f) (P := P) (μ := μ) (l := l) j (by omega)
      have hroomj : names f (μ.sent f P (l.take j)).pool (nm f l[j]) = true ∨ (μ.sent f P (l.take j)).pool.length < 300 := by
        cases hn : names f (μ.sent f P (l.take j)).pool (nm f l[j]) with
        | true => exact .inl rfl
        | false =>
          right
          have h1 := newsL_succ (f := f) (pool := μ.pool) hlt
          have h2 := newsL_mono (f := f) (pool := μ.pool) (l := l) (j := j + 1) (by omega)
          rw [hnm] at hn
          rw [h1, hn] at h2
          simp at h2
          omega
      have hpa := HP.out.add ⟨hlj.ok, hlj.sz⟩ (hlj.grounded (f := f) _) hroomj
      have hna := names_add (f := f) (μ.sent f P (l.take j)) l[j]
      have HADD := hid (add_any hv (HA.out.itoa HI.out) (hlj.ok.all HN.out.small) (by have := hlj.sz; omega) (hroomj.imp id (fun h => by omega)) HA.out)
      have HPA := hid hpa
      have HNA := hid hna
      have HSU := hid (MS.sent_succ (f := f) (P := P) (μ := μ) hlt)
      have HV := hid hv
      have HFI : Hid (Fine P l[j]) := hid ⟨hlj.ok, by have := hlj.sz; omega⟩
      clear hcell hlj hv hlen hnm hroomj hpa hna
      generalize l[j] = t at *
      go_wp2_with fail
      refine HADD.out.mono ?_
      rintro e w1 ⟨⟨x, rfl⟩, own3, vpl3, h1, h2, h3⟩
      have HA1 := hid h1
      have HK1 := hid (HK.out.trans HO.out (h2.mono (fun t ht => by rcases ht with rfl | rfl | rfl <;> simp [SentT])))
      have HO1 := hid (HO.out.trans h3 HK.out.size)
      clear h1 h2 h3 q0 HADD
      have c4 : w1.cell? ⟨m.wb, 4, none⟩ = some (ptr m.k.kb) := cell_blk HA1.out.blk rfl
      have HSEE := hid (see_m HN.out HI.out HA1.out HPA.out HV.out HFI.out HNA.out)
      have HPS := hid (HPA.out.see HN.out HNA.out)
      go_wp2_with fail
      refine HSEE.out.mono ?_
      rintro e w2 ⟨rfl, v3, h1, h2⟩
      have HA2 := hid h1
      have HK2 := hid (HK1.out.trans HO1.out (h2.mono (fun t ht => by rcases ht with rfl | rfl <;> simp [SentT])))
      clear h1 h2 c4 HSEE
      go_wp2_with fail
      go_roundw
      case rel => exact ⟨j + 1, own3, vpl3, v3, by go_num, by omega, hid (by rw [HSU.out]; exact HA2.out), hid (by rw [HSU.out]; exact HPS.out), HK2, HO1⟩
      case measure => simp [intOf]; omega
    · have hlt2 : ¬ (j : Int) < (l.length : Int) := by omega
      obtain rfl : j = l.length := by omega
      have HFIN := hid (And.intro HA.out HP.out)
      clear HA HP
      go_wp2_with fail
      go_end0
      have hf := HFIN.out
      rw [List.take_length] at hf
      exact ⟨⟨_, rfl⟩, own2, ⟨vpl, v2, hf.1⟩, hf.2, HK.out, HO.out⟩

end Go.Proofs.YtjodmedgkmeklaaGreat

/-
  What the listener puts into the pool.
-/
namespace Go.Proofs.YtjodmedgkmeklaaGreat
open Go Go.RowKit Go.Maps
attribute [local go_sem] extUpon run_store_tm
attribute [local go_sem ↓] Tm.val_cell eval_put_ne eval_put_none eval_put_same size_put eval_const
attribute [local go_sem ↓] meth_Atom meth_Public meth_Shared meth_Chain meth_Digest meth_Box meth_Empty
attribute [local go_sem ↓] run_build_chain run_build_digest run_build_box
attribute [local go_sem] ta_Atom_Atom ta_Public_Atom ta_Shared_Atom ta_Chain_Atom ta_Digest_Atom ta_Box_Atom ta_Empty_Atom ta_Nil_Atom ta_Atom_Public ta_Public_Public ta_Shared_Public ta_Chain_Public ta_Digest_Public ta_Box_Public ta_Empty_Public ta_Nil_Public ta_Atom_Shared ta_Public_Shared ta_Shared_Shared ta_Chain_Shared ta_Digest_Shared ta_Box_Shared ta_Empty_Shared ta_Nil_Shared ta_Atom_Chain ta_Public_Chain ta_Shared_Chain ta_Chain_Chain ta_Digest_Chain ta_Box_Chain ta_Empty_Chain ta_Nil_Chain ta_Atom_Digest ta_Public_Digest ta_Shared_Digest ta_Chain_Digest ta_Digest_Digest ta_Box_Digest ta_Empty_Digest ta_Nil_Digest ta_Atom_Box ta_Public_Box ta_Shared_Box ta_Chain_Box ta_Digest_Box ta_Box_Box ta_Empty_Box ta_Nil_Box ta_Atom_Empty ta_Public_Empty ta_Shared_Empty ta_Chain_Empty ta_Digest_Empty ta_Box_Empty ta_Empty_Empty ta_Nil_Empty
variable {f : Int → List UInt8} {P : Int → Prop} {w0 w W W2 W3 : World} {own own2 : Nat → Option Tg} {m : MB} {μ μ2 : MS} {v : KV}

theorem room_one {t : Tm} (h : μ.room f [t] = true) : names f μ.pool (nm f t) = true ∨ μ.pool.length < 300 := by
  have h1 := of_decide_eq_true h
  cases hn : names f μ.pool (nm f t) with
  | true => exact .inl rfl
  | false =>
    right
    have : newsL f μ.pool [t] = [nm f t] := by simp [newsL, hn]
    rw [this] at h1
    simp at h1
    omega
theorem rd_one (W : World) (x : Value) (t : TypeId) : Rd (W.alloc (.cells #[x] t (0, 0))) (some ⟨W.heap.size, 0, none⟩) [x] := fun _ => by
  refine ⟨_, rfl, by simp, fun i u hu => cell_blk (blk_new W _) ?_⟩
  cases i with
  | zero => simpa using hu
  | succ i => simp at hu

set_option maxHeartbeats 4000000 in
set_option maxRecDepth 100000 in
theorem put_any (N : Nums f P) {t : Tm} {u : TypeId} {d : Value} (ht : Va t u d) (hI : Itoa w0 Small f) (hok : t.ok P) (hsz : sz t ≤ 5000) (hg : Grounded f μ.pool t) (h : MAt f P w0 W own m μ v) (hp : PoolOk f P μ) :
    Calls Tryz.prog 35 #[ptr m.wb, .iface u d] W fun e w' => e = .returned (.int .i64 (μ.put f t).2) ∧ ∃ own2 vpl, MAt f P w0 w' own2 { m with vpl := vpl } (μ.put f t).1 v ∧ PoolOk f P (μ.put f t).1 ∧ Kept own SentT W w' ∧ Owns W own own2 := by
  have hall := hok.all N.small
  have hS := Size_any t W
  rw [ht.eq, szf_small (by omega)] at hS
  have HS := hid hS
  have HR := hid (fun W2 (hW : Ext W W2) => room_any (l := [t]) (la := some ⟨W2.heap.size, 0, none⟩) (lc := 1) ((h.itoa hI).later (hW.trans (Ext.alloc W2 (.cells #[.iface u d] 29 (0, 0))))) (by intro x hx; simp at hx; subst hx; exact ⟨hok.ne, hall, by omega⟩) (by simp) (by simp only [List.map_cons, List.map_nil, ht.eq]; exact rd_one W2 _ _) ((h.later hW).later (Ext.alloc W2 _)) (by have := hp.few; omega))
  have HM := hid h
  have HP := hid hp
  have HV := hid ht
  have HADD := hid (fun W2 (hW : Ext W W2) (hfew : names f μ.pool (nm f t) = true ∨ μ.pool.length < 1000) => add_any ht ((h.itoa hI).later hW) hall (by omega) hfew (h.later hW))
  have HG := hid hg
  have HOK := hid hok
  have hkept : ∀ {W2 : World}, Ext W W2 → Kept own SentT W W2 := fun hE => Kept.of (Same.of_ext hE) (fun b t hb => (h.owns b t hb).2)
  have HKP := hid (fun (W2 : World) (hE : Ext W W2) => hkept hE)
  clear h hp ht hS hall hg hkept hok
  go_enter Tryz.func35, Tryz.ntmps35
  go_wp2_with fail
  refine HS.out.mono ?_
  rintro e w1 ⟨rfl, hE1⟩
  have HE1 := hid hE1
  clear hE1 HS
  by_cases hbig : 1500 < sz t
  · have HEQ : Hid (μ.put f t = (μ, 2)) := hid (by unfold MS.put; rw [if_pos (.inl hbig)])
    go_wp2_with fail
    go_ret
    rw [HEQ.out]
    exact ⟨rfl, own, m.vpl, HM.out.later HE1.out, HP.out, HKP.out _ HE1.out, Owns.refl _ _⟩
  · go_wp2_with fail
    refine (HR.out w1 HE1.out).mono ?_
    rintro e w2 ⟨rfl, hE2⟩
    have HE2 := hid ((HE1.out.trans (Ext.alloc w1 (.cells #[.iface u d] 29 (0, 0)))).trans hE2)
    clear hE2 HE1
    cases hr : μ.room f [t]
    · have HEQ : Hid (μ.put f t = (μ, 2)) := hid (by unfold MS.put; rw [if_pos (.inr hr)])
      clear hr
      go_wp2_with fail
      go_ret
      rw [HEQ.out]
      exact ⟨rfl, own, m.vpl, HM.out.later HE2.out, HP.out, HKP.out _ HE2.out, Owns.refl _ _⟩
    · have HEQ : Hid (μ.put f t = (μ.add f t, 0)) := hid (by unfold MS.put; rw [if_neg (by rw [hr]; simp [hbig])])
      have HRO := hid (room_one hr)
      clear hr
      go_wp2_with fail
      refine (HADD.out w2 HE2.out (HRO.out.imp id (fun h => by omega))).mono ?_
      rintro e w3 ⟨⟨x, rfl⟩, own2, vpl, h1, h2, h3⟩
      have HA := hid h1
      have HK := hid ((HKP.out _ HE2.out).trans (Owns.refl _ _) (h2.mono (T2 := SentT) (fun t ht => by rcases ht with rfl | rfl | rfl <;> simp [SentT])))
      have HO := hid ((Owns.refl W own).trans h3 HE2.out.size)
      clear h1 h2 h3
      go_wp2_with fail
      go_ret
      rw [HEQ.out]
      exact ⟨rfl, own2, vpl, HA.out, HP.out.add ⟨HOK.out, by omega⟩ HG.out HRO.out, HK.out, HO.out⟩

end Go.Proofs.YtjodmedgkmeklaaGreat

/-
  A side of a world is turned; a whole side is loaded, and stored.
-/
namespace Go.Proofs.YtjodmedgkmeklaaGreat
open Go Go.RowKit Go.Maps
variable {f : Int → List UInt8} {P : Int → Prop} {w0 w W W2 W3 : World} {own own2 : Nat → Option Tg} {m : MB} {μ μ2 : MS} {v : KV}

def SideT (i : Nat) (t : Tg) : Prop := t = .side i ∨ t = .said i ∨ t = .took i
theorem MAt.turn {i : Nat} {x x2 : SB} {s s2 : Sd} (h : MAt f P w0 W own m μ v) (hx : m.sd[i]? = some x) (hs : μ.sides[i]? = some s) (hk : Kept own (SideT i) W W2) (ho : Owns W own own2) (hlo : ∀ b t, own2 b = some t → w0.heap.size ≤ b ∧ b < W2.heap.size) (hb : x2.b = x.b) (h2 : SideAt w0 W2 own2 i x2 s2) :
    MAt f P w0 W2 own2 { m with sd := m.sd.set i x2 } (μ.setSide i s2) v := by
  have hil : i < m.sd.length := (List.getElem?_eq_some_iff.1 hx).1
  have hsame : ∀ b t, own b = some t → ¬ SideT i t → W2.heap[b]? = W.heap[b]? := hk.same
  have hmap : (m.sd.set i x2).map (fun x => ptr x.b) = m.sd.map fun x => ptr x.b := by
    apply List.ext_getElem?
    intro j
    simp only [List.getElem?_map, List.getElem?_set]
    by_cases hj : i = j
    · subst hj
      simp only [if_true, hil, Option.map_some, hx, hb]
    · simp [hj]
  refine ⟨(hsame _ _ h.ow (by simp [SideT])).trans h.blk, own_keep h.st fun g hg => hsame g _ (h.ost g hg) (by simp [SideT]), ?_, own_keep h.pl fun g hg => hsame g _ (h.opl g hg) (by simp [SideT]), h.nm.keep (hsame _ _ h.on (by simp [SideT])), h.lk.keep (hsame _ _ h.ol (by simp [SideT])), h.base.keep fun b hb => ?_, ?_, ?_, hk.ext h.ext (fun b t hb => (h.owns b t hb).1), hlo,
    ho.le _ _ h.ow, ho.le _ _ h.on, ho.le _ _ h.ol, ho.le _ _ h.okb, ho.le _ _ h.osb, ho.le _ _ h.onb, ho.le _ _ h.oab, fun g hg => ho.le _ _ (h.ost g hg), fun g hg => ho.le _ _ (h.osd g hg), fun g hg => ho.le _ _ (h.opl g hg), h.bx, h.bS, h.kc, h.seen⟩
  · have h5 : W2.ownsRow w0.heap.size 65 1 m.vsd m.sd.length (m.sd.map fun x => ptr x.b) := own_keep h.sds fun g hg => hsame g _ (h.osd g hg) (by simp [SideT])
    show W2.ownsRow w0.heap.size 65 1 m.vsd (m.sd.set i x2).length ((m.sd.set i x2).map fun x => ptr x.b)
    rw [hmap, List.length_set]
    exact h5
  · rcases hb with rfl | rfl | rfl | rfl
    · exact hsame _ _ h.okb (by simp [SideT])
    · exact hsame _ _ h.osb (by simp [SideT])
    · exact hsame _ _ h.onb (by simp [SideT])
    · exact hsame _ _ h.oab (by simp [SideT])
  · show (m.sd.set i x2).length = (μ.sides.set i s2).length
    rw [List.length_set, List.length_set]; exact h.len
  · intro j y t hy ht
    have hy : (m.sd.set i x2)[j]? = some y := hy
    have ht : (μ.sides.set i s2)[j]? = some t := ht
    by_cases hj : i = j
    · subst hj
      have e1 : y = x2 := by
        rw [List.getElem?_set] at hy
        simp [hil] at hy
        exact hy.symm
      have e2 : t = s2 := by
        have hsl : i < μ.sides.length := (List.getElem?_eq_some_iff.1 hs).1
        rw [List.getElem?_set] at ht
        simp [hsl] at ht
        exact ht.symm
      rw [e1, e2]
      exact h2
    · rw [List.getElem?_set_ne hj] at hy ht
      exact (h.side j y t hy ht).keep (fun b u hb hu => hsame b u hb (by rcases hu with rfl | rfl | rfl <;> simp [SideT] <;> omega)) ho.le
/-- Only cells of its block are turned. -/
theorem MAt.turn1 {i : Nat} {x : SB} {s s2 : Sd} (h : MAt f P w0 W own m μ v) (hx : m.sd[i]? = some x) (hs : μ.sides[i]? = some s) (hS : Same W W2 (OnlyB x.b)) (h2 : SdAt W2 x.b s2 x.vs x.va) (h3 : s2.said = s.said) (h4 : s2.took = s.took) :
    MAt f P w0 W2 own m (μ.setSide i s2) v ∧ Kept own (SideT i) W W2 := by
  have hsd := h.side i x s hx hs
  have hk : Kept own (SideT i) W W2 := Kept.of (hS.mono fun k hk e => hk _ (by rw [e]; exact hsd.ob) (.inl rfl)) (fun b t hb => (h.owns b t hb).2)
  have hne1 : ∀ g, x.vs.ownBlock = some g → g ≠ x.b := fun g hg e => by have h5 := hsd.os g hg; rw [e, hsd.ob] at h5; cases h5
  have hne2 : ∀ g, x.va.ownBlock = some g → g ≠ x.b := fun g hg e => by have h5 := hsd.oa g hg; rw [e, hsd.ob] at h5; cases h5
  have hset : m.sd.set i x = m.sd := by
    obtain ⟨hl, he⟩ := List.getElem?_eq_some_iff.1 hx
    rw [← he]; exact List.set_getElem_self hl
  have h5 := h.turn (x2 := x) (s2 := s2) (own2 := own) hx hs hk (Owns.refl _ _) (fun b t hb => ⟨(h.owns b t hb).1, Nat.lt_of_lt_of_le (h.owns b t hb).2 hk.size⟩) rfl
    ⟨h2, by rw [h3]; exact own_keep hsd.said fun g hg => hS.2.2.2.2 g (hsd.said.lt g hg).2 (hne1 g hg), by rw [h4]; exact own_keep hsd.took fun g hg => hS.2.2.2.2 g (hsd.took.lt g hg).2 (hne2 g hg), hsd.ob, hsd.os, hsd.oa⟩
  rw [hset] at h5
  exact ⟨h5, hk⟩

/-! ### a whole side -/
def setAll : Array Value → Nat → List Value → Array Value
  | cs, _, [] => cs
  | cs, o, v :: r => setAll (cs.setIfInBounds o v) (o + 1) r
theorem setCells_blk (b : Nat) {ty : TypeId} : ∀ (vs : List Value) (o : Nat) (w : World) (cs : Array Value), w.heap[b]? = some (.cells cs ty (0, 0)) → (w.setCells b o vs).heap[b]? = some (.cells (setAll cs o vs) ty (0, 0))
  | [], _, _, _, h => h
  | v :: r, o, w, cs, h => by
    rw [World.setCells]
    refine setCells_blk b r (o + 1) _ _ ?_
    simp only [World.setCell, Array.getElem?_modify, h, if_true, Option.map_some]; rfl
theorem setCells_same (b : Nat) : ∀ (vs : List Value) (o : Nat) (w : World), Same w (w.setCells b o vs) (OnlyB b)
  | [], _, w => Same.refl w _
  | v :: r, o, w => by rw [World.setCells]; exact (same_set w b o v).trans (setCells_same b r (o + 1) _)
theorem setAll_side (s s2 : Sd) (vs va vs2 va2 : Value) : setAll (s.cells vs va) 0 (s2.cells vs2 va2).toList = s2.cells vs2 va2 := by
  simp [Sd.cells, setAll]
variable {b : Nat} {s s2 : Sd} {vs va vs2 va2 : Value}
theorem side_info : (Tryz.prog.info? 67).map (·.size) = some 17 := by kernel_rfl
theorem side_under : ∃ d, Tryz.prog.underlying 67 = some d ∧ d.isRow = true := ⟨_, Tryz.underlying67, rfl⟩
theorem wpl_load_side {rest : List Oper} {ops : Array Oper} {o : Oper} {a : Act} {Q : Exit → Act → World → Prop} (x : Operand) (hg : o.guard = none) (ho : o.op = .load 67 x) (hx : a.eval x = ptr b) (hs : SdAt W b s vs va)
    (h : wpList Tryz.prog ops Q rest (a.put o.dst (.agg (s.cells vs va))) W) : wpList Tryz.prog ops Q (o :: rest) a W := by
  obtain ⟨d, hd1, hd2⟩ := side_under
  refine wpList_load_mid hg 67 x ho b 0 hx (s.cells vs va).toList d (fun j u hu => ?_) hd1 hd2 (by rw [side_info]; rfl) (by simpa using h)
  rw [Nat.zero_add]
  exact hs.cell (by simpa using hu)
theorem one_side (hv1 : vs.oneCell' = true) (hv2 : va.oneCell' = true) : (s.cells vs va).all (·.oneCell') = true := by
  have e1 : ∀ k n, (Value.int k n).oneCell' = true := fun _ _ => rfl
  have e2 : ∀ n, (Value.bool n).oneCell' = true := fun _ => rfl
  simp [Sd.cells, Tm.val_one, hv1, hv2, e1, e2]
theorem wpl_store_side {rest : List Oper} {ops : Array Oper} {o : Oper} {a : Act} {Q : Exit → Act → World → Prop} (x y : Operand) (hg : o.guard = none) (ho : o.op = .store 67 x y) (hx : a.eval x = ptr b) (hs : SdAt W b s vs va)
    (hy : a.eval y = .agg (s2.cells vs2 va2)) (hv1 : vs2.oneCell' = true) (hv2 : va2.oneCell' = true)
    (h : ∀ W2, SdAt W2 b s2 vs2 va2 → Same W W2 (OnlyB b) → wpList Tryz.prog ops Q rest (a.put o.dst undef) W2) : wpList Tryz.prog ops Q (o :: rest) a W :=
  wpList_plain hg fun K hK => by
    refine wp_store_mid 67 x y ho b 0 (s2.cells vs2 va2) hx hy (fun j hj => ?_) side_info (one_side hv1 hv2) (hK _ _ (h _ ⟨?_⟩ (setCells_same b _ 0 W)))
    · rw [Nat.zero_add]
      have hj2 : j < (s.cells vs va).size := hj
      exact ⟨by rw [hs.cell (Array.getElem?_eq_getElem hj2)]; rfl, hs.free j⟩
    · have := setCells_blk b (s2.cells vs2 va2).toList 0 W _ hs.blk
      rwa [setAll_side] at this

end Go.Proofs.YtjodmedgkmeklaaGreat
