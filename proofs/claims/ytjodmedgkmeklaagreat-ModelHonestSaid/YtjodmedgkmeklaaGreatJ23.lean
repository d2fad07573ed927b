/-
  Texts merged: Q29, Q30, Q31, Q32, Q33.
-/
import Derived.Test.YtjodmedgkmeklaaGreatJ22
/-
  An op of an honest side (honest).
-/
namespace Go.Proofs.YtjodmedgkmeklaaGreat
open Go Go.RowKit Go.Maps
attribute [local go_sem] extUpon run_store_tm
attribute [local go_sem ↓] Tm.val_cell eval_put_ne eval_put_none eval_put_same size_put eval_const
attribute [local go_sem ↓] meth_Atom meth_Public meth_Shared meth_Chain meth_Digest meth_Box meth_Empty
attribute [local go_sem ↓] run_build_chain run_build_digest run_build_box
attribute [local go_sem] ta_Atom_Atom ta_Public_Atom ta_Shared_Atom ta_Chain_Atom ta_Digest_Atom ta_Box_Atom ta_Empty_Atom ta_Nil_Atom ta_Atom_Public ta_Public_Public ta_Shared_Public ta_Chain_Public ta_Digest_Public ta_Box_Public ta_Empty_Public ta_Nil_Public ta_Atom_Shared ta_Public_Shared ta_Shared_Shared ta_Chain_Shared ta_Digest_Shared ta_Box_Shared ta_Empty_Shared ta_Nil_Shared ta_Atom_Chain ta_Public_Chain ta_Shared_Chain ta_Chain_Chain ta_Digest_Chain ta_Box_Chain ta_Empty_Chain ta_Nil_Chain ta_Atom_Digest ta_Public_Digest ta_Shared_Digest ta_Chain_Digest ta_Digest_Digest ta_Box_Digest ta_Empty_Digest ta_Nil_Digest ta_Atom_Box ta_Public_Box ta_Shared_Box ta_Chain_Box ta_Digest_Box ta_Box_Box ta_Empty_Box ta_Nil_Box ta_Atom_Empty ta_Public_Empty ta_Shared_Empty ta_Chain_Empty ta_Digest_Empty ta_Box_Empty ta_Empty_Empty ta_Nil_Empty
variable {f : Int → List UInt8} {P : Int → Prop} {w0 w W W2 W3 : World} {own own2 : Nat → Option Tg} {m m2 : MB} {μ μ2 : MS} {v v2 : KV} {i : Nat} {s : Sd}

/-- A side that may do whatever comes. -/
structure Fit (P : Int → Prop) (s : Sd) : Prop where
  ok : SdOk P s
  gh : Gh 3 4000 s
  theirs : s.theirs.all Small
  sent : 0 ≤ s.sent ∧ s.sent ≤ 1000
  said : s.said.length ≤ 900
  got : 0 ≤ s.got ∧ s.got ≤ 1000
  took : s.took.length ≤ 900
  box : ∀ n, Hon P (.box s.keys.1 s.sent .empty (textOf n))
  key : s.keys.2.all Small
  ksz : sz s.keys.2 ≤ 10000
theorem PoolOk.hear (h : PoolOk f P μ) (b c : Int) : PoolOk f P (μ.hear f i s b c).1 := by
  rw [hear_eq]
  split
  · exact h
  · split
    · exact h
    · unfold heardT
      split <;> exact h.setSide _ _
theorem PoolOk.take (h : PoolOk f P μ) (k : Int) : PoolOk f P (μ.take f i s k).1 := by
  rw [take_eq]
  split
  · exact h
  · unfold takeT
    split
    · exact h
    · split
      · exact h.setSide _ _
      · exact h
    · exact h
def MS.sideAt (μ : MS) (a : Int) : Option Sd := if 0 ≤ a then μ.sides[a.toNat]? else none
noncomputable def MS.act (f : Int → List UInt8) (P : Int → Prop) (μ : MS) (i : Nat) (s : Sd) (kind b c : Int) : MS × Int :=
  if kind = 2 then μ.speak f P i s else if kind = 3 then μ.hear f i s b c else if kind = 4 then μ.say f P i s b else μ.take f i s b
noncomputable def MS.honest (f : Int → List UInt8) (P : Int → Prop) (μ : MS) (kind a b c : Int) : MS × Int :=
  match μ.sideAt a with
  | none => (μ, 1)
  | some s => μ.act f P a.toNat s kind b c
def TurnT (t : Tg) : Prop := ∃ i, SpeakT i t
/-- What a turn leaves. -/
def Left (f : Int → List UInt8) (P : Int → Prop) (w0 W w' : World) (own : Nat → Option Tg) (m : MB) (μ2 : MS) : Prop :=
  ∃ own2 m2 v2, MAt f P w0 w' own2 m2 μ2 v2 ∧ Core m m2 ∧ PoolOk f P μ2 ∧ Kept own TurnT W w' ∧ Owns W own own2
theorem honest_none {a : Int} (h : μ.sideAt a = none) (kind b c : Int) : μ.honest f P kind a b c = (μ, 1) := by unfold MS.honest; rw [h]
theorem honest_some {a : Int} (h : μ.sideAt a = some s) (kind b c : Int) : μ.honest f P kind a b c = μ.act f P a.toNat s kind b c := by unfold MS.honest; rw [h]
theorem sideAt_none {a : Int} (hl : m.sd.length = μ.sides.length) (h : μ.sideAt a = none) : sideAt m a = .pointer none := by
  unfold MS.sideAt at h
  unfold sideAt
  rw [if_neg]
  rintro ⟨h1, h2⟩
  rw [if_pos h1, List.getElem?_eq_none_iff] at h
  omega
theorem sideAt_some {a : Int} (hl : m.sd.length = μ.sides.length) (h : μ.sideAt a = some s) : ∃ x, m.sd[a.toNat]? = some x ∧ μ.sides[a.toNat]? = some s ∧ sideAt m a = ptr x.b ∧ 0 ≤ a := by
  unfold MS.sideAt at h
  split at h
  · rename_i h1
    have h2 := (List.getElem?_eq_some_iff.1 h).1
    have h3 : a.toNat < m.sd.length := by omega
    refine ⟨m.sd[a.toNat], List.getElem?_eq_getElem h3, h, ?_, h1⟩
    unfold sideAt
    rw [if_pos (by omega), List.getD_eq_getElem?_getD, List.getElem?_eq_getElem h3]
    rfl
  · cases h

theorem Left.of (h : MAt f P w0 W own m μ v) (he : Ext W W2) (hl : Left f P w0 W2 W3 own m μ2) : Left f P w0 W W3 own m μ2 := by
  obtain ⟨own2, m2, v2, h1, h2, h3, h4, h5⟩ := hl
  have hk := Kept.of (T := TurnT) (Same.of_ext he) (fun b t hb => (h.owns b t hb).2)
  exact ⟨own2, m2, v2, h1, h2, h3, hk.trans (Owns.refl _ _) h4, (Owns.refl W own).trans h5 hk.size⟩
theorem Left.same (h : MAt f P w0 W own m μ v) (hp : PoolOk f P μ) (he : Ext W W2) : Left f P w0 W W2 own m μ :=
  ⟨own, m, v, h.later he, Core.refl _, hp, Kept.of (Same.of_ext he) (fun b t hb => (h.owns b t hb).2), Owns.refl _ _⟩
theorem speak_left {x : SB} (N : Nums f P) (hI : Itoa w0 Small f) (h : MAt f P w0 W own m μ v) (hp : PoolOk f P μ) (hx : m.sd[i]? = some x) (hs : μ.sides[i]? = some s) (hok : Fit P s) :
    Calls Tryz.prog 41 #[ptr m.wb, ptr x.b] W fun e w' => e = .returned (.int .i64 (μ.speak f P i s).2) ∧ Left f P w0 W w' own m (μ.speak f P i s).1 := by
  refine (speak_any N hI h hp hx hs hok.ok).mono ?_
  rintro e w' ⟨h1, own2, m2, v2, h2, h3, h4, h5, h6⟩
  exact ⟨h1, own2, m2, v2, h2, h3, h4, h5.mono (fun t ht => ⟨i, ht⟩), h6⟩
theorem hear_left {x : SB} (N : Nums f P) (b c : Int) (hI : Itoa w0 Small f) (h : MAt f P w0 W own m μ v) (hp : PoolOk f P μ) (hx : m.sd[i]? = some x) (hs : μ.sides[i]? = some s) (hok : Fit P s) (hcb : -1000000 ≤ c ∧ c ≤ 1000000) :
    Calls Tryz.prog 42 #[ptr m.wb, .int .i64 i, .int .i64 b, .int .i64 c] W fun e w' => e = .returned (.int .i64 (μ.hear f i s b c).2) ∧ Left f P w0 W w' own m (μ.hear f i s b c).1 := by
  refine (hear_any N b c hI h hp hx hs hok.gh hok.ok.s0 hok.ok.s3 hok.ok.op hok.theirs hcb).mono ?_
  rintro e w' ⟨h1, h2, h3⟩
  exact ⟨h1, own, m, v, h2, Core.refl _, hp.hear b c, h3.mono (fun t ht => ⟨i, .inr ht⟩), Owns.refl _ _⟩
theorem say_left {x : SB} (N : Nums f P) (n : Int) (hI : Itoa w0 Small f) (h : MAt f P w0 W own m μ v) (hp : PoolOk f P μ) (hx : m.sd[i]? = some x) (hs : μ.sides[i]? = some s) (hok : Fit P s) :
    Calls Tryz.prog 43 #[ptr m.wb, ptr x.b, .int .i64 n] W fun e w' => e = .returned (.int .i64 (μ.say f P i s n).2) ∧ Left f P w0 W w' own m (μ.say f P i s n).1 := by
  refine (say_any N n hI h hp hx hs hok.gh.gd.chain hok.sent hok.said (hok.box n)).mono ?_
  rintro e w' ⟨h1, own2, m2, v2, h2, h3, h4, h5, h6⟩
  exact ⟨h1, own2, m2, v2, h2, h3, h4, h5.mono (fun t ht => ⟨i, ht⟩), h6⟩
theorem take_left {x : SB} (N : Nums f P) (k : Int) (hI : Itoa w0 Small f) (h : MAt f P w0 W own m μ v) (hp : PoolOk f P μ) (hx : m.sd[i]? = some x) (hs : μ.sides[i]? = some s) (hok : Fit P s) :
    Calls Tryz.prog 44 #[ptr m.wb, ptr x.b, .int .i64 k] W fun e w' => e = .returned (.int .i64 (μ.take f i s k).2) ∧ Left f P w0 W w' own m (μ.take f i s k).1 := by
  refine (take_any N k hI h hp hx hs hok.gh.gd.chain hok.key hok.ksz hok.got hok.took).mono ?_
  rintro e w' ⟨h1, own2, m2, h2, h3, h4, h5⟩
  exact ⟨h1, own2, m2, v, h2, h3, hp.take k, h4.mono (fun t ht => ⟨i, .inr ht⟩), h5⟩

set_option maxHeartbeats 8000000 in
set_option maxRecDepth 100000 in
theorem honest_any (N : Nums f P) (kind a b c : Int) (hI : Itoa w0 Small f) (h : MAt f P w0 W own m μ v) (hp : PoolOk f P μ) (hfit : ∀ s, μ.sideAt a = some s → Fit P s) (hcb : -1000000 ≤ c ∧ c ≤ 1000000) :
    Calls Tryz.prog 31 #[ptr m.wb, .agg #[.int .i64 kind, .int .i64 a, .int .i64 b, .int .i64 c]] W fun e w' => e = .returned (.int .i64 (μ.honest f P kind a b c).2) ∧ Left f P w0 W w' own m (μ.honest f P kind a b c).1 := by
  have HM := hid h
  have HP := hid hp
  have HF := hid hfit
  have HI := hid hI
  have HN := hid N
  clear h hp hfit hI N
  go_enter Tryz.func31, Tryz.ntmps31
  go_upto_region 1 with fail
  have HE := hid (Ext.alloc W (.cells #[.int .i64 kind, .int .i64 a, .int .i64 b, .int .i64 c] 39 (0, 0)))
  have d0 : (W.alloc (.cells #[.int .i64 kind, .int .i64 a, .int .i64 b, .int .i64 c] 39 (0, 0))).cell? ⟨W.heap.size, 0, none⟩ = some (.int .i64 kind) := cell_new rfl
  have d1 : (W.alloc (.cells #[.int .i64 kind, .int .i64 a, .int .i64 b, .int .i64 c] 39 (0, 0))).cell? ⟨W.heap.size, 1, none⟩ = some (.int .i64 a) := cell_new rfl
  have d2 : (W.alloc (.cells #[.int .i64 kind, .int .i64 a, .int .i64 b, .int .i64 c] 39 (0, 0))).cell? ⟨W.heap.size, 2, none⟩ = some (.int .i64 b) := cell_new rfl
  have d3 : (W.alloc (.cells #[.int .i64 kind, .int .i64 a, .int .i64 b, .int .i64 c] 39 (0, 0))).cell? ⟨W.heap.size, 3, none⟩ = some (.int .i64 c) := cell_new rfl
  generalize World.alloc W _ = W1 at *
  generalize W.heap.size = q at *
  have hside := side_any a (HM.out.later HE.out)
  cases ha : μ.sideAt a with
  | none =>
    rw [sideAt_none HM.out.len ha] at hside
    have HS := hid hside
    have HEQ : Hid (μ.honest f P kind a b c = (μ, 1)) := hid (honest_none ha _ _ _)
    clear hside ha
    go_wp2_with fail
    refine HS.out.mono ?_
    rintro e w1 ⟨rfl, rfl⟩
    go_wp2_with fail
    go_ret
    rw [HEQ.out]
    exact ⟨rfl, Left.same HM.out HP.out HE.out⟩
  | some s =>
    obtain ⟨x, hx, hs, hsa, h0⟩ := sideAt_some HM.out.len ha
    have HFIT := hid (HF.out s ha)
    have HEQ : Hid (μ.honest f P kind a b c = μ.act f P a.toNat s kind b c) := hid (honest_some ha _ _ _)
    rw [hsa] at hside
    obtain ⟨i, rfl⟩ := Int.eq_ofNat_of_zero_le h0
    rw [Int.toNat_natCast] at hx hs HEQ
    have HS := hid hside
    have HX := hid hx
    have HSS := hid hs
    clear hside ha hsa h0 hx hs HF
    by_cases k2 : kind = 2
    · subst k2
      have HSP := hid (speak_left HN.out HI.out (HM.out.later HE.out) HP.out HX.out HSS.out HFIT.out)
      have HEQ2 : Hid (μ.honest f P 2 i b c = μ.speak f P i s) := hid (HEQ.out.trans (if_pos rfl))
      go_wp2_with fail
      refine HS.out.mono ?_
      rintro e w1 ⟨rfl, rfl⟩
      go_wp2_with fail
      refine HSP.out.mono ?_
      rintro e w1 ⟨rfl, hl⟩
      have HL := hid (Left.of HM.out HE.out hl)
      clear hl HSP
      go_wp2_with fail
      go_ret
      rw [HEQ2.out]
      exact ⟨rfl, HL.out⟩
    · by_cases k3 : kind = 3
      · subst k3
        have HSP := hid (hear_left HN.out b c HI.out (HM.out.later HE.out) HP.out HX.out HSS.out HFIT.out hcb)
        have HEQ2 : Hid (μ.honest f P 3 i b c = μ.hear f i s b c) := hid (HEQ.out.trans rfl)
        clear k2
        go_wp2_with fail
        refine HS.out.mono ?_
        rintro e w1 ⟨rfl, rfl⟩
        go_wp2_with fail
        refine HSP.out.mono ?_
        rintro e w1 ⟨rfl, hl⟩
        have HL := hid (Left.of HM.out HE.out hl)
        clear hl HSP
        go_wp2_with fail
        go_ret
        rw [HEQ2.out]
        exact ⟨rfl, HL.out⟩
      · by_cases k4 : kind = 4
        · subst k4
          have HSP := hid (say_left HN.out b HI.out (HM.out.later HE.out) HP.out HX.out HSS.out HFIT.out)
          have HEQ2 : Hid (μ.honest f P 4 i b c = μ.say f P i s b) := hid (HEQ.out.trans rfl)
          clear k2 k3
          go_wp2_with fail
          refine HS.out.mono ?_
          rintro e w1 ⟨rfl, rfl⟩
          go_wp2_with fail
          refine HSP.out.mono ?_
          rintro e w1 ⟨rfl, hl⟩
          have HL := hid (Left.of HM.out HE.out hl)
          clear hl HSP
          go_wp2_with fail
          go_ret
          rw [HEQ2.out]
          exact ⟨rfl, HL.out⟩
        · have HSP := hid (take_left HN.out b HI.out (HM.out.later HE.out) HP.out HX.out HSS.out HFIT.out)
          have HEQ2 : Hid (μ.honest f P kind i b c = μ.take f i s b) := hid (HEQ.out.trans (by unfold MS.act; rw [if_neg k2, if_neg k3, if_neg k4]))
          go_wp2_with fail
          refine HS.out.mono ?_
          rintro e w1 ⟨rfl, rfl⟩
          go_wp2_with fail
          refine HSP.out.mono ?_
          rintro e w1 ⟨rfl, hl⟩
          have HL := hid (Left.of HM.out HE.out hl)
          clear hl HSP
          go_wp2_with fail
          go_ret
          rw [HEQ2.out]
          exact ⟨rfl, HL.out⟩

end Go.Proofs.YtjodmedgkmeklaaGreat

/-
  What a world tells: Base, Pool.
-/
namespace Go.Proofs.YtjodmedgkmeklaaGreat
open Go Go.RowKit Go.Maps
attribute [local go_sem] extUpon run_store_tm
attribute [local go_sem ↓] Tm.val_cell eval_put_ne eval_put_none eval_put_same size_put eval_const
attribute [local go_sem ↓] meth_Atom meth_Public meth_Shared meth_Chain meth_Digest meth_Box meth_Empty
attribute [local go_sem ↓] run_build_chain run_build_digest run_build_box
attribute [local go_sem] ta_Atom_Atom ta_Public_Atom ta_Shared_Atom ta_Chain_Atom ta_Digest_Atom ta_Box_Atom ta_Empty_Atom ta_Nil_Atom ta_Atom_Public ta_Public_Public ta_Shared_Public ta_Chain_Public ta_Digest_Public ta_Box_Public ta_Empty_Public ta_Nil_Public ta_Atom_Shared ta_Public_Shared ta_Shared_Shared ta_Chain_Shared ta_Digest_Shared ta_Box_Shared ta_Empty_Shared ta_Nil_Shared ta_Atom_Chain ta_Public_Chain ta_Shared_Chain ta_Chain_Chain ta_Digest_Chain ta_Box_Chain ta_Empty_Chain ta_Nil_Chain ta_Atom_Digest ta_Public_Digest ta_Shared_Digest ta_Chain_Digest ta_Digest_Digest ta_Box_Digest ta_Empty_Digest ta_Nil_Digest ta_Atom_Box ta_Public_Box ta_Shared_Box ta_Chain_Box ta_Digest_Box ta_Box_Box ta_Empty_Box ta_Nil_Box ta_Atom_Empty ta_Public_Empty ta_Shared_Empty ta_Chain_Empty ta_Digest_Empty ta_Box_Empty ta_Empty_Empty ta_Nil_Empty
variable {f : Int → List UInt8} {P : Int → Prop} {w0 w W W2 W3 : World} {own own2 : Nat → Option Tg} {m m2 : MB} {μ μ2 : MS} {v v2 : KV} {i : Nat} {s : Sd}

set_option maxRecDepth 100000 in
theorem base_any (h : MAt f P w0 W own m μ v) :
    Calls Tryz.prog 20 #[ptr m.wb] W fun e w' => e = .returned (ptr m.k.kb) ∧ W = w' := by
  have c4 : W.cell? ⟨m.wb, 4, none⟩ = some (ptr m.k.kb) := cell_blk h.blk rfl
  clear h
  go_enter Tryz.func20, Tryz.ntmps20
  go_wp2_with fail
  go_ret
  exact ⟨rfl, rfl⟩
set_option maxRecDepth 100000 in
theorem leaked_any (h : MAt f P w0 W own m μ v) (a : Int) (ha : IntOk a) :
    Calls Tryz.prog 14 #[ptr m.wb, .int .i64 a] W fun e w' => e = .returned (.bool (decide (a ∈ μ.leaked))) ∧ W = w' := by
  have c5 : W.cell? ⟨m.wb, 5, none⟩ = some (.map (some m.lb)) := cell_blk h.blk rfl
  have hrun : (Instr.lookup 62 (.map (some m.lb)) (.int .i64 a) false).run Tryz.prog W = .ok (.bool (decide (a ∈ μ.leaked))) W := by
    refine (h.lk.get (a := a) ha).trans ?_
    by_cases hm : a ∈ μ.leaked
    · simp [flag, hm]; rfl
    · simp [flag, hm]; rfl
  clear h
  go_enter Tryz.func14, Tryz.ntmps14
  go_wp2_with fail
  go_ret
  exact ⟨rfl, rfl⟩
/-- A row is copied behind an empty one. -/
theorem wpl_copy {rest : List Oper} {ops : Array Oper} {o : Oper} {a : Act} {w : World} {Q : Exit → Act → World → Prop} (x y : Operand) (hg : o.guard = none) (ho : o.op = .call { callee := .builtin .append, args := #[x, y], argTypes := #[40, 40] })
    (B : Nat) (v : Value) (hs : a.eval x = v) (hown : w.ownsRow B 29 1 v 0 []) (g n c : Nat) (xs : List Value) (hx : a.eval y = .slice (some ⟨g, 0, none⟩) n c) (hc : ∀ j u, xs[j]? = some u → w.cell? ⟨g, j, none⟩ = some u) (h1 : ∀ u ∈ xs, u.oneCell' = true) (hl : xs.length = n) (hn : 0 < n) (hb : n ≤ 1000) (hB : B ≤ w.heap.size)
    (h : ∀ v' w', w'.ownsRow B 29 1 v' n xs → w.grownBy w' v.ownBlock → wpList Tryz.prog ops Q rest (a.put o.dst v') w') : wpList Tryz.prog ops Q (o :: rest) a w := by
  have i9 : (Tryz.prog.info? 29).map (fun i => (i.zero, i.size, i.bytes)) = some (some .nilIface, 1, 16) := by kernel_rfl
  obtain ⟨j0, hi, hz0, hz1, hz2⟩ := info_parts i9
  refine wpList_append_lies w hg x y _ ho B 29 j0 .nilIface 1 16 Tryz.underlying40 hi hz0 hz1 hz2 rfl (by omega) v 0 [] hs hown ⟨g, 0, none⟩ n c xs hx (by omega) (fun j u hu => ?_) h1 hn (by unfold maxLen; omega) (by omega) hB w.heap.size rfl ?_
  · have := hc j u hu
    by_cases hj : j = 0
    · subst hj; simpa [Addr.add] using this
    · simpa [Addr.add, hj] using this
  · intro g2 cap2 w2 h2 h3 _ _
    rw [Nat.zero_add, List.nil_append] at h2
    have := h _ w2 h2 h3
    rw [Nat.zero_add]
    exact this
theorem own_none (W : World) : (W.alloc (.cells #[] 29 (0, 0))).ownsRow W.heap.size 29 1 (.slice (some ⟨W.heap.size, 0, none⟩) 0 0) 0 [] :=
  ⟨rfl, .inr ⟨_, _, _, rfl, Nat.le_refl _, blk_new _ _, by simp, by simp, by simp, by simp⟩⟩
theorem one_val (t : Tm) : t.val.oneCell' = true := by cases t <;> rfl
set_option maxHeartbeats 4000000 in
set_option maxRecDepth 100000 in
theorem pool_any (h : MAt f P w0 W own m μ v) (h1 : 0 < μ.pool.length) (h2 : μ.pool.length ≤ 1000) :
    Calls Tryz.prog 18 #[ptr m.wb] W fun e w' => ∃ a c, e = .returned (.slice a μ.pool.length c) ∧ Rd w' a (μ.pool.map Tm.val) ∧ Ext W w' := by
  obtain ⟨pa, pc, hpv, hpc, hrd⟩ := own_rd h.pl
  have c2 : W.cell? ⟨m.wb, 2, none⟩ = some (.slice pa μ.pool.length pc) := hpv ▸ cell_blk h.blk rfl
  obtain ⟨g, rfl, hg, hcell⟩ := hrd (by simpa using h1)
  have HA := hid (Ext.alloc W (.cells #[] 29 (0, 0)))
  have HO := hid (own_none W)
  have HC := hid hcell
  have c2 := HA.out.cell c2
  have HV : Hid (∀ u ∈ μ.pool.map Tm.val, u.oneCell' = true) := hid (by intro u hu; obtain ⟨t, _, rfl⟩ := List.mem_map.1 hu; exact one_val t)
  clear h hrd hpv hcell
  go_enter Tryz.func18, Tryz.ntmps18
  go_wp2_with (first
    | (at_builtin; refine wpl_copy (.tmp 3) (.tmp 7) rfl rfl W.heap.size _ (by rfl) HO.out g μ.pool.length pc (μ.pool.map Tm.val) (by rfl) (fun j u hu => HA.out.cell (HC.out j u hu)) HV.out (List.length_map _) h1 h2 (by simp) ?_; intro v' w2 hown hgrow))
  have hE : Ext W w2 := ext_grown HA.out HO.out (Nat.le_refl _) hgrow
  obtain ⟨a', c', hv, _, hrd2⟩ := own_rd hown
  subst hv
  have HR := hid (And.intro hrd2 hE)
  clear hown hgrow hrd2 hE
  go_wp2_with fail
  go_ret
  exact ⟨_, _, rfl, HR.out.1, HR.out.2⟩

end Go.Proofs.YtjodmedgkmeklaaGreat

/-
  What a world tells: Accepted, Said.
-/
namespace Go.Proofs.YtjodmedgkmeklaaGreat
open Go Go.RowKit Go.Maps
attribute [local go_sem] extUpon run_store_tm
attribute [local go_sem ↓] Tm.val_cell eval_put_ne eval_put_none eval_put_same size_put eval_const
attribute [local go_sem ↓] meth_Atom meth_Public meth_Shared meth_Chain meth_Digest meth_Box meth_Empty
attribute [local go_sem ↓] run_build_chain run_build_digest run_build_box
attribute [local go_sem] ta_Atom_Atom ta_Public_Atom ta_Shared_Atom ta_Chain_Atom ta_Digest_Atom ta_Box_Atom ta_Empty_Atom ta_Nil_Atom ta_Atom_Public ta_Public_Public ta_Shared_Public ta_Chain_Public ta_Digest_Public ta_Box_Public ta_Empty_Public ta_Nil_Public ta_Atom_Shared ta_Public_Shared ta_Shared_Shared ta_Chain_Shared ta_Digest_Shared ta_Box_Shared ta_Empty_Shared ta_Nil_Shared ta_Atom_Chain ta_Public_Chain ta_Shared_Chain ta_Chain_Chain ta_Digest_Chain ta_Box_Chain ta_Empty_Chain ta_Nil_Chain ta_Atom_Digest ta_Public_Digest ta_Shared_Digest ta_Chain_Digest ta_Digest_Digest ta_Box_Digest ta_Empty_Digest ta_Nil_Digest ta_Atom_Box ta_Public_Box ta_Shared_Box ta_Chain_Box ta_Digest_Box ta_Box_Box ta_Empty_Box ta_Nil_Box ta_Atom_Empty ta_Public_Empty ta_Shared_Empty ta_Chain_Empty ta_Digest_Empty ta_Box_Empty ta_Empty_Empty ta_Nil_Empty
variable {f : Int → List UInt8} {P : Int → Prop} {w0 w W W2 W3 : World} {own own2 : Nat → Option Tg} {m m2 : MB} {μ μ2 : MS} {v v2 : KV} {i : Nat} {s : Sd}

theorem app_none (q c : Nat) (b : Option Addr) (w : World) : (Builtin.append_ #[40, 40] 40 #[.slice (some ⟨q, 0, none⟩) 0 0, .slice b 0 c]).run Tryz.prog w = .ok (.slice (some ⟨q, 0, none⟩) 0 0) w := by
  have i9 : (Tryz.prog.info? 29).map (fun i => (i.zero, i.size, i.bytes)) = some (some .nilIface, 1, 16) := by kernel_rfl
  obtain ⟨j0, hi, hz0, hz1, hz2⟩ := info_parts i9
  have hu : Tryz.prog.underlying 40 = some (.slice 29) := Tryz.underlying40
  cases b with
  | none => simp [Builtin.append_, run_underlying hu, sizeOf, typeInfo, hi, Builtin.lenOf, Builtin.firstCells, storeCells, loadCells, loadCellsFrom, Addr.add]
  | some b => simp [Builtin.append_, run_underlying hu, sizeOf, typeInfo, hi, Builtin.lenOf, Builtin.firstCells, storeCells, loadCells, loadCellsFrom, Addr.add]

theorem wpl_copy0 {rest : List Oper} {ops : Array Oper} {o : Oper} {a : Act} {w : World} {Q : Exit → Act → World → Prop} (x y : Operand) (hg : o.guard = none) (ho : o.op = .call { callee := .builtin .append, args := #[x, y], argTypes := #[40, 40] }) (hty : o.type = 40)
    (q c : Nat) (b : Option Addr) (hs : a.eval x = .slice (some ⟨q, 0, none⟩) 0 0) (hx : a.eval y = .slice b 0 c)
    (h : wpList Tryz.prog ops Q rest (a.put o.dst (.slice (some ⟨q, 0, none⟩) 0 0)) w) : wpList Tryz.prog ops Q (o :: rest) a w :=
  wpList_plain hg fun K hK => by
    unfold Oper.wp execOp
    simp only [ho, hty, resolve, invoke, builtin, Sem.run_bind, Sem.run_pure, Result.andThen_ok, List.map_toArray, List.map_cons, List.map_nil, hs, hx, app_none]
    exact hK _ _ h
def tookAt (μ : MS) (k : Int) : List Tm := match μ.sideAt k with | some s => s.took | none => []
def saidAt (μ : MS) (k : Int) : List Tm := match μ.sideAt k with | some s => s.said | none => []

set_option maxHeartbeats 4000000 in
set_option maxRecDepth 100000 in
theorem said_any (k : Int) (h : MAt f P w0 W own m μ v) (hlen : ∀ s, μ.sideAt k = some s → s.said.length ≤ 1000) :
    Calls Tryz.prog 23 #[ptr m.wb, .int .i64 k] W fun e w' => ∃ a c, e = .returned (.slice a (saidAt μ k).length c) ∧ Rd w' a ((saidAt μ k).map Tm.val) ∧ Ext W w' := by
  unfold saidAt
  have HM := hid h
  cases ha : μ.sideAt k with
  | none =>
    have hside := side_any k h
    rw [sideAt_none h.len ha] at hside
    have HS := hid hside
    clear hside ha h hlen
    go_enter Tryz.func23, Tryz.ntmps23
    go_wp2_with fail
    refine HS.out.mono ?_
    rintro e w1 ⟨rfl, rfl⟩
    go_wp2_with fail
    go_ret
    exact ⟨_, _, rfl, fun h5 => (by simp at h5), Ext.refl _⟩
  | some s =>
    have hside := side_any k h
    obtain ⟨x, hx, hs, hsa, h0⟩ := sideAt_some h.len ha
    rw [hsa] at hside
    have hsd := h.side _ x s hx hs
    obtain ⟨pa, pc, hpv, hpc, hrd⟩ := own_rd hsd.said
    have HS := hid hside
    have HA := hid (Ext.alloc W (.cells #[] 29 (0, 0)))
    have HO := hid (own_none W)
    have hlen := hlen s ha
    have HCE : Hid ((W.alloc (.cells #[] 29 (0, 0))).cell? ⟨x.b, 15, none⟩ = some (.slice pa s.said.length pc)) := hid (HA.out.cell (hpv ▸ hsd.at_.cell rfl))
    have HRD := hid hrd
    clear hside hx hs hsa hsd hpv hrd h0 h HM
    by_cases h1 : 0 < s.said.length
    · obtain ⟨g, rfl, hg, hcell⟩ := HRD.out (by simpa using h1)
      have HC := hid hcell
      have c2 := HCE.out
      have HV : Hid (∀ u ∈ s.said.map Tm.val, u.oneCell' = true) := hid (by intro u hu; obtain ⟨t, _, rfl⟩ := List.mem_map.1 hu; exact one_val t)
      clear hcell ha
      go_enter Tryz.func23, Tryz.ntmps23
      go_wp2_with fail
      refine HS.out.mono ?_
      rintro e w1 ⟨rfl, rfl⟩
      go_wp2_with (first
        | (at_builtin; refine wpl_copy (.tmp 11) (.tmp 15) rfl rfl W.heap.size _ (by rfl) HO.out g s.said.length pc (s.said.map Tm.val) (by rfl) (fun j u hu => HA.out.cell (HC.out j u hu)) HV.out (List.length_map _) h1 hlen (by simp) ?_; intro v' w2 hown hgrow))
      have hE : Ext W w2 := ext_grown HA.out HO.out (Nat.le_refl _) hgrow
      obtain ⟨a', c', hv, _, hrd2⟩ := own_rd hown
      subst hv
      have HR := hid (And.intro hrd2 hE)
      clear hown hgrow hrd2 hE
      go_wp2_with fail
      go_ret
      exact ⟨_, _, rfl, HR.out.1, HR.out.2⟩
    · have hz : s.said.length = 0 := by omega
      have c2 := HCE.out
      rw [hz] at c2
      have hnil : s.said = [] := List.eq_nil_of_length_eq_zero hz
      show Calls _ _ _ _ fun e w' => ∃ a c, e = .returned (.slice a s.said.length c) ∧ Rd w' a (s.said.map Tm.val) ∧ Ext W w'
      rw [hnil]
      clear ha HCE hz hnil
      go_enter Tryz.func23, Tryz.ntmps23
      go_wp2_with fail
      refine HS.out.mono ?_
      rintro e w1 ⟨rfl, rfl⟩
      go_wp2_with (first
        | (at_builtin; refine wpl_copy0 (.tmp 11) (.tmp 15) rfl rfl rfl W.heap.size pc pa (by rfl) (by rfl) ?_))
      go_ret
      exact ⟨_, _, rfl, fun h5 => (by simp at h5), HA.out⟩
set_option maxHeartbeats 4000000 in
set_option maxRecDepth 100000 in
theorem accepted_any (k : Int) (h : MAt f P w0 W own m μ v) (hlen : ∀ s, μ.sideAt k = some s → s.took.length ≤ 1000) :
    Calls Tryz.prog 26 #[ptr m.wb, .int .i64 k] W fun e w' => ∃ a c, e = .returned (.slice a (tookAt μ k).length c) ∧ Rd w' a ((tookAt μ k).map Tm.val) ∧ Ext W w' := by
  unfold tookAt
  have HM := hid h
  cases ha : μ.sideAt k with
  | none =>
    have hside := side_any k h
    rw [sideAt_none h.len ha] at hside
    have HS := hid hside
    clear hside ha h hlen
    go_enter Tryz.func26, Tryz.ntmps26
    go_wp2_with fail
    refine HS.out.mono ?_
    rintro e w1 ⟨rfl, rfl⟩
    go_wp2_with fail
    go_ret
    exact ⟨_, _, rfl, fun h5 => (by simp at h5), Ext.refl _⟩
  | some s =>
    have hside := side_any k h
    obtain ⟨x, hx, hs, hsa, h0⟩ := sideAt_some h.len ha
    rw [hsa] at hside
    have hsd := h.side _ x s hx hs
    obtain ⟨pa, pc, hpv, hpc, hrd⟩ := own_rd hsd.took
    have HS := hid hside
    have HA := hid (Ext.alloc W (.cells #[] 29 (0, 0)))
    have HO := hid (own_none W)
    have hlen := hlen s ha
    have HCE : Hid ((W.alloc (.cells #[] 29 (0, 0))).cell? ⟨x.b, 16, none⟩ = some (.slice pa s.took.length pc)) := hid (HA.out.cell (hpv ▸ hsd.at_.cell rfl))
    have HRD := hid hrd
    clear hside hx hs hsa hsd hpv hrd h0 h HM
    by_cases h1 : 0 < s.took.length
    · obtain ⟨g, rfl, hg, hcell⟩ := HRD.out (by simpa using h1)
      have HC := hid hcell
      have c2 := HCE.out
      have HV : Hid (∀ u ∈ s.took.map Tm.val, u.oneCell' = true) := hid (by intro u hu; obtain ⟨t, _, rfl⟩ := List.mem_map.1 hu; exact one_val t)
      clear hcell ha
      go_enter Tryz.func26, Tryz.ntmps26
      go_wp2_with fail
      refine HS.out.mono ?_
      rintro e w1 ⟨rfl, rfl⟩
      go_wp2_with (first
        | (at_builtin; refine wpl_copy (.tmp 11) (.tmp 15) rfl rfl W.heap.size _ (by rfl) HO.out g s.took.length pc (s.took.map Tm.val) (by rfl) (fun j u hu => HA.out.cell (HC.out j u hu)) HV.out (List.length_map _) h1 hlen (by simp) ?_; intro v' w2 hown hgrow))
      have hE : Ext W w2 := ext_grown HA.out HO.out (Nat.le_refl _) hgrow
      obtain ⟨a', c', hv, _, hrd2⟩ := own_rd hown
      subst hv
      have HR := hid (And.intro hrd2 hE)
      clear hown hgrow hrd2 hE
      go_wp2_with fail
      go_ret
      exact ⟨_, _, rfl, HR.out.1, HR.out.2⟩
    · have hz : s.took.length = 0 := by omega
      have c2 := HCE.out
      rw [hz] at c2
      have hnil : s.took = [] := List.eq_nil_of_length_eq_zero hz
      show Calls _ _ _ _ fun e w' => ∃ a c, e = .returned (.slice a s.took.length c) ∧ Rd w' a (s.took.map Tm.val) ∧ Ext W w'
      rw [hnil]
      clear ha HCE hz hnil
      go_enter Tryz.func26, Tryz.ntmps26
      go_wp2_with fail
      refine HS.out.mono ?_
      rintro e w1 ⟨rfl, rfl⟩
      go_wp2_with (first
        | (at_builtin; refine wpl_copy0 (.tmp 11) (.tmp 15) rfl rfl rfl W.heap.size pc pa (by rfl) (by rfl) ?_))
      go_ret
      exact ⟨_, _, rfl, fun h5 => (by simp at h5), HA.out⟩

end Go.Proofs.YtjodmedgkmeklaaGreat

/-
  portholelaw14.has: is a term of some name among some?
-/
namespace Go.Proofs.YtjodmedgkmeklaaGreat
open Go Go.RowKit Go.Maps
attribute [local go_sem] extUpon run_store_tm
attribute [local go_sem ↓] Tm.val_cell eval_put_ne eval_put_none eval_put_same size_put eval_const
attribute [local go_sem ↓] meth_Atom meth_Public meth_Shared meth_Chain meth_Digest meth_Box meth_Empty
attribute [local go_sem ↓] run_build_chain run_build_digest run_build_box
attribute [local go_sem] ta_Atom_Atom ta_Public_Atom ta_Shared_Atom ta_Chain_Atom ta_Digest_Atom ta_Box_Atom ta_Empty_Atom ta_Nil_Atom ta_Atom_Public ta_Public_Public ta_Shared_Public ta_Chain_Public ta_Digest_Public ta_Box_Public ta_Empty_Public ta_Nil_Public ta_Atom_Shared ta_Public_Shared ta_Shared_Shared ta_Chain_Shared ta_Digest_Shared ta_Box_Shared ta_Empty_Shared ta_Nil_Shared ta_Atom_Chain ta_Public_Chain ta_Shared_Chain ta_Chain_Chain ta_Digest_Chain ta_Box_Chain ta_Empty_Chain ta_Nil_Chain ta_Atom_Digest ta_Public_Digest ta_Shared_Digest ta_Chain_Digest ta_Digest_Digest ta_Box_Digest ta_Empty_Digest ta_Nil_Digest ta_Atom_Box ta_Public_Box ta_Shared_Box ta_Chain_Box ta_Digest_Box ta_Box_Box ta_Empty_Box ta_Nil_Box ta_Atom_Empty ta_Public_Empty ta_Shared_Empty ta_Chain_Empty ta_Digest_Empty ta_Box_Empty ta_Empty_Empty ta_Nil_Empty
variable {f : Int → List UInt8} {P : Int → Prop} {w0 w W W2 W3 : World}

set_option maxHeartbeats 4000000 in
set_option maxRecDepth 100000 in
theorem lhas_any {l : List Tm} {la : Option Addr} {lc : Nat} {t : Tm} (hI : Itoa W Small f) (hl : ∀ x ∈ l, x ≠ .non ∧ x.all Small ∧ sz x ≤ 10000) (ht : t ≠ .non ∧ t.all Small ∧ sz t ≤ 10000) (hll : l.length ≤ 1000) (hrd : Rd W la (l.map Tm.val)) :
    Calls Tryz.prog 24 #[.slice la l.length lc, t.val] W fun e w' => e = .returned (.bool (names f l (nm f t))) ∧ Ext W w' := by
  obtain ⟨u, hu, hme, hen⟩ := t.iface ht.1
  have HTM : Hid (∀ W', Ext W W' → Calls Tryz.prog t.nf #[t.arg] W' fun e w' => e = .returned (str (nm f t)) ∧ Ext W' w') := hid (fun W' hW => call_name t W ht.1 hI ht.2.1 ht.2.2 W' hW)
  have HI := hid hI
  have HL := hid hl
  have HRD := hid hrd
  rw [hu]
  clear hI hl hrd hu ht
  generalize t.nf = tf at *
  generalize t.arg = td at *
  generalize nm f t = tn at *
  go_enter Tryz.func24, Tryz.ntmps24
  go_wp2_with fail
  go_loopw [5] (fun iv wr => ∃ j : Nat, iv = .int .i64 j ∧ j ≤ l.length ∧ Hid (Ext W wr) ∧ Hid (names f (l.take j) tn = false)) (fun iv _ => l.length - (intOf iv).toNat)
  case atStart => exact ⟨0, rfl, by omega, hid (Ext.refl _), hid (by simp [names])⟩
  case round =>
    obtain ⟨j, rfl, hj, HX, HZ⟩ := hrel
    by_cases hlt : j < l.length
    · have hlt2 : (j : Int) < (l.length : Int) := by omega
      obtain ⟨g, rfl, _, hcell⟩ := HRD.out (by simp; omega)
      have hlj := HL.out l[j] (List.getElem_mem hlt)
      obtain ⟨u2, hu2, hme2, hen2⟩ := l[j].iface hlj.1
      have q0 : wr.cell? ⟨g, j, none⟩ = some (.iface u2 l[j].arg) := HX.out.cell (hcell j _ (by rw [List.getElem?_map, List.getElem?_eq_getElem hlt]; simp [hu2]))
      have HNM : Hid (Calls Tryz.prog l[j].nf #[l[j].arg] wr fun e w' => e = .returned (str (nm f l[j])) ∧ Ext wr w') := hid (call_name l[j] W hlj.1 HI.out hlj.2.1 hlj.2.2 wr HX.out)
      have HTK := hid (congrFun (names_take (f := f) hlt) tn)
      have HME := hid (List.mem_map_of_mem (f := nm f) (List.getElem_mem hlt))
      clear hcell hu2 hlj
      generalize l[j].nf = nfv at *
      generalize l[j].arg = d at *
      generalize nm f l[j] = nt at *
      go_wp2_with fail
      refine HNM.out.mono ?_
      rintro e w1 ⟨rfl, hE1⟩
      have HE1 := hid (HX.out.trans hE1)
      clear hE1
      go_wp2_with fail
      refine (HTM.out w1 HE1.out).mono ?_
      rintro e w2 ⟨rfl, hE2⟩
      have HE2 := hid (HE1.out.trans hE2)
      clear hE2
      by_cases he : nt = tn
      · have HQ : Hid (names f l tn = true) := hid (decide_eq_true (he ▸ HME.out))
        subst he
        clear HTK HME
        go_wp2_with fail
        go_ret
        exact ⟨by rw [HQ.out]; rfl, HE2.out⟩
      · have hb : (nt == tn) = false := by simp [he]
        go_wp2_with fail
        go_roundw
        case rel => exact ⟨j + 1, by go_num, by omega, HE2, hid (by rw [HTK.out]; unfold plus; rw [HZ.out]; simp [Ne.symm he])⟩
        case measure => simp [intOf]; omega
    · have hlt2 : ¬ (j : Int) < (l.length : Int) := by omega
      obtain rfl : j = l.length := by omega
      have HQ : Hid (names f l tn = false) := hid (by have := HZ.out; rwa [List.take_length] at this)
      clear HZ
      go_wp2_with fail
      go_ret
      exact ⟨by rw [HQ.out]; rfl, HX.out⟩

end Go.Proofs.YtjodmedgkmeklaaGreat

/-
  A static is leaked: the map of the leaked, and the base's secret.
-/
namespace Go.Proofs.YtjodmedgkmeklaaGreat
open Go Go.RowKit Go.Maps
attribute [local go_sem] extUpon run_store_tm
attribute [local go_sem ↓] Tm.val_cell eval_put_ne eval_put_none eval_put_same size_put eval_const
attribute [local go_sem ↓] meth_Atom meth_Public meth_Shared meth_Chain meth_Digest meth_Box meth_Empty
attribute [local go_sem ↓] run_build_chain run_build_digest run_build_box
attribute [local go_sem] ta_Atom_Atom ta_Public_Atom ta_Shared_Atom ta_Chain_Atom ta_Digest_Atom ta_Box_Atom ta_Empty_Atom ta_Nil_Atom ta_Atom_Public ta_Public_Public ta_Shared_Public ta_Chain_Public ta_Digest_Public ta_Box_Public ta_Empty_Public ta_Nil_Public ta_Atom_Shared ta_Public_Shared ta_Shared_Shared ta_Chain_Shared ta_Digest_Shared ta_Box_Shared ta_Empty_Shared ta_Nil_Shared ta_Atom_Chain ta_Public_Chain ta_Shared_Chain ta_Chain_Chain ta_Digest_Chain ta_Box_Chain ta_Empty_Chain ta_Nil_Chain ta_Atom_Digest ta_Public_Digest ta_Shared_Digest ta_Chain_Digest ta_Digest_Digest ta_Box_Digest ta_Empty_Digest ta_Nil_Digest ta_Atom_Box ta_Public_Box ta_Shared_Box ta_Chain_Box ta_Digest_Box ta_Box_Box ta_Empty_Box ta_Nil_Box ta_Atom_Empty ta_Public_Empty ta_Shared_Empty ta_Chain_Empty ta_Digest_Empty ta_Box_Empty ta_Empty_Empty ta_Nil_Empty
variable {f : Int → List UInt8} {P : Int → Prop} {w0 w W W2 W3 : World} {own own2 : Nat → Option Tg} {m m2 : MB} {μ μ2 : MS} {v v2 : KV}

def leakL (μ : MS) (a : Int) : List Int := if a ∈ μ.leaked then μ.leaked else μ.leaked ++ [a]
theorem leak_eq (a : Int) : μ.leak f P a = if a ∈ μ.statics then (({ μ with leaked := leakL μ a } : MS).learn f P a, 0) else (μ, 1) := rfl
theorem MAt.leakIn {l2 : List Int} (h : MAt f P w0 W own m μ v) (hk : Kept own (fun t => t = .leak) W W2) (hm : MapG CI W2 m.lb (flag (fun n => decide (n ∈ l2))) l2.length) : MAt f P w0 W2 own m { μ with leaked := l2 } v := by
  have hsame : ∀ b t, own b = some t → t ≠ .leak → W2.heap[b]? = W.heap[b]? := fun b t hb ht => hk.same b t hb ht
  exact ⟨(hsame _ _ h.ow (by simp)).trans h.blk, own_keep h.st fun g hg => hsame g _ (h.ost g hg) (by simp), own_keep h.sds fun g hg => hsame g _ (h.osd g hg) (by simp), own_keep h.pl fun g hg => hsame g _ (h.opl g hg) (by simp),
    h.nm.keep (hsame _ _ h.on (by simp)), hm, h.base.keep (fun b hb => by
      rcases hb with rfl | rfl | rfl | rfl
      · exact hsame _ _ h.okb (by simp)
      · exact hsame _ _ h.osb (by simp)
      · exact hsame _ _ h.onb (by simp)
      · exact hsame _ _ h.oab (by simp)), h.len, fun i x s h1 h2 => (h.side i x s h1 h2).keep (fun b t hb ht => hsame b t hb (by rcases ht with rfl | rfl | rfl <;> simp)) (fun _ _ h => h),
    hk.ext h.ext (fun b t hb => (h.owns b t hb).1), fun b t hb => ⟨(h.owns b t hb).1, Nat.lt_of_lt_of_le (h.owns b t hb).2 hk.size⟩, h.ow, h.on, h.ol, h.okb, h.osb, h.onb, h.oab, h.ost, h.osd, h.opl, h.bx, h.bS, h.kc, h.seen⟩
theorem leak_flag (l : List Int) (a : Int) : fset (flag (fun n => decide (n ∈ l))) a true = flag (fun n => decide (n ∈ (if a ∈ l then l else l ++ [a]))) := by
  funext n
  unfold fset flag
  by_cases hn : n = a
  · subst hn
    by_cases h : n ∈ l <;> simp [h]
  · by_cases h : a ∈ l
    · simp [h, hn]
    · simp [h, hn]
theorem leak_store (h : MAt f P w0 W own m μ v) {a : Int} (ha : IntOk a) (hl : μ.leaked.length ≤ 1000) :
    ∃ W2, (Instr.mapUpdate 62 (.map (some m.lb)) (.int .i64 a) (.bool true)).run Tryz.prog W = .ok () W2 ∧ MAt f P w0 W2 own m { μ with leaked := leakL μ a } v ∧ Kept own (fun t => t = .leak) W W2 := by
  obtain ⟨W2, h1, h2, h3⟩ := h.lk.store (a := a) ha (by omega) true
  have hk : Kept own (fun t => t = .leak) W W2 := Kept.of ((Same.of_grown (p := fun b => b ≠ m.lb) h3 (fun b hb e => hb (Option.some.inj e))).mono (fun b hb e => hb .leak (by rw [e]; exact h.ol) rfl)) (fun b t hb => (h.owns b t hb).2)
  refine ⟨W2, h1, h.leakIn hk ?_, hk⟩
  rw [leak_flag] at h2
  unfold leakL
  have hn : (if (flag (fun n => decide (n ∈ μ.leaked)) a).isSome then μ.leaked.length else μ.leaked.length + 1) = (if a ∈ μ.leaked then μ.leaked else μ.leaked ++ [a]).length := by
    unfold flag
    by_cases h5 : a ∈ μ.leaked <;> simp [h5]
  rw [← hn]
  exact h2

end Go.Proofs.YtjodmedgkmeklaaGreat
