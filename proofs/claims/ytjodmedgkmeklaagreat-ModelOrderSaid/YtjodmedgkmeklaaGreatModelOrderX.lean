/-
  The row of ModelOrder: for every input the law returns true, and leaves its arguments as they were.
-/
import Derived.Lib.ItoaLen
import Derived.Test.YtjodmedgkmeklaaGreatBase
/-
  What two finished honest sides share is no bare thing: plain.
-/
namespace Go.Proofs.YtjodmedgkmeklaaGreat
open Go Go.RowKit
variable {f : Int → List UInt8} {P : Int → Prop} {c : Nat} {μ : MS} {s : Sd}

theorem Inv.shut (h : Inv f P c μ) (hs : s ∈ μ.sides) (h1 : s.state = 1) (hx : μ.x s.peerN = false) : ¬ s.opened f μ.x := by
 intro ho
 have hf := h.noX (n := s.fresh) (by have := h.fr100 hs; omega)
 have hb := ho.2
 rcases fin_cases (h.cn s hs) h1 with ⟨st, fr, eR, sR, _, _, _, _, _, _, _, rfl⟩ | ⟨st, fr, eI, sI, _, _, _, _, _, _, _, rfl⟩
 · have hb2 : Go.Proofs.YtjodmedgkmeklaaGreat.bare f μ.x (ck3 fr eR sR st) = true := hb
   rw [bare_ck3] at hb2
   have e1 : μ.x fr = false := hf
   have e2 : μ.x sR = false := hx
   simp [sh, e1, e2] at hb2
 · have hb2 : Go.Proofs.YtjodmedgkmeklaaGreat.bare f μ.x (ck3 eI fr st sI) = true := hb
   rw [bare_ck3] at hb2
   have e1 : μ.x fr = false := hf
   have e2 : μ.x sI = false := hx
   simp [sh, e1, e2] at hb2
theorem saidAt_nat {k : Nat} : saidAt μ (k : Int) = match μ.sides[k]? with | some s => s.said | none => [] := by
 unfold saidAt MS.sideAt
 rw [if_pos (by omega), Int.toNat_natCast]
 cases μ.sides[k]? <;> rfl
theorem Inv.said_atom (h : Inv f P c μ) (hs : s ∈ μ.sides) {t : Tm} (ht : t ∈ s.said) : ∃ n, t = .atom n ∧ n < 0 ∧ -1000 ≤ n := by
 obtain ⟨n, rfl⟩ := (h.cn s hs).texts t ht
 exact ⟨_, rfl, by omega, by omega⟩

end Go.Proofs.YtjodmedgkmeklaaGreat

/-
  The document's names of data; two rows of data compared.
-/
namespace Go.Proofs.YtjodmedgkmeklaaGreat
open Go Go.RowKit Go.Maps
theorem reg_pf {P : Program} {md : Region.Mode} {Q : Exit → Act → World → Prop} {E fuel : Nat} {l tl : List Oper} {oi : Oper} {listed : Array Bool} {a : Act} {w : World} (n : Nat) (hi : l.drop (n - (fuel + 1)) = oi :: tl) (hB : pureB md l.toArray listed (n - (fuel + 1)) = true)
 (hw : Region.wanted oi (yielded l.toArray a.tmps) = true)
 (h : ∃ v, (∀ w', (execOp a.eval oi).run P w' = .ok (.value v) w') ∧ wpAnyU P md l.toArray (calm Q) E fuel (listed.setIfInBounds (n - (fuel + 1)) true) (a.put oi.dst v) w) : wpAnyU P md l.toArray (calm Q) E (fuel + 1) listed a w := reg_pure _ hi hB hw h
theorem reg_kf {P : Program} {md : Region.Mode} {Q : Exit → Act → World → Prop} {E fuel : Nat} {l tl : List Oper} {oi : Oper} {listed : Array Bool} {a : Act} {w : World} (n : Nat) (hi : l.drop (n - (fuel + 1)) = oi :: tl) (hB : takeB md l.toArray E listed (n - (fuel + 1)) = true)
 (hw : Region.wanted oi (yielded l.toArray a.tmps) = false) (h : wpAnyU P md l.toArray (calm Q) E fuel (listed.setIfInBounds (n - (fuel + 1)) true) (a.put oi.dst undef) w) : wpAnyU P md l.toArray (calm Q) E (fuel + 1) listed a w := reg_skip _ hi hB hw h
section
attribute [local go_sem] extUpon
attribute [local go_sem ↓] eval_put_ne eval_put_none eval_put_same size_put eval_const
theorem conv1 (w : World) (g : Nat) (x : Int) (c : UInt8) (hx : x = c.toNat) (hc : w.cell? ⟨g, 0, none⟩ = some (.int .u8 x)) :
 (convert 127 9 (.slice (some ⟨g, 0, none⟩) 1 1)).run Tryz.prog w = .ok (str [c]) w := by
 have h := run_convert_bytes_back (P := Tryz.prog) w 127 9 5 ⟨g, 0, none⟩ 1 [c] (by kernel_rfl) (by kernel_rfl) (by kernel_rfl) (fun j hj => by
  have hj0 : j = 0 := by simp at hj; omega
  subst hj0
  show w.cell? ⟨g, 0, none⟩ = _
  rw [hc, hx]; rfl)
 exact h
theorem digit_byte {d : Nat} (hd : d < 10) : (48 : Int) + (d : Int) = ((UInt8.ofNat (48 + d)).toNat : Int) := by
 have : (UInt8.ofNat (48 + d)).toNat = 48 + d := by simp [UInt8.toNat_ofNat']; omega
 rw [this]; omega

set_option maxRecDepth 100000 in
theorem small_digit (u : Nat) (hu : u < 10) (w : World) : Calls Tryz.prog 74 #[.int .i64 (-(u : Int))] w fun e w' => e = .returned (str (Lib.decDigits u)) ∧ Ext w w' := by
 have HD := hid (Lib.decDigits_one hu)
 have v0 : IntKind.i64.wrap (48 - -(u : Int)) = 48 + (u : Int) := by rw [IntKind.wrap_i64]; omega
 have hcv := conv1 (w.alloc (.cells #[.int .u8 (48 + (u : Int))] 5 (0, 0))) w.heap.size (48 + (u : Int)) (UInt8.ofNat (48 + u)) (digit_byte hu) (cell_blk (blk_new _ _) rfl)
 rw [← HD.out] at hcv
 generalize Lib.decDigits u = ds at *
 go_enter Tryz.func74, Tryz.ntmps74
 go_wp2_with fail
 go_ret
 exact ⟨rfl, Ext.alloc _ _⟩

set_option maxHeartbeats 2000000 in
set_option maxRecDepth 100000 in
theorem below_any (u : Nat) : ∀ (_ : u ≤ 9223372036854775808) (w : World), Calls Tryz.prog 74 #[.int .i64 (-(u : Int))] w fun e w' => e = .returned (str (Lib.decDigits u)) ∧ Ext w w' := by
 induction u using Nat.strongRecOn with
 | _ u ih =>
  intro hu w
  by_cases h10 : u < 10
  · exact small_digit u h10 w
  · have HI := hid (fun w' => ih (u / 10) (by omega) (by omega) w')
    have HD : Hid (Lib.decDigits u = Lib.decDigits (u / 10) ++ [UInt8.ofNat (48 + u % 10)]) := hid (by rw [Lib.decDigits, dif_neg h10])
    have hlen : (Lib.decDigits (u / 10)).length ≤ 1000 := by rw [Lib.decDigits_length]; have := Lib.nDigits_le20 (u / 10) (by omega); omega
    have t1 : (-(u : Int)).tdiv 10 = -((u / 10 : Nat) : Int) := by rw [Int.neg_tdiv]; congr 1
    have t2 : (-(u : Int)).tmod 10 = -((u % 10 : Nat) : Int) := by rw [Int.neg_tmod]; congr 1
    have hm := digit_byte (d := u % 10) (by omega)
    have hm2 : u % 10 < 10 := by omega
    have v0 : IntKind.i64.wrap (48 - -((u % 10 : Nat) : Int)) = 48 + ((u % 10 : Nat) : Int) := by rw [IntKind.wrap_i64]; omega
    have v3 : IntKind.i64.wrap (48 + ((u % 10 : Nat) : Int)) = 48 + ((u % 10 : Nat) : Int) := by rw [IntKind.wrap_i64]; omega
    have v1 : IntKind.i64.wrap (-((u / 10 : Nat) : Int)) = -((u / 10 : Nat) : Int) := by rw [IntKind.wrap_i64]; omega
    have v2 : IntKind.u8.wrap (48 + ((u % 10 : Nat) : Int)) = 48 + ((u % 10 : Nat) : Int) := by rw [IntKind.wrap_u8]; omega
    clear ih
    replace hm := hid hm
    generalize hq : u / 10 = q at *
    generalize hr : u % 10 = r at *
    generalize Lib.decDigits u = du at *
    generalize Lib.decDigits q = dq at *
    generalize UInt8.ofNat (48 + r) = c at *
    clear hq hr
    go_enter Tryz.func74, Tryz.ntmps74
    go_wp2_with fail
    refine reg_begin 10 (by kernel_rfl) ?_
    generalize hW : World.drew _ = W
    have HE := hid (by rw [← hW]; exact Ext.drew _ : Ext w W)
    clear hW
    refine reg_quiet 0 rfl (by kernel_rfl) (by kernel_rfl) ?_; apply Exists.intro; refine ⟨fun w' hw' => ?_, ?_⟩; · go_simp; exact ⟨rfl, Ext.refl _⟩
    refine reg_quiet 1 rfl (by kernel_rfl) (by kernel_rfl) ?_; apply Exists.intro; refine ⟨fun w' hw' => ?_, ?_⟩; · go_simp; exact ⟨rfl, Ext.refl _⟩
    refine reg_quiet 2 rfl (by kernel_rfl) (by kernel_rfl) ?_; apply Exists.intro; refine ⟨fun w' hw' => ?_, ?_⟩; · go_simp; exact HI.out w'
    refine reg_quiet 3 rfl (by kernel_rfl) (by kernel_rfl) ?_; apply Exists.intro; refine ⟨fun w' hw' => ?_, ?_⟩; · go_simp; exact ⟨rfl, Ext.refl _⟩
    refine reg_quiet 4 rfl (by kernel_rfl) (by kernel_rfl) ?_; apply Exists.intro; refine ⟨fun w' hw' => ?_, ?_⟩; · go_simp; exact ⟨rfl, Ext.refl _⟩
    refine reg_quiet 5 rfl (by kernel_rfl) (by kernel_rfl) ?_; apply Exists.intro; refine ⟨fun w' hw' => ?_, ?_⟩; · go_simp; exact ⟨rfl, Ext.refl _⟩
    refine reg_quiet 6 rfl (by kernel_rfl) (by kernel_rfl) ?_; apply Exists.intro; refine ⟨fun w' hw' => ?_, ?_⟩; · go_simp; exact ⟨rfl, Ext.refl _⟩
    refine reg_one 7 rfl (by kernel_rfl) rfl (fun w' hw' => ?_)
    replace HE := hid (HE.out.trans hw')
    clear hw'
    go_simp
    have hb := blk_new w' (.cells #[.int .u8 (48 + (r : Int))] 5 (0, 0))
    refine ⟨Ext.alloc _ _, ?_⟩
    replace HE := hid (HE.out.alloc' (.cells #[.int .u8 (48 + (r : Int))] 5 (0, 0)))
    generalize World.alloc w' _ = w1 at *
    generalize w'.heap.size = g at *
    replace hb := hid hb
    refine reg_one 8 rfl (by kernel_rfl) rfl (fun w2 hw2 => ?_)
    have hcv := conv1 w2 g _ c hm.out (cell_blk (hw2.blk hb.out) rfl)
    replace HE := hid (HE.out.trans hw2)
    clear hw2 hb
    go_simp
    clear hcv
    refine ⟨Ext.refl _, ?_⟩
    refine reg_adds 9 (dq) ([c]) rfl (by kernel_rfl) (by simp; omega) (by go_simp) (by go_simp) ?_
    refine reg_pure 10 rfl (by kernel_rfl) rfl ?_
    apply Exists.intro
    refine ⟨fun w' => ?_, ?_⟩
    · go_simp
      exact rfl
    refine reg_done (by kernel_rfl) (fun w3 hw3 => ?_) _
    replace HE := hid (HE.out.trans hw3)
    clear hw3
    go_simp
    go_wp2_with fail
    go_ret
    exact ⟨by rw [HD.out]; rfl, HE.out⟩

theorem digits_any (n : Int) (h0 : -9223372036854775808 ≤ n) (h1 : n ≤ 9223372036854775807) (w : World) :
 Calls Tryz.prog 60 #[.int .i64 n] w fun e w' => e = .returned (str (Lib.itoa n)) ∧ Ext w w' := by
 by_cases hn : n < 0
 · obtain ⟨u, rfl⟩ : ∃ u : Nat, n = -(u : Int) := ⟨n.natAbs, by omega⟩
   have HB := hid (below_any u (by omega) w)
   have hl : (Lib.decDigits u).length ≤ 1000 := by rw [Lib.decDigits_length]; have := Lib.nDigits_le20 u (by omega); omega
   have HX := hid (Lib.itoa_neg u (by omega))
   generalize Lib.itoa (-(u : Int)) = it at *
   generalize Lib.decDigits u = ds at *
   go_enter Tryz.func60, Tryz.ntmps60
   go_wp2_with fail
   refine HB.out.mono ?_
   rintro e w1 ⟨rfl, hE⟩
   go_wp2_with fail
   go_ret
   exact ⟨by rw [HX.out]; rfl, hE⟩
 · obtain ⟨u, rfl⟩ : ∃ u : Nat, n = u := ⟨n.toNat, by omega⟩
   have HB := hid (below_any u (by omega) w)
   have HX := hid (Lib.itoa_nonneg u)
   have v0 : IntKind.i64.wrap (-(u : Int)) = -(u : Int) := by rw [IntKind.wrap_i64]; omega
   generalize Lib.itoa (u : Int) = it at *
   generalize Lib.decDigits u = ds at *
   go_enter Tryz.func60, Tryz.ntmps60
   go_wp2_with fail
   refine HB.out.mono ?_
   rintro e w1 ⟨rfl, hE⟩
   go_wp2_with fail
   go_ret
   exact ⟨by rw [HX.out]; rfl, hE⟩

end
section
attribute [local go_sem] extUpon run_store_tm
attribute [local go_sem ↓] Tm.val_cell eval_put_ne eval_put_none eval_put_same size_put eval_const
attribute [local go_sem ↓] meth_Atom meth_Public meth_Shared meth_Chain meth_Digest meth_Box meth_Empty
attribute [local go_sem ↓] run_build_chain run_build_digest run_build_box
attribute [local go_sem] ta_Atom_Atom ta_Public_Atom ta_Shared_Atom ta_Chain_Atom ta_Digest_Atom ta_Box_Atom ta_Empty_Atom ta_Nil_Atom ta_Atom_Public ta_Public_Public ta_Shared_Public ta_Chain_Public ta_Digest_Public ta_Box_Public ta_Empty_Public ta_Nil_Public ta_Atom_Shared ta_Public_Shared ta_Shared_Shared ta_Chain_Shared ta_Digest_Shared ta_Box_Shared ta_Empty_Shared ta_Nil_Shared ta_Atom_Chain ta_Public_Chain ta_Shared_Chain ta_Chain_Chain ta_Digest_Chain ta_Box_Chain ta_Empty_Chain ta_Nil_Chain ta_Atom_Digest ta_Public_Digest ta_Shared_Digest ta_Chain_Digest ta_Digest_Digest ta_Box_Digest ta_Empty_Digest ta_Nil_Digest ta_Atom_Box ta_Public_Box ta_Shared_Box ta_Chain_Box ta_Digest_Box ta_Box_Box ta_Empty_Box ta_Nil_Box ta_Atom_Empty ta_Public_Empty ta_Shared_Empty ta_Chain_Empty ta_Digest_Empty ta_Box_Empty ta_Empty_Empty ta_Nil_Empty
set_option maxRecDepth 100000 in
theorem plain_atom (n : Int) (w : World) : Calls Tryz.prog 52 #[.iface 47 (.agg #[.int .i64 n])] w fun e w' => e = .returned (.agg #[.int .i64 2, .int .i64 n, .int .i64 0, .slice none 0 0]) ∧ Ext w w' := by
 go_enter Tryz.func52, Tryz.ntmps52
 go_wp2_with fail
 refine bodyPost_ret (v := .agg #[.int .i64 2, .int .i64 n, .int .i64 0, .slice none 0 0]) ?_ rfl ?_
 · simp only [results, show Tryz.f52.results = #[.cell 2 106] from rfl]
   go_simp
 · exact ⟨rfl, (Ext.alloc _ _).alloc' _⟩

set_option maxHeartbeats 1000000 in
set_option maxRecDepth 100000 in
theorem refname_atom (n : Int) (h0 : -9223372036854775808 ≤ n) (h1 : n ≤ 9223372036854775807) (w : World) :
 Calls Tryz.prog 51 #[.agg #[.int .i64 2, .int .i64 n, .int .i64 0, .slice none 0 0]] w fun e w' => e = .returned (str (97 :: Lib.itoa n)) ∧ Ext w w' := by
 have HD := hid (digits_any n h0 h1)
 have hl : (Lib.itoa n).length ≤ 1000 := by
  by_cases hn : n < 0
  · obtain ⟨u, rfl⟩ : ∃ u : Nat, n = -(u : Int) := ⟨n.natAbs, by omega⟩
    rw [Lib.itoa_neg u (by omega)]
    have := Lib.nDigits_le20 u (by omega)
    simp [Lib.decDigits_length]; omega
  · obtain ⟨u, rfl⟩ : ∃ u : Nat, n = u := ⟨n.toNat, by omega⟩
    rw [Lib.itoa_nonneg u]
    have := Lib.nDigits_le20 u (by omega)
    simp [Lib.decDigits_length]; omega
 generalize Lib.itoa n = it at *
 go_enter Tryz.func51, Tryz.ntmps51
 go_wp2_with fail
 refine (HD.out _).mono ?_
 rintro e w1 ⟨rfl, hE⟩
 go_wp2_with fail
 go_ret
 exact ⟨rfl, (Ext.alloc _ _).trans hE⟩

set_option maxRecDepth 100000 in
theorem doc_atom (n : Int) (h0 : -9223372036854775808 ≤ n) (h1 : n ≤ 9223372036854775807) (w : World) :
 Calls Tryz.prog 37 #[.iface 47 (.agg #[.int .i64 n])] w fun e w' => e = .returned (str (97 :: Lib.itoa n)) ∧ Ext w w' := by
 have HR := hid (refname_atom n h0 h1)
 generalize Lib.itoa n = it at *
 go_enter Tryz.func37, Tryz.ntmps37
 go_wp2_with fail
 refine (plain_atom n _).mono ?_
 rintro e w1 ⟨rfl, hE1⟩
 have HE1 := hid hE1
 clear hE1
 go_wp2_with fail
 refine (HR.out _).mono ?_
 rintro e w2 ⟨rfl, hE2⟩
 have HE2 := hid (HE1.out.trans hE2)
 clear hE2
 go_wp2_with fail
 go_ret
 exact ⟨rfl, HE2.out⟩
end
section
attribute [local go_sem] extUpon run_store_tm
attribute [local go_sem ↓] Tm.val_cell eval_put_ne eval_put_none eval_put_same size_put eval_const
attribute [local go_sem ↓] meth_Atom meth_Public meth_Shared meth_Chain meth_Digest meth_Box meth_Empty
attribute [local go_sem ↓] run_build_chain run_build_digest run_build_box
attribute [local go_sem] ta_Atom_Atom ta_Public_Atom ta_Shared_Atom ta_Chain_Atom ta_Digest_Atom ta_Box_Atom ta_Empty_Atom ta_Nil_Atom ta_Atom_Public ta_Public_Public ta_Shared_Public ta_Chain_Public ta_Digest_Public ta_Box_Public ta_Empty_Public ta_Nil_Public ta_Atom_Shared ta_Public_Shared ta_Shared_Shared ta_Chain_Shared ta_Digest_Shared ta_Box_Shared ta_Empty_Shared ta_Nil_Shared ta_Atom_Chain ta_Public_Chain ta_Shared_Chain ta_Chain_Chain ta_Digest_Chain ta_Box_Chain ta_Empty_Chain ta_Nil_Chain ta_Atom_Digest ta_Public_Digest ta_Shared_Digest ta_Chain_Digest ta_Digest_Digest ta_Box_Digest ta_Empty_Digest ta_Nil_Digest ta_Atom_Box ta_Public_Box ta_Shared_Box ta_Chain_Box ta_Digest_Box ta_Box_Box ta_Empty_Box ta_Nil_Box ta_Atom_Empty ta_Public_Empty ta_Shared_Empty ta_Chain_Empty ta_Digest_Empty ta_Box_Empty ta_Empty_Empty ta_Nil_Empty
def dval (l : List UInt8) : Nat := l.foldl (fun a d => a * 10 + (d.toNat - 48)) 0
theorem dval_dec (u : Nat) : dval (Lib.decDigits u) = u := by
 induction u using Nat.strongRecOn with
 | _ u ih =>
  by_cases h10 : u < 10
  · rw [Lib.decDigits_one h10]
    have : (UInt8.ofNat (48 + u)).toNat = 48 + u := by simp [UInt8.toNat_ofNat']; omega
    simp only [dval, List.foldl_cons, List.foldl_nil, this]; omega
  · rw [Lib.decDigits, dif_neg h10]
    have h1 := ih (u / 10) (by omega)
    have : (UInt8.ofNat (48 + u % 10)).toNat = 48 + u % 10 := by simp [UInt8.toNat_ofNat']; omega
    unfold dval at *
    rw [List.foldl_append, h1]
    simp only [List.foldl_cons, List.foldl_nil, this]; omega
theorem itoa_ne {m n : Int} (hm : -1000 ≤ m ∧ m ≤ 0) (hn : -1000 ≤ n ∧ n ≤ 0) (h : m ≠ n) : (97 :: Lib.itoa m : List UInt8) ≠ 97 :: Lib.itoa n := by
 intro e
 have e2 := (List.cons.inj e).2
 have hz : Lib.itoa 0 = [48] := by have := Lib.itoa_nonneg 0; rw [Lib.decDigits_one (by omega)] at this; simpa using this
 obtain ⟨a, rfl⟩ : ∃ a : Nat, m = -(a : Int) := ⟨m.natAbs, by omega⟩
 obtain ⟨b, rfl⟩ : ∃ b : Nat, n = -(b : Int) := ⟨n.natAbs, by omega⟩
 rcases Nat.eq_zero_or_pos a with rfl | ha
 · rcases Nat.eq_zero_or_pos b with rfl | hb
   · exact h rfl
   · rw [Lib.itoa_neg b hb] at e2
     have e3 : [48] = 45 :: Lib.decDigits b := hz.symm.trans e2
     have := (List.cons.inj e3).1
     revert this; decide
 · rcases Nat.eq_zero_or_pos b with rfl | hb
   · rw [Lib.itoa_neg a ha] at e2
     have e3 : 45 :: Lib.decDigits a = [48] := e2.trans hz
     have := (List.cons.inj e3).1
     revert this; decide
   · rw [Lib.itoa_neg a ha, Lib.itoa_neg b hb] at e2
     have := congrArg dval (List.cons.inj e2).2
     rw [dval_dec, dval_dec] at this
     exact h (by rw [this])
theorem ne_str {a b : List UInt8} (h : a ≠ b) : str a ≠ str b := by
 intro e
 exact h (by simpa [str] using e)
set_option maxHeartbeats 4000000 in
set_option maxRecDepth 100000 in
theorem terms_any (la lb : List Int) (a b : Option Addr) (ca cb : Nat) (w : World) (ha : ∀ n ∈ la, -1000 ≤ n ∧ n ≤ 0) (hb : ∀ n ∈ lb, -1000 ≤ n ∧ n ≤ 0) (hlen : la.length = lb.length) (hl : la.length ≤ 1000)
 (HA0 : Rd w a (la.map fun n => .iface 47 (.agg #[.int .i64 n]))) (HB0 : Rd w b (lb.map fun n => .iface 47 (.agg #[.int .i64 n]))) :
 Calls Tryz.prog 25 #[.slice a la.length ca, .slice b la.length cb] w fun e w' => e = .returned (.bool (decide (la = lb))) ∧ Ext w w' := by
 have HA := hid HA0
 have HB := hid HB0
 have HL := hid hlen
 clear HA0 HB0 hlen
 go_enter Tryz.func25, Tryz.ntmps25
 go_wp2_with fail
 go_loopw [5] (fun iv wr => ∃ i : Nat, iv = .int .i64 i ∧ i ≤ la.length ∧ Hid (Ext w wr) ∧ Hid (la.take i = lb.take i)) (fun iv _ => la.length - (intOf iv).toNat)
 case atStart => exact ⟨0, rfl, by omega, hid (Ext.refl _), hid (by simp)⟩
 case round =>
  obtain ⟨i, rfl, hi, HY, HT⟩ := hrel
  by_cases hlt : i < la.length
  · have hlt2 : (i : Int) < (la.length : Int) := by omega
    obtain ⟨g, rfl, _, hca⟩ := HA.out (by simp; omega)
    obtain ⟨g2, rfl, _, hcb⟩ := HB.out (by have := HL.out; simp; omega)
    have hltb : i < lb.length := by have := HL.out; omega
    have HCA0 := hid (hca i _ (by rw [List.getElem?_map, List.getElem?_eq_getElem hlt]; rfl))
    have HCB0 := hid (hcb i _ (by rw [List.getElem?_map, List.getElem?_eq_getElem hltb]; rfl))
    have HCA := hid (HY.out.cell HCA0.out)
    have HCB := hid (HY.out.cell HCB0.out)
    have hx := ha _ (List.getElem_mem hlt)
    have hy := hb _ (List.getElem_mem hltb)
    have HTA := hid (List.take_succ_eq_append_getElem hlt)
    have HTB := hid (List.take_succ_eq_append_getElem hltb)
    have HNX := hid (fun W => doc_atom la[i] (by omega) (by omega) W)
    have HNY := hid (fun W => doc_atom lb[i] (by omega) (by omega) W)
    have HNE : Hid (∀ W : la = lb, la[i] = lb[i]) := hid (fun e => by subst e; rfl)
    clear hca hcb HCA0 HCB0
    generalize la[i] = x at *
    generalize lb[i] = y at *
    by_cases hxy : x = y
    ·
     subst hxy
     generalize (97 :: Lib.itoa x : List UInt8) = sx at *
     go_wp2_with fail
     refine reg_begin 11 (by kernel_rfl) ?_
     refine reg_hide (fun Q2 HQ => ?_)
     generalize hW : World.drew _ = W8
     have HE8 : Hid (Ext wr W8) := hid (by rw [← hW]; exact Ext.drew _)
     clear hW
     iterate 3 (refine reg_pf 11 rfl (by kernel_rfl) (by kernel_rfl) ?_; apply Exists.intro; refine ⟨fun w' => ?_, ?_⟩; · go_simp; exact rfl)
     refine reg_quiet 3 rfl (by kernel_rfl) (by kernel_rfl) ?_; apply Exists.intro; refine ⟨fun w' hw' => ?_, ?_⟩; · have q0 : w'.cell? ⟨g, i, none⟩ = some (.iface 47 (.agg #[.int .i64 x])) := (HE8.out.trans hw').cell HCA.out; go_simp; exact ⟨rfl, Ext.refl _⟩
     refine reg_quiet 4 rfl (by kernel_rfl) (by kernel_rfl) ?_; apply Exists.intro; refine ⟨fun w' hw' => ?_, ?_⟩; · go_simp; exact HNX.out w'
     iterate 3 (refine reg_pf 11 rfl (by kernel_rfl) (by kernel_rfl) ?_; apply Exists.intro; refine ⟨fun w' => ?_, ?_⟩; · go_simp; exact rfl)
     refine reg_quiet 8 rfl (by kernel_rfl) (by kernel_rfl) ?_; apply Exists.intro; refine ⟨fun w' hw' => ?_, ?_⟩; · have q0 : w'.cell? ⟨g2, i, none⟩ = some (.iface 47 (.agg #[.int .i64 x])) := (HE8.out.trans hw').cell HCB.out; go_simp; exact ⟨rfl, Ext.refl _⟩
     refine reg_quiet 9 rfl (by kernel_rfl) (by kernel_rfl) ?_; apply Exists.intro; refine ⟨fun w' hw' => ?_, ?_⟩; · go_simp; exact HNX.out w'
     iterate 1 (refine reg_pf 11 rfl (by kernel_rfl) (by kernel_rfl) ?_; apply Exists.intro; refine ⟨fun w' => ?_, ?_⟩; · go_simp; exact rfl)
     refine reg_done (by kernel_rfl) (fun W9 hw5 => ?_) _
     rw [HQ.out]
     clear HQ Q2
     have HE9 := hid (HE8.out.trans hw5)
     clear hw5
     go_simp
     go_wp2_with fail
     go_roundw
     case rel => exact ⟨i + 1, by go_num, by omega, hid (HY.out.trans HE9.out), hid (by rw [HTA.out, HTB.out, HT.out])⟩
     case measure => simp [intOf]; omega
    ·
     have hne := itoa_ne hx hy hxy
     have hde : decide (la = lb) = false := decide_eq_false (fun e => hxy (HNE.out e))
     replace hde := hid hde
     generalize (97 :: Lib.itoa x : List UInt8) = sx at *
     generalize (97 :: Lib.itoa y : List UInt8) = sy at *
     have hbe : (sx == sy) = false := by simp [hne]
     go_wp2_with fail
     refine reg_begin 11 (by kernel_rfl) ?_
     refine reg_hide (fun Q2 HQ => ?_)
     generalize hW : World.drew _ = W8
     have HE8 : Hid (Ext wr W8) := hid (by rw [← hW]; exact Ext.drew _)
     clear hW
     iterate 3 (refine reg_pf 11 rfl (by kernel_rfl) (by kernel_rfl) ?_; apply Exists.intro; refine ⟨fun w' => ?_, ?_⟩; · go_simp; exact rfl)
     refine reg_quiet 3 rfl (by kernel_rfl) (by kernel_rfl) ?_; apply Exists.intro; refine ⟨fun w' hw' => ?_, ?_⟩; · have q0 : w'.cell? ⟨g, i, none⟩ = some (.iface 47 (.agg #[.int .i64 x])) := (HE8.out.trans hw').cell HCA.out; go_simp; exact ⟨rfl, Ext.refl _⟩
     refine reg_quiet 4 rfl (by kernel_rfl) (by kernel_rfl) ?_; apply Exists.intro; refine ⟨fun w' hw' => ?_, ?_⟩; · go_simp; exact HNX.out w'
     iterate 3 (refine reg_pf 11 rfl (by kernel_rfl) (by kernel_rfl) ?_; apply Exists.intro; refine ⟨fun w' => ?_, ?_⟩; · go_simp; exact rfl)
     refine reg_quiet 8 rfl (by kernel_rfl) (by kernel_rfl) ?_; apply Exists.intro; refine ⟨fun w' hw' => ?_, ?_⟩; · have q0 : w'.cell? ⟨g2, i, none⟩ = some (.iface 47 (.agg #[.int .i64 y])) := (HE8.out.trans hw').cell HCB.out; go_simp; exact ⟨rfl, Ext.refl _⟩
     refine reg_quiet 9 rfl (by kernel_rfl) (by kernel_rfl) ?_; apply Exists.intro; refine ⟨fun w' hw' => ?_, ?_⟩; · go_simp; exact HNY.out w'
     iterate 1 (refine reg_pf 11 rfl (by kernel_rfl) (by kernel_rfl) ?_; apply Exists.intro; refine ⟨fun w' => ?_, ?_⟩; · go_simp; exact rfl)
     refine reg_done (by kernel_rfl) (fun W9 hw5 => ?_) _
     rw [HQ.out]
     clear HQ Q2
     have HE9 := hid (HE8.out.trans hw5)
     clear hw5
     go_simp
     go_wp2_with fail
     go_ret
     exact ⟨by rw [hde.out]; rfl, HY.out.trans HE9.out⟩
  · have hlt2 : ¬ (i : Int) < (la.length : Int) := by omega
    have hil : i = la.length := by omega
    have heq : la = lb := by
     have h1 := HT.out
     rw [hil, List.take_length, HL.out, List.take_length] at h1
     exact h1
    have hde := hid (show decide (la = lb) = true from decide_eq_true heq)
    clear heq
    go_wp2_with fail
    go_ret
    exact ⟨by rw [hde.out]; rfl, HY.out⟩
end

end Go.Proofs.YtjodmedgkmeklaaGreat

/-
  What a world tells of what was said, with the slice's room; what was taken is a beginning of what was said.
-/
namespace Go.Proofs.YtjodmedgkmeklaaGreat
open Go Go.RowKit Go.Maps
attribute [local go_sem] extUpon run_store_tm
attribute [local go_sem ↓] Tm.val_cell eval_put_ne eval_put_none eval_put_same size_put eval_const
attribute [local go_sem ↓] meth_Atom meth_Public meth_Shared meth_Chain meth_Digest meth_Box meth_Empty
attribute [local go_sem ↓] run_build_chain run_build_digest run_build_box
attribute [local go_sem] ta_Atom_Atom ta_Public_Atom ta_Shared_Atom ta_Chain_Atom ta_Digest_Atom ta_Box_Atom ta_Empty_Atom ta_Nil_Atom ta_Atom_Public ta_Public_Public ta_Shared_Public ta_Chain_Public ta_Digest_Public ta_Box_Public ta_Empty_Public ta_Nil_Public ta_Atom_Shared ta_Public_Shared ta_Shared_Shared ta_Chain_Shared ta_Digest_Shared ta_Box_Shared ta_Empty_Shared ta_Nil_Shared ta_Atom_Chain ta_Public_Chain ta_Shared_Chain ta_Chain_Chain ta_Digest_Chain ta_Box_Chain ta_Empty_Chain ta_Nil_Chain ta_Atom_Digest ta_Public_Digest ta_Shared_Digest ta_Chain_Digest ta_Digest_Digest ta_Box_Digest ta_Empty_Digest ta_Nil_Digest ta_Atom_Box ta_Public_Box ta_Shared_Box ta_Chain_Box ta_Digest_Box ta_Box_Box ta_Empty_Box ta_Nil_Box ta_Atom_Empty ta_Public_Empty ta_Shared_Empty ta_Chain_Empty ta_Digest_Empty ta_Box_Empty ta_Empty_Empty ta_Nil_Empty
variable {f : Int → List UInt8} {P : Int → Prop} {w0 w W W2 W3 : World} {own own2 : Nat → Option Tg} {m m2 : MB} {μ μ2 : MS} {v v2 : KV} {i c d wb : Nat} {s : Sd} {B : Int} {F : Nat → Prop}

set_option maxHeartbeats 4000000 in
set_option maxRecDepth 100000 in
theorem said_cap (k : Int) (h : MAt f P w0 W own m μ v) (hlen : ∀ s, μ.sideAt k = some s → s.said.length ≤ 1000) :
 Calls Tryz.prog 23 #[ptr m.wb, .int .i64 k] W fun e w' => ∃ a c, e = .returned (.slice a (saidAt μ k).length c) ∧ (saidAt μ k).length ≤ c ∧ Rd w' a ((saidAt μ k).map Tm.val) ∧ Ext W w' := by
 unfold saidAt
 have HM := hid h
 cases ha : μ.sideAt k with
 | none =>
  have hside := side_any k h
  rw [sideAt_none h.len ha] at hside
  have HS := hid hside
  clear hside ha h hlen
  go_enter Tryz.func23, Tryz.ntmps23
  go_wp2_with fail
  refine HS.out.mono ?_
  rintro e w1 ⟨rfl, rfl⟩
  go_wp2_with fail
  go_ret
  exact ⟨_, _, rfl, Nat.zero_le _, fun h5 => (by simp at h5), Ext.refl _⟩
 | some s =>
  have hside := side_any k h
  obtain ⟨x, hx, hs, hsa, h0⟩ := sideAt_some h.len ha
  rw [hsa] at hside
  have hsd := h.side _ x s hx hs
  obtain ⟨pa, pc, hpv, hpc, hrd⟩ := own_rd hsd.said
  have HS := hid hside
  have HA := hid (Ext.alloc W (.cells #[] 29 (0, 0)))
  have HO := hid (own_none W)
  have hlen := hlen s ha
  have HCE : Hid ((W.alloc (.cells #[] 29 (0, 0))).cell? ⟨x.b, 15, none⟩ = some (.slice pa s.said.length pc)) := hid (HA.out.cell (hpv ▸ hsd.at_.cell rfl))
  have HRD := hid hrd
  clear hside hx hs hsa hsd hpv hrd h0 h HM
  by_cases h1 : 0 < s.said.length
  · obtain ⟨g, rfl, hg, hcell⟩ := HRD.out (by simpa using h1)
    have HC := hid hcell
    have c2 := HCE.out
    have HV : Hid (∀ u ∈ s.said.map Tm.val, u.oneCell' = true) := hid (by intro u hu; obtain ⟨t, _, rfl⟩ := List.mem_map.1 hu; exact one_val t)
    clear hcell ha
    go_enter Tryz.func23, Tryz.ntmps23
    go_wp2_with fail
    refine HS.out.mono ?_
    rintro e w1 ⟨rfl, rfl⟩
    go_wp2_with (first
     | (at_builtin; refine wpl_copy (.tmp 11) (.tmp 15) rfl rfl W.heap.size _ (by rfl) HO.out g s.said.length pc (s.said.map Tm.val) (by rfl) (fun j u hu => HA.out.cell (HC.out j u hu)) HV.out (List.length_map _) h1 hlen (by simp) ?_; intro v' w2 hown hgrow))
    have hE : Ext W w2 := ext_grown HA.out HO.out (Nat.le_refl _) hgrow
    obtain ⟨a', c', hv, hcap, hrd2⟩ := own_rd hown
    subst hv
    have HR := hid (And.intro hcap (And.intro hrd2 hE))
    clear hown hgrow hrd2 hE hcap
    go_wp2_with fail
    go_ret
    exact ⟨_, _, rfl, HR.out.1, HR.out.2.1, HR.out.2.2⟩
  · have hz : s.said.length = 0 := by omega
    have c2 := HCE.out
    rw [hz] at c2
    have hnil : s.said = [] := List.eq_nil_of_length_eq_zero hz
    show Calls _ _ _ _ fun e w' => ∃ a c, e = .returned (.slice a s.said.length c) ∧ s.said.length ≤ c ∧ Rd w' a (s.said.map Tm.val) ∧ Ext W w'
    rw [hnil]
    clear ha HCE hz hnil
    go_enter Tryz.func23, Tryz.ntmps23
    go_wp2_with fail
    refine HS.out.mono ?_
    rintro e w1 ⟨rfl, rfl⟩
    go_wp2_with (first
     | (at_builtin; refine wpl_copy0 (.tmp 11) (.tmp 15) rfl rfl rfl W.heap.size pc pa (by rfl) (by rfl) ?_))
    go_ret
    exact ⟨_, _, rfl, Nat.le_refl _, fun h5 => (by simp at h5), HA.out⟩
theorem said_wc (h : Wd f P c d B F w0 W wb μ) (hc : c ≤ 98) (k : Int) :
 Calls Tryz.prog 23 #[ptr wb, .int .i64 k] W fun e w' => ∃ a c, e = .returned (.slice a (saidAt μ k).length c) ∧ (saidAt μ k).length ≤ c ∧ Rd w' a ((saidAt μ k).map Tm.val) ∧ Ext W w' := by
 have hinv := h.inv
 obtain ⟨own, m, v, h1, rfl, _⟩ := h
 refine said_cap k h1 (fun s hs => ?_)
 have := hinv.cn s (List.mem_of_getElem? (sideAt_at hs))
 cases this with
 | i3 _ _ _ _ _ _ _ _ _ _ hr => have := hr.fewS; show _ ≤ 1000; simp only [sdI3]; omega
 | r3 _ _ _ _ _ _ _ _ _ _ hr => have := hr.fewS; show _ ≤ 1000; simp only [sdR3]; omega
 | _ => exact Nat.zero_le _

theorem Rd.take {w : World} {a : Option Addr} {xs : List Value} (h : Rd w a xs) (n : Nat) : Rd w a (xs.take n) := fun h0 => by
 obtain ⟨g, h1, h2, h3⟩ := h (by simp at h0; omega)
 refine ⟨g, h1, h2, fun i u hu => h3 i u ?_⟩
 rw [List.getElem?_take] at hu
 split at hu
 · exact hu
 · cases hu
/-- The numbers of a row of atoms. -/
def tn (l : List Tm) : List Int := l.map fun t => match t with | .atom n => n | _ => 0
theorem tn_map {l : List Tm} (h : ∀ t ∈ l, ∃ n, t = .atom n ∧ n < 0 ∧ -1000 ≤ n) : l.map Tm.val = (tn l).map (fun n => .iface 47 (.agg #[.int .i64 n])) ∧ ∀ n ∈ tn l, -1000 ≤ n ∧ n ≤ 0 := by
 induction l with
 | nil => exact ⟨rfl, fun n hn => by cases hn⟩
 | cons t l ih =>
  obtain ⟨n, rfl, h1, h2⟩ := h t (List.mem_cons_self ..)
  obtain ⟨h3, h4⟩ := ih (fun u hu => h u (List.mem_cons_of_mem _ hu))
  refine ⟨?_, fun x hx => ?_⟩
  · show Tm.val (.atom n) :: l.map Tm.val = _
    rw [h3]; rfl
  · rcases List.mem_cons.1 hx with hx | hx
    · have hx : x = n := hx
      omega
    · exact h4 x hx
theorem tn_len (l : List Tm) : (tn l).length = l.length := by simp [tn]
/-- A side that said what another one took. -/
def goodO (f : Int → List UInt8) (s r : Sd) : Bool := decide (r.static = s.peerN) && ((r.first != s.first) && (decide (r.state = 1) && (decide (nm f r.hash = nm f s.hash) && (decide (s.took.length ≤ r.said.length) && decide (tn s.took = (tn r.said).take s.took.length)))))
theorem Inv.ordered (h : Inv f P c μ) (hs : s ∈ μ.sides) (h1 : s.state = 1) (hx : μ.x s.peerN = false) (hne : s.took ≠ []) : (∀ t ∈ s.took, ∃ n, t = .atom n ∧ n < 0 ∧ -1000 ≤ n) ∧ μ.sides.any (goodO f s) = true := by
 have h3 := (h.fin_iff hs).1.1 h1
 have hb : Go.Proofs.YtjodmedgkmeklaaGreat.bare f μ.x s.chain = false := by
  rw [Bool.eq_false_iff]
  exact fun hb => h.shut hs h1 hx ⟨h3, hb⟩
 obtain ⟨r, hr, e1, e2, e3, e4, rest, e5⟩ := (h.bel s hs).tk h3 hb hne
 refine ⟨fun t ht => h.said_atom hr (by rw [← e5]; exact List.mem_append_left _ ht), ?_⟩
 rw [List.any_eq_true]
 refine ⟨r, hr, ?_⟩
 unfold goodO
 have h6 : tn s.took = (tn r.said).take s.took.length := by
  rw [← e5]; unfold tn
  rw [List.map_append, List.take_left' (by simp)]
 have h7 : s.took.length ≤ r.said.length := by rw [← e5]; simp
 simp [e1, e2, e4, (h.fin_iff hr).1.2 e3, ← h6, h7]

end Go.Proofs.YtjodmedgkmeklaaGreat

/-
  The walk of ModelOrder.
-/
namespace Go.Proofs.YtjodmedgkmeklaaGreat
open Go Go.RowKit Go.Maps
attribute [local go_sem] extUpon run_store_tm
attribute [local go_sem ↓] Tm.val_cell eval_put_ne eval_put_none eval_put_same size_put eval_const
attribute [local go_sem ↓] meth_Atom meth_Public meth_Shared meth_Chain meth_Digest meth_Box meth_Empty
attribute [local go_sem ↓] run_build_chain run_build_digest run_build_box
attribute [local go_sem] ta_Atom_Atom ta_Public_Atom ta_Shared_Atom ta_Chain_Atom ta_Digest_Atom ta_Box_Atom ta_Empty_Atom ta_Nil_Atom ta_Atom_Public ta_Public_Public ta_Shared_Public ta_Chain_Public ta_Digest_Public ta_Box_Public ta_Empty_Public ta_Nil_Public ta_Atom_Shared ta_Public_Shared ta_Shared_Shared ta_Chain_Shared ta_Digest_Shared ta_Box_Shared ta_Empty_Shared ta_Nil_Shared ta_Atom_Chain ta_Public_Chain ta_Shared_Chain ta_Chain_Chain ta_Digest_Chain ta_Box_Chain ta_Empty_Chain ta_Nil_Chain ta_Atom_Digest ta_Public_Digest ta_Shared_Digest ta_Chain_Digest ta_Digest_Digest ta_Box_Digest ta_Empty_Digest ta_Nil_Digest ta_Atom_Box ta_Public_Box ta_Shared_Box ta_Chain_Box ta_Digest_Box ta_Box_Box ta_Empty_Box ta_Nil_Box ta_Atom_Empty ta_Public_Empty ta_Shared_Empty ta_Chain_Empty ta_Digest_Empty ta_Box_Empty ta_Empty_Empty ta_Nil_Empty
variable {f : Int → List UInt8} {P : Int → Prop} {w0 w W W2 W3 : World} {μ μ2 : MS} {c d wb : Nat} {B : Int} {F : Nat → Prop} {s : Sd}

theorem tookAt_nat {k : Nat} : tookAt μ (k : Int) = match μ.sides[k]? with | some s => s.took | none => [] := by
 unfold tookAt MS.sideAt
 rw [if_pos (by omega), Int.toNat_natCast]
 cases μ.sides[k]? <;> rfl
theorem Cn.hash_ok (hN : ∀ n, P n → Small n) (h : Cn P c s) (hf : P s.fresh) (hs : P s.static) : s.hash.all Small ∧ sz s.hash ≤ 1000 ∧ s.hash ≠ .non := by
 cases h with
 | s0 => exact ⟨⟨trivial, trivial⟩, by simp [sd0, hash0, sz], by simp [sd0, hash0]⟩
 | i1 => exact ⟨all_of hN (ok_hash1 hf), by show sz (hash1 _) ≤ _; rw [sz_hash1]; omega, by simp [sdI1, hash1]⟩
 | r1 _ _ _ _ _ h1 => exact ⟨all_of hN (ok_hash1 h1), by show sz (hash1 _) ≤ _; rw [sz_hash1]; omega, by simp [sdR1, hash1]⟩
 | i2 _ _ _ _ _ _ h1 h2 => exact ⟨all_of hN (ok_hash4 hf h1 h2), by show sz (hash4 _ _ _) ≤ _; rw [sz_hash4]; omega, by simp [sdI2, hash4]⟩
 | r2 _ _ _ _ _ h1 => exact ⟨all_of hN (ok_hash4 h1 hf hs), by show sz (hash4 _ _ _) ≤ _; rw [sz_hash4]; omega, by simp [sdR2, hash4]⟩
 | i3 _ _ _ _ _ _ _ _ h1 h2 => exact ⟨all_of hN (ok_hash6 hf h1 h2 hs), by show sz (hash6 _ _ _ _) ≤ _; rw [sz_hash6]; omega, by simp [sdI3, hash6]⟩
 | r3 _ _ _ _ _ _ _ _ h1 h2 => exact ⟨all_of hN (ok_hash6 h1 hf hs h2), by show sz (hash6 _ _ _ _) ≤ _; rw [sz_hash6]; omega, by simp [sdR3, hash6]⟩
theorem any_succ {l : List Sd} {k : Nat} (p : Sd → Bool) (h : k < l.length) : (l.take (k + 1)).any p = ((l.take k).any p || p l[k]) := by
 rw [List.take_succ_eq_append_getElem h, List.any_append]; simp

set_option maxHeartbeats 32000000 in
set_option maxRecDepth 100000 in
theorem ModelOrder_walk (T : Nat → Int) (av : Option Addr) (cap : Nat) (l : List Raw) (w : World) (hT : TabAt w T) (hl : l.length ≤ 9223372036854775807) (hr : RawAt w av l) :
 Calls Tryz.prog 9 #[.slice av l.length cap] w fun e w' => e = .returned (.bool true) ∧ Ext w w' := by
 have HN := hid (nums1 T)
 have HP : Hid (∀ n, P1 n → P1 n) := hid (fun _ h => h)
 have HI := hid (itoa_tab hT)
 have HPL := hid (play_law HN.out HP.out HI.out av cap l hl hr)
 clear hl hr hT
 generalize itoaT T = f at *
 go_enter Tryz.func9, Tryz.ntmps9
 go_wp2_with fail
 refine HPL.out.mono ?_
 rintro e w2 ⟨wb, μ, rfl, hpw⟩
 obtain ⟨w1, hE1, hwd⟩ := hpw.wd
 have HST := hid hpw.st
 have HI1 := hid (HI.out.later hE1)
 have HEW1 := hid hE1
 have hE2 := hE1.trans hwd.ext
 have hkn := known_any HN.out HP.out (HI.out.later hE2)
 clear hpw HPL hE1
 go_wp2_with fail
 refine hkn.mono ?_
 rintro e w3 ⟨rfl, hE3⟩
 have HW := hid (hwd.later hE3)
 have HE := hid (hE2.trans hE3)
 clear hkn hE2 hE3 hwd
 go_wp2_with fail
 refine (sides_w HN.out.small HP.out HW.out (by omega) (by omega)).mono ?_
 rintro e w5 ⟨sa, sc, rfl, hrow, hE5⟩
 have HX5 := hid hE5
 have HROW := hid hrow
 have hfw := HW.out.inv.few
 have HIW := hid (HI1.out.later (HW.out.ext.trans HX5.out))
 clear hrow hE5
 go_wp2_with fail
 go_loopw [5] (fun iv wr => ∃ i : Nat, iv = .int .i64 i ∧ i ≤ μ.sides.length ∧ Hid (Ext w5 wr)) (fun iv _ => μ.sides.length - (intOf iv).toNat)
 case atStart => exact ⟨0, rfl, by omega, hid (Ext.refl _)⟩
 case round =>
  obtain ⟨i, rfl, hi, HY⟩ := hrel
  by_cases hlt : i < μ.sides.length
  · have hlt2 : (i : Int) < (μ.sides.length : Int) := by omega
    obtain ⟨g, rfl, hcell⟩ := HROW.out.at10 (by omega)
    have hsi := List.getElem?_eq_getElem hlt
    have hsm := List.getElem_mem hlt
    have HCE := hid hcell
    have HCI := hid (hcell i _ hsi)
    have HSI := hid hsi
    have HSM := hid hsm
    clear hcell hsi hsm
    generalize μ.sides[i] = s at *
    have hac := accepted_w (HW.out.later (HX5.out.trans HY.out)) (by omega) (i : Int)
    have hte : tookAt μ (i : Int) = s.took := by rw [tookAt_nat, HSI.out]
    have htb : s.took.length ≤ 60 := HW.out.took s HSM.out
    rw [hte] at hac
    clear hte
    go_wp2_with fail
    refine hac.mono ?_
    rintro e w6 ⟨ta, tc, rfl, hrd, hE6⟩
    have HRD := hid hrd
    replace HY := hid (HY.out.trans hE6)
    clear hac hrd hE6
    have c4 : w6.cell? ⟨g, i * 10 + 4, none⟩ = some (.int .i64 s.state) := HY.out.cell (HCI.out 4 _ rfl)
    have c5 : w6.cell? ⟨g, i * 10 + 5, none⟩ = some (.int .i64 s.peerN) := HY.out.cell (HCI.out 5 _ rfl)
    by_cases hst : s.state = 1
    ·
     rw [hst] at c4
     by_cases hl0 : s.took.length = 0
     ·
      go_wp2_with fail
      go_roundw
      case rel => exact ⟨i + 1, by go_num, by omega, HY⟩
      case measure => simp [intOf]; omega
     ·
      have hl2 : ((s.took.length : Int) == 0) = false := by simp; exact fun e => hl0 (by rw [e]; rfl)
      by_cases hp1 : s.peerN < 1
      ·
       go_wp2_with fail
       go_roundw
       case rel => exact ⟨i + 1, by go_num, by omega, HY⟩
       case measure => simp [intOf]; omega
      ·
       by_cases hp4 : 4 < s.peerN
       ·
        go_wp2_with fail
        go_roundw
        case rel => exact ⟨i + 1, by go_num, by omega, HY⟩
        case measure => simp [intOf]; omega
       ·
        have hlk := leaked_at HW.out s.peerN (intOk_small (by omega)) w6 (HX5.out.trans HY.out)
        have hxl := HW.out.inv.xleak (n := s.peerN) (by omega)
        rw [← hxl] at hlk
        go_wp2_with fail
        refine hlk.mono ?_
        rintro e wl ⟨rfl, hEl⟩
        have HRD2 := hid (HRD.out.later hEl)
        replace HY := hid (HY.out.trans hEl)
        clear hlk hEl c4 c5
        cases hx : μ.x s.peerN
        ·
         obtain ⟨hat, hall⟩ := HW.out.inv.ordered HSM.out hst hx (fun e => hl0 (by rw [e]; rfl))
         obtain ⟨htv, htr⟩ := tn_map hat
         have hown := HW.out.inv.own HP.out
         have HMO := hid (fun r (hr : r ∈ μ.sides) => (HW.out.inv.cn r hr).hash_ok HN.out.small (hown.fr r hr) (hown.st r hr))
         have HALL := hid hall
         have HTL := hid (tn_len s.took)
         have HTR := hid htr
         have hrd := HRD2.out
         rw [htv] at hrd
         have HRT := hid hrd
         obtain ⟨hu, hd, hhv⟩ := Va.of (HMO.out s HSM.out).2.2
         have HHV := hid hhv.eq
         clear hown hhv hxl hx hat hall htv htr hrd HRD HRD2 hl2 hst
         replace hl0 := hid hl0
         go_wp2_with fail
         go_loopw [7, 8] (fun bv iv wk => ∃ k : Nat, iv = .int .i64 k ∧ k ≤ μ.sides.length ∧ Hid (Ext wl wk) ∧ bv = .bool ((μ.sides.take k).any (goodO f s))) (fun _ iv _ => μ.sides.length - (intOf iv).toNat)
         case atStart => exact ⟨0, rfl, by omega, hid (Ext.refl _), rfl⟩
         case round =>
          obtain ⟨k, rfl, hk, HK0, hbv⟩ := hrel
          by_cases hlk : k < μ.sides.length
          · have hlk2 : (k : Int) < (μ.sides.length : Int) := by omega
            have HK := hid (HY.out.trans HK0.out)
            have HAS := hid (any_succ (goodO f s) hlk)
            have HRI := hid (List.getElem?_eq_getElem hlk)
            have HCK := hid (HCE.out k _ HRI.out)
            have HRM := hid (List.getElem_mem hlk)
            generalize μ.sides[k] = r at *
            generalize hb : (μ.sides.take k).any (goodO f s) = b at *
            clear hb
            subst hbv
            go_wp2_with fail
            by_cases hrs : r.static = s.peerN
            ·
             have hrs2 : (r.static != s.peerN) = false := by simp [hrs]
             by_cases hfe : r.first = s.first
             ·
              have hfe2 : (r.first == s.first) = true := by simp [hfe]
              refine reg_begin 46 (by kernel_rfl) ?_
              refine reg_hide (fun Q2 HQ => ?_)
              generalize hW : World.drew _ = W8
              have HE8 : Hid (Ext wr W8) := hid (by rw [← hW]; exact Ext.drew _)
              clear hW
              iterate 4 (refine reg_pf 46 rfl (by kernel_rfl) (by kernel_rfl) ?_; apply Exists.intro; refine ⟨fun w' => ?_, ?_⟩; · go_simp; exact rfl)
              refine reg_quiet 4 rfl (by kernel_rfl) (by kernel_rfl) ?_; apply Exists.intro; refine ⟨fun w' hw' => ?_, ?_⟩; · have q0 : w'.cell? ⟨g, k * 10 + 1, none⟩ = some (.int .i64 r.static) := (HE8.out.trans hw').cell (HK.out.cell (HCK.out 1 _ rfl)); go_simp; exact ⟨rfl, Ext.refl _⟩
              iterate 4 (refine reg_pf 46 rfl (by kernel_rfl) (by kernel_rfl) ?_; apply Exists.intro; refine ⟨fun w' => ?_, ?_⟩; · go_simp; exact rfl)
              refine reg_quiet 9 rfl (by kernel_rfl) (by kernel_rfl) ?_; apply Exists.intro; refine ⟨fun w' hw' => ?_, ?_⟩; · have q0 : w'.cell? ⟨g, i * 10 + 5, none⟩ = some (.int .i64 s.peerN) := (HE8.out.trans hw').cell (HK.out.cell (HCI.out 5 _ rfl)); go_simp; exact ⟨rfl, Ext.refl _⟩
              iterate 6 (refine reg_pf 46 rfl (by kernel_rfl) (by kernel_rfl) ?_; apply Exists.intro; refine ⟨fun w' => ?_, ?_⟩; · go_simp; exact rfl)
              refine reg_quiet 16 rfl (by kernel_rfl) (by kernel_rfl) ?_; apply Exists.intro; refine ⟨fun w' hw' => ?_, ?_⟩; · have q0 : w'.cell? ⟨g, k * 10, none⟩ = some (.bool r.first) := (HE8.out.trans hw').cell (HK.out.cell (HCK.out 0 _ rfl)); go_simp; exact ⟨rfl, Ext.refl _⟩
              iterate 4 (refine reg_pf 46 rfl (by kernel_rfl) (by kernel_rfl) ?_; apply Exists.intro; refine ⟨fun w' => ?_, ?_⟩; · go_simp; exact rfl)
              refine reg_quiet 21 rfl (by kernel_rfl) (by kernel_rfl) ?_; apply Exists.intro; refine ⟨fun w' hw' => ?_, ?_⟩; · have q0 : w'.cell? ⟨g, i * 10, none⟩ = some (.bool s.first) := (HE8.out.trans hw').cell (HK.out.cell (HCI.out 0 _ rfl)); go_simp; exact ⟨rfl, Ext.refl _⟩
              iterate 3 (refine reg_pf 46 rfl (by kernel_rfl) (by kernel_rfl) ?_; apply Exists.intro; refine ⟨fun w' => ?_, ?_⟩; · go_simp; exact rfl)
              iterate 6 (refine reg_kf 46 rfl (by kernel_rfl) (by kernel_rfl) ?_)
              iterate 2 (refine reg_pf 46 rfl (by kernel_rfl) (by kernel_rfl) ?_; apply Exists.intro; refine ⟨fun w' => ?_, ?_⟩; · go_simp; exact rfl)
              iterate 12 (refine reg_kf 46 rfl (by kernel_rfl) (by kernel_rfl) ?_)
              iterate 1 (refine reg_pf 46 rfl (by kernel_rfl) (by kernel_rfl) ?_; apply Exists.intro; refine ⟨fun w' => ?_, ?_⟩; · go_simp; exact rfl)
              refine reg_done (by kernel_rfl) (fun W9 hw5 => ?_) _
              rw [HQ.out]
              clear HQ Q2
              have HK9 := hid (HE8.out.trans hw5)
              clear hw5
              go_simp
              have HZ := hid (HK0.out.trans HK9.out)
              clear HE8
              have hgo : goodO f s r = false := by unfold goodO; simp [hfe]
              go_wp2_with fail
              go_roundw
              case rel => exact ⟨k + 1, by go_num, by omega, HZ, by rw [HAS.out, hgo, Bool.or_false]⟩
              case measure => simp [intOf]; omega
             ·
              have hfe2 : (r.first == s.first) = false := by simp [hfe]
              by_cases hrn : r.state = 1
              ·
               obtain ⟨ru, rd, hrv⟩ := Va.of (HMO.out r HRM.out).2.2
               have hsame := fun W' (hW : Ext w5 W') => same_any (R := Small) (f := f) r.hash s.hash W' (HIW.out.later hW) (HMO.out r HRM.out).1 (HMO.out s HSM.out).1 (by have := (HMO.out r HRM.out).2.1; omega) (by have := (HMO.out s HSM.out).2.1; omega)
               rw [hrv.eq, HHV.out] at hsame
               have HSAME := hid hsame
               have HRV := hid hrv.eq
               have hgo : goodO f s r = (decide (nm f r.hash = nm f s.hash) && (decide (s.took.length ≤ r.said.length) && decide (tn s.took = (tn r.said).take s.took.length))) := by unfold goodO; simp [hfe, hrs, hrn]
               have HGO := hid hgo
               clear hsame hgo hrv
               generalize decide (nm f r.hash = nm f s.hash) = bb at *
               refine reg_begin 46 (by kernel_rfl) ?_
               refine reg_hide (fun Q2 HQ => ?_)
               generalize hW : World.drew _ = W8
               have HE8 : Hid (Ext wr W8) := hid (by rw [← hW]; exact Ext.drew _)
               clear hW
               iterate 4 (refine reg_pf 46 rfl (by kernel_rfl) (by kernel_rfl) ?_; apply Exists.intro; refine ⟨fun w' => ?_, ?_⟩; · go_simp; exact rfl)
               refine reg_quiet 4 rfl (by kernel_rfl) (by kernel_rfl) ?_; apply Exists.intro; refine ⟨fun w' hw' => ?_, ?_⟩; · have q0 : w'.cell? ⟨g, k * 10 + 1, none⟩ = some (.int .i64 r.static) := (HE8.out.trans hw').cell (HK.out.cell (HCK.out 1 _ rfl)); go_simp; exact ⟨rfl, Ext.refl _⟩
               iterate 4 (refine reg_pf 46 rfl (by kernel_rfl) (by kernel_rfl) ?_; apply Exists.intro; refine ⟨fun w' => ?_, ?_⟩; · go_simp; exact rfl)
               refine reg_quiet 9 rfl (by kernel_rfl) (by kernel_rfl) ?_; apply Exists.intro; refine ⟨fun w' hw' => ?_, ?_⟩; · have q0 : w'.cell? ⟨g, i * 10 + 5, none⟩ = some (.int .i64 s.peerN) := (HE8.out.trans hw').cell (HK.out.cell (HCI.out 5 _ rfl)); go_simp; exact ⟨rfl, Ext.refl _⟩
               iterate 6 (refine reg_pf 46 rfl (by kernel_rfl) (by kernel_rfl) ?_; apply Exists.intro; refine ⟨fun w' => ?_, ?_⟩; · go_simp; exact rfl)
               refine reg_quiet 16 rfl (by kernel_rfl) (by kernel_rfl) ?_; apply Exists.intro; refine ⟨fun w' hw' => ?_, ?_⟩; · have q0 : w'.cell? ⟨g, k * 10, none⟩ = some (.bool r.first) := (HE8.out.trans hw').cell (HK.out.cell (HCK.out 0 _ rfl)); go_simp; exact ⟨rfl, Ext.refl _⟩
               iterate 4 (refine reg_pf 46 rfl (by kernel_rfl) (by kernel_rfl) ?_; apply Exists.intro; refine ⟨fun w' => ?_, ?_⟩; · go_simp; exact rfl)
               refine reg_quiet 21 rfl (by kernel_rfl) (by kernel_rfl) ?_; apply Exists.intro; refine ⟨fun w' hw' => ?_, ?_⟩; · have q0 : w'.cell? ⟨g, i * 10, none⟩ = some (.bool s.first) := (HE8.out.trans hw').cell (HK.out.cell (HCI.out 0 _ rfl)); go_simp; exact ⟨rfl, Ext.refl _⟩
               iterate 7 (refine reg_pf 46 rfl (by kernel_rfl) (by kernel_rfl) ?_; apply Exists.intro; refine ⟨fun w' => ?_, ?_⟩; · go_simp; exact rfl)
               refine reg_quiet 29 rfl (by kernel_rfl) (by kernel_rfl) ?_; apply Exists.intro; refine ⟨fun w' hw' => ?_, ?_⟩; · have q0 : w'.cell? ⟨g, k * 10 + 4, none⟩ = some (.int .i64 1) := hrn ▸ (HE8.out.trans hw').cell (HK.out.cell (HCK.out 4 _ rfl)); go_simp; exact ⟨rfl, Ext.refl _⟩
               iterate 7 (refine reg_pf 46 rfl (by kernel_rfl) (by kernel_rfl) ?_; apply Exists.intro; refine ⟨fun w' => ?_, ?_⟩; · go_simp; exact rfl)
               refine reg_quiet 37 rfl (by kernel_rfl) (by kernel_rfl) ?_; apply Exists.intro; refine ⟨fun w' hw' => ?_, ?_⟩; · have q0 : w'.cell? ⟨g, k * 10 + 6, none⟩ = some (.iface ru rd) := HRV.out ▸ (HE8.out.trans hw').cell (HK.out.cell (HCK.out 6 _ rfl)); go_simp; exact ⟨rfl, Ext.refl _⟩
               iterate 4 (refine reg_pf 46 rfl (by kernel_rfl) (by kernel_rfl) ?_; apply Exists.intro; refine ⟨fun w' => ?_, ?_⟩; · go_simp; exact rfl)
               refine reg_quiet 42 rfl (by kernel_rfl) (by kernel_rfl) ?_; apply Exists.intro; refine ⟨fun w' hw' => ?_, ?_⟩; · have q0 : w'.cell? ⟨g, i * 10 + 6, none⟩ = some (.iface hu hd) := HHV.out ▸ (HE8.out.trans hw').cell (HK.out.cell (HCI.out 6 _ rfl)); go_simp; exact ⟨rfl, Ext.refl _⟩
               refine reg_quiet 43 rfl (by kernel_rfl) (by kernel_rfl) ?_; apply Exists.intro; refine ⟨fun w' hw' => ?_, ?_⟩; · go_simp; exact HSAME.out w' (HK.out.trans (HE8.out.trans hw'))
               iterate 2 (refine reg_pf 46 rfl (by kernel_rfl) (by kernel_rfl) ?_; apply Exists.intro; refine ⟨fun w' => ?_, ?_⟩; · go_simp; exact rfl)
               refine reg_done (by kernel_rfl) (fun W9 hw5 => ?_) _
               rw [HQ.out]
               clear HQ Q2
               have HK9 := hid (HE8.out.trans hw5)
               clear hw5
               go_simp
               have HZ := hid (HK0.out.trans HK9.out)
               clear HE8
               cases bb
               ·
                have hg2 : goodO f s r = false := HGO.out
                go_wp2_with fail
                go_roundw
                case rel => exact ⟨k + 1, by go_num, by omega, HZ, by rw [HAS.out, hg2, Bool.or_false]⟩
                case measure => simp [intOf]; omega
               ·
                have HG2 := hid (show goodO f s r = (decide (s.took.length ≤ r.said.length) && decide (tn s.took = (tn r.said).take s.took.length)) from HGO.out)
                have hsd := said_wc (HW.out.later (HX5.out.trans (HY.out.trans HZ.out))) (by omega) (k : Int)
                have hse : saidAt μ (k : Int) = r.said := by rw [saidAt_nat, HRI.out]
                rw [hse] at hsd
                obtain ⟨hav, har⟩ := tn_map (fun t ht => HW.out.inv.said_atom HRM.out ht)
                rw [hav] at hsd
                have HAR := hid har
                have HLB := hid (tn_len r.said)
                have hrl : r.said.length ≤ 1000 := by
                 have := HW.out.inv.cn r HRM.out
                 have h9 := (fin_step this hrn).2.2.2
                 omega
                clear hse hav har HGO
                go_wp2_with fail
                refine hsd.mono ?_
                rintro e w7 ⟨sb, scp, rfl, hcp, hrd7, hE7⟩
                have HZ7 := hid (HZ.out.trans hE7)
                have HR7 := hid hrd7
                have HRT7 := hid (HRT.out.later HZ7.out)
                have HCP := hid hcp
                clear hsd hE7 hrd7 hcp
                cases b
                ·
                 by_cases hle : s.took.length ≤ r.said.length
                 ·
                  have hle2 : (s.took.length : Int) ≤ (r.said.length : Int) := by omega
                  have hcp2 : s.took.length ≤ scp := by have := HCP.out; omega
                  have hcp3 : (s.took.length : Int) ≤ (scp : Int) := by omega
                  obtain ⟨g7, rfl, hg7, hc7⟩ := HR7.out (by have := hl0.out; have := HLB.out; simp; omega)
                  have htake : Rd w7 (some ⟨g7, 0, none⟩) (((tn r.said).take s.took.length).map (fun n => .iface 47 (.agg #[.int .i64 n]))) := by
                   rw [List.map_take]; exact Rd.take HR7.out s.took.length
                  have htm := fun W (hW : Ext w7 W) => terms_any (tn s.took) ((tn r.said).take s.took.length) ta (some ⟨g7, 0, none⟩) tc scp W HTR.out (fun n hn => HAR.out n (List.mem_of_mem_take hn)) (by rw [List.length_take, HTL.out, HLB.out]; omega) (by rw [HTL.out]; omega) (HRT7.out.later hW) (htake.later hW)
                  have hg3 : goodO f s r = decide (tn s.took = (tn r.said).take s.took.length) := by rw [HG2.out, decide_eq_true hle]; rfl
                  rw [HTL.out, ← hg3] at htm
                  have HTM := hid htm
                  clear htm htake hc7 hg7 hg3 hle
                  go_wp2_with fail
                  refine (HTM.out w7 (Ext.refl _)).mono ?_
                  rintro e w8 ⟨rfl, hE8⟩
                  have HZ8 := hid (HZ7.out.trans hE8)
                  clear hE8
                  cases hgb : goodO f s r
                  ·
                   go_wp2_with fail
                   go_roundw
                   case rel => exact ⟨k + 1, by go_num, by omega, HZ8, by rw [HAS.out, hgb]; rfl⟩
                   case measure => simp [intOf]; omega
                  ·
                   go_wp2_with fail
                   go_roundw
                   case rel => exact ⟨k + 1, by go_num, by omega, HZ8, by rw [HAS.out, hgb]; rfl⟩
                   case measure => simp [intOf]; omega
                 ·
                  have hle2 : ¬ (s.took.length : Int) ≤ (r.said.length : Int) := by omega
                  have hg3 : goodO f s r = false := by rw [HG2.out, decide_eq_false hle]; rfl
                  go_wp2_with fail
                  go_roundw
                  case rel => exact ⟨k + 1, by go_num, by omega, HZ7, by rw [HAS.out, hg3]; rfl⟩
                  case measure => simp [intOf]; omega
                ·
                 go_wp2_with fail
                 go_roundw
                 case rel => exact ⟨k + 1, by go_num, by omega, HZ7, by rw [HAS.out, Bool.true_or]⟩
                 case measure => simp [intOf]; omega
              ·
               have hrn2 : (r.state != 1) = true := by simp [hrn]
               have hrn3 : (r.state == 1) = false := by simp [hrn]
               refine reg_begin 46 (by kernel_rfl) ?_
               refine reg_hide (fun Q2 HQ => ?_)
               generalize hW : World.drew _ = W8
               have HE8 : Hid (Ext wr W8) := hid (by rw [← hW]; exact Ext.drew _)
               clear hW
               iterate 4 (refine reg_pf 46 rfl (by kernel_rfl) (by kernel_rfl) ?_; apply Exists.intro; refine ⟨fun w' => ?_, ?_⟩; · go_simp; exact rfl)
               refine reg_quiet 4 rfl (by kernel_rfl) (by kernel_rfl) ?_; apply Exists.intro; refine ⟨fun w' hw' => ?_, ?_⟩; · have q0 : w'.cell? ⟨g, k * 10 + 1, none⟩ = some (.int .i64 r.static) := (HE8.out.trans hw').cell (HK.out.cell (HCK.out 1 _ rfl)); go_simp; exact ⟨rfl, Ext.refl _⟩
               iterate 4 (refine reg_pf 46 rfl (by kernel_rfl) (by kernel_rfl) ?_; apply Exists.intro; refine ⟨fun w' => ?_, ?_⟩; · go_simp; exact rfl)
               refine reg_quiet 9 rfl (by kernel_rfl) (by kernel_rfl) ?_; apply Exists.intro; refine ⟨fun w' hw' => ?_, ?_⟩; · have q0 : w'.cell? ⟨g, i * 10 + 5, none⟩ = some (.int .i64 s.peerN) := (HE8.out.trans hw').cell (HK.out.cell (HCI.out 5 _ rfl)); go_simp; exact ⟨rfl, Ext.refl _⟩
               iterate 6 (refine reg_pf 46 rfl (by kernel_rfl) (by kernel_rfl) ?_; apply Exists.intro; refine ⟨fun w' => ?_, ?_⟩; · go_simp; exact rfl)
               refine reg_quiet 16 rfl (by kernel_rfl) (by kernel_rfl) ?_; apply Exists.intro; refine ⟨fun w' hw' => ?_, ?_⟩; · have q0 : w'.cell? ⟨g, k * 10, none⟩ = some (.bool r.first) := (HE8.out.trans hw').cell (HK.out.cell (HCK.out 0 _ rfl)); go_simp; exact ⟨rfl, Ext.refl _⟩
               iterate 4 (refine reg_pf 46 rfl (by kernel_rfl) (by kernel_rfl) ?_; apply Exists.intro; refine ⟨fun w' => ?_, ?_⟩; · go_simp; exact rfl)
               refine reg_quiet 21 rfl (by kernel_rfl) (by kernel_rfl) ?_; apply Exists.intro; refine ⟨fun w' hw' => ?_, ?_⟩; · have q0 : w'.cell? ⟨g, i * 10, none⟩ = some (.bool s.first) := (HE8.out.trans hw').cell (HK.out.cell (HCI.out 0 _ rfl)); go_simp; exact ⟨rfl, Ext.refl _⟩
               iterate 7 (refine reg_pf 46 rfl (by kernel_rfl) (by kernel_rfl) ?_; apply Exists.intro; refine ⟨fun w' => ?_, ?_⟩; · go_simp; exact rfl)
               refine reg_quiet 29 rfl (by kernel_rfl) (by kernel_rfl) ?_; apply Exists.intro; refine ⟨fun w' hw' => ?_, ?_⟩; · have q0 : w'.cell? ⟨g, k * 10 + 4, none⟩ = some (.int .i64 r.state) := (HE8.out.trans hw').cell (HK.out.cell (HCK.out 4 _ rfl)); go_simp; exact ⟨rfl, Ext.refl _⟩
               iterate 3 (refine reg_pf 46 rfl (by kernel_rfl) (by kernel_rfl) ?_; apply Exists.intro; refine ⟨fun w' => ?_, ?_⟩; · go_simp; exact rfl)
               iterate 12 (refine reg_kf 46 rfl (by kernel_rfl) (by kernel_rfl) ?_)
               iterate 1 (refine reg_pf 46 rfl (by kernel_rfl) (by kernel_rfl) ?_; apply Exists.intro; refine ⟨fun w' => ?_, ?_⟩; · go_simp; exact rfl)
               refine reg_done (by kernel_rfl) (fun W9 hw5 => ?_) _
               rw [HQ.out]
               clear HQ Q2
               have HK9 := hid (HE8.out.trans hw5)
               clear hw5
               go_simp
               have HZ := hid (HK0.out.trans HK9.out)
               clear HE8
               have hgo : goodO f s r = false := by unfold goodO; simp [hrn]
               go_wp2_with fail
               go_roundw
               case rel => exact ⟨k + 1, by go_num, by omega, HZ, by rw [HAS.out, hgo, Bool.or_false]⟩
               case measure => simp [intOf]; omega
            ·
             have hrs2 : (r.static != s.peerN) = true := by simp [hrs]
             refine reg_begin 46 (by kernel_rfl) ?_
             refine reg_hide (fun Q2 HQ => ?_)
             generalize hW : World.drew _ = W8
             have HE8 : Hid (Ext wr W8) := hid (by rw [← hW]; exact Ext.drew _)
             clear hW
             iterate 4 (refine reg_pf 46 rfl (by kernel_rfl) (by kernel_rfl) ?_; apply Exists.intro; refine ⟨fun w' => ?_, ?_⟩; · go_simp; exact rfl)
             refine reg_quiet 4 rfl (by kernel_rfl) (by kernel_rfl) ?_; apply Exists.intro; refine ⟨fun w' hw' => ?_, ?_⟩; · have q0 : w'.cell? ⟨g, k * 10 + 1, none⟩ = some (.int .i64 r.static) := (HE8.out.trans hw').cell (HK.out.cell (HCK.out 1 _ rfl)); go_simp; exact ⟨rfl, Ext.refl _⟩
             iterate 4 (refine reg_pf 46 rfl (by kernel_rfl) (by kernel_rfl) ?_; apply Exists.intro; refine ⟨fun w' => ?_, ?_⟩; · go_simp; exact rfl)
             refine reg_quiet 9 rfl (by kernel_rfl) (by kernel_rfl) ?_; apply Exists.intro; refine ⟨fun w' hw' => ?_, ?_⟩; · have q0 : w'.cell? ⟨g, i * 10 + 5, none⟩ = some (.int .i64 s.peerN) := (HE8.out.trans hw').cell (HK.out.cell (HCI.out 5 _ rfl)); go_simp; exact ⟨rfl, Ext.refl _⟩
             iterate 2 (refine reg_pf 46 rfl (by kernel_rfl) (by kernel_rfl) ?_; apply Exists.intro; refine ⟨fun w' => ?_, ?_⟩; · go_simp; exact rfl)
             iterate 11 (refine reg_kf 46 rfl (by kernel_rfl) (by kernel_rfl) ?_)
             iterate 2 (refine reg_pf 46 rfl (by kernel_rfl) (by kernel_rfl) ?_; apply Exists.intro; refine ⟨fun w' => ?_, ?_⟩; · go_simp; exact rfl)
             iterate 6 (refine reg_kf 46 rfl (by kernel_rfl) (by kernel_rfl) ?_)
             iterate 2 (refine reg_pf 46 rfl (by kernel_rfl) (by kernel_rfl) ?_; apply Exists.intro; refine ⟨fun w' => ?_, ?_⟩; · go_simp; exact rfl)
             iterate 12 (refine reg_kf 46 rfl (by kernel_rfl) (by kernel_rfl) ?_)
             iterate 1 (refine reg_pf 46 rfl (by kernel_rfl) (by kernel_rfl) ?_; apply Exists.intro; refine ⟨fun w' => ?_, ?_⟩; · go_simp; exact rfl)
             refine reg_done (by kernel_rfl) (fun W9 hw5 => ?_) _
             rw [HQ.out]
             clear HQ Q2
             have HK9 := hid (HE8.out.trans hw5)
             clear hw5
             go_simp
             have HZ := hid (HK0.out.trans HK9.out)
             clear HE8
             have hgo : goodO f s r = false := by unfold goodO; simp [hrs]
             go_wp2_with fail
             go_roundw
             case rel => exact ⟨k + 1, by go_num, by omega, HZ, by rw [HAS.out, hgo, Bool.or_false]⟩
             case measure => simp [intOf]; omega
          · have hlk2 : ¬ (k : Int) < (μ.sides.length : Int) := by omega
            have hkl : k = μ.sides.length := by omega
            rw [hkl, List.take_length, HALL.out] at hbv
            subst hbv
            go_wp2_with fail
            go_roundw
            case rel => exact ⟨i + 1, by go_num, by omega, hid (HY.out.trans HK0.out)⟩
            case measure => simp [intOf]; omega
        ·
         go_wp2_with fail
         go_roundw
         case rel => exact ⟨i + 1, by go_num, by omega, HY⟩
         case measure => simp [intOf]; omega
    ·
     have hst2 : (s.state == 1) = false := by simp [hst]
     go_wp2_with fail
     go_roundw
     case rel => exact ⟨i + 1, by go_num, by omega, HY⟩
     case measure => simp [intOf]; omega
  · have hlt2 : ¬ (i : Int) < (μ.sides.length : Int) := by omega
    go_wp2_with fail
    go_ret
    exact ⟨rfl, HE.out.trans (HX5.out.trans HY.out)⟩

end Go.Proofs.YtjodmedgkmeklaaGreat

/-
  The row of ModelOrder: for every input the law returns true, and leaves its arguments as they were.
-/
namespace Go.Proofs.YtjodmedgkmeklaaGreat
open Go Go.RowKit Go.ChangeShapes Go.WideShapes Go.ChangeAt

set_option maxRecDepth 100000 in
set_option maxHeartbeats 1000000 in
theorem ModelOrder_lifted (os : Os) (started : os.Started) (H : Type) (enc : TypeId × Value → H) :
 ReturnsInHanded {} Tryz.checked os 9 .any (Rows.modelOrderSpec.pre6 enc Tryz.prog Tryz.f9 Rows.modelOrderRow.domain false) (Rows.modelOrderSpec.post enc Tryz.prog Tryz.f9 false true false false) := by
 refine returnsInHanded_of_change_shaped (C := Tryz.checked) own started (by kernel_rfl) Tryz.func9
  (ChangeSpec.witness6 (enc := enc) (C := Tryz.checked) false ⟨#[], #[.slice none 0 0], []⟩ 8 (by kernel_rfl) (by kernel_rfl) (by kernel_rfl) (by kernel_rfl)) ?_
 intro W base args ds gs before hval0 hW hcnd _ hsh _
 have hval : ∀ (j : Nat) t v, Tryz.f9.params[j]? = some t → args[j]? = some v → Value.okWide Tryz.prog W .any base t v := hval0
 have hW' := hW
 obtain ⟨p, q, hA0, hV, rfl, hfz, hnd⟩ := hW
 have hA : DataW.TrodAll enc Tryz.prog W 0 (fun _ => true) true Tryz.f9.params.toList args.toList ds p := hA0
 rw [Tryz.params9] at hA hval
 obtain ⟨v0, vs0, d0, ds0, p0, q0, hargs, rfl, rfl, h0, r0⟩ := trodAll_cons hA
 obtain ⟨rfl, rfl, rfl⟩ := trodAll_nil r0
 obtain rfl : args = #[v0] := by cases args; simp_all
 obtain ⟨rfl, rfl⟩ := trodVars_none hV
 have hlt0 : ∀ x ∈ p0, x.block < W.heap.size := fun x hx => by simpa using hW'.lt x (by simp [hx])
 have hk0 := h0
 obtain ⟨s0, len0, cap0, rfl⟩ := okWide_slice Tryz.underlying22 (hval 0 22 v0 rfl rfl)
 obtain ⟨fuel0, hf0⟩ := h0
 obtain ⟨av0, cav0, l0, hcs0, hr0, hl0⟩ := open_raws hf0
 simp only [Value.cells, List.cons.injEq, and_true] at hcs0
 obtain ⟨rfl, rfl, rfl⟩ := Value.slice.inj hcs0
 clear hA0 hval0
 simp only [List.append_nil] at hW'
 obtain ⟨T, hT⟩ := tab_of hsh
 refine (ModelOrder_walk T s0 cap0 l0 W hT hl0 hr0).mono fun e W' ⟨he, hg⟩ => ?_
 subst he
 exact ⟨_, rfl, _, _, _, _, _, _, hW', trodAll_cons_mk (shut_bool Tryz.underlying4 _) trodAll_mk0, (trodAll_cons_mk (Below.trod laidOut (by kernel_rfl) (of_decide_eq_true (by kernel_rfl)) hk0 hg hlt0) trodAll_mk0), rfl, hg.frame _, fun h => by cases h⟩

theorem ModelOrder_over : Rows.modelOrderRow.holds Tryz.pinned (OpenSpec.ofChange Rows.modelOrderSpec) :=
 OpenClaim.holds_of_wide 9 Tryz.f9 rfl rfl rfl rfl rfl rfl rfl ⟨rfl, rfl, rfl, rfl, rfl⟩ rfl rfl rfl rfl rfl (by kernel_rfl) Tryz.func9 (by kernel_rfl)
  (of_decide_eq_true (by kernel_rfl)) (by unfold Func.isWrapper; first | (rw [if_pos (by decide +kernel)]; kernel_rfl) | (rw [if_neg (by decide +kernel)]; exact ⟨rfl, rfl⟩))
  (fun os started H enc _ => ModelOrder_lifted os started H enc)

theorem ModelOrder_holds : Rows.ModelOrderSaid := ModelOrder_over
#print axioms ModelOrder_holds
end Go.Proofs.YtjodmedgkmeklaaGreat
