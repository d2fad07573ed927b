/-
  The row of ModelHonest: for every input the law returns true, and leaves its arguments as they were.
-/
import Derived.Lib.ItoaLen
import Derived.Test.YtjodmedgkmeklaaGreatBase
/-
  What a finished side says is taken into the pool: plain.
-/
namespace Go.Proofs.YtjodmedgkmeklaaGreat
open Go Go.RowKit
variable {f : Int → List UInt8} {P : Int → Prop} {c i : Nat} {μ : MS} {s : Sd}

theorem saidAt_nat {k : Nat} : saidAt μ (k : Int) = match μ.sides[k]? with | some s => s.said | none => [] := by
 unfold saidAt MS.sideAt
 rw [if_pos (by omega), Int.toNat_natCast]
 cases μ.sides[k]? <;> rfl
theorem Inv.said_atom (h : Inv f P c μ) (hs : s ∈ μ.sides) {t : Tm} (ht : t ∈ s.said) : ∃ n, t = .atom n ∧ n < 0 ∧ -1000 ≤ n := by
 obtain ⟨n, rfl⟩ := (h.cn s hs).texts t ht
 exact ⟨_, rfl, by omega, by omega⟩

/-- A finished side that has said one thing more. -/
def Sd.more (s : Sd) (n : Int) : Sd := { s with sent := s.sent + 1, said := s.said ++ [textOf n] }
theorem say_ok {i : Nat} {n : Int} (hi : μ.sides[i]? = some s) (h1 : s.state = 1) (hl : μ.pool.length + 1 ≤ 300) :
 (μ.play f P 4 i n 0).2 = 0 ∧ (μ.play f P 4 i n 0).1.sides = μ.sides.set i (s.more n) ∧ (μ.play f P 4 i n 0).1.statics = μ.statics ∧ (μ.play f P 4 i n 0).1.pool = (μ.sent f P [.box s.keys.1 s.sent .empty (textOf n)]).pool := by
 have e1 : μ.play f P 4 i n 0 = μ.say f P i s n := by
  rw [act_eq (by omega) (by omega)]
  unfold MS.honest
  rw [sideAt_nat hi]
  show μ.act f P (i : Int).toNat s 4 n 0 = _
  rw [Int.toNat_natCast]; rfl
 have hroom : μ.room f [.box s.keys.1 s.sent .empty (textOf n)] = true := by
  unfold MS.room
  have := news_le (f := f) (μ := μ) [.box s.keys.1 s.sent .empty (textOf n)]
  exact decide_eq_true (by simp at this; omega)
 have e2 : μ.say f P i s n = ((μ.sent f P [.box s.keys.1 s.sent .empty (textOf n)]).setSide i (s.more n), 0) := by
  unfold MS.say
  rw [if_neg (by simp [h1]), if_neg (by rw [hroom]; simp)]
  rfl
 obtain ⟨e3, e4, e5, e6⟩ := sent_same (f := f) (P := P) [.box s.keys.1 s.sent .empty (textOf n)] (μ := μ)
 rw [e1, e2]
 exact ⟨rfl, by show (μ.sent f P _).sides.set i _ = _; rw [e3], e4, rfl⟩

end Go.Proofs.YtjodmedgkmeklaaGreat

/-
  The document's names of data; two rows of data compared.
-/
namespace Go.Proofs.YtjodmedgkmeklaaGreat
open Go Go.RowKit Go.Maps
theorem reg_pf {P : Program} {md : Region.Mode} {Q : Exit → Act → World → Prop} {E fuel : Nat} {l tl : List Oper} {oi : Oper} {listed : Array Bool} {a : Act} {w : World} (n : Nat) (hi : l.drop (n - (fuel + 1)) = oi :: tl) (hB : pureB md l.toArray listed (n - (fuel + 1)) = true)
 (hw : Region.wanted oi (yielded l.toArray a.tmps) = true)
 (h : ∃ v, (∀ w', (execOp a.eval oi).run P w' = .ok (.value v) w') ∧ wpAnyU P md l.toArray (calm Q) E fuel (listed.setIfInBounds (n - (fuel + 1)) true) (a.put oi.dst v) w) : wpAnyU P md l.toArray (calm Q) E (fuel + 1) listed a w := reg_pure _ hi hB hw h
theorem reg_kf {P : Program} {md : Region.Mode} {Q : Exit → Act → World → Prop} {E fuel : Nat} {l tl : List Oper} {oi : Oper} {listed : Array Bool} {a : Act} {w : World} (n : Nat) (hi : l.drop (n - (fuel + 1)) = oi :: tl) (hB : takeB md l.toArray E listed (n - (fuel + 1)) = true)
 (hw : Region.wanted oi (yielded l.toArray a.tmps) = false) (h : wpAnyU P md l.toArray (calm Q) E fuel (listed.setIfInBounds (n - (fuel + 1)) true) (a.put oi.dst undef) w) : wpAnyU P md l.toArray (calm Q) E (fuel + 1) listed a w := reg_skip _ hi hB hw h
section
attribute [local go_sem] extUpon
attribute [local go_sem ↓] eval_put_ne eval_put_none eval_put_same size_put eval_const
theorem conv1 (w : World) (g : Nat) (x : Int) (c : UInt8) (hx : x = c.toNat) (hc : w.cell? ⟨g, 0, none⟩ = some (.int .u8 x)) :
 (convert 127 9 (.slice (some ⟨g, 0, none⟩) 1 1)).run Tryz.prog w = .ok (str [c]) w := by
 have h := run_convert_bytes_back (P := Tryz.prog) w 127 9 5 ⟨g, 0, none⟩ 1 [c] (by kernel_rfl) (by kernel_rfl) (by kernel_rfl) (fun j hj => by
  have hj0 : j = 0 := by simp at hj; omega
  subst hj0
  show w.cell? ⟨g, 0, none⟩ = _
  rw [hc, hx]; rfl)
 exact h
theorem digit_byte {d : Nat} (hd : d < 10) : (48 : Int) + (d : Int) = ((UInt8.ofNat (48 + d)).toNat : Int) := by
 have : (UInt8.ofNat (48 + d)).toNat = 48 + d := by simp [UInt8.toNat_ofNat']; omega
 rw [this]; omega

set_option maxRecDepth 100000 in
theorem small_digit (u : Nat) (hu : u < 10) (w : World) : Calls Tryz.prog 74 #[.int .i64 (-(u : Int))] w fun e w' => e = .returned (str (Lib.decDigits u)) ∧ Ext w w' := by
 have HD := hid (Lib.decDigits_one hu)
 have v0 : IntKind.i64.wrap (48 - -(u : Int)) = 48 + (u : Int) := by rw [IntKind.wrap_i64]; omega
 have hcv := conv1 (w.alloc (.cells #[.int .u8 (48 + (u : Int))] 5 (0, 0))) w.heap.size (48 + (u : Int)) (UInt8.ofNat (48 + u)) (digit_byte hu) (cell_blk (blk_new _ _) rfl)
 rw [← HD.out] at hcv
 generalize Lib.decDigits u = ds at *
 go_enter Tryz.func74, Tryz.ntmps74
 go_wp2_with fail
 go_ret
 exact ⟨rfl, Ext.alloc _ _⟩

set_option maxHeartbeats 2000000 in
set_option maxRecDepth 100000 in
theorem below_any (u : Nat) : ∀ (_ : u ≤ 9223372036854775808) (w : World), Calls Tryz.prog 74 #[.int .i64 (-(u : Int))] w fun e w' => e = .returned (str (Lib.decDigits u)) ∧ Ext w w' := by
 induction u using Nat.strongRecOn with
 | _ u ih =>
  intro hu w
  by_cases h10 : u < 10
  · exact small_digit u h10 w
  · have HI := hid (fun w' => ih (u / 10) (by omega) (by omega) w')
    have HD : Hid (Lib.decDigits u = Lib.decDigits (u / 10) ++ [UInt8.ofNat (48 + u % 10)]) := hid (by rw [Lib.decDigits, dif_neg h10])
    have hlen : (Lib.decDigits (u / 10)).length ≤ 1000 := by rw [Lib.decDigits_length]; have := Lib.nDigits_le20 (u / 10) (by omega); omega
    have t1 : (-(u : Int)).tdiv 10 = -((u / 10 : Nat) : Int) := by rw [Int.neg_tdiv]; congr 1
    have t2 : (-(u : Int)).tmod 10 = -((u % 10 : Nat) : Int) := by rw [Int.neg_tmod]; congr 1
    have hm := digit_byte (d := u % 10) (by omega)
    have hm2 : u % 10 < 10 := by omega
    have v0 : IntKind.i64.wrap (48 - -((u % 10 : Nat) : Int)) = 48 + ((u % 10 : Nat) : Int) := by rw [IntKind.wrap_i64]; omega
    have v3 : IntKind.i64.wrap (48 + ((u % 10 : Nat) : Int)) = 48 + ((u % 10 : Nat) : Int) := by rw [IntKind.wrap_i64]; omega
    have v1 : IntKind.i64.wrap (-((u / 10 : Nat) : Int)) = -((u / 10 : Nat) : Int) := by rw [IntKind.wrap_i64]; omega
    have v2 : IntKind.u8.wrap (48 + ((u % 10 : Nat) : Int)) = 48 + ((u % 10 : Nat) : Int) := by rw [IntKind.wrap_u8]; omega
    clear ih
    replace hm := hid hm
    generalize hq : u / 10 = q at *
    generalize hr : u % 10 = r at *
    generalize Lib.decDigits u = du at *
    generalize Lib.decDigits q = dq at *
    generalize UInt8.ofNat (48 + r) = c at *
    clear hq hr
    go_enter Tryz.func74, Tryz.ntmps74
    go_wp2_with fail
    refine reg_begin 10 (by kernel_rfl) ?_
    generalize hW : World.drew _ = W
    have HE := hid (by rw [← hW]; exact Ext.drew _ : Ext w W)
    clear hW
    refine reg_quiet 0 rfl (by kernel_rfl) (by kernel_rfl) ?_; apply Exists.intro; refine ⟨fun w' hw' => ?_, ?_⟩; · go_simp; exact ⟨rfl, Ext.refl _⟩
    refine reg_quiet 1 rfl (by kernel_rfl) (by kernel_rfl) ?_; apply Exists.intro; refine ⟨fun w' hw' => ?_, ?_⟩; · go_simp; exact ⟨rfl, Ext.refl _⟩
    refine reg_quiet 2 rfl (by kernel_rfl) (by kernel_rfl) ?_; apply Exists.intro; refine ⟨fun w' hw' => ?_, ?_⟩; · go_simp; exact HI.out w'
    refine reg_quiet 3 rfl (by kernel_rfl) (by kernel_rfl) ?_; apply Exists.intro; refine ⟨fun w' hw' => ?_, ?_⟩; · go_simp; exact ⟨rfl, Ext.refl _⟩
    refine reg_quiet 4 rfl (by kernel_rfl) (by kernel_rfl) ?_; apply Exists.intro; refine ⟨fun w' hw' => ?_, ?_⟩; · go_simp; exact ⟨rfl, Ext.refl _⟩
    refine reg_quiet 5 rfl (by kernel_rfl) (by kernel_rfl) ?_; apply Exists.intro; refine ⟨fun w' hw' => ?_, ?_⟩; · go_simp; exact ⟨rfl, Ext.refl _⟩
    refine reg_quiet 6 rfl (by kernel_rfl) (by kernel_rfl) ?_; apply Exists.intro; refine ⟨fun w' hw' => ?_, ?_⟩; · go_simp; exact ⟨rfl, Ext.refl _⟩
    refine reg_one 7 rfl (by kernel_rfl) rfl (fun w' hw' => ?_)
    replace HE := hid (HE.out.trans hw')
    clear hw'
    go_simp
    have hb := blk_new w' (.cells #[.int .u8 (48 + (r : Int))] 5 (0, 0))
    refine ⟨Ext.alloc _ _, ?_⟩
    replace HE := hid (HE.out.alloc' (.cells #[.int .u8 (48 + (r : Int))] 5 (0, 0)))
    generalize World.alloc w' _ = w1 at *
    generalize w'.heap.size = g at *
    replace hb := hid hb
    refine reg_one 8 rfl (by kernel_rfl) rfl (fun w2 hw2 => ?_)
    have hcv := conv1 w2 g _ c hm.out (cell_blk (hw2.blk hb.out) rfl)
    replace HE := hid (HE.out.trans hw2)
    clear hw2 hb
    go_simp
    clear hcv
    refine ⟨Ext.refl _, ?_⟩
    refine reg_adds 9 (dq) ([c]) rfl (by kernel_rfl) (by simp; omega) (by go_simp) (by go_simp) ?_
    refine reg_pure 10 rfl (by kernel_rfl) rfl ?_
    apply Exists.intro
    refine ⟨fun w' => ?_, ?_⟩
    · go_simp
      exact rfl
    refine reg_done (by kernel_rfl) (fun w3 hw3 => ?_) _
    replace HE := hid (HE.out.trans hw3)
    clear hw3
    go_simp
    go_wp2_with fail
    go_ret
    exact ⟨by rw [HD.out]; rfl, HE.out⟩

theorem digits_any (n : Int) (h0 : -9223372036854775808 ≤ n) (h1 : n ≤ 9223372036854775807) (w : World) :
 Calls Tryz.prog 60 #[.int .i64 n] w fun e w' => e = .returned (str (Lib.itoa n)) ∧ Ext w w' := by
 by_cases hn : n < 0
 · obtain ⟨u, rfl⟩ : ∃ u : Nat, n = -(u : Int) := ⟨n.natAbs, by omega⟩
   have HB := hid (below_any u (by omega) w)
   have hl : (Lib.decDigits u).length ≤ 1000 := by rw [Lib.decDigits_length]; have := Lib.nDigits_le20 u (by omega); omega
   have HX := hid (Lib.itoa_neg u (by omega))
   generalize Lib.itoa (-(u : Int)) = it at *
   generalize Lib.decDigits u = ds at *
   go_enter Tryz.func60, Tryz.ntmps60
   go_wp2_with fail
   refine HB.out.mono ?_
   rintro e w1 ⟨rfl, hE⟩
   go_wp2_with fail
   go_ret
   exact ⟨by rw [HX.out]; rfl, hE⟩
 · obtain ⟨u, rfl⟩ : ∃ u : Nat, n = u := ⟨n.toNat, by omega⟩
   have HB := hid (below_any u (by omega) w)
   have HX := hid (Lib.itoa_nonneg u)
   have v0 : IntKind.i64.wrap (-(u : Int)) = -(u : Int) := by rw [IntKind.wrap_i64]; omega
   generalize Lib.itoa (u : Int) = it at *
   generalize Lib.decDigits u = ds at *
   go_enter Tryz.func60, Tryz.ntmps60
   go_wp2_with fail
   refine HB.out.mono ?_
   rintro e w1 ⟨rfl, hE⟩
   go_wp2_with fail
   go_ret
   exact ⟨by rw [HX.out]; rfl, hE⟩

end
section
attribute [local go_sem] extUpon run_store_tm
attribute [local go_sem ↓] Tm.val_cell eval_put_ne eval_put_none eval_put_same size_put eval_const
attribute [local go_sem ↓] meth_Atom meth_Public meth_Shared meth_Chain meth_Digest meth_Box meth_Empty
attribute [local go_sem ↓] run_build_chain run_build_digest run_build_box
attribute [local go_sem] ta_Atom_Atom ta_Public_Atom ta_Shared_Atom ta_Chain_Atom ta_Digest_Atom ta_Box_Atom ta_Empty_Atom ta_Nil_Atom ta_Atom_Public ta_Public_Public ta_Shared_Public ta_Chain_Public ta_Digest_Public ta_Box_Public ta_Empty_Public ta_Nil_Public ta_Atom_Shared ta_Public_Shared ta_Shared_Shared ta_Chain_Shared ta_Digest_Shared ta_Box_Shared ta_Empty_Shared ta_Nil_Shared ta_Atom_Chain ta_Public_Chain ta_Shared_Chain ta_Chain_Chain ta_Digest_Chain ta_Box_Chain ta_Empty_Chain ta_Nil_Chain ta_Atom_Digest ta_Public_Digest ta_Shared_Digest ta_Chain_Digest ta_Digest_Digest ta_Box_Digest ta_Empty_Digest ta_Nil_Digest ta_Atom_Box ta_Public_Box ta_Shared_Box ta_Chain_Box ta_Digest_Box ta_Box_Box ta_Empty_Box ta_Nil_Box ta_Atom_Empty ta_Public_Empty ta_Shared_Empty ta_Chain_Empty ta_Digest_Empty ta_Box_Empty ta_Empty_Empty ta_Nil_Empty
set_option maxRecDepth 100000 in
theorem plain_atom (n : Int) (w : World) : Calls Tryz.prog 52 #[.iface 47 (.agg #[.int .i64 n])] w fun e w' => e = .returned (.agg #[.int .i64 2, .int .i64 n, .int .i64 0, .slice none 0 0]) ∧ Ext w w' := by
 go_enter Tryz.func52, Tryz.ntmps52
 go_wp2_with fail
 refine bodyPost_ret (v := .agg #[.int .i64 2, .int .i64 n, .int .i64 0, .slice none 0 0]) ?_ rfl ?_
 · simp only [results, show Tryz.f52.results = #[.cell 2 106] from rfl]
   go_simp
 · exact ⟨rfl, (Ext.alloc _ _).alloc' _⟩

set_option maxHeartbeats 1000000 in
set_option maxRecDepth 100000 in
theorem refname_atom (n : Int) (h0 : -9223372036854775808 ≤ n) (h1 : n ≤ 9223372036854775807) (w : World) :
 Calls Tryz.prog 51 #[.agg #[.int .i64 2, .int .i64 n, .int .i64 0, .slice none 0 0]] w fun e w' => e = .returned (str (97 :: Lib.itoa n)) ∧ Ext w w' := by
 have HD := hid (digits_any n h0 h1)
 have hl : (Lib.itoa n).length ≤ 1000 := by
  by_cases hn : n < 0
  · obtain ⟨u, rfl⟩ : ∃ u : Nat, n = -(u : Int) := ⟨n.natAbs, by omega⟩
    rw [Lib.itoa_neg u (by omega)]
    have := Lib.nDigits_le20 u (by omega)
    simp [Lib.decDigits_length]; omega
  · obtain ⟨u, rfl⟩ : ∃ u : Nat, n = u := ⟨n.toNat, by omega⟩
    rw [Lib.itoa_nonneg u]
    have := Lib.nDigits_le20 u (by omega)
    simp [Lib.decDigits_length]; omega
 generalize Lib.itoa n = it at *
 go_enter Tryz.func51, Tryz.ntmps51
 go_wp2_with fail
 refine (HD.out _).mono ?_
 rintro e w1 ⟨rfl, hE⟩
 go_wp2_with fail
 go_ret
 exact ⟨rfl, (Ext.alloc _ _).trans hE⟩

set_option maxRecDepth 100000 in
theorem doc_atom (n : Int) (h0 : -9223372036854775808 ≤ n) (h1 : n ≤ 9223372036854775807) (w : World) :
 Calls Tryz.prog 37 #[.iface 47 (.agg #[.int .i64 n])] w fun e w' => e = .returned (str (97 :: Lib.itoa n)) ∧ Ext w w' := by
 have HR := hid (refname_atom n h0 h1)
 generalize Lib.itoa n = it at *
 go_enter Tryz.func37, Tryz.ntmps37
 go_wp2_with fail
 refine (plain_atom n _).mono ?_
 rintro e w1 ⟨rfl, hE1⟩
 have HE1 := hid hE1
 clear hE1
 go_wp2_with fail
 refine (HR.out _).mono ?_
 rintro e w2 ⟨rfl, hE2⟩
 have HE2 := hid (HE1.out.trans hE2)
 clear hE2
 go_wp2_with fail
 go_ret
 exact ⟨rfl, HE2.out⟩
end
section
attribute [local go_sem] extUpon run_store_tm
attribute [local go_sem ↓] Tm.val_cell eval_put_ne eval_put_none eval_put_same size_put eval_const
attribute [local go_sem ↓] meth_Atom meth_Public meth_Shared meth_Chain meth_Digest meth_Box meth_Empty
attribute [local go_sem ↓] run_build_chain run_build_digest run_build_box
attribute [local go_sem] ta_Atom_Atom ta_Public_Atom ta_Shared_Atom ta_Chain_Atom ta_Digest_Atom ta_Box_Atom ta_Empty_Atom ta_Nil_Atom ta_Atom_Public ta_Public_Public ta_Shared_Public ta_Chain_Public ta_Digest_Public ta_Box_Public ta_Empty_Public ta_Nil_Public ta_Atom_Shared ta_Public_Shared ta_Shared_Shared ta_Chain_Shared ta_Digest_Shared ta_Box_Shared ta_Empty_Shared ta_Nil_Shared ta_Atom_Chain ta_Public_Chain ta_Shared_Chain ta_Chain_Chain ta_Digest_Chain ta_Box_Chain ta_Empty_Chain ta_Nil_Chain ta_Atom_Digest ta_Public_Digest ta_Shared_Digest ta_Chain_Digest ta_Digest_Digest ta_Box_Digest ta_Empty_Digest ta_Nil_Digest ta_Atom_Box ta_Public_Box ta_Shared_Box ta_Chain_Box ta_Digest_Box ta_Box_Box ta_Empty_Box ta_Nil_Box ta_Atom_Empty ta_Public_Empty ta_Shared_Empty ta_Chain_Empty ta_Digest_Empty ta_Box_Empty ta_Empty_Empty ta_Nil_Empty
def dval (l : List UInt8) : Nat := l.foldl (fun a d => a * 10 + (d.toNat - 48)) 0
theorem dval_dec (u : Nat) : dval (Lib.decDigits u) = u := by
 induction u using Nat.strongRecOn with
 | _ u ih =>
  by_cases h10 : u < 10
  · rw [Lib.decDigits_one h10]
    have : (UInt8.ofNat (48 + u)).toNat = 48 + u := by simp [UInt8.toNat_ofNat']; omega
    simp only [dval, List.foldl_cons, List.foldl_nil, this]; omega
  · rw [Lib.decDigits, dif_neg h10]
    have h1 := ih (u / 10) (by omega)
    have : (UInt8.ofNat (48 + u % 10)).toNat = 48 + u % 10 := by simp [UInt8.toNat_ofNat']; omega
    unfold dval at *
    rw [List.foldl_append, h1]
    simp only [List.foldl_cons, List.foldl_nil, this]; omega
theorem itoa_ne {m n : Int} (hm : -1000 ≤ m ∧ m ≤ 0) (hn : -1000 ≤ n ∧ n ≤ 0) (h : m ≠ n) : (97 :: Lib.itoa m : List UInt8) ≠ 97 :: Lib.itoa n := by
 intro e
 have e2 := (List.cons.inj e).2
 have hz : Lib.itoa 0 = [48] := by have := Lib.itoa_nonneg 0; rw [Lib.decDigits_one (by omega)] at this; simpa using this
 obtain ⟨a, rfl⟩ : ∃ a : Nat, m = -(a : Int) := ⟨m.natAbs, by omega⟩
 obtain ⟨b, rfl⟩ : ∃ b : Nat, n = -(b : Int) := ⟨n.natAbs, by omega⟩
 rcases Nat.eq_zero_or_pos a with rfl | ha
 · rcases Nat.eq_zero_or_pos b with rfl | hb
   · exact h rfl
   · rw [Lib.itoa_neg b hb] at e2
     have e3 : [48] = 45 :: Lib.decDigits b := hz.symm.trans e2
     have := (List.cons.inj e3).1
     revert this; decide
 · rcases Nat.eq_zero_or_pos b with rfl | hb
   · rw [Lib.itoa_neg a ha] at e2
     have e3 : 45 :: Lib.decDigits a = [48] := e2.trans hz
     have := (List.cons.inj e3).1
     revert this; decide
   · rw [Lib.itoa_neg a ha, Lib.itoa_neg b hb] at e2
     have := congrArg dval (List.cons.inj e2).2
     rw [dval_dec, dval_dec] at this
     exact h (by rw [this])
theorem ne_str {a b : List UInt8} (h : a ≠ b) : str a ≠ str b := by
 intro e
 exact h (by simpa [str] using e)
set_option maxHeartbeats 4000000 in
set_option maxRecDepth 100000 in
theorem terms_any (la lb : List Int) (a b : Option Addr) (ca cb : Nat) (w : World) (ha : ∀ n ∈ la, -1000 ≤ n ∧ n ≤ 0) (hb : ∀ n ∈ lb, -1000 ≤ n ∧ n ≤ 0) (hlen : la.length = lb.length) (hl : la.length ≤ 1000)
 (HA0 : Rd w a (la.map fun n => .iface 47 (.agg #[.int .i64 n]))) (HB0 : Rd w b (lb.map fun n => .iface 47 (.agg #[.int .i64 n]))) :
 Calls Tryz.prog 25 #[.slice a la.length ca, .slice b la.length cb] w fun e w' => e = .returned (.bool (decide (la = lb))) ∧ Ext w w' := by
 have HA := hid HA0
 have HB := hid HB0
 have HL := hid hlen
 clear HA0 HB0 hlen
 go_enter Tryz.func25, Tryz.ntmps25
 go_wp2_with fail
 go_loopw [5] (fun iv wr => ∃ i : Nat, iv = .int .i64 i ∧ i ≤ la.length ∧ Hid (Ext w wr) ∧ Hid (la.take i = lb.take i)) (fun iv _ => la.length - (intOf iv).toNat)
 case atStart => exact ⟨0, rfl, by omega, hid (Ext.refl _), hid (by simp)⟩
 case round =>
  obtain ⟨i, rfl, hi, HY, HT⟩ := hrel
  by_cases hlt : i < la.length
  · have hlt2 : (i : Int) < (la.length : Int) := by omega
    obtain ⟨g, rfl, _, hca⟩ := HA.out (by simp; omega)
    obtain ⟨g2, rfl, _, hcb⟩ := HB.out (by have := HL.out; simp; omega)
    have hltb : i < lb.length := by have := HL.out; omega
    have HCA0 := hid (hca i _ (by rw [List.getElem?_map, List.getElem?_eq_getElem hlt]; rfl))
    have HCB0 := hid (hcb i _ (by rw [List.getElem?_map, List.getElem?_eq_getElem hltb]; rfl))
    have HCA := hid (HY.out.cell HCA0.out)
    have HCB := hid (HY.out.cell HCB0.out)
    have hx := ha _ (List.getElem_mem hlt)
    have hy := hb _ (List.getElem_mem hltb)
    have HTA := hid (List.take_succ_eq_append_getElem hlt)
    have HTB := hid (List.take_succ_eq_append_getElem hltb)
    have HNX := hid (fun W => doc_atom la[i] (by omega) (by omega) W)
    have HNY := hid (fun W => doc_atom lb[i] (by omega) (by omega) W)
    have HNE : Hid (∀ W : la = lb, la[i] = lb[i]) := hid (fun e => by subst e; rfl)
    clear hca hcb HCA0 HCB0
    generalize la[i] = x at *
    generalize lb[i] = y at *
    by_cases hxy : x = y
    ·
     subst hxy
     generalize (97 :: Lib.itoa x : List UInt8) = sx at *
     go_wp2_with fail
     refine reg_begin 11 (by kernel_rfl) ?_
     refine reg_hide (fun Q2 HQ => ?_)
     generalize hW : World.drew _ = W8
     have HE8 : Hid (Ext wr W8) := hid (by rw [← hW]; exact Ext.drew _)
     clear hW
     iterate 3 (refine reg_pf 11 rfl (by kernel_rfl) (by kernel_rfl) ?_; apply Exists.intro; refine ⟨fun w' => ?_, ?_⟩; · go_simp; exact rfl)
     refine reg_quiet 3 rfl (by kernel_rfl) (by kernel_rfl) ?_; apply Exists.intro; refine ⟨fun w' hw' => ?_, ?_⟩; · have q0 : w'.cell? ⟨g, i, none⟩ = some (.iface 47 (.agg #[.int .i64 x])) := (HE8.out.trans hw').cell HCA.out; go_simp; exact ⟨rfl, Ext.refl _⟩
     refine reg_quiet 4 rfl (by kernel_rfl) (by kernel_rfl) ?_; apply Exists.intro; refine ⟨fun w' hw' => ?_, ?_⟩; · go_simp; exact HNX.out w'
     iterate 3 (refine reg_pf 11 rfl (by kernel_rfl) (by kernel_rfl) ?_; apply Exists.intro; refine ⟨fun w' => ?_, ?_⟩; · go_simp; exact rfl)
     refine reg_quiet 8 rfl (by kernel_rfl) (by kernel_rfl) ?_; apply Exists.intro; refine ⟨fun w' hw' => ?_, ?_⟩; · have q0 : w'.cell? ⟨g2, i, none⟩ = some (.iface 47 (.agg #[.int .i64 x])) := (HE8.out.trans hw').cell HCB.out; go_simp; exact ⟨rfl, Ext.refl _⟩
     refine reg_quiet 9 rfl (by kernel_rfl) (by kernel_rfl) ?_; apply Exists.intro; refine ⟨fun w' hw' => ?_, ?_⟩; · go_simp; exact HNX.out w'
     iterate 1 (refine reg_pf 11 rfl (by kernel_rfl) (by kernel_rfl) ?_; apply Exists.intro; refine ⟨fun w' => ?_, ?_⟩; · go_simp; exact rfl)
     refine reg_done (by kernel_rfl) (fun W9 hw5 => ?_) _
     rw [HQ.out]
     clear HQ Q2
     have HE9 := hid (HE8.out.trans hw5)
     clear hw5
     go_simp
     go_wp2_with fail
     go_roundw
     case rel => exact ⟨i + 1, by go_num, by omega, hid (HY.out.trans HE9.out), hid (by rw [HTA.out, HTB.out, HT.out])⟩
     case measure => simp [intOf]; omega
    ·
     have hne := itoa_ne hx hy hxy
     have hde : decide (la = lb) = false := decide_eq_false (fun e => hxy (HNE.out e))
     replace hde := hid hde
     generalize (97 :: Lib.itoa x : List UInt8) = sx at *
     generalize (97 :: Lib.itoa y : List UInt8) = sy at *
     have hbe : (sx == sy) = false := by simp [hne]
     go_wp2_with fail
     refine reg_begin 11 (by kernel_rfl) ?_
     refine reg_hide (fun Q2 HQ => ?_)
     generalize hW : World.drew _ = W8
     have HE8 : Hid (Ext wr W8) := hid (by rw [← hW]; exact Ext.drew _)
     clear hW
     iterate 3 (refine reg_pf 11 rfl (by kernel_rfl) (by kernel_rfl) ?_; apply Exists.intro; refine ⟨fun w' => ?_, ?_⟩; · go_simp; exact rfl)
     refine reg_quiet 3 rfl (by kernel_rfl) (by kernel_rfl) ?_; apply Exists.intro; refine ⟨fun w' hw' => ?_, ?_⟩; · have q0 : w'.cell? ⟨g, i, none⟩ = some (.iface 47 (.agg #[.int .i64 x])) := (HE8.out.trans hw').cell HCA.out; go_simp; exact ⟨rfl, Ext.refl _⟩
     refine reg_quiet 4 rfl (by kernel_rfl) (by kernel_rfl) ?_; apply Exists.intro; refine ⟨fun w' hw' => ?_, ?_⟩; · go_simp; exact HNX.out w'
     iterate 3 (refine reg_pf 11 rfl (by kernel_rfl) (by kernel_rfl) ?_; apply Exists.intro; refine ⟨fun w' => ?_, ?_⟩; · go_simp; exact rfl)
     refine reg_quiet 8 rfl (by kernel_rfl) (by kernel_rfl) ?_; apply Exists.intro; refine ⟨fun w' hw' => ?_, ?_⟩; · have q0 : w'.cell? ⟨g2, i, none⟩ = some (.iface 47 (.agg #[.int .i64 y])) := (HE8.out.trans hw').cell HCB.out; go_simp; exact ⟨rfl, Ext.refl _⟩
     refine reg_quiet 9 rfl (by kernel_rfl) (by kernel_rfl) ?_; apply Exists.intro; refine ⟨fun w' hw' => ?_, ?_⟩; · go_simp; exact HNY.out w'
     iterate 1 (refine reg_pf 11 rfl (by kernel_rfl) (by kernel_rfl) ?_; apply Exists.intro; refine ⟨fun w' => ?_, ?_⟩; · go_simp; exact rfl)
     refine reg_done (by kernel_rfl) (fun W9 hw5 => ?_) _
     rw [HQ.out]
     clear HQ Q2
     have HE9 := hid (HE8.out.trans hw5)
     clear hw5
     go_simp
     go_wp2_with fail
     go_ret
     exact ⟨by rw [hde.out]; rfl, HY.out.trans HE9.out⟩
  · have hlt2 : ¬ (i : Int) < (la.length : Int) := by omega
    have hil : i = la.length := by omega
    have heq : la = lb := by
     have h1 := HT.out
     rw [hil, List.take_length, HL.out, List.take_length] at h1
     exact h1
    have hde := hid (show decide (la = lb) = true from decide_eq_true heq)
    clear heq
    go_wp2_with fail
    go_ret
    exact ⟨by rw [hde.out]; rfl, HY.out⟩
end

end Go.Proofs.YtjodmedgkmeklaaGreat

/-
  Rows of atoms.
-/
namespace Go.Proofs.YtjodmedgkmeklaaGreat
open Go Go.RowKit Go.Maps
/-- The numbers of a row of atoms. -/
def tn (l : List Tm) : List Int := l.map fun t => match t with | .atom n => n | _ => 0
theorem tn_map {l : List Tm} (h : ∀ t ∈ l, ∃ n, t = .atom n ∧ n < 0 ∧ -1000 ≤ n) : l.map Tm.val = (tn l).map (fun n => .iface 47 (.agg #[.int .i64 n])) ∧ ∀ n ∈ tn l, -1000 ≤ n ∧ n ≤ 0 := by
 induction l with
 | nil => exact ⟨rfl, fun n hn => by cases hn⟩
 | cons t l ih =>
  obtain ⟨n, rfl, h1, h2⟩ := h t (List.mem_cons_self ..)
  obtain ⟨h3, h4⟩ := ih (fun u hu => h u (List.mem_cons_of_mem _ hu))
  refine ⟨?_, fun x hx => ?_⟩
  · show Tm.val (.atom n) :: l.map Tm.val = _
    rw [h3]; rfl
  · rcases List.mem_cons.1 hx with hx | hx
    · have hx : x = n := hx
      omega
    · exact h4 x hx
theorem tn_len (l : List Tm) : (tn l).length = l.length := by simp [tn]

end Go.Proofs.YtjodmedgkmeklaaGreat

/-
  What an honest side says is new, and the other one takes it: plain.
-/
namespace Go.Proofs.YtjodmedgkmeklaaGreat
open Go Go.RowKit
variable {f : Int → List UInt8} {P : Int → Prop} {c i j : Nat} {μ : MS} {s r d : Sd}

/-- Whose box a finished side sends. -/
theorem Inv.mine (h : Inv f P c μ) (hs : s ∈ μ.sides) (h3 : s.step = 3) (hr : r ∈ μ.sides) (hr3 : r.step = 3) (hk : r.keys.1 = s.keys.1) (hp : s.peerN < 100) : r = s := by
 have hcn := h.cn s hs
 have hcr := h.cn r hr
 have hf : r.first = s.first ∧ r.chain = s.chain := by
  unfold Sd.keys at hk
  cases h1 : r.first <;> cases h2 : s.first <;> simp [h1, h2] at hk ⊢
  · exact hk
  · exact hk
 by_cases hdiff : s.fresh = r.fresh
 · exact h.same hr hs hdiff.symm
 · exfalso
   have g1 := h.fr100 hs
   have g2 := h.fr100 hr
   have g3 := h.stat _ (h.st s hs)
   have g4 := h.stat _ (h.st r hr)
   rcases fin_cases hcn (step_fin hcn h3) with ⟨st, fr, eR, sR, _, _, _, _, _, _, _, rfl⟩ | ⟨st, fr, eI, sI, _, _, _, _, _, _, _, rfl⟩ <;>
    rcases fin_cases hcr (step_fin hcr hr3) with ⟨st2, fr2, eR2, sR2, _, _, _, _, _, _, _, rfl⟩ | ⟨st2, fr2, eI2, sI2, _, _, _, _, _, _, _, rfl⟩
   · have h7 : ck3 fr2 eR2 sR2 st2 = ck3 fr eR sR st := hf.2
     have h8 : sR < 100 := hp
     have h9 : 100 ≤ fr2 := g2
     have h10 : ¬ fr = fr2 := hdiff
     simp only [ck3, ck2, ck1, Tm.chain.injEq, true_and] at h7
     obtain ⟨⟨h1, h2⟩, h3⟩ := h7
     rcases dT_inj h1 with e | e <;> rcases dT_inj h2 with e2 | e2 <;> omega
   · cases hf.1
   · cases hf.1
   · have h7 : ck3 eI2 fr2 st2 sI2 = ck3 eI fr st sI := hf.2
     have h8 : st ≤ 6 := g3.2
     have h11 : 100 ≤ fr := g1
     have h12 : st2 ≤ 6 := g4.2
     have h9 : 100 ≤ fr2 := g2
     have h10 : ¬ fr = fr2 := hdiff
     simp only [ck3, ck2, ck1, Tm.chain.injEq, true_and] at h7
     obtain ⟨⟨h1, h2⟩, h3⟩ := h7
     rcases dT_inj h1 with e | e <;> rcases dT_inj h2 with e2 | e2 <;> omega
/-- What a finished side says is new, if its chain is not bare. -/
theorem Inv.fresh_say (N : Nums f P) (hP : ∀ n, P1 n → P n) (h : Inv f P c μ) (hc : c ≤ 98) (hp : PoolOk f P μ) (hs : s ∈ μ.sides) (h1 : s.state = 1) (hpe : s.peerN < 100) (hb : Go.Proofs.YtjodmedgkmeklaaGreat.bare f μ.x s.chain = false) (n : Int) : names f μ.pool (nm f (.box s.keys.1 s.sent .empty (textOf n))) = false := by
 have hcn := h.cn s hs
 have hown := h.own hP
 obtain ⟨h3, hse, _, hle⟩ := fin_step hcn h1
 have hch := hcn.chain3 h3 (hown.fr s hs) (hown.st s hs)
 have hks := (keys_stiff hch).1
 have hdry : ∀ t : Tm, t.stiff = true → t.dry = true := by
  intro t
  induction t with
  | chain i a b ih1 ih2 => intro h; simp only [Tm.stiff, Bool.and_eq_true] at h; simp [Tm.dry, ih1 h.1, ih2 h.2]
  | empty => intro _; rfl
  | shared => intro _; rfl
  | _ => intro h; cases h
 have hok : (Tm.box s.keys.1 s.sent .empty (textOf n)).ok P := ⟨by unfold P0; omega, hks.1, trivial, text_ok n⟩
 cases hn : names f μ.pool (nm f (.box s.keys.1 s.sent .empty (textOf n))) with
 | false => rfl
 | true =>
  obtain ⟨t, ht, he⟩ := names_iff.1 hn
  have hokt := (hp.fine t ht).1
  have h5 := nm_sim N hokt hok he
  cases t <;> simp only [Sim] at h5
  rename_i kk m a x
  obtain ⟨rfl, ek, ea, _⟩ := h5
  obtain rfl : kk = s.keys.1 := nm_dry N _ hokt.2.1 hks.1 (hdry _ hks.2) ek
  obtain rfl : a = .empty := nm_dry N .empty hokt.2.2.1 trivial rfl ea
  rcases h.bx _ ht rfl with ⟨r, hr, hbx⟩ | ⟨k2, n2, a2, y2, e, hk⟩
  · obtain ⟨e1, e2, k, e3, e4⟩ := hbs_said hbx rfl
    have e5 := h.mine hs h3 hr e1 e2 hpe
    subst e5
    have e6 := (List.getElem?_eq_some_iff.1 e4).1
    omega
  · obtain ⟨rfl, _⟩ := Tm.box.inj e
    have h6 := h.bare N hP hks.1 hks.2 hk
    rw [(bare_keys s).1, hb] at h6; cases h6
theorem sent1 {t : Tm} (hn : names f μ.pool (nm f t) = false) : (μ.sent f P [t]).pool = μ.pool ++ [t] := by
 show ((μ.add f t).see f P t).pool = _
 unfold MS.see MS.add
 rw [hn]; rfl
theorem say_x {n : Int} (hi : μ.sides[i]? = some s) : (μ.play f P 4 i n 0).1.x = μ.x := by
 have e1 : μ.play f P 4 i n 0 = μ.say f P i s n := by
  rw [act_eq (by omega) (by omega)]
  unfold MS.honest
  rw [sideAt_nat hi]
  show μ.act f P (i : Int).toNat s 4 n 0 = _
  rw [Int.toNat_natCast]; rfl
 rw [e1]
 unfold MS.say
 split
 · rfl
 · split
   · rfl
   · exact (sent_same (f := f) (P := P) [.box s.keys.1 s.sent .empty (textOf n)] (μ := μ)).2.2.2
/-- An honest side says, and the other one takes it. -/
theorem talk (N : Nums f P) (hP : ∀ n, P1 n → P n) (h : Inv f P c μ) (hc : c ≤ 98) (hp : PoolOk f P μ) (hi : μ.sides[i]? = some s) (hj : μ.sides[j]? = some d) (hij : i ≠ j) (h1 : s.state = 1) (h2 : d.state = 1) (hpe : s.peerN < 100)
 (hb : Go.Proofs.YtjodmedgkmeklaaGreat.bare f μ.x s.chain = false) (hk : d.keys.2 = s.keys.1) (hg : d.got = s.sent) (hl : μ.pool.length + 1 ≤ 300) (n : Int) :
 ∃ μ2 μ3, μ.play f P 4 i n 0 = (μ2, 0) ∧ μ2.play f P 5 j μ.pool.length 0 = (μ3, 0) ∧ μ3.sides = (μ.sides.set i (s.more n)).set j { d with got := d.got + 1, took := d.took ++ [textOf n] } ∧ μ3.pool.length = μ.pool.length + 1 ∧ μ2.pool.length = μ.pool.length + 1 ∧ μ3.x = μ.x := by
 have hs := List.mem_of_getElem? hi
 have hnew := h.fresh_say N hP hc hp hs h1 hpe hb n
 obtain ⟨e1, e2, e3, e4⟩ := say_ok (f := f) (P := P) (n := n) hi h1 hl
 rw [sent1 hnew] at e4
 have ex := say_x (f := f) (P := P) (n := n) hi
 generalize he : μ.play f P 4 i n 0 = res at *
 obtain ⟨μ2, r2⟩ := res
 simp only at e1 e2 e3 e4 ex
 subst e1
 have hj2 : μ2.sides[j]? = some d := by rw [e2, List.getElem?_set_ne hij]; exact hj
 have hpl : μ2.place (μ.pool.length : Nat) = .box s.keys.1 s.sent .empty (textOf n) := by
  unfold MS.place
  rw [e4, if_pos (by simp; omega)]
  simp
 have e5 : μ2.play f P 5 j μ.pool.length 0 = μ2.take f j d μ.pool.length := by
  rw [act_eq (by omega) (by omega)]
  unfold MS.honest
  rw [sideAt_nat hj2]
  show μ2.act f P (j : Int).toNat d 5 _ 0 = _
  rw [Int.toNat_natCast]; rfl
 have e6 : μ2.take f j d μ.pool.length = (μ2.setSide j { d with got := d.got + 1, took := d.took ++ [textOf n] }, 0) := by
  unfold MS.take
  rw [if_neg (by simp [h2]), hpl]
  simp [hk, hg]
 refine ⟨μ2, _, rfl, e5.trans e6, by show μ2.sides.set j _ = _; rw [e2], by show μ2.pool.length = _; rw [e4]; simp, by rw [e4]; simp, ex⟩
/-- Two sides that talk. -/
def duo (l0 : List Sd) (x y : Int) (n : Nat) (A B : List Tm) : List Sd := l0 ++ [sdI3 x (100 + n) (101 + n) y A.length B.length A B, sdR3 y (101 + n) (100 + n) x B.length A.length B A]
theorem Inv.duo_bare (h : Inv f P c μ) (x y : Int) (n : Nat) : Go.Proofs.YtjodmedgkmeklaaGreat.bare f μ.x (ck3 (100 + n) (101 + n) y x) = false := by
 rw [bare_ck3]
 simp [sh, h.noX (n := 100 + (n : Int)) (by omega), h.noX (n := 101 + (n : Int)) (by omega)]
variable {l0 : List Sd} {x y : Int} {n : Nat} {A B : List Tm}
theorem duo_at (hl : l0.length = n) : (duo l0 x y n A B)[n]? = some (sdI3 x (100 + n) (101 + n) y A.length B.length A B) ∧ (duo l0 x y n A B)[n + 1]? = some (sdR3 y (101 + n) (100 + n) x B.length A.length B A) := by
 unfold duo
 refine ⟨?_, ?_⟩
 · rw [List.getElem?_append_right (by omega), hl, Nat.sub_self]; rfl
 · rw [List.getElem?_append_right (by omega), show n + 1 - l0.length = 1 by omega]; rfl
theorem talkA (N : Nums f P) (hP : ∀ n, P1 n → P n) (h : Inv f P c μ) (hc : c ≤ 98) (hp : PoolOk f P μ) (hd : μ.sides = duo l0 x y n A B) (hl0 : l0.length = n) (hy : y < 100) (hl : μ.pool.length + 1 ≤ 300) (m : Int) :
 ∃ μ2 μ3, μ.play f P 4 n m 0 = (μ2, 0) ∧ μ2.play f P 5 (n + 1 : Nat) μ.pool.length 0 = (μ3, 0) ∧ μ3.sides = duo l0 x y n (A ++ [textOf m]) B ∧ μ3.pool.length = μ.pool.length + 1 ∧ μ2.pool.length = μ.pool.length + 1 := by
 obtain ⟨hi, hj⟩ := duo_at (x := x) (y := y) (A := A) (B := B) hl0
 rw [← hd] at hi hj
 obtain ⟨μ2, μ3, e1, e2, e3, e4, e5, _⟩ := talk N hP h hc hp hi hj (by omega) rfl rfl hy (h.duo_bare x y n) rfl rfl hl m
 refine ⟨μ2, μ3, e1, e2, ?_, e4, e5⟩
 rw [e3, hd]
 unfold duo
 rw [List.set_append_right _ _ (by omega), List.set_append_right _ _ (by omega), hl0, Nat.sub_self, show n + 1 - n = 1 by omega]
 simp [Sd.more, sdI3, sdR3]
theorem talkB (N : Nums f P) (hP : ∀ n, P1 n → P n) (h : Inv f P c μ) (hc : c ≤ 98) (hp : PoolOk f P μ) (hd : μ.sides = duo l0 x y n A B) (hl0 : l0.length = n) (hx : x < 100) (hl : μ.pool.length + 1 ≤ 300) (m : Int) :
 ∃ μ2 μ3, μ.play f P 4 (n + 1 : Nat) m 0 = (μ2, 0) ∧ μ2.play f P 5 n μ.pool.length 0 = (μ3, 0) ∧ μ3.sides = duo l0 x y n A (B ++ [textOf m]) ∧ μ3.pool.length = μ.pool.length + 1 ∧ μ2.pool.length = μ.pool.length + 1 := by
 obtain ⟨hi, hj⟩ := duo_at (x := x) (y := y) (A := A) (B := B) hl0
 rw [← hd] at hi hj
 obtain ⟨μ2, μ3, e1, e2, e3, e4, e5, _⟩ := talk N hP h hc hp hj hi (by omega) rfl rfl hx (h.duo_bare x y n) rfl rfl hl m
 refine ⟨μ2, μ3, e1, e2, ?_, e4, e5⟩
 rw [e3, hd]
 unfold duo
 rw [List.set_append_right _ _ (by omega), List.set_append_right _ _ (by omega), hl0, Nat.sub_self, show n + 1 - n = 1 by omega]
 simp [Sd.more, sdI3, sdR3]
end Go.Proofs.YtjodmedgkmeklaaGreat

/-
  Whole numbers that come in as a row.
-/
namespace Go.Proofs.YtjodmedgkmeklaaGreat
open Go Go.RowKit Go.Maps Go.Deep
/-- Numbers in memory. -/
def IntsAt (w : World) (a : Option Addr) (l : List Int) : Prop := ∀ i (h : i < l.length), ∃ b o, a = some ⟨b, o, none⟩ ∧ w.cell? ⟨b, o + i, none⟩ = some (.int .i64 l[i])
theorem IntsAt.later {w w1 : World} {a : Option Addr} {l : List Int} (h : IntsAt w a l) (he : Ext w w1) : IntsAt w1 a l := fun i hi => by
 obtain ⟨b, o, ha, hc⟩ := h i hi
 exact ⟨b, o, ha, he.cell hc⟩
section
variable {H : Type} {enc : TypeId × Value → H} {w : World} {base : Nat} {spare : Nat → Bool} {held : Bool}
theorem open_ints {fuel : Nat} {cs : List Value} {x : DataW H × List MemPlace} (h : DataW.trod enc Tryz.prog w base spare held fuel 51 cs = some x) :
 ∃ (a : Option Addr) (cap : Nat) (l : List Int), cs = [.slice a l.length cap] ∧ IntsAt w a l ∧ l.length ≤ 9223372036854775807 := by
 rcases open_slice Tryz.underlying51 h with ⟨rfl, _⟩ | ⟨a, len, cap, m, n, D, Pl, rfl, hb, hl, hm, hmm, rfl, hx⟩
 · exact ⟨none, 0, [], rfl, fun i hi => by simp at hi, by simp⟩
 · have h7 : Tryz.prog.cellsOf 3 = 1 := by kernel_rfl
   rw [h7] at hx
   have hlm : len ≤ m := by subst hmm; split <;> omega
   obtain ⟨R, hR⟩ := choose_lt (α := Int) (n := len) (p := fun i r => ∃ cs', w.cells? base (a.add (i * 1)) 1 = some cs' ∧ cs' = [.int .i64 r]) (fun i hi => by
    obtain ⟨cs', h1, h2⟩ := hx i (by omega)
    obtain ⟨n2, e2, _, w2⟩ := DataW.trod_int Tryz.underlying3 h2
    exact ⟨n2, cs', h1, e2⟩)
   refine ⟨some a, cap, (List.range len).map R, by simp, fun i hi => ?_, by unfold maxLen at hm; simp; omega⟩
   have hi' : i < len := by simpa using hi
   obtain ⟨b, o, spot⟩ := a
   have hspot : spot = none := by
    obtain ⟨cs', h1, rfl⟩ := hR 0 (by omega)
    have := (World.cells?_some h1).2.2 0 (by omega)
    exact by simpa [Addr.add] using World.cell?_spot this
   subst hspot
   obtain ⟨cs', h1, rfl⟩ := hR i hi'
   have hc := (World.cells?_some h1).2.2
   have hadd : ∀ j, ((⟨b, o, none⟩ : Addr).add (i * 1)).add j = ⟨b, o + i + j, none⟩ := fun j => by
    unfold Addr.add; repeat' split
    all_goals simp_all
   have c0 := hc 0 (by omega)
   rw [hadd] at c0
   simp only [List.getElem_map, List.getElem_range]
   exact ⟨b, o, rfl, c0⟩
end
section
variable {H : Type} {enc : TypeId × Value → H} {w : World} {base : Nat} {spare : Nat → Bool} {held : Bool}
theorem slice_room {fuel len cap : Nat} {a : Option Addr} {x : DataW H × List MemPlace} (h : DataW.trod enc Tryz.prog w base spare held fuel 22 [.slice a len cap] = some x) : len ≤ cap := by
 rcases open_slice Tryz.underlying22 h with ⟨e, _⟩ | ⟨a2, len2, cap2, m, n, D, Pl, e, hb, hl, hm, hmm, rfl, hx⟩
 · simp at e; omega
 · simp at e; omega
end

end Go.Proofs.YtjodmedgkmeklaaGreat

/-
  The walk of ModelHonest.
-/
namespace Go.Proofs.YtjodmedgkmeklaaGreat
open Go Go.RowKit Go.Maps
attribute [local go_sem] extUpon run_store_tm
attribute [local go_sem ↓] Tm.val_cell eval_put_ne eval_put_none eval_put_same size_put eval_const
attribute [local go_sem ↓] meth_Atom meth_Public meth_Shared meth_Chain meth_Digest meth_Box meth_Empty
attribute [local go_sem ↓] run_build_chain run_build_digest run_build_box
attribute [local go_sem] ta_Atom_Atom ta_Public_Atom ta_Shared_Atom ta_Chain_Atom ta_Digest_Atom ta_Box_Atom ta_Empty_Atom ta_Nil_Atom ta_Atom_Public ta_Public_Public ta_Shared_Public ta_Chain_Public ta_Digest_Public ta_Box_Public ta_Empty_Public ta_Nil_Public ta_Atom_Shared ta_Public_Shared ta_Shared_Shared ta_Chain_Shared ta_Digest_Shared ta_Box_Shared ta_Empty_Shared ta_Nil_Shared ta_Atom_Chain ta_Public_Chain ta_Shared_Chain ta_Chain_Chain ta_Digest_Chain ta_Box_Chain ta_Empty_Chain ta_Nil_Chain ta_Atom_Digest ta_Public_Digest ta_Shared_Digest ta_Chain_Digest ta_Digest_Digest ta_Box_Digest ta_Empty_Digest ta_Nil_Digest ta_Atom_Box ta_Public_Box ta_Shared_Box ta_Chain_Box ta_Digest_Box ta_Box_Box ta_Empty_Box ta_Nil_Box ta_Atom_Empty ta_Public_Empty ta_Shared_Empty ta_Chain_Empty ta_Digest_Empty ta_Box_Empty ta_Empty_Empty ta_Nil_Empty
variable {f : Int → List UInt8} {P : Int → Prop} {w0 w W W2 W3 : World} {μ μ2 : MS} {c d wb : Nat} {B : Int} {F : Nat → Prop}

theorem wp_mid2 {P : Program} {x y z : Code} {Q : Exit → Act → World → Prop} {a : Act} {w : World} (M : Act → World → Prop) (h1 : x.wp P (Exit.then (fun a w => y.wp P (Exit.then M Q) a w) Q) a w) (h2 : ∀ a w, M a w → z.wp P Q a w) : (Code.seq x (Code.seq y z)).wp P Q a w :=
 wp_seq (Code.wp_mono (fun e a w q => by
  cases e <;> first
   | exact wp_seq (Code.wp_mono (fun e a w q => by cases e <;> first | exact h2 _ _ q | exact q) q)
   | exact q) h1)
theorem RawAt.take {w : World} {a : Option Addr} {l : List Raw} (h : RawAt w a l) (n : Nat) : RawAt w a (l.take n) := fun i hi => by
 obtain ⟨b, o, h1, h2⟩ := h i (by simp at hi; omega)
 refine ⟨b, o, h1, ?_⟩
 rw [List.getElem_take]; exact h2
theorem tookAt_nat {k : Nat} : tookAt μ (k : Int) = match μ.sides[k]? with | some s => s.took | none => [] := by
 unfold tookAt MS.sideAt
 rw [if_pos (by omega), Int.toNat_natCast]
 cases μ.sides[k]? <;> rfl
theorem self_any (A : List Tm) (a b : Option Addr) (ca cb : Nat) (w : World) (hl : A.length ≤ 1000) (ha : ∀ n ∈ tn A, -1000 ≤ n ∧ n ≤ 0)
 (HA : Rd w a ((tn A).map fun n => .iface 47 (.agg #[.int .i64 n]))) (HB : Rd w b ((tn A).map fun n => .iface 47 (.agg #[.int .i64 n]))) :
 Calls Tryz.prog 25 #[.slice a A.length ca, .slice b A.length cb] w fun e w' => e = .returned (.bool true) ∧ Ext w w' := by
 have h := terms_any (tn A) (tn A) a b ca cb w ha ha rfl (by rw [tn_len]; omega) HA HB
 rw [decide_eq_true rfl, tn_len] at h
 exact h
/-- What holds when the list has been cut. -/
def HMid (av : Option Addr) (cap : Nat) (a b : Int) (sv : Option Addr) (says : List Int) (scap : Nat) (w : World) (a' : Act) (w' : World) : Prop := ∃ (lx : List Raw) (u18 u19 u20 u21 u22 : Value), a' = ⟨#[.slice av lx.length cap, .int .i64 a, .int .i64 b, .slice sv says.length scap, undef, undef, undef, undef, .bool false, undef, undef, undef, undef, undef, undef, undef, undef, undef, u18, u19, u20, u21, u22, undef, undef, undef, undef, undef, undef, undef, undef, undef, undef, undef, undef, undef, undef, undef, undef, undef, undef, undef, undef, undef, undef, undef, undef, undef, undef, undef, undef, undef, undef, undef, undef, undef, undef, undef, undef, undef, undef, undef, undef, undef, undef, undef, undef, undef, undef, undef, undef, undef, undef, undef, undef, undef, undef, undef, undef, undef, undef, undef, undef, undef, undef, undef, undef, undef, undef, undef, undef, undef, undef, undef, undef, undef, undef, undef, undef, undef, undef, undef, undef, undef, undef, undef, undef, undef, undef, undef, undef, undef, undef, undef, undef, undef, undef, undef, undef, undef, undef, undef, undef, undef, undef, undef, undef, undef, undef, undef, undef, undef, undef, undef, undef, undef, undef, undef, undef, undef, undef, undef, undef, undef, undef, undef, undef, undef, undef, undef, undef, undef, undef, undef, undef, undef, undef, undef, undef, undef, undef, undef, undef, undef, undef], []⟩ ∧ lx.length ≤ 25 ∧ RawAt w av lx ∧ w' = w
set_option maxHeartbeats 32000000 in
set_option maxRecDepth 100000 in
theorem ModelHonest_walk (T : Nat → Int) (av : Option Addr) (cap : Nat) (l : List Raw) (a b : Int) (sv : Option Addr) (scap : Nat) (says : List Int) (w : World) (hT : TabAt w T) (hl : l.length ≤ 9223372036854775807) (hr : RawAt w av l) (hls : says.length ≤ 9223372036854775807) (hrs : IntsAt w sv says) (hroom : l.length ≤ cap) :
 Calls Tryz.prog 8 #[.slice av l.length cap, .int .i64 a, .int .i64 b, .slice sv says.length scap] w fun e w' => e = .returned (.bool true) ∧ Ext w w' := by
 have HN := hid (nums1 T)
 have HP : Hid (∀ n, P1 n → P1 n) := hid (fun _ h => h)
 have HI := hid (itoa_tab hT)
 clear hT
 generalize itoaT T = f at *
 go_enter Tryz.func8, Tryz.ntmps8
 refine wp_mid2 (HMid av cap a b sv says scap w) ?_ ?_
 · by_cases h25 : 25 < l.length
   · have h252 : (25 : Int) < (l.length : Int) := by omega
     have h253 : (25 : Int) ≤ (cap : Int) := by omega
     obtain ⟨ab, ao, rfl, _⟩ := hr 0 (by omega)
     have HT := hid (hr.take 25)
     have hlen : (l.take 25).length = 25 := by simp; omega
     go_wp2_with fail
     exact ⟨l.take 25, _, _, _, _, _, by rw [hlen], by omega, HT.out, rfl⟩
   · have h252 : ¬ (25 : Int) < (l.length : Int) := by omega
     go_wp2_with fail
     exact ⟨l, _, _, _, _, _, rfl, by omega, hr, rfl⟩
 rintro a' w' ⟨lx, u18, u19, u20, u21, u22, rfl, hlx, hrx, rfl⟩
 have HPL := hid (play_law HN.out HP.out HI.out av cap lx (by omega) hrx)
 have HRS0 := hid hrs
 clear hl hr hrx hrs hroom
 go_wp2_with fail
 refine HPL.out.mono ?_
 rintro e w2 ⟨wb, μ, rfl, hpw⟩
 obtain ⟨w1, hE1, hwd⟩ := hpw.wd
 have HST := hid hpw.st
 have HI1 := hid (HI.out.later hE1)
 have HEW1 := hid hE1
 have hE2 := hE1.trans hwd.ext
 have hkn := known_any HN.out HP.out (HI.out.later hE2)
 clear hpw HPL hE1
 go_wp2_with fail
 refine hkn.mono ?_
 rintro e w3 ⟨rfl, hE3⟩
 have HW := hid (hwd.later hE3)
 have HE := hid (hE2.trans hE3)
 clear hkn hE2 hE3 hwd
 have hfew := HW.out.inv.few
 by_cases h10 : 10 < μ.sides.length
 · have h102 : (10 : Int) < (μ.sides.length : Int) := by omega
   go_wp2_with fail
   refine (sides_w HN.out.small HP.out HW.out (by omega) (by omega)).mono ?_
   rintro e w5 ⟨sa, sc, rfl, _, hE5⟩
   have HE5 := hid (HE.out.trans hE5)
   clear hE5
   go_wp2_with fail
   go_ret
   exact ⟨rfl, HE5.out⟩
 have h102 : ¬ (10 : Int) < (μ.sides.length : Int) := by omega
 go_wp2_with fail
 refine (sides_w HN.out.small HP.out HW.out (by omega) (by omega)).mono ?_
 rintro e w5 ⟨sa, sc, rfl, _, hE5⟩
 have HW5 := hid (HW.out.later hE5)
 have HE5 := hid (HE.out.trans hE5)
 clear hE5
 go_wp2_with fail
 refine (pool_w HW5.out).mono ?_
 rintro e w6 ⟨pa, pc, rfl, _, hE6⟩
 have HW6 := hid (HW5.out.later hE6)
 have HE6 := hid (HE5.out.trans hE6)
 clear hE6 HW5 HE5
 by_cases h200 : 200 < μ.pool.length
 · have h2002 : (200 : Int) < (μ.pool.length : Int) := by omega
   go_wp2_with fail
   go_ret
   exact ⟨rfl, HE6.out⟩
 have h2002 : ¬ (200 : Int) < (μ.pool.length : Int) := by omega
 go_wp2_with fail
 refine (sides_w HN.out.small HP.out HW6.out (by omega) (by omega)).mono ?_
 rintro e w7 ⟨sa2, sc2, rfl, _, hE7⟩
 have HW7 := hid (HW6.out.later hE7)
 clear hE7 HW6
 have hma := emod_in a (m := 4) (by omega)
 have hmb := emod_in b (m := 4) (by omega)
 have hwr1 : IntKind.i64.wrap (1 + a % 4) = 1 + a % 4 := by rw [IntKind.wrap_i64]; omega
 have hwr2 : IntKind.i64.wrap (1 + b % 4) = 1 + b % 4 := by rw [IntKind.wrap_i64]; omega
 have hin : ∀ k : Int, 0 ≤ k ∧ k < 4 → 1 + k ∈ μ.statics := fun k hk => by
  rw [HST.out]
  rcases (show k = 0 ∨ k = 1 ∨ k = 2 ∨ k = 3 by omega) with rfl | rfl | rfl | rfl <;> decide
 obtain ⟨μ1, μ2, μ3, hpair⟩ := pair HN.out HP.out HW.out.inv HW.out.pool (hin (a % 4) hma) (hin (b % 4) hmb) rfl (by omega) (by omega)
 go_wp2_with fail
 refine (pick_any a 4 _ (by omega) (by omega)).mono ?_
 rintro e wx ⟨rfl, rfl⟩
 go_wp2_with fail
 refine (pick_any b 4 _ (by omega) (by omega)).mono ?_
 rintro e wx ⟨rfl, rfl⟩
 go_wp2_with fail
 clear hwr1 hwr2 hin
 have hx14 : 1 ≤ 1 + a % 4 ∧ 1 + a % 4 ≤ 4 := by omega
 have hy14 : 1 ≤ 1 + b % 4 ∧ 1 + b % 4 ≤ 4 := by omega
 generalize 1 + a % 4 = x at *
 generalize 1 + b % 4 = y at *
 have HA := hid (hpair.one 0)
 have HB := hid (hpair.two 0)
 have HS := hid hpair.shk
 have HSI := hid hpair.si
 have HL3 := hid hpair.len
 generalize hnn : μ.sides.length = nn at *
 clear hpair
 obtain ⟨n1, hn1⟩ : ∃ n1, n1 = nn + 1 := ⟨_, rfl⟩
 have hwr4 : IntKind.i64.wrap ((nn : Int) + 1) = (n1 : Int) := by rw [IntKind.wrap_i64]; omega
 have hn12 : n1 ≤ 12 := by omega
 replace hn1 := hid hn1
 have hplay := play_n HN.out HP.out HI1.out HW7.out (kind := 1) (a := 1) (b := x) (e := 0) (by omega) (by omega) (by omega) (by omega) (by omega) (by omega) (by omega) (by omega) (by omega)
 rw [HA.out] at hplay
 refine hplay.mono ?_
 rintro e w8 ⟨rfl, hw8, _⟩
 have HW8 := hid hw8
 clear hw8 hplay HW7
 go_wp2_with fail
 have hplay := play_n HN.out HP.out HI1.out HW8.out (kind := 1) (a := 0) (b := y) (e := 0) (by omega) (by omega) (by omega) (by omega) (by omega) (by omega) (by omega) (by omega) (by omega)
 rw [HB.out] at hplay
 refine hplay.mono ?_
 rintro e w9 ⟨rfl, hw9, _⟩
 have HW9 := hid hw9
 clear hw9 hplay HW8
 go_wp2_with fail
 have hshk := shakes_w HN.out HP.out HI1.out HW9.out (nn : Int) (n1 : Int) (intOk_small (by omega)) (intOk_small (by omega)) (by omega) (by omega) (by omega) (by omega)
 have hs : MS.shk f P1 (nn : Int) (n1 : Int) 3 μ2 = (μ3, true) := by rw [hn1.out]; exact HS.out
 rw [hs] at hshk
 refine hshk.mono ?_
 rintro e w10 ⟨rfl, hw10⟩
 have HW10 := hid (hw10.mono (Nat.le_refl _) (Nat.le_refl _) (by omega : (59 : Int) ≤ 899))
 clear hw10 hshk hs HW9
 go_wp2_with fail
 refine (sides_w HN.out.small HP.out HW10.out (by omega) (by omega)).mono ?_
 rintro e w11 ⟨sa3, sc3, rfl, hrow, hE11⟩
 have HW11 := hid (HW10.out.later hE11)
 have HSD : Hid (μ3.sides = duo μ.sides x y nn [] []) := hid (by rw [HSI.out]; rfl)
 have hdu := duo_at (x := x) (y := y) (A := []) (B := []) hnn
 rw [← HSD.out] at hdu
 have hlen3 : μ3.sides.length = nn + 2 := by rw [HSI.out]; simp [hnn]
 obtain ⟨g, rfl, hcell⟩ := hrow.at10 (by rw [hlen3]; omega)
 rw [hlen3]
 obtain ⟨n2, hn2⟩ : ∃ n2, n2 = nn + 2 := ⟨_, rfl⟩
 rw [← hn2]
 have hi1 : (nn : Int) < (n2 : Int) := by omega
 have hi2 : (n1 : Int) < (n2 : Int) := by have := hn1.out; omega
 have hi3 : n2 ≤ 12 := by omega
 replace hn2 := hid hn2
 clear hlen3
 have HCA := hid (hcell nn _ hdu.1)
 have HCB := hid (hcell n1 _ (by rw [hn1.out]; exact hdu.2))
 clear hrow hE11 hcell HW10
 have hown := HW11.out.inv.own HP.out
 have hsm3 := List.mem_of_getElem? hdu.1
 have hho := (HW11.out.inv.cn _ hsm3)
 have hall : (hash6 (100 + nn) (101 + nn) y x).all Small := all_of HN.out.small (ok_hash6 (hown.fr _ hsm3) (by unfold P1; omega) (by unfold P1; omega) (by unfold P1; omega))
 have hszh : sz (hash6 (100 + nn) (101 + nn) y x) ≤ 10000 := by rw [sz_hash6]; omega
 have hsame := fun W' (hW : Ext w11 W') => same_any (R := Small) (f := f) (hash6 (100 + nn) (101 + nn) y x) (hash6 (100 + nn) (101 + nn) y x) W' (HI1.out.later (HW11.out.ext.trans hW)) hall hall hszh hszh
 obtain ⟨hu, hd, hhv⟩ := Va.of (t := hash6 (100 + nn) (101 + nn) y x) (by simp [hash6])
 rw [hhv.eq, decide_eq_true rfl] at hsame
 have HSAME := hid hsame
 have HHV := hid hhv.eq
 clear hsame hhv hown hsm3 hho hall hszh hdu
 go_wp2_with fail
 refine reg_begin 32 (by kernel_rfl) ?_
 refine reg_hide (fun Q2 HQ => ?_)
 generalize hW : World.drew _ = W8
 have HE8 : Hid (Ext w11 W8) := hid (by rw [← hW]; exact Ext.drew _)
 clear hW
 iterate 4 (refine reg_pf 32 rfl (by kernel_rfl) (by kernel_rfl) ?_; apply Exists.intro; refine ⟨fun w' => ?_, ?_⟩; · go_simp; exact rfl)
 refine reg_quiet 4 rfl (by kernel_rfl) (by kernel_rfl) ?_; apply Exists.intro; refine ⟨fun w' hw' => ?_, ?_⟩; · have q0 : w'.cell? ⟨g, nn * 10 + 5, none⟩ = some (.int .i64 y) := (HE8.out.trans hw').cell (HCA.out 5 _ rfl); go_simp; exact ⟨rfl, Ext.refl _⟩
 iterate 8 (refine reg_pf 32 rfl (by kernel_rfl) (by kernel_rfl) ?_; apply Exists.intro; refine ⟨fun w' => ?_, ?_⟩; · go_simp; exact rfl)
 refine reg_quiet 13 rfl (by kernel_rfl) (by kernel_rfl) ?_; apply Exists.intro; refine ⟨fun w' hw' => ?_, ?_⟩; · have q0 : w'.cell? ⟨g, n1 * 10 + 5, none⟩ = some (.int .i64 x) := (HE8.out.trans hw').cell (HCB.out 5 _ rfl); go_simp; exact ⟨rfl, Ext.refl _⟩
 iterate 8 (refine reg_pf 32 rfl (by kernel_rfl) (by kernel_rfl) ?_; apply Exists.intro; refine ⟨fun w' => ?_, ?_⟩; · go_simp; exact rfl)
 refine reg_quiet 22 rfl (by kernel_rfl) (by kernel_rfl) ?_; apply Exists.intro; refine ⟨fun w' hw' => ?_, ?_⟩; · have q0 : w'.cell? ⟨g, nn * 10 + 6, none⟩ = some (.iface hu hd) := HHV.out ▸ (HE8.out.trans hw').cell (HCA.out 6 _ rfl); go_simp; exact ⟨rfl, Ext.refl _⟩
 iterate 5 (refine reg_pf 32 rfl (by kernel_rfl) (by kernel_rfl) ?_; apply Exists.intro; refine ⟨fun w' => ?_, ?_⟩; · go_simp; exact rfl)
 refine reg_quiet 28 rfl (by kernel_rfl) (by kernel_rfl) ?_; apply Exists.intro; refine ⟨fun w' hw' => ?_, ?_⟩; · have q0 : w'.cell? ⟨g, n1 * 10 + 6, none⟩ = some (.iface hu hd) := HHV.out ▸ (HE8.out.trans hw').cell (HCB.out 6 _ rfl); go_simp; exact ⟨rfl, Ext.refl _⟩
 refine reg_quiet 29 rfl (by kernel_rfl) (by kernel_rfl) ?_; apply Exists.intro; refine ⟨fun w' hw' => ?_, ?_⟩; · go_simp; exact HSAME.out w' (HE8.out.trans hw')
 iterate 2 (refine reg_pf 32 rfl (by kernel_rfl) (by kernel_rfl) ?_; apply Exists.intro; refine ⟨fun w' => ?_, ?_⟩; · go_simp; exact rfl)
 refine reg_done (by kernel_rfl) (fun W9 hw5 => ?_) _
 rw [HQ.out]
 clear HQ Q2
 have HE9 := hid (HE8.out.trans hw5)
 clear hw5
 go_simp
 have HW12 := hid (HW11.out.later HE9.out)
 clear HE8 HE9
 go_wp2_with fail
 go_loopw [14] (fun iv wr => ∃ (k : Nat) (ν : MS) (A B : List Tm), iv = .int .i64 k ∧ k ≤ 10 ∧ k ≤ says.length ∧ Hid (Wd f P1 (60 + k) (60 + k) 899 (fun _ => False) w1 wr wb ν) ∧ Hid (ν.sides = duo μ.sides x y nn A B) ∧ Hid (ν.pool.length ≤ 206 + k) ∧ A.length + B.length = k) (fun iv _ => 10 - (intOf iv).toNat)
 case atStart => exact ⟨0, μ3, [], [], rfl, by omega, by omega, HW12, HSD, hid (by have := HL3.out; omega), rfl⟩
 case round =>
  obtain ⟨k, ν, A, B, rfl, hk10, hks, HV, HVS, HVL, hab⟩ := hrel
  by_cases hlk : k < says.length ∧ k < 10
  · have hlk2 : (k : Int) < (says.length : Int) := by omega
    have hlk3 : (k : Int) < 10 := by omega
    obtain ⟨sb, so, rfl, hsc⟩ := HRS0.out k hlk.1
    have HRS := hid (fun W' (hW : Ext w1 W') => (HEW1.out.trans hW).cell hsc)
    have hsmall : -2 < says[k].tmod 2 ∧ says[k].tmod 2 < 2 := by have := tmod_bd says[k] 2 (by omega); omega
    clear hsc
    generalize says[k] = sn at *
    have hwrs : IntKind.i64.wrap (sn.tmod 2) = sn.tmod 2 := by rw [IntKind.wrap_i64]; omega
    have hmn := emod_in sn (m := 900) (by omega)
    have hc1 : wr.cell? ⟨sb, so + k, none⟩ = some (.int .i64 sn) := HRS.out wr HV.out.ext
    have hpp := HVL.out
    by_cases hev : sn.tmod 2 = 0
    · 
      obtain ⟨ν2, ν3, z1, z2, z3, z4, z5⟩ := talkB HN.out HP.out HV.out.inv (by omega) HV.out.pool HVS.out hnn (by omega) (by omega) (sn % 900)
      rw [← hn1.out] at z1
      have HZ3 := hid z3
      have HZ4 := hid z4
      go_wp2_with fail
      refine (pool_w HV.out).mono ?_
      rintro e wp ⟨pa, pc, rfl, _, hEp⟩
      have HVp := hid (HV.out.later hEp)
      clear hEp hc1
      have hc1 : wp.cell? ⟨sb, so + k, none⟩ = some (.int .i64 sn) := HRS.out wp HVp.out.ext
      go_wp2_with fail
      refine (pick_any sn 900 _ (by omega) (by omega)).mono ?_
      rintro e wx ⟨rfl, rfl⟩
      clear hc1
      have hpl := play_4 HN.out HP.out HI1.out HVp.out (a := (n1 : Int)) (b := sn % 900) (e := 0) (by omega) (by omega) (by omega) (by omega) (by omega) (by omega) (by omega)
      rw [z1] at hpl
      go_wp2_with fail
      refine hpl.mono ?_
      rintro e w12 ⟨rfl, hw12, _⟩
      have hpl2 := play_5 HN.out HP.out HI1.out hw12 (a := (nn : Int)) (b := (ν.pool.length : Int)) (e := 0) (by omega) (by omega) (by omega) (by omega) (by omega) (by omega)
      rw [z2] at hpl2
      have HPL2 := hid hpl2
      clear hpl hpl2 hw12 z1 z2 z3 z4 z5
      go_wp2_with fail
      refine HPL2.out.mono ?_
      rintro e w13 ⟨rfl, hw13, _⟩
      have HW13 := hid hw13
      clear hw13 HPL2
      go_wp2_with fail
      go_roundw
      case rel => exact ⟨k + 1, ν3, A, B ++ [textOf (sn % 900)], by go_num, by omega, by omega, HW13, HZ3, hid (by have := HZ4.out; omega), by simp; omega⟩
      case measure => simp [intOf]; omega

    · have hev2 : (sn.tmod 2 == 0) = false := by simp [hev]
      obtain ⟨ν2, ν3, z1, z2, z3, z4, z5⟩ := talkA HN.out HP.out HV.out.inv (by omega) HV.out.pool HVS.out hnn (by omega) (by omega) (sn % 900)
      rw [← hn1.out] at z2
      have HZ3 := hid z3
      have HZ4 := hid z4
      go_wp2_with fail
      refine (pool_w HV.out).mono ?_
      rintro e wp ⟨pa, pc, rfl, _, hEp⟩
      have HVp := hid (HV.out.later hEp)
      clear hEp hc1
      have hc1 : wp.cell? ⟨sb, so + k, none⟩ = some (.int .i64 sn) := HRS.out wp HVp.out.ext
      go_wp2_with fail
      refine (pick_any sn 900 _ (by omega) (by omega)).mono ?_
      rintro e wx ⟨rfl, rfl⟩
      clear hc1
      have hpl := play_4 HN.out HP.out HI1.out HVp.out (a := (nn : Int)) (b := sn % 900) (e := 0) (by omega) (by omega) (by omega) (by omega) (by omega) (by omega) (by omega)
      rw [z1] at hpl
      go_wp2_with fail
      refine hpl.mono ?_
      rintro e w12 ⟨rfl, hw12, _⟩
      have hpl2 := play_5 HN.out HP.out HI1.out hw12 (a := (n1 : Int)) (b := (ν.pool.length : Int)) (e := 0) (by omega) (by omega) (by omega) (by omega) (by omega) (by omega)
      rw [z2] at hpl2
      have HPL2 := hid hpl2
      clear hpl hpl2 hw12 z1 z2 z3 z4 z5
      go_wp2_with fail
      refine HPL2.out.mono ?_
      rintro e w13 ⟨rfl, hw13, _⟩
      have HW13 := hid hw13
      clear hw13 HPL2
      go_wp2_with fail
      go_roundw
      case rel => exact ⟨k + 1, ν3, A ++ [textOf (sn % 900)], B, by go_num, by omega, by omega, HW13, HZ3, hid (by have := HZ4.out; omega), by simp; omega⟩
      case measure => simp [intOf]; omega

  · have hex : (k : Int) < (says.length : Int) ∧ ¬ (k : Int) < 10 ∨ ¬ (k : Int) < (says.length : Int) := by omega
    obtain ⟨hiA, hiB⟩ := duo_at (x := x) (y := y) (A := A) (B := B) hnn
    rw [← HVS.out] at hiA hiB
    rw [← hn1.out] at hiB
    obtain ⟨hAv, hAr⟩ := tn_map (fun t (ht : t ∈ A) => HV.out.inv.said_atom (List.mem_of_getElem? hiA) ht)
    obtain ⟨hBv, hBr⟩ := tn_map (fun t (ht : t ∈ B) => HV.out.inv.said_atom (List.mem_of_getElem? hiB) ht)
    have e1 : saidAt ν (nn : Int) = A := by rw [saidAt_nat, hiA]; rfl
    have e2 : tookAt ν (n1 : Int) = A := by rw [tookAt_nat, hiB]; rfl
    have e3 : saidAt ν (n1 : Int) = B := by rw [saidAt_nat, hiB]; rfl
    have e4 : tookAt ν (nn : Int) = B := by rw [tookAt_nat, hiA]; rfl
    have hs1 := fun W' (hW : Ext wr W') => said_w (HV.out.later hW) (by omega) (nn : Int)
    have hs2 := fun W' (hW : Ext wr W') => accepted_w (HV.out.later hW) (by omega) (n1 : Int)
    have hs3 := fun W' (hW : Ext wr W') => said_w (HV.out.later hW) (by omega) (n1 : Int)
    have hs4 := fun W' (hW : Ext wr W') => accepted_w (HV.out.later hW) (by omega) (nn : Int)
    simp only [e1, hAv] at hs1
    simp only [e2, hAv] at hs2
    simp only [e3, hBv] at hs3
    simp only [e4, hBv] at hs4
    have HS1 := hid hs1
    have HS2 := hid hs2
    have HS3 := hid hs3
    have HS4 := hid hs4
    have hlA : A.length ≤ 1000 := by omega
    have hlB : B.length ≤ 1000 := by omega
    have HTA := hid (fun W a1 c1 a2 c2 r1 r2 => self_any A a1 a2 c1 c2 W hlA hAr r1 r2)
    have HTB := hid (fun W a1 c1 a2 c2 r1 r2 => self_any B a1 a2 c1 c2 W hlB hBr r1 r2)
    have HEW := hid (HEW1.out.trans HV.out.ext)
    generalize (tn A).map (fun n => Value.iface 47 (.agg #[.int .i64 n])) = ta at *
    generalize (tn B).map (fun n => Value.iface 47 (.agg #[.int .i64 n])) = tb at *
    clear hiA hiB hAv hAr hBv hBr e1 e2 e3 e4 hs1 hs2 hs3 hs4 HVS HVL HV hlk
    rcases hex with ⟨hx1, hx2⟩ | hx1
    ·
     go_wp2_with fail
     refine (HS1.out wr (Ext.refl _)).mono ?_
     rintro e y1 ⟨a1, c1, rfl, r1, x1⟩
     have HX1 := hid x1
     have HR1 := hid r1
     clear r1 x1
     go_wp2_with fail
     refine (HS2.out y1 HX1.out).mono ?_
     rintro e y2 ⟨a2, c2, rfl, r2, x2⟩
     have HX2 := hid (HX1.out.trans x2)
     have HT := hid (HTA.out y2 a1 c1 a2 c2 (HR1.out.later x2) r2)
     clear r2 x2 HR1
     go_wp2_with fail
     refine HT.out.mono ?_
     rintro e y3 ⟨rfl, x3⟩
     have HX3 := hid (HX2.out.trans x3)
     clear x3
     go_wp2_with fail
     refine (HS3.out y3 HX3.out).mono ?_
     rintro e y4 ⟨a3, c3, rfl, r1, x1⟩
     have HX4 := hid (HX3.out.trans x1)
     have HR1 := hid r1
     clear r1 x1
     go_wp2_with fail
     refine (HS4.out y4 HX4.out).mono ?_
     rintro e y5 ⟨a4, c4, rfl, r2, x2⟩
     have HX5 := hid (HX4.out.trans x2)
     have HT := hid (HTB.out y5 a3 c3 a4 c4 (HR1.out.later x2) r2)
     clear r2 x2 HR1
     go_wp2_with fail
     refine HT.out.mono ?_
     rintro e y6 ⟨rfl, x3⟩
     have HX6 := hid (HX5.out.trans x3)
     go_wp2_with fail
     go_ret
     exact ⟨rfl, HEW.out.trans HX6.out⟩

    ·
     go_wp2_with fail
     refine (HS1.out wr (Ext.refl _)).mono ?_
     rintro e y1 ⟨a1, c1, rfl, r1, x1⟩
     have HX1 := hid x1
     have HR1 := hid r1
     clear r1 x1
     go_wp2_with fail
     refine (HS2.out y1 HX1.out).mono ?_
     rintro e y2 ⟨a2, c2, rfl, r2, x2⟩
     have HX2 := hid (HX1.out.trans x2)
     have HT := hid (HTA.out y2 a1 c1 a2 c2 (HR1.out.later x2) r2)
     clear r2 x2 HR1
     go_wp2_with fail
     refine HT.out.mono ?_
     rintro e y3 ⟨rfl, x3⟩
     have HX3 := hid (HX2.out.trans x3)
     clear x3
     go_wp2_with fail
     refine (HS3.out y3 HX3.out).mono ?_
     rintro e y4 ⟨a3, c3, rfl, r1, x1⟩
     have HX4 := hid (HX3.out.trans x1)
     have HR1 := hid r1
     clear r1 x1
     go_wp2_with fail
     refine (HS4.out y4 HX4.out).mono ?_
     rintro e y5 ⟨a4, c4, rfl, r2, x2⟩
     have HX5 := hid (HX4.out.trans x2)
     have HT := hid (HTB.out y5 a3 c3 a4 c4 (HR1.out.later x2) r2)
     clear r2 x2 HR1
     go_wp2_with fail
     refine HT.out.mono ?_
     rintro e y6 ⟨rfl, x3⟩
     have HX6 := hid (HX5.out.trans x3)
     go_wp2_with fail
     go_ret
     exact ⟨rfl, HEW.out.trans HX6.out⟩


end Go.Proofs.YtjodmedgkmeklaaGreat

/-
  The row of ModelHonest: for every input the law returns true, and leaves its arguments as they were.
-/
namespace Go.Proofs.YtjodmedgkmeklaaGreat
open Go Go.RowKit Go.ChangeShapes Go.WideShapes Go.ChangeAt

set_option maxRecDepth 100000 in
set_option maxHeartbeats 1000000 in
theorem ModelHonest_lifted (os : Os) (started : os.Started) (H : Type) (enc : TypeId × Value → H) :
 ReturnsInHanded {} Tryz.checked os 8 .any (Rows.modelHonestSpec.pre6 enc Tryz.prog Tryz.f8 Rows.modelHonestRow.domain false) (Rows.modelHonestSpec.post enc Tryz.prog Tryz.f8 false true false false) := by
 refine returnsInHanded_of_change_shaped (C := Tryz.checked) own started (by kernel_rfl) Tryz.func8
  (ChangeSpec.witness6 (enc := enc) (C := Tryz.checked) false ⟨#[], #[.slice none 0 0, .int .i64 0, .int .i64 0, .slice none 0 0], []⟩ 8 (by kernel_rfl) (by kernel_rfl) (by kernel_rfl) (by kernel_rfl)) ?_
 intro W base args ds gs before hval0 hW hcnd _ hsh _
 have hval : ∀ (j : Nat) t v, Tryz.f8.params[j]? = some t → args[j]? = some v → Value.okWide Tryz.prog W .any base t v := hval0
 have hW' := hW
 obtain ⟨p, q, hA0, hV, rfl, hfz, hnd⟩ := hW
 have hA : DataW.TrodAll enc Tryz.prog W 0 (fun _ => true) true Tryz.f8.params.toList args.toList ds p := hA0
 rw [Tryz.params8] at hA hval
 obtain ⟨v0, vs0, d0, ds0, p0, q0, hargs, rfl, rfl, h0, r0⟩ := trodAll_cons hA
 obtain ⟨v1, vs1, d1, ds1, p1, q1, rfl, rfl, rfl, h1, r1⟩ := trodAll_cons r0
 obtain ⟨v2, vs2, d2, ds2, p2, q2, rfl, rfl, rfl, h2, r2⟩ := trodAll_cons r1
 obtain ⟨v3, vs3, d3, ds3, p3, q3, rfl, rfl, rfl, h3, r3⟩ := trodAll_cons r2
 obtain ⟨rfl, rfl, rfl⟩ := trodAll_nil r3
 obtain rfl : args = #[v0, v1, v2, v3] := by cases args; simp_all
 obtain ⟨rfl, rfl⟩ := trodVars_none hV
 have hlt0 : ∀ x ∈ p0, x.block < W.heap.size := fun x hx => by simpa using hW'.lt x (by simp [hx])
 have hlt3 : ∀ x ∈ p3, x.block < W.heap.size := fun x hx => by simpa using hW'.lt x (by simp [hx])
 have hk0 := h0
 obtain ⟨s0, len0, cap0, rfl⟩ := okWide_slice Tryz.underlying22 (hval 0 22 v0 rfl rfl)
 obtain ⟨fuel0, hf0⟩ := h0
 obtain ⟨av0, cav0, l0, hcs0, hr0, hl0⟩ := open_raws hf0
 simp only [Value.cells, List.cons.injEq, and_true] at hcs0
 obtain ⟨rfl, rfl, rfl⟩ := Value.slice.inj hcs0
 obtain ⟨a1, rfl, rfl, rfl, w1⟩ := open_int Tryz.underlying3 (hval 1 3 v1 rfl rfl) h1
 obtain ⟨a2, rfl, rfl, rfl, w2⟩ := open_int Tryz.underlying3 (hval 2 3 v2 rfl rfl) h2
 have hk3 := h3
 obtain ⟨s3, len3, cap3, rfl⟩ := okWide_slice Tryz.underlying51 (hval 3 51 v3 rfl rfl)
 obtain ⟨fuel3, hf3⟩ := h3
 obtain ⟨av3, cav3, l3, hcs3, hr3, hl3⟩ := open_ints hf3
 simp only [Value.cells, List.cons.injEq, and_true] at hcs3
 obtain ⟨rfl, rfl, rfl⟩ := Value.slice.inj hcs3
 clear hA0 hval0
 simp only [List.append_nil] at hW'
 obtain ⟨T, hT⟩ := tab_of hsh
 refine (ModelHonest_walk T s0 cap0 l0 a1 a2 s3 cap3 l3 W hT hl0 hr0 hl3 hr3 (slice_room hf0)).mono fun e W' ⟨he, hg⟩ => ?_
 subst he
 exact ⟨_, rfl, _, _, _, _, _, _, hW', trodAll_cons_mk (shut_bool Tryz.underlying4 _) trodAll_mk0, (trodAll_cons_mk (Below.trod laidOut (by kernel_rfl) (of_decide_eq_true (by kernel_rfl)) hk0 hg hlt0) (trodAll_cons_mk (shut_int Tryz.underlying3 w1) (trodAll_cons_mk (shut_int Tryz.underlying3 w2) (trodAll_cons_mk (Below.trod laidOut (by kernel_rfl) (of_decide_eq_true (by kernel_rfl)) hk3 hg hlt3) trodAll_mk0)))), rfl, hg.frame _, fun h => by cases h⟩

theorem ModelHonest_over : Rows.modelHonestRow.holds Tryz.pinned (OpenSpec.ofChange Rows.modelHonestSpec) :=
 OpenClaim.holds_of_wide 8 Tryz.f8 rfl rfl rfl rfl rfl rfl rfl ⟨rfl, rfl, rfl, rfl, rfl⟩ rfl rfl rfl rfl rfl (by kernel_rfl) Tryz.func8 (by kernel_rfl)
  (of_decide_eq_true (by kernel_rfl)) (by unfold Func.isWrapper; first | (rw [if_pos (by decide +kernel)]; kernel_rfl) | (rw [if_neg (by decide +kernel)]; exact ⟨rfl, rfl⟩))
  (fun os started H enc _ => ModelHonest_lifted os started H enc)

theorem ModelHonest_holds : Rows.ModelHonestSaid := ModelHonest_over
#print axioms ModelHonest_holds
end Go.Proofs.YtjodmedgkmeklaaGreat
