/-
  The choice of a pivot.
-/
import Derived.Test.YtnlblmpfkikneaaS1
import Derived.Sort.LotD3
namespace Go.Proofs.Ytnlblmpfkikneaa
open Go Go.RowKit Go.Sort
attribute [local go_sem] extUpon
attribute [local go_sem ↓] eval_put_ne eval_put_none eval_put_same size_put eval_const
/-- The row, and beside it a counter. -/
structure Cn (B : World) (g : Nat) (d : Array Int) (c : Nat) (s : Int) (W : World) : Prop where
  sr : SR B g d W
  cnt : W.heap[c]? = some (.cells #[.int .i64 s] 3 (0, 0))
  far : B.heap.size ≤ c ∧ c ≠ g
section
variable {B W W2 W0 : World} {g n cap c : Nat} {d : Array Int} {s : Int}
theorem Cn.later (h : Cn B g d c s W) (he : Ext W W2) : Cn B g d c s W2 := ⟨h.sr.later he, he.blk h.cnt, h.far⟩
theorem Cn.bump (h : Cn B g d c s W) (t : Int) : Cn B g d c t (W.setCell ⟨c, 0, none⟩ (.int .i64 t)) :=
  ⟨h.sr.other (c := c) ⟨rfl, rfl, rfl, by simp [World.setCell], fun k _ hk => Below.heap_setCell W ⟨c, 0, none⟩ _ k (fun e => hk (by rw [e]))⟩ h.far.2 h.far.1,
    by simp [World.setCell, Array.getElem?_modify, h.cnt], h.far⟩
theorem Cn.start (h : SR B g d W) : Cn B g d W.heap.size 0 (W.alloc (.cells #[.int .i64 0] 3 (0, 0))) := by
  obtain ⟨cs, h1, _⟩ := h.blk
  have := (Array.getElem?_eq_some_iff.1 h1).1
  exact ⟨h.later (Ext.alloc _ _), blk_new _ _, h.ext.size, by omega⟩

set_option maxHeartbeats 4000000 in
set_option maxRecDepth 100000 in
theorem order2_any (a b : Nat) (s : Nat) (hd : d.size = n) (ha : a < n) (hb : b < n) (hs : s ≤ 1000) (hS : Cn B g d c s W) :
    Calls Try.prog 55 #[.slice (some ⟨g, 0, none⟩) n cap, .int .i64 a, .int .i64 b, .pointer (some ⟨c, 0, none⟩)] W fun e w' =>
      e = .returned (.tuple #[.int .i64 (order2 ltInt d a b s).1, .int .i64 (order2 ltInt d a b s).2.1]) ∧ Cn B g d c (order2 ltInt d a b s).2.2 w' := by
  have C0 := hid hS
  have S0 := hid hS.sr
  clear hS
  have ba : (a : Int) < (n : Int) := by omega
  have bb : (b : Int) < (n : Int) := by omega
  obtain ⟨x⟩ := Pl.mk' d a (by omega)
  obtain ⟨y⟩ := Pl.mk' d b (by omega)
  cases hlv : ltInt y.val x.val with
  | true =>
    have HL := hid (less_at hlv)
    have e2 : Hid (order2 ltInt d a b s = (b, a, s + 1)) := hid (by have e := hlv; rw [x.eq, y.eq] at e; simp [order2, e])
    clear hlv
    go_enter Try.func55, Try.ntmps55
    go_wp2_with fail
    refine reg_begin 9 (by kernel_rfl) ?_
    refine reg_hide (fun Q2 HQ => ?_)
    generalize hW : World.drew _ = W8
    have HE8 : Hid (Ext W W8) := hid (by rw [← hW]; exact Ext.drew _)
    clear hW
    iterate 3 (refine reg_pf 9 rfl (by kernel_rfl) (by kernel_rfl) ?_; apply Exists.intro; refine ⟨fun w' => ?_, ?_⟩; · go_simp; exact rfl)
    refine reg_quiet 3 rfl (by kernel_rfl) (by kernel_rfl) ?_; apply Exists.intro; refine ⟨fun w' hw' => ?_, ?_⟩; · have q0 : w'.cell? ⟨g, b, none⟩ = some (.int .u32 y.val) := y.is (S0.out.later (HE8.out.trans hw')); go_simp; exact ⟨rfl, Ext.refl _⟩
    iterate 3 (refine reg_pf 9 rfl (by kernel_rfl) (by kernel_rfl) ?_; apply Exists.intro; refine ⟨fun w' => ?_, ?_⟩; · go_simp; exact rfl)
    refine reg_quiet 7 rfl (by kernel_rfl) (by kernel_rfl) ?_; apply Exists.intro; refine ⟨fun w' hw' => ?_, ?_⟩; · have q0 : w'.cell? ⟨g, a, none⟩ = some (.int .u32 x.val) := x.is (S0.out.later (HE8.out.trans hw')); go_simp; exact ⟨rfl, Ext.refl _⟩
    refine reg_quiet 8 rfl (by kernel_rfl) (by kernel_rfl) ?_; apply Exists.intro; refine ⟨fun w' hw' => ?_, ?_⟩; · go_simp; exact HL.out w'
    refine reg_done (by kernel_rfl) (fun W9 hw5 => ?_) _
    rw [HQ.out]
    clear HQ Q2
    have C5 := hid (C0.out.later (HE8.out.trans hw5))
    clear hw5 HE8
    go_simp
    have q1 : W9.cell? ⟨c, 0, none⟩ = some (.int .i64 s) := cell_blk C5.out.cnt rfl
    have q2 : W9.frozen? ⟨c, 0, none⟩ = false := by simp [World.frozen?, C5.out.cnt]
    go_wp2_with fail
    go_ret2
    rw [e2.out]
    refine ⟨rfl, ?_⟩
    have := C5.out.bump ((s : Int) + 1)
    exact this
  | false =>
    have HL := hid (less_at hlv)
    have e2 : Hid (order2 ltInt d a b s = (a, b, s)) := hid (by have e := hlv; rw [x.eq, y.eq] at e; simp [order2, e])
    clear hlv
    go_enter Try.func55, Try.ntmps55
    go_wp2_with fail
    refine reg_begin 9 (by kernel_rfl) ?_
    refine reg_hide (fun Q2 HQ => ?_)
    generalize hW : World.drew _ = W8
    have HE8 : Hid (Ext W W8) := hid (by rw [← hW]; exact Ext.drew _)
    clear hW
    iterate 3 (refine reg_pf 9 rfl (by kernel_rfl) (by kernel_rfl) ?_; apply Exists.intro; refine ⟨fun w' => ?_, ?_⟩; · go_simp; exact rfl)
    refine reg_quiet 3 rfl (by kernel_rfl) (by kernel_rfl) ?_; apply Exists.intro; refine ⟨fun w' hw' => ?_, ?_⟩; · have q0 : w'.cell? ⟨g, b, none⟩ = some (.int .u32 y.val) := y.is (S0.out.later (HE8.out.trans hw')); go_simp; exact ⟨rfl, Ext.refl _⟩
    iterate 3 (refine reg_pf 9 rfl (by kernel_rfl) (by kernel_rfl) ?_; apply Exists.intro; refine ⟨fun w' => ?_, ?_⟩; · go_simp; exact rfl)
    refine reg_quiet 7 rfl (by kernel_rfl) (by kernel_rfl) ?_; apply Exists.intro; refine ⟨fun w' hw' => ?_, ?_⟩; · have q0 : w'.cell? ⟨g, a, none⟩ = some (.int .u32 x.val) := x.is (S0.out.later (HE8.out.trans hw')); go_simp; exact ⟨rfl, Ext.refl _⟩
    refine reg_quiet 8 rfl (by kernel_rfl) (by kernel_rfl) ?_; apply Exists.intro; refine ⟨fun w' hw' => ?_, ?_⟩; · go_simp; exact HL.out w'
    refine reg_done (by kernel_rfl) (fun W9 hw5 => ?_) _
    rw [HQ.out]
    clear HQ Q2
    have C5 := hid (C0.out.later (HE8.out.trans hw5))
    clear hw5 HE8
    go_simp
    go_wp2_with fail
    go_ret2
    rw [e2.out]
    exact ⟨rfl, C5.out⟩

theorem o2_lt {a b s m : Nat} (ha : a < m) (hb : b < m) : (order2 ltInt d a b s).1 < m ∧ (order2 ltInt d a b s).2.1 < m := by
  unfold order2
  split
  · exact ⟨hb, ha⟩
  · exact ⟨ha, hb⟩
theorem o2_sw (a b s : Nat) : (order2 ltInt d a b s).2.2 ≤ s + 1 := by
  unfold order2
  split
  · exact Nat.le_refl _
  · exact Nat.le_succ _

set_option maxHeartbeats 4000000 in
set_option maxRecDepth 100000 in
theorem median_any (a b e : Nat) (s : Nat) (hd : d.size = n) (ha : a < n) (hb : b < n) (he : e < n) (hs : s ≤ 100) (hS : Cn B g d c s W) :
    Calls Try.prog 53 #[.slice (some ⟨g, 0, none⟩) n cap, .int .i64 a, .int .i64 b, .int .i64 e, .pointer (some ⟨c, 0, none⟩)] W fun x w' =>
      x = .returned (.int .i64 (median ltInt d a b e s).1) ∧ Cn B g d c (median ltInt d a b e s).2 w' := by
  have HM : Hid (median ltInt d a b e s = ((order2 ltInt d (order2 ltInt d a b s).1 (order2 ltInt d (order2 ltInt d a b s).2.1 e (order2 ltInt d a b s).2.2).1 (order2 ltInt d (order2 ltInt d a b s).2.1 e (order2 ltInt d a b s).2.2).2.2).2.1, (order2 ltInt d (order2 ltInt d a b s).1 (order2 ltInt d (order2 ltInt d a b s).2.1 e (order2 ltInt d a b s).2.2).1 (order2 ltInt d (order2 ltInt d a b s).2.1 e (order2 ltInt d a b s).2.2).2.2).2.2)) := hid rfl
  have C0 := hid hS
  clear hS
  have l1 := o2_lt (d := d) (s := s) ha hb
  have s1 := o2_sw (d := d) a b s
  have H1 := hid (fun W (h : Cn B g d c s W) => order2_any (cap := cap) a b s hd ha hb (by omega) h)
  generalize order2 ltInt d a b s = r1 at *
  have l2 := o2_lt (d := d) (s := r1.2.2) l1.2 he
  have s2 := o2_sw (d := d) r1.2.1 e r1.2.2
  have H2 := hid (fun W (h : Cn B g d c r1.2.2 W) => order2_any (cap := cap) r1.2.1 e r1.2.2 hd l1.2 he (by omega) h)
  generalize order2 ltInt d r1.2.1 e r1.2.2 = r2 at *
  have H3 := hid (fun W (h : Cn B g d c r2.2.2 W) => order2_any (cap := cap) r1.1 r2.1 r2.2.2 hd l1.1 l2.1 (by omega) h)
  generalize order2 ltInt d r1.1 r2.1 r2.2.2 = r3 at *
  obtain ⟨a1, b1, t1⟩ := r1
  obtain ⟨a2, b2, t2⟩ := r2
  obtain ⟨a3, b3, t3⟩ := r3
  clear l1 s1 l2 s2
  go_enter Try.func53, Try.ntmps53
  go_wp2_with fail
  refine (H1.out _ C0.out).mono ?_
  rintro x w1 ⟨rfl, h1⟩
  have C1 := hid h1
  clear h1
  go_wp2_with fail
  refine (H2.out _ C1.out).mono ?_
  rintro x w2 ⟨rfl, h1⟩
  have C2 := hid h1
  clear h1
  go_wp2_with fail
  refine (H3.out _ C2.out).mono ?_
  rintro x w3 ⟨rfl, h1⟩
  have C3 := hid h1
  clear h1
  go_wp2_with fail
  go_ret
  rw [HM.out]
  exact ⟨rfl, C3.out⟩

def hCode : Hint → Int | .unknown => 0 | .increasing => 1 | .decreasing => 2
def hintOf (s : Nat) : Hint := if s = 0 then .increasing else if s = 12 then .decreasing else .unknown
theorem cp_big {a b : Nat} (h8 : 8 ≤ b - a) (h50 : b - a < 50) : choosePivot ltInt d a b = ((median ltInt d (a + (b - a) / 4) (a + (b - a) / 4 * 2) (a + (b - a) / 4 * 3) 0).1, hintOf (median ltInt d (a + (b - a) / 4) (a + (b - a) / 4 * 2) (a + (b - a) / 4 * 3) 0).2) := by
  unfold choosePivot
  simp only [ge_iff_le, h8, if_true, show ¬ 50 ≤ b - a by omega, if_false, Nat.mul_one]
  rfl
set_option maxHeartbeats 4000000 in
set_option maxRecDepth 100000 in
theorem pivot_any (a b : Nat) (hd : d.size = n) (hn : n < 50) (hab : 8 ≤ b - a) (hb : b ≤ n) (hS : SR B g d W) :
    Calls Try.prog 41 #[.slice (some ⟨g, 0, none⟩) n cap, .int .i64 a, .int .i64 b] W fun e w' =>
      e = .returned (.tuple #[.int .i64 (choosePivot ltInt d a b).1, .int .i64 (hCode (choosePivot ltInt d a b).2)]) ∧ SR B g d w' := by
  have C0 := hid (Cn.start hS)
  clear hS
  rw [cp_big (by omega) (by omega)]
  obtain ⟨L, hL⟩ : ∃ q, q = b - a := ⟨_, rfl⟩
  have z1 : IntKind.i64.wrap ((b : Int) - (a : Int)) = (L : Int) := by rw [IntKind.wrap_i64]; omega
  obtain ⟨h, hh⟩ : ∃ q, q = L / 4 := ⟨_, rfl⟩
  have z3 : (L : Int).tdiv 4 = (h : Int) := by rw [hh, Int.tdiv_eq_ediv_of_nonneg (by omega)]; omega
  obtain ⟨h2, hh2⟩ : ∃ q, q = h * 2 := ⟨_, rfl⟩
  obtain ⟨h3, hh3⟩ : ∃ q, q = h * 3 := ⟨_, rfl⟩
  obtain ⟨i, hi⟩ : ∃ q, q = a + h := ⟨_, rfl⟩
  obtain ⟨j, hj⟩ : ∃ q, q = a + h2 := ⟨_, rfl⟩
  obtain ⟨k, hk⟩ : ∃ q, q = a + h3 := ⟨_, rfl⟩
  have z4 : IntKind.i64.wrap ((h : Int) * 2) = (h2 : Int) := by rw [IntKind.wrap_i64]; omega
  have z5 : IntKind.i64.wrap ((h : Int) * 3) = (h3 : Int) := by rw [IntKind.wrap_i64]; omega
  have z6 : IntKind.i64.wrap ((a : Int) + (h : Int)) = (i : Int) := by rw [IntKind.wrap_i64]; omega
  have z7 : IntKind.i64.wrap ((a : Int) + (h2 : Int)) = (j : Int) := by rw [IntKind.wrap_i64]; omega
  have z8 : IntKind.i64.wrap ((a : Int) + (h3 : Int)) = (k : Int) := by rw [IntKind.wrap_i64]; omega
  have z9 : IntKind.i64.wrap ((h : Int) * 1) = (h : Int) := by rw [IntKind.wrap_i64]; omega
  rw [← hL, ← hh, ← hh2, ← hh3, ← hi, ← hj, ← hk]
  have H1 := hid (fun W' (s : Cn B g d W.heap.size 0 W') => median_any (cap := cap) i j k 0 hd (by omega) (by omega) (by omega) (by omega) s)
  have b8 : (8 : Int) ≤ (L : Int) := by omega
  have b50 : ¬ (50 : Int) ≤ (L : Int) := by omega
  generalize median ltInt d i j k 0 = r at *
  obtain ⟨r1, r2⟩ := r
  have bL : L < 50 := by omega
  have bh : h < 50 := by omega
  have bh2 : h2 < 50 := by omega
  have bh3 : h3 < 50 := by omega
  have bi : i < 50 := by omega
  have bj : j < 50 := by omega
  have bk : k < 50 := by omega
  clear hL hh hh2 hh3 hi hj hk
  go_enter Try.func41, Try.ntmps41
  go_wp2_with fail
  generalize World.alloc W _ = W1 at *
  generalize W.heap.size = c at *
  refine (H1.out _ C0.out).mono ?_
  rintro x w1 ⟨rfl, hc1⟩
  have C1 := hid hc1
  clear hc1
  have q1 : w1.cell? ⟨c, 0, none⟩ = some (.int .i64 r2) := cell_blk C1.out.cnt rfl
  by_cases h0 : r2 = 0
  · subst h0
    go_wp2_with fail
    go_ret2
    exact ⟨rfl, C1.out.sr⟩
  · have e0 : ((r2 : Int) == 0) = false := by simp; omega
    by_cases h12 : r2 = 12
    · subst h12
      go_wp2_with fail
      go_ret2
      exact ⟨rfl, C1.out.sr⟩
    · have e12 : ((r2 : Int) == 12) = false := by simp; omega
      go_wp2_with fail
      go_ret2
      exact ⟨by simp [hintOf, h0, h12, hCode], C1.out.sr⟩
end
end Go.Proofs.Ytnlblmpfkikneaa
