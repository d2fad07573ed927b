/-
  The walk of LockApart.
-/
import Derived.Test.YtnlblmpfkikneaaM7
import Derived.Test.YtnlblmpfkikneaaLkRow
import Derived.Test.YtnlblmpfkikneaaPick
import Derived.Test.YtnlblmpfkikneaaRegR
import Derived.Deep.DeepCutAuto
import Derived.Deep.Cut
import Derived.Deep.CutRange
import Derived.Deep.CutBlock
namespace Go.Proofs.Ytnlblmpfkikneaa
open Go Go.RowKit Go.Maps
attribute [local go_sem] extUpon
attribute [local go_sem ↓] eval_put_ne eval_put_none eval_put_same size_put eval_const

theorem n_put (v : TV) (a : Int) (now : Nat) : (v.put a now).n = if (v.rows a).isSome then v.n else v.n + 1 := rfl
theorem some_put (v : TV) (a b : Int) (now : Nat) : ((v.put a now).rows b).isSome = (decide (b = a) || (v.rows b).isSome) := by
  show (rset v.rows a _ b).isSome = _
  unfold rset
  split
  · rename_i h; simp [h]
  · rename_i h; simp [h]
/-- How many of four addresses have a row. -/
def cnt4 (v : TV) : Nat := (if (v.rows 0).isSome then 1 else 0) + (if (v.rows 1).isSome then 1 else 0) + (if (v.rows 2).isSome then 1 else 0) + (if (v.rows 3).isSome then 1 else 0)
theorem cnt4_le (v : TV) : cnt4 v ≤ 4 := by unfold cnt4; repeat' split
                                            all_goals omega
theorem cnt4_put {v : TV} (h : v.n = cnt4 v) (a : Nat) (ha : a < 4) (now : Nat) : (v.put a now).n = cnt4 (v.put a now) := by
  rw [n_put]
  unfold cnt4 at *
  simp only [some_put]
  have h4 : a = 0 ∨ a = 1 ∨ a = 2 ∨ a = 3 := by omega
  rcases h4 with rfl | rfl | rfl | rfl
  · cases h0 : (v.rows 0).isSome <;> simp_all <;> omega
  · cases h0 : (v.rows 1).isSome <;> simp_all <;> omega
  · cases h0 : (v.rows 2).isSome <;> simp_all <;> omega
  · cases h0 : (v.rows 3).isSome <;> simp_all
theorem room4 {v : TV} (h : v.n = cnt4 v) (a : Int) : v.Room a := .inr (by have := cnt4_le v; omega)

/-- One table of all, and one for each address. -/
structure Ap (v : TV) (u : Nat → TV) (tb : Nat) (g : Nat → Nat) (c : Cfg) : Prop where
  tb : v.tb = tb
  cc : v.c = c
  n : v.n = cnt4 v
  gb : ∀ k : Nat, k < 4 → (u k).tb = g k
  gc : ∀ k : Nat, k < 4 → (u k).c = c
  gr : ∀ k : Nat, k < 4 → (u k).Room (k : Int)
  same : ∀ k : Nat, k < 4 → v.row (k : Int) = (u k).row (k : Int)
def ArrAt (W : World) (ab : Nat) (g : Nat → Nat) : Prop := ∃ cs t, W.heap[ab]? = some (.cells cs t (0, 0)) ∧ ∀ k, k < 4 → cs[k]? = some (ptr (g k))
theorem ArrAt.cell {W : World} {ab : Nat} {g : Nat → Nat} (h : ArrAt W ab g) {k : Nat} (hk : k < 4) : W.cell? ⟨ab, k, none⟩ = some (ptr (g k)) := by
  obtain ⟨cs, t, h1, h2⟩ := h
  exact cell_blk h1 (h2 k hk)
theorem ArrAt.keep {W W2 : World} {ab : Nat} {g : Nat → Nat} (h : ArrAt W ab g) (he : W2.heap[ab]? = W.heap[ab]?) : ArrAt W2 ab g := by
  obtain ⟨cs, t, h1, h2⟩ := h
  exact ⟨cs, t, he.trans h1, h2⟩
theorem ArrAt.lt {W : World} {ab : Nat} {g : Nat → Nat} (h : ArrAt W ab g) : ab < W.heap.size := by
  obtain ⟨cs, t, h1, h2⟩ := h
  exact (Array.getElem?_eq_some_iff.1 h1).1

def Apart (w0 W : World) (ab tb : Nat) (g : Nat → Nat) (c : Cfg) : Prop :=
  ∃ vs v u, Tabs w0 W vs [ab] ∧ ArrAt W ab g ∧ vs 0 = some v ∧ (∀ k, k < 4 → vs (k + 1) = some (u k)) ∧ Ap v u tb g c
def HalfA (w0 W : World) (ab tb : Nat) (g : Nat → Nat) (c : Cfg) (a now : Nat) (b : Bool) : Prop :=
  ∃ vs v v2 u, Tabs w0 W vs [ab] ∧ ArrAt W ab g ∧ vs 0 = some v2 ∧ (∀ k, k < 4 → vs (k + 1) = some (u k)) ∧ Ap v u tb g c ∧ v2 = v.put a now ∧ b = v.hit a now
def uput (u : Nat → TV) (a : Nat) (x : TV) (k : Nat) : TV := if k = a then x else u k
theorem uput_self (u : Nat → TV) (a : Nat) (x : TV) : uput u a x a = x := if_pos rfl
theorem uput_ne {u : Nat → TV} {a k : Nat} {x : TV} (h : k ≠ a) : uput u a x k = u k := if_neg h
section
variable {w0 W W2 : World} {ab tb a now : Nat} {g : Nat → Nat} {c : Cfg} {b : Bool}
theorem u32_4 {a : Nat} (ha : a < 4) : U32 (a : Int) := by unfold U32; omega
theorem Apart.ext (h : Apart w0 W ab tb g c) : Ext w0 W := by obtain ⟨_, _, _, h, _⟩ := h; exact h.ext
theorem Apart.later (h : Apart w0 W ab tb g c) (he : Ext W W2) : Apart w0 W2 ab tb g c := by
  obtain ⟨vs, v, u, h, h1, h2⟩ := h
  exact ⟨vs, v, u, h.later he, h1.keep (he.block _ h1.lt), h2⟩
theorem HalfA.later (h : HalfA w0 W ab tb g c a now b) (he : Ext W W2) : HalfA w0 W2 ab tb g c a now b := by
  obtain ⟨vs, v, v2, u, h, h1, h2⟩ := h
  exact ⟨vs, v, v2, u, h.later he, h1.keep (he.block _ h1.lt), h2⟩
theorem Apart.arr (h : Apart w0 W ab tb g c) : ArrAt W ab g := by obtain ⟨_, _, _, _, h, _⟩ := h; exact h
theorem keeps_of {W W2 : World} {ab : Nat} {vs : Nat → Option TV} {kp : List Nat} (h : Tabs w0 W2 vs kp) (hm : ab ∈ kp) (he : W2.heap[ab]? = W.heap[ab]?) : Keeps ab W W2 := fun hb => by
  obtain ⟨_, _, _, _, h3⟩ := h
  exact ⟨(h3 ab hm).2, he⟩
theorem Apart.fail_l (h : Apart w0 W ab tb g c) (ha : a < 4) (hnow : now < 18446744073709551616) :
    Calls Try.prog 13 #[ptr tb, .int .u32 a, .int .u64 now] W fun e w' => ∃ b, e = .returned (.bool b) ∧ HalfA w0 w' ab tb g c a now b ∧ Keeps ab W w' := by
  obtain ⟨vs, v, u, h, h1, h2, h3, h4⟩ := h
  have hf := h.fail h2 (u32_4 ha) hnow (room4 h4.n a)
  rw [h4.tb] at hf
  refine hf.mono ?_
  rintro e w' ⟨rfl, hT, hk⟩
  exact ⟨_, rfl, ⟨_, v, _, u, hT, h1.keep (hk ab (by simp)), vupd_self _ _ _, fun k hk4 => by rw [vupd_ne (by omega)]; exact h3 k hk4, h4, rfl, rfl⟩, keeps_of hT (by simp) (hk ab (by simp))⟩
theorem HalfA.fail_r (h : HalfA w0 W ab tb g c a now b) (ha : a < 4) (hnow : now < 18446744073709551616) :
    Calls Try.prog 13 #[ptr (g a), .int .u32 a, .int .u64 now] W fun e w' => e = .returned (.bool b) ∧ Apart w0 w' ab tb g c ∧ Keeps ab W w' := by
  obtain ⟨vs, v, v2, u, h, h1, h2, h3, h4, rfl, rfl⟩ := h
  have hf := h.fail (h3 a ha) (u32_4 ha) hnow (h4.gr a ha)
  rw [h4.gb a ha] at hf
  have hh : (u a).hit a now = v.hit a now := by
    unfold TV.hit
    rw [h4.same a ha, h4.cc, h4.gc a ha]
  rw [hh] at hf
  refine hf.mono ?_
  rintro e w' ⟨rfl, hT, hk⟩
  refine ⟨rfl, ⟨_, v.put a now, uput u a ((u a).put a now), hT, h1.keep (hk ab (by simp)), ?_, fun k hk4 => ?_, ?_⟩, keeps_of hT (by simp) (hk ab (by simp))⟩
  · rw [vupd_ne (by omega)]; exact h2
  · by_cases hka : k = a
    · subst hka; rw [vupd_self, uput_self]
    · rw [vupd_ne (by omega), uput_ne hka]; exact h3 k hk4
  · refine ⟨h4.tb, h4.cc, cnt4_put h4.n a ha now, fun k hk4 => ?_, fun k hk4 => ?_, fun k hk4 => ?_, fun k hk4 => ?_⟩
    · by_cases hka : k = a
      · subst hka; rw [uput_self]; exact h4.gb k hk4
      · rw [uput_ne hka]; exact h4.gb k hk4
    · by_cases hka : k = a
      · subst hka; rw [uput_self]; exact h4.gc k hk4
      · rw [uput_ne hka]; exact h4.gc k hk4
    · by_cases hka : k = a
      · subst hka; rw [uput_self]; exact room_put _ _ _
      · rw [uput_ne hka]; exact h4.gr k hk4
    · by_cases hka : k = a
      · subst hka; rw [uput_self, row_put, row_put, h4.same k hk4, h4.cc, h4.gc k hk4]
      · rw [uput_ne hka, row_put_ne _ _ (by omega)]; exact h4.same k hk4
theorem Apart.untils (h : Apart w0 W ab tb g c) (ha : a < 4) : ∃ t : Nat, ∀ W2, Ext W W2 →
    (Calls Try.prog 14 #[ptr tb, .int .u32 a, .int .u64 now] W2 fun e w' => e = .returned (.int .u64 t) ∧ Ext W2 w') ∧
    (Calls Try.prog 14 #[ptr (g a), .int .u32 a, .int .u64 now] W2 fun e w' => e = .returned (.int .u64 t) ∧ Ext W2 w') := by
  obtain ⟨vs, v, u, h, h1, h2, h3, h4⟩ := h
  refine ⟨tilR ((u a).row a) now, fun W2 he => ?_⟩
  have hf := (h.later he).until h2 (u32_4 ha) (now := now)
  have hf2 := (h.later he).until (h3 a ha) (u32_4 ha) (now := now)
  rw [h4.tb, til_row, h4.same a ha] at hf
  rw [h4.gb a ha, til_row] at hf2
  refine ⟨hf.mono ?_, hf2.mono ?_⟩
  · rintro e w' ⟨rfl, rfl⟩; exact ⟨rfl, Ext.refl _⟩
  · rintro e w' ⟨rfl, rfl⟩; exact ⟨rfl, Ext.refl _⟩
theorem ArrAt.keeps (h : ArrAt W ab g) (hk : Keeps ab W W2) : ArrAt W2 ab g := h.keep (hk h.lt).2
end

def uset (g : Nat → Nat) (i b k : Nat) : Nat := if k = i then b else g k
theorem uset_self (g : Nat → Nat) (i b : Nat) : uset g i b i = b := if_pos rfl
theorem uset_ne {g : Nat → Nat} {i b k : Nat} (h : k ≠ i) : uset g i b k = g k := if_neg h
def v0 (tb : Nat) (c : Cfg) : TV := ⟨tb, c, 0, fun _ => none⟩
def BuildA (w0 W : World) (ab tb : Nat) (c : Cfg) (i : Nat) : Prop :=
  ∃ (vs : Nat → Option TV) (g : Nat → Nat) (cs : Array Value) (t : TypeId), Tabs w0 W vs [ab] ∧ W.heap[ab]? = some (.cells cs t (0, 0)) ∧ cs.size = 4 ∧ (∀ k, k < i → cs[k]? = some (ptr (g k))) ∧ vs 0 = some (v0 tb c) ∧ (∀ k, k < i → vs (k + 1) = some (v0 (g k) c)) ∧ (∀ k, i ≤ k → vs (k + 1) = none) ∧ w0.heap.size ≤ ab
section
variable {w0 W W2 : World} {ab tb i : Nat} {c : Cfg}
theorem BuildA.later (h : BuildA w0 W ab tb c i) (he : Ext W W2) : BuildA w0 W2 ab tb c i := by
  obtain ⟨vs, g, cs, t, h, h1, h2⟩ := h
  exact ⟨vs, g, cs, t, h.later he, he.blk h1, h2⟩
theorem BuildA.done (h : BuildA w0 W ab tb c 4) : ∃ g, Apart w0 W ab tb g c := by
  obtain ⟨vs, g, cs, t, h, h1, h2, h3, h4, h5, h6, h7⟩ := h
  exact ⟨g, vs, v0 tb c, fun k => v0 (g k) c, h, ⟨cs, t, h1, h3⟩, h4, h5, ⟨rfl, rfl, rfl, fun _ _ => rfl, fun _ _ => rfl, fun _ _ => .inr (show (0 : Nat) < 32 by decide), fun _ _ => rfl⟩⟩
theorem BuildA.step (h : BuildA w0 W ab tb c i) (hi : i < 4) (hc : c.Ok) :
    Calls Try.prog 11 #[.int .i64 c.fails, .int .u64 c.window, .int .u64 c.backoff] W fun e w' => ∃ b, e = .returned (.tuple #[ptr b, .int .i64 0]) ∧ BuildA w0 (w'.setCell ⟨ab, i, none⟩ (ptr b)) ab tb c (i + 1) ∧
      (∃ x, w'.cell? ⟨ab, i, none⟩ = some x) ∧ (∀ j, w'.frozen? ⟨ab, j, none⟩ = false) := by
  obtain ⟨vs, g, cs, t, h, h1, h2, h3, h4, h5, h6, h7⟩ := h
  refine (h.new (i + 1) (h6 i (Nat.le_refl _)) c.fails c.window c.backoff hc).mono ?_
  rintro e w' ⟨b, rfl, hT, hE⟩
  have hb := hE.blk h1
  refine ⟨b, rfl, ⟨_, uset g i b, cs.setIfInBounds i (ptr b), t, hT.set (by simp) h7 i (ptr b), by simp [World.setCell, Array.getElem?_modify, hb], by simp [h2], fun k hk => ?_, ?_, fun k hk => ?_, fun k hk => ?_, h7⟩, ⟨cs[i]'(by omega), cell_blk hb (by simp [h2, hi])⟩, fun j => by simp [World.frozen?, hb]⟩
  · by_cases hki : k = i
    · subst hki; simp [h2, hi, uset_self]
    · rw [Array.getElem?_setIfInBounds_ne (by omega), uset_ne hki]
      exact h3 k (by omega)
  · rw [vupd_ne (by omega)]; exact h4
  · by_cases hki : k = i
    · subst hki; rw [vupd_self, uset_self]; rfl
    · rw [vupd_ne (by omega), uset_ne hki]; exact h5 k (by omega)
  · rw [vupd_ne (by omega)]; exact h6 k (by omega)
end

def nowA : Nat → Nat
  | 0 => 0
  | k + 1 => nowA k + 7
theorem nowA_le : ∀ k, k ≤ 100 → nowA k ≤ 700 := by decide +kernel

set_option maxHeartbeats 4000000 in
set_option maxRecDepth 100000 in
theorem LockApart_walk (fails : Int) (window backoff : Nat) (av : Option Addr) (cap : Nat) (l : List LStp) (w : World) (hw : window < 18446744073709551616) (hb : backoff < 18446744073709551616)
    (hl : l.length ≤ 9223372036854775807) (hg : LStpAt w av l) :
    Calls Try.prog 3 #[.int .i64 fails, .int .u64 window, .int .u64 backoff, .slice av l.length cap] w fun e w' => e = .returned (.bool true) ∧ Ext w w' := by
  have HG := hid hg
  clear hg
  obtain ⟨f, hf, hf6⟩ : ∃ f : Nat, fails % 4 = (f : Int) ∧ f < 4 := ⟨(fails % 4).toNat, by omega, by omega⟩
  go_enter Try.func3, Try.ntmps3
  go_wp2_with fail
  refine (pick_any _ _ _ (by omega) (by omega)).mono ?_
  rintro e w' ⟨rfl, rfl⟩
  rw [hf]
  clear hf
  obtain ⟨fn, v1, hfn1, hfn2⟩ : ∃ fn : Nat, 1 + (f : Int) = (fn : Int) ∧ 1 ≤ fn ∧ fn ≤ 6 := ⟨f + 1, by omega, by omega, by omega⟩
  obtain ⟨wi, v3, hwi1, hwi2⟩ : ∃ wi : Nat, 1 + (window : Int) % 40 = (wi : Int) ∧ 1 ≤ wi ∧ wi ≤ 50 := ⟨1 + window % 40, by omega, by omega, by omega⟩
  obtain ⟨bo, v4, hbo1, hbo2⟩ : ∃ bo : Nat, 1 + (backoff : Int) % 30 = (bo : Int) ∧ 1 ≤ bo ∧ bo ≤ 50 := ⟨1 + backoff % 30, by omega, by omega, by omega⟩
  have hc : Cfg.Ok ⟨fn, wi, bo⟩ := ⟨by show 1 ≤ fn; omega, by show fn ≤ 20; omega, hwi1, by show wi ≤ 100000; omega, hbo1, by show bo ≤ 100000; omega⟩
  have HC := hid hc
  clear hc
  go_wp2_with fail
  refine ((Tabs.start w).new 0 rfl fn wi bo HC.out).mono ?_
  rintro e w1 ⟨tb, rfl, hT, _⟩
  have HT := hid hT
  clear hT v1 v3 v4
  unfold ptr
  go_wp2_with fail
  refine (known18 _).mono ?_
  rintro e w2 ⟨rfl, hE⟩
  replace HT := hid (HT.out.later hE)
  clear hE
  go_upto_region 8 with fail
  have hB : BuildA w (w2.alloc (.cells #[.pointer none, .pointer none, .pointer none, .pointer none] 30 (0, 0))) w2.heap.size tb ⟨fn, wi, bo⟩ 0 :=
    ⟨_, fun _ => 0, _, _, HT.out.keep _, blk_new _ _, rfl, fun k hk => by omega, vupd_self _ _ _, fun k hk => by omega, fun k _ => by rw [vupd_ne (by omega)], HT.out.ext.size⟩
  have HB := hid hB
  clear hB HT
  change Code.wp _ _ _ _ (w2.alloc (.cells #[.pointer none, .pointer none, .pointer none, .pointer none] 30 (0, 0)))
  generalize w2.alloc _ = w3 at *
  generalize w2.heap.size = ab at *
  go_wp2_with fail
  go_loopw [12] (fun iv wr => ∃ i : Nat, iv = .int .i64 i ∧ i ≤ 4 ∧ Hid (BuildA w wr ab tb ⟨fn, wi, bo⟩ i)) (fun iv _ => 4 - (intOf iv).toNat)
  case atStart => exact ⟨0, rfl, by omega, HB⟩
  case round =>
    clear HB
    obtain ⟨i, rfl, hi, HB⟩ := hrel
    by_cases hi4 : i < 4
    · have hi42 : (i : Int) < 4 := by omega
      have HS := hid (HB.out.step hi4 HC.out)
      go_wp2_with fail
      refine HS.out.mono ?_
      rintro e w4 ⟨b, rfl, hB, ⟨x, hx⟩, hz⟩
      have HB2 := hid hB
      clear hB HB HS
      unfold ptr at HB2 ⊢
      go_wp2_with fail
      go_roundw
      case rel => exact ⟨i + 1, by go_num, by omega, HB2⟩
      case measure => simp [intOf]; omega
    · have hi42 : ¬ (i : Int) < 4 := by omega
      obtain rfl : i = 4 := by omega
      obtain ⟨g, hA⟩ := HB.out.done
      have HA := hid hA
      clear hA HB
      go_wp2_with fail
      go_loopw [13, 14] (fun nw iv wr => ∃ now i : Nat, nw = .int .u64 now ∧ iv = .int .i64 i ∧ i ≤ l.length ∧ i ≤ 100 ∧ Hid (now ≤ nowA i) ∧ Hid (Apart w wr ab tb g ⟨fn, wi, bo⟩)) (fun _ iv _ => 100 - (intOf iv).toNat)
      case atStart => exact ⟨0, 0, rfl, rfl, by omega, by omega, hid (Nat.le_refl 0), HA⟩
      case round =>
        clear HA
        obtain ⟨now, i, rfl, rfl, hil, hi100, HNA, HA⟩ := hrel
        by_cases hlt : i < l.length ∧ i < 100
        · obtain ⟨hlt1, hlt2⟩ := hlt
          obtain ⟨hok, sb, so, rfl, _, c1, c2⟩ := HG.out i hlt1
          replace c1 := HA.out.ext.cell c1
          replace c2 := HA.out.ext.cell c2
          have hn := Nat.le_trans HNA.out (nowA_le i (by omega))
          have hu1 := hok.addr
          have hu2 := hok.now
          generalize l[i].addr = ad at *
          generalize l[i].now = nx at *
          unfold U32 at hu1
          obtain ⟨a, hada, ha4⟩ : ∃ a : Nat, ad % 4 = (a : Int) ∧ a < 4 := ⟨(ad % 4).toNat, by omega, by omega⟩
          obtain ⟨T, hT, hT1, hT2⟩ : ∃ T : Nat, (now : Int) + (nx : Int) % 8 = (T : Int) ∧ T ≤ nowA i + 7 ∧ T ≤ 800 := ⟨now + nx % 8, by omega, by have := HNA.out; omega, by omega⟩
          have hlt3 : (i : Int) < (l.length : Int) := by omega
          have ha42 : (a : Int) < 4 := by omega
          have HT1 : Hid (T ≤ nowA (i + 1)) := hid hT1
          clear hT1 hok
          go_upto_region 18 with fail
          try simp only [hada]
          try simp only [hT]
          clear c1 c2 hada hT
          refine regR_begin (Keeps ab) (by kernel_rfl) ?_
          generalize hW : World.drew _ = WD
          replace HA := hid (HA.out.later (Ext.drew _))
          rw [hW] at HA
          clear hW
          have HR := hid HA.out.arr
          refine regR_quiet (Keeps.ok _) 0 rfl (by kernel_rfl) (by kernel_rfl) ?_
          apply Exists.intro
          refine ⟨fun w' hw' => ?_, ?_⟩
          · go_simp
            exact ⟨rfl, Ext.refl _⟩
          refine regR_quiet (Keeps.ok _) 1 rfl (by kernel_rfl) (by kernel_rfl) ?_
          apply Exists.intro
          refine ⟨fun w' hw' => ?_, ?_⟩
          · go_simp
            exact ⟨rfl, Ext.refl _⟩
          refine regR_quiet (Keeps.ok _) 2 rfl (by kernel_rfl) (by kernel_rfl) ?_
          apply Exists.intro
          refine ⟨fun w' hw' => ?_, ?_⟩
          · go_simp
            exact ⟨rfl, Ext.refl _⟩
          refine regR_quiet (Keeps.ok _) 4 rfl (by kernel_rfl) (by kernel_rfl) ?_
          apply Exists.intro
          refine ⟨fun w' hw' => ?_, ?_⟩
          · go_simp
            exact ⟨rfl, Ext.refl _⟩
          refine regR_quiet (Keeps.ok _) 5 rfl (by kernel_rfl) (by kernel_rfl) ?_
          apply Exists.intro
          refine ⟨fun w' hw' => ?_, ?_⟩
          · go_simp
            exact ⟨rfl, Ext.refl _⟩
          refine regR_quiet (Keeps.ok _) 6 rfl (by kernel_rfl) (by kernel_rfl) ?_
          apply Exists.intro
          refine ⟨fun w' hw' => ?_, ?_⟩
          · have q0 := (HR.out.keeps hw').cell ha4
            go_simp
            exact ⟨rfl, Ext.refl _⟩
          refine regR_quiet (Keeps.ok _) 7 rfl (by kernel_rfl) (by kernel_rfl) ?_
          apply Exists.intro
          refine ⟨fun w' hw' => ?_, ?_⟩
          · go_simp
            exact ⟨rfl, Ext.refl _⟩
          refine regR_quiet (Keeps.ok _) 8 rfl (by kernel_rfl) (by kernel_rfl) ?_
          apply Exists.intro
          refine ⟨fun w' hw' => ?_, ?_⟩
          · go_simp
            exact ⟨rfl, Ext.refl _⟩
          refine regR_one 3 rfl (by kernel_rfl) rfl (fun w' hw' => ?_)
          go_simp
          refine ((HA.out.later hw').fail_l ha4 (now := T) (by omega)).mono ?_
          rintro e w5 ⟨b, rfl, hH, hK⟩
          refine ⟨hK, ?_⟩
          have HH := hid hH
          clear hH hK hw' HA
          refine regR_one 9 rfl (by kernel_rfl) rfl (fun w6 hw6 => ?_)
          go_simp
          refine ((HH.out.later hw6).fail_r ha4 (by omega)).mono ?_
          rintro e w7 ⟨rfl, hA, hK⟩
          refine ⟨hK, ?_⟩
          have HA := hid hA
          clear hA hK hw6 HH
          refine regR_quiet (Keeps.ok _) 10 rfl (by kernel_rfl) (by kernel_rfl) ?_
          apply Exists.intro
          refine ⟨fun w' hw' => ?_, ?_⟩
          · go_simp
            exact ⟨rfl, Ext.refl _⟩
          refine regR_done (by kernel_rfl) (fun w8 hw8 => ?_) _
          replace HA := hid (HA.out.later hw8)
          clear hw8 HR
          go_simp
          go_wp2_with fail
          go_loopw [16] (fun kv wr => ∃ k : Nat, kv = .int .u32 k ∧ k ≤ 4 ∧ Hid (Apart w wr ab tb g ⟨fn, wi, bo⟩)) (fun kv _ => 4 - (intOf kv).toNat)
          case atStart => exact ⟨0, rfl, by omega, HA⟩
          case round =>
            clear HA
            obtain ⟨k, rfl, hk4, HA⟩ := hrel
            by_cases hkl : k < 4
            · have hk42 : (k : Int) < 4 := by omega
              have hwk : IntKind.u32.wrap ((k : Int) + 1) = ((k + 1 : Nat) : Int) := by rw [IntKind.wrap_u32]; omega
              obtain ⟨tl, hU⟩ := HA.out.untils hkl (now := T)
              have HU := hid hU
              clear hU
              go_wp2_with fail
              refine reg_begin 11 (by kernel_rfl) ?_
              generalize hW : World.drew _ = WD
              have hED : Ext wr WD := by rw [← hW]; exact Ext.drew _
              clear hW
              replace HA := hid (HA.out.later hED)
              have HED := hid hED
              clear hED
              have HR := hid HA.out.arr
              refine reg_quiet 0 rfl (by kernel_rfl) (by kernel_rfl) ?_
              apply Exists.intro
              refine ⟨fun w' hw' => ?_, ?_⟩
              · go_simp
                exact ⟨rfl, Ext.refl _⟩
              refine reg_quiet 1 rfl (by kernel_rfl) (by kernel_rfl) ?_
              apply Exists.intro
              refine ⟨fun w' hw' => ?_, ?_⟩
              · go_simp
                exact ⟨rfl, Ext.refl _⟩
              refine reg_quiet 2 rfl (by kernel_rfl) (by kernel_rfl) ?_
              apply Exists.intro
              refine ⟨fun w' hw' => ?_, ?_⟩
              · go_simp
                exact ⟨rfl, Ext.refl _⟩
              refine reg_quiet 3 rfl (by kernel_rfl) (by kernel_rfl) ?_
              apply Exists.intro
              refine ⟨fun w' hw' => ?_, ?_⟩
              · go_simp
                exact (HU.out w' (HED.out.trans hw')).1
              refine reg_quiet 4 rfl (by kernel_rfl) (by kernel_rfl) ?_
              apply Exists.intro
              refine ⟨fun w' hw' => ?_, ?_⟩
              · go_simp
                exact ⟨rfl, Ext.refl _⟩
              refine reg_quiet 5 rfl (by kernel_rfl) (by kernel_rfl) ?_
              apply Exists.intro
              refine ⟨fun w' hw' => ?_, ?_⟩
              · go_simp
                exact ⟨rfl, Ext.refl _⟩
              refine reg_quiet 6 rfl (by kernel_rfl) (by kernel_rfl) ?_
              apply Exists.intro
              refine ⟨fun w' hw' => ?_, ?_⟩
              · have q0 := hw'.cell (HR.out.cell hkl)
                go_simp
                exact ⟨rfl, Ext.refl _⟩
              refine reg_quiet 7 rfl (by kernel_rfl) (by kernel_rfl) ?_
              apply Exists.intro
              refine ⟨fun w' hw' => ?_, ?_⟩
              · go_simp
                exact ⟨rfl, Ext.refl _⟩
              refine reg_quiet 8 rfl (by kernel_rfl) (by kernel_rfl) ?_
              apply Exists.intro
              refine ⟨fun w' hw' => ?_, ?_⟩
              · go_simp
                exact ⟨rfl, Ext.refl _⟩
              refine reg_quiet 9 rfl (by kernel_rfl) (by kernel_rfl) ?_
              apply Exists.intro
              refine ⟨fun w' hw' => ?_, ?_⟩
              · go_simp
                exact (HU.out w' (HED.out.trans hw')).2
              refine reg_quiet 10 rfl (by kernel_rfl) (by kernel_rfl) ?_
              apply Exists.intro
              refine ⟨fun w' hw' => ?_, ?_⟩
              · go_simp
                exact ⟨rfl, Ext.refl _⟩
              refine reg_done (by kernel_rfl) (fun w9 hw9 => ?_) _
              replace HA := hid (HA.out.later hw9)
              clear hw9 HR HU HED
              go_simp
              go_wp2_with fail
              go_roundw
              case rel => exact ⟨k + 1, by go_num, by omega, HA⟩
              case measure => simp [intOf]; omega
            · have hk42 : ¬ (k : Int) < 4 := by omega
              go_wp2_with fail
              go_roundw
              case rel => exact ⟨T, i + 1, rfl, by go_num, by omega, by omega, HT1, HA⟩
              case measure => simp [intOf]; omega
        · by_cases hil2 : i < l.length
          · have hl2 : (i : Int) < (l.length : Int) := by omega
            have hl3 : ¬ (i : Int) < 100 := by omega
            go_wp2_with fail
            go_ret
            exact ⟨rfl, HA.out.ext⟩
          · have hl2 : ¬ (i : Int) < (l.length : Int) := by omega
            go_wp2_with fail
            go_ret
            exact ⟨rfl, HA.out.ext⟩

end Go.Proofs.Ytnlblmpfkikneaa
