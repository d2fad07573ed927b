/-
  Tables as they are seen from without; chapter 18's example.
-/
import Derived.Test.YtnlblmpfkikneaaM5
namespace Go.Proofs.Ytnlblmpfkikneaa
open Go Go.RowKit Go.Maps
attribute [local go_sem] extUpon
attribute [local go_sem ↓] eval_put_ne eval_put_none eval_put_same size_put eval_const

structure TV where
  tb : Nat
  c : Cfg
  n : Nat
  rows : Int → Option LRow
def TS.view (s : TS) : TV := ⟨s.tb, s.c, s.n, s.rows⟩
def TV.row (v : TV) (a : Int) : LRow := (v.rows a).getD .new
def TV.hit (v : TV) (a : Int) (now : Nat) : Bool := ((v.row a).hit v.c (capT now)).1
def TV.put (v : TV) (a : Int) (now : Nat) : TV := ⟨v.tb, v.c, (if (v.rows a).isSome then v.n else v.n + 1), rset v.rows a ((v.row a).hit v.c (capT now)).2⟩
def TV.less (v : TV) (a : Int) : TV := ⟨v.tb, v.c, (if (v.rows a).isSome then v.n - 1 else v.n), rdel v.rows a⟩
def TV.til (v : TV) (a : Int) (now : Nat) : Nat := tilAt (v.rows a) now
def TV.Room (v : TV) (a : Int) : Prop := (v.rows a).isSome = true ∨ v.n < 32
def vupd (vs : Nat → Option TV) (i : Nat) (v : TV) (j : Nat) : Option TV := if j = i then some v else vs j
theorem vupd_self (vs : Nat → Option TV) (i : Nat) (v : TV) : vupd vs i v i = some v := if_pos rfl
theorem vupd_ne {vs : Nat → Option TV} {i j : Nat} {v : TV} (h : j ≠ i) : vupd vs i v j = vs j := if_neg h

/-- Tables side by side, and blocks that belong to none of them. -/
def Tabs (w0 W : World) (vs : Nat → Option TV) (kp : List Nat) : Prop :=
  ∃ own ts, Locks w0 W own ts ∧ (∀ i, (ts i).map TS.view = vs i) ∧ ∀ b ∈ kp, own b = none ∧ b < W.heap.size

section
variable {w0 W W2 : World} {vs : Nat → Option TV} {kp : List Nat} {i : Nat} {v : TV} {a : Int} {now : Nat}

theorem Tabs.start (w : World) : Tabs w w (fun _ => none) [] := ⟨_, _, Locks.start w, fun _ => rfl, fun b hb => (by cases hb)⟩
theorem Tabs.ext (h : Tabs w0 W vs kp) : Ext w0 W := by obtain ⟨_, _, h, _⟩ := h; exact h.ext
theorem Tabs.later (h : Tabs w0 W vs kp) (he : Ext W W2) : Tabs w0 W2 vs kp := by
  obtain ⟨own, ts, h1, h2, h3⟩ := h
  exact ⟨own, ts, h1.later he, h2, fun b hb => ⟨(h3 b hb).1, Nat.lt_of_lt_of_le (h3 b hb).2 he.size⟩⟩
/-- A block beyond all tables is kept, too. -/
theorem Tabs.keep (h : Tabs w0 W vs kp) (o : Obj) : Tabs w0 (W.alloc o) vs (W.heap.size :: kp) := by
  obtain ⟨own, ts, h1, h2, h3⟩ := h
  refine ⟨own, ts, h1.later (Ext.alloc _ _), h2, fun b hb => ?_⟩
  rcases List.mem_cons.1 hb with rfl | hb
  · refine ⟨?_, by simp⟩
    cases ho : own W.heap.size with
    | none => rfl
    | some x => have := (h1.owns _ _ ho).2; omega
  · exact ⟨(h3 b hb).1, by have := (h3 b hb).2; simp; omega⟩
/-- A block that belongs to none of them is turned. -/
theorem Tabs.set (h : Tabs w0 W vs kp) {g : Nat} (hg : g ∈ kp) (h0 : w0.heap.size ≤ g) (j : Nat) (x : Value) : Tabs w0 (W.setCell ⟨g, j, none⟩ x) vs kp := by
  obtain ⟨own, ts, h1, h2, h3⟩ := h
  have hs := set_grown W g j x
  refine ⟨own, ts, h1.other (Same.of_grown hs (fun b hb e => hb ?_)) (Same.of_grown hs (fun b hb e => ?_)), h2, fun b hb => ⟨(h3 b hb).1, by simpa [World.setCell] using (h3 b hb).2⟩⟩
  · rw [Option.some.inj e]; exact (h3 g hg).1
  · have := Option.some.inj e; omega

theorem view_map {s : TS} {v : TV} (h : s.view = v) : s.tb = v.tb ∧ s.c = v.c ∧ s.n = v.n ∧ s.rows = v.rows := by subst h; exact ⟨rfl, rfl, rfl, rfl⟩
theorem Tabs.fail (h : Tabs w0 W vs kp) (hv : vs i = some v) (ha : U32 a) (hnow : now < 18446744073709551616) (hr : v.Room a) :
    Calls Try.prog 13 #[ptr v.tb, .int .u32 a, .int .u64 now] W fun e w' => e = .returned (.bool (v.hit a now)) ∧ Tabs w0 w' (vupd vs i (v.put a now)) kp ∧ ∀ b ∈ kp, w'.heap[b]? = W.heap[b]? := by
  obtain ⟨own, ts, h1, h2, h3⟩ := h
  have h4 := h2 i
  rw [hv] at h4
  obtain ⟨s, hs, hsv⟩ := Option.map_eq_some_iff.1 h4
  obtain ⟨e1, e2, e3, e4⟩ := view_map hsv
  have hf := fail_any h1 hs ha hnow (by unfold TV.Room at hr; rw [e3, e4]; exact hr)
  rw [e1, e4, e2] at hf
  refine hf.mono ?_
  rintro e w' ⟨rfl, own2, s2, hL, hO, hS, g1, g2, g3, g4⟩
  refine ⟨rfl, ⟨own2, upd ts i s2, hL, fun j => ?_, fun b hb => ⟨hO.none b (h3 b hb).2 (h3 b hb).1, Nat.lt_of_lt_of_le (h3 b hb).2 hS.2.2.2.1⟩⟩, fun b hb => hS.2.2.2.2 b (h3 b hb).2 (h3 b hb).1⟩
  unfold upd vupd
  split
  · simp only [Option.map_some, Option.some.injEq]
    show TV.mk s2.tb s2.c s2.n s2.rows = _
    rw [g1, g2, g3, g4]
    unfold TS.grown TV.put TV.row
    rw [e3, e4]
  · exact h2 j
theorem Tabs.until (h : Tabs w0 W vs kp) (hv : vs i = some v) (ha : U32 a) :
    Calls Try.prog 14 #[ptr v.tb, .int .u32 a, .int .u64 now] W fun e w' => e = .returned (.int .u64 (v.til a now)) ∧ w' = W := by
  obtain ⟨own, ts, h1, h2, h3⟩ := h
  have h4 := h2 i
  rw [hv] at h4
  obtain ⟨s, hs, hsv⟩ := Option.map_eq_some_iff.1 h4
  obtain ⟨e1, e2, e3, e4⟩ := view_map hsv
  have hf := until_any h1 hs ha now
  rw [e1, e4] at hf
  exact hf
theorem Tabs.len (h : Tabs w0 W vs kp) (hv : vs i = some v) :
    Calls Try.prog 15 #[ptr v.tb] W fun e w' => e = .returned (.int .i64 v.n) ∧ w' = W := by
  obtain ⟨own, ts, h1, h2, h3⟩ := h
  have h4 := h2 i
  rw [hv] at h4
  obtain ⟨s, hs, hsv⟩ := Option.map_eq_some_iff.1 h4
  obtain ⟨e1, e2, e3, e4⟩ := view_map hsv
  have hf := len_any h1 hs
  rw [e1, e3] at hf
  exact hf
theorem Tabs.clear (h : Tabs w0 W vs kp) (hv : vs i = some v) (ha : U32 a) :
    Calls Try.prog 17 #[ptr v.tb, .int .u32 a] W fun e w' => (∃ x, e = .returned x) ∧ Tabs w0 w' (vupd vs i (v.less a)) kp ∧ ∀ b ∈ kp, w'.heap[b]? = W.heap[b]? := by
  obtain ⟨own, ts, h1, h2, h3⟩ := h
  have h4 := h2 i
  rw [hv] at h4
  obtain ⟨s, hs, hsv⟩ := Option.map_eq_some_iff.1 h4
  obtain ⟨e1, e2, e3, e4⟩ := view_map hsv
  have hf := clear_any h1 hs ha
  rw [e1] at hf
  refine hf.mono ?_
  rintro e w' ⟨hx, hS, hL⟩
  refine ⟨hx, ⟨own, _, hL, fun j => ?_, fun b hb => ⟨(h3 b hb).1, Nat.lt_of_lt_of_le (h3 b hb).2 hS.2.2.2.1⟩⟩, fun b hb => hS.2.2.2.2 b (h3 b hb).2 (h3 b hb).1⟩
  unfold upd vupd
  split
  · simp only [Option.map_some, Option.some.injEq]
    subst hsv
    rfl
  · exact h2 j
theorem Tabs.new (h : Tabs w0 W vs kp) (i : Nat) (hi : vs i = none) (f wi bo : Nat) (hc : Cfg.Ok ⟨f, wi, bo⟩) :
    Calls Try.prog 11 #[.int .i64 f, .int .u64 wi, .int .u64 bo] W fun e w' => ∃ tb, e = .returned (.tuple #[ptr tb, .int .i64 0]) ∧ Tabs w0 w' (vupd vs i ⟨tb, ⟨f, wi, bo⟩, 0, fun _ => none⟩) kp ∧ Ext W w' := by
  obtain ⟨own, ts, h1, h2, h3⟩ := h
  have h4 := h2 i
  rw [hi, Option.map_eq_none_iff] at h4
  refine (new_any h1 i h4 f wi bo hc).mono ?_
  rintro e w' ⟨own2, s, rfl, hL, hO, hE, g1, g2, g3⟩
  refine ⟨s.tb, rfl, ⟨own2, _, hL, fun j => ?_, fun b hb => ⟨hO.none b (h3 b hb).2 (h3 b hb).1, Nat.lt_of_lt_of_le (h3 b hb).2 hE.size⟩⟩, hE⟩
  unfold upd vupd
  split
  · simp only [Option.map_some, Option.some.injEq]
    show TV.mk s.tb s.c s.n s.rows = _
    rw [g1, g2, g3]
  · exact h2 j
end

theorem cfg_small : Cfg.Ok ⟨2, 10, 5⟩ := ⟨by decide, by decide, by decide, by decide, by decide, by decide⟩
def kv (tb : Nat) : TV := ⟨tb, ⟨2, 10, 5⟩, 0, fun _ => none⟩
theorem kv_hit (tb : Nat) : (kv tb).hit 7 1 = false := by kernel_rfl
theorem kv_hit2 (tb : Nat) : ((kv tb).put 7 1).hit 7 3 = true := by kernel_rfl
theorem kv_til (tb : Nat) : (((kv tb).put 7 1).put 7 3).til 7 4 = 8 := by kernel_rfl
theorem known18 (w : World) : Calls Try.prog 12 #[] w fun e w' => e = .returned (.bool true) ∧ Ext w w' := by
  have hN := hid ((Tabs.start w).new 0 rfl 2 10 5 cfg_small)
  have hu : U32 7 := by unfold U32; omega
  go_enter Try.func12, Try.ntmps12
  go_wp2_with fail
  refine hN.out.mono ?_
  rintro e w1 ⟨tb, rfl, hT, _⟩
  have HT := hid hT
  clear hT hN
  unfold ptr
  go_wp2_with fail
  refine (HT.out.fail (i := 0) (v := kv tb) rfl hu (now := 1) (by decide) (.inr (show (0 : Nat) < 32 by decide))).mono ?_
  rintro e w2 ⟨rfl, hT, _⟩
  have HT2 := hid hT
  clear hT HT
  rw [kv_hit]
  go_wp2_with fail
  refine (HT2.out.fail (i := 0) (v := (kv tb).put 7 1) rfl hu (now := 3) (by decide) (.inr (show (1 : Nat) < 32 by decide))).mono ?_
  rintro e w3 ⟨rfl, hT, _⟩
  have HT3 := hid hT
  clear hT HT2
  rw [kv_hit2]
  go_wp2_with fail
  refine (HT3.out.until (i := 0) (v := ((kv tb).put 7 1).put 7 3) rfl hu (now := 4)).mono ?_
  rintro e w4 ⟨rfl, rfl⟩
  rw [kv_til]
  go_wp2_with fail
  go_ret
  exact ⟨rfl, HT3.out.ext⟩

end Go.Proofs.Ytnlblmpfkikneaa
