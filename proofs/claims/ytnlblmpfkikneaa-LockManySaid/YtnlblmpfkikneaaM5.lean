/-
  New, Until, Clear, Len; chapter 18's example.
-/
import Derived.Test.YtnlblmpfkikneaaM4
namespace Go.Proofs.Ytnlblmpfkikneaa
open Go Go.RowKit Go.Maps
attribute [local go_sem] extUpon
attribute [local go_sem ↓] eval_put_ne eval_put_none eval_put_same size_put eval_const

theorem Locks.start (w : World) : Locks w w (fun _ => none) (fun _ => none) :=
  ⟨Ext.refl w, fun b x hx => (by cases hx), fun i s hs => (by cases hs), fun b j tag hx => (by cases hx)⟩

/-- A table is laid beside the others. -/
theorem Locks.lay {w0 w W2 : World} {own : Nat → Option (Nat × Tag)} {ts : Nat → Option TS} (h : Locks w0 w own ts) (i : Nat) (hi : ts i = none) (c : Cfg) (hc : c.Ok) (tb mb : Nat)
    (he : Ext w W2) (ht : w.heap.size ≤ tb) (hm : w.heap.size ≤ mb) (hne : tb ≠ mb)
    (hb : W2.heap[tb]? = some (.cells #[.int .i64 c.fails, .int .u64 c.window, .int .u64 c.backoff, .map (some mb)] 53 (0, 0))) (hmap : MapF W2 mb (fun _ => none) 0) :
    Locks w0 W2 (fun b => if b = tb then some (i, .t) else if b = mb then some (i, .m) else own b) (upd ts i ⟨tb, mb, c, 0, fun _ => none, fun _ => 0, fun _ => .slice none 0 0⟩) ∧
      Owns w own (fun b => if b = tb then some (i, .t) else if b = mb then some (i, .m) else own b) := by
  have hO : Owns w own (fun b => if b = tb then some (i, Tag.t) else if b = mb then some (i, .m) else own b) := ⟨fun b x hx => by
      have := (h.owns b x hx).2
      show (if b = tb then _ else if b = mb then _ else own b) = some x
      rw [if_neg (by omega), if_neg (by omega)]; exact hx, fun b hb hx => by
      show (if b = tb then _ else if b = mb then _ else own b) = none
      rw [if_neg (by omega), if_neg (by omega)]; exact hx⟩
  refine ⟨⟨h.ext.trans he, fun b x hx => ?_, fun j s hj => ?_, fun b j tag hb' => ?_⟩, hO⟩
  · have h1 := (Array.getElem?_eq_some_iff.1 hb).1
    have h2 := hmap.lt
    have h3 := h.ext.size
    have h4 := he.size
    split at hx
    · omega
    · split at hx
      · omega
      · have := h.owns b x hx; omega
  · by_cases hji : j = i
    · subst hji
      rw [upd_self] at hj
      cases hj
      exact ⟨hb, if_pos rfl, hmap, by show (if mb = tb then _ else if mb = mb then _ else own mb) = _; rw [if_neg (fun e => hne e.symm), if_pos rfl], fun k r hr => (by cases hr), hc, by simp⟩
    · rw [upd_ne hji] at hj
      exact (h.tab j s hj).keep hO.keep (fun b tag hb' => he.block b (h.owns b _ hb').2)
  · unfold upd
    split
    · simp
    · rename_i hji
      split at hb'
      · cases hb'; exact absurd rfl hji
      · split at hb'
        · cases hb'; exact absurd rfl hji
        · exact h.idx b j tag hb'

set_option maxRecDepth 100000 in
theorem new_any {w0 w : World} {own : Nat → Option (Nat × Tag)} {ts : Nat → Option TS} (h : Locks w0 w own ts) (i : Nat) (hi : ts i = none) (f wi bo : Nat) (hc : Cfg.Ok ⟨f, wi, bo⟩) :
    Calls Try.prog 11 #[.int .i64 f, .int .u64 wi, .int .u64 bo] w fun e w' => ∃ own' s, e = .returned (.tuple #[ptr s.tb, .int .i64 0]) ∧ Locks w0 w' own' (upd ts i s) ∧ Owns w own own' ∧ Ext w w' ∧
      s.c = ⟨f, wi, bo⟩ ∧ s.n = 0 ∧ s.rows = (fun _ => none) := by
  have hE : Ext w ((w.alloc (.map #[] 0)).alloc (.cells #[.int .i64 f, .int .u64 wi, .int .u64 bo, .map (some w.heap.size)] 53 (0, 0))) := (Ext.alloc _ _).trans (Ext.alloc _ _)
  have hL := h.lay i hi ⟨f, wi, bo⟩ hc (w.heap.size + 1) w.heap.size hE (by omega) (by omega) (by omega) (blk_at (by simp)) ((MapF.made w).keep ((Ext.alloc _ _).block _ (MapF.made w).lt))
  have HL := hid hL
  have HE := hid hE
  have h0 := hc.f0
  have h1 := hc.f1
  have h2 := hc.w0
  have h3 := hc.w1
  have h4 := hc.b0
  have h5 := hc.b1
  simp only at h0 h1 h2 h3 h4 h5
  have hmm := @run_makeMap Try.prog
  have d1 : ¬ (f : Int) < 1 := by omega
  have d2 : ¬ (20 : Int) < (f : Int) := by omega
  have d3 : ¬ (wi : Int) < 1 := by omega
  have d4 : ¬ (100000 : Int) < (wi : Int) := by omega
  have d5 : ¬ (bo : Int) < 1 := by omega
  have d6 : ¬ (100000 : Int) < (bo : Int) := by omega
  clear hL hE h
  unfold ptr
  go_enter Try.func11, Try.ntmps11
  go_wp2_with fail
  go_ret2
  refine ⟨_, _, rfl, HL.out.1, HL.out.2, HE.out, rfl, rfl, rfl⟩

set_option maxRecDepth 100000 in
theorem new_bad (f wi bo : Nat) (hb : f = 0 ∨ 20 < f) (hf : f < 1000) (w : World) :
    Calls Try.prog 11 #[.int .i64 f, .int .u64 wi, .int .u64 bo] w fun e w' => e = .returned (.tuple #[.pointer none, .int .i64 1]) ∧ w' = w := by
  rcases hb with rfl | hb
  · go_enter Try.func11, Try.ntmps11
    go_wp2_with fail
    all_goals go_ret2
    all_goals exact ⟨rfl, rfl⟩
  · have d1 : ¬ (f : Int) < 1 := by omega
    have d2 : (20 : Int) < (f : Int) := by omega
    go_enter Try.func11, Try.ntmps11
    go_wp2_with fail
    all_goals go_ret2
    all_goals exact ⟨rfl, rfl⟩

/-- Until when an address is locked. -/
def tilAt (r : Option LRow) (now : Nat) : Nat :=
  match r with
  | none => 0
  | some r => if r.til ≤ capT now then 0 else r.til

set_option maxRecDepth 100000 in
theorem until_any {w0 w : World} {own : Nat → Option (Nat × Tag)} {ts : Nat → Option TS} {i : Nat} {s : TS} {a : Int} (h : Locks w0 w own ts) (hs : ts i = some s) (ha : U32 a) (now : Nat) :
    Calls Try.prog 14 #[ptr s.tb, .int .u32 a, .int .u64 now] w fun e w' => e = .returned (.int .u64 (tilAt (s.rows a) now)) ∧ w' = w := by
  have hT := h.tab i s hs
  have hb3 := cell_blk (j := 3) hT.blk rfl
  have hlk := hT.map.look ha
  have hmap : s.map a = (s.rows a).map fun _ => s.pf a := rfl
  cases hr : s.rows a with
  | none =>
    rw [hr] at hmap
    simp only [hmap, Option.map_none, Option.isSome_none] at hlk
    clear hT hmap h hs hr
    unfold ptr tilAt at *
    go_enter Try.func14, Try.ntmps14
    go_wp2_with fail
    go_ret
    exact ⟨rfl, rfl⟩
  | some r =>
    rw [hr] at hmap
    simp only [hmap, Option.map_some, Option.isSome_some] at hlk
    have hR := hT.row a r hr
    have hr1 := cell_blk (j := 1) hR.blk rfl
    have hmin : min (now : Int) 1099511627776 = (capT now : Nat) := by unfold capT; omega
    have hti : tilAt (some r) now = if (r.til : Int) ≤ (capT now : Int) then 0 else r.til := by
      show (if r.til ≤ capT now then 0 else r.til) = _
      by_cases h5 : r.til ≤ capT now
      · rw [if_pos h5, if_pos (by omega)]
      · rw [if_neg h5, if_neg (by omega)]
    rw [hti]
    clear hT hmap h hs hr hR hti
    unfold ptr at *
    by_cases h5 : (r.til : Int) ≤ (capT now : Int)
    · rw [if_pos h5]
      go_enter Try.func14, Try.ntmps14
      go_wp2_with fail
      go_ret
      exact ⟨rfl, rfl⟩
    · rw [if_neg h5]
      go_enter Try.func14, Try.ntmps14
      go_wp2_with fail
      go_ret
      exact ⟨rfl, rfl⟩

theorem len_any {w0 w : World} {own : Nat → Option (Nat × Tag)} {ts : Nat → Option TS} {i : Nat} {s : TS} (h : Locks w0 w own ts) (hs : ts i = some s) :
    Calls Try.prog 15 #[ptr s.tb] w fun e w' => e = .returned (.int .i64 s.n) ∧ w' = w := by
  have hT := h.tab i s hs
  have hb3 := cell_blk (j := 3) hT.blk rfl
  have hln := hT.map.len 3
  clear hT h hs
  unfold ptr at *
  go_enter Try.func15, Try.ntmps15
  go_wp2_with fail
  go_ret
  exact ⟨rfl, rfl⟩

def rdel (rows : Int → Option LRow) (a : Int) (q : Int) : Option LRow := if q = a then none else rows q
def TS.less (s : TS) (a : Int) : TS := { s with n := if (s.rows a).isSome then s.n - 1 else s.n, rows := rdel s.rows a }
theorem Locks.del {w0 W W2 : World} {own : Nat → Option (Nat × Tag)} {ts : Nat → Option TS} {i : Nat} {s : TS} {a : Int} (h : Locks w0 W own ts) (hs : ts i = some s)
    (hg : W.grownBy W2 (some s.mb)) (hm : MapF W2 s.mb (fun k => if k = a then none else s.map k) (if (s.map a).isSome then s.n - 1 else s.n)) :
    Locks w0 W2 own (upd ts i (s.less a)) := by
  have hT := h.tab i s hs
  have hlow : ∀ b x, own b = some x → x ≠ (i, Tag.m) → W2.heap[b]? = W.heap[b]? := fun b x hx hne =>
    hg.block b (h.owns b x hx).2 (fun e => hne (by rw [Option.some.inj e, hT.mbo] at hx; exact (Option.some.inj hx).symm))
  have hms : (s.map a).isSome = (s.rows a).isSome := by unfold TS.map; cases s.rows a <;> rfl
  refine ⟨⟨hg.os.trans h.ext.os, hg.tape.trans h.ext.tape, hg.output.trans h.ext.output, Nat.le_trans h.ext.size hg.size, fun b hb' => (hg.block b (Nat.lt_of_lt_of_le hb' h.ext.size) (fun e => ?_)).trans (h.ext.block b hb')⟩,
    fun b x hx => ⟨(h.owns b x hx).1, Nat.lt_of_lt_of_le (h.owns b x hx).2 hg.size⟩, fun j s' hj => ?_, fun b j tag hb' => ?_⟩
  · have := (h.owns _ _ hT.mbo).1
    have := Option.some.inj e
    omega
  · by_cases hji : j = i
    · subst hji
      rw [upd_self] at hj
      cases hj
      refine ⟨(hlow _ _ hT.tbo (by simp)).trans hT.blk, hT.tbo, ?_, hT.mbo, ?_, hT.cok, ?_⟩
      · rw [hms] at hm
        have he : (fun k => if k = a then none else s.map k) = (s.less a).map := by
          funext q
          unfold TS.map TS.less rdel
          by_cases hq : q = a
          · simp [hq]
          · simp [hq]
        rw [← he]
        exact hm
      · intro q rq hq
        simp only [TS.less, rdel] at hq
        by_cases hqk : q = a
        · rw [if_pos hqk] at hq; cases hq
        · rw [if_neg hqk] at hq
          have hQ := hT.row q rq hq
          exact hQ.keep (fun _ _ h => h) (hlow _ _ hQ.pown (by simp)) (fun g hg => hlow _ _ (hQ.fown g hg) (by simp))
      · have := hT.few
        show (if (s.rows a).isSome then s.n - 1 else s.n) ≤ 32
        split <;> omega
    · rw [upd_ne hji] at hj
      exact (h.tab j s' hj).keep (fun _ _ h => h) (fun b tag hb' => hlow b _ hb' (by simp [hji]))
  · unfold upd
    split
    · simp
    · exact h.idx b j tag hb'

set_option maxRecDepth 100000 in
theorem clear_any {w0 w : World} {own : Nat → Option (Nat × Tag)} {ts : Nat → Option TS} {i : Nat} {s : TS} {a : Int} (h : Locks w0 w own ts) (hs : ts i = some s) (ha : U32 a) :
    Calls Try.prog 17 #[ptr s.tb, .int .u32 a] w fun e w' => (∃ v, e = .returned v) ∧ Same w w' (Free own) ∧ Locks w0 w' own (upd ts i (s.less a)) := by
  have hT := h.tab i s hs
  have hb3 := cell_blk (j := 3) hT.blk rfl
  obtain ⟨w2, hrun, hm, hg⟩ := hT.map.drop ha 0
  have HL := hid (h.del hs hg hm)
  have HS : Hid (Same w w2 (Free own)) := hid (Same.of_grown hg (fun b hb e => by
      have h5 := hT.mbo
      cases e
      rw [show own s.mb = none from hb] at h5
      cases h5))
  clear hT hm hg h hs
  unfold ptr at *
  go_enter Try.func17, Try.ntmps17
  go_wp2_with fail
  go_end0
  exact ⟨⟨_, rfl⟩, HS.out, HL.out⟩

end Go.Proofs.Ytnlblmpfkikneaa
