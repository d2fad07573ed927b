/-
  One row of one table, as it is seen from without; what fails make of it.
-/
import Derived.Test.YtnlblmpfkikneaaM6
namespace Go.Proofs.Ytnlblmpfkikneaa
open Go Go.RowKit Go.Maps

def tilR (r : LRow) (now : Nat) : Nat := if r.til ≤ capT now then 0 else r.til
theorem til_row (v : TV) (a : Int) (now : Nat) : v.til a now = tilR (v.row a) now := by
  unfold TV.til tilAt TV.row tilR
  cases v.rows a with
  | none => simp [LRow.new]
  | some r => rfl
theorem row_put (v : TV) (a : Int) (now : Nat) : (v.put a now).row a = ((v.row a).hit v.c (capT now)).2 := by
  show (rset v.rows a _ a).getD .new = _
  rw [rset_self]; rfl
theorem row_put_ne (v : TV) {a b : Int} (now : Nat) (h : b ≠ a) : (v.put a now).row b = v.row b := by
  show (rset v.rows a _ b).getD .new = _
  rw [rset_ne h]; rfl
theorem room_put (v : TV) (a : Int) (now : Nat) : (v.put a now).Room a := .inl (by show (rset v.rows a _ a).isSome = true; rw [rset_self]; rfl)

/-- One table, and in it one address. -/
structure Good (v : TV) (tb : Nat) (c : Cfg) (a : Int) (r : LRow) : Prop where
  tb : v.tb = tb
  c : v.c = c
  row : v.row a = r
  room : v.Room a
theorem Good.put {v : TV} {tb : Nat} {c : Cfg} {a : Int} {r : LRow} (h : Good v tb c a r) (now : Nat) : Good (v.put a now) tb c a (r.hit c (capT now)).2 :=
  ⟨h.tb, h.c, by rw [row_put, h.row, h.c], room_put v a now⟩
theorem Good.hit {v : TV} {tb : Nat} {c : Cfg} {a : Int} {r : LRow} (h : Good v tb c a r) (now : Nat) : v.hit a now = (r.hit c (capT now)).1 := by
  unfold TV.hit
  rw [h.row, h.c]
theorem Good.til {v : TV} {tb : Nat} {c : Cfg} {a : Int} {r : LRow} (h : Good v tb c a r) (now : Nat) : v.til a now = tilR r now := by rw [til_row, h.row]
theorem Good.new (tb : Nat) (c : Cfg) (a : Int) : Good ⟨tb, c, 0, fun _ => none⟩ tb c a .new := ⟨rfl, rfl, rfl, .inr (show (0 : Nat) < 32 by decide)⟩

def One (w0 W : World) (tb : Nat) (c : Cfg) (a : Int) (r : LRow) : Prop := ∃ vs v, Tabs w0 W vs [] ∧ vs 0 = some v ∧ Good v tb c a r
section
variable {w0 W W2 : World} {tb : Nat} {c : Cfg} {a : Int} {r : LRow} {now : Nat}
theorem One.ext (h : One w0 W tb c a r) : Ext w0 W := by obtain ⟨_, _, h, _⟩ := h; exact h.ext
theorem One.later (h : One w0 W tb c a r) (he : Ext W W2) : One w0 W2 tb c a r := by
  obtain ⟨vs, v, h, h2⟩ := h
  exact ⟨vs, v, h.later he, h2⟩
theorem One.fail (h : One w0 W tb c a r) (ha : U32 a) (hnow : now < 18446744073709551616) :
    Calls Try.prog 13 #[ptr tb, .int .u32 a, .int .u64 now] W fun e w' => e = .returned (.bool (r.hit c (capT now)).1) ∧ One w0 w' tb c a (r.hit c (capT now)).2 := by
  obtain ⟨vs, v, h, h2, h3⟩ := h
  have hf := h.fail h2 ha hnow h3.room
  rw [h3.tb, h3.hit] at hf
  refine hf.mono ?_
  rintro e w' ⟨rfl, hT, _⟩
  exact ⟨rfl, _, _, hT, vupd_self _ _ _, h3.put now⟩
theorem One.until (h : One w0 W tb c a r) (ha : U32 a) :
    Calls Try.prog 14 #[ptr tb, .int .u32 a, .int .u64 now] W fun e w' => e = .returned (.int .u64 (tilR r now)) ∧ w' = W := by
  obtain ⟨vs, v, h, h2, h3⟩ := h
  have hf := h.until h2 ha (now := now)
  rw [h3.tb, h3.til] at hf
  exact hf
end
theorem one_new (w : World) (f wi bo : Nat) (a : Int) (hc : Cfg.Ok ⟨f, wi, bo⟩) :
    Calls Try.prog 11 #[.int .i64 f, .int .u64 wi, .int .u64 bo] w fun e w' => ∃ tb, e = .returned (.tuple #[ptr tb, .int .i64 0]) ∧ One w w' tb ⟨f, wi, bo⟩ a .new := by
  refine ((Tabs.start w).new 0 rfl f wi bo hc).mono ?_
  rintro e w' ⟨tb, rfl, hT, _⟩
  exact ⟨tb, rfl, _, _, hT, vupd_self _ _ _, Good.new _ _ _⟩

/-! What is reckoned. -/
theorem cap_le {n : Nat} (h : n ≤ 1099511627776) : capT n = n := by unfold capT; omega
theorem still_all (now wi n : Nat) (h : 1 ≤ wi) : still now wi (List.replicate n now) = List.replicate n now := by
  unfold still
  rw [List.filter_eq_self]
  intro x hx
  obtain rfl := List.eq_of_mem_replicate hx
  unfold old
  simp; omega
theorem still_none (now wi : Nat) (l : List Nat) (h : ∀ x ∈ l, wi ≤ now - x) : still now wi l = [] := by
  unfold still
  rw [List.filter_eq_nil_iff]
  intro x hx
  have := h x hx
  unfold old
  simp; omega
/-- Fails at one time, fewer than lock. -/
theorem hit_more {c : Cfg} (hc : c.Ok) (n now til times : Nat) (h : n + 1 < c.fails) : LRow.hit c ⟨List.replicate n now, til, times⟩ now = (false, ⟨List.replicate (n + 1) now, til, times⟩) := by
  unfold LRow.hit
  simp only [still_all now c.window n hc.w0]
  rw [if_pos (by simp; exact h), List.replicate_succ']
theorem hit_lock {c : Cfg} (hc : c.Ok) (n now til times : Nat) (h : ¬ n + 1 < c.fails) : LRow.hit c ⟨List.replicate n now, til, times⟩ now = (true, ⟨[], capT (now + c.backoff * 2 ^ (min (times + 1) 10 - 1)), min (times + 1) 10⟩) := by
  unfold LRow.hit
  simp only [still_all now c.window n hc.w0]
  rw [if_neg (by simp; omega)]

end Go.Proofs.Ytnlblmpfkikneaa
