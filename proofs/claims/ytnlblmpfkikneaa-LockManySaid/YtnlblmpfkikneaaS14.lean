/-
  Tables as they are seen from without, where an address may go.
-/
import Derived.Test.YtnlblmpfkikneaaS13
import Derived.Test.YtnlblmpfkikneaaM6
namespace Go.Proofs.Ytnlblmpfkikneaa
open Go Go.RowKit Go.Maps

open Classical in
/-- The address that goes. -/
noncomputable def gk (rows : Int → Option LRow) : Int := if h : ∃ k, Gone rows k then Classical.choose h else 0
theorem gk_gone {rows : Int → Option LRow} (h : ∃ k, Gone rows k) : Gone rows (gk rows) := by
  unfold gk
  rw [dif_pos h]
  exact Classical.choose_spec h
def TV.room (v : TV) (a : Int) : Bool := (v.rows a).isSome || decide (v.n < 32)
/-- What a fail leaves, whether there is room or not. -/
noncomputable def TV.push (v : TV) (a : Int) (now : Nat) : TV := if v.room a then v.put a now else ⟨v.tb, v.c, 32, rset (rdel v.rows (gk v.rows)) a (LRow.new.hit v.c (capT now)).2⟩

section
variable {w0 W W2 : World} {vs : Nat → Option TV} {kp : List Nat} {i : Nat} {v : TV} {a : Int} {now : Nat}
theorem Tabs.rising (h : Tabs w0 W vs kp) (hv : vs i = some v) : v.n ≤ 32 ∧ ∃ ks : List Int, ks.Pairwise (· < ·) ∧ ks.length = v.n ∧ ∀ x, x ∈ ks ↔ (v.rows x).isSome = true := by
  obtain ⟨own, ts, h1, h2, h3⟩ := h
  have h4 := h2 i
  rw [hv] at h4
  obtain ⟨s, hs, hsv⟩ := Option.map_eq_some_iff.1 h4
  obtain ⟨e1, e2, e3, e4⟩ := view_map hsv
  obtain ⟨ks, k1, k2, k3⟩ := (h1.tab i s hs).map.rising
  refine ⟨by rw [← e3]; exact (h1.tab i s hs).few, ks, k1, by rw [k2, e3], fun x => ?_⟩
  rw [k3, ← e4]
  unfold TS.map
  cases s.rows x <;> rfl
theorem Tabs.gone (h : Tabs w0 W vs kp) (hv : vs i = some v) (hn : 0 < v.n) : Gone v.rows (gk v.rows) := by
  obtain ⟨own, ts, h1, h2, h3⟩ := h
  have h4 := h2 i
  rw [hv] at h4
  obtain ⟨s, hs, hsv⟩ := Option.map_eq_some_iff.1 h4
  obtain ⟨e1, e2, e3, e4⟩ := view_map hsv
  have := gone_some h1 hs (by omega)
  rw [e4] at this
  exact gk_gone this
theorem Tabs.failx (h : Tabs w0 W vs kp) (hv : vs i = some v) (ha : U32 a) (hnow : now < 18446744073709551616) :
    Calls Try.prog 13 #[ptr v.tb, .int .u32 a, .int .u64 now] W fun e w' => e = .returned (.bool (v.hit a now)) ∧ Tabs w0 w' (vupd vs i (v.push a now)) kp ∧ ∀ b ∈ kp, w'.heap[b]? = W.heap[b]? := by
  cases hr : v.room a with
  | true =>
    have e : v.push a now = v.put a now := by unfold TV.push; rw [if_pos hr]
    rw [e]
    refine h.fail hv ha hnow ?_
    unfold TV.room at hr
    unfold TV.Room
    simpa using hr
  | false =>
    have e : v.push a now = ⟨v.tb, v.c, 32, rset (rdel v.rows (gk v.rows)) a (LRow.new.hit v.c (capT now)).2⟩ := by unfold TV.push; rw [if_neg (by rw [hr]; simp)]
    rw [e]
    have hfew := (h.rising hv).1
    have hr2 : v.rows a = none ∧ v.n = 32 := by
      unfold TV.room at hr
      simp only [Bool.or_eq_false_iff, decide_eq_false_iff_not] at hr
      refine ⟨?_, by omega⟩
      cases h5 : v.rows a with
      | none => rfl
      | some r => rw [h5] at hr; simp at hr
    have hg := h.gone hv (by omega)
    obtain ⟨own, ts, h1, h2, h3⟩ := h
    have h4 := h2 i
    rw [hv] at h4
    obtain ⟨s, hs, hsv⟩ := Option.map_eq_some_iff.1 h4
    obtain ⟨e1, e2, e3, e4⟩ := view_map hsv
    have hf := fail_of h1 hs hnow (rdel s.rows (gk v.rows)) .new 32 (fun W2 he => row_full (h1.later he) hs ha (by rw [e4]; exact hr2.1) (by rw [e3]; exact hr2.2) (by rw [e4]; exact hg))
    rw [e1, e4, e2] at hf
    refine hf.mono ?_
    rintro e w' ⟨rfl, own2, s2, hL, hO, hS, g1, g2, g3, g4⟩
    have hh : v.hit a now = (LRow.new.hit v.c (capT now)).1 := by unfold TV.hit TV.row; rw [hr2.1]; rfl
    refine ⟨by rw [hh], ⟨own2, upd ts i s2, hL, fun j => ?_, fun b hb => ⟨hO.none b (h3 b hb).2 (h3 b hb).1, Nat.lt_of_lt_of_le (h3 b hb).2 hS.2.2.2.1⟩⟩, fun b hb => hS.2.2.2.2 b (h3 b hb).2 (h3 b hb).1⟩
    unfold upd vupd
    split
    · simp only [Option.map_some, Option.some.injEq]
      show TV.mk s2.tb s2.c s2.n s2.rows = _
      rw [g1, g2, g3, g4]
    · exact h2 j
theorem Tabs.addr (h : Tabs w0 W vs kp) (hv : vs i = some v) :
    Calls Try.prog 16 #[ptr v.tb] W fun e w' => ∃ x ks, e = .returned x ∧ (List.Pairwise (· < ·) ks ∧ ks.length = v.n ∧ ∀ x, x ∈ ks ↔ (v.rows x).isSome = true) ∧ Ad w' x ks ∧ Ext W w' := by
  obtain ⟨own, ts, h1, h2, h3⟩ := h
  have h4 := h2 i
  rw [hv] at h4
  obtain ⟨s, hs, hsv⟩ := Option.map_eq_some_iff.1 h4
  obtain ⟨e1, e2, e3, e4⟩ := view_map hsv
  have hf := addr_any h1 hs
  rw [e1] at hf
  refine hf.mono ?_
  rintro e w' ⟨x, ks, rfl, ⟨k1, k2, k3⟩, hA, hE⟩
  refine ⟨x, ks, rfl, ⟨k1, by rw [k2, e3], fun y => ?_⟩, hA, hE⟩
  rw [k3, ← e4]
  unfold TS.map
  cases s.rows y <;> rfl
end

end Go.Proofs.Ytnlblmpfkikneaa
