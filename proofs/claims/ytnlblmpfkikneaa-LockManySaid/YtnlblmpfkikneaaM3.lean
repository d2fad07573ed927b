/-
  The row of an address, in a table with room.
-/
import Derived.Test.YtnlblmpfkikneaaM2
import Derived.Laws.AppendOwn
namespace Go.Proofs.Ytnlblmpfkikneaa
open Go Go.RowKit Go.Maps
attribute [local go_sem] extUpon
attribute [local go_sem ↓] eval_put_ne eval_put_none eval_put_same size_put eval_const

def upd (ts : Nat → Option TS) (i : Nat) (s : TS) (j : Nat) : Option TS := if j = i then some s else ts j
theorem upd_self (ts : Nat → Option TS) (i : Nat) (s : TS) : upd ts i s i = some s := if_pos rfl
theorem upd_ne {ts : Nat → Option TS} {i j : Nat} {s : TS} (h : j ≠ i) : upd ts i s j = ts j := if_neg h
theorem upd_upd (ts : Nat → Option TS) (i : Nat) (s s2 : TS) : upd (upd ts i s) i s2 = upd ts i s2 := by
  funext j; unfold upd; split <;> rfl
theorem upd_same {ts : Nat → Option TS} {i : Nat} {s : TS} (h : ts i = some s) : upd ts i s = ts := by
  funext j; unfold upd; split
  · rename_i hj; rw [hj, h]
  · rfl
def rset (rows : Int → Option LRow) (a : Int) (r : LRow) (q : Int) : Option LRow := if q = a then some r else rows q
theorem rset_self (rows : Int → Option LRow) (a : Int) (r : LRow) : rset rows a r a = some r := if_pos rfl
theorem rset_ne {rows : Int → Option LRow} {a q : Int} {r : LRow} (h : q ≠ a) : rset rows a r q = rows q := if_neg h
theorem rset_same {rows : Int → Option LRow} {a : Int} {r : LRow} (h : rows a = some r) : rset rows a r = rows := by
  funext j; unfold rset; split
  · rename_i hj; rw [hj, h]
  · rfl
theorem rset_rset (rows : Int → Option LRow) (a : Int) (r r2 : LRow) : rset (rset rows a r) a r2 = rset rows a r2 := by
  funext j; unfold rset; split <;> rfl

def TS.grown (s : TS) (a : Int) : Nat := if (s.rows a).isSome then s.n else s.n + 1
/-- Owners of before stay, and nobody gets a block of before. -/
structure Owns (w : World) (own own2 : Nat → Option (Nat × Tag)) : Prop where
  keep : ∀ b x, own b = some x → own2 b = some x
  none : ∀ b, b < w.heap.size → own b = none → own2 b = none
theorem Owns.refl (w : World) (own : Nat → Option (Nat × Tag)) : Owns w own own := ⟨fun _ _ h => h, fun _ _ h => h⟩
theorem Owns.trans {w w2 : World} {a b c : Nat → Option (Nat × Tag)} (h : Owns w a b) (k : Owns w2 b c) (hw : w.heap.size ≤ w2.heap.size) : Owns w a c :=
  ⟨fun q x hx => k.keep q x (h.keep q x hx), fun q hq hx => k.none q (Nat.lt_of_lt_of_le hq hw) (h.none q hq hx)⟩
def Free (own : Nat → Option (Nat × Tag)) (b : Nat) : Prop := own b = Option.none
theorem Same.free {w a b : World} {own own2 : Nat → Option (Nat × Tag)} (h : Same w a (Free own)) (k : Same a b (Free own2)) (ho : Owns w own own2) : Same w b (Free own) :=
  ⟨k.1.trans h.1, k.2.1.trans h.2.1, k.2.2.1.trans h.2.2.1, Nat.le_trans h.2.2.2.1 k.2.2.2.1, fun q hq hf => (k.2.2.2.2 q (Nat.lt_of_lt_of_le hq h.2.2.2.1) (ho.none q hq hf)).trans (h.2.2.2.2 q hq hf)⟩

theorem Locks.add {w0 W W2 : World} {own : Nat → Option (Nat × Tag)} {ts : Nat → Option TS} {i : Nat} {s : TS} {a : Int} {p : Nat} (h : Locks w0 W own ts) (hs : ts i = some s) (hr : s.rows a = none) (hp : own p = none) (hp0 : w0.heap.size ≤ p)
    (h2 : Same W W2 (fun b => b ≠ s.mb)) (hpb : W2.heap[p]? = some (.cells #[.slice none 0 0, .int .u64 0, .int .i64 0] 58 (0, 0)))
    (hm : MapF W2 s.mb (fun k => if k = a then some p else s.map k) (s.n + 1)) (hn : s.n < 32) :
    Locks w0 W2 (fun b => if b = p then some (i, .r a) else own b)
      (upd ts i { s with n := s.n + 1, rows := rset s.rows a .new, pf := fun q => if q = a then p else s.pf q, fv := fun q => if q = a then .slice none 0 0 else s.fv q }) := by
  have hT := h.tab i s hs
  have hkeep : ∀ b x, own b = some x → (if b = p then some (i, Tag.r a) else own b) = some x := fun b x hx => by
    rw [if_neg (fun e => by rw [e, hp] at hx; cases hx)]; exact hx
  have hlow : ∀ b x, own b = some x → x ≠ (i, Tag.m) → W2.heap[b]? = W.heap[b]? := fun b x hx hne =>
    h2.2.2.2.2 b (h.owns b x hx).2 (fun e => hne (by rw [e, hT.mbo] at hx; exact (Option.some.inj hx).symm))
  refine ⟨⟨h2.1.trans h.ext.os, h2.2.1.trans h.ext.tape, h2.2.2.1.trans h.ext.output, Nat.le_trans h.ext.size h2.2.2.2.1, fun b hb' => (h2.2.2.2.2 b (Nat.lt_of_lt_of_le hb' h.ext.size) (fun e => ?_)).trans (h.ext.block b hb')⟩, ?_, ?_, fun b j tag hb' => ?_⟩
  rotate_right
  · unfold upd
    split
    · simp
    · rename_i hji
      split at hb'
      · cases hb'; exact absurd rfl hji
      · exact h.idx b j tag hb'
  · have := (h.owns _ _ hT.mbo).1; omega
  · intro b x hx
    split at hx
    · rename_i hbp
      rw [hbp]
      exact ⟨hp0, (Array.getElem?_eq_some_iff.1 hpb).1⟩
    · exact ⟨(h.owns b x hx).1, Nat.lt_of_lt_of_le (h.owns b x hx).2 h2.2.2.2.1⟩
  · intro j s' hj
    by_cases hji : j = i
    · subst hji
      rw [upd_self] at hj
      cases hj
      refine ⟨(hlow _ _ hT.tbo (by simp)).trans hT.blk, hkeep _ _ hT.tbo, ?_, hkeep _ _ hT.mbo, ?_, hT.cok, hn⟩
      · have he : (fun k => if k = a then some p else s.map k) = TS.map { s with n := s.n + 1, rows := rset s.rows a .new, pf := fun q => if q = a then p else s.pf q, fv := fun q => if q = a then .slice none 0 0 else s.fv q } := by
          funext q
          unfold TS.map rset
          by_cases hq : q = a
          · simp [hq]
          · simp [hq]
        rw [← he]
        exact hm
      · intro q rq hq
        simp only [rset] at hq ⊢
        by_cases hqk : q = a
        · subst hqk
          rw [if_pos rfl] at hq
          cases hq
          rw [if_pos rfl, if_pos rfl]
          exact ⟨hpb, if_pos rfl, ⟨rfl, .inl ⟨rfl, rfl⟩⟩, fun g hg => (by cases hg), LRow.new_ok⟩
        · rw [if_neg hqk] at hq
          rw [if_neg hqk, if_neg hqk]
          have hQ := hT.row q rq hq
          exact hQ.keep hkeep (hlow _ _ hQ.pown (by simp)) (fun g hg => hlow _ _ (hQ.fown g hg) (by simp))
    · rw [upd_ne hji] at hj
      exact (h.tab j s' hj).keep hkeep (fun b tag hb' => hlow b _ hb' (by simp [hji]))

set_option maxHeartbeats 2000000 in
set_option maxRecDepth 100000 in
theorem row_any {w0 w : World} {own : Nat → Option (Nat × Tag)} {ts : Nat → Option TS} {i : Nat} {s : TS} {a : Int} (h : Locks w0 w own ts) (hs : ts i = some s) (ha : U32 a) (hn : (s.rows a).isSome = true ∨ s.n < 32) :
    Calls Try.prog 23 #[ptr s.tb, .int .u32 a] w fun e w' => ∃ own' s', e = .returned (ptr (s'.pf a)) ∧ Locks w0 w' own' (upd ts i s') ∧ Owns w own own' ∧ Same w w' (Free own) ∧
      s'.rows = rset s.rows a ((s.rows a).getD .new) ∧ s'.c = s.c ∧ s'.tb = s.tb ∧ s'.n = s.grown a := by
  have hE0 : Ext w (w.alloc (.cells #[ptr s.tb] 25 (0, 0))) := Ext.alloc _ _
  have hT1 := (h.later hE0).tab i s hs
  have hb3 := cell_blk (j := 3) hT1.blk rfl
  have hlk := hT1.map.look ha
  have hln := hT1.map.len 3
  have hmap : s.map a = (s.rows a).map fun _ => s.pf a := rfl
  cases hr : s.rows a with
  | some r =>
    rw [hr] at hmap
    simp only [hmap, Option.map_some, Option.isSome_some] at hlk
    have H1 := hid (h.later hE0)
    have HR := hid hr
    clear hT1 hln hmap hE0 h hn hr
    unfold ptr at *
    go_enter Try.func23, Try.ntmps23
    go_wp2_with fail
    go_ret
    refine ⟨own, s, rfl, ?_, Owns.refl _ _, Same.of_ext (Ext.alloc _ _), (rset_same HR.out).symm, rfl, rfl, by unfold TS.grown; rw [HR.out]; rfl⟩
    rw [upd_same hs]
    exact H1.out
  | none =>
    rw [hr] at hmap hn
    simp only [hmap, Option.map_none, Option.isSome_none] at hlk
    have hn' : s.n < 32 := by rcases hn with hn | hn; · cases hn
                              · exact hn
    have hni : ¬ (32 : Int) ≤ (s.n : Int) := by omega
    have hE1 : Ext (w.alloc (.cells #[ptr s.tb] 25 (0, 0))) ((w.alloc (.cells #[ptr s.tb] 25 (0, 0))).alloc (.cells #[.slice none 0 0, .int .u64 0, .int .i64 0] 58 (0, 0))) := Ext.alloc _ _
    have h2 := (h.later hE0).later hE1
    have hT2 := h2.tab i s hs
    have hb3' := cell_blk (j := 3) hT2.blk rfl
    obtain ⟨w4, hrun, hm4, hg4⟩ := hT2.map.store ha hmap (by omega) (w.heap.size + 1)
    have hnp : own (w.heap.size + 1) = none := by
      cases ho : own (w.heap.size + 1) with
      | none => rfl
      | some x => have := (h.owns _ _ ho).2; omega
    have hmbne : s.mb ≠ w.heap.size + 1 := by have := (h.owns _ _ (h.tab i s hs).mbo).2; omega
    have hpb : w4.heap[w.heap.size + 1]? = some (.cells #[.slice none 0 0, .int .u64 0, .int .i64 0] 58 (0, 0)) := by
      rw [hg4.block _ (by simp) (fun e => hmbne (Option.some.inj e).symm)]
      exact blk_at (by simp)
    have hL := h2.add hs hr hnp (by have := h.ext.size; omega) (Same.of_grown hg4 (fun b hb e => hb (Option.some.inj e))) hpb hm4 hn'
    have HL := hid hL
    have HR := hid hr
    have HS : Hid (Same w w4 (Free own)) := hid ((Same.of_ext (hE0.trans hE1)).trans (Same.of_grown hg4 (fun b hb e => by
      have h5 := (h.tab i s hs).mbo
      cases e
      rw [show own s.mb = none from hb] at h5
      cases h5)))
    have HO : Hid (Owns w own (fun b => if b = w.heap.size + 1 then some (i, Tag.r a) else own b)) := hid ⟨fun b x hx => by
        rw [if_neg (fun e => by rw [e, hnp] at hx; cases hx)]; exact hx, fun b hb hx => by
        rw [if_neg (by omega)]; exact hx⟩
    clear hT1 hmap hE0 h hn hr h2 hT2 hm4 hg4 hmbne hpb hL hE1
    unfold ptr at *
    go_enter Try.func23, Try.ntmps23
    go_wp2_with fail
    go_ret
    exact ⟨_, _, by simp, HL.out, HO.out, HS.out, rfl, rfl, rfl, by unfold TS.grown; rw [HR.out]; rfl⟩

end Go.Proofs.Ytnlblmpfkikneaa
