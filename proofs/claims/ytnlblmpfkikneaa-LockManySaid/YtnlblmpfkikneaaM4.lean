/-
  A fail of an address, in a table with room.
-/
import Derived.Test.YtnlblmpfkikneaaM3
import Derived.Deep.DeepCutAuto
import Derived.Deep.Cut
import Derived.Deep.CutRange
import Derived.Deep.CutBlock
namespace Go.Proofs.Ytnlblmpfkikneaa
open Go Go.RowKit Go.Maps
attribute [local go_sem] extUpon
attribute [local go_sem ↓] eval_put_ne eval_put_none eval_put_same size_put eval_const

def capT (n : Nat) : Nat := min n 1099511627776
/-- What a fail makes of a row: is the address locked by it? -/
def LRow.hit (c : Cfg) (r : LRow) (now : Nat) : Bool × LRow :=
  if (still now c.window r.fails ++ [now]).length < c.fails then (false, { r with fails := still now c.window r.fails ++ [now] })
  else (true, ⟨[], capT (now + c.backoff * 2 ^ (min (r.times + 1) 10 - 1)), min (r.times + 1) 10⟩)
theorem LRow.hit_ok {c : Cfg} (hc : c.Ok) {r : LRow} (hr : r.Ok) (now : Nat) : (r.hit c now).2.Ok := by
  unfold LRow.hit
  split
  · rename_i h
    exact ⟨by have := hc.f1; show (still now c.window r.fails ++ [now]).length ≤ 20; omega, hr.til, hr.times⟩
  · exact ⟨by simp, by unfold capT; simp only []; omega, by simp only []; omega⟩

theorem grown_ext {w w1 w2 : World} {row : Option Nat} (h : w.grownBy w1 row) (he : Ext w1 w2) : w.grownBy w2 row :=
  ⟨he.os.trans h.os, he.tape.trans h.tape, he.output.trans h.output, Nat.le_trans h.size he.size, fun k hk hr => (he.block k (Nat.lt_of_lt_of_le hk h.size)).trans (h.block k hk hr)⟩
theorem ext_grown {w w1 w2 : World} {row : Option Nat} (he : Ext w w1) (h : w1.grownBy w2 row) : w.grownBy w2 row :=
  ⟨h.os.trans he.os, h.tape.trans he.tape, h.output.trans he.output, Nat.le_trans he.size h.size, fun k hk hr => (h.block k (Nat.lt_of_lt_of_le hk he.size) hr).trans (he.block k hk)⟩
theorem set_grown (W : World) (p j : Nat) (v : Value) : W.grownBy (W.setCell ⟨p, j, none⟩ v) (some p) :=
  ⟨rfl, rfl, rfl, by simp [World.setCell], fun k _ hk => Below.heap_setCell W ⟨p, j, none⟩ v k (fun e => hk (by rw [e]))⟩

theorem Owns.mono {w w2 : World} {a b : Nat → Option (Nat × Tag)} (h : Owns w2 a b) (hw : w.heap.size ≤ w2.heap.size) : Owns w a b :=
  ⟨h.keep, fun q hq hx => h.none q (Nat.lt_of_lt_of_le hq hw) hx⟩
theorem Same.trans' {w A B : World} {own own1 : Nat → Option (Nat × Tag)} {i : Nat} {k : Int} (h : Same w A (Free own)) (h2 : Same A B (fun b => own1 b ≠ some (i, .r k) ∧ own1 b ≠ some (i, .f k))) (ho : Owns w own own1) : Same w B (Free own) :=
  ⟨h2.1.trans h.1, h2.2.1.trans h.2.1, h2.2.2.1.trans h.2.2.1, Nat.le_trans h.2.2.2.1 h2.2.2.2.1, fun b hb hf => by
    have h5 := ho.none b hb hf
    exact (h2.2.2.2.2 b (Nat.lt_of_lt_of_le hb h.2.2.2.1) ⟨by rw [h5]; simp, by rw [h5]; simp⟩).trans (h.2.2.2.2 b hb hf)⟩

/-- In the midst of a fail: W3 is the world ahead of it. -/
structure Mid (base : Nat) (W3 W : World) (own : Nat → Option (Nat × Tag)) (i : Nat) (k : Int) (p nb tbx : Nat) (s : TS) (now : Nat) (v : Value) (fs : List Nat) (til times : Nat) : Prop where
  same : Same W3 W (fun b => own b ≠ some (i, .r k) ∧ own b ≠ some (i, .f k))
  row : W.heap[p]? = some (.cells #[v, .int .u64 til, .int .i64 times] 58 (0, 0))
  mine : W.ownsRow base 22 1 v fs.length (fs.map encN)
  fown : ∀ g, v.ownBlock = some g → own g = some (i, .f k) ∨ W3.heap.size ≤ g
  nbox : W.heap[nb]? = some (.cells #[.int .u64 now] 22 (0, 0))
  tbox : W.heap[tbx]? = some (.cells #[ptr s.tb] 25 (0, 0))
  tab : W.heap[s.tb]? = some (.cells #[.int .i64 s.c.fails, .int .u64 s.c.window, .int .u64 s.c.backoff, .map (some s.mb)] 53 (0, 0))
  low : base ≤ W.heap.size
  pown : own p = some (i, .r k)
  nown : own nb = none
  bown : own tbx = none
  town : own s.tb = some (i, .t)
  lt : p < W3.heap.size ∧ nb < W3.heap.size ∧ tbx < W3.heap.size ∧ s.tb < W3.heap.size

section
variable {base : Nat} {W3 W W2 : World} {own : Nat → Option (Nat × Tag)} {i : Nat} {k : Int} {p nb tbx : Nat} {s : TS} {now : Nat} {v v2 : Value} {fs fs2 : List Nat} {til times : Nat}
theorem Mid.later (h : Mid base W3 W own i k p nb tbx s now v fs til times) (he : Ext W W2) : Mid base W3 W2 own i k p nb tbx s now v fs til times :=
  ⟨h.same.trans (Same.of_ext he), he.blk h.row, own_ext he h.mine, h.fown, he.blk h.nbox, he.blk h.tbox, he.blk h.tab, Nat.le_trans h.low he.size, h.pown, h.nown, h.bown, h.town, h.lt⟩
theorem Mid.sep (h : Mid base W3 W own i k p nb tbx s now v fs til times) : ∀ g, v.ownBlock = some g → p ≠ g ∧ nb ≠ g ∧ tbx ≠ g ∧ s.tb ≠ g := fun g hg => by
  have h1 := h.lt
  rcases h.fown g hg with h5 | h5
  · refine ⟨fun e => ?_, fun e => ?_, fun e => ?_, fun e => ?_⟩
    · have := h.pown; rw [e, h5] at this; cases this
    · have := h.nown; rw [e, h5] at this; cases this
    · have := h.bown; rw [e, h5] at this; cases this
    · have := h.town; rw [e, h5] at this; cases this
  · exact ⟨by omega, by omega, by omega, by omega⟩
/-- The row of fails is turned, and laid into the row. -/
theorem Mid.put (h : Mid base W3 W own i k p nb tbx s now v fs til times) (hg : W.grownBy W2 v.ownBlock) (ho : W2.ownsRow base 22 1 v2 fs2.length (fs2.map encN))
    (hv : ∀ g, v2.ownBlock = some g → v.ownBlock = some g ∨ W.heap.size ≤ g) : Mid base W3 (W2.setCell ⟨p, 0, none⟩ v2) own i k p nb tbx s now v2 fs2 til times := by
  have hlt := h.lt
  have hs3 := h.same.2.2.2.1
  have hsep := h.sep
  have hfar : ∀ b, b < W3.heap.size → v.ownBlock ≠ some b → b ≠ p → (W2.setCell ⟨p, 0, none⟩ v2).heap[b]? = W.heap[b]? := fun b hb h1 h2 =>
    (Below.heap_setCell W2 ⟨p, 0, none⟩ v2 b h2).trans (hg.block b (by omega) (fun e => h1 e.symm))
  have hne : ∀ b, (∀ g, v.ownBlock = some g → b ≠ g) → v.ownBlock ≠ some b := fun b hb e => hb b e rfl
  have hpn : nb ≠ p := fun e => by have := h.nown; rw [e, h.pown] at this; cases this
  have hpb : tbx ≠ p := fun e => by have := h.bown; rw [e, h.pown] at this; cases this
  have hpt : s.tb ≠ p := fun e => by have := h.town; rw [e, h.pown] at this; cases this
  have hnew : ∀ g, v2.ownBlock = some g → own g = some (i, .f k) ∨ W3.heap.size ≤ g := fun g hg => by
    rcases hv g hg with h5 | h5
    · exact h.fown g h5
    · exact .inr (by omega)
  have hsz : W.heap.size ≤ (W2.setCell ⟨p, 0, none⟩ v2).heap.size := by have := hg.size; simp [World.setCell]; omega
  have hrow2 : W2.heap[p]? = some (.cells #[v, .int .u64 til, .int .i64 times] 58 (0, 0)) := (hg.block p (by omega) (fun e => (hsep p e.symm).1 rfl)).trans h.row
  have hne2 : ∀ g, v2.ownBlock = some g → g ≠ p := fun g hg2 e => by
    subst e
    rcases hnew g hg2 with h5 | h5
    · have := h.pown; rw [h5] at this; cases this
    · omega
  exact ⟨⟨hg.os.trans h.same.1, hg.tape.trans h.same.2.1, hg.output.trans h.same.2.2.1, by omega, fun b hb hp => (hfar b hb (fun e => by
        rcases h.fown b e with h5 | h5
        · exact hp.2 h5
        · omega) (fun e => hp.1 (by rw [e]; exact h.pown))).trans (h.same.2.2.2.2 b hb hp)⟩,
    by simp [World.setCell, Array.getElem?_modify, hrow2], own_same ho (fun g hg2 => Below.heap_setCell W2 ⟨p, 0, none⟩ v2 g (hne2 g hg2)), hnew,
    (hfar nb hlt.2.1 (hne _ fun g hg => (hsep g hg).2.1) hpn).trans h.nbox, (hfar tbx hlt.2.2.1 (hne _ fun g hg => (hsep g hg).2.2.1) hpb).trans h.tbox, (hfar s.tb hlt.2.2.2 (hne _ fun g hg => (hsep g hg).2.2.2) hpt).trans h.tab,
    by have := h.low; omega, h.pown, h.nown, h.bown, h.town, h.lt⟩
theorem Ext.grown {w w' : World} {row : Option Nat} (h : Ext w w') : w.grownBy w' row := ⟨h.os, h.tape, h.output, h.size, fun k hk _ => h.block k hk⟩
/-- One cell of the row is turned. -/
theorem Mid.cell {j : Nat} {x : Value} {til2 times2 : Nat} (h : Mid base W3 W own i k p nb tbx s now v fs til times)
    (hx : (#[v, .int .u64 til, .int .i64 times] : Array Value).setIfInBounds j x = #[v2, .int .u64 til2, .int .i64 times2]) (hv : v2 = v ∧ fs2 = fs ∨ v2 = .slice none 0 0 ∧ fs2 = []) :
    Mid base W3 (W.setCell ⟨p, j, none⟩ x) own i k p nb tbx s now v2 fs2 til2 times2 := by
  have hlt := h.lt
  have hs3 := h.same.2.2.2.1
  have hfar : ∀ b, b ≠ p → (W.setCell ⟨p, j, none⟩ x).heap[b]? = W.heap[b]? := fun b h2 => Below.heap_setCell W ⟨p, j, none⟩ x b h2
  have hpn : nb ≠ p := fun e => by have := h.nown; rw [e, h.pown] at this; cases this
  have hpb : tbx ≠ p := fun e => by have := h.bown; rw [e, h.pown] at this; cases this
  have hpt : s.tb ≠ p := fun e => by have := h.town; rw [e, h.pown] at this; cases this
  have hsz : W.heap.size ≤ (W.setCell ⟨p, j, none⟩ x).heap.size := by simp [World.setCell]
  have hnil : (W.setCell ⟨p, j, none⟩ x).ownsRow base 22 1 (.slice none 0 0) ([] : List Nat).length (([] : List Nat).map encN) := ⟨rfl, .inl ⟨rfl, rfl⟩⟩
  refine ⟨⟨h.same.1, h.same.2.1, h.same.2.2.1, by omega, fun b hb hp => (hfar b (fun e => hp.1 (by rw [e]; exact h.pown))).trans (h.same.2.2.2.2 b hb hp)⟩,
    by simp only [World.setCell, Array.getElem?_modify, h.row, if_true, Option.map_some, hx]; rfl, ?_, ?_, (hfar nb hpn).trans h.nbox, (hfar tbx hpb).trans h.tbox, (hfar s.tb hpt).trans h.tab, by have := h.low; omega, h.pown, h.nown, h.bown, h.town, h.lt⟩
  · rcases hv with ⟨rfl, rfl⟩ | ⟨rfl, rfl⟩
    · exact own_same h.mine (fun g hg => hfar g (fun e => (h.sep g hg).1 e.symm))
    · exact hnil
  · rcases hv with ⟨rfl, rfl⟩ | ⟨rfl, rfl⟩
    · exact h.fown
    · intro g hg; cases hg
/-- What is left: the row as it is now. -/
theorem Mid.done {w0 : World} {ts : Nat → Option TS} {r : LRow} (h : Mid w0.heap.size W3 W own i k p nb tbx s now v fs til times) (hL : Locks w0 W3 own ts) (hs : ts i = some s) (hr : s.rows k = some r) (hp : s.pf k = p) (hok : LRow.Ok ⟨fs, til, times⟩) :
    ∃ own2 s2, Locks w0 W own2 (upd ts i s2) ∧ Owns W3 own own2 ∧ s2.rows = rset s.rows k ⟨fs, til, times⟩ ∧ s2.c = s.c ∧ s2.tb = s.tb ∧ s2.n = s.n := by
  have h5 := hL.turn hs hr h.same (r2 := ⟨fs, til, times⟩) (by rw [hp]; exact h.row) h.mine h.fown hok
  refine ⟨_, _, h5, ⟨fun b x hx => ?_, fun b hb hx => ?_⟩, rfl, rfl, rfl, rfl⟩
  · unfold ownAlso
    split
    · rename_i hg
      rcases h.fown b hg with h6 | h6
      · rw [h6] at hx; exact hx
      · exact absurd (hL.owns b x hx).2 (by omega)
    · exact hx
  · unfold ownAlso
    rw [if_neg]
    · exact hx
    · intro hg
      rcases h.fown b hg with h6 | h6
      · rw [hx] at h6; cases h6
      · omega
end

set_option maxHeartbeats 4000000 in
set_option maxRecDepth 100000 in
theorem fail_of {w0 w : World} {own : Nat → Option (Nat × Tag)} {ts : Nat → Option TS} {i : Nat} {s : TS} {a : Int} {now : Nat} (h : Locks w0 w own ts) (hs : ts i = some s) (hnow : now < 18446744073709551616) (rows1 : Int → Option LRow) (r : LRow) (N : Nat)
    (hrow : ∀ W2, Ext w W2 → Calls Try.prog 23 #[ptr s.tb, .int .u32 a] W2 fun e w' => ∃ own' s', e = .returned (ptr (s'.pf a)) ∧ Locks w0 w' own' (upd ts i s') ∧ Owns W2 own own' ∧ Same W2 w' (Free own) ∧
      s'.rows = rset rows1 a r ∧ s'.c = s.c ∧ s'.tb = s.tb ∧ s'.n = N) :
    Calls Try.prog 13 #[ptr s.tb, .int .u32 a, .int .u64 now] w fun e w' => e = .returned (.bool (r.hit s.c (capT now)).1) ∧ ∃ own' s', Locks w0 w' own' (upd ts i s') ∧ Owns w own own' ∧ Same w w' (Free own) ∧
      s'.rows = rset rows1 a (r.hit s.c (capT now)).2 ∧ s'.c = s.c ∧ s'.tb = s.tb ∧ s'.n = N := by
  have hmin : min (now : Int) 1099511627776 = (capT now : Nat) := by unfold capT; omega
  have hcap : capT now ≤ 1099511627776 := by unfold capT; omega
  have hE2 : Ext w ((w.alloc (.cells #[ptr s.tb] 25 (0, 0))).alloc (.cells #[.int .u64 (capT now)] 22 (0, 0))) := (Ext.alloc _ _).trans (Ext.alloc _ _)
  have hL2 := h.later hE2
  have hbx : ((w.alloc (.cells #[ptr s.tb] 25 (0, 0))).alloc (.cells #[.int .u64 (capT now)] 22 (0, 0))).heap[w.heap.size]? = some (.cells #[ptr s.tb] 25 (0, 0)) := (Ext.alloc _ _).blk (blk_new w _)
  have hnb : ((w.alloc (.cells #[ptr s.tb] 25 (0, 0))).alloc (.cells #[.int .u64 (capT now)] 22 (0, 0))).heap[w.heap.size + 1]? = some (.cells #[.int .u64 (capT now)] 22 (0, 0)) := blk_at (by simp)
  have hfree : ∀ b, w.heap.size ≤ b → own b = none := fun b hb => by
    cases ho : own b with
    | none => rfl
    | some x => have := (h.owns _ _ ho).2; omega
  have HF0 := hid (hfree w.heap.size (by omega))
  have HF1 := hid (hfree (w.heap.size + 1) (by omega))
  have HE2 := hid hE2
  have HL2 := hid hL2
  have HBX := hid hbx
  have HNB := hid hnb
  have HS := hid hs
  have HROW := hid hrow
  have HC := hid hcap
  clear h hs hrow hE2 hL2 hbx hnb hfree hcap
  unfold ptr
  go_enter Try.func13, Try.ntmps13
  go_upto_region 2 with fail
  clear hmin
  change Code.wp Try.prog _ _ _ ((w.alloc (.cells #[ptr s.tb] 25 (0, 0))).alloc (.cells #[.int .u64 (capT now)] 22 (0, 0)))
  generalize World.alloc (World.alloc _ _) _ = W2 at *
  generalize w.heap.size + 1 = nb at *
  generalize w.heap.size = tbx at *
  have q1 := cell_blk (j := 0) HBX.out rfl
  unfold ptr at q1
  go_wp2_with fail
  refine (HROW.out W2 HE2.out).mono ?_
  rintro e W3 ⟨own1, s1, rfl, hL3, hO3, hS3, hr3, hc3, ht3, hn3⟩
  clear q1
  have hT3 := hL3.tab i s1 (upd_self _ _ _)
  have hR3 := hT3.row a r (by rw [hr3, rset_self])
  have hlb := (Array.getElem?_eq_some_iff.1 HBX.out).1
  have hln := (Array.getElem?_eq_some_iff.1 HNB.out).1
  have hsz3 := hS3.2.2.2.1
  have hM : Mid w0.heap.size W3 W3 own1 i a (s1.pf a) nb tbx s1 (capT now) (s1.fv a) r.fails r.til r.times :=
    ⟨Same.refl _ _, hR3.blk, hR3.fails, fun g hg => .inl (hR3.fown g hg), (hS3.2.2.2.2 nb hln HF1.out).trans HNB.out, (hS3.2.2.2.2 tbx hlb HF0.out).trans (by rw [ht3]; exact HBX.out), hT3.blk, hL3.ext.size, hR3.pown,
      hO3.none _ hln HF1.out, hO3.none _ hlb HF0.out, hT3.tbo, ⟨(hL3.owns _ _ hR3.pown).2, by omega, by omega, (hL3.owns _ _ hT3.tbo).2⟩⟩
  have HM := hid hM
  have HL3 := hid hL3
  have HO3 := hid hO3
  have HS3 := hid hS3
  have HI := hid (And.intro hr3 (And.intro hc3 (And.intro ht3 hn3)))
  have HOK := hid hR3.ok
  have HCK := hid hT3.cok
  clear hL3 hO3 hS3 hr3 hc3 ht3 hn3 hT3 hR3 hlb hln hsz3 hM
  have hpp : ptr (s1.pf a) = .pointer (some ⟨s1.pf a, 0, none⟩) := rfl
  rw [hpp]
  clear hpp
  generalize hp : s1.pf a = p at *
  have HP := hid hp
  clear hp
  have q3 := cell_blk (j := 0) HM.out.row rfl
  generalize s1.fv a = v3 at *
  go_wp2_with fail
  refine (del_any w0.heap.size v3 r.fails (capT now) nb tbx s1.tb s1.c HCK.out HC.out HOK.out.few _ HM.out.mine (cell_blk (j := 0) HM.out.nbox rfl) (cell_blk (j := 0) HM.out.tbox rfl) (cell_blk (j := 1) HM.out.tab rfl) (fun g hg => (HM.out.sep g hg).2)).mono ?_
  rintro e W4 ⟨v4, rfl, ho4, hg4, hv4⟩
  clear q3
  have hb4 : W4.heap[p]? = some (.cells #[v3, .int .u64 r.til, .int .i64 r.times] 58 (0, 0)) := (hg4.block p HM.out.lt.1 (fun e => (HM.out.sep p e.symm).1 rfl)).trans HM.out.row
  have q3 := cell_blk (j := 0) hb4 rfl
  have z3 : ∀ j, W4.frozen? ⟨p, j, none⟩ = false := fun j => by simp [World.frozen?, hb4]
  replace HM := hid (HM.out.put hg4 ho4 (fun g hg => .inl (hv4 g hg)))
  obtain ⟨a4, cap4, hv4'⟩ := own_form ho4
  clear ho4 hg4 hv4 hb4
  subst hv4'
  go_upto_region 4 with fail
  clear q3 z3
  generalize World.setCell _ _ _ = W5 at *
  clear W4
  have hlen : (still (capT now) s1.c.window r.fails).length ≤ 20 := Nat.le_trans (List.length_filter_le _ _) HOK.out.few
  generalize hfs : still (capT now) s1.c.window r.fails = fs at *
  have HFS := hid hfs
  clear hfs
  go_wp2_with fail
  refine reg_begin 7 (by kernel_rfl) ?_
  generalize hW : World.drew _ = W
  replace HM := hid (HM.out.later (Ext.drew _))
  rw [hW] at HM
  clear hW
  have HQ0 := hid (cell_blk (j := 0) HM.out.row rfl)
  have HQ1 := hid (cell_blk (j := 0) HM.out.nbox rfl)
  refine reg_pure 0 rfl (by kernel_rfl) rfl ?_
  apply Exists.intro
  refine ⟨fun w' => ?_, ?_⟩
  · go_simp
    exact rfl
  refine reg_quiet 1 rfl (by kernel_rfl) (by kernel_rfl) ?_; apply Exists.intro; refine ⟨fun w' hw' => ?_, ?_⟩; · go_simp; exact ⟨rfl, Ext.refl _⟩
  refine reg_quiet 2 rfl (by kernel_rfl) (by kernel_rfl) ?_; apply Exists.intro; refine ⟨fun w' hw' => ?_, ?_⟩; · go_simp; exact ⟨rfl, Ext.refl _⟩
  refine reg_quiet 3 rfl (by kernel_rfl) (by kernel_rfl) ?_; apply Exists.intro; refine ⟨fun w' hw' => ?_, ?_⟩; · go_simp; exact ⟨rfl, Ext.refl _⟩
  refine reg_quiet 4 rfl (by kernel_rfl) (by kernel_rfl) ?_; apply Exists.intro; refine ⟨fun w' hw' => ?_, ?_⟩; · have q0 := hw'.cell HQ0.out; go_simp; exact ⟨rfl, Ext.refl _⟩
  refine reg_quiet 5 rfl (by kernel_rfl) (by kernel_rfl) ?_; apply Exists.intro; refine ⟨fun w' hw' => ?_, ?_⟩; · have q0 := hw'.cell HQ1.out; go_simp; exact ⟨rfl, Ext.refl _⟩
  refine reg_one 6 rfl (by kernel_rfl) rfl (fun w' hw' => ?_)
  replace HM := hid (HM.out.later hw')
  clear hw' HQ0 HQ1
  go_simp
  refine ⟨Ext.alloc _ _, ?_⟩
  refine reg_one 7 rfl (by kernel_rfl) rfl (fun w3 hw3 => ?_)
  have hnw := hw3.cell (cell_blk (j := 0) (blk_new w' _) rfl)
  replace HM := hid (HM.out.later ((Ext.alloc w' _).trans hw3))
  generalize w'.heap.size = q at *
  refine app_one (.tmp 26) (.tmp 28) rfl rfl w0.heap.size _ fs (by rfl) HM.out.mine q 1 (capT now) (by rfl) hnw (by omega) HM.out.low ?_
  intro v5 w6 hown hgrow hat
  obtain ⟨a5, cap5, rfl⟩ := own_form hown
  clear hnw hw3
  refine ⟨fun h => absurd h (by decide), ?_⟩
  refine reg_quiet 8 rfl (by kernel_rfl) (by kernel_rfl) ?_; apply Exists.intro; refine ⟨fun w' hw' => ?_, ?_⟩; · go_simp; exact ⟨rfl, Ext.refl _⟩
  refine reg_quiet 9 rfl (by kernel_rfl) (by kernel_rfl) ?_; apply Exists.intro; refine ⟨fun w' hw' => ?_, ?_⟩; · go_simp; exact ⟨rfl, Ext.refl _⟩
  refine reg_one 10 rfl (by kernel_rfl) rfl (fun w' hw' => ?_)
  have hb6 := (grown_ext hgrow hw').block p (by have := HM.out.lt.1; have := HM.out.same.2.2.2.1; omega) (fun e => (HM.out.sep p e.symm).1 rfl)
  rw [HM.out.row] at hb6
  have q0 := cell_blk (j := 0) hb6 rfl
  have z0 : ∀ j, w'.frozen? ⟨p, j, none⟩ = false := fun j => by simp [World.frozen?, hb6]
  replace HM := hid (HM.out.put (grown_ext hgrow hw') (own_ext hw' hown) (fun g hg => (hat g hg).imp id (fun h => by omega)))
  rw [show (fs ++ [capT now]).length = fs.length + 1 by simp] at HM
  clear hown hgrow hat hw' hb6
  go_simp
  clear q0 z0
  generalize World.setCell _ _ _ = W7 at *
  refine reg_done (by kernel_rfl) (fun w8 hw' => ?_) _
  replace HM := hid (HM.out.later hw')
  clear hw'
  go_simp
  go_wp2_with fail
  refine reg_begin 10 (by kernel_rfl) ?_
  generalize hW : World.drew _ = W
  replace HM := hid (HM.out.later (Ext.drew _))
  rw [hW] at HM
  clear hW
  have HQ0 := hid (cell_blk (j := 0) HM.out.row rfl)
  have HQ1 := hid (cell_blk (j := 0) HM.out.tbox rfl)
  have HQ2 := hid (cell_blk (j := 0) HM.out.tab rfl)
  unfold ptr at HQ1
  refine reg_quiet 0 rfl (by kernel_rfl) (by kernel_rfl) ?_; apply Exists.intro; refine ⟨fun w' hw' => ?_, ?_⟩; · go_simp; exact ⟨rfl, Ext.refl _⟩
  refine reg_quiet 1 rfl (by kernel_rfl) (by kernel_rfl) ?_; apply Exists.intro; refine ⟨fun w' hw' => ?_, ?_⟩; · go_simp; exact ⟨rfl, Ext.refl _⟩
  refine reg_quiet 2 rfl (by kernel_rfl) (by kernel_rfl) ?_; apply Exists.intro; refine ⟨fun w' hw' => ?_, ?_⟩; · go_simp; exact ⟨rfl, Ext.refl _⟩
  refine reg_quiet 3 rfl (by kernel_rfl) (by kernel_rfl) ?_; apply Exists.intro; refine ⟨fun w' hw' => ?_, ?_⟩; · have q0 := hw'.cell HQ0.out; go_simp; exact ⟨rfl, Ext.refl _⟩
  refine reg_quiet 4 rfl (by kernel_rfl) (by kernel_rfl) ?_; apply Exists.intro; refine ⟨fun w' hw' => ?_, ?_⟩; · go_simp; exact ⟨rfl, Ext.refl _⟩
  refine reg_quiet 5 rfl (by kernel_rfl) (by kernel_rfl) ?_; apply Exists.intro; refine ⟨fun w' hw' => ?_, ?_⟩; · have q0 := hw'.cell HQ1.out; go_simp; exact ⟨rfl, Ext.refl _⟩
  refine reg_quiet 6 rfl (by kernel_rfl) (by kernel_rfl) ?_; apply Exists.intro; refine ⟨fun w' hw' => ?_, ?_⟩; · go_simp; exact ⟨rfl, Ext.refl _⟩
  refine reg_quiet 7 rfl (by kernel_rfl) (by kernel_rfl) ?_; apply Exists.intro; refine ⟨fun w' hw' => ?_, ?_⟩; · go_simp; exact ⟨rfl, Ext.refl _⟩
  refine reg_quiet 8 rfl (by kernel_rfl) (by kernel_rfl) ?_; apply Exists.intro; refine ⟨fun w' hw' => ?_, ?_⟩; · have q0 := hw'.cell HQ2.out; go_simp; exact ⟨rfl, Ext.refl _⟩
  refine reg_quiet 9 rfl (by kernel_rfl) (by kernel_rfl) ?_; apply Exists.intro; refine ⟨fun w' hw' => ?_, ?_⟩; · go_simp; exact ⟨rfl, Ext.refl _⟩
  refine reg_done (by kernel_rfl) (fun w9 hw' => ?_) _
  replace HM := hid (HM.out.later hw')
  clear hw' HQ0 HQ1 HQ2
  go_simp
  by_cases hlt : (fs ++ [capT now]).length < s1.c.fails
  · have hlt2 : (fs.length : Int) + 1 < (s1.c.fails : Int) := by simp at hlt; omega
    have hhit : r.hit s.c (capT now) = (true && false, ⟨fs ++ [capT now], r.til, r.times⟩) := by
      unfold LRow.hit
      rw [← HI.out.2.1, HFS.out, if_pos hlt]; rfl
    have hfin := HM.out.done HL3.out (upd_self _ _ _) (by rw [HI.out.1, rset_self]) HP.out (by have := LRow.hit_ok HCK.out HOK.out (capT now); rw [HI.out.2.1, hhit] at this; exact this)
    have HG := hid hfin
    have HW := hid (HM.out.same)
    have HH := hid hhit
    clear hfin hhit HM
    go_wp2_with fail
    go_ret
    obtain ⟨own2, s2, hL, hO, h1, h2, h3, h4⟩ := HG.out
    rw [upd_upd] at hL
    rw [HH.out]
    refine ⟨rfl, own2, s2, hL, (Owns.mono HO3.out HE2.out.size).trans hO (by have := HE2.out.size; have := HS3.out.2.2.2.1; omega), ((Same.of_ext HE2.out).trans HS3.out).trans' HW.out (Owns.mono HO3.out HE2.out.size), ?_, h2.trans HI.out.2.1, h3.trans HI.out.2.2.1, h4.trans HI.out.2.2.2⟩
    rw [h1, HI.out.1, rset_rset]
  · have hlt2 : ¬ (fs.length : Int) + 1 < (s1.c.fails : Int) := by simp at hlt; omega
    have htm := HOK.out.times
    have hwr : IntKind.i64.wrap ((r.times : Int) + 1) = (r.times : Int) + 1 := by rw [IntKind.wrap_i64]; omega
    have hm10 : min ((r.times : Int) + 1) 10 = ((min (r.times + 1) 10 : Nat) : Int) := by omega
    have q0 := cell_blk (j := 2) HM.out.row rfl
    have z0 : ∀ j, w9.frozen? ⟨p, j, none⟩ = false := fun j => by simp [World.frozen?, HM.out.row]
    have HM2 := hid (HM.out.cell (j := 2) (x := .int .i64 (min (r.times + 1) 10 : Nat)) (v2 := .slice a5 (fs.length + 1) cap5) (fs2 := fs ++ [capT now]) (til2 := r.til) (times2 := min (r.times + 1) 10) rfl (.inl ⟨rfl, rfl⟩))
    clear HM
    generalize hk : min (r.times + 1) 10 = tm at *
    go_upto_region 8 with fail
    clear q0 z0 hlt2 hwr hm10
    generalize World.setCell _ _ _ = W10 at *
    go_wp2_with fail
    refine reg_begin 16 (by kernel_rfl) ?_
    generalize hW : World.drew _ = W11
    replace HM2 := hid (HM2.out.later (Ext.drew _))
    rw [hW] at HM2
    clear hW
    have HQ0 := hid (cell_blk (j := 0) HM2.out.nbox rfl)
    have HQ1 := hid (cell_blk (j := 0) HM2.out.tbox rfl)
    have HQ2 := hid (cell_blk (j := 2) HM2.out.tab rfl)
    have HQ3 := hid (cell_blk (j := 2) HM2.out.row rfl)
    unfold ptr at HQ1
    have htm1 : 1 ≤ tm ∧ tm ≤ 10 := by omega
    have hw1 : IntKind.i64.wrap ((tm : Int) - 1) = ((tm - 1 : Nat) : Int) := by rw [IntKind.wrap_i64]; omega
    refine reg_quiet 0 rfl (by kernel_rfl) (by kernel_rfl) ?_; apply Exists.intro; refine ⟨fun w' hw' => ?_, ?_⟩; · go_simp; exact ⟨rfl, Ext.refl _⟩
    refine reg_quiet 1 rfl (by kernel_rfl) (by kernel_rfl) ?_; apply Exists.intro; refine ⟨fun w' hw' => ?_, ?_⟩; · have q0 := hw'.cell HQ0.out; go_simp; exact ⟨rfl, Ext.refl _⟩
    refine reg_quiet 2 rfl (by kernel_rfl) (by kernel_rfl) ?_; apply Exists.intro; refine ⟨fun w' hw' => ?_, ?_⟩; · have q0 := hw'.cell HQ1.out; go_simp; exact ⟨rfl, Ext.refl _⟩
    refine reg_quiet 3 rfl (by kernel_rfl) (by kernel_rfl) ?_; apply Exists.intro; refine ⟨fun w' hw' => ?_, ?_⟩; · go_simp; exact ⟨rfl, Ext.refl _⟩
    refine reg_quiet 4 rfl (by kernel_rfl) (by kernel_rfl) ?_; apply Exists.intro; refine ⟨fun w' hw' => ?_, ?_⟩; · go_simp; exact ⟨rfl, Ext.refl _⟩
    refine reg_quiet 5 rfl (by kernel_rfl) (by kernel_rfl) ?_; apply Exists.intro; refine ⟨fun w' hw' => ?_, ?_⟩; · have q0 := hw'.cell HQ2.out; go_simp; exact ⟨rfl, Ext.refl _⟩
    refine reg_quiet 6 rfl (by kernel_rfl) (by kernel_rfl) ?_; apply Exists.intro; refine ⟨fun w' hw' => ?_, ?_⟩; · go_simp; exact ⟨rfl, Ext.refl _⟩
    refine reg_quiet 7 rfl (by kernel_rfl) (by kernel_rfl) ?_; apply Exists.intro; refine ⟨fun w' hw' => ?_, ?_⟩; · go_simp; exact ⟨rfl, Ext.refl _⟩
    refine reg_quiet 8 rfl (by kernel_rfl) (by kernel_rfl) ?_; apply Exists.intro; refine ⟨fun w' hw' => ?_, ?_⟩; · go_simp; exact ⟨rfl, Ext.refl _⟩
    refine reg_quiet 9 rfl (by kernel_rfl) (by kernel_rfl) ?_; apply Exists.intro; refine ⟨fun w' hw' => ?_, ?_⟩; · have q0 := hw'.cell HQ3.out; go_simp; exact ⟨rfl, Ext.refl _⟩
    refine reg_quiet 10 rfl (by kernel_rfl) (by kernel_rfl) ?_; apply Exists.intro; refine ⟨fun w' hw' => ?_, ?_⟩; · go_simp; exact ⟨rfl, Ext.refl _⟩
    generalize hex : tm - 1 = ex at *
    have hbo := HCK.out.b1
    have hpw : 2 ^ ex ≤ 2 ^ 9 := Nat.pow_le_pow_right (by decide) (by omega)
    have hmul : s1.c.backoff * 2 ^ ex ≤ 100000 * 2 ^ 9 := Nat.mul_le_mul hbo hpw
    have hcap := HC.out
    have hsh : IntKind.u64.wrap ((s1.c.backoff : Int) * 2 ^ ex) = ((s1.c.backoff * 2 ^ ex : Nat) : Int) := by
      rw [IntKind.wrap_u64, show ((s1.c.backoff : Int) * 2 ^ ex) = ((s1.c.backoff * 2 ^ ex : Nat) : Int) by push_cast; rfl]; omega
    generalize hbs : s1.c.backoff * 2 ^ ex = bs at hmul hsh
    have h64 : min ex 64 = ex := by omega
    have HBS := hid hbs
    have HEX := hid hex
    have HK := hid hk
    clear hbs hex hk hpw
    have hadd : IntKind.u64.wrap ((capT now : Int) + (bs : Int)) = (capT now : Int) + (bs : Int) := by rw [IntKind.wrap_u64]; omega
    have hmn : min ((capT now : Int) + (bs : Int)) 1099511627776 = (capT (capT now + bs) : Nat) := by unfold capT; omega
    refine reg_quiet 11 rfl (by kernel_rfl) (by kernel_rfl) ?_; apply Exists.intro; refine ⟨fun w' hw' => ?_, ?_⟩; · go_simp; exact ⟨rfl, Ext.refl _⟩
    clear h64
    refine reg_quiet 12 rfl (by kernel_rfl) (by kernel_rfl) ?_; apply Exists.intro; refine ⟨fun w' hw' => ?_, ?_⟩; · go_simp; exact ⟨rfl, Ext.refl _⟩
    refine reg_quiet 13 rfl (by kernel_rfl) (by kernel_rfl) ?_; apply Exists.intro; refine ⟨fun w' hw' => ?_, ?_⟩; · go_simp; exact ⟨rfl, Ext.refl _⟩
    refine reg_quiet 14 rfl (by kernel_rfl) (by kernel_rfl) ?_; apply Exists.intro; refine ⟨fun w' hw' => ?_, ?_⟩; · go_simp; exact ⟨rfl, Ext.refl _⟩
    refine reg_quiet 15 rfl (by kernel_rfl) (by kernel_rfl) ?_; apply Exists.intro; refine ⟨fun w' hw' => ?_, ?_⟩; · go_simp; exact ⟨rfl, Ext.refl _⟩
    refine reg_one 16 rfl (by kernel_rfl) rfl (fun w' hw' => ?_)
    replace HM2 := hid (HM2.out.later hw')
    have q0 := cell_blk (j := 1) HM2.out.row rfl
    have z0 : ∀ j, w'.frozen? ⟨p, j, none⟩ = false := fun j => by simp [World.frozen?, HM2.out.row]
    replace HM2 := hid (HM2.out.cell (j := 1) (x := .int .u64 (capT (capT now + bs) : Nat)) (v2 := .slice a5 (fs.length + 1) cap5) (fs2 := fs ++ [capT now]) (til2 := capT (capT now + bs)) (times2 := tm) rfl (.inl ⟨rfl, rfl⟩))
    clear hw' HQ0 HQ1 HQ2 HQ3
    go_simp
    clear q0 z0 hadd hmn hsh hw1
    generalize World.setCell _ _ _ = W12 at *
    refine reg_done (by kernel_rfl) (fun w13 hw' => ?_) _
    replace HM2 := hid (HM2.out.later hw')
    clear hw'
    have q0 := cell_blk (j := 0) HM2.out.row rfl
    have z0 : ∀ j, w13.frozen? ⟨p, j, none⟩ = false := fun j => by simp [World.frozen?, HM2.out.row]
    replace HM2 := hid (HM2.out.cell (j := 0) (x := .slice none 0 0) (v2 := .slice none 0 0) (fs2 := []) (til2 := capT (capT now + bs)) (times2 := tm) rfl (.inr ⟨rfl, rfl⟩))
    go_simp
    go_upto_region 10 with fail
    clear q0 z0
    generalize World.setCell _ _ _ = W14 at *
    have hhit : r.hit s.c (capT now) = (true, ⟨[], capT (capT now + bs), tm⟩) := by
      unfold LRow.hit
      rw [← HI.out.2.1, HFS.out, if_neg hlt, HK.out, HEX.out, HBS.out]
    have hfin := HM2.out.done HL3.out (upd_self _ _ _) (by rw [HI.out.1, rset_self]) HP.out (by have := LRow.hit_ok HCK.out HOK.out (capT now); rw [HI.out.2.1, hhit] at this; exact this)
    have HG := hid hfin
    have HW := hid (HM2.out.same)
    have HH := hid hhit
    clear hfin hhit HM2
    go_wp2_with fail
    go_ret
    obtain ⟨own2, s2, hL, hO, h1, h2, h3, h4⟩ := HG.out
    rw [upd_upd] at hL
    rw [HH.out]
    refine ⟨rfl, own2, s2, hL, (Owns.mono HO3.out HE2.out.size).trans hO (by have := HE2.out.size; have := HS3.out.2.2.2.1; omega), ((Same.of_ext HE2.out).trans HS3.out).trans' HW.out (Owns.mono HO3.out HE2.out.size), ?_, h2.trans HI.out.2.1, h3.trans HI.out.2.2.1, h4.trans HI.out.2.2.2⟩
    rw [h1, HI.out.1, rset_rset]

theorem fail_any {w0 w : World} {own : Nat → Option (Nat × Tag)} {ts : Nat → Option TS} {i : Nat} {s : TS} {a : Int} {now : Nat} (h : Locks w0 w own ts) (hs : ts i = some s) (ha : U32 a) (hnow : now < 18446744073709551616) (hn : (s.rows a).isSome = true ∨ s.n < 32) :
    Calls Try.prog 13 #[ptr s.tb, .int .u32 a, .int .u64 now] w fun e w' => e = .returned (.bool (((s.rows a).getD .new).hit s.c (capT now)).1) ∧ ∃ own' s', Locks w0 w' own' (upd ts i s') ∧ Owns w own own' ∧ Same w w' (Free own) ∧
      s'.rows = rset s.rows a (((s.rows a).getD .new).hit s.c (capT now)).2 ∧ s'.c = s.c ∧ s'.tb = s.tb ∧ s'.n = s.grown a :=
  fail_of h hs hnow s.rows ((s.rows a).getD .new) (s.grown a) (fun _ he => row_any (h.later he) hs ha hn)

end Go.Proofs.Ytnlblmpfkikneaa
