/-
  portholehand.Terms' inner function: the term, and its size, of a number.
-/
import Derived.Test.YtegmnbcfanjocaaPick
import Derived.Test.YtegmnbcfanjocaaOwn
import Derived.Test.YtegmnbcfanjocaaTa
import Derived.Deep.QuietTactic
import Derived.BigQuiet
import Derived.Outline
namespace Go.Proofs.Ytegmnbcfanjocaa
open Go Go.RowKit
attribute [local go_sem] extUpon run_store_tm
attribute [local go_sem ↓] Tm.val_cell eval_put_ne eval_put_none eval_put_same size_put eval_const

/-- A slice of a call's own in a box of its own. -/
structure Boxed (w : World) (base B : Nat) (bt e : TypeId) (v : Value) (xs : List Value) : Prop where
  blk : w.heap[B]? = some (.cells #[v] bt (0, 0))
  own : w.ownsRow base e 1 v xs.length xs

def tAt (ts : List Tm) (k : Int) : Tm := ts.getD (k % ts.length).toNat .non
def sAt (ts : List Tm) (ss : List Int) (k : Int) : Int := ss.getD (k % ts.length).toNat 0

theorem at_any (k : Int) (Bo Bs base : Nat) (vo vs : Value) (ts : List Tm) (ss : List Int) (w : World) (hn0 : 0 < ts.length) (hn1 : ts.length ≤ 100) (hss : ss.length = ts.length)
    (ho : Boxed w base Bo 24 32 vo (ts.map Tm.val)) (hs : Boxed w base Bs 23 3 vs (ss.map (Value.int .i64))) :
    Calls Try.prog 25 #[.int .i64 k, .pointer (some ⟨Bo, 0, none⟩), .pointer (some ⟨Bs, 0, none⟩)] w
      fun e w' => e = .returned (.tuple #[(tAt ts k).val, .int .i64 (sAt ts ss k)]) ∧ ∃ m, w' = w.drewN m := by
  unfold tAt sAt
  have h1 := ho.own
  have h2 := hs.own
  rw [List.length_map] at h1 h2
  obtain ⟨g1, c1, hv1, hg1⟩ := h1.form hn0
  obtain ⟨g2, c2, hv2, hg2⟩ := h2.form (by omega)
  subst hv1 hv2
  obtain ⟨i, hi⟩ : ∃ i : Nat, k % ts.length = i := ⟨(k % ts.length).toNat, by have := Int.emod_nonneg k (b := ts.length) (by omega); omega⟩
  have hlt : i < ts.length := by have := Int.emod_lt_of_pos k (b := ts.length) (by omega); omega
  rw [hi, Int.toNat_natCast]
  have x1 : w.cell? ⟨g1, i, none⟩ = some (ts.getD i .non).val := own_ints_at h1 i hlt _ (by simp [hlt])
  have x2 : w.cell? ⟨g2, i, none⟩ = some (.int .i64 (ss.getD i 0)) := own_ints_at h2 i (by omega) _ (by simp [show i < ss.length by omega])
  have b1 : w.cell? ⟨Bo, 0, none⟩ = some (.slice (some ⟨g1, 0, none⟩) ts.length c1) := cell_blk ho.blk rfl
  have b2 : w.cell? ⟨Bs, 0, none⟩ = some (.slice (some ⟨g2, 0, none⟩) ts.length c2) := by have := cell_blk (j := 0) hs.blk rfl; rwa [hss] at this
  have hI0 : (0 : Int) ≤ (i : Int) := by omega
  have hI1 : (i : Int) < (ts.length : Int) := by omega
  have HI := hid hi
  have hx := hid hss
  clear hi hss h1 h2 ho hs hg1 hg2
  generalize ts.getD i .non = tt at *
  generalize ss.getD i 0 = sz at *
  generalize ts.length = n at *
  go_enter Try.func25, Try.ntmps25
  go_wp2_with (go_at_call 10; refine (pick_any _ _ _ (by omega) (by omega)).mono ?_; rintro e w' ⟨rfl, rfl⟩; rw [HI.out])
  go_quiet (fail)
  go_wp2
  go_ret2
  exact ⟨rfl, _, rfl⟩

end Go.Proofs.Ytegmnbcfanjocaa
