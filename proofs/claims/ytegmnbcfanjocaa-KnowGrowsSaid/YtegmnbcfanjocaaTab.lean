/-
  strconv.Itoa over any digit table, for numbers under 8192.
-/
import Derived.Test.YtegmnbcfanjocaaDig
import Derived.Lib.ItoaMem
import Derived.Laws.IdiomStrings
import Derived.Test.YtegmnbcfanjocaaShelf
namespace Go.Proofs.Ytegmnbcfanjocaa
open Go Go.RowKit
attribute [local go_sem] extUpon run_store_tm
attribute [local go_sem ↓] Tm.val_cell eval_put_ne eval_put_none eval_put_same size_put eval_const

/-- The digit table holds these numbers. -/
def TabAt (w : World) (T : Nat → Int) : Prop := ∀ i, i < 20 → w.cell? ⟨1, i, none⟩ = some (.int .u64 (T i))
theorem TabAt.later {w w1 : World} {T : Nat → Int} (h : TabAt w T) (he : Ext w w1) : TabAt w1 T := fun i hi => he.cell (h i hi)

def nd (T : Nat → Int) (u : Nat) : Nat := Lib.l10 (Lib.bitLen u) + if T (Lib.l10 (Lib.bitLen u)) ≤ u then 1 else 0
theorem l10_le : ∀ x, x < 14 → Lib.l10 x ≤ 3 := by decide
theorem l10_bit {u : Nat} (h : u < 8192) : Lib.l10 (Lib.bitLen u) ≤ 3 := l10_le _ (by have := Lib.bitLen_le u 13 (by omega) (by omega); omega)
theorem nd_le (T : Nat → Int) {u : Nat} (h : u < 8192) : nd T u ≤ 4 := by
  have := l10_bit h
  unfold nd; split <;> omega

set_option maxRecDepth 100000 in
theorem numDigits_any (T : Nat → Int) (u : Nat) (h1 : 1 ≤ u) (h2 : u < 8192) (w : World) (hT : TabAt w T) :
    Calls Try.prog 94 #[.int .u64 u] w fun e w' => e = .returned (.int .i64 (nd T u)) ∧ w' = w := by
  have hL : Lib.bitLen u ≤ 64 := Nat.le_trans (Lib.bitLen_le u 13 (by omega) (by omega)) (by omega)
  have hq3 := l10_bit h2
  have hcell := hT (Lib.l10 (Lib.bitLen u)) (by omega)
  have hto : ((u : Int)).toNat = u := by omega
  have hnd : nd T u = Lib.l10 (Lib.bitLen u) + if T (Lib.l10 (Lib.bitLen u)) ≤ u then 1 else 0 := rfl
  generalize hq : Lib.l10 (Lib.bitLen u) = q at hnd hq3 hcell
  generalize T q = tq at hnd hcell
  have Hnd := hid hnd
  clear hnd hT
  go_enter Try.func94, Try.ntmps94
  go_wp2_with (first
    | (go_at_call 55; refine (Try.bits_Len64 _ _ (by omega) (by omega)).mono ?_; rintro e w' ⟨rfl, rfl⟩)
    | (go_at_call 97; refine (Try.internal_strconv_log10Pow2 _ (by first | exact hL | (rw [hto]; exact hL)) _).mono ?_; rintro e w' ⟨rfl, rfl⟩)
    | (go_at_call 98; refine (Try.internal_strconv_bool2_int _ _).mono ?_; rintro e w' ⟨rfl, rfl⟩))
  all_goals go_ret
  all_goals (
    refine ⟨?_, rfl⟩
    have hnd := Hnd.out
    congr 2
    split at hnd <;> simp_all <;> omega)

def zero24 : List Int := List.replicate 24 0
def bt (i : Int) : UInt8 := UInt8.ofNat i.toNat
theorem bt_int {i : Int} (h0 : 0 ≤ i) (h : i < 256) : ((bt i).toNat : Int) = i := by
  simp [bt]; omega
def dgs (T : Nat → Int) (u : Nat) : List Int := ((wrote zero24 (nd T u) u).drop 1).take (nd T u)
def dg (T : Nat → Int) (u : Nat) : List UInt8 := (dgs T u).map bt
def itoaT (T : Nat → Int) (n : Int) : List UInt8 := if n < 0 then 45 :: dg T n.natAbs else if n < 100 then Lib.decDigits n.toNat else dg T n.toNat

theorem wrote_len (cs : List Int) (n : Nat) (u : Int) : (wrote cs n u).length = cs.length := by
  unfold wrote; split <;> simp
theorem all_set {p : Int → Prop} {cs : List Int} {i : Nat} {x : Int} (h : ∀ c ∈ cs, p c) (hx : p x) : ∀ c ∈ cs.set i x, p c := by
  intro c hc
  rcases List.mem_or_eq_of_mem_set hc with h1 | rfl
  · exact h c h1
  · exact hx
theorem wrote_ok (n : Nat) (u : Int) (h0 : 0 ≤ u) (h : u < 8192) : ∀ c ∈ wrote zero24 n u, 0 ≤ c ∧ c < 256 := by
  have hz : ∀ c ∈ zero24, 0 ≤ c ∧ c < 256 := by
    intro c hc; rw [zero24, List.mem_replicate] at hc; omega
  by_cases h100 : u < 1000
  · unfold wrote; split <;> repeat' first | exact hz | refine all_set ?_ (by omega)
  · unfold wrote; split
    · exact hz
    · exact all_set hz (by omega)
    · exact all_set (all_set hz (by omega)) (by omega)
    · exact all_set (all_set (all_set hz (by omega)) (by omega)) (by omega)
    · exact all_set (all_set (all_set (all_set hz (by omega)) (by omega)) (by omega)) (by omega)

theorem dgs_len (T : Nat → Int) {u : Nat} (h : u < 8192) : (dgs T u).length = nd T u := by
  have := nd_le T h
  simp [dgs, wrote_len, zero24]; omega
theorem dg_len (T : Nat → Int) {u : Nat} (h : u < 8192) : (dg T u).length = nd T u := by rw [dg, List.length_map, dgs_len T h]
theorem dgs_at (T : Nat → Int) (u : Nat) (j : Nat) (h : j < nd T u) : (dgs T u)[j]? = (wrote zero24 (nd T u) u)[1 + j]? := by
  simp [dgs, h, Nat.add_comm]
theorem dg_at (T : Nat → Int) {u : Nat} (hu : u < 8192) (j : Nat) (h : j < (dg T u).length) : (wrote zero24 (nd T u) u)[1 + j]? = some ((dg T u)[j].toNat : Int) := by
  have hl : j < nd T u := by rw [dg_len T hu] at h; exact h
  have hl2 : j < (dgs T u).length := by rw [dgs_len T hu]; exact hl
  rw [← dgs_at T u j hl, List.getElem?_eq_getElem hl2]
  have hm : (dgs T u)[j] ∈ wrote zero24 (nd T u) u := List.mem_of_mem_drop (List.mem_of_mem_take (List.getElem_mem hl2))
  have ho := wrote_ok _ _ (by omega) (by omega) _ hm
  simp only [dg, List.getElem_map]
  rw [bt_int ho.1 ho.2]

theorem zeros24_blk (w : World) (t : TypeId) (ht : t = 144) : bytesBlk (w.alloc (.cells Lib.zeros24 t (0, 0))) w.heap.size zero24 := by
  subst ht
  unfold bytesBlk
  rw [blk_new]
  rfl

theorem But.toExt {w w1 w2 : World} (he : Ext w w1) (hb : But w.heap.size w1 w2) : Ext w w2 :=
  ⟨hb.1.trans he.os, hb.2.1.trans he.tape, hb.2.2.1.trans he.output, Nat.le_trans he.size hb.2.2.2.1, fun k hk => (hb.2.2.2.2 k (Nat.lt_of_lt_of_le hk he.size) (by omega)).trans (he.block k hk)⟩

set_option maxHeartbeats 2000000 in
set_option maxRecDepth 100000 in
theorem format_neg (T : Nat → Int) (u : Nat) (h1 : 1 ≤ u) (h2 : u < 8192) (w : World) (hT : TabAt w T) :
    Calls Try.prog 92 #[.int .i64 (-(u : Int)), .int .i64 10] w fun e w' => e = .returned (str (45 :: dg T u)) ∧ Ext w w' := by
  have hn4 := nd_le T h2
  have hwr : IntKind.u64.wrap (-IntKind.u64.wrap (-(u : Int))) = (u : Int) := by rw [IntKind.wrap_u64, IntKind.wrap_u64]; omega
  have hal : Try.prog.arrayLen 144 = 24 := by kernel_rfl
  have hel : Try.prog.elem 144 = 5 := by kernel_rfl
  have hsl1 : ∀ W, (Instr.sliceAt 144 (.pointer (some ⟨w.heap.size, 0, none⟩)) (some (.int .i64 1)) (some (.int .i64 (1 + (nd T u : Int)))) none).run Try.prog W = .ok (.slice (some ⟨w.heap.size, 1, none⟩) (nd T u) 23) W := by
    intro W
    rw [run_sliceAt_array_lh W 144 ⟨w.heap.size, 0, none⟩ (by kernel_rfl) .i64 .i64 1 (1 + (nd T u : Int)) (by omega) (by omega) (by rw [hal]; omega)]
    go_simp
    omega
  have hsl2 : ∀ W, (Instr.sliceAt 144 (.pointer (some ⟨w.heap.size, 0, none⟩)) none (some (.int .i64 (1 + (nd T u : Int)))) none).run Try.prog W = .ok (.slice (some ⟨w.heap.size, 0, none⟩) (1 + nd T u) 24) W := by
    intro W
    rw [run_sliceAt_array_h W 144 ⟨w.heap.size, 0, none⟩ (by kernel_rfl) .i64 (1 + (nd T u : Int)) (by omega) (by rw [hal]; omega)]
    go_simp
    omega
  have HND := hid (fun w' => numDigits_any T u h1 h2 w')
  have HFB := hid (fun w' h => fb_any (nd T u) hn4 w.heap.size u zero24 w' h (by rfl) (by omega) (by omega))
  have HDG := hid (fun j h => dg_at T h2 j h)
  have HDL := hid (dg_len T h2)
  have HT := hid hT
  clear hT hal hel
  generalize hdg : dg T u = D at *
  clear hdg
  generalize nd T u = N at *
  have HCS := hid (wrote_len zero24 N u)
  generalize hcs : wrote zero24 N u = CS at *
  go_enter Try.func92, Try.ntmps92
  go_wp2_with (first
    | (go_at_call 94; refine (HND.out _ (HT.out.later (Ext.alloc _ _))).mono ?_; rintro e w' ⟨rfl, rfl⟩))
  go_at_call 95
  refine (HFB.out _ (zeros24_blk w _ rfl)).mono ?_
  rintro e w' ⟨rfl, hb, hbut⟩
  clear hcs
  have c0 := bytes_cell hb 0 _ (List.getElem?_eq_getElem (show 0 < CS.length by rw [HCS.out]; decide))
  have f0 := bytes_frozen hb 0
  have HB := hid (bytes_set hb 0 45)
  have HBUT := hid (hbut.set 0 (.int .u8 45))
  have hcv : (convert 106 9 (.slice (some ⟨w.heap.size, 0, none⟩) (1 + N) 24)).run Try.prog (w'.setCell ⟨w.heap.size, 0, none⟩ (.int .u8 45)) = .ok (str (45 :: D)) (w'.setCell ⟨w.heap.size, 0, none⟩ (.int .u8 45)) := by
    have h := run_convert_bytes_back (P := Try.prog) (w'.setCell ⟨w.heap.size, 0, none⟩ (.int .u8 45)) 106 9 5 ⟨w.heap.size, 0, none⟩ 24 (45 :: D) (by kernel_rfl) (by kernel_rfl) (by kernel_rfl) (by
      intro j hj
      rw [Lib.add_plain, Nat.zero_add]
      refine (bytes_cell HB.out j _ ?_)
      cases j with
      | zero => simp [HCS.out, zero24]
      | succ i =>
        have hi : i < D.length := by simpa using hj
        refine (List.getElem?_set_ne (by omega)).trans ?_
        have h := HDG.out i hi
        rw [Nat.add_comm 1 i] at h
        exact h)
    rw [List.length_cons, HDL.out, Nat.add_comm] at h
    exact h
  clear hb hbut
  go_wp2
  go_ret
  exact ⟨rfl, HBUT.out.toExt (Ext.alloc _ _)⟩

set_option maxHeartbeats 2000000 in
set_option maxRecDepth 100000 in
theorem format_pos (T : Nat → Int) (u : Nat) (h1 : 100 ≤ u) (h2 : u < 8192) (w : World) (hT : TabAt w T) :
    Calls Try.prog 92 #[.int .i64 (u : Int), .int .i64 10] w fun e w' => e = .returned (str (dg T u)) ∧ Ext w w' := by
  have hn4 := nd_le T h2
  have hal : Try.prog.arrayLen 144 = 24 := by kernel_rfl
  have hel : Try.prog.elem 144 = 5 := by kernel_rfl
  have hsl1 : ∀ W, (Instr.sliceAt 144 (.pointer (some ⟨w.heap.size, 0, none⟩)) (some (.int .i64 1)) (some (.int .i64 (1 + (nd T u : Int)))) none).run Try.prog W = .ok (.slice (some ⟨w.heap.size, 1, none⟩) (nd T u) 23) W := by
    intro W
    rw [run_sliceAt_array_lh W 144 ⟨w.heap.size, 0, none⟩ (by kernel_rfl) .i64 .i64 1 (1 + (nd T u : Int)) (by omega) (by omega) (by rw [hal]; omega)]
    go_simp
    omega
  have HND := hid (fun w' => numDigits_any T u (by omega) h2 w')
  have HFB := hid (fun w' h => fb_any (nd T u) hn4 w.heap.size u zero24 w' h (by rfl) (by omega) (by omega))
  have HDG := hid (fun j h => dg_at T h2 j h)
  have HDL := hid (dg_len T h2)
  have HT := hid hT
  clear hT hal hel
  generalize hdg : dg T u = D at *
  clear hdg
  generalize nd T u = N at *
  have HCS := hid (wrote_len zero24 N u)
  generalize hcs : wrote zero24 N u = CS at *
  go_enter Try.func92, Try.ntmps92
  go_wp2_with (first
    | (go_at_call 94; refine (HND.out _ (HT.out.later (Ext.alloc _ _))).mono ?_; rintro e w' ⟨rfl, rfl⟩))
  go_at_call 95
  refine (HFB.out _ (zeros24_blk w _ rfl)).mono ?_
  rintro e w' ⟨rfl, hb, hbut⟩
  clear hcs
  have HB := hid hb
  have HBUT := hid hbut
  have hcv : (convert 106 9 (.slice (some ⟨w.heap.size, 1, none⟩) N 23)).run Try.prog w' = .ok (str D) w' := by
    have h := run_convert_bytes_back (P := Try.prog) w' 106 9 5 ⟨w.heap.size, 1, none⟩ 23 D (by kernel_rfl) (by kernel_rfl) (by kernel_rfl) (by
      intro j hj
      rw [Lib.add_plain]
      exact bytes_cell HB.out (1 + j) _ (HDG.out j hj))
    rw [HDL.out] at h
    exact h
  clear hb hbut
  go_wp2
  go_ret
  exact ⟨rfl, HBUT.out.toExt (Ext.alloc _ _)⟩

set_option maxRecDepth 100000 in
theorem format_small (u : Nat) (h : u < 100) (w : World) :
    Calls Try.prog 92 #[.int .i64 (u : Int), .int .i64 10] w fun e w' => e = .returned (str (Lib.decDigits u)) ∧ Ext w w' := by
  go_enter Try.func92, Try.ntmps92
  go_wp2_with (go_at_call 93; refine (Try.internal_strconv_small u h _).mono ?_; rintro e w' ⟨rfl, rfl⟩)
  go_ret
  exact ⟨rfl, Ext.refl _⟩

theorem format_any (T : Nat → Int) (n : Int) (h0 : -8192 < n) (h1 : n < 8192) (w : World) (hT : TabAt w T) :
    Calls Try.prog 92 #[.int .i64 n, .int .i64 10] w fun e w' => e = .returned (str (itoaT T n)) ∧ Ext w w' := by
  by_cases hn : n < 0
  · have h := format_neg T n.natAbs (by omega) (by omega) w hT
    have e : (-(n.natAbs : Int)) = n := by omega
    rw [e] at h
    simpa only [itoaT, if_pos hn] using h
  · by_cases hs : n < 100
    · have h := format_small n.toNat (by omega) w
      have e : ((n.toNat : Nat) : Int) = n := by omega
      rw [e] at h
      simpa only [itoaT, if_neg hn, if_pos hs] using h
    · have h := format_pos T n.toNat (by omega) (by omega) w hT
      have e : ((n.toNat : Nat) : Int) = n := by omega
      rw [e] at h
      simpa only [itoaT, if_neg hn, if_neg hs] using h

theorem itoa_in (T : Nat → Int) (n : Int) (h0 : -8192 < n) (h1 : n < 8192) (w : World) (hT : TabAt w T) :
    Calls Try.prog 91 #[.int .i64 n] w fun e w' => e = .returned (str (itoaT T n)) ∧ Ext w w' := by
  have H := hid (format_any T n h0 h1 w hT)
  clear hT
  generalize itoaT T n = s at *
  go_enter Try.func91, Try.ntmps91
  go_wp2_with (go_at_call 92; refine H.out.mono ?_; rintro e w' ⟨rfl, hE⟩)
  go_ret
  exact ⟨rfl, hE⟩

theorem itoa_out (T : Nat → Int) (n : Int) (h0 : -8192 < n) (h1 : n < 8192) (w : World) (hT : TabAt w T) :
    Calls Try.prog 90 #[.int .i64 n] w fun e w' => e = .returned (str (itoaT T n)) ∧ Ext w w' := by
  have H := hid (itoa_in T n h0 h1 w hT)
  clear hT
  generalize itoaT T n = s at *
  go_enter Try.func90, Try.ntmps90
  go_wp2_with (go_at_call 91; refine H.out.mono ?_; rintro e w' ⟨rfl, hE⟩)
  go_ret
  exact ⟨rfl, hE⟩

theorem dg_len_all (T : Nat → Int) (u : Nat) : (dg T u).length ≤ 24 := by
  have h := wrote_len zero24 (nd T u) (u : Int)
  have hz : zero24.length = 24 := rfl
  simp only [dg, dgs, List.length_map, List.length_take, List.length_drop, h, hz]
  omega
theorem dec_len : ∀ u, u < 100 → (Lib.decDigits u).length ≤ 2 := by decide +kernel
theorem itoaT_len (T : Nat → Int) (n : Int) : (itoaT T n).length ≤ 40 := by
  have h1 := dg_len_all T n.natAbs
  have h2 := dg_len_all T n.toNat
  unfold itoaT
  split
  · simp only [List.length_cons]; omega
  · split
    · have := dec_len n.toNat (by omega); omega
    · omega

end Go.Proofs.Ytegmnbcfanjocaa
