/-
  Borders; what is kept of a tree.
-/
import Derived.Test.YtflbfmfaccaffaaDoorL14
namespace Go.Proofs.YtflbfmfaccaffaaDoor
open Go Go.RowKit
attribute [local go_sem] extUpon
attribute [local go_sem ↓] eval_put_ne eval_put_none eval_put_same size_put eval_const

theorem lvals_at {l : List (Bx × Bool)} : ∀ {i : Nat} {r : Bx × Bool}, l[i]? = some r → ∀ j u, (lvals r)[j]? = some u → (l.flatMap lvals)[i * 5 + j]? = some u := by
  induction l with
  | nil => intro i r h; simp at h
  | cons x l ih =>
    intro i r h j u hu
    have hl : (lvals x).length = 5 := by simp [lvals, Bx.vals]
    cases i with
    | zero =>
      simp at h; subst h
      simp only [List.flatMap_cons]
      have hj : j < (lvals x).length := (List.getElem?_eq_some_iff.1 hu).1
      rw [List.getElem?_append_left (by omega)]
      simpa using hu
    | succ i =>
      simp at h
      simp only [List.flatMap_cons]
      rw [List.getElem?_append_right (by omega)]
      have := ih h j u hu
      have e : (i + 1) * 5 + j - (lvals x).length = i * 5 + j := by omega
      rw [e]; exact this
theorem lines_len : ∀ (t : LT) (r : Bx), (t.lines r).length ≤ t.size
  | .leaf .., _ => by simp [LT.lines]
  | .node b x y a k, r => by
    have := lines_len x (parts a k r).1; have := lines_len y (parts a k r).2
    simp only [LT.lines, LT.size, List.length_append]
    split <;> simp <;> omega

theorem own_low {w : World} {B B2 : Nat} {e : TypeId} {size : Nat} {v : Value} {n : Nat} {xs : List Value} (h : w.ownsRow B e size v n xs) (hB : B2 ≤ B) : w.ownsRow B2 e size v n xs := by
  refine ⟨h.1, ?_⟩
  rcases h.2 with h2 | ⟨g', cap, cur, rfl, hb2, r⟩
  · exact .inl h2
  · exact .inr ⟨g', cap, cur, rfl, Nat.le_trans hB hb2, r⟩
def LT.borders (t : LT) (r : Bx) : List Bx := (t.lines r).map Prod.fst

set_option maxHeartbeats 2000000 in
set_option maxRecDepth 100000 in
theorem Borders_any (tb : Nat) (t : LT) (rows cols : Int) (w : World) (h : TreeAt w tb t) (h1 : rows ≤ 1000000) (h2 : cols ≤ 1000000) :
    Calls Tryd.prog 21 #[ptr tb, .int .i64 rows, .int .i64 cols] w fun e w' => ∃ v, e = .returned v ∧ w'.ownsRow w.heap.size 32 4 v (t.borders (allB rows cols)).length ((t.borders (allB rows cols)).flatMap Bx.vals) ∧ Ext w w' := by
  have HL := hid (Lines_any tb t rows cols w h h1 h2)
  have hn : (t.lines (allB rows cols)).length ≤ 1000 := by have := lines_len t (allB rows cols); have := h.size; omega
  clear h h1 h2
  unfold LT.borders
  generalize t.lines (allB rows cols) = ls at *
  unfold ptr at *
  obtain ⟨j0, hi0, hz0, hz1, hz2⟩ := info_parts (show (Tryd.prog.info? 32).map (fun i => (i.zero, i.size, i.bytes)) = some (some (.agg #[.int .i64 0, .int .i64 0, .int .i64 0, .int .i64 0]), 4, 32) by kernel_rfl)
  have HI0 := hid (And.intro hi0 (And.intro hz0 (And.intro hz1 hz2)))
  clear hi0 hz0 hz1 hz2
  go_enter Tryd.func21, Tryd.ntmps21
  go_wp2_with fail
  refine HL.out.mono ?_
  rintro e w2 ⟨v, rfl, ho, hE⟩
  obtain ⟨sa, cap, rfl, hc⟩ := own_form ho
  have HC := hid hc
  have HE := hid hE
  clear ho hc hE HL
  go_wp2_with fail
  go_loopw [7, 15] (fun v i wr => ∃ k : Nat, i = .int .i64 k ∧ k ≤ ls.length ∧ Hid (wr.ownsRow w2.heap.size 32 4 v k (((ls.take k).map Prod.fst).flatMap Bx.vals)) ∧ Hid (Ext w2 wr)) (fun _ i _ => ls.length - (intOf i).toNat)
  case atStart => exact ⟨0, rfl, by omega, hid (World.ownsRow_nil _ _ _ _), hid (Ext.refl _)⟩
  case round =>
    obtain ⟨k, rfl, hk, hO, hX⟩ := hrel
    by_cases hlt : k < ls.length
    · obtain ⟨g, rfl, hcc⟩ := HC.out (by omega)
      have hls : ls[k]? = some ls[k] := List.getElem?_eq_getElem hlt
      have htk : Hid (ls.take (k + 1) = ls.take k ++ [ls[k]]) := hid (by rw [List.take_succ_eq_append_getElem hlt])
      generalize hle : ls[k] = le at *
      obtain ⟨r, a⟩ := le
      have e0 : wr.cell? ⟨g, k * 5, none⟩ = some (.int .i64 r.row) := hX.out.cell (hcc _ _ (lvals_at hls 0 _ rfl))
      have e1 : wr.cell? ⟨g, k * 5 + 1, none⟩ = some (.int .i64 r.col) := hX.out.cell (hcc _ _ (lvals_at hls 1 _ rfl))
      have e2 : wr.cell? ⟨g, k * 5 + 2, none⟩ = some (.int .i64 r.rows) := hX.out.cell (hcc _ _ (lvals_at hls 2 _ rfl))
      have e3 : wr.cell? ⟨g, k * 5 + 3, none⟩ = some (.int .i64 r.cols) := hX.out.cell (hcc _ _ (lvals_at hls 3 _ rfl))
      have e4 : wr.cell? ⟨g, k * 5 + 4, none⟩ = some (.bool a) := hX.out.cell (hcc _ _ (lvals_at hls 4 _ rfl))
      clear hcc hls hle
      have hlt2 : (k : Int) < (ls.length : Int) := by omega
      go_wp2_with (first | (at_builtin; refine wpList_append_lies _ rfl (.tmp 19) (.tmp 22) _ rfl w2.heap.size 32 j0 (.agg #[.int .i64 0, .int .i64 0, .int .i64 0, .int .i64 0]) 4 32 Tryd.underlying29 HI0.out.1 HI0.out.2.1 HI0.out.2.2.1 HI0.out.2.2.2 rfl (by omega) u7 k _ (by rfl) ((hO.out.alloc _).alloc _) ⟨wr.heap.size + 1, 0, none⟩ 1 1 r.vals (by rfl) (by rfl) (World.news_of_block (blk_at (by simp))) (by intro u hu; simp [Bx.vals] at hu; rcases hu with rfl | rfl | rfl | rfl <;> rfl) (by omega) (by unfold maxLen; omega) (by omega) (by have := hX.out.size; simp; omega) (wr.heap.size + 1 + 1) (by simp) ?_; intro g1 cap1 w4 hown4 hgrow4 hat4 hlt4; clear hlt4))
      refine ⟨⟨k + 1, by go_num, by omega, hid ?_, hid ?_⟩, by simp [intOf]; omega⟩
      · rw [htk.out]; simpa using hown4
      · exact Below.grown (((hX.out.alloc' _).alloc' _).below (Nat.le_refl _)) hgrow4 (by have := hX.out.size; simp; omega) (fun j hj => (hO.out.lt j hj).1)
    · have hlt2 : ¬ (k : Int) < (ls.length : Int) := by omega
      go_wp2_with fail
      go_ret
      refine ⟨_, rfl, ?_, HE.out.trans hX.out⟩
      have h5 := hO.out
      rw [show k = ls.length by omega, List.take_length] at h5
      have h6 := own_low h5 (show w.heap.size ≤ w2.heap.size from HE.out.size)
      first | exact h6 | (rw [List.length_map]; exact h6) | (rw [show ls.length = (ls.map Prod.fst).length by simp] at h6; exact h6) | (rw [List.flatMap_map] at h6; exact h6)

section
variable {w0 W W2 : World} {tb : Nat} {t : LT}
theorem St.kill (h : St w0 W tb t) (p : Int) :
    Calls Tryd.prog 17 #[.pointer (some ⟨tb, 0, none⟩), .int .i64 p] W fun e w' => e = .returned (.int .i64 (t.kill p).1) ∧ St w0 w' tb (t.kill p).2 ∧ Wr t (t.kill p).2 W w' :=
  (Kill_any _ tb t p W h.tr h.ext.size).mono fun _ _ ⟨he, ht, hw⟩ => ⟨he, h.wr hw ht, hw⟩
theorem St.swap (h : St w0 W tb t) (hn : t.panes.Nodup) (a b : Int) :
    Calls Tryd.prog 18 #[.pointer (some ⟨tb, 0, none⟩), .int .i64 a, .int .i64 b] W fun e w' => e = .returned (.int .i64 (t.swap a b).1) ∧ St w0 w' tb (t.swap a b).2 ∧ Wr t (t.swap a b).2 W w' :=
  (Swap_any _ tb t a b W h.tr h.ext.size hn).mono fun _ _ ⟨he, ht, hw⟩ => ⟨he, h.wr hw ht, hw⟩
theorem St.borders (h : St w0 W tb t) (rows cols : Int) (h1 : rows ≤ 1000000) (h2 : cols ≤ 1000000) :
    Calls Tryd.prog 21 #[.pointer (some ⟨tb, 0, none⟩), .int .i64 rows, .int .i64 cols] W fun e w' => ∃ v, e = .returned v ∧ w'.ownsRow W.heap.size 32 4 v (t.borders (allB rows cols)).length ((t.borders (allB rows cols)).flatMap Bx.vals) ∧ Ext W w' :=
  Borders_any tb t rows cols W h.tr.at_ h1 h2
theorem St.panes (h : St w0 W tb t) :
    Calls Tryd.prog 15 #[.pointer (some ⟨tb, 0, none⟩)] W fun e w' => ∃ v, e = .returned v ∧ w'.ownsRow W.heap.size 3 1 v t.panes.length (t.panes.map (Value.int .i64)) ∧ Ext W w' :=
  Panes_any tb t W h.tr.at_
theorem St.has (h : St w0 W tb t) (p : Int) :
    Calls Tryd.prog 19 #[.pointer (some ⟨tb, 0, none⟩), .int .i64 p] W fun e w' => e = .returned (.bool (decide (p ∈ t.panes))) ∧ Ext W w' :=
  Has_any tb t p W h.tr.at_
end

end Go.Proofs.YtflbfmfaccaffaaDoor
