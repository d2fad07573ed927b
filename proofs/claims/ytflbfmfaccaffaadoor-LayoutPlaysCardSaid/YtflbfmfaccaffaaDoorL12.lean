/-
  The example that every law of chapter 22 asks.
-/
import Derived.Test.YtflbfmfaccaffaaDoorL11
namespace Go.Proofs.YtflbfmfaccaffaaDoor
open Go Go.RowKit
attribute [local go_sem] extUpon
attribute [local go_sem ↓] eval_put_ne eval_put_none eval_put_same size_put eval_const

/-- A tree of the call's own, and the world is the one at the start but for what is new. -/
structure St (w0 W : World) (tb : Nat) (t : LT) : Prop where
  ext : Ext w0 W
  tr : Tr w0.heap.size W tb t
section
variable {w0 W W2 : World} {tb : Nat} {t : LT}
theorem St.later (h : St w0 W tb t) (he : Ext W W2) : St w0 W2 tb t := ⟨h.ext.trans he, h.tr.ext he⟩
theorem St.wr {t2 : LT} (h : St w0 W tb t) (hw : Wr t t2 W W2) (ht : Tr w0.heap.size W2 tb t2) : St w0 W2 tb t2 := ⟨Below.trans h.ext (hw.below h.tr.low h.ext.size), ht⟩
theorem St.new (w : World) (p : Int) (hp : -9223372036854775808 ≤ p ∧ p ≤ 9223372036854775807) (he : Ext w0 w) :
    Calls Tryd.prog 10 #[.int .i64 p] w fun e w' => ∃ b, e = .returned (.pointer (some ⟨b + 1, 0, none⟩)) ∧ St w0 w' (b + 1) (.leaf b p) ∧ Ext w w' :=
  (New_any p w hp).mono fun e w' ⟨h1, h2, h3⟩ => ⟨w.heap.size, h1, ⟨he.trans h3, ⟨h2.at_, h2.nodup, fun k hk => Nat.le_trans he.size (h2.low k hk), h2.out, Nat.le_trans he.size h2.lowt, h2.many⟩⟩, h3⟩
theorem St.split (h : St w0 W tb t) (p more rows cols : Int) (across : Bool) (h1 : rows ≤ 1000000) (h2 : cols ≤ 1000000) (hm : -9223372036854775808 ≤ more ∧ more ≤ 9223372036854775807) :
    Calls Tryd.prog 13 #[.pointer (some ⟨tb, 0, none⟩), .int .i64 p, .int .i64 more, .bool across, .int .i64 rows, .int .i64 cols] W fun e w' => ∃ b1 b2, e = .returned (.int .i64 (t.split p more across (allB rows cols) b1 b2).1) ∧
      St w0 w' tb (t.split p more across (allB rows cols) b1 b2).2 ∧ Wr t (t.split p more across (allB rows cols) b1 b2).2 W w' :=
  (Split_any _ tb t p more rows cols across W h.tr h1 h2 hm h.ext.size).mono fun e w' ⟨b1, b2, he, ht, hw⟩ => ⟨b1, b2, he, h.wr hw ht, hw⟩
theorem St.grow (h : St w0 W tb t) (p by_ rows cols : Int) (across : Bool) (h1 : rows ≤ 1000000) (h2 : cols ≤ 1000000) :
    Calls Tryd.prog 12 #[.pointer (some ⟨tb, 0, none⟩), .int .i64 p, .bool across, .int .i64 by_, .int .i64 rows, .int .i64 cols] W fun e w' => e = .returned (.int .i64 (t.grow p across by_ (allB rows cols)).1) ∧
      St w0 w' tb (t.grow p across by_ (allB rows cols)).2 ∧ Wr t (t.grow p across by_ (allB rows cols)).2 W w' :=
  (Grow_any _ tb t p by_ rows cols across W h.tr h1 h2 h.ext.size).mono fun e w' ⟨he, ht, hw⟩ => ⟨he, h.wr hw ht, hw⟩
theorem St.places (h : St w0 W tb t) (rows cols : Int) (h1 : rows ≤ 1000000) (h2 : cols ≤ 1000000) :
    Calls Tryd.prog 14 #[.pointer (some ⟨tb, 0, none⟩), .int .i64 rows, .int .i64 cols] W fun e w' => ∃ v, e = .returned v ∧ w'.ownsRow W.heap.size 32 4 v t.panes.length ((t.places (allB rows cols)).flatMap Bx.vals) ∧ Ext W w' :=
  Places_any tb t rows cols W h.tr.at_ h1 h2
theorem St.text (h : St w0 W tb t) (hT : TabW w0) : Calls Tryd.prog 16 #[.pointer (some ⟨tb, 0, none⟩)] W fun e w' => e = .returned (str t.text) ∧ Ext W w' :=
  String_any tb t W h.tr.at_ (hT.later h.ext)
end

theorem rects_at {w : World} {B : Nat} {v : Value} {n : Nat} {l : List Bx} (h : w.ownsRow B 32 4 v n (l.flatMap Bx.vals)) (hn : 0 < n) :
    ∃ g cap, v = .slice (some ⟨g, 0, none⟩) n cap ∧ ∀ i r, l[i]? = some r → w.cell? ⟨g, i * 4, none⟩ = some (.int .i64 r.row) ∧ w.cell? ⟨g, i * 4 + 1, none⟩ = some (.int .i64 r.col) ∧ w.cell? ⟨g, i * 4 + 2, none⟩ = some (.int .i64 r.rows) ∧ w.cell? ⟨g, i * 4 + 3, none⟩ = some (.int .i64 r.cols) := by
  obtain ⟨a, cap, rfl, hc⟩ := own_form h
  obtain ⟨g, rfl, hcc⟩ := hc hn
  exact ⟨g, cap, rfl, fun i r hr => ⟨hcc _ _ (vals_at hr 0 _ rfl), hcc _ _ (vals_at hr 1 _ rfl), hcc _ _ (vals_at hr 2 _ rfl), hcc _ _ (vals_at hr 3 _ rfl)⟩⟩

theorem split_leaf (b b1 b2 : Nat) (p more rows cols : Int) (across : Bool) (hne : more ≠ p) (hd : 3 ≤ wide across (allB rows cols)) :
    (LT.leaf b p).split p more across (allB rows cols) b1 b2 = (0, .node b (.leaf b1 p) (.leaf b2 more) across (wide across (allB rows cols) / 2)) := by
  simp [LT.split, LT.panes, LT.tipBox, LT.path, LT.tip, plug, LT.b, hne, show ¬ wide across (allB rows cols) < 3 by omega]

set_option maxRecDepth 100000 in
theorem known22 (w : World) (hT : TabW w) : Calls Tryd.prog 11 #[] w fun e w' => e = .returned (.bool true) ∧ Ext w w' := by
  have HT := hid hT
  clear hT
  go_enter Tryd.func11, Tryd.ntmps11
  go_wp2_with fail
  refine (St.new w 0 (by decide) (Ext.refl w)).mono ?_
  rintro e w1 ⟨b, rfl, hS, _⟩
  go_wp2_with fail
  refine (hS.split 0 1 10 21 true (by decide) (by decide) (by decide)).mono ?_
  rintro e w2 ⟨b1, b2, rfl, hS2, _⟩
  rw [split_leaf b b1 b2 0 1 10 21 true (by decide) (by decide)] at *
  clear hS
  have HS := hid hS2
  clear hS2
  go_wp2_with fail
  refine (HS.out.places 10 21 (by decide) (by decide)).mono ?_
  rintro e w3 ⟨v, rfl, ho, hE⟩
  replace HS := hid (HS.out.later hE)
  obtain ⟨g, cap, rfl, hc⟩ := rects_at (n := 2) ho (by decide)
  have HC := hid hc
  clear hc ho hE
  go_wp2_with fail
  refine (HS.out.text HT.out).mono ?_
  rintro e w4 ⟨rfl, hE⟩
  have h0 := HC.out 0 ⟨0, 0, 10, 10⟩ (by kernel_rfl)
  have h1 := HC.out 1 ⟨0, 11, 10, 10⟩ (by kernel_rfl)
  obtain ⟨a0, a1, a2, a3⟩ := h0
  obtain ⟨c0, c1, c2, c3⟩ := h1
  replace a0 := hE.cell a0; replace a1 := hE.cell a1; replace a2 := hE.cell a2; replace a3 := hE.cell a3
  replace c0 := hE.cell c0; replace c1 := hE.cell c1; replace c2 := hE.cell c2; replace c3 := hE.cell c3
  replace HS := hid (HS.out.later hE)
  clear hE HC
  have htx : LT.text (.node b (.leaf b1 0) (.leaf b2 1) true (wide true (allB 10 21) / 2)) = [40, 48, 124, 49, 48, 58, 49, 41] := by kernel_rfl
  rw [htx]
  clear htx
  simp only at a0 a1 a2 a3 c0 c1 c2 c3
  go_wp2_with fail
  go_ret
  exact ⟨rfl, HS.out.ext⟩

end Go.Proofs.YtflbfmfaccaffaaDoor
