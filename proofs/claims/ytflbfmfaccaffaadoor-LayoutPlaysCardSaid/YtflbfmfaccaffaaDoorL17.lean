/-
  Boxes compared; slices of a row; appends of whatever many.
-/
import Derived.Test.YtflbfmfaccaffaaDoorBackW
import Derived.Deep.Upon
namespace Go.Proofs.YtflbfmfaccaffaaDoor
open Go Go.RowKit
attribute [local go_sem] extUpon
attribute [local go_sem ↓] eval_put_ne eval_put_none eval_put_same size_put eval_const

set_option maxHeartbeats 2000000 in
set_option maxRecDepth 100000 in
theorem rects_same (v1 v2 : Value) (B1 B2 : Nat) (l : List Bx) (w : World) (hl : l.length ≤ 1000) (h1 : w.ownsRow B1 32 4 v1 l.length (l.flatMap Bx.vals)) (h2 : w.ownsRow B2 32 4 v2 l.length (l.flatMap Bx.vals)) :
    Calls Tryd.prog 20 #[v1, v2] w fun e w' => e = .returned (.bool true) ∧ Ext w w' := by
  obtain ⟨a1, cap1, rfl, hc1⟩ := own_form h1
  obtain ⟨a2, cap2, rfl, hc2⟩ := own_form h2
  have HC1 := hid hc1
  have HC2 := hid hc2
  clear hc1 hc2 h1 h2
  go_enter Tryd.func20, Tryd.ntmps20
  go_wp2_with fail
  go_loopw [5] (fun i wr => ∃ k : Nat, i = .int .i64 k ∧ k ≤ l.length ∧ Hid (Ext w wr)) (fun i _ => l.length - (intOf i).toNat)
  case atStart => exact ⟨0, rfl, by omega, hid (Ext.refl _)⟩
  case round =>
    obtain ⟨k, rfl, hk, hE⟩ := hrel
    by_cases hlt : k < l.length
    · obtain ⟨g1, rfl, hcc1⟩ := HC1.out (by omega)
      obtain ⟨g2, rfl, hcc2⟩ := HC2.out (by omega)
      have hls : l[k]? = some l[k] := List.getElem?_eq_getElem hlt
      generalize l[k] = r at *
      have e0 : w.cell? ⟨g1, k * 4, none⟩ = some (.int .i64 r.row) := hcc1 _ _ (vals_at hls 0 _ rfl)
      have e1 : w.cell? ⟨g1, k * 4 + 1, none⟩ = some (.int .i64 r.col) := hcc1 _ _ (vals_at hls 1 _ rfl)
      have e2 : w.cell? ⟨g1, k * 4 + 2, none⟩ = some (.int .i64 r.rows) := hcc1 _ _ (vals_at hls 2 _ rfl)
      have e3 : w.cell? ⟨g1, k * 4 + 3, none⟩ = some (.int .i64 r.cols) := hcc1 _ _ (vals_at hls 3 _ rfl)
      have f0 : w.cell? ⟨g2, k * 4, none⟩ = some (.int .i64 r.row) := hcc2 _ _ (vals_at hls 0 _ rfl)
      have f1 : w.cell? ⟨g2, k * 4 + 1, none⟩ = some (.int .i64 r.col) := hcc2 _ _ (vals_at hls 1 _ rfl)
      have f2 : w.cell? ⟨g2, k * 4 + 2, none⟩ = some (.int .i64 r.rows) := hcc2 _ _ (vals_at hls 2 _ rfl)
      have f3 : w.cell? ⟨g2, k * 4 + 3, none⟩ = some (.int .i64 r.cols) := hcc2 _ _ (vals_at hls 3 _ rfl)
      have HX := hid (And.intro (And.intro (And.intro e0 e1) (And.intro e2 e3)) (And.intro (And.intro f0 f1) (And.intro f2 f3)))
      clear hcc1 hcc2 hls e0 e1 e2 e3 f0 f1 f2 f3
      have hlt2 : (k : Int) < (l.length : Int) := by omega
      go_wp2_with fail
      refine reg_begin 9 (by kernel_rfl) ?_
      generalize hW : World.drew _ = W
      have HE := hid (by rw [← hW]; exact hE.out.trans (Ext.drew _) : Ext w W)
      clear hW
      refine reg_quiet 0 rfl (by kernel_rfl) (by kernel_rfl) ?_
      apply Exists.intro
      refine ⟨fun w' hw' => ?_, ?_⟩
      · go_simp
        exact ⟨rfl, Ext.refl _⟩
      refine reg_quiet 1 rfl (by kernel_rfl) (by kernel_rfl) ?_
      apply Exists.intro
      refine ⟨fun w' hw' => ?_, ?_⟩
      · go_simp
        exact ⟨rfl, Ext.refl _⟩
      refine reg_quiet 2 rfl (by kernel_rfl) (by kernel_rfl) ?_
      apply Exists.intro
      refine ⟨fun w' hw' => ?_, ?_⟩
      · go_simp
        exact ⟨rfl, Ext.refl _⟩
      refine reg_quiet 3 rfl (by kernel_rfl) (by kernel_rfl) ?_
      apply Exists.intro
      refine ⟨fun w' hw' => ?_, ?_⟩
      · have q0 := hw'.cell (HE.out.cell HX.out.1.1.1); have q1 := hw'.cell (HE.out.cell HX.out.1.1.2); have q2 := hw'.cell (HE.out.cell HX.out.1.2.1); have q3 := hw'.cell (HE.out.cell HX.out.1.2.2)
        go_simp
        exact ⟨rfl, Ext.refl _⟩
      refine reg_quiet 4 rfl (by kernel_rfl) (by kernel_rfl) ?_
      apply Exists.intro
      refine ⟨fun w' hw' => ?_, ?_⟩
      · go_simp
        exact ⟨rfl, Ext.refl _⟩
      refine reg_quiet 5 rfl (by kernel_rfl) (by kernel_rfl) ?_
      apply Exists.intro
      refine ⟨fun w' hw' => ?_, ?_⟩
      · go_simp
        exact ⟨rfl, Ext.refl _⟩
      refine reg_quiet 6 rfl (by kernel_rfl) (by kernel_rfl) ?_
      apply Exists.intro
      refine ⟨fun w' hw' => ?_, ?_⟩
      · go_simp
        exact ⟨rfl, Ext.refl _⟩
      refine reg_quiet 7 rfl (by kernel_rfl) (by kernel_rfl) ?_
      apply Exists.intro
      refine ⟨fun w' hw' => ?_, ?_⟩
      · have q0 := hw'.cell (HE.out.cell HX.out.2.1.1); have q1 := hw'.cell (HE.out.cell HX.out.2.1.2); have q2 := hw'.cell (HE.out.cell HX.out.2.2.1); have q3 := hw'.cell (HE.out.cell HX.out.2.2.2)
        go_simp
        exact ⟨rfl, Ext.refl _⟩
      refine reg_quiet 8 rfl (by kernel_rfl) (by kernel_rfl) ?_
      apply Exists.intro
      refine ⟨fun w' hw' => ?_, ?_⟩
      · go_simp
        exact ⟨rfl, Ext.refl _⟩
      refine reg_done (by kernel_rfl) (fun w6 hw6 => ?_) _
      have HE6 := hid (HE.out.trans hw6)
      clear hw6 HE
      go_simp
      go_wp2_with fail
      go_roundw
      case rel => exact ⟨k + 1, by go_num, by omega, HE6⟩
      case measure => simp [intOf]; omega
    · have hlt2 : ¬ (k : Int) < (l.length : Int) := by omega
      go_wp2_with fail
      go_ret
      exact ⟨rfl, hE.out⟩

/-- A row that is no block of the tree is appended to: the tree stands. -/
theorem St.grown {w0 W W2 : World} {tb : Nat} {t : LT} {row : Option Nat} (h : St w0 W tb t) (hg : W.grownBy W2 row) (hr : ∀ k, row = some k → w0.heap.size ≤ k ∧ k ∉ t.blocks ∧ k ≠ tb) : St w0 W2 tb t := by
  have hb : ∀ k, k < W.heap.size → (k ∈ t.blocks ∨ k = tb) → W2.heap[k]? = W.heap[k]? := fun k hk hm => hg.block k hk fun e => by
    have := hr k e.symm
    rcases hm with h | h
    · exact this.2.1 h
    · exact this.2.2 h
  exact ⟨(h.ext.below (Nat.le_refl _)).grown hg h.ext.size (fun k hk => (hr k hk).1),
    ⟨⟨(World.cell?_of_block (hb tb h.tr.at_.here (.inr rfl))).trans h.tr.at_.root, h.tr.at_.at_.of_blocks (fun k hk => hb k (h.tr.at_.at_.lt k hk) (.inl hk)), h.tr.at_.small, h.tr.at_.size⟩, h.tr.nodup, h.tr.low, h.tr.out, h.tr.lowt, h.tr.many⟩⟩

theorem run_slice_to (g k n cap : Nat) (hk : k ≤ cap) (w : World) : (Instr.slice 35 (.slice (some ⟨g, 0, none⟩) n cap) none (some (.int .i64 k)) none).run Tryd.prog w = .ok (.slice (some ⟨g, 0, none⟩) k cap) w := by
  have hs := Tryd.underlying35
  have i3 : (sizeOf 3).run Tryd.prog w = .ok 1 w := by kernel_rfl
  simp [Instr.slice, Instr.sliceBounds, Instr.sliceBound, run_underlying hs, go_sem, hk, asIntOf, i3, Addr.add]
theorem run_slice_from (g k n cap : Nat) (hk : k ≤ n) : ∃ o, (k < cap → o = k) ∧ ∀ w, (Instr.slice 35 (.slice (some ⟨g, 0, none⟩) n cap) (some (.int .i64 k)) none none).run Tryd.prog w = .ok (.slice (some ⟨g, o, none⟩) (n - k) (cap - k)) w := by
  have hs := Tryd.underlying35
  have i3 : ∀ w, (sizeOf 3).run Tryd.prog w = .ok 1 w := fun w => by kernel_rfl
  by_cases h : cap = k
  · exact ⟨0, fun h' => by omega, fun w => by simp [Instr.slice, Instr.sliceBounds, Instr.sliceBound, run_underlying hs, go_sem, hk, asIntOf, i3, h]⟩
  · exact ⟨k, fun _ => rfl, fun w => by simp [Instr.slice, Instr.sliceBounds, Instr.sliceBound, run_underlying hs, go_sem, hk, asIntOf, i3, h, Addr.add]; try omega⟩

/-- An append of so many numbers out of a row, none too. -/
theorem app_any (B : Nat) (v : Value) (n : Nat) (xs : List Value) (w : World) (hown : w.ownsRow B 3 1 v n xs) (g o m c : Nat) (news : List Int) (hl : news.length = m) (hmc : m ≤ c)
    (hnews : ∀ j (hj : j < m), w.cell? ⟨g, o + j, none⟩ = some (.int .i64 news[j])) (hb : n + m ≤ 1000000) (hB : B ≤ w.heap.size) :
    ∃ a' cap' w', (Builtin.append_ #[35, 35] 35 #[v, .slice (some ⟨g, o, none⟩) m c]).run Tryd.prog w = .ok (.slice a' (n + m) cap') w' ∧ w'.ownsRow B 3 1 (.slice a' (n + m) cap') (n + m) (xs ++ news.map (Value.int .i64)) ∧ w.grownBy w' v.ownBlock ∧
      (∀ k, (Value.slice a' (n + m) cap').ownBlock = some k → v.ownBlock = some k ∨ k = w.heap.size) := by
  obtain ⟨i, hi, hz, hz1, hz2⟩ := info_parts (show (Tryd.prog.info? 3).map (fun i => (i.zero, i.size, i.bytes)) = some (some (.int .i64 0), 1, 8) by kernel_rfl)
  have ht := Tryd.underlying35
  by_cases hm : m = 0
  · subst hm
    have hn : news = [] := List.length_eq_zero_iff.1 hl
    subst hn
    have hgb : w.grownBy w v.ownBlock := ⟨rfl, rfl, rfl, Nat.le_refl _, fun _ _ _ => rfl⟩
    have hrun : (Builtin.append_ #[35, 35] 35 #[v, .slice (some ⟨g, o, none⟩) 0 c]).run Tryd.prog w = .ok v w := by
      rcases hown.2 with ⟨rfl, rfl⟩ | ⟨g', cap, cur, rfl, _, _, hnc, _⟩
      · simp [Builtin.append_, run_underlying ht, sizeOf, typeInfo, hi, Builtin.lenOf, Builtin.firstCells, go_sem, storeCells]
      · simp [Builtin.append_, run_underlying ht, sizeOf, typeInfo, hi, Builtin.lenOf, Builtin.firstCells, hnc, go_sem, storeCells]
    obtain ⟨a, cap, rfl, _⟩ := own_form hown
    exact ⟨a, cap, w, hrun, by simpa using hown, hgb, fun k hk => .inl hk⟩
  · obtain ⟨g', cap', w', hr, h2, h3, h4, _⟩ := run_append_lies (P := Tryd.prog) w 35 35 B 3 i (.int .i64 0) 1 8 ht hi hz hz1 hz2 rfl (by omega) v n xs hown ⟨g, o, none⟩ m c (news.map (Value.int .i64)) (by simpa using hl)
      (fun j u hu => by
        have hj : j < m := by have := (List.getElem?_eq_some_iff.1 hu).1; simp at this; omega
        have h5 := hnews j hj
        simp [List.getElem?_map, List.getElem?_eq_getElem (show j < news.length by omega)] at hu
        subst hu
        rw [show (⟨g, o, none⟩ : Addr).add j = ⟨g, o + j, none⟩ by unfold Addr.add; split <;> simp_all]
        exact h5)
      (fun u hu => by simp at hu; obtain ⟨x, _, rfl⟩ := hu; rfl) (by omega) (by unfold maxLen; omega) (by omega) hB w.heap.size rfl
    exact ⟨some ⟨g', 0, none⟩, cap', w', hr, h2, h3, fun k hk => by
      simp only [Value.ownBlock, Option.some.injEq] at hk
      subst hk
      exact h4⟩

theorem wp_app {o : Oper} {a : Act} {w : World} {K : Act → World → Prop} {Q : Exit → Act → World → Prop} (s x : Operand) (ho : o.op = .call { callee := .builtin .append, args := #[s, x], argTypes := #[35, 35] }) (hty : o.type = 35)
    (B : Nat) (v : Value) (n : Nat) (xs : List Value) (hs : a.eval s = v) (hown : w.ownsRow B 3 1 v n xs) (g off m c : Nat) (news : List Int) (hx : a.eval x = .slice (some ⟨g, off, none⟩) m c) (hl : news.length = m) (hmc : m ≤ c)
    (hnews : ∀ j (hj : j < m), w.cell? ⟨g, off + j, none⟩ = some (.int .i64 news[j])) (hb : n + m ≤ 1000000) (hB : B ≤ w.heap.size)
    (h : ∀ a' cap' w', w'.ownsRow B 3 1 (.slice a' (n + m) cap') (n + m) (xs ++ news.map (Value.int .i64)) → w.grownBy w' v.ownBlock → (∀ k, (Value.slice a' (n + m) cap').ownBlock = some k → v.ownBlock = some k ∨ k = w.heap.size) →
      K (a.put o.dst (.slice a' (n + m) cap')) w') : o.wp Tryd.prog a w K Q := by
  obtain ⟨a', cap', w', hr, h2, h3, h4⟩ := app_any B v n xs w hown g off m c news hl hmc hnews hb hB
  unfold Oper.wp execOp
  simp only [ho, hty, resolve, invoke, builtin, Sem.run_bind, Sem.run_pure, Result.andThen_ok, List.map_toArray, List.map_cons, List.map_nil, hs, hx, hr]
  exact h a' cap' w' h2 h3 h4

/-- A row beside the tree. -/
structure PS (w0 W : World) (tb : Nat) (t : LT) (v : Value) (th : List Int) : Prop where
  st : St w0 W tb t
  own : W.ownsRow w0.heap.size 3 1 v th.length (th.map (Value.int .i64))
  apart : ∀ k, v.ownBlock = some k → k ∉ t.blocks ∧ k ≠ tb
section
variable {w0 W W2 : World} {tb : Nat} {t t2 : LT} {v v2 : Value} {th th2 : List Int}
theorem PS.later (h : PS w0 W tb t v th) (he : Ext W W2) : PS w0 W2 tb t v th := ⟨h.st.later he, own_ext he h.own, h.apart⟩
theorem own_same {B : Nat} {e : TypeId} {size n : Nat} {xs : List Value} (h : W.ownsRow B e size v n xs) (hb : ∀ k, v.ownBlock = some k → W2.heap[k]? = W.heap[k]?) : W2.ownsRow B e size v n xs := by
  refine ⟨h.1, ?_⟩
  rcases h.2 with h2 | ⟨g', cap, cur, rfl, hb2, hh, r⟩
  · exact .inl h2
  · exact .inr ⟨g', cap, cur, rfl, hb2, (hb g' rfl).trans hh, r⟩
theorem PS.wr (h : PS w0 W tb t v th) (hw : Wr t t2 W W2) (hs : St w0 W2 tb t2) : PS w0 W2 tb t2 v th :=
  ⟨hs, own_same h.own fun k hk => hw.block k (h.own.lt k hk).2 (h.apart k hk).1, fun k hk => ⟨fun h' => by
    rcases hw.new k h' with h2 | h2
    · exact (h.apart k hk).1 h2
    · have := (h.own.lt k hk).2; omega, (h.apart k hk).2⟩⟩
theorem PS.app (h : PS w0 W tb t v th) (hg : W.grownBy W2 v.ownBlock) (ho : W2.ownsRow w0.heap.size 3 1 v2 th2.length (th2.map (Value.int .i64))) (hv : ∀ k, v2.ownBlock = some k → v.ownBlock = some k ∨ k = W.heap.size) : PS w0 W2 tb t v2 th2 :=
  ⟨h.st.grown hg fun k hk => ⟨(h.own.lt k hk).1, h.apart k hk⟩, ho, fun k hk => by
    rcases hv k hk with h' | rfl
    · exact h.apart k h'
    · exact ⟨fun h' => by have := h.st.tr.at_.at_.lt _ h'; omega, fun e => by have := h.st.tr.at_.here; omega⟩⟩
end

/-- What Kill does to the panes. -/
theorem kill_panes {t : LT} {p : Int} (hp : p ∈ t.panes) (hl : 1 < t.panes.length) : (t.kill p).1 = 0 ∧ ∃ l r, t.panes = l ++ p :: r ∧ (t.kill p).2.panes = l ++ r := by
  have hlf : t.isLeaf = false := by cases t with
    | leaf b q => simp [LT.panes] at hl
    | node b x y a k => rfl
  obtain ⟨A, f, hA⟩ : ∃ A f, t.path p = A ++ [f] := by
    rcases List.eq_nil_or_concat (t.path p) with h0 | ⟨A, f, h0⟩
    · cases t with
      | leaf b q => simp [LT.isLeaf] at hlf
      | node b x y a k => simp only [LT.path] at h0; split at h0 <;> cases h0
    · exact ⟨A, f, by simpa using h0⟩
  obtain ⟨tib, htip⟩ := tip_leaf p t hp
  have hpl := plug_path p t
  rw [htip, hA, plug_append] at hpl
  have h5 := plug_panes A (f.fill (.leaf tib p))
  have hpl' : plug A (f.fill (.leaf tib p)) = t := hpl
  rw [hpl'] at h5
  have hk : t.kill p = (0, plug A (f.sib.reb f.b)) := by simp [LT.kill, hp, hlf, cut_eq hA]
  rw [hk]
  refine ⟨rfl, ?_⟩
  simp only [plug_panes, reb_panes]
  rw [Fr.fill_eq] at h5
  cases hl : f.left
  · exact ⟨lp A ++ f.sib.panes, rp A, by rw [h5]; simp [Fr.fst, Fr.snd, hl, LT.panes], by simp⟩
  · exact ⟨lp A, f.sib.panes ++ rp A, by rw [h5]; simp [Fr.fst, Fr.snd, hl, LT.panes], rfl⟩

end Go.Proofs.YtflbfmfaccaffaaDoor
