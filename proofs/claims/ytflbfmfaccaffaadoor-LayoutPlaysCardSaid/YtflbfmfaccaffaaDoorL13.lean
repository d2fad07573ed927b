/-
  Kill.
-/
import Derived.Test.YtflbfmfaccaffaaDoorL12
namespace Go.Proofs.YtflbfmfaccaffaaDoor
open Go Go.RowKit
attribute [local go_sem] extUpon
attribute [local go_sem ↓] eval_put_ne eval_put_none eval_put_same size_put eval_const

theorem b_leaf (b : Nat) (p : Int) : (LT.leaf b p).b = b := rfl
theorem b_node (b : Nat) (x y : LT) (a : Bool) (k : Int) : (LT.node b x y a k).b = b := rfl
/-- A tree with another block for its root. -/
def LT.reb (b : Nat) : LT → LT
  | .leaf _ p => .leaf b p
  | .node _ x y a k => .node b x y a k
theorem reb_b (b : Nat) (t : LT) : (t.reb b).b = b := by cases t <;> rfl
theorem reb_cells (b : Nat) (t : LT) : (t.reb b).cells = t.cells := by cases t <;> rfl
theorem reb_panes (b : Nat) (t : LT) : (t.reb b).panes = t.panes := by cases t <;> rfl
theorem reb_small {b : Nat} {t : LT} (h : t.small) : (t.reb b).small := by cases t <;> exact h
theorem reb_blocks (b : Nat) (t : LT) : ∀ k ∈ (t.reb b).blocks, k = b ∨ k ∈ t.blocks := by
  intro k hk
  cases t with
  | leaf c p => simp [LT.reb, LT.blocks] at hk; exact .inl hk
  | node c x y a q =>
    simp only [LT.reb, LT.blocks, List.mem_cons] at hk ⊢
    rcases hk with h | h
    · exact .inl h
    · exact .inr (.inr h)
theorem reb_nodup {b : Nat} {t : LT} (h : t.blocks.Nodup) (hb : b ∉ t.blocks) : (t.reb b).blocks.Nodup := by
  cases t with
  | leaf c p => simp [LT.reb, LT.blocks]
  | node c x y a k =>
    simp only [LT.reb, LT.blocks, List.nodup_cons, List.mem_cons, not_or] at h hb ⊢
    exact ⟨hb.2, h.2⟩
theorem reb_subs {w : World} {b : Nat} {t : LT} (h : LtAt w t) : (t.reb b).subs w := by
  cases t with
  | leaf c p => trivial
  | node c x y a k => exact h.2
theorem sib_at {w : World} {f : Fr} {s : LT} (h : LtAt w (f.fill s)) : LtAt w f.sib := by
  cases hf : f.left
  · simp only [Fr.fill, hf, Bool.false_eq_true, if_false] at h; exact h.2.1
  · simp only [Fr.fill, hf, if_true] at h; exact h.2.2
theorem cells_form (t : LT) : (∃ q, t.cells = #[.int .i64 q, .pointer none, .pointer none, .bool false, .int .i64 0]) ∨ (∃ xb yb a k, t.cells = #[.int .i64 0, .pointer (some ⟨xb, 0, none⟩), .pointer (some ⟨yb, 0, none⟩), .bool a, .int .i64 k]) := by
  cases t with
  | leaf b p => exact .inl ⟨p, rfl⟩
  | node b x y a k => exact .inr ⟨x.b, y.b, a, k, rfl⟩
theorem cells5 (t : LT) : ∃ c0 c1 c2 c3 c4, t.cells = #[c0, c1, c2, c3, c4] := by cases t <;> exact ⟨_, _, _, _, _, rfl⟩

/-- What is left of a tree when a pane goes. -/
def LT.cut (t : LT) (p : Int) : LT :=
  match (t.path p).getLast? with
  | none => t
  | some f => plug (t.path p).dropLast (f.sib.reb f.b)
def LT.kill (t : LT) (p : Int) : Int × LT :=
  if p ∉ t.panes then (3, t) else if t.isLeaf then (2, t) else (0, t.cut p)
theorem cut_eq {t : LT} {p : Int} {A : List Fr} {f : Fr} (h : t.path p = A ++ [f]) : t.cut p = plug A (f.sib.reb f.b) := by
  simp [LT.cut, h]

theorem Tr.cut {B tb : Nat} {w W : World} {t tip : LT} {A : List Fr} {f : Fr} {c0 c1 c2 c3 c4 : Value} (h : Tr B w tb t) (he : Ext w W) (hB : B ≤ w.heap.size) (hpl : plug (A ++ [f]) tip = t) (hc : f.sib.cells = #[c0, c1, c2, c3, c4]) :
    Tr B (set5 W f.b c0 c1 c2 c3 c4) tb (plug A (f.sib.reb f.b)) ∧ Wr t (plug A (f.sib.reb f.b)) w (set5 W f.b c0 c1 c2 c3 c4) := by
  rw [plug_append] at hpl
  have hpl' : plug A (f.fill tip) = t := hpl
  have hT : Tr B w tb (plug A (f.fill tip)) := by rw [hpl']; exact h
  have hnode := plug_at (hT.ext he).at_.at_
  have hnd := (List.nodup_append.1 ((plug_blocks _ _).nodup_iff.1 hT.nodup)).2.1
  have hsib : f.sib.blocks.Nodup ∧ f.b ∉ f.sib.blocks ∧ ∀ k ∈ f.sib.blocks, k ∈ (f.fill tip).blocks := by
    rw [Fr.fill_eq] at hnd ⊢
    simp only [LT.blocks, List.nodup_cons, List.mem_append, not_or, List.nodup_append] at hnd ⊢
    cases hl : f.left
    · simp only [Fr.fst, Fr.snd, hl, Bool.false_eq_true, if_false] at hnd ⊢
      exact ⟨hnd.2.1, hnd.1.1, fun k hk => by simp [hk]⟩
    · simp only [Fr.fst, Fr.snd, hl, if_true] at hnd ⊢
      exact ⟨hnd.2.2.1, hnd.1.2, fun k hk => by simp [hk]⟩
  have hfb : (f.fill tip).b = f.b := by rw [Fr.fill_eq]; rfl
  have hsm : f.sib.small := by
    have h5 := plug_small' hT.at_.small
    rw [Fr.fill_eq] at h5
    cases hl : f.left
    · simp only [Fr.fst, Fr.snd, hl, Bool.false_eq_true, if_false] at h5; exact h5.2.1
    · simp only [Fr.fst, Fr.snd, hl, if_true] at h5; exact h5.2.2
  have hm := hT.many
  rw [plug_panes] at hm
  have hblk : W.heap[f.b]? = some (.cells (f.fill tip).cells 52 (0, 0)) := by rw [← hfb]; exact hnode.blk
  obtain ⟨d0, d1, d2, d3, d4, hd⟩ := cells5 (f.fill tip)
  rw [hd] at hblk
  have hres := Tr.turn (s' := f.sib.reb f.b) hT he (w' := set5 W f.b c0 c1 c2 c3 c4) (by rw [hfb]; exact set5_set1 _ _ _ _ _ _ _) (by rw [hfb, reb_cells, hc]; exact set5_blk hblk) (by rw [reb_b, hfb]) (reb_subs (sib_at hnode))
    (fun k hk => by
      rcases reb_blocks _ _ k hk with rfl | hk
      · exact .inl (by rw [Fr.fill_eq]; simp [LT.blocks])
      · exact .inl (hsib.2.2 k hk)) hB (reb_nodup hsib.1 hsib.2.1) (reb_small hsm) (by
      rw [plug_panes, reb_panes]
      rw [Fr.fill_eq] at hm
      cases hl : f.left
      · simp only [Fr.fst, Fr.snd, hl, Bool.false_eq_true, if_false, LT.panes, List.length_append] at hm ⊢; omega
      · simp only [Fr.fst, Fr.snd, hl, if_true, LT.panes, List.length_append] at hm ⊢; omega)
  rw [hpl'] at hres
  exact hres

set_option maxHeartbeats 4000000 in
set_option maxRecDepth 100000 in
theorem Kill_any (B tb : Nat) (t : LT) (p : Int) (w : World) (h : Tr B w tb t) (hB : B ≤ w.heap.size) :
    Calls Tryd.prog 17 #[ptr tb, .int .i64 p] w fun e w' => e = .returned (.int .i64 (t.kill p).1) ∧ Tr B w' tb (t.kill p).2 ∧ Wr t (t.kill p).2 w w' := by
  have HP := hid (fun w' (he : Ext w w') => Has_any tb t p w' (h.at_.ext he))
  have HF := hid (fun w' (he : Ext w w') => find_any tb t p 0 0 w' (h.at_.ext he) (by decide) (by decide))
  have HLF := hid (fun w' (he : Ext w w') => leaf_any t w' (h.at_.at_.ext he))
  have HR := hid (fun w' (he : Ext w w') => he.cell h.at_.root)
  have HH := hid h
  have HBB := hid hB
  clear h hB
  unfold ptr at *
  by_cases hp : p ∈ t.panes
  · cases hlf : t.isLeaf
    · obtain ⟨A, f, hA⟩ : ∃ A f, t.path p = A ++ [f] := by
        rcases List.eq_nil_or_concat (t.path p) with h0 | ⟨A, f, h0⟩
        · cases t with
          | leaf b q => simp [LT.isLeaf] at hlf
          | node b x y a k => simp only [LT.path] at h0; split at h0 <;> cases h0
        · exact ⟨A, f, by simpa using h0⟩
      have HS : Hid (t.kill p = (0, plug A (f.sib.reb f.b))) := hid (by simp [LT.kill, hp, hlf, cut_eq hA])
      obtain ⟨tib, htip⟩ := tip_leaf p t hp
      have hpl := plug_path p t
      rw [htip, hA] at hpl
      have hlen : (t.path p).length = A.length + 1 := by rw [hA]; simp
      have hle : A.length ≤ 1000 := by have := path_size p t; have := HH.out.at_.size; omega
      have hside := path_side (A1 := A) (A2 := []) (f := f) hp (by rw [hA])
      rw [htip, hlen, hA] at HF
      simp only [b_leaf, b_node] at HF
      rw [decide_eq_true hp] at HP
      rw [hlf] at HLF
      have HPL := hid hpl
      obtain ⟨c0, c1, c2, c3, c4, hc⟩ := cells5 f.sib
      have HT := hid (fun W (he : Ext w W) => Tr.cut HH.out he HBB.out HPL.out hc)
      have hnode : Hid (∀ W, Ext w W → LtAt W (f.fill (.leaf tib p))) := hid (fun W he => by
        have h5 := (HH.out.ext he).at_.at_
        rw [← HPL.out, plug_append] at h5
        exact plug_at h5)
      have HSIB := hid (fun W (he : Ext w W) => sib_at (hnode.out W he))
      have HSB : Hid (∀ W, Ext w W → W.heap[f.sib.b]? = some (.cells #[c0, c1, c2, c3, c4] 52 (0, 0))) := hid (fun W he => by rw [← hc]; exact (HSIB.out W he).blk)
      clear hp hlf hpl hlen htip hA
      generalize t.tipBox p (allB 0 0) = tbx at *
      generalize t.bxs p (allB 0 0) = Bs at *
      unfold Bx.val at *
      have v1 : IntKind.i64.wrap (((A.length + 1 : Nat) : Int) - 1) = (A.length : Int) := by rw [IntKind.wrap_i64]; omega
      go_enter Tryd.func17, Tryd.ntmps17
      go_wp2_with fail
      refine (HP.out _ (Ext.refl _)).mono ?_
      rintro e w1 ⟨rfl, hE⟩
      have r1 := HR.out w1 hE
      go_wp2_with fail
      refine (HLF.out _ hE).mono ?_
      rintro e w2 ⟨rfl, rfl⟩
      go_wp2_with fail
      refine (HF.out _ hE).mono ?_
      rintro e w3 ⟨va, vb, rfl, hoa, hob, hE3⟩
      replace hE3 := hE.trans hE3
      clear hE r1 HP HF HLF HR
      obtain ⟨aa, cap, rfl, hca⟩ := own_form hoa
      obtain ⟨ab, capb, rfl, hcb⟩ := own_form hob
      clear hoa hob hcb
      obtain ⟨g, rfl, hcc⟩ := hca (by omega)
      have ca : w3.cell? ⟨g, A.length, none⟩ = some (.pointer (some ⟨f.b, 0, none⟩)) := hcc A.length (ptr f.b) (by simp [bvals])
      clear hca hcc
      have cc := fun o => (Ext.alloc w3 o).cell ca
      cases hl : f.left
      · have HN : Hid (∀ W, Ext w W → LtAt W (.node f.b f.sib (.leaf tib p) f.across f.part)) := hid (fun W he => by have h5 := hnode.out W he; simpa [Fr.fill, hl] using h5)
        have hns : p ∉ f.sib.panes := hside.2 hl
        clear hside hl hnode
        have x1 : ∀ o, (w3.alloc o).cell? ⟨f.b, 1, none⟩ = some (ptr f.sib.b) := fun o => node_cells (HN.out (w3.alloc o) (hE3.alloc' o)) 1 _ rfl
        cases hsb : f.sib.isLeaf
        · have HL : Hid (∀ W, Ext w W → Calls Tryd.prog 37 #[.pointer (some ⟨f.sib.b, 0, none⟩)] W fun e w'' => e = .returned (.bool false) ∧ w'' = W) := hid (fun W he => by have h5 := leaf_any f.sib W (HSIB.out W he); rw [hsb] at h5; exact h5)
          simp only [b_leaf, b_node, LT.cells, ptr] at x1
          generalize hsbb : f.sib.b = sb at *
          replace hsbb := hid hsbb
          clear hns hsb
          go_wp2_with fail
          refine (HL.out _ (hE3.alloc' _)).mono ?_
          rintro e w4 ⟨rfl, rfl⟩
          have hX := hE3.alloc' (.cells #[.int .i64 tbx.row, .int .i64 tbx.col, .int .i64 tbx.rows, .int .i64 tbx.cols] 32 (0, 0))
          generalize World.alloc w3 _ = w4 at *
          have hN4 := HN.out w4 hX
          have n1 : w4.cell? ⟨f.b, 1, none⟩ = some (.pointer (some ⟨sb, 0, none⟩)) := by
            first
            | exact node_cells hN4 1 _ rfl
            | (have h5 := node_cells hN4 1 (ptr f.sib.b) rfl; rw [hsbb.out] at h5; exact h5)
          have n2 : w4.cell? ⟨f.b, 2, none⟩ = some (.pointer (some ⟨tib, 0, none⟩)) := by
            first
            | exact node_cells hN4 2 _ rfl
            | (have h5 := node_cells hN4 2 (ptr f.sib.b) rfl; rw [hsbb.out] at h5; exact h5)
          have n0 : w4.cell? ⟨f.b, 0, none⟩ = some (.int .i64 0) := node_cells hN4 0 _ rfl
          have n3 : w4.cell? ⟨f.b, 3, none⟩ = some (.bool f.across) := node_cells hN4 3 _ rfl
          have n4 : w4.cell? ⟨f.b, 4, none⟩ = some (.int .i64 f.part) := node_cells hN4 4 _ rfl
          have z1 : ∀ j, w4.frozen? ⟨f.b, j, none⟩ = false := fun j => by simp [World.frozen?, hN4.1]
          rcases cells_form f.sib with ⟨q', h6⟩ | ⟨xb, yb, a', k', h6⟩
          all_goals (
            try (rw [h6] at hc; simp only [Array.mk.injEq, List.cons.injEq, and_true] at hc; obtain ⟨rfl, rfl, rfl, rfl, rfl⟩ := hc)
            clear h6
            have s0 := cell_blk (j := 0) (HSB.out w4 hX) rfl
            have s1 := cell_blk (j := 1) (HSB.out w4 hX) rfl
            have s2 := cell_blk (j := 2) (HSB.out w4 hX) rfl
            have s3 := cell_blk (j := 3) (HSB.out w4 hX) rfl
            have s4 := cell_blk (j := 4) (HSB.out w4 hX) rfl
            have h9 := hid (HT.out w4 hX)
            clear hN4 HN HSB HSIB HL x1 cc ca
            go_wp2_with fail
            go_ret
            exact ⟨by rw [HS.out]; rfl, by rw [HS.out]; exact h9.out.1, by rw [HS.out]; exact h9.out.2⟩)
        · obtain ⟨c, q, hsb2⟩ : ∃ c q, f.sib = .leaf c q := by
            cases hs : f.sib with
            | leaf c q => exact ⟨c, q, rfl⟩
            | node c x y a k => rw [hs] at hsb; cases hsb
          rw [hsb2] at HT HSIB HSB HN x1 HS hns
          simp only [hsb2, LT.cells, Array.mk.injEq, List.cons.injEq, and_true] at hc
          obtain ⟨rfl, rfl, rfl, rfl, rfl⟩ := hc
          simp only [b_leaf, b_node, LT.cells, ptr] at x1 HSB
          have hq : ¬ q = p := fun e => hns (by simp [LT.panes, e])
          have HL : Hid (∀ W, Ext w W → Calls Tryd.prog 37 #[.pointer (some ⟨c, 0, none⟩)] W fun e w'' => e = .returned (.bool true) ∧ w'' = W) := hid (fun W he => leaf_any (.leaf c q) W (HSIB.out W he))
          have x2 := fun o => node_cells (HSIB.out (w3.alloc o) (hE3.alloc' o)) 0 _ rfl
          simp only [b_leaf, b_node] at x2
          clear hns hsb hsb2
          go_wp2_with fail
          refine (HL.out _ (hE3.alloc' _)).mono ?_
          rintro e w4 ⟨rfl, rfl⟩
          have hX := hE3.alloc' (.cells #[.int .i64 tbx.row, .int .i64 tbx.col, .int .i64 tbx.rows, .int .i64 tbx.cols] 32 (0, 0))
          generalize World.alloc w3 _ = w4 at *
          have hN4 := HN.out w4 hX
          have n1 : w4.cell? ⟨f.b, 1, none⟩ = some (.pointer (some ⟨c, 0, none⟩)) := by
            first
            | exact node_cells hN4 1 _ rfl
            | (have h5 := node_cells hN4 1 (ptr f.sib.b) rfl; rw [hsbb.out] at h5; exact h5)
          have n2 : w4.cell? ⟨f.b, 2, none⟩ = some (.pointer (some ⟨tib, 0, none⟩)) := by
            first
            | exact node_cells hN4 2 _ rfl
            | (have h5 := node_cells hN4 2 (ptr f.sib.b) rfl; rw [hsbb.out] at h5; exact h5)
          have n0 : w4.cell? ⟨f.b, 0, none⟩ = some (.int .i64 0) := node_cells hN4 0 _ rfl
          have n3 : w4.cell? ⟨f.b, 3, none⟩ = some (.bool f.across) := node_cells hN4 3 _ rfl
          have n4 : w4.cell? ⟨f.b, 4, none⟩ = some (.int .i64 f.part) := node_cells hN4 4 _ rfl
          have z1 : ∀ j, w4.frozen? ⟨f.b, j, none⟩ = false := fun j => by simp [World.frozen?, hN4.1]
          rcases cells_form f.sib with ⟨q', h6⟩ | ⟨xb, yb, a', k', h6⟩
          all_goals (
            try (rw [h6] at hc; simp only [Array.mk.injEq, List.cons.injEq, and_true] at hc; obtain ⟨rfl, rfl, rfl, rfl, rfl⟩ := hc)
            clear h6
            have s0 := cell_blk (j := 0) (HSB.out w4 hX) rfl
            have s1 := cell_blk (j := 1) (HSB.out w4 hX) rfl
            have s2 := cell_blk (j := 2) (HSB.out w4 hX) rfl
            have s3 := cell_blk (j := 3) (HSB.out w4 hX) rfl
            have s4 := cell_blk (j := 4) (HSB.out w4 hX) rfl
            have h9 := hid (HT.out w4 hX)
            clear hN4 HN HSB HSIB HL x1 cc ca
            go_wp2_with fail
            go_ret
            exact ⟨by rw [HS.out]; rfl, by rw [HS.out]; exact h9.out.1, by rw [HS.out]; exact h9.out.2⟩)
      · have HN : Hid (∀ W, Ext w W → LtAt W (.node f.b (.leaf tib p) f.sib f.across f.part)) := hid (fun W he => by have h5 := hnode.out W he; simpa [Fr.fill, hl] using h5)
        clear hside hl hnode
        have x1 : ∀ o, (w3.alloc o).cell? ⟨f.b, 1, none⟩ = some (ptr tib) := fun o => node_cells (HN.out (w3.alloc o) (hE3.alloc' o)) 1 _ rfl
        have x2 := fun o => node_cells (HN.out (w3.alloc o) (hE3.alloc' o)).2.1 0 _ rfl
        simp only [b_leaf, b_node, LT.cells, ptr] at x1 x2
        have HL : Hid (∀ W, Ext w W → Calls Tryd.prog 37 #[.pointer (some ⟨tib, 0, none⟩)] W fun e w'' => e = .returned (.bool true) ∧ w'' = W) := hid (fun W he => leaf_any (.leaf tib p) W (HN.out W he).2.1)
        generalize hsbb : f.sib.b = sb at *
        replace hsbb := hid hsbb
        go_wp2_with fail
        refine (HL.out _ (hE3.alloc' _)).mono ?_
        rintro e w4 ⟨rfl, rfl⟩
        have x3 := node_cells (HN.out _ (hE3.alloc' (.cells #[.int .i64 tbx.row, .int .i64 tbx.col, .int .i64 tbx.rows, .int .i64 tbx.cols] 32 (0, 0)))).2.1 0 _ rfl
        simp only [b_leaf, b_node, LT.cells, ptr] at x3
        clear x2
        have hX := hE3.alloc' (.cells #[.int .i64 tbx.row, .int .i64 tbx.col, .int .i64 tbx.rows, .int .i64 tbx.cols] 32 (0, 0))
        generalize World.alloc w3 _ = w4 at *
        have hN4 := HN.out w4 hX
        have n1 : w4.cell? ⟨f.b, 1, none⟩ = some (.pointer (some ⟨tib, 0, none⟩)) := by
          first
          | exact node_cells hN4 1 _ rfl
          | (have h5 := node_cells hN4 1 (ptr f.sib.b) rfl; rw [hsbb.out] at h5; exact h5)
        have n2 : w4.cell? ⟨f.b, 2, none⟩ = some (.pointer (some ⟨sb, 0, none⟩)) := by
          first
          | exact node_cells hN4 2 _ rfl
          | (have h5 := node_cells hN4 2 (ptr f.sib.b) rfl; rw [hsbb.out] at h5; exact h5)
        have n0 : w4.cell? ⟨f.b, 0, none⟩ = some (.int .i64 0) := node_cells hN4 0 _ rfl
        have n3 : w4.cell? ⟨f.b, 3, none⟩ = some (.bool f.across) := node_cells hN4 3 _ rfl
        have n4 : w4.cell? ⟨f.b, 4, none⟩ = some (.int .i64 f.part) := node_cells hN4 4 _ rfl
        have z1 : ∀ j, w4.frozen? ⟨f.b, j, none⟩ = false := fun j => by simp [World.frozen?, hN4.1]
        rcases cells_form f.sib with ⟨q', h6⟩ | ⟨xb, yb, a', k', h6⟩
        all_goals (
          try (rw [h6] at hc; simp only [Array.mk.injEq, List.cons.injEq, and_true] at hc; obtain ⟨rfl, rfl, rfl, rfl, rfl⟩ := hc)
          clear h6
          have s0 := cell_blk (j := 0) (HSB.out w4 hX) rfl
          have s1 := cell_blk (j := 1) (HSB.out w4 hX) rfl
          have s2 := cell_blk (j := 2) (HSB.out w4 hX) rfl
          have s3 := cell_blk (j := 3) (HSB.out w4 hX) rfl
          have s4 := cell_blk (j := 4) (HSB.out w4 hX) rfl
          have h9 := hid (HT.out w4 hX)
          clear hN4 HN HSB HSIB HL x1 cc ca
          go_wp2_with fail
          go_ret
          exact ⟨by rw [HS.out]; rfl, by rw [HS.out]; exact h9.out.1, by rw [HS.out]; exact h9.out.2⟩)
    · have HS : Hid (t.kill p = (2, t)) := hid (by simp [LT.kill, hp, hlf])
      rw [decide_eq_true hp] at HP
      rw [hlf] at HLF
      clear hp hlf
      go_enter Tryd.func17, Tryd.ntmps17
      go_wp2_with fail
      refine (HP.out _ (Ext.refl _)).mono ?_
      rintro e w1 ⟨rfl, hE⟩
      have r1 := HR.out w1 hE
      go_wp2_with fail
      refine (HLF.out _ hE).mono ?_
      rintro e w2 ⟨rfl, rfl⟩
      go_wp2_with fail
      go_ret
      exact ⟨by rw [HS.out]; rfl, by rw [HS.out]; exact HH.out.ext hE, by rw [HS.out]; exact Wr.of_ext hE⟩
  · have HS : Hid (t.kill p = (3, t)) := hid (by simp [LT.kill, hp])
    rw [decide_eq_false hp] at HP
    clear hp
    go_enter Tryd.func17, Tryd.ntmps17
    go_wp2_with fail
    refine (HP.out _ (Ext.refl _)).mono ?_
    rintro e w1 ⟨rfl, hE⟩
    go_wp2_with fail
    go_ret
    exact ⟨by rw [HS.out]; rfl, by rw [HS.out]; exact HH.out.ext hE, by rw [HS.out]; exact Wr.of_ext hE⟩

end Go.Proofs.YtflbfmfaccaffaaDoor
