/-
  find: a pane's node, those around it, and their boxes.
-/
import Derived.Test.YtflbfmfaccaffaaDoorL6
import Derived.Deep.DeepCutAuto
import Derived.Deep.CutBlock
namespace Go.Proofs.YtflbfmfaccaffaaDoor
open Go Go.RowKit
attribute [local go_sem] extUpon
attribute [local go_sem ↓] eval_put_ne eval_put_none eval_put_same size_put eval_const

abbrev FF (w W : World) (va vb : Value) (xs ys : List Value) (n : Nat) (C : List (Nat × Obj)) : Prop := FS w W (w.heap.size + 1) 50 32 1 4 va vb n n xs ys C
def rectObj (r : Bx) : Obj := .cells #[.int .i64 r.row, .int .i64 r.col, .int .i64 r.rows, .int .i64 r.cols] 32 (0, 0)
theorem FF.start (w : World) : FF w (w.alloc (rectObj ⟨0, 0, 0, 0⟩)) (.slice none 0 0) (.slice none 0 0) [] [] 0 [(w.heap.size, rectObj ⟨0, 0, 0, 0⟩)] :=
  ⟨Ext.alloc _ _, by omega, by simp, World.ownsRow_nil _ _ _ _, World.ownsRow_nil _ _ _ _, fun c hc => by
    simp only [List.mem_singleton] at hc; subst hc; exact ⟨blk_new _ _, by simp [Value.ownBlock], by simp [Value.ownBlock]⟩⟩
def lenOf : Value → Nat
  | .slice _ n _ => n
  | _ => 0
def bvals (A : List Fr) : List Value := A.map fun f => ptr f.b

/-- Where the loop stands: at the tree s with box r, behind the way A. -/
structure FindAt (w wr : World) (p : Int) (t : LT) (R : Bx) (s : LT) (r : Bx) (A : List Fr) (Bs : List Bx) (va vb : Value) : Prop where
  fs : FF w wr va vb (bvals A) (Bs.flatMap Bx.vals) A.length [(w.heap.size, rectObj r)]
  tree : LtAt w s
  small : s.small
  size : s.size ≤ 1000
  ok : r.ok
  path : t.path p = A ++ s.path p
  tip : t.tip p = s.tip p
  tbox : t.tipBox p R = s.tipBox p r
  bxs : t.bxs p R = Bs ++ s.bxs p r
  len : A.length + s.size ≤ 1000
  same : Bs.length = A.length

theorem lenOf_own {w : World} {B : Nat} {e : TypeId} {size : Nat} {v : Value} {n : Nat} {xs : List Value} (h : w.ownsRow B e size v n xs) : lenOf v = n := by
  obtain ⟨a, cap, rfl, _⟩ := own_form h; rfl
theorem FindAt.stepL {w w3 w6 : World} {p : Int} {t x y : LT} {R r ra rb : Bx} {b : Nat} {a : Bool} {k : Int} {A : List Fr} {Bs : List Bx} {va vb va' vb' : Value}
    (HG : FindAt w w3 p t R (.node b x y a k) r A Bs va vb) (hp : p ∈ x.panes) (hab : parts a k r = (ra, rb))
    (HF : FF w w6 va' vb' (bvals A ++ [.pointer (some ⟨b, 0, none⟩)]) (Bs.flatMap Bx.vals ++ r.vals) (A.length + 1) [(w.heap.size, rectObj ra)]) :
    FindAt w w6 p t R x ra (A ++ [⟨b, true, y, a, k⟩]) (Bs ++ [r]) va' vb' ∧ 1000 - lenOf va' < 1000 - lenOf va := by
  have hok := parts_ok (a := a) (k := k) HG.ok
  rw [hab] at hok
  have h1 : bvals (A ++ [⟨b, true, y, a, k⟩]) = bvals A ++ [.pointer (some ⟨b, 0, none⟩)] := by simp [bvals, ptr]
  have h2 : (Bs ++ [r]).flatMap Bx.vals = Bs.flatMap Bx.vals ++ r.vals := by simp
  have h3 : (A ++ [(⟨b, true, y, a, k⟩ : Fr)]).length = A.length + 1 := by simp
  have hl := HG.len
  have hs := HG.size
  simp only [LT.size] at hl hs
  refine ⟨⟨by rw [h1, h2, h3]; exact HF, HG.tree.2.1, HG.small.2.1, by omega, hok.1, by rw [HG.path]; simp [LT.path, hp], by rw [HG.tip]; simp [LT.tip, hp], by rw [HG.tbox]; simp [LT.tipBox, hp, hab], by rw [HG.bxs]; simp [LT.bxs, hp, hab], by rw [h3]; omega, by rw [h3, List.length_append, HG.same]; rfl⟩, ?_⟩
  rw [lenOf_own HF.ra, lenOf_own HG.fs.ra]; omega
theorem FindAt.stepR {w w3 w6 : World} {p : Int} {t x y : LT} {R r ra rb : Bx} {b : Nat} {a : Bool} {k : Int} {A : List Fr} {Bs : List Bx} {va vb va' vb' : Value}
    (HG : FindAt w w3 p t R (.node b x y a k) r A Bs va vb) (hp : ¬ p ∈ x.panes) (hab : parts a k r = (ra, rb))
    (HF : FF w w6 va' vb' (bvals A ++ [.pointer (some ⟨b, 0, none⟩)]) (Bs.flatMap Bx.vals ++ r.vals) (A.length + 1) [(w.heap.size, rectObj rb)]) :
    FindAt w w6 p t R y rb (A ++ [⟨b, false, x, a, k⟩]) (Bs ++ [r]) va' vb' ∧ 1000 - lenOf va' < 1000 - lenOf va := by
  have hok := parts_ok (a := a) (k := k) HG.ok
  rw [hab] at hok
  have h1 : bvals (A ++ [⟨b, false, x, a, k⟩]) = bvals A ++ [.pointer (some ⟨b, 0, none⟩)] := by simp [bvals, ptr]
  have h2 : (Bs ++ [r]).flatMap Bx.vals = Bs.flatMap Bx.vals ++ r.vals := by simp
  have h3 : (A ++ [(⟨b, false, x, a, k⟩ : Fr)]).length = A.length + 1 := by simp
  have hl := HG.len
  have hs := HG.size
  simp only [LT.size] at hl hs
  refine ⟨⟨by rw [h1, h2, h3]; exact HF, HG.tree.2.2, HG.small.2.2, by omega, hok.2, by rw [HG.path]; simp [LT.path, hp], by rw [HG.tip]; simp [LT.tip, hp], by rw [HG.tbox]; simp [LT.tipBox, hp, hab], by rw [HG.bxs]; simp [LT.bxs, hp, hab], by rw [h3]; omega, by rw [h3, List.length_append, HG.same]; rfl⟩, ?_⟩
  rw [lenOf_own HF.ra, lenOf_own HG.fs.ra]; omega


set_option maxHeartbeats 4000000 in
set_option maxRecDepth 100000 in
theorem find_any (tb : Nat) (t : LT) (p rows cols : Int) (w : World) (h : TreeAt w tb t) (h1 : rows ≤ 1000000) (h2 : cols ≤ 1000000) :
    Calls Tryd.prog 30 #[ptr tb, .int .i64 p, .int .i64 rows, .int .i64 cols] w fun e w' => ∃ va vb, e = .returned (.tuple #[ptr (t.tip p).b, (t.tipBox p (allB rows cols)).val, va, vb]) ∧
      w'.ownsRow (w.heap.size + 1) 50 1 va (t.path p).length (bvals (t.path p)) ∧ w'.ownsRow (w.heap.size + 1) 32 4 vb (t.path p).length ((t.bxs p (allB rows cols)).flatMap Bx.vals) ∧ Ext w w' := by
  have HA : Hid (∀ w, Calls Tryd.prog 35 #[.int .i64 rows, .int .i64 cols] w fun e w' => e = .returned (allB rows cols).val ∧ Ext w w') := hid (fun w => all_any rows cols w)
  have HR := hid h.root
  have HFA := hid (fun wr (hf : FF w wr (.slice none 0 0) (.slice none 0 0) [] [] 0 [(w.heap.size, rectObj (allB rows cols))]) => (⟨hf, h.at_, h.small, h.size, allB_ok h1 h2, rfl, rfl, rfl, rfl, by have := h.size; simp; omega, rfl⟩ : FindAt w wr p t (allB rows cols) t (allB rows cols) [] [] (.slice none 0 0) (.slice none 0 0)))
  have HF := hid (FF.start w)
  clear h h1 h2
  generalize allB rows cols = R at *
  unfold Bx.val at HA
  have HBB := hid (rfl : t.b = t.b)
  generalize hbb : t.b = b at HR HBB
  replace HBB := hid hbb
  clear hbb
  unfold ptr at HR
  unfold ptr
  go_enter Tryd.func30, Tryd.ntmps30
  go_wp2_with fail
  generalize hW0 : World.alloc _ _ = W0
  replace HF := hid (by rw [← hW0]; exact HF.out : FF w W0 _ _ _ _ _ _)
  clear hW0
  generalize hq : w.heap.size = q at *
  replace hq := hid hq
  refine reg_begin 8 (by kernel_rfl) ?_
  generalize hW : World.drew _ = W
  replace HF := hid (by rw [← hW]; exact HF.out.later (Ext.drew _) : FF w W _ _ _ _ _ _)
  clear hW
  have HRW := hid (HF.out.ext.cell HR.out)
  refine reg_quiet 0 rfl (by kernel_rfl) (by kernel_rfl) ?_
  apply Exists.intro
  refine ⟨fun w' hw' => ?_, ?_⟩
  · go_simp
    exact ⟨rfl, Ext.refl _⟩
  refine reg_quiet 1 rfl (by kernel_rfl) (by kernel_rfl) ?_
  apply Exists.intro
  refine ⟨fun w' hw' => ?_, ?_⟩
  · go_simp
    exact ⟨rfl, Ext.refl _⟩
  refine reg_quiet 2 rfl (by kernel_rfl) (by kernel_rfl) ?_
  apply Exists.intro
  refine ⟨fun w' hw' => ?_, ?_⟩
  · go_simp
    exact ⟨rfl, Ext.refl _⟩
  refine reg_quiet 3 rfl (by kernel_rfl) (by kernel_rfl) ?_
  apply Exists.intro
  refine ⟨fun w' hw' => ?_, ?_⟩
  · have q0 := hw'.cell HRW.out
    go_simp
    exact ⟨rfl, Ext.refl _⟩
  refine reg_quiet 4 rfl (by kernel_rfl) (by kernel_rfl) ?_
  apply Exists.intro
  refine ⟨fun w' hw' => ?_, ?_⟩
  · go_simp
    exact ⟨rfl, Ext.refl _⟩
  refine reg_quiet 5 rfl (by kernel_rfl) (by kernel_rfl) ?_
  apply Exists.intro
  refine ⟨fun w' hw' => ?_, ?_⟩
  · go_simp
    exact ⟨rfl, Ext.refl _⟩
  refine reg_quiet 6 rfl (by kernel_rfl) (by kernel_rfl) ?_
  apply Exists.intro
  refine ⟨fun w' hw' => ?_, ?_⟩
  · go_simp
    exact HA.out w'
  refine reg_quiet 7 rfl (by kernel_rfl) (by kernel_rfl) ?_
  apply Exists.intro
  refine ⟨fun w' hw' => ?_, ?_⟩
  · go_simp
    exact ⟨rfl, Ext.refl _⟩
  refine reg_one 8 rfl (by kernel_rfl) rfl (fun w' hw' => ?_)
  replace HF := hid (HF.out.later hw')
  clear hw'
  have hk : w'.heap[q]? = _ := (HF.out.kept (q, _) (List.mem_singleton.2 rfl)).1
  have q0 := cell_blk (j := 0) hk rfl
  have q1 := cell_blk (j := 1) hk rfl
  have q2 := cell_blk (j := 2) hk rfl
  have q3 := cell_blk (j := 3) hk rfl
  have z0 : ∀ j, w'.frozen? ⟨q, j, none⟩ = false := fun j => by simp [World.frozen?, hk, rectObj]
  go_simp
  clear q0 q1 q2 q3 z0 hk
  replace HF := hid (HF.out.set4 (List.mem_singleton.2 rfl) (by have := hq.out; omega) : FS w (set4 w' q (.int .i64 R.row) (.int .i64 R.col) (.int .i64 R.rows) (.int .i64 R.cols)) _ _ _ _ _ _ _ _ _ _ _ _)
  unfold set4 at HF
  generalize World.setCell _ _ _ = W5 at *
  refine reg_done (by kernel_rfl) (fun w6 hw' => ?_) _
  replace HF := hid (HF.out.later hw')
  have HS := hid (HFA.out w6 HF.out)
  clear hw' HF HFA HRW HR HA
  go_simp
  go_wp2_with fail
  go_loopw [8, 10, 11] (fun n va vb wr => ∃ s r A Bs, n = ptr s.b ∧ Hid (FindAt w wr p t R s r A Bs va vb)) (fun _ va _ _ => 1000 - lenOf va)
  case atStart => exact ⟨t, R, [], [], by rw [HBB.out]; rfl, HS⟩
  case round =>
    obtain ⟨s, r, A, Bs, rfl, hF⟩ := hrel
    clear HS HBB
    obtain ⟨jn, hn0, hn1, hn2, hn3⟩ := info_parts (show (Tryd.prog.info? 50).map (fun i => (i.zero, i.size, i.bytes)) = some (some (.pointer none), 1, 8) by kernel_rfl)
    have HJN := hid (And.intro hn0 (And.intro hn1 (And.intro hn2 hn3)))
    clear hn0 hn1 hn2 hn3
    obtain ⟨jr, hn0, hn1, hn2, hn3⟩ := info_parts (show (Tryd.prog.info? 32).map (fun i => (i.zero, i.size, i.bytes)) = some (some (.agg #[.int .i64 0, .int .i64 0, .int .i64 0, .int .i64 0]), 4, 32) by kernel_rfl)
    have HJR := hid (And.intro hn0 (And.intro hn1 (And.intro hn2 hn3)))
    clear hn0 hn1 hn2 hn3
    generalize u10 = va at *
    generalize u11 = vb at *
    cases s with
    | leaf b pn =>
      have HL : Hid (∀ w', LtAt w' (.leaf b pn) → Calls Tryd.prog 37 #[.pointer (some ⟨b, 0, none⟩)] w' fun e w'' => e = .returned (.bool true) ∧ w'' = w') := hid (fun w' hw => leaf_any (.leaf b pn) w' hw)
      have HLT := hid (hF.out.tree.ext hF.out.fs.ext)
      have HF : Hid (FF w wr va vb (bvals A) (Bs.flatMap Bx.vals) A.length [(q, rectObj r)]) := hid (by have h := hF.out.fs; rw [hq.out] at h; exact h)
      have HP : Hid (t.path p = A ∧ t.tip p = .leaf b pn ∧ t.tipBox p R = r ∧ t.bxs p R = Bs) := hid ⟨by rw [hF.out.path]; simp [LT.path], by rw [hF.out.tip]; rfl, by rw [hF.out.tbox]; rfl, by rw [hF.out.bxs]; simp [LT.bxs]⟩
      clear hF
      unfold ptr LT.b at *
      go_wp2_with fail
      refine (HL.out _ HLT.out).mono ?_
      rintro e w3 ⟨rfl, rfl⟩
      go_wp2_with fail
      refine reg_begin 5 (by kernel_rfl) ?_
      generalize hW : World.drew _ = W
      replace HF := hid (by rw [← hW]; exact HF.out.later (Ext.drew _) : FF w W _ _ _ _ _ _)
      clear hW HL HLT
      have hk0 : _ = some (rectObj r) := (HF.out.kept (q, rectObj r) (List.mem_singleton.2 rfl)).1
      have HA0 := hid (cell_blk (j := 0) hk0 rfl)
      have HA1 := hid (cell_blk (j := 1) hk0 rfl)
      have HA2 := hid (cell_blk (j := 2) hk0 rfl)
      have HA3 := hid (cell_blk (j := 3) hk0 rfl)
      clear hk0
      refine reg_quiet 0 rfl (by kernel_rfl) (by kernel_rfl) ?_
      apply Exists.intro
      refine ⟨fun w' hw' => ?_, ?_⟩
      · go_simp
        exact ⟨rfl, Ext.refl _⟩
      refine reg_quiet 1 rfl (by kernel_rfl) (by kernel_rfl) ?_
      apply Exists.intro
      refine ⟨fun w' hw' => ?_, ?_⟩
      · have q0 := hw'.cell HA0.out; have q1 := hw'.cell HA1.out; have q2 := hw'.cell HA2.out; have q3 := hw'.cell HA3.out
        go_simp
        exact ⟨rfl, Ext.refl _⟩
      refine reg_pure 2 rfl (by kernel_rfl) rfl ?_
      apply Exists.intro
      refine ⟨fun w' => ?_, ?_⟩
      · go_simp
        exact rfl
      refine reg_pure 3 rfl (by kernel_rfl) rfl ?_
      apply Exists.intro
      refine ⟨fun w' => ?_, ?_⟩
      · go_simp
        exact rfl
      refine reg_quiet 4 rfl (by kernel_rfl) (by kernel_rfl) ?_
      apply Exists.intro
      refine ⟨fun w' hw' => ?_, ?_⟩
      · go_simp
        exact ⟨rfl, Ext.refl _⟩
      refine reg_one 5 rfl (by kernel_rfl) rfl (fun w' hw' => ?_)
      replace HF := hid (HF.out.later hw')
      clear hw'
      have hk : w'.heap[q]? = _ := (HF.out.kept (q, _) (List.mem_singleton.2 rfl)).1
      have q0 := cell_blk (j := 0) hk rfl
      have q1 := cell_blk (j := 1) hk rfl
      have q2 := cell_blk (j := 2) hk rfl
      have q3 := cell_blk (j := 3) hk rfl
      have z0 : ∀ j, w'.frozen? ⟨q, j, none⟩ = false := fun j => by simp [World.frozen?, hk, rectObj]
      go_simp
      clear q0 q1 q2 q3 z0 hk
      replace HF := hid (HF.out.set4 (List.mem_singleton.2 rfl) (by have := hq.out; omega) : FS w (set4 w' q (.int .i64 r.row) (.int .i64 r.col) (.int .i64 r.rows) (.int .i64 r.cols)) _ _ _ _ _ _ _ _ _ _ _ _)
      unfold set4 at HF
      generalize World.setCell _ _ _ = W5 at *
      refine reg_quiet 6 rfl (by kernel_rfl) (by kernel_rfl) ?_
      apply Exists.intro
      refine ⟨fun w' hw' => ?_, ?_⟩
      · go_simp
        exact ⟨rfl, Ext.refl _⟩
      refine reg_quiet 7 rfl (by kernel_rfl) (by kernel_rfl) ?_
      apply Exists.intro
      refine ⟨fun w' hw' => ?_, ?_⟩
      · go_simp
        exact ⟨rfl, Ext.refl _⟩
      refine reg_done (by kernel_rfl) (fun w6 hw' => ?_) _
      replace HF := hid (HF.out.later hw')
      have hk0 : _ = some (rectObj r) := (HF.out.kept (q, rectObj r) (List.mem_singleton.2 rfl)).1
      have q0 := cell_blk (j := 0) hk0 rfl
      have q1 := cell_blk (j := 1) hk0 rfl
      have q2 := cell_blk (j := 2) hk0 rfl
      have q3 := cell_blk (j := 3) hk0 rfl
      clear hk0
      go_simp
      go_wp2_with fail
      simp [bodyPost, results, Tryd.results30, go_sem, q0, q1, q2, q3]
      obtain ⟨hp1, hp2, hp3, hp4⟩ := HP.out
      exact ⟨va, vb, ⟨by rw [hp2]; rfl, by rw [hp3]; rfl, rfl, rfl⟩, by rw [hp1]; exact HF.out.ra, by rw [hp1, hp4]; exact HF.out.rb, HF.out.ext⟩
    | node b x y a k =>
      have HL : Hid (∀ w', LtAt w' (.node b x y a k) → Calls Tryd.prog 37 #[.pointer (some ⟨b, 0, none⟩)] w' fun e w'' => e = .returned (.bool false) ∧ w'' = w') := hid (fun w' hw => leaf_any (.node b x y a k) w' hw)
      have HP := hid (fun w' (hw : LtAt w' (.node b x y a k)) => parts_any b a k r w' (node_cells hw 3 _ rfl) (node_cells hw 4 _ rfl) hF.out.ok (by have := hF.out.small; simp only [LT.small] at this; omega))
      obtain ⟨bx, hbx⟩ : ∃ q, x.b = q := ⟨_, rfl⟩
      obtain ⟨by_, hby⟩ : ∃ q, y.b = q := ⟨_, rfl⟩
      have HC : Hid (∀ w', LtAt w' (.node b x y a k) → w'.cell? ⟨b, 1, none⟩ = some (ptr bx) ∧ w'.cell? ⟨b, 2, none⟩ = some (ptr by_)) := hid (fun w' hw => ⟨hbx ▸ node_cells hw 1 _ rfl, hby ▸ node_cells hw 2 _ rfl⟩)
      have HH : Hid (∀ w', LtAt w' x → Calls Tryd.prog 32 #[ptr bx, .int .i64 p] w' fun e w'' => e = .returned (.bool (decide (p ∈ x.panes))) ∧ Ext w' w'') := hid (fun w' hw => hbx ▸ has_any x p w' hw hF.out.small.2.1 (by have := hF.out.size; simp only [LT.size] at this; omega))
      have HBX := hid hbx
      have HBY := hid hby
      clear hbx hby
      have HT := hid hF.out.tree
      have HF : Hid (FF w wr va vb (bvals A) (Bs.flatMap Bx.vals) A.length [(q, rectObj r)]) := hid (by have h := hF.out.fs; rw [hq.out] at h; exact h)
      have HG := hid hF.out
      have hlen : A.length ≤ 1000 := by have := hF.out.len; omega
      have HPO := hid (parts_ok (a := a) (k := k) hF.out.ok)
      clear hF
      generalize hab : parts a k r = ab at *
      replace hab := hid hab
      obtain ⟨ra, rb⟩ := ab
      simp only at HP HPO
      unfold ptr Bx.val at *
      unfold LT.b at *
      go_wp2_with fail
      refine (HL.out _ (HT.out.ext HF.out.ext)).mono ?_
      rintro e w3 ⟨rfl, rfl⟩
      have hk0 : _ = some (rectObj r) := (HF.out.kept (q, rectObj r) (List.mem_singleton.2 rfl)).1
      have q0 := cell_blk (j := 0) hk0 rfl
      have q1 := cell_blk (j := 1) hk0 rfl
      have q2 := cell_blk (j := 2) hk0 rfl
      have q3 := cell_blk (j := 3) hk0 rfl
      clear hk0
      go_wp2_with fail
      refine (HP.out _ (HT.out.ext HF.out.ext)).mono ?_
      rintro e w4 ⟨rfl, hE⟩
      replace HF := hid (((HF.out.later hE).new (rectObj ra)).new (rectObj rb))
      have hnn : (w4.alloc (rectObj ra)).heap.size = w4.heap.size + 1 := by simp
      rw [hnn] at HF
      clear q0 q1 q2 q3 hE HL HP hnn
      go_wp2_with fail
      unfold rectObj at HF
      generalize World.alloc _ _ = W4 at *
      generalize w4.heap.size + 1 = n2 at *
      generalize w4.heap.size = n1 at *
      go_cut [10, 11] from 21 to 53 (fun va' vb' wx => Hid (FF w wx va' vb' (bvals A ++ [.pointer (some ⟨b, 0, none⟩)]) (Bs.flatMap Bx.vals ++ r.vals) (A.length + 1) [(n2, rectObj rb), (n1, rectObj ra), (q, rectObj r)]))
      case first =>
        clear HC HH HT HG HPO hab HBX HBY
        refine reg_begin 0 (by kernel_rfl) ?_
        generalize hW : World.drew _ = W
        replace HF := hid (by rw [← hW]; exact HF.out.later (Ext.drew _) : FF w W _ _ _ _ _ _)
        clear hW
        refine reg_pure 0 rfl (by kernel_rfl) rfl ?_
        apply Exists.intro
        refine ⟨fun w' => ?_, ?_⟩
        · go_simp
          exact rfl
        refine reg_pure 1 rfl (by kernel_rfl) rfl ?_
        apply Exists.intro
        refine ⟨fun w' => ?_, ?_⟩
        · go_simp
          exact rfl
        refine reg_pure 4 rfl (by kernel_rfl) rfl ?_
        apply Exists.intro
        refine ⟨fun w' => ?_, ?_⟩
        · go_simp
          exact rfl
        refine reg_two 2 5 rfl rfl (by kernel_rfl) rfl rfl (fun w' hw' => ?_) (fun w' hw' => ?_)
        · skip
          replace HF := hid (HF.out.later hw')
          clear hw'
          go_simp
          replace HF := hid (HF.out.new (.cells #[.pointer (some ⟨b, 0, none⟩)] 50))
          generalize World.alloc _ _ = W2 at *
          generalize w'.heap.size = q2 at *
          refine reg_two 3 5 rfl rfl (by kernel_rfl) rfl rfl (fun w' hw' => ?_) (fun w' hw' => ?_)
          · skip
            replace HF := hid (HF.out.later hw')
            clear hw'
            refine wp_append_lies _ (.tmp 30) (.tmp 32) _ rfl (w.heap.size + 1) 50 jn (.pointer none) 1 8 Tryd.underlying55 HJN.out.1 HJN.out.2.1 HJN.out.2.2.1 HJN.out.2.2.2 rfl (by omega) va A.length _ (by rfl) HF.out.ra ⟨q2, 0, none⟩ 1 1 [.pointer (some ⟨b, 0, none⟩)] (by rfl) (by rfl) (World.news_of_block (HF.out.kept (q2, .cells #[.pointer (some ⟨b, 0, none⟩)] 50) (by simp)).1) (by intro u hu; simp at hu; subst hu; rfl) (by omega) (by unfold maxLen; omega) (by omega) HF.out.high w'.heap.size rfl ?_
            intro g1 cap1 w1 hown1 hgrow1 hat1 hlt1
            clear hlt1
            refine ⟨fun h => absurd h (by decide), ?_⟩
            replace HF := hid (HF.out.appA (n' := A.length + 1) (by decide) hgrow1 hown1 (by
              intro k hk
              simp only [Value.ownBlock, Option.some.injEq] at hk
              subst hk
              exact hat1))
            clear hown1 hgrow1 hat1
            refine reg_one 5 rfl (by kernel_rfl) rfl (fun w' hw' => ?_)
            replace HF := hid (HF.out.later hw')
            clear hw'
            have hk : _ = some (rectObj r) := (HF.out.kept (q, rectObj r) (by simp [rectObj])).1
            have q0 := cell_blk (j := 0) hk rfl
            have q1 := cell_blk (j := 1) hk rfl
            have q2' := cell_blk (j := 2) hk rfl
            have q3 := cell_blk (j := 3) hk rfl
            go_simp
            clear q0 q1 q2' q3 hk
            refine reg_one 6 rfl (by kernel_rfl) rfl (fun w' hw' => ?_)
            replace HF := hid (HF.out.later hw')
            clear hw'
            go_simp
            replace HF := hid (HF.out.new (rectObj r))
            unfold rectObj at HF
            generalize World.alloc _ _ = W6 at *
            generalize w'.heap.size = q6 at *
            refine reg_one 7 rfl (by kernel_rfl) rfl (fun w' hw' => ?_)
            replace HF := hid (HF.out.later hw')
            clear hw'
            refine wp_append_lies _ (.tmp 34) (.tmp 36) _ rfl (w.heap.size + 1) 32 jr (.agg #[.int .i64 0, .int .i64 0, .int .i64 0, .int .i64 0]) 4 32 Tryd.underlying29 HJR.out.1 HJR.out.2.1 HJR.out.2.2.1 HJR.out.2.2.2 rfl (by omega) vb A.length _ (by rfl) HF.out.rb ⟨q6, 0, none⟩ 1 1 r.vals (by rfl) (by rfl) (World.news_of_block (HF.out.kept (q6, .cells #[.int .i64 r.row, .int .i64 r.col, .int .i64 r.rows, .int .i64 r.cols] 32 (0, 0)) (by simp)).1) (by intro u hu; simp [Bx.vals] at hu; rcases hu with rfl | rfl | rfl | rfl <;> rfl) (by omega) (by unfold maxLen; omega) (by omega) HF.out.high w'.heap.size rfl ?_
            intro g2 cap2 w2 hown2 hgrow2 hat2 hlt2
            clear hlt2
            refine ⟨fun h => absurd h (by decide), ?_⟩
            replace HF := hid (HF.out.appB (m' := A.length + 1) (by decide) hgrow2 hown2 (by
              intro k hk
              simp only [Value.ownBlock, Option.some.injEq] at hk
              subst hk
              exact hat2))
            clear hown2 hgrow2 hat2
            refine reg_pure 8 rfl (by kernel_rfl) rfl ?_
            apply Exists.intro
            refine ⟨fun w' => ?_, ?_⟩
            · go_simp
              exact rfl
            refine reg_pure 9 rfl (by kernel_rfl) rfl ?_
            apply Exists.intro
            refine ⟨fun w' => ?_, ?_⟩
            · go_simp
              exact rfl
            refine reg_done (by kernel_rfl) (fun w9 hw' => ?_) _
            replace HF := hid (HF.out.later hw')
            clear hw'
            go_simp
            go_wp2_with fail
            go_meet
            case rel => exact hid (HF.out.less (by intro c hc; simp only [rectObj, List.mem_cons, List.not_mem_nil, or_false] at hc; rcases hc with rfl | rfl | rfl <;> simp))
          · skip
            replace HF := hid (HF.out.later hw')
            clear hw'
            have hk : _ = some (rectObj r) := (HF.out.kept (q, rectObj r) (by simp [rectObj])).1
            have q0 := cell_blk (j := 0) hk rfl
            have q1 := cell_blk (j := 1) hk rfl
            have q2' := cell_blk (j := 2) hk rfl
            have q3 := cell_blk (j := 3) hk rfl
            go_simp
            clear q0 q1 q2' q3 hk
            refine reg_two 3 6 rfl rfl (by kernel_rfl) rfl rfl (fun w' hw' => ?_) (fun w' hw' => ?_)
            · skip
              replace HF := hid (HF.out.later hw')
              clear hw'
              refine wp_append_lies _ (.tmp 30) (.tmp 32) _ rfl (w.heap.size + 1) 50 jn (.pointer none) 1 8 Tryd.underlying55 HJN.out.1 HJN.out.2.1 HJN.out.2.2.1 HJN.out.2.2.2 rfl (by omega) va A.length _ (by rfl) HF.out.ra ⟨q2, 0, none⟩ 1 1 [.pointer (some ⟨b, 0, none⟩)] (by rfl) (by rfl) (World.news_of_block (HF.out.kept (q2, .cells #[.pointer (some ⟨b, 0, none⟩)] 50) (by simp)).1) (by intro u hu; simp at hu; subst hu; rfl) (by omega) (by unfold maxLen; omega) (by omega) HF.out.high w'.heap.size rfl ?_
              intro g1 cap1 w1 hown1 hgrow1 hat1 hlt1
              clear hlt1
              refine ⟨fun h => absurd h (by decide), ?_⟩
              replace HF := hid (HF.out.appA (n' := A.length + 1) (by decide) hgrow1 hown1 (by
                intro k hk
                simp only [Value.ownBlock, Option.some.injEq] at hk
                subst hk
                exact hat1))
              clear hown1 hgrow1 hat1
              refine reg_one 6 rfl (by kernel_rfl) rfl (fun w' hw' => ?_)
              replace HF := hid (HF.out.later hw')
              clear hw'
              go_simp
              replace HF := hid (HF.out.new (rectObj r))
              unfold rectObj at HF
              generalize World.alloc _ _ = W6 at *
              generalize w'.heap.size = q6 at *
              refine reg_one 7 rfl (by kernel_rfl) rfl (fun w' hw' => ?_)
              replace HF := hid (HF.out.later hw')
              clear hw'
              refine wp_append_lies _ (.tmp 34) (.tmp 36) _ rfl (w.heap.size + 1) 32 jr (.agg #[.int .i64 0, .int .i64 0, .int .i64 0, .int .i64 0]) 4 32 Tryd.underlying29 HJR.out.1 HJR.out.2.1 HJR.out.2.2.1 HJR.out.2.2.2 rfl (by omega) vb A.length _ (by rfl) HF.out.rb ⟨q6, 0, none⟩ 1 1 r.vals (by rfl) (by rfl) (World.news_of_block (HF.out.kept (q6, .cells #[.int .i64 r.row, .int .i64 r.col, .int .i64 r.rows, .int .i64 r.cols] 32 (0, 0)) (by simp)).1) (by intro u hu; simp [Bx.vals] at hu; rcases hu with rfl | rfl | rfl | rfl <;> rfl) (by omega) (by unfold maxLen; omega) (by omega) HF.out.high w'.heap.size rfl ?_
              intro g2 cap2 w2 hown2 hgrow2 hat2 hlt2
              clear hlt2
              refine ⟨fun h => absurd h (by decide), ?_⟩
              replace HF := hid (HF.out.appB (m' := A.length + 1) (by decide) hgrow2 hown2 (by
                intro k hk
                simp only [Value.ownBlock, Option.some.injEq] at hk
                subst hk
                exact hat2))
              clear hown2 hgrow2 hat2
              refine reg_pure 8 rfl (by kernel_rfl) rfl ?_
              apply Exists.intro
              refine ⟨fun w' => ?_, ?_⟩
              · go_simp
                exact rfl
              refine reg_pure 9 rfl (by kernel_rfl) rfl ?_
              apply Exists.intro
              refine ⟨fun w' => ?_, ?_⟩
              · go_simp
                exact rfl
              refine reg_done (by kernel_rfl) (fun w9 hw' => ?_) _
              replace HF := hid (HF.out.later hw')
              clear hw'
              go_simp
              go_wp2_with fail
              go_meet
              case rel => exact hid (HF.out.less (by intro c hc; simp only [rectObj, List.mem_cons, List.not_mem_nil, or_false] at hc; rcases hc with rfl | rfl | rfl <;> simp))
            · skip
              replace HF := hid (HF.out.later hw')
              clear hw'
              go_simp
              replace HF := hid (HF.out.new (rectObj r))
              unfold rectObj at HF
              generalize World.alloc _ _ = W6 at *
              generalize w'.heap.size = q6 at *
              refine reg_one 3 rfl (by kernel_rfl) rfl (fun w' hw' => ?_)
              replace HF := hid (HF.out.later hw')
              clear hw'
              refine wp_append_lies _ (.tmp 30) (.tmp 32) _ rfl (w.heap.size + 1) 50 jn (.pointer none) 1 8 Tryd.underlying55 HJN.out.1 HJN.out.2.1 HJN.out.2.2.1 HJN.out.2.2.2 rfl (by omega) va A.length _ (by rfl) HF.out.ra ⟨q2, 0, none⟩ 1 1 [.pointer (some ⟨b, 0, none⟩)] (by rfl) (by rfl) (World.news_of_block (HF.out.kept (q2, .cells #[.pointer (some ⟨b, 0, none⟩)] 50) (by simp)).1) (by intro u hu; simp at hu; subst hu; rfl) (by omega) (by unfold maxLen; omega) (by omega) HF.out.high w'.heap.size rfl ?_
              intro g1 cap1 w1 hown1 hgrow1 hat1 hlt1
              clear hlt1
              refine ⟨fun h => absurd h (by decide), ?_⟩
              replace HF := hid (HF.out.appA (n' := A.length + 1) (by decide) hgrow1 hown1 (by
                intro k hk
                simp only [Value.ownBlock, Option.some.injEq] at hk
                subst hk
                exact hat1))
              clear hown1 hgrow1 hat1
              refine reg_one 7 rfl (by kernel_rfl) rfl (fun w' hw' => ?_)
              replace HF := hid (HF.out.later hw')
              clear hw'
              refine wp_append_lies _ (.tmp 34) (.tmp 36) _ rfl (w.heap.size + 1) 32 jr (.agg #[.int .i64 0, .int .i64 0, .int .i64 0, .int .i64 0]) 4 32 Tryd.underlying29 HJR.out.1 HJR.out.2.1 HJR.out.2.2.1 HJR.out.2.2.2 rfl (by omega) vb A.length _ (by rfl) HF.out.rb ⟨q6, 0, none⟩ 1 1 r.vals (by rfl) (by rfl) (World.news_of_block (HF.out.kept (q6, .cells #[.int .i64 r.row, .int .i64 r.col, .int .i64 r.rows, .int .i64 r.cols] 32 (0, 0)) (by simp)).1) (by intro u hu; simp [Bx.vals] at hu; rcases hu with rfl | rfl | rfl | rfl <;> rfl) (by omega) (by unfold maxLen; omega) (by omega) HF.out.high w'.heap.size rfl ?_
              intro g2 cap2 w2 hown2 hgrow2 hat2 hlt2
              clear hlt2
              refine ⟨fun h => absurd h (by decide), ?_⟩
              replace HF := hid (HF.out.appB (m' := A.length + 1) (by decide) hgrow2 hown2 (by
                intro k hk
                simp only [Value.ownBlock, Option.some.injEq] at hk
                subst hk
                exact hat2))
              clear hown2 hgrow2 hat2
              refine reg_pure 8 rfl (by kernel_rfl) rfl ?_
              apply Exists.intro
              refine ⟨fun w' => ?_, ?_⟩
              · go_simp
                exact rfl
              refine reg_pure 9 rfl (by kernel_rfl) rfl ?_
              apply Exists.intro
              refine ⟨fun w' => ?_, ?_⟩
              · go_simp
                exact rfl
              refine reg_done (by kernel_rfl) (fun w9 hw' => ?_) _
              replace HF := hid (HF.out.later hw')
              clear hw'
              go_simp
              go_wp2_with fail
              go_meet
              case rel => exact hid (HF.out.less (by intro c hc; simp only [rectObj, List.mem_cons, List.not_mem_nil, or_false] at hc; rcases hc with rfl | rfl | rfl <;> simp))
        · skip
          replace HF := hid (HF.out.later hw')
          clear hw'
          have hk : _ = some (rectObj r) := (HF.out.kept (q, rectObj r) (by simp [rectObj])).1
          have q0 := cell_blk (j := 0) hk rfl
          have q1 := cell_blk (j := 1) hk rfl
          have q2' := cell_blk (j := 2) hk rfl
          have q3 := cell_blk (j := 3) hk rfl
          go_simp
          clear q0 q1 q2' q3 hk
          refine reg_two 2 6 rfl rfl (by kernel_rfl) rfl rfl (fun w' hw' => ?_) (fun w' hw' => ?_)
          · skip
            replace HF := hid (HF.out.later hw')
            clear hw'
            go_simp
            replace HF := hid (HF.out.new (.cells #[.pointer (some ⟨b, 0, none⟩)] 50))
            generalize World.alloc _ _ = W2 at *
            generalize w'.heap.size = q2 at *
            refine reg_two 3 6 rfl rfl (by kernel_rfl) rfl rfl (fun w' hw' => ?_) (fun w' hw' => ?_)
            · skip
              replace HF := hid (HF.out.later hw')
              clear hw'
              refine wp_append_lies _ (.tmp 30) (.tmp 32) _ rfl (w.heap.size + 1) 50 jn (.pointer none) 1 8 Tryd.underlying55 HJN.out.1 HJN.out.2.1 HJN.out.2.2.1 HJN.out.2.2.2 rfl (by omega) va A.length _ (by rfl) HF.out.ra ⟨q2, 0, none⟩ 1 1 [.pointer (some ⟨b, 0, none⟩)] (by rfl) (by rfl) (World.news_of_block (HF.out.kept (q2, .cells #[.pointer (some ⟨b, 0, none⟩)] 50) (by simp)).1) (by intro u hu; simp at hu; subst hu; rfl) (by omega) (by unfold maxLen; omega) (by omega) HF.out.high w'.heap.size rfl ?_
              intro g1 cap1 w1 hown1 hgrow1 hat1 hlt1
              clear hlt1
              refine ⟨fun h => absurd h (by decide), ?_⟩
              replace HF := hid (HF.out.appA (n' := A.length + 1) (by decide) hgrow1 hown1 (by
                intro k hk
                simp only [Value.ownBlock, Option.some.injEq] at hk
                subst hk
                exact hat1))
              clear hown1 hgrow1 hat1
              refine reg_one 6 rfl (by kernel_rfl) rfl (fun w' hw' => ?_)
              replace HF := hid (HF.out.later hw')
              clear hw'
              go_simp
              replace HF := hid (HF.out.new (rectObj r))
              unfold rectObj at HF
              generalize World.alloc _ _ = W6 at *
              generalize w'.heap.size = q6 at *
              refine reg_one 7 rfl (by kernel_rfl) rfl (fun w' hw' => ?_)
              replace HF := hid (HF.out.later hw')
              clear hw'
              refine wp_append_lies _ (.tmp 34) (.tmp 36) _ rfl (w.heap.size + 1) 32 jr (.agg #[.int .i64 0, .int .i64 0, .int .i64 0, .int .i64 0]) 4 32 Tryd.underlying29 HJR.out.1 HJR.out.2.1 HJR.out.2.2.1 HJR.out.2.2.2 rfl (by omega) vb A.length _ (by rfl) HF.out.rb ⟨q6, 0, none⟩ 1 1 r.vals (by rfl) (by rfl) (World.news_of_block (HF.out.kept (q6, .cells #[.int .i64 r.row, .int .i64 r.col, .int .i64 r.rows, .int .i64 r.cols] 32 (0, 0)) (by simp)).1) (by intro u hu; simp [Bx.vals] at hu; rcases hu with rfl | rfl | rfl | rfl <;> rfl) (by omega) (by unfold maxLen; omega) (by omega) HF.out.high w'.heap.size rfl ?_
              intro g2 cap2 w2 hown2 hgrow2 hat2 hlt2
              clear hlt2
              refine ⟨fun h => absurd h (by decide), ?_⟩
              replace HF := hid (HF.out.appB (m' := A.length + 1) (by decide) hgrow2 hown2 (by
                intro k hk
                simp only [Value.ownBlock, Option.some.injEq] at hk
                subst hk
                exact hat2))
              clear hown2 hgrow2 hat2
              refine reg_pure 8 rfl (by kernel_rfl) rfl ?_
              apply Exists.intro
              refine ⟨fun w' => ?_, ?_⟩
              · go_simp
                exact rfl
              refine reg_pure 9 rfl (by kernel_rfl) rfl ?_
              apply Exists.intro
              refine ⟨fun w' => ?_, ?_⟩
              · go_simp
                exact rfl
              refine reg_done (by kernel_rfl) (fun w9 hw' => ?_) _
              replace HF := hid (HF.out.later hw')
              clear hw'
              go_simp
              go_wp2_with fail
              go_meet
              case rel => exact hid (HF.out.less (by intro c hc; simp only [rectObj, List.mem_cons, List.not_mem_nil, or_false] at hc; rcases hc with rfl | rfl | rfl <;> simp))
            · skip
              replace HF := hid (HF.out.later hw')
              clear hw'
              go_simp
              replace HF := hid (HF.out.new (rectObj r))
              unfold rectObj at HF
              generalize World.alloc _ _ = W6 at *
              generalize w'.heap.size = q6 at *
              refine reg_one 3 rfl (by kernel_rfl) rfl (fun w' hw' => ?_)
              replace HF := hid (HF.out.later hw')
              clear hw'
              refine wp_append_lies _ (.tmp 30) (.tmp 32) _ rfl (w.heap.size + 1) 50 jn (.pointer none) 1 8 Tryd.underlying55 HJN.out.1 HJN.out.2.1 HJN.out.2.2.1 HJN.out.2.2.2 rfl (by omega) va A.length _ (by rfl) HF.out.ra ⟨q2, 0, none⟩ 1 1 [.pointer (some ⟨b, 0, none⟩)] (by rfl) (by rfl) (World.news_of_block (HF.out.kept (q2, .cells #[.pointer (some ⟨b, 0, none⟩)] 50) (by simp)).1) (by intro u hu; simp at hu; subst hu; rfl) (by omega) (by unfold maxLen; omega) (by omega) HF.out.high w'.heap.size rfl ?_
              intro g1 cap1 w1 hown1 hgrow1 hat1 hlt1
              clear hlt1
              refine ⟨fun h => absurd h (by decide), ?_⟩
              replace HF := hid (HF.out.appA (n' := A.length + 1) (by decide) hgrow1 hown1 (by
                intro k hk
                simp only [Value.ownBlock, Option.some.injEq] at hk
                subst hk
                exact hat1))
              clear hown1 hgrow1 hat1
              refine reg_one 7 rfl (by kernel_rfl) rfl (fun w' hw' => ?_)
              replace HF := hid (HF.out.later hw')
              clear hw'
              refine wp_append_lies _ (.tmp 34) (.tmp 36) _ rfl (w.heap.size + 1) 32 jr (.agg #[.int .i64 0, .int .i64 0, .int .i64 0, .int .i64 0]) 4 32 Tryd.underlying29 HJR.out.1 HJR.out.2.1 HJR.out.2.2.1 HJR.out.2.2.2 rfl (by omega) vb A.length _ (by rfl) HF.out.rb ⟨q6, 0, none⟩ 1 1 r.vals (by rfl) (by rfl) (World.news_of_block (HF.out.kept (q6, .cells #[.int .i64 r.row, .int .i64 r.col, .int .i64 r.rows, .int .i64 r.cols] 32 (0, 0)) (by simp)).1) (by intro u hu; simp [Bx.vals] at hu; rcases hu with rfl | rfl | rfl | rfl <;> rfl) (by omega) (by unfold maxLen; omega) (by omega) HF.out.high w'.heap.size rfl ?_
              intro g2 cap2 w2 hown2 hgrow2 hat2 hlt2
              clear hlt2
              refine ⟨fun h => absurd h (by decide), ?_⟩
              replace HF := hid (HF.out.appB (m' := A.length + 1) (by decide) hgrow2 hown2 (by
                intro k hk
                simp only [Value.ownBlock, Option.some.injEq] at hk
                subst hk
                exact hat2))
              clear hown2 hgrow2 hat2
              refine reg_pure 8 rfl (by kernel_rfl) rfl ?_
              apply Exists.intro
              refine ⟨fun w' => ?_, ?_⟩
              · go_simp
                exact rfl
              refine reg_pure 9 rfl (by kernel_rfl) rfl ?_
              apply Exists.intro
              refine ⟨fun w' => ?_, ?_⟩
              · go_simp
                exact rfl
              refine reg_done (by kernel_rfl) (fun w9 hw' => ?_) _
              replace HF := hid (HF.out.later hw')
              clear hw'
              go_simp
              go_wp2_with fail
              go_meet
              case rel => exact hid (HF.out.less (by intro c hc; simp only [rectObj, List.mem_cons, List.not_mem_nil, or_false] at hc; rcases hc with rfl | rfl | rfl <;> simp))
          · skip
            replace HF := hid (HF.out.later hw')
            clear hw'
            go_simp
            replace HF := hid (HF.out.new (rectObj r))
            unfold rectObj at HF
            generalize World.alloc _ _ = W6 at *
            generalize w'.heap.size = q6 at *
            refine reg_one 2 rfl (by kernel_rfl) rfl (fun w' hw' => ?_)
            replace HF := hid (HF.out.later hw')
            clear hw'
            go_simp
            replace HF := hid (HF.out.new (.cells #[.pointer (some ⟨b, 0, none⟩)] 50))
            generalize World.alloc _ _ = W2 at *
            generalize w'.heap.size = q2 at *
            refine reg_one 3 rfl (by kernel_rfl) rfl (fun w' hw' => ?_)
            replace HF := hid (HF.out.later hw')
            clear hw'
            refine wp_append_lies _ (.tmp 30) (.tmp 32) _ rfl (w.heap.size + 1) 50 jn (.pointer none) 1 8 Tryd.underlying55 HJN.out.1 HJN.out.2.1 HJN.out.2.2.1 HJN.out.2.2.2 rfl (by omega) va A.length _ (by rfl) HF.out.ra ⟨q2, 0, none⟩ 1 1 [.pointer (some ⟨b, 0, none⟩)] (by rfl) (by rfl) (World.news_of_block (HF.out.kept (q2, .cells #[.pointer (some ⟨b, 0, none⟩)] 50) (by simp)).1) (by intro u hu; simp at hu; subst hu; rfl) (by omega) (by unfold maxLen; omega) (by omega) HF.out.high w'.heap.size rfl ?_
            intro g1 cap1 w1 hown1 hgrow1 hat1 hlt1
            clear hlt1
            refine ⟨fun h => absurd h (by decide), ?_⟩
            replace HF := hid (HF.out.appA (n' := A.length + 1) (by decide) hgrow1 hown1 (by
              intro k hk
              simp only [Value.ownBlock, Option.some.injEq] at hk
              subst hk
              exact hat1))
            clear hown1 hgrow1 hat1
            refine reg_one 7 rfl (by kernel_rfl) rfl (fun w' hw' => ?_)
            replace HF := hid (HF.out.later hw')
            clear hw'
            refine wp_append_lies _ (.tmp 34) (.tmp 36) _ rfl (w.heap.size + 1) 32 jr (.agg #[.int .i64 0, .int .i64 0, .int .i64 0, .int .i64 0]) 4 32 Tryd.underlying29 HJR.out.1 HJR.out.2.1 HJR.out.2.2.1 HJR.out.2.2.2 rfl (by omega) vb A.length _ (by rfl) HF.out.rb ⟨q6, 0, none⟩ 1 1 r.vals (by rfl) (by rfl) (World.news_of_block (HF.out.kept (q6, .cells #[.int .i64 r.row, .int .i64 r.col, .int .i64 r.rows, .int .i64 r.cols] 32 (0, 0)) (by simp)).1) (by intro u hu; simp [Bx.vals] at hu; rcases hu with rfl | rfl | rfl | rfl <;> rfl) (by omega) (by unfold maxLen; omega) (by omega) HF.out.high w'.heap.size rfl ?_
            intro g2 cap2 w2 hown2 hgrow2 hat2 hlt2
            clear hlt2
            refine ⟨fun h => absurd h (by decide), ?_⟩
            replace HF := hid (HF.out.appB (m' := A.length + 1) (by decide) hgrow2 hown2 (by
              intro k hk
              simp only [Value.ownBlock, Option.some.injEq] at hk
              subst hk
              exact hat2))
            clear hown2 hgrow2 hat2
            refine reg_pure 8 rfl (by kernel_rfl) rfl ?_
            apply Exists.intro
            refine ⟨fun w' => ?_, ?_⟩
            · go_simp
              exact rfl
            refine reg_pure 9 rfl (by kernel_rfl) rfl ?_
            apply Exists.intro
            refine ⟨fun w' => ?_, ?_⟩
            · go_simp
              exact rfl
            refine reg_done (by kernel_rfl) (fun w9 hw' => ?_) _
            replace HF := hid (HF.out.later hw')
            clear hw'
            go_simp
            go_wp2_with fail
            go_meet
            case rel => exact hid (HF.out.less (by intro c hc; simp only [rectObj, List.mem_cons, List.not_mem_nil, or_false] at hc; rcases hc with rfl | rfl | rfl <;> simp))
      case rest =>
        replace HF := hcut
        clear hcut
        have HXT := hid (HT.out.ext HF.out.ext).2.1
        have qn := (HC.out _ (HT.out.ext HF.out.ext)).1
        go_wp2_with fail
        clear qn
        refine (HH.out _ HXT.out).mono ?_
        rintro e w5 ⟨rfl, hE⟩
        replace HF := hid (HF.out.later hE)
        clear hE HXT HH
        by_cases hp : p ∈ x.panes
        · have hpd : decide (p ∈ x.panes) = true := decide_eq_true hp
          rw [hpd]
          have HPX := hid hp
          clear hp hpd
          go_wp2_with fail
          refine reg_begin 6 (by kernel_rfl) ?_
          generalize hW : World.drew _ = W
          replace HF := hid (by rw [← hW]; exact HF.out.later (Ext.drew _) : FF w W _ _ _ _ _ _)
          clear hW
          have HTR := hid (HT.out.ext HF.out.ext)
          have HN := hid (HC.out _ HTR.out).1
          have hk0 : _ = some (rectObj ra) := (HF.out.kept (n1, rectObj ra) (by simp)).1
          have HA0 := hid (cell_blk (j := 0) hk0 rfl)
          have HA1 := hid (cell_blk (j := 1) hk0 rfl)
          have HA2 := hid (cell_blk (j := 2) hk0 rfl)
          have HA3 := hid (cell_blk (j := 3) hk0 rfl)
          clear hk0
          refine reg_quiet 0 rfl (by kernel_rfl) (by kernel_rfl) ?_
          apply Exists.intro
          refine ⟨fun w' hw' => ?_, ?_⟩
          · go_simp
            exact ⟨rfl, Ext.refl _⟩
          refine reg_quiet 1 rfl (by kernel_rfl) (by kernel_rfl) ?_
          apply Exists.intro
          refine ⟨fun w' hw' => ?_, ?_⟩
          · go_simp
            exact ⟨rfl, Ext.refl _⟩
          refine reg_quiet 2 rfl (by kernel_rfl) (by kernel_rfl) ?_
          apply Exists.intro
          refine ⟨fun w' hw' => ?_, ?_⟩
          · go_simp
            exact ⟨rfl, Ext.refl _⟩
          refine reg_quiet 3 rfl (by kernel_rfl) (by kernel_rfl) ?_
          apply Exists.intro
          refine ⟨fun w' hw' => ?_, ?_⟩
          · have q0 := hw'.cell HN.out
            go_simp
            exact ⟨rfl, Ext.refl _⟩
          refine reg_quiet 4 rfl (by kernel_rfl) (by kernel_rfl) ?_
          apply Exists.intro
          refine ⟨fun w' hw' => ?_, ?_⟩
          · have q0 := hw'.cell HA0.out; have q1 := hw'.cell HA1.out; have q2 := hw'.cell HA2.out; have q3 := hw'.cell HA3.out
            go_simp
            exact ⟨rfl, Ext.refl _⟩
          refine reg_quiet 5 rfl (by kernel_rfl) (by kernel_rfl) ?_
          apply Exists.intro
          refine ⟨fun w' hw' => ?_, ?_⟩
          · go_simp
            exact ⟨rfl, Ext.refl _⟩
          clear HA0 HA1 HA2 HA3 HN
          refine reg_one 6 rfl (by kernel_rfl) rfl (fun w' hw' => ?_)
          replace HF := hid (HF.out.later hw')
          clear hw'
          have hk : w'.heap[q]? = _ := (HF.out.kept (q, _) (List.mem_cons_of_mem _ (List.mem_cons_of_mem _ (List.mem_singleton.2 rfl)))).1
          have q0 := cell_blk (j := 0) hk rfl
          have q1 := cell_blk (j := 1) hk rfl
          have q2 := cell_blk (j := 2) hk rfl
          have q3 := cell_blk (j := 3) hk rfl
          have z0 : ∀ j, w'.frozen? ⟨q, j, none⟩ = false := fun j => by simp [World.frozen?, hk, rectObj]
          go_simp
          clear q0 q1 q2 q3 z0 hk
          replace HF := hid (HF.out.set4 (List.mem_cons_of_mem _ (List.mem_cons_of_mem _ (List.mem_singleton.2 rfl))) (by have := hq.out; omega) : FS w (set4 w' q (.int .i64 ra.row) (.int .i64 ra.col) (.int .i64 ra.rows) (.int .i64 ra.cols)) _ _ _ _ _ _ _ _ _ _ _ _)
          unfold set4 at HF
          generalize World.setCell _ _ _ = W5 at *
          refine reg_done (by kernel_rfl) (fun w6 hw' => ?_) _
          replace HF := hid (HF.out.later hw')
          clear hw' HTR
          go_simp
          go_wp2_with fail
          have hst := FindAt.stepL (va' := u10) (vb' := u11) (w6 := w6) HG.out HPX.out hab.out (by rw [hq.out]; exact HF.out)
          exact ⟨⟨x, ra, _, _, congrArg ptr HBX.out.symm, hid hst.1⟩, hst.2⟩
        · have hpd : decide (p ∈ x.panes) = false := decide_eq_false hp
          rw [hpd]
          have HPX := hid hp
          clear hp hpd
          go_wp2_with fail
          refine reg_begin 6 (by kernel_rfl) ?_
          generalize hW : World.drew _ = W
          replace HF := hid (by rw [← hW]; exact HF.out.later (Ext.drew _) : FF w W _ _ _ _ _ _)
          clear hW
          have HTR := hid (HT.out.ext HF.out.ext)
          have HN := hid (HC.out _ HTR.out).2
          have hk0 : _ = some (rectObj rb) := (HF.out.kept (n2, rectObj rb) (by simp)).1
          have HA0 := hid (cell_blk (j := 0) hk0 rfl)
          have HA1 := hid (cell_blk (j := 1) hk0 rfl)
          have HA2 := hid (cell_blk (j := 2) hk0 rfl)
          have HA3 := hid (cell_blk (j := 3) hk0 rfl)
          clear hk0
          refine reg_quiet 0 rfl (by kernel_rfl) (by kernel_rfl) ?_
          apply Exists.intro
          refine ⟨fun w' hw' => ?_, ?_⟩
          · go_simp
            exact ⟨rfl, Ext.refl _⟩
          refine reg_quiet 1 rfl (by kernel_rfl) (by kernel_rfl) ?_
          apply Exists.intro
          refine ⟨fun w' hw' => ?_, ?_⟩
          · go_simp
            exact ⟨rfl, Ext.refl _⟩
          refine reg_quiet 2 rfl (by kernel_rfl) (by kernel_rfl) ?_
          apply Exists.intro
          refine ⟨fun w' hw' => ?_, ?_⟩
          · go_simp
            exact ⟨rfl, Ext.refl _⟩
          refine reg_quiet 3 rfl (by kernel_rfl) (by kernel_rfl) ?_
          apply Exists.intro
          refine ⟨fun w' hw' => ?_, ?_⟩
          · have q0 := hw'.cell HN.out
            go_simp
            exact ⟨rfl, Ext.refl _⟩
          refine reg_quiet 4 rfl (by kernel_rfl) (by kernel_rfl) ?_
          apply Exists.intro
          refine ⟨fun w' hw' => ?_, ?_⟩
          · have q0 := hw'.cell HA0.out; have q1 := hw'.cell HA1.out; have q2 := hw'.cell HA2.out; have q3 := hw'.cell HA3.out
            go_simp
            exact ⟨rfl, Ext.refl _⟩
          refine reg_quiet 5 rfl (by kernel_rfl) (by kernel_rfl) ?_
          apply Exists.intro
          refine ⟨fun w' hw' => ?_, ?_⟩
          · go_simp
            exact ⟨rfl, Ext.refl _⟩
          clear HA0 HA1 HA2 HA3 HN
          refine reg_one 6 rfl (by kernel_rfl) rfl (fun w' hw' => ?_)
          replace HF := hid (HF.out.later hw')
          clear hw'
          have hk : w'.heap[q]? = _ := (HF.out.kept (q, _) (List.mem_cons_of_mem _ (List.mem_cons_of_mem _ (List.mem_singleton.2 rfl)))).1
          have q0 := cell_blk (j := 0) hk rfl
          have q1 := cell_blk (j := 1) hk rfl
          have q2 := cell_blk (j := 2) hk rfl
          have q3 := cell_blk (j := 3) hk rfl
          have z0 : ∀ j, w'.frozen? ⟨q, j, none⟩ = false := fun j => by simp [World.frozen?, hk, rectObj]
          go_simp
          clear q0 q1 q2 q3 z0 hk
          replace HF := hid (HF.out.set4 (List.mem_cons_of_mem _ (List.mem_cons_of_mem _ (List.mem_singleton.2 rfl))) (by have := hq.out; omega) : FS w (set4 w' q (.int .i64 rb.row) (.int .i64 rb.col) (.int .i64 rb.rows) (.int .i64 rb.cols)) _ _ _ _ _ _ _ _ _ _ _ _)
          unfold set4 at HF
          generalize World.setCell _ _ _ = W5 at *
          refine reg_done (by kernel_rfl) (fun w6 hw' => ?_) _
          replace HF := hid (HF.out.later hw')
          clear hw' HTR
          go_simp
          go_wp2_with fail
          have hst := FindAt.stepR (va' := u10) (vb' := u11) (w6 := w6) HG.out HPX.out hab.out (by rw [hq.out]; exact HF.out)
          exact ⟨⟨y, rb, _, _, congrArg ptr HBY.out.symm, hid hst.1⟩, hst.2⟩

end Go.Proofs.YtflbfmfaccaffaaDoor
