/-
  The walk of LayoutPanes.
-/
import Derived.Test.YtflbfmfaccaffaaDoorL17
namespace Go.Proofs.YtflbfmfaccaffaaDoor
open Go Go.RowKit
attribute [local go_sem] extUpon
attribute [local go_sem ↓] eval_put_ne eval_put_none eval_put_same size_put eval_const

theorem pick_at {a : Int} {n : Int} {i : Nat} (hi : a % n = i) (hn : 0 < n) (hn1 : n ≤ 1000) (w : World) : Calls Tryd.prog 9 #[.int .i64 a, .int .i64 n] w fun e w' => e = .returned (.int .i64 (i : Int)) ∧ w' = w :=
  (pick_any a n w (by omega) (by omega)).mono fun _ _ ⟨h1, h2⟩ => ⟨hi ▸ h1, h2.symm⟩
theorem split_code {t : LT} {p more : Int} {a : Bool} {R : Bx} (b1 b2 : Nat) (hp : p ∈ t.panes) (hm : more ∉ t.panes) :
    (12 ≤ t.panes.length ∧ t.split p more a R b1 b2 = (2, t)) ∨ (t.panes.length < 12 ∧ t.split p more a R b1 b2 = (17, t)) ∨
    (t.panes.length < 12 ∧ ∃ t2, t.split p more a R b1 b2 = (0, t2) ∧ ∃ l r, t.panes = l ++ p :: r ∧ t2.panes = l ++ p :: more :: r) := by
  rcases split_panes t p more a R b1 b2 with ⟨h1, h2⟩ | ⟨_, h1, h2, h3⟩
  · by_cases hf : 12 ≤ t.panes.length
    · exact .inl ⟨hf, by simp [LT.split, hp, hm, hf]⟩
    · by_cases hd : wide a (t.tipBox p R) < 3
      · exact .inr (.inl ⟨by omega, by simp [LT.split, hp, hm, hf, hd]⟩)
      · exact absurd (by simp [LT.split, hp, hm, hf, hd]) h2
  · exact .inr (.inr ⟨h1, _, Prod.ext h2 rfl, h3⟩)
theorem perm_kill {th l r : List Int} {p : Int} {i : Nat} (hi : i < th.length) (hp : th[i] = p) (h : th.Perm (l ++ p :: r)) : (th.take i ++ th.drop (i + 1)).Perm (l ++ r) := by
  have h1 : th = th.take i ++ p :: th.drop (i + 1) := by rw [← hp, ← List.drop_eq_getElem_cons hi, List.take_append_drop]
  rw [h1] at h
  exact ((List.perm_middle.symm.trans h).trans List.perm_middle).cons_inv
theorem perm_split {th l r : List Int} {p q : Int} (h : th.Perm (l ++ p :: r)) : (th ++ [q]).Perm (l ++ p :: q :: r) := by
  refine (List.perm_append_comm.trans ?_)
  have h1 : (l ++ p :: q :: r).Perm (q :: (l ++ p :: r)) := by
    have h2 : l ++ p :: q :: r = (l ++ [p]) ++ q :: r := by simp
    rw [h2]
    exact List.perm_middle.trans (by simp)
  exact (h.cons q).trans h1.symm
theorem Fine.kill {t t2 : LT} {k : Int} {l r : List Int} {p : Int} (h : Fine t k) (h1 : t.panes = l ++ p :: r) (h2 : t2.panes = l ++ r) : Fine t2 k := by
  have hn := h.nodup
  rw [h1] at hn
  refine ⟨?_, fun q hq => h.range q ?_⟩
  · rw [h2]
    simp only [List.nodup_append, List.nodup_cons, List.mem_cons] at hn ⊢
    exact ⟨hn.1, hn.2.1.2, fun x hx y hy => hn.2.2 x hx y (.inr hy)⟩
  · rw [h2] at hq; rw [h1]
    rcases List.mem_append.1 hq with h | h <;> simp [h]
def cnt (x : Int) : List Int → Nat
  | [] => 0
  | a :: l => (if a = x then 1 else 0) + cnt x l
theorem cnt_append (x : Int) (l r : List Int) : cnt x (l ++ r) = cnt x l + cnt x r := by
  induction l with
  | nil => simp [cnt]
  | cons a l ih => simp [cnt, ih]; omega
theorem cnt_none {x : Int} : ∀ {l : List Int}, x ∉ l → cnt x l = 0
  | [], _ => rfl
  | a :: l, h => by
    simp only [List.mem_cons, not_or] at h
    simp [cnt, cnt_none h.2, Ne.symm h.1]
theorem cnt_one {x : Int} : ∀ {l : List Int}, l.Nodup → x ∈ l → cnt x l = 1
  | a :: l, hn, h => by
    simp only [List.nodup_cons] at hn
    by_cases e : a = x
    · subst e; simp [cnt, cnt_none hn.1]
    · have : x ∈ l := by simpa [Ne.symm e] using h
      simp [cnt, e, cnt_one hn.2 this]



set_option maxHeartbeats 8000000 in
set_option maxRecDepth 100000 in
theorem LayoutPanes_walk (av : Option Addr) (cap : Nat) (l : List Stp) (a b : Int) (w : World) (hT : TabW w) (hl : l.length ≤ 9223372036854775807) (hr : StpAt w av l) :
    Calls Tryd.prog 5 #[.slice av l.length cap, .int .i64 a, .int .i64 b] w fun e w' => e = .returned (.bool true) ∧ Ext w w' := by
  have HT := hid hT
  have HR := hid hr
  clear hT hr
  go_enter Tryd.func5, Tryd.ntmps5
  go_wp2_with fail
  refine (St.new w 0 (by decide) (Ext.refl w)).mono ?_
  rintro e w1 ⟨tb, rfl, hS, _⟩
  go_wp2_with fail
  refine (known22 w1 (HT.out.later hS.ext)).mono ?_
  rintro e w2 ⟨rfl, hE⟩
  replace hS := hS.later hE
  clear hE
  go_wp2_with fail
  have HP0 : Hid (PS w (w2.alloc (.cells #[.int .i64 0] 3)) (tb + 1) (.leaf tb 0) (.slice (some ⟨w2.heap.size, 0, none⟩) 1 1) [0]) := hid
    ⟨hS.later (Ext.alloc _ _), World.ownsRow_lit w2 #[.int .i64 0] 1 hS.ext.size (by decide) rfl, fun k hk => by
      simp only [Value.ownBlock, Option.some.injEq] at hk
      subst hk
      exact ⟨fun h' => by have := hS.tr.at_.at_.lt _ h'; omega, fun e => by have := hS.tr.at_.here; omega⟩⟩
  clear hS
  generalize World.alloc w2 _ = w3 at *
  go_loopw [8, 9, 10] (fun v nx i wr => ∃ (k : Nat) (t : LT) (th : List Int) (n : Int), nx = .int .i64 n ∧ i = .int .i64 k ∧ k ≤ l.length ∧ k ≤ 25 ∧ 1 ≤ n ∧ n ≤ k + 1 ∧ Hid (PS w wr (tb + 1) t v th) ∧ Hid (th.Perm t.panes) ∧ Hid (Fine t (n - 1))) (fun _ _ i _ => 25 - (intOf i).toNat)
  case atStart => exact ⟨0, .leaf tb 0, [0], 1, rfl, rfl, by omega, by omega, by omega, by omega, HP0, hid (List.Perm.refl _), hid ⟨by simp [LT.panes], by simp [LT.panes]⟩⟩
  case round =>
    clear HP0
    obtain ⟨k, t, th, n, rfl, rfl, hk1, hk2, hn1, hn2, hP, hM, hF⟩ := hrel
    have hlen := hid hM.out.length_eq
    have hmany : th.length ≤ 12 := by have := hP.out.st.tr.many; have := hlen.out; omega
    have hpos : 0 < th.length := by have := panes_pos t; have := hlen.out; omega
    obtain ⟨g, cap2, rfl, hg, hc⟩ := panes_row hP.out.own hpos
    have HC := hid hc
    have HG := hid hg
    clear hc hg
    by_cases hlt : k < l.length ∧ k < 25
    · obtain ⟨hlt1, hlt2⟩ := hlt
      obtain ⟨sb, so, rfl, c0, c1, c2, c3, c4, c5, c6⟩ := HR.out k hlt1
      replace c0 := hP.out.st.ext.cell c0
      replace c1 := hP.out.st.ext.cell c1
      have HC3 := hid (hP.out.st.ext.cell c3)
      clear c2 c3 c4 c5 c6
      generalize l[k].a = sa at *
      generalize l[k].across = sx at *
      generalize l[k].what = sw' at *
      obtain ⟨i, hi, hi'⟩ := idx_of sa th.length hpos
      have HI := hid hi
      obtain ⟨z, hz, hz'⟩ := idx_of sw' 4 (by decide)
      have HZ : Hid (sw' % 4 = z) := hid hz
      clear hi hz
      have HPC := hid (HC.out i hi')
      have HPM := hid (hM.out.mem_iff.1 (List.getElem_mem hi'))
      have HTI : Hid (th[i] = th[i]) := hid rfl
      generalize hpi : th[i] = p at HPC HPM HTI
      have HPI := hid hpi
      clear hpi HTI
      have hlt3 : (k : Int) < (l.length : Int) := by omega
      have hi2 : (i : Int) < (th.length : Int) := by omega
      go_wp2_with fail
      refine (pick_at HI.out (by omega) (by omega) _).mono ?_
      rintro e w5 ⟨rfl, rfl⟩
      go_wp2_with fail
      refine (pick_at HZ.out (by decide) (by decide) _).mono ?_
      rintro e w5 ⟨rfl, rfl⟩
      by_cases hkill : z = 3 ∧ 1 < th.length
      · obtain ⟨rfl, hl1⟩ := hkill
        have hl2 : (1 : Int) < (th.length : Int) := by omega
        have q0 := HPC.out
        go_wp2_with fail
        refine (hP.out.st.kill p).mono ?_
        rintro e w6 ⟨rfl, hS6, hW6⟩
        obtain ⟨hk0, l1, r1, hp1, hp2⟩ := kill_panes HPM.out (by have := hlen.out; omega)
        rw [hk0]
        have HP6 := hid (hP.out.wr hW6 hS6)
        generalize (t.kill p).2 = t2 at *
        have HM2 : Hid ((th.take i ++ th.drop (i + 1)).Perm t2.panes) := hid (by rw [hp2]; exact perm_kill hi' HPI.out (hp1 ▸ hM.out))
        have HF2 := hid (hF.out.kill hp1 hp2)
        have HC6 : Hid (∀ j (hj : j < th.length), w6.cell? ⟨g, j, none⟩ = some (.int .i64 th[j])) := hid (fun j hj => (World.cell?_of_block (a := ⟨g, j, none⟩) (hW6.block g HG.out.2 (hP.out.apart g rfl).1)).trans (HC.out j hj))
        have HG6 := hid (Nat.lt_of_lt_of_le HG.out.2 hW6.size)
        clear hS6 hW6 hk0 hp1 hp2 q0 hP hM hF HC HG HPC HPM HPI HC3
        have hcap : th.length ≤ cap2 := by
          have h5 := HP6.out.own.2
          rcases h5 with ⟨h5, _⟩ | ⟨g', c', cur, h5, _, _, h6, _⟩
          · cases h5
          · simp only [Value.slice.injEq, Option.some.injEq] at h5; omega
        have hsl := fun w' => run_slice_to g i th.length cap2 (by omega) w'
        obtain ⟨o, ho, hif⟩ : ∃ o, (i + 1 < cap2 → o = i + 1) ∧ (if cap2 = i + 1 then some (⟨g, 0, none⟩ : Addr) else some ⟨g, i + 1, none⟩) = some ⟨g, o, none⟩ := by
          by_cases h : cap2 = i + 1
          · exact ⟨0, fun h' => by omega, by rw [if_pos h]⟩
          · exact ⟨i + 1, fun _ => rfl, by rw [if_neg h]⟩
        have HO := hid ho
        clear ho
        have hb1 : (0 : Int) ≤ (i : Int) + 1 := by omega
        have hb2 : (i : Int) + 1 ≤ (th.length : Int) := by omega
        have v1 : IntKind.i64.wrap ((i : Int) + 1) = (i : Int) + 1 := by rw [IntKind.wrap_i64]; omega
        go_wp2_with fail
        refine reg_begin 0 (by kernel_rfl) ?_
        generalize hW : World.drew _ = W
        replace HP6 := hid (by rw [← hW]; exact HP6.out.later (Ext.drew _) : PS w W (tb + 1) t2 (.slice (some ⟨g, 0, none⟩) th.length cap2) th)
        replace HC6 : Hid (∀ j (hj : j < th.length), W.cell? ⟨g, j, none⟩ = some (.int .i64 th[j])) := hid (by rw [← hW]; exact HC6.out)
        replace HG6 : Hid (g < W.heap.size) := hid (by rw [← hW]; exact HG6.out)
        clear hW
        refine reg_pure 1 rfl (by kernel_rfl) rfl ?_
        apply Exists.intro
        refine ⟨fun w' => ?_, ?_⟩
        · go_simp
          exact rfl
        refine reg_pure 2 rfl (by kernel_rfl) rfl ?_
        apply Exists.intro
        refine ⟨fun w' => ?_, ?_⟩
        · go_simp
          exact rfl
        refine reg_pure 3 rfl (by kernel_rfl) rfl ?_
        apply Exists.intro
        refine ⟨fun w' => ?_, ?_⟩
        · go_simp
          exact rfl
        refine reg_pure 5 rfl (by kernel_rfl) rfl ?_
        apply Exists.intro
        refine ⟨fun w' => ?_, ?_⟩
        · go_simp
          exact rfl
        refine reg_pure 6 rfl (by kernel_rfl) rfl ?_
        apply Exists.intro
        refine ⟨fun w' => ?_, ?_⟩
        · go_simp
          exact rfl
        refine reg_pure 7 rfl (by kernel_rfl) rfl ?_
        apply Exists.intro
        refine ⟨fun w' => ?_, ?_⟩
        · go_simp
          exact rfl
        refine reg_pure 8 rfl (by kernel_rfl) rfl ?_
        apply Exists.intro
        refine ⟨fun w' => ?_, ?_⟩
        · go_simp
          exact rfl
        refine reg_one 0 rfl (by kernel_rfl) rfl (fun w7 hw7 => ?_)
        replace HP6 := hid (HP6.out.later hw7)
        replace HC6 : Hid (∀ j (hj : j < th.length), w7.cell? ⟨g, j, none⟩ = some (.int .i64 th[j])) := hid (fun j hj => hw7.cell (HC6.out j hj))
        replace HG6 : Hid (g < w7.heap.size) := hid (Nat.lt_of_lt_of_le HG6.out hw7.size)
        clear hw7 hsl hif hb1 hb2 v1
        go_simp
        have HQ : Hid (PS w (w7.alloc (.cells #[] 3)) (tb + 1) t2 (.slice (some ⟨w7.heap.size, 0, none⟩) 0 0) []) := hid
          ⟨HP6.out.st.later (Ext.alloc _ _), World.ownsRow_lit w7 #[] 0 HP6.out.st.ext.size (by decide) rfl, fun k hk => by
            simp only [Value.ownBlock, Option.some.injEq] at hk
            subst hk
            exact ⟨fun h' => by have := HP6.out.st.tr.at_.at_.lt _ h'; omega, fun e => by have := HP6.out.st.tr.at_.here; omega⟩⟩
        have HC7 : Hid (∀ j (hj : j < th.length), (w7.alloc (.cells #[] 3)).cell? ⟨g, j, none⟩ = some (.int .i64 th[j])) := hid (fun j hj => (Ext.alloc w7 _).cell (HC6.out j hj))
        have HG7 : Hid (g < (w7.alloc (.cells #[] 3)).heap.size) := hid (by have := HG6.out; simp; omega)
        have hgq : g ≠ w7.heap.size := by have := HG6.out; omega
        have HGQ := hid hgq
        clear HP6 HC6 HG6 hgq
        generalize World.alloc w7 _ = w8 at *
        generalize w7.heap.size = q at *
        refine reg_one 4 rfl (by kernel_rfl) rfl (fun w9 hw9 => ?_)
        replace HQ := hid (HQ.out.later hw9)
        replace HC7 : Hid (∀ j (hj : j < th.length), w9.cell? ⟨g, j, none⟩ = some (.int .i64 th[j])) := hid (fun j hj => hw9.cell (HC7.out j hj))
        replace HG7 : Hid (g < w9.heap.size) := hid (Nat.lt_of_lt_of_le HG7.out hw9.size)
        clear hw9
        refine wp_app (.tmp 63) (.tmp 66) rfl rfl w.heap.size (.slice (some ⟨q, 0, none⟩) 0 0) 0 [] (by rfl) HQ.out.own g 0 i cap2 (th.take i) (by rfl) (by simp; omega) (by omega) (fun j hj => by
          have h5 := HC7.out j (by omega)
          simpa using h5) (by omega) HQ.out.st.ext.size ?_
        intro a1 cap3 w10 hown10 hgrow10 hat10
        refine ⟨fun h => absurd h (by decide), ?_⟩
        simp only [Nat.zero_add, List.nil_append] at hown10 hat10 ⊢
        have hlt : (th.take i).length = i := by simp; omega
        replace HQ := hid (HQ.out.app (th2 := th.take i) hgrow10 (by rw [hlt]; exact hown10) hat10)
        replace HC7 : Hid (∀ j (hj : j < th.length), w10.cell? ⟨g, j, none⟩ = some (.int .i64 th[j])) := hid (fun j hj => (World.cell?_of_block (a := ⟨g, j, none⟩) (hgrow10.block g HG7.out (fun e => HGQ.out (by simpa [Value.ownBlock] using e)))).trans (HC7.out j hj))
        have HA10 : Hid (∀ k, (Value.slice a1 i cap3).ownBlock = some k → k ≠ g) := hid (fun k hk e => by
          subst e
          rcases hat10 _ hk with h5 | h5
          · exact HGQ.out (by simpa [Value.ownBlock] using h5.symm)
          · have := HG7.out; omega)
        replace HG7 : Hid (g < w10.heap.size) := hid (Nat.lt_of_lt_of_le HG7.out hgrow10.size)
        clear hown10 hgrow10 hat10
        refine reg_one 9 rfl (by kernel_rfl) rfl (fun w11 hw11 => ?_)
        replace HQ := hid (HQ.out.later hw11)
        replace HC7 : Hid (∀ j (hj : j < th.length), w11.cell? ⟨g, j, none⟩ = some (.int .i64 th[j])) := hid (fun j hj => hw11.cell (HC7.out j hj))
        clear hw11 HG7
        refine wp_app (.tmp 67) (.tmp 71) rfl rfl w.heap.size (.slice a1 i cap3) i ((th.take i).map (Value.int .i64)) (by rfl) (by have h5 := HQ.out.own; rwa [hlt] at h5) g o (th.length - (i + 1)) (cap2 - (i + 1)) (th.drop (i + 1)) (by rfl) (by simp) (by omega) (fun j hj => by
          have h5 := HC7.out (i + 1 + j) (by omega)
          rw [HO.out (by omega)]
          simpa using h5) (by omega) HQ.out.st.ext.size ?_
        intro a2 cap4 w12 hown12 hgrow12 hat12
        refine ⟨fun h => absurd h (by decide), ?_⟩
        have hlt2 : (th.take i ++ th.drop (i + 1)).length = i + (th.length - (i + 1)) := by simp; omega
        replace HQ := hid (HQ.out.app (th2 := th.take i ++ th.drop (i + 1)) hgrow12 (by rw [hlt2, List.map_append]; exact hown12) hat12)
        clear hown12 hgrow12 hat12 HC7 HA10 hlt
        refine reg_pure 10 rfl (by kernel_rfl) rfl ?_
        apply Exists.intro
        refine ⟨fun w' => ?_, ?_⟩
        · go_simp
          exact rfl
        refine reg_done (by kernel_rfl) (fun w13 hw13 => ?_) _
        replace HQ := hid (HQ.out.later hw13)
        clear hw13
        have v1 : IntKind.i64.wrap ((k : Int) + 1) = (k : Int) + 1 := by rw [IntKind.wrap_i64]; omega
        go_simp
        go_wp2_with fail
        go_roundw
        case rel => exact ⟨k + 1, t2, _, n, rfl, by go_num, by omega, by omega, by omega, by omega, HQ, HM2, HF2⟩
        case measure => simp [intOf]; omega
      · by_cases hz3 : z = 3
        · subst hz3
          have hl1 : ¬ (1 : Int) < (th.length : Int) := by omega
          go_wp2_with fail
          refine reg_begin 11 (by kernel_rfl) ?_
          generalize hW : World.drew _ = W
          have HPW : Hid (PS w W (tb + 1) t (.slice (some ⟨g, 0, none⟩) th.length cap2) th) := hid (by rw [← hW]; exact hP.out.later (Ext.drew _))
          have HPC2 : Hid (W.cell? ⟨g, i, none⟩ = some (.int .i64 p)) := hid (by rw [← hW]; exact HPC.out)
          have HC3b : Hid (W.cell? ⟨sb, so + k * 7 + 3, none⟩ = some (.bool sx)) := hid (by rw [← hW]; exact HC3.out)
          clear hW
          refine reg_quiet 0 rfl (by kernel_rfl) (by kernel_rfl) ?_
          apply Exists.intro
          refine ⟨fun w' hw' => ?_, ?_⟩
          · go_simp
            exact ⟨rfl, Ext.refl _⟩
          refine reg_quiet 1 rfl (by kernel_rfl) (by kernel_rfl) ?_
          apply Exists.intro
          refine ⟨fun w' hw' => ?_, ?_⟩
          · go_simp
            exact ⟨rfl, Ext.refl _⟩
          refine reg_quiet 2 rfl (by kernel_rfl) (by kernel_rfl) ?_
          apply Exists.intro
          refine ⟨fun w' hw' => ?_, ?_⟩
          · go_simp
            exact ⟨rfl, Ext.refl _⟩
          refine reg_quiet 3 rfl (by kernel_rfl) (by kernel_rfl) ?_
          apply Exists.intro
          refine ⟨fun w' hw' => ?_, ?_⟩
          · go_simp
            exact ⟨rfl, Ext.refl _⟩
          refine reg_quiet 4 rfl (by kernel_rfl) (by kernel_rfl) ?_
          apply Exists.intro
          refine ⟨fun w' hw' => ?_, ?_⟩
          · have q0 := hw'.cell HPC2.out
            go_simp
            exact ⟨rfl, Ext.refl _⟩
          refine reg_quiet 5 rfl (by kernel_rfl) (by kernel_rfl) ?_
          apply Exists.intro
          refine ⟨fun w' hw' => ?_, ?_⟩
          · go_simp
            exact ⟨rfl, Ext.refl _⟩
          refine reg_quiet 6 rfl (by kernel_rfl) (by kernel_rfl) ?_
          apply Exists.intro
          refine ⟨fun w' hw' => ?_, ?_⟩
          · go_simp
            exact ⟨rfl, Ext.refl _⟩
          refine reg_quiet 7 rfl (by kernel_rfl) (by kernel_rfl) ?_
          apply Exists.intro
          refine ⟨fun w' hw' => ?_, ?_⟩
          · go_simp
            exact ⟨rfl, Ext.refl _⟩
          refine reg_quiet 8 rfl (by kernel_rfl) (by kernel_rfl) ?_
          apply Exists.intro
          refine ⟨fun w' hw' => ?_, ?_⟩
          · go_simp
            exact ⟨rfl, Ext.refl _⟩
          refine reg_quiet 9 rfl (by kernel_rfl) (by kernel_rfl) ?_
          apply Exists.intro
          refine ⟨fun w' hw' => ?_, ?_⟩
          · go_simp
            exact ⟨rfl, Ext.refl _⟩
          refine reg_quiet 10 rfl (by kernel_rfl) (by kernel_rfl) ?_
          apply Exists.intro
          refine ⟨fun w' hw' => ?_, ?_⟩
          · have q0 := hw'.cell HC3b.out
            go_simp
            exact ⟨rfl, Ext.refl _⟩
          refine reg_one 11 rfl (by kernel_rfl) rfl (fun w' hw' => ?_)
          go_simp
          refine ((HPW.out.st.later hw').split p n 200 300 sx (by decide) (by decide) (by omega)).mono ?_
          rintro e w5 ⟨b1, b2, rfl, hS5, hW5⟩
          have HP5 := hid ((HPW.out.later hw').wr hW5 hS5)
          have HFS := hid (hF.out.step p sx (allB 200 300) b1 b2)
          have hnm : n ∉ t.panes := fun h => by have := hF.out.range n h; omega
          have hcode := split_code (a := sx) (R := allB 200 300) b1 b2 HPM.out hnm
          rw [show n - 1 + 1 = n by omega] at HFS
          clear hS5 hW5 hw' HPW HPC2 HC3b hnm
          have v1 : IntKind.i64.wrap ((k : Int) + 1) = (k : Int) + 1 := by rw [IntKind.wrap_i64]; omega
          rcases hcode with ⟨h12, hs⟩ | ⟨h12, hs⟩ | ⟨h12, t2, hs, l2, r2, hp1, hp2⟩
          · rw [hs] at HP5 HFS ⊢
            dsimp only at HP5 HFS ⊢
            clear hs
            have h12' : 12 ≤ (th.length : Int) := by have := hlen.out; omega
            refine reg_pure 12 rfl (by kernel_rfl) rfl ?_
            apply Exists.intro
            refine ⟨fun w' => ?_, ?_⟩
            · go_simp
              exact rfl
            refine reg_done (by kernel_rfl) (fun w13 hw13 => ?_) _
            replace HP5 := hid (HP5.out.later hw13)
            clear hw13
            go_simp
            go_wp2_with fail
            go_roundw
            case rel => exact ⟨k + 1, t, th, n, rfl, by go_num, by omega, by omega, by omega, by omega, HP5, hM, hF⟩
            case measure => simp [intOf]; omega
          · rw [hs] at HP5 HFS ⊢
            dsimp only at HP5 HFS ⊢
            clear hs
            have h12' : (th.length : Int) < 12 := by have := hlen.out; omega
            refine reg_pure 12 rfl (by kernel_rfl) rfl ?_
            apply Exists.intro
            refine ⟨fun w' => ?_, ?_⟩
            · go_simp
              exact rfl
            refine reg_done (by kernel_rfl) (fun w13 hw13 => ?_) _
            replace HP5 := hid (HP5.out.later hw13)
            clear hw13
            go_simp
            go_wp2_with fail
            go_roundw
            case rel => exact ⟨k + 1, t, th, n, rfl, by go_num, by omega, by omega, by omega, by omega, HP5, hM, hF⟩
            case measure => simp [intOf]; omega
          · rw [hs] at HP5 HFS ⊢
            dsimp only at HP5 HFS ⊢
            clear hs
            have h12' : (th.length : Int) < 12 := by have := hlen.out; omega
            have HM2 : Hid ((th ++ [n]).Perm t2.panes) := hid (by rw [hp2]; exact perm_split (hp1 ▸ hM.out))
            have v2 : IntKind.i64.wrap (n + 1) = n + 1 := by rw [IntKind.wrap_i64]; omega
            clear hp1 hp2
            refine reg_pure 12 rfl (by kernel_rfl) rfl ?_
            apply Exists.intro
            refine ⟨fun w' => ?_, ?_⟩
            · go_simp
              exact rfl
            refine reg_done (by kernel_rfl) (fun w13 hw13 => ?_) _
            replace HP5 := hid (HP5.out.later hw13)
            clear hw13
            go_simp
            obtain ⟨j0, hi0, hz0, hz1, hz2⟩ := info_parts (show (Tryd.prog.info? 3).map (fun i => (i.zero, i.size, i.bytes)) = some (some (.int .i64 0), 1, 8) by kernel_rfl)
            have HI0 := hid (And.intro hi0 (And.intro hz0 (And.intro hz1 hz2)))
            clear hi0 hz0 hz1 hz2
            go_wp2_with (first | (at_builtin; refine wpList_append_lies _ rfl (.tmp 93) (.tmp 95) _ rfl w.heap.size 3 j0 (.int .i64 0) 1 8 Tryd.underlying35 HI0.out.1 HI0.out.2.1 HI0.out.2.2.1 HI0.out.2.2.2 rfl (by omega) (.slice (some ⟨g, 0, none⟩) th.length cap2) th.length _ (by rfl) (HP5.out.own.alloc _) ⟨w13.heap.size, 0, none⟩ 1 1 [.int .i64 n] (by rfl) (by rfl) (World.news_of_block (blk_new w13 _)) (by intro u hu; simp at hu; subst hu; rfl) (by omega) (by unfold maxLen; omega) (by omega) (by have := HP5.out.st.ext.size; simp; omega) (w13.heap.size + 1) (by simp) ?_; intro g1 cap1 w14 hown4 hgrow4 hat4 hlt4; clear hlt4))
            have HP6 := hid ((HP5.out.later (Ext.alloc w13 (.cells #[.int .i64 n] 3))).app (th2 := th ++ [n]) hgrow4 (by simpa using hown4) (fun k hk => by
              simp only [Value.ownBlock, Option.some.injEq] at hk ⊢
              subst hk
              rcases hat4 with h5 | h5
              · exact .inl (by simpa [Value.ownBlock] using h5)
              · exact .inr (by simp; omega)))
            clear hgrow4 hown4 hat4
            go_roundw
            case rel => exact ⟨k + 1, t2, th ++ [n], n + 1, rfl, by go_num, by omega, by omega, by omega, by omega, by have h5 := HP6.out; simpa using hid h5, HM2, by rw [show n + 1 - 1 = n by omega]; exact HFS⟩
            case measure => simp [intOf]; omega
        · have hz4 : ¬ (z : Int) = 3 := by omega
          go_wp2_with fail
          refine reg_begin 11 (by kernel_rfl) ?_
          generalize hW : World.drew _ = W
          have HPW : Hid (PS w W (tb + 1) t (.slice (some ⟨g, 0, none⟩) th.length cap2) th) := hid (by rw [← hW]; exact hP.out.later (Ext.drew _))
          have HPC2 : Hid (W.cell? ⟨g, i, none⟩ = some (.int .i64 p)) := hid (by rw [← hW]; exact HPC.out)
          have HC3b : Hid (W.cell? ⟨sb, so + k * 7 + 3, none⟩ = some (.bool sx)) := hid (by rw [← hW]; exact HC3.out)
          clear hW
          refine reg_quiet 0 rfl (by kernel_rfl) (by kernel_rfl) ?_
          apply Exists.intro
          refine ⟨fun w' hw' => ?_, ?_⟩
          · go_simp
            exact ⟨rfl, Ext.refl _⟩
          refine reg_quiet 1 rfl (by kernel_rfl) (by kernel_rfl) ?_
          apply Exists.intro
          refine ⟨fun w' hw' => ?_, ?_⟩
          · go_simp
            exact ⟨rfl, Ext.refl _⟩
          refine reg_quiet 2 rfl (by kernel_rfl) (by kernel_rfl) ?_
          apply Exists.intro
          refine ⟨fun w' hw' => ?_, ?_⟩
          · go_simp
            exact ⟨rfl, Ext.refl _⟩
          refine reg_quiet 3 rfl (by kernel_rfl) (by kernel_rfl) ?_
          apply Exists.intro
          refine ⟨fun w' hw' => ?_, ?_⟩
          · go_simp
            exact ⟨rfl, Ext.refl _⟩
          refine reg_quiet 4 rfl (by kernel_rfl) (by kernel_rfl) ?_
          apply Exists.intro
          refine ⟨fun w' hw' => ?_, ?_⟩
          · have q0 := hw'.cell HPC2.out
            go_simp
            exact ⟨rfl, Ext.refl _⟩
          refine reg_quiet 5 rfl (by kernel_rfl) (by kernel_rfl) ?_
          apply Exists.intro
          refine ⟨fun w' hw' => ?_, ?_⟩
          · go_simp
            exact ⟨rfl, Ext.refl _⟩
          refine reg_quiet 6 rfl (by kernel_rfl) (by kernel_rfl) ?_
          apply Exists.intro
          refine ⟨fun w' hw' => ?_, ?_⟩
          · go_simp
            exact ⟨rfl, Ext.refl _⟩
          refine reg_quiet 7 rfl (by kernel_rfl) (by kernel_rfl) ?_
          apply Exists.intro
          refine ⟨fun w' hw' => ?_, ?_⟩
          · go_simp
            exact ⟨rfl, Ext.refl _⟩
          refine reg_quiet 8 rfl (by kernel_rfl) (by kernel_rfl) ?_
          apply Exists.intro
          refine ⟨fun w' hw' => ?_, ?_⟩
          · go_simp
            exact ⟨rfl, Ext.refl _⟩
          refine reg_quiet 9 rfl (by kernel_rfl) (by kernel_rfl) ?_
          apply Exists.intro
          refine ⟨fun w' hw' => ?_, ?_⟩
          · go_simp
            exact ⟨rfl, Ext.refl _⟩
          refine reg_quiet 10 rfl (by kernel_rfl) (by kernel_rfl) ?_
          apply Exists.intro
          refine ⟨fun w' hw' => ?_, ?_⟩
          · have q0 := hw'.cell HC3b.out
            go_simp
            exact ⟨rfl, Ext.refl _⟩
          refine reg_one 11 rfl (by kernel_rfl) rfl (fun w' hw' => ?_)
          go_simp
          refine ((HPW.out.st.later hw').split p n 200 300 sx (by decide) (by decide) (by omega)).mono ?_
          rintro e w5 ⟨b1, b2, rfl, hS5, hW5⟩
          have HP5 := hid ((HPW.out.later hw').wr hW5 hS5)
          have HFS := hid (hF.out.step p sx (allB 200 300) b1 b2)
          have hnm : n ∉ t.panes := fun h => by have := hF.out.range n h; omega
          have hcode := split_code (a := sx) (R := allB 200 300) b1 b2 HPM.out hnm
          rw [show n - 1 + 1 = n by omega] at HFS
          clear hS5 hW5 hw' HPW HPC2 HC3b hnm
          have v1 : IntKind.i64.wrap ((k : Int) + 1) = (k : Int) + 1 := by rw [IntKind.wrap_i64]; omega
          rcases hcode with ⟨h12, hs⟩ | ⟨h12, hs⟩ | ⟨h12, t2, hs, l2, r2, hp1, hp2⟩
          · rw [hs] at HP5 HFS ⊢
            dsimp only at HP5 HFS ⊢
            clear hs
            have h12' : 12 ≤ (th.length : Int) := by have := hlen.out; omega
            refine reg_pure 12 rfl (by kernel_rfl) rfl ?_
            apply Exists.intro
            refine ⟨fun w' => ?_, ?_⟩
            · go_simp
              exact rfl
            refine reg_done (by kernel_rfl) (fun w13 hw13 => ?_) _
            replace HP5 := hid (HP5.out.later hw13)
            clear hw13
            go_simp
            go_wp2_with fail
            go_roundw
            case rel => exact ⟨k + 1, t, th, n, rfl, by go_num, by omega, by omega, by omega, by omega, HP5, hM, hF⟩
            case measure => simp [intOf]; omega
          · rw [hs] at HP5 HFS ⊢
            dsimp only at HP5 HFS ⊢
            clear hs
            have h12' : (th.length : Int) < 12 := by have := hlen.out; omega
            refine reg_pure 12 rfl (by kernel_rfl) rfl ?_
            apply Exists.intro
            refine ⟨fun w' => ?_, ?_⟩
            · go_simp
              exact rfl
            refine reg_done (by kernel_rfl) (fun w13 hw13 => ?_) _
            replace HP5 := hid (HP5.out.later hw13)
            clear hw13
            go_simp
            go_wp2_with fail
            go_roundw
            case rel => exact ⟨k + 1, t, th, n, rfl, by go_num, by omega, by omega, by omega, by omega, HP5, hM, hF⟩
            case measure => simp [intOf]; omega
          · rw [hs] at HP5 HFS ⊢
            dsimp only at HP5 HFS ⊢
            clear hs
            have h12' : (th.length : Int) < 12 := by have := hlen.out; omega
            have HM2 : Hid ((th ++ [n]).Perm t2.panes) := hid (by rw [hp2]; exact perm_split (hp1 ▸ hM.out))
            have v2 : IntKind.i64.wrap (n + 1) = n + 1 := by rw [IntKind.wrap_i64]; omega
            clear hp1 hp2
            refine reg_pure 12 rfl (by kernel_rfl) rfl ?_
            apply Exists.intro
            refine ⟨fun w' => ?_, ?_⟩
            · go_simp
              exact rfl
            refine reg_done (by kernel_rfl) (fun w13 hw13 => ?_) _
            replace HP5 := hid (HP5.out.later hw13)
            clear hw13
            go_simp
            obtain ⟨j0, hi0, hz0, hz1, hz2⟩ := info_parts (show (Tryd.prog.info? 3).map (fun i => (i.zero, i.size, i.bytes)) = some (some (.int .i64 0), 1, 8) by kernel_rfl)
            have HI0 := hid (And.intro hi0 (And.intro hz0 (And.intro hz1 hz2)))
            clear hi0 hz0 hz1 hz2
            go_wp2_with (first | (at_builtin; refine wpList_append_lies _ rfl (.tmp 93) (.tmp 95) _ rfl w.heap.size 3 j0 (.int .i64 0) 1 8 Tryd.underlying35 HI0.out.1 HI0.out.2.1 HI0.out.2.2.1 HI0.out.2.2.2 rfl (by omega) (.slice (some ⟨g, 0, none⟩) th.length cap2) th.length _ (by rfl) (HP5.out.own.alloc _) ⟨w13.heap.size, 0, none⟩ 1 1 [.int .i64 n] (by rfl) (by rfl) (World.news_of_block (blk_new w13 _)) (by intro u hu; simp at hu; subst hu; rfl) (by omega) (by unfold maxLen; omega) (by omega) (by have := HP5.out.st.ext.size; simp; omega) (w13.heap.size + 1) (by simp) ?_; intro g1 cap1 w14 hown4 hgrow4 hat4 hlt4; clear hlt4))
            have HP6 := hid ((HP5.out.later (Ext.alloc w13 (.cells #[.int .i64 n] 3))).app (th2 := th ++ [n]) hgrow4 (by simpa using hown4) (fun k hk => by
              simp only [Value.ownBlock, Option.some.injEq] at hk ⊢
              subst hk
              rcases hat4 with h5 | h5
              · exact .inl (by simpa [Value.ownBlock] using h5)
              · exact .inr (by simp; omega)))
            clear hgrow4 hown4 hat4
            go_roundw
            case rel => exact ⟨k + 1, t2, th ++ [n], n + 1, rfl, by go_num, by omega, by omega, by omega, by omega, by have h5 := HP6.out; simpa using hid h5, HM2, by rw [show n + 1 - 1 = n by omega]; exact HFS⟩
            case measure => simp [intOf]; omega
    · by_cases hk3 : k < l.length
      · have hk4 : k = 25 := by omega
        subst hk4
        have hlt3 : (25 : Int) < (l.length : Int) := by omega
        go_wp2_with fail
        refine hP.out.st.panes.mono ?_
        rintro e wx ⟨v, rfl, ho, hE3⟩
        have hpn := panes_pos t
        obtain ⟨g2, cap5, rfl, hg2, hc2⟩ := panes_row ho hpn
        have HC2 : Hid (∀ j x, t.panes[j]? = some x → wx.cell? ⟨g2, j, none⟩ = some (.int .i64 x)) := hid (fun j x hx => by obtain ⟨h5, rfl⟩ := List.getElem?_eq_some_iff.1 hx; exact hc2 j h5)
        have HG2 := hid hg2
        have HPX := hid (hP.out.later hE3)
        have HC1 : Hid (∀ j x, th[j]? = some x → wx.cell? ⟨g, j, none⟩ = some (.int .i64 x)) := hid (fun j x hx => by obtain ⟨h5, rfl⟩ := List.getElem?_eq_some_iff.1 hx; exact hE3.cell (HC.out j h5))
        have HNE : Hid (∀ q ∈ t.blocks, q ≠ g2) := hid (fun q hq e => by have := hP.out.st.tr.at_.at_.lt q hq; omega)
        clear ho hE3 hc2 hg2 hP HC HG
        have hpl : t.panes.length = th.length := hlen.out.symm
        have HPL := hid hpl
        clear hpl
        have HND := hid hF.out.nodup
        have HML := hid (fun x => hM.out.mem_iff (a := x))
        clear hF hM
        generalize hps : t.panes = ps at *
        have HPS := hid hps
        clear hps hlen
        have hpsl : ps.length = th.length := HPL.out
        rw [hpsl]
        generalize hnl : th.length = m at *
        have HNL := hid hnl
        have HPL2 := hid hpsl
        clear hnl hpsl
        go_wp2_with fail
        refine (HPX.out.st.places 50 80 (by decide) (by decide)).mono ?_
        rintro e w5 ⟨v5, rfl, ho5, hE5⟩
        obtain ⟨a5, cap6, rfl, _⟩ := own_form ho5
        clear ho5
        have hpl5 : t.panes.length = m := by rw [HPS.out]; exact HPL2.out
        rw [hpl5]
        clear hpl5
        go_wp2_with fail
        go_loopw [14] (fun i wr => ∃ k : Nat, i = .int .i64 k ∧ k ≤ m ∧ Hid (Ext wx wr)) (fun i _ => m - (intOf i).toNat)
        case atStart => exact ⟨0, rfl, by omega, hid hE5⟩
        case round =>
          clear hE5
          obtain ⟨i, rfl, hi, hE⟩ := hrel
          by_cases hlti : i < m
          · have hi2 : (i : Int) < (m : Int) := by omega
            have hil : i < th.length := by have := HNL.out; omega
            obtain ⟨x, hx⟩ : ∃ x, th[i]? = some x := ⟨_, List.getElem?_eq_getElem hil⟩
            have HCI := hid (HC1.out i x hx)
            have HMI := hid ((HML.out x).1 (List.mem_of_getElem? hx))
            clear hx
            have HON := hid (cnt_one HND.out HMI.out)
            go_wp2_with fail
            go_loopw [15, 16] (fun c jv wr => ∃ j : Nat, jv = .int .i64 j ∧ j ≤ m ∧ c = .int .i64 (cnt x (ps.take j) : Nat) ∧ Hid (Ext wx wr)) (fun _ jv _ => m - (intOf jv).toNat)
            case atStart => exact ⟨0, rfl, by omega, by simp [cnt], hE⟩
            case round =>
              clear hE
              obtain ⟨j, rfl, hj, rfl, hE⟩ := hrel
              by_cases hltj : j < m
              · have hj2 : (j : Int) < (m : Int) := by omega
                have hjl : j < ps.length := by have := HPL2.out; omega
                obtain ⟨y, hy⟩ : ∃ y, ps[j]? = some y := ⟨_, List.getElem?_eq_getElem hjl⟩
                have HCJ := hid (HC2.out j y hy)
                have HTK : Hid (cnt x (ps.take (j + 1)) = cnt x (ps.take j) + (if y = x then 1 else 0)) := hid (by
                  rw [List.take_add_one, hy, cnt_append]; simp [cnt])
                clear hy
                have hcb : cnt x (ps.take j) ≤ 12 := by
                  have h5 : ∀ l : List Int, cnt x l ≤ l.length := by
                    intro l; induction l with
                    | nil => simp [cnt]
                    | cons a l ih => simp only [cnt, List.length_cons]; split <;> omega
                  have := h5 (ps.take j); simp at this; omega
                generalize cnt x (ps.take j) = c0 at *
                go_wp2_with fail
                refine reg_begin 9 (by kernel_rfl) ?_
                generalize hW : World.drew _ = W
                have HE := hid (by rw [← hW]; exact hE.out.trans (Ext.drew _) : Ext wx W)
                clear hW hE
                have HI1 := hid (HE.out.cell HCI.out)
                have HJ1 := hid (HE.out.cell HCJ.out)
                refine reg_quiet 0 rfl (by kernel_rfl) (by kernel_rfl) ?_
                apply Exists.intro
                refine ⟨fun w' hw' => ?_, ?_⟩
                · go_simp
                  exact ⟨rfl, Ext.refl _⟩
                refine reg_quiet 1 rfl (by kernel_rfl) (by kernel_rfl) ?_
                apply Exists.intro
                refine ⟨fun w' hw' => ?_, ?_⟩
                · go_simp
                  exact ⟨rfl, Ext.refl _⟩
                refine reg_quiet 2 rfl (by kernel_rfl) (by kernel_rfl) ?_
                apply Exists.intro
                refine ⟨fun w' hw' => ?_, ?_⟩
                · go_simp
                  exact ⟨rfl, Ext.refl _⟩
                refine reg_quiet 3 rfl (by kernel_rfl) (by kernel_rfl) ?_
                apply Exists.intro
                refine ⟨fun w' hw' => ?_, ?_⟩
                · have q0 := hw'.cell HJ1.out
                  go_simp
                  exact ⟨rfl, Ext.refl _⟩
                refine reg_quiet 4 rfl (by kernel_rfl) (by kernel_rfl) ?_
                apply Exists.intro
                refine ⟨fun w' hw' => ?_, ?_⟩
                · go_simp
                  exact ⟨rfl, Ext.refl _⟩
                refine reg_quiet 5 rfl (by kernel_rfl) (by kernel_rfl) ?_
                apply Exists.intro
                refine ⟨fun w' hw' => ?_, ?_⟩
                · go_simp
                  exact ⟨rfl, Ext.refl _⟩
                refine reg_quiet 6 rfl (by kernel_rfl) (by kernel_rfl) ?_
                apply Exists.intro
                refine ⟨fun w' hw' => ?_, ?_⟩
                · go_simp
                  exact ⟨rfl, Ext.refl _⟩
                refine reg_quiet 7 rfl (by kernel_rfl) (by kernel_rfl) ?_
                apply Exists.intro
                refine ⟨fun w' hw' => ?_, ?_⟩
                · have q0 := hw'.cell HI1.out
                  go_simp
                  exact ⟨rfl, Ext.refl _⟩
                refine reg_quiet 8 rfl (by kernel_rfl) (by kernel_rfl) ?_
                apply Exists.intro
                refine ⟨fun w' hw' => ?_, ?_⟩
                · go_simp
                  exact ⟨rfl, Ext.refl _⟩
                refine reg_done (by kernel_rfl) (fun w6 hw6 => ?_) _
                replace HE := hid (HE.out.trans hw6)
                clear hw6 HI1 HJ1
                have v1 : IntKind.i64.wrap ((c0 : Int) + 1) = (c0 : Int) + 1 := by rw [IntKind.wrap_i64]; omega
                by_cases hyx : y = x
                · have HTK2 := hid (HTK.out.trans (by rw [if_pos hyx]))
                  clear HTK
                  subst hyx
                  go_simp
                  go_wp2_with fail
                  go_roundw
                  case rel => exact ⟨j + 1, by go_num, by omega, by rw [HTK2.out]; go_num, HE⟩
                  case measure => simp [intOf]; omega
                · have HTK2 := hid (HTK.out.trans (by rw [if_neg hyx]))
                  clear HTK
                  go_simp
                  go_wp2_with fail
                  go_roundw
                  case rel => exact ⟨j + 1, by go_num, by omega, by rw [HTK2.out]; go_num, HE⟩
                  case measure => simp [intOf]; omega
              · have hj2 : ¬ (j : Int) < (m : Int) := by omega
                have hcj : cnt x (ps.take j) = 1 := by rw [List.take_of_length_le (by have := HPL2.out; omega)]; exact HON.out
                rw [hcj]
                clear hcj
                have q0 := hE.out.cell HCI.out
                go_wp2_with fail
                refine ((HPX.out.st.later hE.out).has x).mono ?_
                rintro e w7 ⟨rfl, hE7⟩
                rw [decide_eq_true (by rw [HPS.out]; exact HMI.out)]
                have HE := hid (hE.out.trans hE7)
                clear hE hE7 q0
                go_wp2_with fail
                go_roundw
                case rel => exact ⟨i + 1, by go_num, by omega, HE⟩
                case measure => simp [intOf]; omega
          · have hi2 : ¬ (i : Int) < (m : Int) := by omega
            go_wp2_with fail
            refine ((HPX.out.st.later hE.out).places 50 80 (by decide) (by decide)).mono ?_
            rintro e w7 ⟨v7, rfl, ho7, hE7⟩
            have HX := hid (hE.out.trans hE7)
            have HO7 := hid ho7
            have hbase : Hid (∀ q ∈ t.blocks, q < wr.heap.size) := hid ((HPX.out.st.later hE.out).tr.at_.at_.lt)
            clear ho7 hE7
            rw [panes_len t (allB 50 80)] at HO7
            have HPLC := hid (ren_places)
            have HLL : Hid ((t.places (allB 50 80)).length ≤ 1000) := hid (by rw [← panes_len t (allB 50 80), HPS.out, HPL2.out]; omega)
            obtain ⟨i1, hi1, hi1'⟩ := idx_of a m (by omega)
            obtain ⟨i2, hi2a, hi2'⟩ := idx_of b m (by omega)
            have HI1 := hid hi1
            have HI2 := hid hi2a
            obtain ⟨p1, hp1⟩ : ∃ y, ps[i1]? = some y := ⟨_, List.getElem?_eq_getElem (by have := HPL2.out; omega)⟩
            obtain ⟨p2, hp2⟩ : ∃ y, ps[i2]? = some y := ⟨_, List.getElem?_eq_getElem (by have := HPL2.out; omega)⟩
            have HC1p := hid (HX.out.cell (HC2.out i1 p1 hp1))
            have HC2p := hid (HX.out.cell (HC2.out i2 p2 hp2))
            have HM1 : Hid (p1 ∈ t.panes) := hid (by rw [HPS.out]; exact List.mem_of_getElem? hp1)
            have HM2 : Hid (p2 ∈ t.panes) := hid (by rw [HPS.out]; exact List.mem_of_getElem? hp2)
            clear hi1 hi2a hp1 hp2
            have hb1 : (i1 : Int) < (m : Int) := by omega
            have hb2 : (i2 : Int) < (m : Int) := by omega
            go_wp2_with fail
            refine reg_begin 15 (by kernel_rfl) ?_
            generalize hW : World.drew _ = W
            have HXW := hid (by rw [← hW]; exact HX.out.trans (Ext.drew _) : Ext wx W)
            have HOW : Hid (W.ownsRow wr.heap.size 32 4 v7 (t.places (allB 50 80)).length ((t.places (allB 50 80)).flatMap Bx.vals)) := hid (by rw [← hW]; exact own_ext (Ext.drew _) HO7.out)
            have HC1w : Hid (W.cell? ⟨g2, i1, none⟩ = some (.int .i64 p1)) := hid (by rw [← hW]; exact HC1p.out)
            have HC2w : Hid (W.cell? ⟨g2, i2, none⟩ = some (.int .i64 p2)) := hid (by rw [← hW]; exact HC2p.out)
            clear hW HX HO7 HC1p HC2p
            refine reg_quiet 0 rfl (by kernel_rfl) (by kernel_rfl) ?_
            apply Exists.intro
            refine ⟨fun w' hw' => ?_, ?_⟩
            · go_simp
              exact ⟨rfl, Ext.refl _⟩
            refine reg_quiet 1 rfl (by kernel_rfl) (by kernel_rfl) ?_
            apply Exists.intro
            refine ⟨fun w' hw' => ?_, ?_⟩
            · go_simp
              exact ⟨rfl, Ext.refl _⟩
            refine reg_quiet 2 rfl (by kernel_rfl) (by kernel_rfl) ?_
            apply Exists.intro
            refine ⟨fun w' hw' => ?_, ?_⟩
            · go_simp
              exact ⟨rfl, Ext.refl _⟩
            refine reg_quiet 3 rfl (by kernel_rfl) (by kernel_rfl) ?_
            apply Exists.intro
            refine ⟨fun w' hw' => ?_, ?_⟩
            · go_simp
              exact ⟨rfl, Ext.refl _⟩
            refine reg_quiet 4 rfl (by kernel_rfl) (by kernel_rfl) ?_
            apply Exists.intro
            refine ⟨fun w' hw' => ?_, ?_⟩
            · go_simp
              exact ⟨rfl, Ext.refl _⟩
            refine reg_quiet 5 rfl (by kernel_rfl) (by kernel_rfl) ?_
            apply Exists.intro
            refine ⟨fun w' hw' => ?_, ?_⟩
            · go_simp
              exact pick_idx HI1.out (by omega) (by omega) w'
            refine reg_quiet 6 rfl (by kernel_rfl) (by kernel_rfl) ?_
            apply Exists.intro
            refine ⟨fun w' hw' => ?_, ?_⟩
            · go_simp
              exact ⟨rfl, Ext.refl _⟩
            refine reg_quiet 7 rfl (by kernel_rfl) (by kernel_rfl) ?_
            apply Exists.intro
            refine ⟨fun w' hw' => ?_, ?_⟩
            · have q0 := hw'.cell HC1w.out
              go_simp
              exact ⟨rfl, Ext.refl _⟩
            refine reg_quiet 8 rfl (by kernel_rfl) (by kernel_rfl) ?_
            apply Exists.intro
            refine ⟨fun w' hw' => ?_, ?_⟩
            · go_simp
              exact ⟨rfl, Ext.refl _⟩
            refine reg_quiet 9 rfl (by kernel_rfl) (by kernel_rfl) ?_
            apply Exists.intro
            refine ⟨fun w' hw' => ?_, ?_⟩
            · go_simp
              exact ⟨rfl, Ext.refl _⟩
            refine reg_quiet 10 rfl (by kernel_rfl) (by kernel_rfl) ?_
            apply Exists.intro
            refine ⟨fun w' hw' => ?_, ?_⟩
            · go_simp
              exact ⟨rfl, Ext.refl _⟩
            refine reg_quiet 11 rfl (by kernel_rfl) (by kernel_rfl) ?_
            apply Exists.intro
            refine ⟨fun w' hw' => ?_, ?_⟩
            · go_simp
              exact ⟨rfl, Ext.refl _⟩
            refine reg_quiet 12 rfl (by kernel_rfl) (by kernel_rfl) ?_
            apply Exists.intro
            refine ⟨fun w' hw' => ?_, ?_⟩
            · go_simp
              exact pick_idx HI2.out (by omega) (by omega) w'
            refine reg_quiet 13 rfl (by kernel_rfl) (by kernel_rfl) ?_
            apply Exists.intro
            refine ⟨fun w' hw' => ?_, ?_⟩
            · go_simp
              exact ⟨rfl, Ext.refl _⟩
            refine reg_quiet 14 rfl (by kernel_rfl) (by kernel_rfl) ?_
            apply Exists.intro
            refine ⟨fun w' hw' => ?_, ?_⟩
            · have q0 := hw'.cell HC2w.out
              go_simp
              exact ⟨rfl, Ext.refl _⟩
            refine reg_one 15 rfl (by kernel_rfl) rfl (fun w' hw' => ?_)
            go_simp
            refine ((HPX.out.st.later (HXW.out.trans hw')).swap (by rw [HPS.out]; exact HND.out) p1 p2).mono ?_
            rintro e w8 ⟨rfl, hS8, hW8⟩
            rw [swap_ok HM1.out HM2.out] at hS8 hW8 ⊢
            dsimp only at hS8 hW8 ⊢
            have HO8 := hid (own_same (own_ext hw' HOW.out) (fun k hk => hW8.block k ((own_ext hw' HOW.out).lt k hk).2 (fun h' => by have := hbase.out k h'; have := (HOW.out.lt k hk).1; omega)))
            have HS8 := hid hS8
            clear hS8 hW8 hw' HOW HXW HC1w HC2w
            refine reg_quiet 16 rfl (by kernel_rfl) (by kernel_rfl) ?_
            apply Exists.intro
            refine ⟨fun w' hw' => ?_, ?_⟩
            · go_simp
              exact ⟨rfl, Ext.refl _⟩
            refine reg_done (by kernel_rfl) (fun w9 hw9 => ?_) _
            replace HS8 := hid (HS8.out.later hw9)
            replace HO8 := hid (own_ext hw9 HO8.out)
            clear hw9
            go_simp
            go_wp2_with fail
            refine (HS8.out.places 50 80 (by decide) (by decide)).mono ?_
            rintro e w10 ⟨v10, rfl, ho10, hE10⟩
            rw [ren_panes, List.length_map, ren_places, panes_len t (allB 50 80)] at ho10
            have HO10 := hid ho10
            replace HS8 := hid (HS8.out.later hE10)
            replace HO8 := hid (own_ext hE10 HO8.out)
            clear ho10 hE10
            go_wp2_with fail
            refine (rects_same v7 v10 _ _ _ w10 HLL.out HO8.out HO10.out).mono ?_
            rintro e w11 ⟨rfl, hE11⟩
            have HS11 := hid (HS8.out.later hE11)
            clear hE11
            go_wp2_with fail
            go_ret
            exact ⟨rfl, HS11.out.ext⟩
      · have hk4 : k = l.length := by omega
        subst hk4
        go_wp2_with fail
        refine hP.out.st.panes.mono ?_
        rintro e wx ⟨v, rfl, ho, hE3⟩
        have hpn := panes_pos t
        obtain ⟨g2, cap5, rfl, hg2, hc2⟩ := panes_row ho hpn
        have HC2 : Hid (∀ j x, t.panes[j]? = some x → wx.cell? ⟨g2, j, none⟩ = some (.int .i64 x)) := hid (fun j x hx => by obtain ⟨h5, rfl⟩ := List.getElem?_eq_some_iff.1 hx; exact hc2 j h5)
        have HG2 := hid hg2
        have HPX := hid (hP.out.later hE3)
        have HC1 : Hid (∀ j x, th[j]? = some x → wx.cell? ⟨g, j, none⟩ = some (.int .i64 x)) := hid (fun j x hx => by obtain ⟨h5, rfl⟩ := List.getElem?_eq_some_iff.1 hx; exact hE3.cell (HC.out j h5))
        have HNE : Hid (∀ q ∈ t.blocks, q ≠ g2) := hid (fun q hq e => by have := hP.out.st.tr.at_.at_.lt q hq; omega)
        clear ho hE3 hc2 hg2 hP HC HG
        have hpl : t.panes.length = th.length := hlen.out.symm
        have HPL := hid hpl
        clear hpl
        have HND := hid hF.out.nodup
        have HML := hid (fun x => hM.out.mem_iff (a := x))
        clear hF hM
        generalize hps : t.panes = ps at *
        have HPS := hid hps
        clear hps hlen
        have hpsl : ps.length = th.length := HPL.out
        rw [hpsl]
        generalize hnl : th.length = m at *
        have HNL := hid hnl
        have HPL2 := hid hpsl
        clear hnl hpsl
        go_wp2_with fail
        refine (HPX.out.st.places 50 80 (by decide) (by decide)).mono ?_
        rintro e w5 ⟨v5, rfl, ho5, hE5⟩
        obtain ⟨a5, cap6, rfl, _⟩ := own_form ho5
        clear ho5
        have hpl5 : t.panes.length = m := by rw [HPS.out]; exact HPL2.out
        rw [hpl5]
        clear hpl5
        go_wp2_with fail
        go_loopw [14] (fun i wr => ∃ k : Nat, i = .int .i64 k ∧ k ≤ m ∧ Hid (Ext wx wr)) (fun i _ => m - (intOf i).toNat)
        case atStart => exact ⟨0, rfl, by omega, hid hE5⟩
        case round =>
          clear hE5
          obtain ⟨i, rfl, hi, hE⟩ := hrel
          by_cases hlti : i < m
          · have hi2 : (i : Int) < (m : Int) := by omega
            have hil : i < th.length := by have := HNL.out; omega
            obtain ⟨x, hx⟩ : ∃ x, th[i]? = some x := ⟨_, List.getElem?_eq_getElem hil⟩
            have HCI := hid (HC1.out i x hx)
            have HMI := hid ((HML.out x).1 (List.mem_of_getElem? hx))
            clear hx
            have HON := hid (cnt_one HND.out HMI.out)
            go_wp2_with fail
            go_loopw [15, 16] (fun c jv wr => ∃ j : Nat, jv = .int .i64 j ∧ j ≤ m ∧ c = .int .i64 (cnt x (ps.take j) : Nat) ∧ Hid (Ext wx wr)) (fun _ jv _ => m - (intOf jv).toNat)
            case atStart => exact ⟨0, rfl, by omega, by simp [cnt], hE⟩
            case round =>
              clear hE
              obtain ⟨j, rfl, hj, rfl, hE⟩ := hrel
              by_cases hltj : j < m
              · have hj2 : (j : Int) < (m : Int) := by omega
                have hjl : j < ps.length := by have := HPL2.out; omega
                obtain ⟨y, hy⟩ : ∃ y, ps[j]? = some y := ⟨_, List.getElem?_eq_getElem hjl⟩
                have HCJ := hid (HC2.out j y hy)
                have HTK : Hid (cnt x (ps.take (j + 1)) = cnt x (ps.take j) + (if y = x then 1 else 0)) := hid (by
                  rw [List.take_add_one, hy, cnt_append]; simp [cnt])
                clear hy
                have hcb : cnt x (ps.take j) ≤ 12 := by
                  have h5 : ∀ l : List Int, cnt x l ≤ l.length := by
                    intro l; induction l with
                    | nil => simp [cnt]
                    | cons a l ih => simp only [cnt, List.length_cons]; split <;> omega
                  have := h5 (ps.take j); simp at this; omega
                generalize cnt x (ps.take j) = c0 at *
                go_wp2_with fail
                refine reg_begin 9 (by kernel_rfl) ?_
                generalize hW : World.drew _ = W
                have HE := hid (by rw [← hW]; exact hE.out.trans (Ext.drew _) : Ext wx W)
                clear hW hE
                have HI1 := hid (HE.out.cell HCI.out)
                have HJ1 := hid (HE.out.cell HCJ.out)
                refine reg_quiet 0 rfl (by kernel_rfl) (by kernel_rfl) ?_
                apply Exists.intro
                refine ⟨fun w' hw' => ?_, ?_⟩
                · go_simp
                  exact ⟨rfl, Ext.refl _⟩
                refine reg_quiet 1 rfl (by kernel_rfl) (by kernel_rfl) ?_
                apply Exists.intro
                refine ⟨fun w' hw' => ?_, ?_⟩
                · go_simp
                  exact ⟨rfl, Ext.refl _⟩
                refine reg_quiet 2 rfl (by kernel_rfl) (by kernel_rfl) ?_
                apply Exists.intro
                refine ⟨fun w' hw' => ?_, ?_⟩
                · go_simp
                  exact ⟨rfl, Ext.refl _⟩
                refine reg_quiet 3 rfl (by kernel_rfl) (by kernel_rfl) ?_
                apply Exists.intro
                refine ⟨fun w' hw' => ?_, ?_⟩
                · have q0 := hw'.cell HJ1.out
                  go_simp
                  exact ⟨rfl, Ext.refl _⟩
                refine reg_quiet 4 rfl (by kernel_rfl) (by kernel_rfl) ?_
                apply Exists.intro
                refine ⟨fun w' hw' => ?_, ?_⟩
                · go_simp
                  exact ⟨rfl, Ext.refl _⟩
                refine reg_quiet 5 rfl (by kernel_rfl) (by kernel_rfl) ?_
                apply Exists.intro
                refine ⟨fun w' hw' => ?_, ?_⟩
                · go_simp
                  exact ⟨rfl, Ext.refl _⟩
                refine reg_quiet 6 rfl (by kernel_rfl) (by kernel_rfl) ?_
                apply Exists.intro
                refine ⟨fun w' hw' => ?_, ?_⟩
                · go_simp
                  exact ⟨rfl, Ext.refl _⟩
                refine reg_quiet 7 rfl (by kernel_rfl) (by kernel_rfl) ?_
                apply Exists.intro
                refine ⟨fun w' hw' => ?_, ?_⟩
                · have q0 := hw'.cell HI1.out
                  go_simp
                  exact ⟨rfl, Ext.refl _⟩
                refine reg_quiet 8 rfl (by kernel_rfl) (by kernel_rfl) ?_
                apply Exists.intro
                refine ⟨fun w' hw' => ?_, ?_⟩
                · go_simp
                  exact ⟨rfl, Ext.refl _⟩
                refine reg_done (by kernel_rfl) (fun w6 hw6 => ?_) _
                replace HE := hid (HE.out.trans hw6)
                clear hw6 HI1 HJ1
                have v1 : IntKind.i64.wrap ((c0 : Int) + 1) = (c0 : Int) + 1 := by rw [IntKind.wrap_i64]; omega
                by_cases hyx : y = x
                · have HTK2 := hid (HTK.out.trans (by rw [if_pos hyx]))
                  clear HTK
                  subst hyx
                  go_simp
                  go_wp2_with fail
                  go_roundw
                  case rel => exact ⟨j + 1, by go_num, by omega, by rw [HTK2.out]; go_num, HE⟩
                  case measure => simp [intOf]; omega
                · have HTK2 := hid (HTK.out.trans (by rw [if_neg hyx]))
                  clear HTK
                  go_simp
                  go_wp2_with fail
                  go_roundw
                  case rel => exact ⟨j + 1, by go_num, by omega, by rw [HTK2.out]; go_num, HE⟩
                  case measure => simp [intOf]; omega
              · have hj2 : ¬ (j : Int) < (m : Int) := by omega
                have hcj : cnt x (ps.take j) = 1 := by rw [List.take_of_length_le (by have := HPL2.out; omega)]; exact HON.out
                rw [hcj]
                clear hcj
                have q0 := hE.out.cell HCI.out
                go_wp2_with fail
                refine ((HPX.out.st.later hE.out).has x).mono ?_
                rintro e w7 ⟨rfl, hE7⟩
                rw [decide_eq_true (by rw [HPS.out]; exact HMI.out)]
                have HE := hid (hE.out.trans hE7)
                clear hE hE7 q0
                go_wp2_with fail
                go_roundw
                case rel => exact ⟨i + 1, by go_num, by omega, HE⟩
                case measure => simp [intOf]; omega
          · have hi2 : ¬ (i : Int) < (m : Int) := by omega
            go_wp2_with fail
            refine ((HPX.out.st.later hE.out).places 50 80 (by decide) (by decide)).mono ?_
            rintro e w7 ⟨v7, rfl, ho7, hE7⟩
            have HX := hid (hE.out.trans hE7)
            have HO7 := hid ho7
            have hbase : Hid (∀ q ∈ t.blocks, q < wr.heap.size) := hid ((HPX.out.st.later hE.out).tr.at_.at_.lt)
            clear ho7 hE7
            rw [panes_len t (allB 50 80)] at HO7
            have HPLC := hid (ren_places)
            have HLL : Hid ((t.places (allB 50 80)).length ≤ 1000) := hid (by rw [← panes_len t (allB 50 80), HPS.out, HPL2.out]; omega)
            obtain ⟨i1, hi1, hi1'⟩ := idx_of a m (by omega)
            obtain ⟨i2, hi2a, hi2'⟩ := idx_of b m (by omega)
            have HI1 := hid hi1
            have HI2 := hid hi2a
            obtain ⟨p1, hp1⟩ : ∃ y, ps[i1]? = some y := ⟨_, List.getElem?_eq_getElem (by have := HPL2.out; omega)⟩
            obtain ⟨p2, hp2⟩ : ∃ y, ps[i2]? = some y := ⟨_, List.getElem?_eq_getElem (by have := HPL2.out; omega)⟩
            have HC1p := hid (HX.out.cell (HC2.out i1 p1 hp1))
            have HC2p := hid (HX.out.cell (HC2.out i2 p2 hp2))
            have HM1 : Hid (p1 ∈ t.panes) := hid (by rw [HPS.out]; exact List.mem_of_getElem? hp1)
            have HM2 : Hid (p2 ∈ t.panes) := hid (by rw [HPS.out]; exact List.mem_of_getElem? hp2)
            clear hi1 hi2a hp1 hp2
            have hb1 : (i1 : Int) < (m : Int) := by omega
            have hb2 : (i2 : Int) < (m : Int) := by omega
            go_wp2_with fail
            refine reg_begin 15 (by kernel_rfl) ?_
            generalize hW : World.drew _ = W
            have HXW := hid (by rw [← hW]; exact HX.out.trans (Ext.drew _) : Ext wx W)
            have HOW : Hid (W.ownsRow wr.heap.size 32 4 v7 (t.places (allB 50 80)).length ((t.places (allB 50 80)).flatMap Bx.vals)) := hid (by rw [← hW]; exact own_ext (Ext.drew _) HO7.out)
            have HC1w : Hid (W.cell? ⟨g2, i1, none⟩ = some (.int .i64 p1)) := hid (by rw [← hW]; exact HC1p.out)
            have HC2w : Hid (W.cell? ⟨g2, i2, none⟩ = some (.int .i64 p2)) := hid (by rw [← hW]; exact HC2p.out)
            clear hW HX HO7 HC1p HC2p
            refine reg_quiet 0 rfl (by kernel_rfl) (by kernel_rfl) ?_
            apply Exists.intro
            refine ⟨fun w' hw' => ?_, ?_⟩
            · go_simp
              exact ⟨rfl, Ext.refl _⟩
            refine reg_quiet 1 rfl (by kernel_rfl) (by kernel_rfl) ?_
            apply Exists.intro
            refine ⟨fun w' hw' => ?_, ?_⟩
            · go_simp
              exact ⟨rfl, Ext.refl _⟩
            refine reg_quiet 2 rfl (by kernel_rfl) (by kernel_rfl) ?_
            apply Exists.intro
            refine ⟨fun w' hw' => ?_, ?_⟩
            · go_simp
              exact ⟨rfl, Ext.refl _⟩
            refine reg_quiet 3 rfl (by kernel_rfl) (by kernel_rfl) ?_
            apply Exists.intro
            refine ⟨fun w' hw' => ?_, ?_⟩
            · go_simp
              exact ⟨rfl, Ext.refl _⟩
            refine reg_quiet 4 rfl (by kernel_rfl) (by kernel_rfl) ?_
            apply Exists.intro
            refine ⟨fun w' hw' => ?_, ?_⟩
            · go_simp
              exact ⟨rfl, Ext.refl _⟩
            refine reg_quiet 5 rfl (by kernel_rfl) (by kernel_rfl) ?_
            apply Exists.intro
            refine ⟨fun w' hw' => ?_, ?_⟩
            · go_simp
              exact pick_idx HI1.out (by omega) (by omega) w'
            refine reg_quiet 6 rfl (by kernel_rfl) (by kernel_rfl) ?_
            apply Exists.intro
            refine ⟨fun w' hw' => ?_, ?_⟩
            · go_simp
              exact ⟨rfl, Ext.refl _⟩
            refine reg_quiet 7 rfl (by kernel_rfl) (by kernel_rfl) ?_
            apply Exists.intro
            refine ⟨fun w' hw' => ?_, ?_⟩
            · have q0 := hw'.cell HC1w.out
              go_simp
              exact ⟨rfl, Ext.refl _⟩
            refine reg_quiet 8 rfl (by kernel_rfl) (by kernel_rfl) ?_
            apply Exists.intro
            refine ⟨fun w' hw' => ?_, ?_⟩
            · go_simp
              exact ⟨rfl, Ext.refl _⟩
            refine reg_quiet 9 rfl (by kernel_rfl) (by kernel_rfl) ?_
            apply Exists.intro
            refine ⟨fun w' hw' => ?_, ?_⟩
            · go_simp
              exact ⟨rfl, Ext.refl _⟩
            refine reg_quiet 10 rfl (by kernel_rfl) (by kernel_rfl) ?_
            apply Exists.intro
            refine ⟨fun w' hw' => ?_, ?_⟩
            · go_simp
              exact ⟨rfl, Ext.refl _⟩
            refine reg_quiet 11 rfl (by kernel_rfl) (by kernel_rfl) ?_
            apply Exists.intro
            refine ⟨fun w' hw' => ?_, ?_⟩
            · go_simp
              exact ⟨rfl, Ext.refl _⟩
            refine reg_quiet 12 rfl (by kernel_rfl) (by kernel_rfl) ?_
            apply Exists.intro
            refine ⟨fun w' hw' => ?_, ?_⟩
            · go_simp
              exact pick_idx HI2.out (by omega) (by omega) w'
            refine reg_quiet 13 rfl (by kernel_rfl) (by kernel_rfl) ?_
            apply Exists.intro
            refine ⟨fun w' hw' => ?_, ?_⟩
            · go_simp
              exact ⟨rfl, Ext.refl _⟩
            refine reg_quiet 14 rfl (by kernel_rfl) (by kernel_rfl) ?_
            apply Exists.intro
            refine ⟨fun w' hw' => ?_, ?_⟩
            · have q0 := hw'.cell HC2w.out
              go_simp
              exact ⟨rfl, Ext.refl _⟩
            refine reg_one 15 rfl (by kernel_rfl) rfl (fun w' hw' => ?_)
            go_simp
            refine ((HPX.out.st.later (HXW.out.trans hw')).swap (by rw [HPS.out]; exact HND.out) p1 p2).mono ?_
            rintro e w8 ⟨rfl, hS8, hW8⟩
            rw [swap_ok HM1.out HM2.out] at hS8 hW8 ⊢
            dsimp only at hS8 hW8 ⊢
            have HO8 := hid (own_same (own_ext hw' HOW.out) (fun k hk => hW8.block k ((own_ext hw' HOW.out).lt k hk).2 (fun h' => by have := hbase.out k h'; have := (HOW.out.lt k hk).1; omega)))
            have HS8 := hid hS8
            clear hS8 hW8 hw' HOW HXW HC1w HC2w
            refine reg_quiet 16 rfl (by kernel_rfl) (by kernel_rfl) ?_
            apply Exists.intro
            refine ⟨fun w' hw' => ?_, ?_⟩
            · go_simp
              exact ⟨rfl, Ext.refl _⟩
            refine reg_done (by kernel_rfl) (fun w9 hw9 => ?_) _
            replace HS8 := hid (HS8.out.later hw9)
            replace HO8 := hid (own_ext hw9 HO8.out)
            clear hw9
            go_simp
            go_wp2_with fail
            refine (HS8.out.places 50 80 (by decide) (by decide)).mono ?_
            rintro e w10 ⟨v10, rfl, ho10, hE10⟩
            rw [ren_panes, List.length_map, ren_places, panes_len t (allB 50 80)] at ho10
            have HO10 := hid ho10
            replace HS8 := hid (HS8.out.later hE10)
            replace HO8 := hid (own_ext hE10 HO8.out)
            clear ho10 hE10
            go_wp2_with fail
            refine (rects_same v7 v10 _ _ _ w10 HLL.out HO8.out HO10.out).mono ?_
            rintro e w11 ⟨rfl, hE11⟩
            have HS11 := hid (HS8.out.later hE11)
            clear hE11
            go_wp2_with fail
            go_ret
            exact ⟨rfl, HS11.out.ext⟩

end Go.Proofs.YtflbfmfaccaffaaDoor
