/-
  The walk of LayoutBack.
-/
import Derived.Test.YtflbfmfaccaffaaDoorL16
namespace Go.Proofs.YtflbfmfaccaffaaDoor
open Go Go.RowKit
attribute [local go_sem] extUpon
attribute [local go_sem ↓] eval_put_ne eval_put_none eval_put_same size_put eval_const

theorem panes_row {w : World} {B : Nat} {v : Value} {ps : List Int} (h : w.ownsRow B 3 1 v ps.length (ps.map (Value.int .i64))) (hn : 0 < ps.length) :
    ∃ g cap, v = .slice (some ⟨g, 0, none⟩) ps.length cap ∧ (B ≤ g ∧ g < w.heap.size) ∧ ∀ i (hi : i < ps.length), w.cell? ⟨g, i, none⟩ = some (.int .i64 ps[i]) := by
  obtain ⟨a, cap, rfl, hc⟩ := own_form h
  obtain ⟨g, rfl, hcc⟩ := hc hn
  exact ⟨g, cap, rfl, h.lt g rfl, fun i hi => hcc i _ (by rw [List.getElem?_map, List.getElem?_eq_getElem hi]; rfl)⟩
theorem panes_row' {w : World} {B : Nat} {v : Value} {ps : List Int} (h : w.ownsRow B 3 1 v ps.length (ps.map (Value.int .i64))) (hn : 0 < ps.length) :
    ∃ g cap, v = .slice (some ⟨g, 0, none⟩) ps.length cap ∧ (B ≤ g ∧ g < w.heap.size) ∧ ∀ i : Nat, i < ps.length → ∃ p, p ∈ ps ∧ w.cell? ⟨g, i, none⟩ = some (.int .i64 p) := by
  obtain ⟨g, cap, h1, h2, h3⟩ := panes_row h hn
  exact ⟨g, cap, h1, h2, fun i hi => ⟨ps[i], List.getElem_mem hi, h3 i hi⟩⟩
theorem pick_idx {a : Int} {n i : Nat} (hi : a % (n : Int) = i) (hn : 0 < n) (hn1 : n ≤ 1000) (w : World) : Calls Tryd.prog 9 #[.int .i64 a, .int .i64 n] w fun e w' => e = .returned (.int .i64 (i : Int)) ∧ Ext w w' :=
  (pick_any a n w (by omega) (by omega)).mono fun _ _ ⟨h1, h2⟩ => ⟨hi ▸ h1, h2 ▸ Ext.refl _⟩
theorem sw_nodup {a b : Int} {l : List Int} (h : l.Nodup) : (l.map (sw a b)).Nodup :=
  List.Pairwise.map _ (fun x y hxy e => hxy (by have := congrArg (sw a b) e; rwa [sw_sw, sw_sw] at this)) h
theorem sw_left (a b : Int) : sw a b a = b := by simp [sw]
theorem sw_right (a b : Int) : sw a b b = a := by unfold sw; split <;> simp_all
theorem swap_ok {t : LT} {a b : Int} (ha : a ∈ t.panes) (hb : b ∈ t.panes) : t.swap a b = (0, t.ren (sw a b)) := by simp [LT.swap, ha, hb]
theorem swap_back {t : LT} {a b : Int} (ha : a ∈ t.panes) (hb : b ∈ t.panes) : (t.ren (sw a b)).swap a b = (0, t) := by
  have h1 : a ∈ (t.ren (sw a b)).panes := by rw [ren_panes]; exact List.mem_map.2 ⟨b, hb, sw_right a b⟩
  have h2 : b ∈ (t.ren (sw a b)).panes := by rw [ren_panes]; exact List.mem_map.2 ⟨a, ha, sw_left a b⟩
  rw [swap_ok h1 h2, ren_ren, ren_id (sw_sw a b)]

/-- Panes in bounds, each once. -/
structure Fine (t : LT) (k : Int) : Prop where
  nodup : t.panes.Nodup
  range : ∀ p ∈ t.panes, 0 ≤ p ∧ p ≤ k
theorem Fine.step {t : LT} {k : Int} (h : Fine t k) (p : Int) (a : Bool) (R : Bx) (b1 b2 : Nat) : Fine (t.split p (k + 1) a R b1 b2).2 (k + 1) := by
  rcases split_panes t p (k + 1) a R b1 b2 with ⟨h1, _⟩ | ⟨hm, _, _, l, r, h1, h2⟩
  · rw [h1]; exact ⟨h.nodup, fun p hp => by have := h.range p hp; omega⟩
  · have hn := h.nodup
    have hr := h.range
    refine ⟨?_, fun q hq => ?_⟩
    · rw [h2]
      rw [h1] at hn hm
      simp only [List.nodup_append, List.nodup_cons, List.mem_cons, List.mem_append, not_or] at hn hm ⊢
      refine ⟨hn.1, ⟨⟨fun e => hm.2.1 e.symm, hn.2.1.1⟩, hm.2.2, hn.2.1.2⟩, fun x hx y hy => ?_⟩
      rcases hy with rfl | rfl | hy
      · exact hn.2.2 x hx y (.inl rfl)
      · rintro rfl; exact hm.1 hx
      · exact hn.2.2 x hx y (.inr hy)
    · rw [h2] at hq
      simp only [List.mem_append, List.mem_cons] at hq
      have h3 : ∀ x ∈ t.panes, 0 ≤ x ∧ x ≤ k + 1 := fun x hx => by have := hr x hx; omega
      have hk : 0 ≤ k := by have := hr p (by rw [h1]; simp); omega
      rw [h1] at h3
      rcases hq with hq | rfl | rfl | hq
      · exact h3 q (by simp [hq])
      · exact h3 q (by simp)
      · omega
      · exact h3 q (by simp [hq])


set_option maxHeartbeats 8000000 in
set_option maxRecDepth 100000 in
theorem LayoutBack_walk (av : Option Addr) (cap : Nat) (l : List Stp) (a : Int) (across : Bool) (w : World) (hT : TabW w) (hl : l.length ≤ 9223372036854775807) (hr : StpAt w av l) :
    Calls Tryd.prog 4 #[.slice av l.length cap, .int .i64 a, .bool across] w fun e w' => e = .returned (.bool true) ∧ Ext w w' := by
  have HT := hid hT
  have HR := hid hr
  clear hT hr
  go_enter Tryd.func4, Tryd.ntmps4
  go_wp2_with fail
  refine (St.new w 0 (by decide) (Ext.refl w)).mono ?_
  rintro e w1 ⟨tb, rfl, hS, _⟩
  go_wp2_with fail
  refine (known22 w1 (HT.out.later hS.ext)).mono ?_
  rintro e w2 ⟨rfl, hE⟩
  replace hS := hS.later hE
  clear hE
  go_wp2_with fail
  go_loopw [8] (fun i wr => ∃ (k : Nat) (t : LT), i = .int .i64 k ∧ k ≤ l.length ∧ k ≤ 8 ∧ Hid (St w wr (tb + 1) t) ∧ Hid (Fine t k)) (fun i _ => 8 - (intOf i).toNat)
  case atStart => exact ⟨0, .leaf tb 0, rfl, by omega, by omega, hid hS, hid ⟨by simp [LT.panes], by simp [LT.panes]⟩⟩
  case round =>
    clear hS
    obtain ⟨k, t, rfl, hk1, hk2, hS, hF⟩ := hrel
    by_cases hlt : k < l.length ∧ k < 8
    · obtain ⟨hlt1, hlt2⟩ := hlt
      obtain ⟨sb, so, rfl, c0, c1, c2, c3, c4, c5, c6⟩ := HR.out k hlt1
      have HC1 := hid (hS.out.ext.cell c1)
      have HC3 := hid (hS.out.ext.cell c3)
      clear c0 c1 c2 c3 c4 c5 c6
      generalize l[k].a = sa at *
      generalize l[k].across = sx at *
      have hm := hS.out.tr.many
      have hn := panes_pos t
      obtain ⟨i, hi, hi'⟩ := idx_of sa t.panes.length hn
      have HI := hid hi
      clear hi
      have hlt3 : (k : Int) < (l.length : Int) := by omega
      go_wp2_with fail
      refine hS.out.panes.mono ?_
      rintro e w3 ⟨v, rfl, ho, hE3⟩
      obtain ⟨g, cap2, rfl, hg, hc⟩ := panes_row ho hn
      have HP := hid (hc i hi')
      have HS3 := hid (hS.out.later hE3)
      replace HC1 := hid (hE3.cell HC1.out)
      replace HC3 := hid (hE3.cell HC3.out)
      clear ho hc hE3 hg
      generalize hpi : t.panes[i] = p at *
      clear hpi
      generalize hnn : t.panes.length = n at *
      clear hnn
      have hi2 : (i : Int) < (n : Int) := by omega
      have v1 : IntKind.i64.wrap ((k : Int) + 1) = (k : Int) + 1 := by rw [IntKind.wrap_i64]; omega
      go_wp2_with fail
      refine reg_begin 19 (by kernel_rfl) ?_
      generalize hW : World.drew _ = W
      replace HS3 := hid (by rw [← hW]; exact HS3.out.later (Ext.drew _) : St w W (tb + 1) t)
      have hd : ∀ a v, w3.cell? a = some v → W.cell? a = some v := by rw [← hW]; exact fun _ _ h => h
      replace HC1 := hid (hd _ _ HC1.out)
      replace HC3 := hid (hd _ _ HC3.out)
      replace HP := hid (hd _ _ HP.out)
      clear hd
      clear hW
      refine reg_quiet 0 rfl (by kernel_rfl) (by kernel_rfl) ?_
      apply Exists.intro
      refine ⟨fun w' hw' => ?_, ?_⟩
      · go_simp
        exact ⟨rfl, Ext.refl _⟩
      refine reg_quiet 1 rfl (by kernel_rfl) (by kernel_rfl) ?_
      apply Exists.intro
      refine ⟨fun w' hw' => ?_, ?_⟩
      · go_simp
        exact ⟨rfl, Ext.refl _⟩
      refine reg_quiet 2 rfl (by kernel_rfl) (by kernel_rfl) ?_
      apply Exists.intro
      refine ⟨fun w' hw' => ?_, ?_⟩
      · go_simp
        exact ⟨rfl, Ext.refl _⟩
      refine reg_quiet 3 rfl (by kernel_rfl) (by kernel_rfl) ?_
      apply Exists.intro
      refine ⟨fun w' hw' => ?_, ?_⟩
      · go_simp
        exact ⟨rfl, Ext.refl _⟩
      refine reg_quiet 4 rfl (by kernel_rfl) (by kernel_rfl) ?_
      apply Exists.intro
      refine ⟨fun w' hw' => ?_, ?_⟩
      · go_simp
        exact ⟨rfl, Ext.refl _⟩
      refine reg_quiet 5 rfl (by kernel_rfl) (by kernel_rfl) ?_
      apply Exists.intro
      refine ⟨fun w' hw' => ?_, ?_⟩
      · go_simp
        exact ⟨rfl, Ext.refl _⟩
      refine reg_quiet 6 rfl (by kernel_rfl) (by kernel_rfl) ?_
      apply Exists.intro
      refine ⟨fun w' hw' => ?_, ?_⟩
      · have q0 := hw'.cell HC1.out
        go_simp
        exact ⟨rfl, Ext.refl _⟩
      refine reg_quiet 7 rfl (by kernel_rfl) (by kernel_rfl) ?_
      apply Exists.intro
      refine ⟨fun w' hw' => ?_, ?_⟩
      · go_simp
        exact ⟨rfl, Ext.refl _⟩
      refine reg_quiet 8 rfl (by kernel_rfl) (by kernel_rfl) ?_
      apply Exists.intro
      refine ⟨fun w' hw' => ?_, ?_⟩
      · go_simp
        exact ⟨rfl, Ext.refl _⟩
      refine reg_quiet 9 rfl (by kernel_rfl) (by kernel_rfl) ?_
      apply Exists.intro
      refine ⟨fun w' hw' => ?_, ?_⟩
      · go_simp
        exact pick_idx HI.out (by omega) (by omega) w'
      refine reg_quiet 10 rfl (by kernel_rfl) (by kernel_rfl) ?_
      apply Exists.intro
      refine ⟨fun w' hw' => ?_, ?_⟩
      · go_simp
        exact ⟨rfl, Ext.refl _⟩
      refine reg_quiet 11 rfl (by kernel_rfl) (by kernel_rfl) ?_
      apply Exists.intro
      refine ⟨fun w' hw' => ?_, ?_⟩
      · have q0 := hw'.cell HP.out
        go_simp
        exact ⟨rfl, Ext.refl _⟩
      refine reg_quiet 12 rfl (by kernel_rfl) (by kernel_rfl) ?_
      apply Exists.intro
      refine ⟨fun w' hw' => ?_, ?_⟩
      · go_simp
        exact ⟨rfl, Ext.refl _⟩
      refine reg_quiet 13 rfl (by kernel_rfl) (by kernel_rfl) ?_
      apply Exists.intro
      refine ⟨fun w' hw' => ?_, ?_⟩
      · go_simp
        exact ⟨rfl, Ext.refl _⟩
      refine reg_quiet 14 rfl (by kernel_rfl) (by kernel_rfl) ?_
      apply Exists.intro
      refine ⟨fun w' hw' => ?_, ?_⟩
      · go_simp
        exact ⟨rfl, Ext.refl _⟩
      refine reg_quiet 15 rfl (by kernel_rfl) (by kernel_rfl) ?_
      apply Exists.intro
      refine ⟨fun w' hw' => ?_, ?_⟩
      · go_simp
        exact ⟨rfl, Ext.refl _⟩
      refine reg_quiet 16 rfl (by kernel_rfl) (by kernel_rfl) ?_
      apply Exists.intro
      refine ⟨fun w' hw' => ?_, ?_⟩
      · go_simp
        exact ⟨rfl, Ext.refl _⟩
      refine reg_quiet 17 rfl (by kernel_rfl) (by kernel_rfl) ?_
      apply Exists.intro
      refine ⟨fun w' hw' => ?_, ?_⟩
      · go_simp
        exact ⟨rfl, Ext.refl _⟩
      refine reg_quiet 18 rfl (by kernel_rfl) (by kernel_rfl) ?_
      apply Exists.intro
      refine ⟨fun w' hw' => ?_, ?_⟩
      · have q0 := hw'.cell HC3.out
        go_simp
        exact ⟨rfl, Ext.refl _⟩
      refine reg_one 19 rfl (by kernel_rfl) rfl (fun w' hw' => ?_)
      go_simp
      refine ((HS3.out.later hw').split p ((k : Int) + 1) 40 80 sx (by decide) (by decide) (by omega)).mono ?_
      rintro e w5 ⟨b1, b2, rfl, hS5, _⟩
      have HF5 := hid (hF.out.step p sx (allB 40 80) b1 b2)
      generalize t.split p (k + 1) sx (allB 40 80) b1 b2 = ts at *
      refine reg_done (by kernel_rfl) (fun w6 hw6 => ?_) _
      have HS6 := hid (hS5.later hw6)
      clear hS5 hw6 hw' HS3 HC1 HC3 HP hS hF
      go_simp
      go_wp2_with fail
      go_roundw
      case rel => exact ⟨k + 1, ts.2, by go_num, by omega, by omega, HS6, HF5⟩
      case measure => simp [intOf]; omega
    · have hm := hS.out.tr.many
      have hn := panes_pos t
      by_cases hk3 : k < l.length
      · have hk4 : k = 8 := by omega
        subst hk4
        have hlt3 : (8 : Int) < (l.length : Int) := by omega
        go_wp2_with fail
        refine hS.out.panes.mono ?_
        rintro e w3 ⟨v, rfl, ho, hE3⟩
        obtain ⟨g, cap2, rfl, hg, hc⟩ := panes_row' ho hn
        have HC := hid hc
        have HSt := hid (hS.out.later hE3)
        have HGT : Hid (∀ q ∈ t.blocks, q ≠ g) := hid (fun q hq e => by have := hS.out.tr.at_.at_.lt q hq; omega)
        have HGL := hid hg.2
        clear ho hc hE3 hg
        generalize hnn : t.panes.length = n at *
        have HNN := hid hnn
        clear hnn
        go_wp2_with fail
        refine (pick_any _ _ _ (by omega) (by omega)).mono ?_
        rintro e w4 ⟨rfl, rfl⟩
        generalize hX : (_ : Int) % ((n : Nat) : Int) = m
        have hm0 : 0 ≤ m := by rw [← hX]; exact Int.emod_nonneg _ (by omega)
        have hm1 : m < n := by rw [← hX]; exact Int.emod_lt_of_pos _ (by omega)
        clear hX
        obtain ⟨i, rfl⟩ : ∃ i : Nat, m = i := ⟨m.toNat, by omega⟩
        obtain ⟨p, hp, q0⟩ := HC.out i (by omega)
        have HPM := hid hp
        clear hp
        go_wp2_with fail
        clear q0 hm0 hm1
        refine (HSt.out.text HT.out).mono ?_
        rintro e w5 ⟨rfl, hE5⟩
        have HS5 := hid (HSt.out.later hE5)
        have HGB5 := hid (hE5.block g HGL.out)
        have HGL5 := hid (Nat.lt_of_lt_of_le HGL.out hE5.size)
        clear hE5
        go_wp2_with fail
        refine (HS5.out.split p 99 60 120 across (by decide) (by decide) (by decide)).mono ?_
        rintro e w6 ⟨b1, b2, rfl, hS6, hW6⟩
        have hgb6 := (hW6.block g HGL5.out (fun h => HGT.out _ h rfl)).trans HGB5.out
        have hgn6 : g ∉ (t.split p 99 across (allB 60 120) b1 b2).2.blocks := fun h => by
          rcases hW6.new g h with h' | h'
          · exact HGT.out _ h' rfl
          · have := HGL5.out; omega
        have hgl6 := Nat.lt_of_lt_of_le HGL5.out hW6.size
        rcases split_cases t p 99 across (allB 60 120) b1 b2 with ⟨hs, hcode⟩ | ⟨hp, hmm, hlen, bb, kk, htip, hpl, hs⟩
        · rw [hs] at hS6
          have HS6 := hid hS6
          have HGB := hid hgb6
          clear hS6 hW6 hs hgn6 hgb6 hgl6
          generalize (t.split p 99 across (allB 60 120) b1 b2).1 = code at *
          go_wp2_with fail
          refine (pick_any _ _ _ (by omega) (by omega)).mono ?_
          rintro e w7 ⟨rfl, rfl⟩
          generalize hX : (_ : Int) % ((n : Nat) : Int) = m
          have hm0 : 0 ≤ m := by rw [← hX]; exact Int.emod_nonneg _ (by omega)
          have hm1 : m < n := by rw [← hX]; exact Int.emod_lt_of_pos _ (by omega)
          clear hX
          obtain ⟨j, rfl⟩ : ∃ j : Nat, m = j := ⟨m.toNat, by omega⟩
          obtain ⟨q, hq, hqc⟩ := HC.out j (by omega)
          have q1 : w6.cell? ⟨g, j, none⟩ = some (.int .i64 q) := (World.cell?_of_block (a := ⟨g, j, none⟩) HGB.out).trans hqc
          have HQ := hid hq
          clear hq hqc
          go_wp2_with fail
          refine (HS6.out.swap hF.out.nodup p q).mono ?_
          rintro e w8 ⟨rfl, hS8, _⟩
          rw [swap_ok HPM.out HQ.out] at hS8 ⊢
          dsimp only at hS8 ⊢
          have HS8 := hid hS8
          clear hS8
          go_wp2_with fail
          refine (HS8.out.swap (by rw [ren_panes]; exact sw_nodup hF.out.nodup) p q).mono ?_
          rintro e w9 ⟨rfl, hS9, _⟩
          rw [swap_back HPM.out HQ.out] at hS9 ⊢
          dsimp only at hS9 ⊢
          have HS9 := hid hS9
          clear hS9
          go_wp2_with fail
          refine (HS9.out.text HT.out).mono ?_
          rintro e w10 ⟨rfl, hE10⟩
          have HS10 := hid (HS9.out.later hE10)
          clear hE10
          go_wp2_with fail
          go_ret
          exact ⟨rfl, HS10.out.ext⟩
        · have hkl := split_kill t p 99 bb b1 b2 across kk (fun e => by subst e; exact hmm hp) hmm hpl
          have hpn : (plug (t.path p) (.node bb (.leaf b1 p) (.leaf b2 99) across kk)).panes.length = n + 1 := by
            have h5 := plug_panes (t.path p) (.leaf bb p)
            rw [hpl] at h5
            rw [plug_panes]
            have h6 := congrArg List.length h5
            have h7 := HNN.out
            simp [LT.panes] at h6 ⊢
            omega
          rw [hs] at hS6 hgn6 ⊢
          dsimp only at hS6 hgn6 ⊢
          clear hW6 hs hp hmm hlen htip hpl
          generalize plug (t.path p) (.node bb (.leaf b1 p) (.leaf b2 99) across kk) = t' at *
          have HKL := hid hkl
          have HPN := hid hpn
          have HS6a := hid hS6
          have HGN := hid hgn6
          have HGBa := hid hgb6
          have HGLa := hid hgl6
          clear hkl hpn hS6 hgn6 hgb6 hgl6
          go_wp2_with fail
          refine HS6a.out.panes.mono ?_
          rintro e w7 ⟨v7, rfl, ho7, hE7⟩
          rw [HPN.out] at ho7
          obtain ⟨sa7, cap7, rfl, _⟩ := own_form ho7
          have HS7 := hid (HS6a.out.later hE7)
          have HGB7 := hid ((hE7.block g HGLa.out).trans HGBa.out)
          have HGL7 := hid (Nat.lt_of_lt_of_le HGLa.out hE7.size)
          clear ho7 hE7 HS6a HGBa HGLa
          have v7 : IntKind.i64.wrap ((n : Int) + 1) = (n : Int) + 1 := by rw [IntKind.wrap_i64]; omega
          go_wp2_with fail
          refine (HS7.out.kill 99).mono ?_
          rintro e w8 ⟨rfl, hS8, hW8⟩
          rw [HKL.out] at hS8 ⊢
          dsimp only at hS8 ⊢
          have HS8 := hid hS8
          have HGB8 := hid ((hW8.block g HGL7.out HGN.out).trans HGB7.out)
          have HGL8 := hid (Nat.lt_of_lt_of_le HGL7.out hW8.size)
          clear hS8 hW8
          go_wp2_with fail
          refine (HS8.out.text HT.out).mono ?_
          rintro e w6 ⟨rfl, hE6⟩
          have HS6 := hid (HS8.out.later hE6)
          have HGB := hid ((hE6.block g HGL8.out).trans HGB8.out)
          clear hE6 HS8 HGB8 HGL8 HS7 HGB7 HGL7
          go_wp2_with fail
          refine (pick_any _ _ _ (by omega) (by omega)).mono ?_
          rintro e w7 ⟨rfl, rfl⟩
          generalize hX : (_ : Int) % ((n : Nat) : Int) = m
          have hm0 : 0 ≤ m := by rw [← hX]; exact Int.emod_nonneg _ (by omega)
          have hm1 : m < n := by rw [← hX]; exact Int.emod_lt_of_pos _ (by omega)
          clear hX
          obtain ⟨j, rfl⟩ : ∃ j : Nat, m = j := ⟨m.toNat, by omega⟩
          obtain ⟨q, hq, hqc⟩ := HC.out j (by omega)
          have q1 : w6.cell? ⟨g, j, none⟩ = some (.int .i64 q) := (World.cell?_of_block (a := ⟨g, j, none⟩) HGB.out).trans hqc
          have HQ := hid hq
          clear hq hqc
          go_wp2_with fail
          refine (HS6.out.swap hF.out.nodup p q).mono ?_
          rintro e w8 ⟨rfl, hS8, _⟩
          rw [swap_ok HPM.out HQ.out] at hS8 ⊢
          dsimp only at hS8 ⊢
          have HS8 := hid hS8
          clear hS8
          go_wp2_with fail
          refine (HS8.out.swap (by rw [ren_panes]; exact sw_nodup hF.out.nodup) p q).mono ?_
          rintro e w9 ⟨rfl, hS9, _⟩
          rw [swap_back HPM.out HQ.out] at hS9 ⊢
          dsimp only at hS9 ⊢
          have HS9 := hid hS9
          clear hS9
          go_wp2_with fail
          refine (HS9.out.text HT.out).mono ?_
          rintro e w10 ⟨rfl, hE10⟩
          have HS10 := hid (HS9.out.later hE10)
          clear hE10
          go_wp2_with fail
          go_ret
          exact ⟨rfl, HS10.out.ext⟩
      · have hk4 : k = l.length := by omega
        subst hk4
        go_wp2_with fail
        refine hS.out.panes.mono ?_
        rintro e w3 ⟨v, rfl, ho, hE3⟩
        obtain ⟨g, cap2, rfl, hg, hc⟩ := panes_row' ho hn
        have HC := hid hc
        have HSt := hid (hS.out.later hE3)
        have HGT : Hid (∀ q ∈ t.blocks, q ≠ g) := hid (fun q hq e => by have := hS.out.tr.at_.at_.lt q hq; omega)
        have HGL := hid hg.2
        clear ho hc hE3 hg
        generalize hnn : t.panes.length = n at *
        have HNN := hid hnn
        clear hnn
        go_wp2_with fail
        refine (pick_any _ _ _ (by omega) (by omega)).mono ?_
        rintro e w4 ⟨rfl, rfl⟩
        generalize hX : (_ : Int) % ((n : Nat) : Int) = m
        have hm0 : 0 ≤ m := by rw [← hX]; exact Int.emod_nonneg _ (by omega)
        have hm1 : m < n := by rw [← hX]; exact Int.emod_lt_of_pos _ (by omega)
        clear hX
        obtain ⟨i, rfl⟩ : ∃ i : Nat, m = i := ⟨m.toNat, by omega⟩
        obtain ⟨p, hp, q0⟩ := HC.out i (by omega)
        have HPM := hid hp
        clear hp
        go_wp2_with fail
        clear q0 hm0 hm1
        refine (HSt.out.text HT.out).mono ?_
        rintro e w5 ⟨rfl, hE5⟩
        have HS5 := hid (HSt.out.later hE5)
        have HGB5 := hid (hE5.block g HGL.out)
        have HGL5 := hid (Nat.lt_of_lt_of_le HGL.out hE5.size)
        clear hE5
        go_wp2_with fail
        refine (HS5.out.split p 99 60 120 across (by decide) (by decide) (by decide)).mono ?_
        rintro e w6 ⟨b1, b2, rfl, hS6, hW6⟩
        have hgb6 := (hW6.block g HGL5.out (fun h => HGT.out _ h rfl)).trans HGB5.out
        have hgn6 : g ∉ (t.split p 99 across (allB 60 120) b1 b2).2.blocks := fun h => by
          rcases hW6.new g h with h' | h'
          · exact HGT.out _ h' rfl
          · have := HGL5.out; omega
        have hgl6 := Nat.lt_of_lt_of_le HGL5.out hW6.size
        rcases split_cases t p 99 across (allB 60 120) b1 b2 with ⟨hs, hcode⟩ | ⟨hp, hmm, hlen, bb, kk, htip, hpl, hs⟩
        · rw [hs] at hS6
          have HS6 := hid hS6
          have HGB := hid hgb6
          clear hS6 hW6 hs hgn6 hgb6 hgl6
          generalize (t.split p 99 across (allB 60 120) b1 b2).1 = code at *
          go_wp2_with fail
          refine (pick_any _ _ _ (by omega) (by omega)).mono ?_
          rintro e w7 ⟨rfl, rfl⟩
          generalize hX : (_ : Int) % ((n : Nat) : Int) = m
          have hm0 : 0 ≤ m := by rw [← hX]; exact Int.emod_nonneg _ (by omega)
          have hm1 : m < n := by rw [← hX]; exact Int.emod_lt_of_pos _ (by omega)
          clear hX
          obtain ⟨j, rfl⟩ : ∃ j : Nat, m = j := ⟨m.toNat, by omega⟩
          obtain ⟨q, hq, hqc⟩ := HC.out j (by omega)
          have q1 : w6.cell? ⟨g, j, none⟩ = some (.int .i64 q) := (World.cell?_of_block (a := ⟨g, j, none⟩) HGB.out).trans hqc
          have HQ := hid hq
          clear hq hqc
          go_wp2_with fail
          refine (HS6.out.swap hF.out.nodup p q).mono ?_
          rintro e w8 ⟨rfl, hS8, _⟩
          rw [swap_ok HPM.out HQ.out] at hS8 ⊢
          dsimp only at hS8 ⊢
          have HS8 := hid hS8
          clear hS8
          go_wp2_with fail
          refine (HS8.out.swap (by rw [ren_panes]; exact sw_nodup hF.out.nodup) p q).mono ?_
          rintro e w9 ⟨rfl, hS9, _⟩
          rw [swap_back HPM.out HQ.out] at hS9 ⊢
          dsimp only at hS9 ⊢
          have HS9 := hid hS9
          clear hS9
          go_wp2_with fail
          refine (HS9.out.text HT.out).mono ?_
          rintro e w10 ⟨rfl, hE10⟩
          have HS10 := hid (HS9.out.later hE10)
          clear hE10
          go_wp2_with fail
          go_ret
          exact ⟨rfl, HS10.out.ext⟩
        · have hkl := split_kill t p 99 bb b1 b2 across kk (fun e => by subst e; exact hmm hp) hmm hpl
          have hpn : (plug (t.path p) (.node bb (.leaf b1 p) (.leaf b2 99) across kk)).panes.length = n + 1 := by
            have h5 := plug_panes (t.path p) (.leaf bb p)
            rw [hpl] at h5
            rw [plug_panes]
            have h6 := congrArg List.length h5
            have h7 := HNN.out
            simp [LT.panes] at h6 ⊢
            omega
          rw [hs] at hS6 hgn6 ⊢
          dsimp only at hS6 hgn6 ⊢
          clear hW6 hs hp hmm hlen htip hpl
          generalize plug (t.path p) (.node bb (.leaf b1 p) (.leaf b2 99) across kk) = t' at *
          have HKL := hid hkl
          have HPN := hid hpn
          have HS6a := hid hS6
          have HGN := hid hgn6
          have HGBa := hid hgb6
          have HGLa := hid hgl6
          clear hkl hpn hS6 hgn6 hgb6 hgl6
          go_wp2_with fail
          refine HS6a.out.panes.mono ?_
          rintro e w7 ⟨v7, rfl, ho7, hE7⟩
          rw [HPN.out] at ho7
          obtain ⟨sa7, cap7, rfl, _⟩ := own_form ho7
          have HS7 := hid (HS6a.out.later hE7)
          have HGB7 := hid ((hE7.block g HGLa.out).trans HGBa.out)
          have HGL7 := hid (Nat.lt_of_lt_of_le HGLa.out hE7.size)
          clear ho7 hE7 HS6a HGBa HGLa
          have v7 : IntKind.i64.wrap ((n : Int) + 1) = (n : Int) + 1 := by rw [IntKind.wrap_i64]; omega
          go_wp2_with fail
          refine (HS7.out.kill 99).mono ?_
          rintro e w8 ⟨rfl, hS8, hW8⟩
          rw [HKL.out] at hS8 ⊢
          dsimp only at hS8 ⊢
          have HS8 := hid hS8
          have HGB8 := hid ((hW8.block g HGL7.out HGN.out).trans HGB7.out)
          have HGL8 := hid (Nat.lt_of_lt_of_le HGL7.out hW8.size)
          clear hS8 hW8
          go_wp2_with fail
          refine (HS8.out.text HT.out).mono ?_
          rintro e w6 ⟨rfl, hE6⟩
          have HS6 := hid (HS8.out.later hE6)
          have HGB := hid ((hE6.block g HGL8.out).trans HGB8.out)
          clear hE6 HS8 HGB8 HGL8 HS7 HGB7 HGL7
          go_wp2_with fail
          refine (pick_any _ _ _ (by omega) (by omega)).mono ?_
          rintro e w7 ⟨rfl, rfl⟩
          generalize hX : (_ : Int) % ((n : Nat) : Int) = m
          have hm0 : 0 ≤ m := by rw [← hX]; exact Int.emod_nonneg _ (by omega)
          have hm1 : m < n := by rw [← hX]; exact Int.emod_lt_of_pos _ (by omega)
          clear hX
          obtain ⟨j, rfl⟩ : ∃ j : Nat, m = j := ⟨m.toNat, by omega⟩
          obtain ⟨q, hq, hqc⟩ := HC.out j (by omega)
          have q1 : w6.cell? ⟨g, j, none⟩ = some (.int .i64 q) := (World.cell?_of_block (a := ⟨g, j, none⟩) HGB.out).trans hqc
          have HQ := hid hq
          clear hq hqc
          go_wp2_with fail
          refine (HS6.out.swap hF.out.nodup p q).mono ?_
          rintro e w8 ⟨rfl, hS8, _⟩
          rw [swap_ok HPM.out HQ.out] at hS8 ⊢
          dsimp only at hS8 ⊢
          have HS8 := hid hS8
          clear hS8
          go_wp2_with fail
          refine (HS8.out.swap (by rw [ren_panes]; exact sw_nodup hF.out.nodup) p q).mono ?_
          rintro e w9 ⟨rfl, hS9, _⟩
          rw [swap_back HPM.out HQ.out] at hS9 ⊢
          dsimp only at hS9 ⊢
          have HS9 := hid hS9
          clear hS9
          go_wp2_with fail
          refine (HS9.out.text HT.out).mono ?_
          rintro e w10 ⟨rfl, hE10⟩
          have HS10 := hid (HS9.out.later hE10)
          clear hE10
          go_wp2_with fail
          go_ret
          exact ⟨rfl, HS10.out.ext⟩

end Go.Proofs.YtflbfmfaccaffaaDoor
