/-
  portholehand.Terms: terms of raw ones.
-/
import Derived.Test.YtegmnbcfanjocaaTerms0
namespace Go.Proofs.Ytegmnbcfanjocaa
open Go Go.RowKit
attribute [local go_sem] extUpon run_store_tm
attribute [local go_sem ↓] Tm.val_cell eval_put_ne eval_put_none eval_put_same size_put eval_const
attribute [local go_sem ↓] meth_Atom meth_Public meth_Shared meth_Chain meth_Digest meth_Box meth_Empty
attribute [local go_sem ↓] run_build_chain run_build_digest run_build_box
attribute [local go_sem] ta_Atom_Atom ta_Public_Atom ta_Shared_Atom ta_Chain_Atom ta_Digest_Atom ta_Box_Atom ta_Empty_Atom ta_Nil_Atom ta_Atom_Public ta_Public_Public ta_Shared_Public ta_Chain_Public ta_Digest_Public ta_Box_Public ta_Empty_Public ta_Nil_Public ta_Atom_Shared ta_Public_Shared ta_Shared_Shared ta_Chain_Shared ta_Digest_Shared ta_Box_Shared ta_Empty_Shared ta_Nil_Shared ta_Atom_Chain ta_Public_Chain ta_Shared_Chain ta_Chain_Chain ta_Digest_Chain ta_Box_Chain ta_Empty_Chain ta_Nil_Chain ta_Atom_Digest ta_Public_Digest ta_Shared_Digest ta_Chain_Digest ta_Digest_Digest ta_Box_Digest ta_Empty_Digest ta_Nil_Digest ta_Atom_Box ta_Public_Box ta_Shared_Box ta_Chain_Box ta_Digest_Box ta_Box_Box ta_Empty_Box ta_Nil_Box ta_Atom_Empty ta_Public_Empty ta_Shared_Empty ta_Chain_Empty ta_Digest_Empty ta_Box_Empty ta_Empty_Empty ta_Nil_Empty

def TermsRel (B0 : Nat) (Bo Bs : Nat) (l : List Raw) (k : Nat) (wr : World) : Prop :=
  ∃ vo vs, Boxed wr B0 Bo 24 32 vo ((buildT (l.take k)).1.map Tm.val) ∧ Boxed wr B0 Bs 23 3 vs ((buildT (l.take k)).2.map (Value.int .i64))

theorem TermsRel.mk {B0 Bo Bs : Nat} {l : List Raw} {k : Nat} {w : World} {vo vs tv : Value} {ts : List Tm} {ss : List Int} {tm : Tm} {sv : Int} (htv : tm.val = tv)
    (h1 : Boxed w B0 Bo 24 32 vo (ts.map Tm.val ++ [tv])) (h2 : Boxed w B0 Bs 23 3 vs (ss.map (Value.int .i64) ++ [.int .i64 sv]))
    (hp : buildT (l.take (k + 1)) = (ts ++ [tm], ss ++ [sv])) : TermsRel B0 Bo Bs l (k + 1) w := by
  subst htv
  exact ⟨vo, vs, by rw [hp, List.map_append]; exact h1, by rw [hp, List.map_append]; exact h2⟩
theorem TermsRel.start (w : World) (l : List Raw) : TermsRel w.heap.size (w.heap.size + 1) (w.heap.size + 1 + 1 + 1) l 0
    ((((w.alloc (Obj.cells #[Value.iface 44 (Value.agg #[])] 32)).alloc (Obj.cells #[Value.slice (some ⟨w.heap.size, 0, none⟩) 1 1] 24)).alloc (Obj.cells #[Value.int IntKind.i64 1] 3)).alloc
      (Obj.cells #[Value.slice (some ⟨w.heap.size + 1 + 1, 0, none⟩) 1 1] 23)) := by
  refine ⟨_, _, ⟨(Ext.alloc _ _).blk ((Ext.alloc _ _).blk (blk_at (by simp))), ?_⟩, ⟨blk_at (by simp), ?_⟩⟩
  · exact ⟨rfl, .inr ⟨_, _, _, rfl, Nat.le_refl _, (Ext.alloc _ _).blk ((Ext.alloc _ _).blk ((Ext.alloc _ _).blk (blk_at rfl))), Nat.le_refl _, by decide, rfl, rfl⟩⟩
  · exact ⟨rfl, .inr ⟨_, _, _, rfl, by omega, (Ext.alloc _ _).blk (blk_at (by simp)), Nat.le_refl _, by decide, rfl, rfl⟩⟩

set_option maxHeartbeats 4000000 in
set_option maxRecDepth 100000 in
theorem Terms_any (a : Option Addr) (cap : Nat) (l : List Raw) (w : World) (hl : l.length ≤ 9223372036854775807) (hr : RawAt w a l) :
    Calls Try.prog 9 #[.slice a l.length cap] w
      fun e w' => ∃ v, e = .returned v ∧ w'.ownsRow w.heap.size 32 1 v (terms l).length ((terms l).map Tm.val) ∧ Ext w w' := by
  have e18 : ∀ args w, (callFunc 25 args).run Try.prog w = .ok (.enter 25 args) w := enters_of Try.func25 (by kernel_rfl) rfl
  go_enter Try.func9, Try.ntmps9
  go_wp2_with fail
  have HR := hid (TermsRel.start w l)
  have HE : Ext w ((((w.alloc (Obj.cells #[Value.iface 44 (Value.agg #[])] 32)).alloc (Obj.cells #[Value.slice (some ⟨w.heap.size, 0, none⟩) 1 1] 24)).alloc (Obj.cells #[Value.int IntKind.i64 1] 3)).alloc
      (Obj.cells #[Value.slice (some ⟨w.heap.size + 1 + 1, 0, none⟩) 1 1] 23)) := (((Ext.alloc _ _).alloc' _).alloc' _).alloc' _
  go_loopw [6] (fun i wr => ∃ k : Nat, i = .int .i64 k ∧ k ≤ l.length ∧ k ≤ 40 ∧ Hid (Ext w wr) ∧ Hid (TermsRel w.heap.size (w.heap.size + 1) (w.heap.size + 1 + 1 + 1) l k wr)) (fun i _ => 40 - (intOf i).toNat)
  case atStart => exact ⟨0, rfl, by omega, by omega, HE, HR⟩
  case round =>
    clear HR HE
    obtain ⟨k, rfl, hk1, hk2, hE, hT⟩ := hrel
    by_cases hlt : k < l.length ∧ k < 40
    · obtain ⟨hlt1, hlt2⟩ := hlt
      obtain ⟨b, o, rfl, c0, c1, c2, c3, c4⟩ := hr k hlt1
      replace c0 := hE.out.cell c0
      replace c1 := hE.out.cell c1
      replace c2 := hE.out.cell c2
      replace c3 := hE.out.cell c3
      replace c4 := hE.out.cell c4
      generalize hrk : l[k] = r at *
      have HRK := hid hrk
      clear hrk hr
      obtain ⟨vo, vs, ho, hs⟩ := hT.out
      have hlen := buildT_len (l.take k)
      rw [List.length_take, Nat.min_eq_left hk1] at hlen
      have HP := hid (buildT_take l k hlt1)
      generalize hp : buildT (l.take k) = p at *
      obtain ⟨ts, ss⟩ := p
      dsimp only at ho hs hlen
      have hn0 : 0 < ts.length := by omega
      have hn1 : ts.length ≤ 100 := by omega
      have hss := hid (show ss.length = ts.length by omega)
      have Ho := hid ho
      have Hs := hid hs
      have Hp := hid hp
      have hbd := buildT_bd (l.take k)
      rw [hp] at hbd
      have ba := sAt_bd (ts := ts) hbd r.a
      have bb := sAt_bd (ts := ts) hbd r.b
      have bc := sAt_bd (ts := ts) hbd r.c
      have Hbd := hid hbd
      have hne := buildT_ne (l.take k)
      rw [hp] at hne
      dsimp only at hne
      obtain ⟨ua, xa, hva⟩ := Tm.val_iface (hne _ (tAt_mem hn0 r.a))
      obtain ⟨ub, xb, hvb⟩ := Tm.val_iface (hne _ (tAt_mem hn0 r.b))
      obtain ⟨uc, xc, hvc⟩ := Tm.val_iface (hne _ (tAt_mem hn0 r.c))
      have HVa := hid hva
      have HVb := hid hvb
      have HVc := hid hvc
      clear hne hva hvb hvc
      have hkind : 0 ≤ r.kind % 8 ∧ r.kind % 8 < 8 := by omega
      have hn3 : 0 ≤ r.n % 3 ∧ r.n % 3 < 3 := by omega
      have hn7 : 0 ≤ r.n % 7 ∧ r.n % 7 < 7 := by omega
      have hn9 : 0 ≤ r.n % 9 ∧ r.n % 9 < 9 := by omega
      have ha3 : 0 ≤ r.a % 3 ∧ r.a % 3 < 3 := by omega
      obtain ⟨ba0, ba1⟩ := ba
      obtain ⟨bb0, bb1⟩ := bb
      obtain ⟨bc0, bc1⟩ := bc
      obtain ⟨hkind0, hkind1⟩ := hkind
      obtain ⟨hn30, hn31⟩ := hn3
      obtain ⟨hn70, hn71⟩ := hn7
      obtain ⟨hn90, hn91⟩ := hn9
      obtain ⟨ha30, ha31⟩ := ha3
      clear ho hs hp hlen hT hbd
      go_upto_block 2 with (first
        | (go_at_call 25; refine (at_any _ _ _ _ _ _ _ _ _ hn0 hn1 hss.out (Boxed.ext (w := wr) (by repeat (first | exact Ext.refl _ | refine Ext.drewN' ?_ _ | refine Ext.alloc' ?_ _)) Ho.out) (Boxed.ext (w := wr) (by repeat (first | exact Ext.refl _ | refine Ext.drewN' ?_ _ | refine Ext.alloc' ?_ _)) Hs.out)).mono ?_; rintro e w' ⟨rfl, m, rfl⟩; first | rw [HVa.out] | rw [HVb.out] | rw [HVc.out])
        | (go_at_call 10; refine (pick_any _ _ _ (by omega) (by omega)).mono ?_; rintro e w' ⟨rfl, rfl⟩))
      generalize hkd : r.kind % 8 = kd at *
      have Hkd := hid hkd
      clear hkd
      go_cut [15, 16] (fun t s wx => Hid (t = (mkT r ts).val ∧ s = .int .i64 (mkS r ts ss)) ∧ Hid (Ext wr wx))
      case first =>
        have hk8 : kd = 0 ∨ kd = 1 ∨ kd = 2 ∨ kd = 3 ∨ kd = 4 ∨ kd = 5 ∨ kd = 6 ∨ kd = 7 := by omega
        rcases hk8 with rfl | rfl | rfl | rfl | rfl | rfl | rfl | rfl
        · have Hm : Hid (mkT r ts = Tm.atom (r.n % 9 - 4) ∧ mkS r ts ss = 1) := by unfold mkT mkS; rw [Hkd.out]; exact ⟨rfl, rfl⟩
          go_wp2_with (go_at_call 10; refine (pick_any _ _ _ (by omega) (by omega)).mono ?_; rintro e w' ⟨rfl, rfl⟩)
          go_meet
          case rel => exact ⟨⟨by rw [Hm.out.1]; exact rfl, by rw [Hm.out.2]⟩, by repeat (first | exact Ext.refl _ | refine Ext.drewN' ?_ _ | refine Ext.alloc' ?_ _)⟩
        · have Hm : Hid (mkT r ts = Tm.pub (r.n % 7 + 1) ∧ mkS r ts ss = 1) := by unfold mkT mkS; rw [Hkd.out]; exact ⟨rfl, rfl⟩
          go_wp2_with (go_at_call 10; refine (pick_any _ _ _ (by omega) (by omega)).mono ?_; rintro e w' ⟨rfl, rfl⟩)
          go_meet
          case rel => exact ⟨⟨by rw [Hm.out.1]; exact rfl, by rw [Hm.out.2]⟩, by repeat (first | exact Ext.refl _ | refine Ext.drewN' ?_ _ | refine Ext.alloc' ?_ _)⟩
        · have Hm : Hid (mkT r ts = Tm.pub (r.n % 7 + 1) ∧ mkS r ts ss = 1) := by unfold mkT mkS; rw [Hkd.out]; exact ⟨rfl, rfl⟩
          go_wp2_with (go_at_call 10; refine (pick_any _ _ _ (by omega) (by omega)).mono ?_; rintro e w' ⟨rfl, rfl⟩)
          go_meet
          case rel => exact ⟨⟨by rw [Hm.out.1]; exact rfl, by rw [Hm.out.2]⟩, by repeat (first | exact Ext.refl _ | refine Ext.drewN' ?_ _ | refine Ext.alloc' ?_ _)⟩
        · have Hm : Hid (mkT r ts = Tm.shared (r.n % 7 + 1) (r.n % 7 + 1 + r.a % 3) ∧ mkS r ts ss = 1) := by unfold mkT mkS; rw [Hkd.out]; exact ⟨rfl, rfl⟩
          go_wp2_with (go_at_call 10; refine (pick_any _ _ _ (by omega) (by omega)).mono ?_; rintro e w' ⟨rfl, rfl⟩)
          go_meet
          case rel => exact ⟨⟨by rw [Hm.out.1]; exact rfl, by rw [Hm.out.2]⟩, by repeat (first | exact Ext.refl _ | refine Ext.drewN' ?_ _ | refine Ext.alloc' ?_ _)⟩
        · have Hm : Hid (mkT r ts = Tm.chain (r.n % 3 + 1) (tAt ts r.a) (tAt ts r.b) ∧ mkS r ts ss = 1 + sAt ts ss r.a + sAt ts ss r.b) := by unfold mkT mkS; rw [Hkd.out]; exact ⟨rfl, rfl⟩
          go_wp2_with (go_at_call 10; refine (pick_any _ _ _ (by omega) (by omega)).mono ?_; rintro e w' ⟨rfl, rfl⟩)
          go_meet
          case rel => exact ⟨⟨by rw [Hm.out.1]; simp only [Tm.val, HVa.out, HVb.out], by rw [Hm.out.2]⟩, by repeat (first | exact Ext.refl _ | refine Ext.drewN' ?_ _ | refine Ext.alloc' ?_ _)⟩
        · have Hm : Hid (mkT r ts = Tm.digest (tAt ts r.a) (tAt ts r.b) ∧ mkS r ts ss = 1 + sAt ts ss r.a + sAt ts ss r.b) := by unfold mkT mkS; rw [Hkd.out]; exact ⟨rfl, rfl⟩
          go_wp2_with (go_at_call 10; refine (pick_any _ _ _ (by omega) (by omega)).mono ?_; rintro e w' ⟨rfl, rfl⟩)
          go_meet
          case rel => exact ⟨⟨by rw [Hm.out.1]; simp only [Tm.val, HVa.out, HVb.out], by rw [Hm.out.2]⟩, by repeat (first | exact Ext.refl _ | refine Ext.drewN' ?_ _ | refine Ext.alloc' ?_ _)⟩
        · have Hm : Hid (mkT r ts = Tm.box (tAt ts r.a) (r.n % 3) (tAt ts r.b) (tAt ts r.c) ∧ mkS r ts ss = 1 + sAt ts ss r.a + sAt ts ss r.b + sAt ts ss r.c) := by unfold mkT mkS; rw [Hkd.out]; exact ⟨rfl, rfl⟩
          go_wp2_with (go_at_call 10; refine (pick_any _ _ _ (by omega) (by omega)).mono ?_; rintro e w' ⟨rfl, rfl⟩)
          go_meet
          case rel => exact ⟨⟨by rw [Hm.out.1]; simp only [Tm.val, HVa.out, HVb.out, HVc.out], by rw [Hm.out.2]⟩, by repeat (first | exact Ext.refl _ | refine Ext.drewN' ?_ _ | refine Ext.alloc' ?_ _)⟩
        · have Hm : Hid (mkT r ts = Tm.box (tAt ts r.a) (r.n % 3) (tAt ts r.b) (tAt ts r.c) ∧ mkS r ts ss = 1 + sAt ts ss r.a + sAt ts ss r.b + sAt ts ss r.c) := by unfold mkT mkS; rw [Hkd.out]; exact ⟨rfl, rfl⟩
          go_wp2_with (go_at_call 10; refine (pick_any _ _ _ (by omega) (by omega)).mono ?_; rintro e w' ⟨rfl, rfl⟩)
          go_meet
          case rel => exact ⟨⟨by rw [Hm.out.1]; simp only [Tm.val, HVa.out, HVb.out, HVc.out], by rw [Hm.out.2]⟩, by repeat (first | exact Ext.refl _ | refine Ext.drewN' ?_ _ | refine Ext.alloc' ?_ _)⟩
      case rest =>
        obtain ⟨hv, hX⟩ := hcut
        obtain ⟨rfl, rfl⟩ := hv.out
        clear hv Hkd hkind0 hkind1 c0 c1 c2 c3 c4 HVa HVb HVc ba0 ba1 bb0 bb1 bc0 bc1 hn30 hn31 hn70 hn71 hn90 hn91 ha30 ha31
        have i26 : (Try.prog.info? 32).map (fun i => (i.zero, i.size, i.bytes)) = some (some .nilIface, 1, 16) := by kernel_rfl
        have i3 : (Try.prog.info? 3).map (fun i => (i.zero, i.size, i.bytes)) = some (some (.int .i64 0), 1, 8) := by kernel_rfl
        obtain ⟨j0, hi, hz0, hz1, hz2⟩ := info_parts i26
        obtain ⟨j1, hi', hz0', hz1', hz2'⟩ := info_parts i3
        have HI := hid (And.intro hi (And.intro hz0 (And.intro hz1 hz2)))
        have HI' := hid (And.intro hi' (And.intro hz0' (And.intro hz1' hz2')))
        clear i26 i3 hi hz0 hz1 hz2 hi' hz0' hz1' hz2'
        have cO := (Boxed.ext hX.out Ho.out).cell
        have HoW := hid (fun o => Boxed.ext (hX.out.alloc' o) Ho.out)
        have HsW := hid (fun o => Boxed.ext (hX.out.alloc' o) Hs.out)
        have HoR := hid (show ∀ o, (wc.alloc o).ownsRow w.heap.size 32 1 vo ts.length (ts.map Tm.val) from fun o => by have := (HoW.out o).own; rwa [List.length_map] at this)
        have hB0 := hid (hE.out.size)
        have hS := mkS_pos (r := r) (ts := ts) Hbd.out
        obtain ⟨hS0, hS1⟩ := hS
        by_cases h60 : 60 < mkS r ts ss
        · have hstep : Hid (stepT (ts, ss) r = (ts ++ [.empty], ss ++ [1])) := by unfold stepT; rw [if_pos h60]; exact rfl
          go_upto_region 34 with (first
            | (at_builtin; refine wpList_append_lies _ rfl (.tmp 130) (.tmp 132) _ rfl w.heap.size 32 j0 .nilIface 1 16 Try.underlying24 HI.out.1 HI.out.2.1 HI.out.2.2.1 HI.out.2.2.2 rfl (by omega) vo ts.length (ts.map Tm.val) (by rfl) (HoR.out _) ⟨wc.heap.size, 0, none⟩ 1 1 [.iface 44 (.agg #[])] (by rfl) (by rfl) (World.news_of_block (blk_new wc _)) (by intro u hu; simp at hu; subst hu; rfl) (by omega) (by unfold maxLen; omega) (by omega) (by have := hX.out.size; have := hB0.out; simp; omega) (wc.heap.size + 1) (by simp) ?_; intro g1 cap1 w1 hown1 hgrow1 hat1 hlt1'; obtain ⟨cO1, fO1⟩ := Boxed.grown (HoW.out _) (by decide) hgrow1))
          have Ho2 := hid (Boxed.app (x := .iface 44 (.agg #[])) (HoW.out _) (by decide) hgrow1 hown1 (by rw [List.length_map]))
          have Hs2 := hid (Boxed.other (v' := Value.slice (some ⟨g1, 0, none⟩) (ts.length + 1) cap1) (HoW.out _) (HsW.out _) hgrow1 (by decide) (by decide) (by decide) (by decide) (by decide))
          have HE2 := hid (Below.setCell (p := ⟨w.heap.size + 1, 0, none⟩) (((hX.out.alloc' _).below (hB0.out)).grown hgrow1 (by have := hX.out.size; have := hB0.out; simp; omega) (fun k hk => (Ho.out.own.lt k hk).1)) (by simp) (Value.slice (some ⟨g1, 0, none⟩) (ts.length + 1) cap1))
          clear hgrow1 hown1 cO1 fO1 hat1 hlt1' cO
          generalize World.setCell w1 _ _ = w2 at *
          have cS2 := Hs2.out.cell
          have HsW2 := hid (fun o => Boxed.ext (Ext.alloc w2 o) Hs2.out)
          have HsR := hid (show ∀ o, (w2.alloc o).ownsRow w.heap.size 3 1 vs ts.length (ss.map (Value.int .i64)) from fun o => by have := (HsW2.out o).own; rwa [List.length_map, hss.out] at this)
          go_wp2_with (first
            | (at_builtin; refine wpList_append_lies _ rfl (.tmp 134) (.tmp 136) _ rfl w.heap.size 3 j1 (.int .i64 0) 1 8 Try.underlying23 HI'.out.1 HI'.out.2.1 HI'.out.2.2.1 HI'.out.2.2.2 rfl (by omega) vs ts.length (ss.map (Value.int .i64)) (by rfl) (HsR.out _) ⟨w2.heap.size, 0, none⟩ 1 1 [.int .i64 ((1 : Int))] (by rfl) (by rfl) (World.news_of_block (blk_new w2 _)) (by intro u hu; simp at hu; subst hu; rfl) (by omega) (by unfold maxLen; omega) (by omega) (by have := HE2.out.size; have := hB0.out; simp; omega) (w2.heap.size + 1) (by simp) ?_; intro g3 cap3 w3 hown3 hgrow3 hat3 hlt3; obtain ⟨cO3, fO3⟩ := Boxed.grown (HsW2.out _) (by decide) hgrow3))
          have Hs4 := hid (Boxed.app (x := .int .i64 ((1 : Int))) (HsW2.out _) (by decide) hgrow3 hown3 (by rw [List.length_map, hss.out]))
          have Ho4 := hid (Boxed.other (v' := Value.slice (some ⟨g3, 0, none⟩) (ts.length + 1) cap3) (HsW2.out _) (Boxed.ext (Ext.alloc w2 _) Ho2.out) hgrow3 (by decide) (by decide) (by decide) (by decide) (by decide))
          have HE4 := hid (Below.setCell (p := ⟨w.heap.size + 1 + 1 + 1, 0, none⟩) (Below.grown ((HE2.out.trans ((Ext.alloc w2 _).below (Nat.le_trans hB0.out HE2.out.size)))) hgrow3 (by have := HE2.out.size; have := hB0.out; simp; omega) (fun k hk => (Hs.out.own.lt k hk).1)) (by simp; omega) (Value.slice (some ⟨g3, 0, none⟩) (ts.length + 1) cap3))
          clear hgrow3 hown3 cO3 fO3 hat3 hlt3
          generalize World.setCell w3 _ _ = w4 at *
          go_roundw
          case rel =>
            exact ⟨k + 1, by go_num, by omega, by omega, hid (Below.trans hE.out (Below.mono HE4.out (Nat.le_refl _))), hid (TermsRel.mk (ts := ts) (tm := Tm.empty) rfl Ho4.out Hs4.out (by rw [HP.out, HRK.out]; exact hstep.out))⟩
          case measure => simp [intOf]; omega
        · obtain ⟨uu, xx, hxx⟩ := Tm.val_iface (mkT_ne r ts)
          have hstep : Hid (stepT (ts, ss) r = (ts ++ [mkT r ts], ss ++ [mkS r ts ss])) := by unfold stepT; rw [if_neg h60]; exact rfl
          rw [hxx]
          have HX := hid hxx
          clear hxx
          go_upto_region 34 with (first
            | (at_builtin; refine wpList_append_lies _ rfl (.tmp 130) (.tmp 132) _ rfl w.heap.size 32 j0 .nilIface 1 16 Try.underlying24 HI.out.1 HI.out.2.1 HI.out.2.2.1 HI.out.2.2.2 rfl (by omega) vo ts.length (ts.map Tm.val) (by rfl) (HoR.out _) ⟨wc.heap.size, 0, none⟩ 1 1 [.iface uu xx] (by rfl) (by rfl) (World.news_of_block (blk_new wc _)) (by intro u hu; simp at hu; subst hu; rfl) (by omega) (by unfold maxLen; omega) (by omega) (by have := hX.out.size; have := hB0.out; simp; omega) (wc.heap.size + 1) (by simp) ?_; intro g1 cap1 w1 hown1 hgrow1 hat1 hlt1'; obtain ⟨cO1, fO1⟩ := Boxed.grown (HoW.out _) (by decide) hgrow1))
          have Ho2 := hid (Boxed.app (x := .iface uu xx) (HoW.out _) (by decide) hgrow1 hown1 (by rw [List.length_map]))
          have Hs2 := hid (Boxed.other (v' := Value.slice (some ⟨g1, 0, none⟩) (ts.length + 1) cap1) (HoW.out _) (HsW.out _) hgrow1 (by decide) (by decide) (by decide) (by decide) (by decide))
          have HE2 := hid (Below.setCell (p := ⟨w.heap.size + 1, 0, none⟩) (((hX.out.alloc' _).below (hB0.out)).grown hgrow1 (by have := hX.out.size; have := hB0.out; simp; omega) (fun k hk => (Ho.out.own.lt k hk).1)) (by simp) (Value.slice (some ⟨g1, 0, none⟩) (ts.length + 1) cap1))
          clear hgrow1 hown1 cO1 fO1 hat1 hlt1' cO
          generalize World.setCell w1 _ _ = w2 at *
          have cS2 := Hs2.out.cell
          have HsW2 := hid (fun o => Boxed.ext (Ext.alloc w2 o) Hs2.out)
          have HsR := hid (show ∀ o, (w2.alloc o).ownsRow w.heap.size 3 1 vs ts.length (ss.map (Value.int .i64)) from fun o => by have := (HsW2.out o).own; rwa [List.length_map, hss.out] at this)
          go_wp2_with (first
            | (at_builtin; refine wpList_append_lies _ rfl (.tmp 134) (.tmp 136) _ rfl w.heap.size 3 j1 (.int .i64 0) 1 8 Try.underlying23 HI'.out.1 HI'.out.2.1 HI'.out.2.2.1 HI'.out.2.2.2 rfl (by omega) vs ts.length (ss.map (Value.int .i64)) (by rfl) (HsR.out _) ⟨w2.heap.size, 0, none⟩ 1 1 [.int .i64 (mkS r ts ss)] (by rfl) (by rfl) (World.news_of_block (blk_new w2 _)) (by intro u hu; simp at hu; subst hu; rfl) (by omega) (by unfold maxLen; omega) (by omega) (by have := HE2.out.size; have := hB0.out; simp; omega) (w2.heap.size + 1) (by simp) ?_; intro g3 cap3 w3 hown3 hgrow3 hat3 hlt3; obtain ⟨cO3, fO3⟩ := Boxed.grown (HsW2.out _) (by decide) hgrow3))
          have Hs4 := hid (Boxed.app (x := .int .i64 (mkS r ts ss)) (HsW2.out _) (by decide) hgrow3 hown3 (by rw [List.length_map, hss.out]))
          have Ho4 := hid (Boxed.other (v' := Value.slice (some ⟨g3, 0, none⟩) (ts.length + 1) cap3) (HsW2.out _) (Boxed.ext (Ext.alloc w2 _) Ho2.out) hgrow3 (by decide) (by decide) (by decide) (by decide) (by decide))
          have HE4 := hid (Below.setCell (p := ⟨w.heap.size + 1 + 1 + 1, 0, none⟩) (Below.grown ((HE2.out.trans ((Ext.alloc w2 _).below (Nat.le_trans hB0.out HE2.out.size)))) hgrow3 (by have := HE2.out.size; have := hB0.out; simp; omega) (fun k hk => (Hs.out.own.lt k hk).1)) (by simp; omega) (Value.slice (some ⟨g3, 0, none⟩) (ts.length + 1) cap3))
          clear hgrow3 hown3 cO3 fO3 hat3 hlt3
          generalize World.setCell w3 _ _ = w4 at *
          go_roundw
          case rel =>
            exact ⟨k + 1, by go_num, by omega, by omega, hid (Below.trans hE.out (Below.mono HE4.out (Nat.le_refl _))), hid (TermsRel.mk (ts := ts) (tm := mkT r ts) HX.out Ho4.out Hs4.out (by rw [HP.out, HRK.out]; exact hstep.out))⟩
          case measure => simp [intOf]; omega
    · obtain ⟨vo, vs, ho, hs⟩ := hT.out
      have cO := ho.cell
      have Ho := hid ho
      clear ho hs hT hr
      by_cases hk3 : k < l.length
      · have hk4 : k = 40 := by omega
        have hk5 : ¬ ((k : Int) < 40) := by omega
        go_wp2_with fail
        go_ret
        have he : terms l = (buildT (l.take k)).1 := by
          unfold terms
          congr 2
          first | (rw [hk4]) | (rw [List.take_of_length_le (by omega), List.take_of_length_le (by omega)])
        have hown := Ho.out.own
        rw [List.length_map] at hown
        exact ⟨vo, rfl, by rw [he]; exact hown, hE.out⟩
      · go_wp2_with fail
        go_ret
        have he : terms l = (buildT (l.take k)).1 := by
          unfold terms
          congr 2
          first | (rw [hk4]) | (rw [List.take_of_length_le (by omega), List.take_of_length_le (by omega)])
        have hown := Ho.out.own
        rw [List.length_map] at hown
        exact ⟨vo, rfl, by rw [he]; exact hown, hE.out⟩

end Go.Proofs.Ytegmnbcfanjocaa
