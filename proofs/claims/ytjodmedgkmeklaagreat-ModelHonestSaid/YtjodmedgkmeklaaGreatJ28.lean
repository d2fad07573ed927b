/-
  Texts merged: Q39, Q40, V0.
-/
import Derived.Test.YtjodmedgkmeklaaGreatJ27
import Derived.Test.YtjodmedgkmeklaaGreatJ23
/-
  Play, where the listener makes a term.
-/
namespace Go.Proofs.YtjodmedgkmeklaaGreat
open Go Go.RowKit Go.Maps
attribute [local go_sem] extUpon run_store_tm
attribute [local go_sem ↓] Tm.val_cell eval_put_ne eval_put_none eval_put_same size_put eval_const
attribute [local go_sem ↓] meth_Atom meth_Public meth_Shared meth_Chain meth_Digest meth_Box meth_Empty
attribute [local go_sem ↓] run_build_chain run_build_digest run_build_box
attribute [local go_sem] ta_Atom_Atom ta_Public_Atom ta_Shared_Atom ta_Chain_Atom ta_Digest_Atom ta_Box_Atom ta_Empty_Atom ta_Nil_Atom ta_Atom_Public ta_Public_Public ta_Shared_Public ta_Chain_Public ta_Digest_Public ta_Box_Public ta_Empty_Public ta_Nil_Public ta_Atom_Shared ta_Public_Shared ta_Shared_Shared ta_Chain_Shared ta_Digest_Shared ta_Box_Shared ta_Empty_Shared ta_Nil_Shared ta_Atom_Chain ta_Public_Chain ta_Shared_Chain ta_Chain_Chain ta_Digest_Chain ta_Box_Chain ta_Empty_Chain ta_Nil_Chain ta_Atom_Digest ta_Public_Digest ta_Shared_Digest ta_Chain_Digest ta_Digest_Digest ta_Box_Digest ta_Empty_Digest ta_Nil_Digest ta_Atom_Box ta_Public_Box ta_Shared_Box ta_Chain_Box ta_Digest_Box ta_Box_Box ta_Empty_Box ta_Nil_Box ta_Atom_Empty ta_Public_Empty ta_Shared_Empty ta_Chain_Empty ta_Digest_Empty ta_Box_Empty ta_Empty_Empty ta_Nil_Empty
variable {f : Int → List UInt8} {P : Int → Prop} {w0 w W W2 W3 : World} {own own2 : Nat → Option Tg} {m m2 : MB} {μ μ2 : MS} {v v2 : KV}

noncomputable def MS.make (f : Int → List UInt8) (μ : MS) (r : Option Tm) : MS × Int := match r with | none => (μ, 1) | some t => μ.put f t
set_option maxHeartbeats 8000000 in
set_option maxRecDepth 100000 in
theorem play_made (N : Nums f P) (kind a b c : Int) (hk : 7 ≤ kind ∧ kind ≤ 12) (hao : IntOk a) (hI : Itoa w0 Small f) (h : MAt f P w0 W own m μ v) (hp : PoolOk f P μ) (hmd : ∀ t, μ.made f kind a b c = some t → t.ok P ∧ sz t ≤ 5000 ∧ Grounded f μ.pool t) :
    Calls Tryz.prog 16 #[ptr m.wb, .agg #[.int .i64 kind, .int .i64 a, .int .i64 b, .int .i64 c]] W fun e w' => e = .returned (.int .i64 (μ.make f (μ.made f kind a b c)).2) ∧ Left f P w0 W w' own m (μ.make f (μ.made f kind a b c)).1 := by
  have HM := hid h
  have HP := hid hp
  have HI := hid hI
  have HN := hid N
  have HMD := hid hmd
  have HAO := hid hao
  clear h hp hI N hmd
  rcases (show kind = 7 ∨ kind = 8 ∨ kind = 9 ∨ kind = 10 ∨ kind = 11 ∨ kind = 12 by omega) with rfl | rfl | rfl | rfl | rfl | rfl <;> clear hk
  ·
    have HE := hid (Ext.alloc W (.cells #[.int .i64 7, .int .i64 a, .int .i64 b, .int .i64 c] 39 (0, 0)))
    have d0 : (W.alloc (.cells #[.int .i64 7, .int .i64 a, .int .i64 b, .int .i64 c] 39 (0, 0))).cell? ⟨W.heap.size, 0, none⟩ = some (.int .i64 7) := cell_new rfl
    have d1 : (W.alloc (.cells #[.int .i64 7, .int .i64 a, .int .i64 b, .int .i64 c] 39 (0, 0))).cell? ⟨W.heap.size, 1, none⟩ = some (.int .i64 a) := cell_new rfl
    have d2 : (W.alloc (.cells #[.int .i64 7, .int .i64 a, .int .i64 b, .int .i64 c] 39 (0, 0))).cell? ⟨W.heap.size, 2, none⟩ = some (.int .i64 b) := cell_new rfl
    have d3 : (W.alloc (.cells #[.int .i64 7, .int .i64 a, .int .i64 b, .int .i64 c] 39 (0, 0))).cell? ⟨W.heap.size, 3, none⟩ = some (.int .i64 c) := cell_new rfl
    have HB := hid (made_any HN.out.small HI.out HP.out (kind := 7) (by omega) a b c HAO.out (HM.out.later HE.out))
    clear hao
    generalize μ.made f 7 a b c = res at *
    go_enter Tryz.func16, Tryz.ntmps16
    go_upto_region 1 with fail
    generalize World.alloc W _ = W1 at *
    generalize W.heap.size = q at *
    go_wp2_with fail
    refine HB.out.mono ?_
    rintro e w1 ⟨⟨tv, rfl, htv⟩, hE1⟩
    have HTV := hid htv
    have HE1 := hid (HE.out.trans hE1)
    clear hE1 HB htv d0 d1 d2 d3
    cases res with
    | none =>
      go_wp2_with fail
      go_ret
      exact ⟨rfl, Left.same HM.out HP.out HE1.out⟩
    | some t =>
      have hok := HMD.out t rfl
      obtain ⟨u, d, hv⟩ := Va.of hok.1.ne
      have htv2 := HTV.out t rfl
      rw [hv.eq] at htv2
      subst htv2
      have HPUT := hid (put_any HN.out hv HI.out hok.1 hok.2.1 hok.2.2 (HM.out.later HE1.out) HP.out)
      clear hok hv HTV
      go_wp2_with fail
      refine HPUT.out.mono ?_
      rintro e w2 ⟨rfl, own2, vpl, h1, h2, h3, h4⟩
      have hl : Left f P w0 w1 w2 own m (μ.put f t).1 := ⟨own2, _, v, h1, ⟨rfl, rfl, rfl, rfl, rfl, rfl⟩, h2, h3.mono (fun t ht => ⟨0, .inl ht⟩), h4⟩
      have HL := hid (Left.of HM.out HE1.out hl)
      clear h1 h2 h3 h4 hl HPUT
      go_wp2_with fail
      go_ret
      exact ⟨rfl, HL.out⟩
  ·
    have HE := hid (Ext.alloc W (.cells #[.int .i64 8, .int .i64 a, .int .i64 b, .int .i64 c] 39 (0, 0)))
    have d0 : (W.alloc (.cells #[.int .i64 8, .int .i64 a, .int .i64 b, .int .i64 c] 39 (0, 0))).cell? ⟨W.heap.size, 0, none⟩ = some (.int .i64 8) := cell_new rfl
    have d1 : (W.alloc (.cells #[.int .i64 8, .int .i64 a, .int .i64 b, .int .i64 c] 39 (0, 0))).cell? ⟨W.heap.size, 1, none⟩ = some (.int .i64 a) := cell_new rfl
    have d2 : (W.alloc (.cells #[.int .i64 8, .int .i64 a, .int .i64 b, .int .i64 c] 39 (0, 0))).cell? ⟨W.heap.size, 2, none⟩ = some (.int .i64 b) := cell_new rfl
    have d3 : (W.alloc (.cells #[.int .i64 8, .int .i64 a, .int .i64 b, .int .i64 c] 39 (0, 0))).cell? ⟨W.heap.size, 3, none⟩ = some (.int .i64 c) := cell_new rfl
    have HB := hid (made_any HN.out.small HI.out HP.out (kind := 8) (by omega) a b c HAO.out (HM.out.later HE.out))
    clear hao
    generalize μ.made f 8 a b c = res at *
    go_enter Tryz.func16, Tryz.ntmps16
    go_upto_region 1 with fail
    generalize World.alloc W _ = W1 at *
    generalize W.heap.size = q at *
    go_wp2_with fail
    refine HB.out.mono ?_
    rintro e w1 ⟨⟨tv, rfl, htv⟩, hE1⟩
    have HTV := hid htv
    have HE1 := hid (HE.out.trans hE1)
    clear hE1 HB htv d0 d1 d2 d3
    cases res with
    | none =>
      go_wp2_with fail
      go_ret
      exact ⟨rfl, Left.same HM.out HP.out HE1.out⟩
    | some t =>
      have hok := HMD.out t rfl
      obtain ⟨u, d, hv⟩ := Va.of hok.1.ne
      have htv2 := HTV.out t rfl
      rw [hv.eq] at htv2
      subst htv2
      have HPUT := hid (put_any HN.out hv HI.out hok.1 hok.2.1 hok.2.2 (HM.out.later HE1.out) HP.out)
      clear hok hv HTV
      go_wp2_with fail
      refine HPUT.out.mono ?_
      rintro e w2 ⟨rfl, own2, vpl, h1, h2, h3, h4⟩
      have hl : Left f P w0 w1 w2 own m (μ.put f t).1 := ⟨own2, _, v, h1, ⟨rfl, rfl, rfl, rfl, rfl, rfl⟩, h2, h3.mono (fun t ht => ⟨0, .inl ht⟩), h4⟩
      have HL := hid (Left.of HM.out HE1.out hl)
      clear h1 h2 h3 h4 hl HPUT
      go_wp2_with fail
      go_ret
      exact ⟨rfl, HL.out⟩
  ·
    have HE := hid (Ext.alloc W (.cells #[.int .i64 9, .int .i64 a, .int .i64 b, .int .i64 c] 39 (0, 0)))
    have d0 : (W.alloc (.cells #[.int .i64 9, .int .i64 a, .int .i64 b, .int .i64 c] 39 (0, 0))).cell? ⟨W.heap.size, 0, none⟩ = some (.int .i64 9) := cell_new rfl
    have d1 : (W.alloc (.cells #[.int .i64 9, .int .i64 a, .int .i64 b, .int .i64 c] 39 (0, 0))).cell? ⟨W.heap.size, 1, none⟩ = some (.int .i64 a) := cell_new rfl
    have d2 : (W.alloc (.cells #[.int .i64 9, .int .i64 a, .int .i64 b, .int .i64 c] 39 (0, 0))).cell? ⟨W.heap.size, 2, none⟩ = some (.int .i64 b) := cell_new rfl
    have d3 : (W.alloc (.cells #[.int .i64 9, .int .i64 a, .int .i64 b, .int .i64 c] 39 (0, 0))).cell? ⟨W.heap.size, 3, none⟩ = some (.int .i64 c) := cell_new rfl
    have HB := hid (made_any HN.out.small HI.out HP.out (kind := 9) (by omega) a b c HAO.out (HM.out.later HE.out))
    clear hao
    generalize μ.made f 9 a b c = res at *
    go_enter Tryz.func16, Tryz.ntmps16
    go_upto_region 1 with fail
    generalize World.alloc W _ = W1 at *
    generalize W.heap.size = q at *
    go_wp2_with fail
    refine HB.out.mono ?_
    rintro e w1 ⟨⟨tv, rfl, htv⟩, hE1⟩
    have HTV := hid htv
    have HE1 := hid (HE.out.trans hE1)
    clear hE1 HB htv d0 d1 d2 d3
    cases res with
    | none =>
      go_wp2_with fail
      go_ret
      exact ⟨rfl, Left.same HM.out HP.out HE1.out⟩
    | some t =>
      have hok := HMD.out t rfl
      obtain ⟨u, d, hv⟩ := Va.of hok.1.ne
      have htv2 := HTV.out t rfl
      rw [hv.eq] at htv2
      subst htv2
      have HPUT := hid (put_any HN.out hv HI.out hok.1 hok.2.1 hok.2.2 (HM.out.later HE1.out) HP.out)
      clear hok hv HTV
      go_wp2_with fail
      refine HPUT.out.mono ?_
      rintro e w2 ⟨rfl, own2, vpl, h1, h2, h3, h4⟩
      have hl : Left f P w0 w1 w2 own m (μ.put f t).1 := ⟨own2, _, v, h1, ⟨rfl, rfl, rfl, rfl, rfl, rfl⟩, h2, h3.mono (fun t ht => ⟨0, .inl ht⟩), h4⟩
      have HL := hid (Left.of HM.out HE1.out hl)
      clear h1 h2 h3 h4 hl HPUT
      go_wp2_with fail
      go_ret
      exact ⟨rfl, HL.out⟩
  ·
    have HE := hid (Ext.alloc W (.cells #[.int .i64 10, .int .i64 a, .int .i64 b, .int .i64 c] 39 (0, 0)))
    have d0 : (W.alloc (.cells #[.int .i64 10, .int .i64 a, .int .i64 b, .int .i64 c] 39 (0, 0))).cell? ⟨W.heap.size, 0, none⟩ = some (.int .i64 10) := cell_new rfl
    have d1 : (W.alloc (.cells #[.int .i64 10, .int .i64 a, .int .i64 b, .int .i64 c] 39 (0, 0))).cell? ⟨W.heap.size, 1, none⟩ = some (.int .i64 a) := cell_new rfl
    have d2 : (W.alloc (.cells #[.int .i64 10, .int .i64 a, .int .i64 b, .int .i64 c] 39 (0, 0))).cell? ⟨W.heap.size, 2, none⟩ = some (.int .i64 b) := cell_new rfl
    have d3 : (W.alloc (.cells #[.int .i64 10, .int .i64 a, .int .i64 b, .int .i64 c] 39 (0, 0))).cell? ⟨W.heap.size, 3, none⟩ = some (.int .i64 c) := cell_new rfl
    have HB := hid (made_any HN.out.small HI.out HP.out (kind := 10) (by omega) a b c HAO.out (HM.out.later HE.out))
    clear hao
    generalize μ.made f 10 a b c = res at *
    go_enter Tryz.func16, Tryz.ntmps16
    go_upto_region 1 with fail
    generalize World.alloc W _ = W1 at *
    generalize W.heap.size = q at *
    go_wp2_with fail
    refine HB.out.mono ?_
    rintro e w1 ⟨⟨tv, rfl, htv⟩, hE1⟩
    have HTV := hid htv
    have HE1 := hid (HE.out.trans hE1)
    clear hE1 HB htv d0 d1 d2 d3
    cases res with
    | none =>
      go_wp2_with fail
      go_ret
      exact ⟨rfl, Left.same HM.out HP.out HE1.out⟩
    | some t =>
      have hok := HMD.out t rfl
      obtain ⟨u, d, hv⟩ := Va.of hok.1.ne
      have htv2 := HTV.out t rfl
      rw [hv.eq] at htv2
      subst htv2
      have HPUT := hid (put_any HN.out hv HI.out hok.1 hok.2.1 hok.2.2 (HM.out.later HE1.out) HP.out)
      clear hok hv HTV
      go_wp2_with fail
      refine HPUT.out.mono ?_
      rintro e w2 ⟨rfl, own2, vpl, h1, h2, h3, h4⟩
      have hl : Left f P w0 w1 w2 own m (μ.put f t).1 := ⟨own2, _, v, h1, ⟨rfl, rfl, rfl, rfl, rfl, rfl⟩, h2, h3.mono (fun t ht => ⟨0, .inl ht⟩), h4⟩
      have HL := hid (Left.of HM.out HE1.out hl)
      clear h1 h2 h3 h4 hl HPUT
      go_wp2_with fail
      go_ret
      exact ⟨rfl, HL.out⟩
  ·
    have HE := hid (Ext.alloc W (.cells #[.int .i64 11, .int .i64 a, .int .i64 b, .int .i64 c] 39 (0, 0)))
    have d0 : (W.alloc (.cells #[.int .i64 11, .int .i64 a, .int .i64 b, .int .i64 c] 39 (0, 0))).cell? ⟨W.heap.size, 0, none⟩ = some (.int .i64 11) := cell_new rfl
    have d1 : (W.alloc (.cells #[.int .i64 11, .int .i64 a, .int .i64 b, .int .i64 c] 39 (0, 0))).cell? ⟨W.heap.size, 1, none⟩ = some (.int .i64 a) := cell_new rfl
    have d2 : (W.alloc (.cells #[.int .i64 11, .int .i64 a, .int .i64 b, .int .i64 c] 39 (0, 0))).cell? ⟨W.heap.size, 2, none⟩ = some (.int .i64 b) := cell_new rfl
    have d3 : (W.alloc (.cells #[.int .i64 11, .int .i64 a, .int .i64 b, .int .i64 c] 39 (0, 0))).cell? ⟨W.heap.size, 3, none⟩ = some (.int .i64 c) := cell_new rfl
    have HB := hid (made_any HN.out.small HI.out HP.out (kind := 11) (by omega) a b c HAO.out (HM.out.later HE.out))
    clear hao
    generalize μ.made f 11 a b c = res at *
    go_enter Tryz.func16, Tryz.ntmps16
    go_upto_region 1 with fail
    generalize World.alloc W _ = W1 at *
    generalize W.heap.size = q at *
    go_wp2_with fail
    refine HB.out.mono ?_
    rintro e w1 ⟨⟨tv, rfl, htv⟩, hE1⟩
    have HTV := hid htv
    have HE1 := hid (HE.out.trans hE1)
    clear hE1 HB htv d0 d1 d2 d3
    cases res with
    | none =>
      go_wp2_with fail
      go_ret
      exact ⟨rfl, Left.same HM.out HP.out HE1.out⟩
    | some t =>
      have hok := HMD.out t rfl
      obtain ⟨u, d, hv⟩ := Va.of hok.1.ne
      have htv2 := HTV.out t rfl
      rw [hv.eq] at htv2
      subst htv2
      have HPUT := hid (put_any HN.out hv HI.out hok.1 hok.2.1 hok.2.2 (HM.out.later HE1.out) HP.out)
      clear hok hv HTV
      go_wp2_with fail
      refine HPUT.out.mono ?_
      rintro e w2 ⟨rfl, own2, vpl, h1, h2, h3, h4⟩
      have hl : Left f P w0 w1 w2 own m (μ.put f t).1 := ⟨own2, _, v, h1, ⟨rfl, rfl, rfl, rfl, rfl, rfl⟩, h2, h3.mono (fun t ht => ⟨0, .inl ht⟩), h4⟩
      have HL := hid (Left.of HM.out HE1.out hl)
      clear h1 h2 h3 h4 hl HPUT
      go_wp2_with fail
      go_ret
      exact ⟨rfl, HL.out⟩
  ·
    have HE := hid (Ext.alloc W (.cells #[.int .i64 12, .int .i64 a, .int .i64 b, .int .i64 c] 39 (0, 0)))
    have d0 : (W.alloc (.cells #[.int .i64 12, .int .i64 a, .int .i64 b, .int .i64 c] 39 (0, 0))).cell? ⟨W.heap.size, 0, none⟩ = some (.int .i64 12) := cell_new rfl
    have d1 : (W.alloc (.cells #[.int .i64 12, .int .i64 a, .int .i64 b, .int .i64 c] 39 (0, 0))).cell? ⟨W.heap.size, 1, none⟩ = some (.int .i64 a) := cell_new rfl
    have d2 : (W.alloc (.cells #[.int .i64 12, .int .i64 a, .int .i64 b, .int .i64 c] 39 (0, 0))).cell? ⟨W.heap.size, 2, none⟩ = some (.int .i64 b) := cell_new rfl
    have d3 : (W.alloc (.cells #[.int .i64 12, .int .i64 a, .int .i64 b, .int .i64 c] 39 (0, 0))).cell? ⟨W.heap.size, 3, none⟩ = some (.int .i64 c) := cell_new rfl
    have HB := hid (made_any HN.out.small HI.out HP.out (kind := 12) (by omega) a b c HAO.out (HM.out.later HE.out))
    clear hao
    generalize μ.made f 12 a b c = res at *
    go_enter Tryz.func16, Tryz.ntmps16
    go_upto_region 1 with fail
    generalize World.alloc W _ = W1 at *
    generalize W.heap.size = q at *
    go_wp2_with fail
    refine HB.out.mono ?_
    rintro e w1 ⟨⟨tv, rfl, htv⟩, hE1⟩
    have HTV := hid htv
    have HE1 := hid (HE.out.trans hE1)
    clear hE1 HB htv d0 d1 d2 d3
    cases res with
    | none =>
      go_wp2_with fail
      go_ret
      exact ⟨rfl, Left.same HM.out HP.out HE1.out⟩
    | some t =>
      have hok := HMD.out t rfl
      obtain ⟨u, d, hv⟩ := Va.of hok.1.ne
      have htv2 := HTV.out t rfl
      rw [hv.eq] at htv2
      subst htv2
      have HPUT := hid (put_any HN.out hv HI.out hok.1 hok.2.1 hok.2.2 (HM.out.later HE1.out) HP.out)
      clear hok hv HTV
      go_wp2_with fail
      refine HPUT.out.mono ?_
      rintro e w2 ⟨rfl, own2, vpl, h1, h2, h3, h4⟩
      have hl : Left f P w0 w1 w2 own m (μ.put f t).1 := ⟨own2, _, v, h1, ⟨rfl, rfl, rfl, rfl, rfl, rfl⟩, h2, h3.mono (fun t ht => ⟨0, .inl ht⟩), h4⟩
      have HL := hid (Left.of HM.out HE1.out hl)
      clear h1 h2 h3 h4 hl HPUT
      go_wp2_with fail
      go_ret
      exact ⟨rfl, HL.out⟩

end Go.Proofs.YtjodmedgkmeklaaGreat

/-
  What a world tells of its sides (Sides).
-/
namespace Go.Proofs.YtjodmedgkmeklaaGreat
open Go Go.RowKit Go.Maps
attribute [local go_sem] extUpon run_store_tm
attribute [local go_sem ↓] Tm.val_cell eval_put_ne eval_put_none eval_put_same size_put eval_const
attribute [local go_sem ↓] meth_Atom meth_Public meth_Shared meth_Chain meth_Digest meth_Box meth_Empty
attribute [local go_sem ↓] run_build_chain run_build_digest run_build_box
attribute [local go_sem] ta_Atom_Atom ta_Public_Atom ta_Shared_Atom ta_Chain_Atom ta_Digest_Atom ta_Box_Atom ta_Empty_Atom ta_Nil_Atom ta_Atom_Public ta_Public_Public ta_Shared_Public ta_Chain_Public ta_Digest_Public ta_Box_Public ta_Empty_Public ta_Nil_Public ta_Atom_Shared ta_Public_Shared ta_Shared_Shared ta_Chain_Shared ta_Digest_Shared ta_Box_Shared ta_Empty_Shared ta_Nil_Shared ta_Atom_Chain ta_Public_Chain ta_Shared_Chain ta_Chain_Chain ta_Digest_Chain ta_Box_Chain ta_Empty_Chain ta_Nil_Chain ta_Atom_Digest ta_Public_Digest ta_Shared_Digest ta_Chain_Digest ta_Digest_Digest ta_Box_Digest ta_Empty_Digest ta_Nil_Digest ta_Atom_Box ta_Public_Box ta_Shared_Box ta_Chain_Box ta_Digest_Box ta_Box_Box ta_Empty_Box ta_Nil_Box ta_Atom_Empty ta_Public_Empty ta_Shared_Empty ta_Chain_Empty ta_Digest_Empty ta_Box_Empty ta_Empty_Empty ta_Nil_Empty
variable {f : Int → List UInt8} {P : Int → Prop} {w0 w W W2 W3 : World} {own own2 : Nat → Option Tg} {m m2 : MB} {μ μ2 : MS} {v v2 : KV}

def Sd.cells10 (s : Sd) : List Value := [.bool s.first, .int .i64 s.static, .int .i64 s.fresh, .int .i64 s.step, .int .i64 s.state, .int .i64 s.peerN, s.hash.val, s.mid.val, .int .i64 s.sent, .int .i64 s.got]
/-- Sides that were told, in a row. -/
def SRow (w : World) (a : Option Addr) (l : List Sd) : Prop := ∀ i s, l[i]? = some s → ∃ g, a = some ⟨g, 0, none⟩ ∧ ∀ j u, s.cells10[j]? = some u → w.cell? ⟨g, i * 10 + j, none⟩ = some u
theorem SRow.later {a : Option Addr} {l : List Sd} (h : SRow w a l) (he : Ext w W) : SRow W a l := fun i s hs => by
  obtain ⟨g, h1, h2⟩ := h i s hs
  exact ⟨g, h1, fun j u hu => he.cell (h2 j u hu)⟩
theorem flat10 : ∀ {l : List Sd} {i : Nat} {s : Sd} {j : Nat} {u : Value}, l[i]? = some s → s.cells10[j]? = some u → (l.flatMap Sd.cells10)[i * 10 + j]? = some u
  | [], i, s, j, u, h, _ => by simp at h
  | t :: l, 0, s, j, u, h, hu => by
    simp at h; subst h
    have hj : j < 10 := (List.getElem?_eq_some_iff.1 hu).1
    rw [List.flatMap_cons, List.getElem?_append_left (by simp [Sd.cells10]; omega)]
    simpa using hu
  | t :: l, i + 1, s, j, u, h, hu => by
    simp at h
    rw [List.flatMap_cons, List.getElem?_append_right (by simp [Sd.cells10]; omega)]
    have := flat10 (l := l) (i := i) h hu
    rw [show (i + 1) * 10 + j - t.cells10.length = i * 10 + j by simp [Sd.cells10]; omega]
    exact this
theorem flat10_len (l : List Sd) : (l.flatMap Sd.cells10).length = l.length * 10 := by
  induction l with
  | nil => rfl
  | cons t l ih => rw [List.flatMap_cons, List.length_append, ih]; simp [Sd.cells10]; omega

set_option maxHeartbeats 8000000 in
set_option maxRecDepth 100000 in
theorem sides_any (h : MAt f P w0 W own m μ v) (hl : μ.sides.length ≤ 1000) (hh : ∀ s ∈ μ.sides, s.hash ≠ .non) :
    Calls Tryz.prog 13 #[ptr m.wb] W fun e w' => ∃ a c, e = .returned (.slice a μ.sides.length c) ∧ SRow w' a μ.sides ∧ Ext W w' := by
  have i0 : (Tryz.prog.info? 31).map (fun i => (i.zero, i.size, i.bytes)) = some (some (.agg #[.bool false, .int .i64 0, .int .i64 0, .int .i64 0, .int .i64 0, .int .i64 0, .nilIface, .nilIface, .int .i64 0, .int .i64 0]), 10, 96) := by kernel_rfl
  obtain ⟨j0, hi0, hz0, hz1, hz2⟩ := info_parts i0
  have HI0 := hid (And.intro hi0 (And.intro hz0 (And.intro hz1 hz2)))
  obtain ⟨pa, pc, hpv, hpc, hrd⟩ := own_rd h.sds
  have c1 : W.cell? ⟨m.wb, 1, none⟩ = some (.slice pa m.sd.length pc) := hpv ▸ cell_blk h.blk rfl
  have HRD := hid hrd
  have HLEN := hid h.len
  have HSD := hid (fun i x s (h1 : m.sd[i]? = some x) (h2 : μ.sides[i]? = some s) => (h.side i x s h1 h2).at_)
  have HH := hid hh
  have hl2 : m.sd.length ≤ 1000 := by rw [h.len]; exact hl
  clear h i0 hi0 hz0 hz1 hz2 hpv hrd hh
  go_enter Tryz.func13, Tryz.ntmps13
  go_wp2_with fail
  go_loopw [3, 11] (fun ov iv wr => ∃ j : Nat, iv = .int .i64 j ∧ j ≤ m.sd.length ∧ Hid (Ext W wr) ∧ Hid (wr.ownsRow W.heap.size 31 10 ov j ((μ.sides.take j).flatMap Sd.cells10))) (fun _ iv _ => m.sd.length - (intOf iv).toNat)
  case atStart => exact ⟨0, rfl, by omega, hid (Ext.refl _), hid (World.ownsRow_nil _ _ _ _)⟩
  case round =>
    obtain ⟨j, rfl, hj, HX, HO⟩ := hrel
    by_cases hlt : j < m.sd.length
    · have hlt2 : (j : Int) < (m.sd.length : Int) := by omega
      obtain ⟨g, rfl, _, hcell⟩ := HRD.out (by simp; omega)
      have q0 : wr.cell? ⟨g, j, none⟩ = some (ptr m.sd[j].b) := HX.out.cell (hcell j _ (by rw [List.getElem?_map, List.getElem?_eq_getElem hlt]; rfl))
      have hlt3 : j < μ.sides.length := by rw [← HLEN.out]; exact hlt
      have hat := (HSD.out j _ _ (List.getElem?_eq_getElem hlt) (List.getElem?_eq_getElem hlt3)).later HX.out
      have hnh := HH.out _ (List.getElem_mem hlt3)
      have HTK := hid (List.take_succ_eq_append_getElem hlt3)
      generalize hx : m.sd[j] = x at *
      generalize hs : μ.sides[j] = s at *
      clear hx hs hcell
      obtain ⟨b, vs, va⟩ := x
      obtain ⟨hu, hd, hhv⟩ := Va.of hnh
      have HC10 : Hid ([s].flatMap Sd.cells10 = [.bool s.first, .int .i64 s.static, .int .i64 s.fresh, .int .i64 s.step, .int .i64 s.state, .int .i64 s.peerN, .iface hu hd, s.mid.val, .int .i64 s.sent, .int .i64 s.got]) := hid (by simp [Sd.cells10, hhv.eq])
      have c0 : wr.cell? ⟨b, 0, none⟩ = some (.bool s.first) := hat.cell rfl
      have c1 : wr.cell? ⟨b, 1, none⟩ = some (.int .i64 s.static) := hat.cell rfl
      have c2 : wr.cell? ⟨b, 2, none⟩ = some (.int .i64 s.fresh) := hat.cell rfl
      have c3 : wr.cell? ⟨b, 3, none⟩ = some (.int .i64 s.step) := hat.cell rfl
      have c4 : wr.cell? ⟨b, 4, none⟩ = some (.int .i64 s.state) := hat.cell rfl
      have c5 : wr.cell? ⟨b, 5, none⟩ = some (.int .i64 s.peerN) := hat.cell rfl
      have c6 : wr.cell? ⟨b, 6, none⟩ = some (.iface hu hd) := hhv.eq ▸ hat.cell rfl
      have c7 : wr.cell? ⟨b, 7, none⟩ = some s.mid.val := hat.cell rfl
      have c8 : wr.cell? ⟨b, 8, none⟩ = some (.int .i64 s.sent) := hat.cell rfl
      have c9 : wr.cell? ⟨b, 9, none⟩ = some (.int .i64 s.got) := hat.cell rfl
      have hmid := s.mid.form
      clear hat hhv hnh
      generalize s.first = sfi at *
      generalize s.static = sst at *
      generalize s.fresh = sfr at *
      generalize s.step = sstep at *
      generalize s.state = sstate at *
      generalize s.peerN = spn at *
      generalize s.sent = ssent at *
      generalize s.got = sgot at *
      rcases hmid with ⟨_, hmv⟩ | ⟨_, mu, md, hmv⟩
      · rw [hmv] at c7 HC10
        clear hmv
        go_wp2_with (first | (at_builtin; refine wpList_append_lies _ rfl (.tmp 15) (.tmp 20) _ rfl W.heap.size 31 j0 (.agg #[.bool false, .int .i64 0, .int .i64 0, .int .i64 0, .int .i64 0, .int .i64 0, .nilIface, .nilIface, .int .i64 0, .int .i64 0]) 10 96 Tryz.underlying26 HI0.out.1 HI0.out.2.1 HI0.out.2.2.1 HI0.out.2.2.2 rfl (by omega) u3 j _ (by rfl) (own_ext ((Ext.refl wr).alloc' _) HO.out) ⟨wr.heap.size, 0, none⟩ 1 1 [.bool sfi, .int .i64 sst, .int .i64 sfr, .int .i64 sstep, .int .i64 sstate, .int .i64 spn, .iface hu hd, .nilIface, .int .i64 ssent, .int .i64 sgot] (by rfl) (by rfl) (World.news_of_block (blk_new wr _)) (by intro u hu; simp at hu; rcases hu with rfl | rfl | rfl | rfl | rfl | rfl | rfl | rfl | rfl | rfl <;> rfl) (by omega) (by unfold maxLen; omega) (by omega) (by have := HX.out.size; simp; omega) (wr.heap.size + 1) (by simp) ?_; intro g1 cap1 w4 hown4 hgrow4 hat4 hlt4; clear hlt4))
        have HF : Hid (Ext W w4) := hid (Below.grown (HX.out.alloc' _) hgrow4 (by have := HX.out.size; simp; omega) (fun k hk => (HO.out.lt k hk).1))
        have HO4 := hid hown4
        clear hown4 hgrow4 hat4
        go_roundw
        case rel => exact ⟨j + 1, by go_num, by omega, HF, hid (by rw [HTK.out, List.flatMap_append, HC10.out]; exact HO4.out)⟩
        case measure => simp [intOf]; omega
      · rw [hmv] at c7 HC10
        clear hmv
        go_wp2_with (first | (at_builtin; refine wpList_append_lies _ rfl (.tmp 15) (.tmp 20) _ rfl W.heap.size 31 j0 (.agg #[.bool false, .int .i64 0, .int .i64 0, .int .i64 0, .int .i64 0, .int .i64 0, .nilIface, .nilIface, .int .i64 0, .int .i64 0]) 10 96 Tryz.underlying26 HI0.out.1 HI0.out.2.1 HI0.out.2.2.1 HI0.out.2.2.2 rfl (by omega) u3 j _ (by rfl) (own_ext ((Ext.refl wr).alloc' _) HO.out) ⟨wr.heap.size, 0, none⟩ 1 1 [.bool sfi, .int .i64 sst, .int .i64 sfr, .int .i64 sstep, .int .i64 sstate, .int .i64 spn, .iface hu hd, .iface mu md, .int .i64 ssent, .int .i64 sgot] (by rfl) (by rfl) (World.news_of_block (blk_new wr _)) (by intro u hu; simp at hu; rcases hu with rfl | rfl | rfl | rfl | rfl | rfl | rfl | rfl | rfl | rfl <;> rfl) (by omega) (by unfold maxLen; omega) (by omega) (by have := HX.out.size; simp; omega) (wr.heap.size + 1) (by simp) ?_; intro g1 cap1 w4 hown4 hgrow4 hat4 hlt4; clear hlt4))
        have HF : Hid (Ext W w4) := hid (Below.grown (HX.out.alloc' _) hgrow4 (by have := HX.out.size; simp; omega) (fun k hk => (HO.out.lt k hk).1))
        have HO4 := hid hown4
        clear hown4 hgrow4 hat4
        go_roundw
        case rel => exact ⟨j + 1, by go_num, by omega, HF, hid (by rw [HTK.out, List.flatMap_append, HC10.out]; exact HO4.out)⟩
        case measure => simp [intOf]; omega
    · have hlt2 : ¬ (j : Int) < (m.sd.length : Int) := by omega
      have hjl : j = μ.sides.length := by have := HLEN.out; omega
      have h5 := HO.out
      rw [hjl, List.take_length] at h5
      have hres : ∃ a c, u3 = .slice a μ.sides.length c ∧ SRow wr a μ.sides := by
        rcases h5.2 with ⟨h6, h7⟩ | ⟨g, cap, cur, h6, hB, hh, hn, hc, hs, ht⟩
        · refine ⟨none, 0, by rw [h6, h7], fun i s hs => ?_⟩
          have : i < μ.sides.length := (List.getElem?_eq_some_iff.1 hs).1
          omega
        · refine ⟨_, _, h6, fun i s hs => ⟨g, rfl, fun k u hu => ?_⟩⟩
          subst h6
          have h8 := flat10 hs hu
          have h9 : i * 10 + k < μ.sides.length * 10 := by rw [← flat10_len]; exact (List.getElem?_eq_some_iff.1 h8).1
          rw [h5.cellAt (i * 10 + k) (by omega)]
          exact h8
      obtain ⟨ra, rc, rfl, hsr⟩ := hres
      have HSR := hid hsr
      clear h5 hsr HO
      go_wp2_with fail
      go_ret
      exact ⟨_, ⟨_, rfl⟩, HSR.out, HX.out⟩

end Go.Proofs.YtjodmedgkmeklaaGreat

/-
  Transcripts of a handshake: plain.
-/
namespace Go.Proofs.YtjodmedgkmeklaaGreat
open Go Go.RowKit
variable {f : Int → List UInt8} {P : Int → Prop}

/-- A term with no data in it. -/
def Tm.dry : Tm → Bool
  | .atom _ => false
  | .chain _ x y => x.dry && y.dry
  | .digest x y => x.dry && y.dry
  | .box k _ a t => k.dry && (a.dry && t.dry)
  | _ => true
theorem nm_dry (N : Nums f P) : ∀ (y : Tm) {x : Tm}, x.ok P → y.ok P → y.dry = true → nm f x = nm f y → x = y := by
  intro y
  induction y with
  | non => intro x _ hy; exact False.elim hy
  | atom n => intro x _ _ hd; cases hd
  | pub n =>
    intro x hx hy _ h
    have h1 := nm_sim N hx hy h
    cases x <;> simp only [Sim] at h1
    subst h1; rfl
  | shared a b =>
    intro x hx hy _ h
    have h1 := nm_sim N hx hy h
    cases x <;> simp only [Sim] at h1
    obtain ⟨rfl, rfl⟩ := h1; rfl
  | empty =>
    intro x hx hy _ h
    have h1 := nm_sim N hx hy h
    cases x <;> simp only [Sim] at h1
    rfl
  | chain i u v ih1 ih2 =>
    intro x hx hy hd h
    have h1 := nm_sim N hx hy h
    cases x <;> simp only [Sim] at h1
    simp only [Tm.dry, Bool.and_eq_true] at hd
    rw [h1.1, ih1 hx.2.1 hy.2.1 hd.1 h1.2.1, ih2 hx.2.2 hy.2.2 hd.2 h1.2.2]
  | digest u v ih1 ih2 =>
    intro x hx hy hd h
    have h1 := nm_sim N hx hy h
    cases x <;> simp only [Sim] at h1
    simp only [Tm.dry, Bool.and_eq_true] at hd
    rw [ih1 hx.1 hy.1 hd.1 h1.1, ih2 hx.2 hy.2 hd.2 h1.2]
  | box k n a t ih1 ih2 ih3 =>
    intro x hx hy hd h
    have h1 := nm_sim N hx hy h
    cases x <;> simp only [Sim] at h1
    simp only [Tm.dry, Bool.and_eq_true] at hd
    rw [h1.1, ih1 hx.2.1 hy.2.1 hd.1 h1.2.1, ih2 hx.2.2.1 hy.2.2.1 hd.2.1 h1.2.2.1, ih3 hx.2.2.2 hy.2.2.2 hd.2.2 h1.2.2.2]

/-! ### what a handshake is made of -/
def dT (a b : Int) : Tm := .shared (min a b) (max a b)
theorem dT_comm (a b : Int) : dT a b = dT b a := by unfold dT; rw [Int.min_comm, Int.max_comm]
def hash0 : Tm := .digest .empty .empty
def hash1 (eI : Int) : Tm := .digest (.digest hash0 (.pub eI)) .empty
def ck1 (eI eR : Int) : Tm := .chain 1 .empty (dT eI eR)
def key1 (eI eR : Int) : Tm := .chain 2 .empty (dT eI eR)
def hash2 (eI eR : Int) : Tm := .digest (hash1 eI) (.pub eR)
def box1 (eI eR sR : Int) : Tm := .box (key1 eI eR) 0 (hash2 eI eR) (.pub sR)
def hash3 (eI eR sR : Int) : Tm := .digest (hash2 eI eR) (box1 eI eR sR)
def ck2 (eI eR sR : Int) : Tm := .chain 1 (ck1 eI eR) (dT eI sR)
def key2 (eI eR sR : Int) : Tm := .chain 2 (ck1 eI eR) (dT eI sR)
def box2 (eI eR sR : Int) : Tm := .box (key2 eI eR sR) 0 (hash3 eI eR sR) .empty
def hash4 (eI eR sR : Int) : Tm := .digest (hash3 eI eR sR) (box2 eI eR sR)
def box3 (eI eR sR sI : Int) : Tm := .box (key2 eI eR sR) 1 (hash4 eI eR sR) (.pub sI)
def hash5 (eI eR sR sI : Int) : Tm := .digest (hash4 eI eR sR) (box3 eI eR sR sI)
def ck3 (eI eR sR sI : Int) : Tm := .chain 1 (ck2 eI eR sR) (dT sI eR)
def key3 (eI eR sR sI : Int) : Tm := .chain 2 (ck2 eI eR sR) (dT sI eR)
def box4 (eI eR sR sI : Int) : Tm := .box (key3 eI eR sR sI) 0 (hash5 eI eR sR sI) .empty
def hash6 (eI eR sR sI : Int) : Tm := .digest (hash5 eI eR sR sI) (box4 eI eR sR sI)
def keyI (eI eR sR sI : Int) : Tm := .chain 1 (ck3 eI eR sR sI) .empty
def keyR (eI eR sR sI : Int) : Tm := .chain 2 (ck3 eI eR sR sI) .empty

section
variable {eI eR sR sI : Int}
theorem p01 : P0 1 := by unfold P0; omega
theorem p02 : P0 2 := by unfold P0; omega
theorem p00 : P0 0 := by unfold P0; omega
theorem ok_dT {a b : Int} (ha : P a) (hb : P b) : (dT a b).ok P := by
  unfold dT
  rcases Int.le_total a b with h | h
  · rw [Int.min_eq_left h, Int.max_eq_right h]; exact ⟨ha, hb⟩
  · rw [Int.min_eq_right h, Int.max_eq_left h]; exact ⟨hb, ha⟩
theorem ok_hash1 (h1 : P eI) : (hash1 eI).ok P := ⟨⟨⟨trivial, trivial⟩, h1⟩, trivial⟩
theorem ok_ck1 (h1 : P eI) (h2 : P eR) : (ck1 eI eR).ok P := ⟨p01, trivial, ok_dT h1 h2⟩
theorem ok_key1 (h1 : P eI) (h2 : P eR) : (key1 eI eR).ok P := ⟨p02, trivial, ok_dT h1 h2⟩
theorem ok_hash2 (h1 : P eI) (h2 : P eR) : (hash2 eI eR).ok P := ⟨ok_hash1 h1, h2⟩
theorem ok_box1 (h1 : P eI) (h2 : P eR) (h3 : P sR) : (box1 eI eR sR).ok P := ⟨p00, ok_key1 h1 h2, ok_hash2 h1 h2, h3⟩
theorem ok_hash3 (h1 : P eI) (h2 : P eR) (h3 : P sR) : (hash3 eI eR sR).ok P := ⟨ok_hash2 h1 h2, ok_box1 h1 h2 h3⟩
theorem ok_ck2 (h1 : P eI) (h2 : P eR) (h3 : P sR) : (ck2 eI eR sR).ok P := ⟨p01, ok_ck1 h1 h2, ok_dT h1 h3⟩
theorem ok_key2 (h1 : P eI) (h2 : P eR) (h3 : P sR) : (key2 eI eR sR).ok P := ⟨p02, ok_ck1 h1 h2, ok_dT h1 h3⟩
theorem ok_box2 (h1 : P eI) (h2 : P eR) (h3 : P sR) : (box2 eI eR sR).ok P := ⟨p00, ok_key2 h1 h2 h3, ok_hash3 h1 h2 h3, trivial⟩
theorem ok_hash4 (h1 : P eI) (h2 : P eR) (h3 : P sR) : (hash4 eI eR sR).ok P := ⟨ok_hash3 h1 h2 h3, ok_box2 h1 h2 h3⟩
theorem ok_box3 (h1 : P eI) (h2 : P eR) (h3 : P sR) (h4 : P sI) : (box3 eI eR sR sI).ok P := ⟨p01, ok_key2 h1 h2 h3, ok_hash4 h1 h2 h3, h4⟩
theorem ok_hash5 (h1 : P eI) (h2 : P eR) (h3 : P sR) (h4 : P sI) : (hash5 eI eR sR sI).ok P := ⟨ok_hash4 h1 h2 h3, ok_box3 h1 h2 h3 h4⟩
theorem ok_ck3 (h1 : P eI) (h2 : P eR) (h3 : P sR) (h4 : P sI) : (ck3 eI eR sR sI).ok P := ⟨p01, ok_ck2 h1 h2 h3, ok_dT h4 h2⟩
theorem ok_key3 (h1 : P eI) (h2 : P eR) (h3 : P sR) (h4 : P sI) : (key3 eI eR sR sI).ok P := ⟨p02, ok_ck2 h1 h2 h3, ok_dT h4 h2⟩
theorem ok_box4 (h1 : P eI) (h2 : P eR) (h3 : P sR) (h4 : P sI) : (box4 eI eR sR sI).ok P := ⟨p00, ok_key3 h1 h2 h3 h4, ok_hash5 h1 h2 h3 h4, trivial⟩
theorem ok_hash6 (h1 : P eI) (h2 : P eR) (h3 : P sR) (h4 : P sI) : (hash6 eI eR sR sI).ok P := ⟨ok_hash5 h1 h2 h3 h4, ok_box4 h1 h2 h3 h4⟩
theorem ok_keyI (h1 : P eI) (h2 : P eR) (h3 : P sR) (h4 : P sI) : (keyI eI eR sR sI).ok P := ⟨p01, ok_ck3 h1 h2 h3 h4, trivial⟩
theorem ok_keyR (h1 : P eI) (h2 : P eR) (h3 : P sR) (h4 : P sI) : (keyR eI eR sR sI).ok P := ⟨p02, ok_ck3 h1 h2 h3 h4, trivial⟩
end

/-! ### sides -/
def sd0 (fi : Bool) (st fr stt : Int) : Sd := ⟨fi, st, fr, 0, stt, 0, hash0, .non, 0, 0, .empty, .non, 0, .non, .non, [], []⟩
def sdI1 (st fr stt : Int) : Sd := ⟨true, st, fr, 1, stt, 0, hash1 fr, .non, 0, 0, .empty, .non, 0, .non, .non, [], []⟩
def sdR1 (st fr stt eI : Int) : Sd := ⟨false, st, fr, 1, stt, 0, hash1 eI, .non, 0, 0, .empty, .non, 0, .pub eI, .non, [], []⟩
def sdI2 (st fr stt eR sR : Int) : Sd := ⟨true, st, fr, 2, stt, sR, hash4 fr eR sR, hash4 fr eR sR, 0, 0, ck2 fr eR sR, key2 fr eR sR, 1, .pub eR, .pub sR, [], []⟩
def sdR2 (st fr stt eI : Int) : Sd := ⟨false, st, fr, 2, stt, 0, hash4 eI fr st, hash4 eI fr st, 0, 0, ck2 eI fr st, key2 eI fr st, 1, .pub eI, .non, [], []⟩
def sdI3 (st fr eR sR sent got : Int) (said took : List Tm) : Sd := ⟨true, st, fr, 3, 1, sR, hash6 fr eR sR st, hash4 fr eR sR, sent, got, ck3 fr eR sR st, key3 fr eR sR st, 1, .pub eR, .pub sR, said, took⟩
def sdR3 (st fr eI sI sent got : Int) (said took : List Tm) : Sd := ⟨false, st, fr, 3, 1, sI, hash6 eI fr st sI, hash4 eI fr st, sent, got, ck3 eI fr st sI, key3 eI fr st sI, 1, .pub eI, .pub sI, said, took⟩

theorem new_sd0 (fi : Bool) (st fr : Int) : newSide fi st fr = sd0 fi st fr 0 := rfl

theorem parts_I0 (st fr : Int) : (sd0 true st fr 0).parts = (sdI1 st fr 0, [.pub fr]) := by
  simp [Sd.parts, sd0, sdI1, Sd.seal, Sd.mix, Sd.next, hash1]
theorem parts_R1 (st fr eI : Int) : (sdR1 st fr 0 eI).parts = (sdR2 st fr 0 eI, [.pub fr, box1 eI fr st, box2 eI fr st]) := by
  simp [Sd.parts, sdR1, sdR2, Sd.seal, Sd.mix, Sd.next, Sd.ee, Sd.es, Sd.dh, Sd.mixKey, hash2, hash3, hash4, box1, box2, key1, key2, ck1, ck2, dT, Int.min_comm, Int.max_comm]
theorem parts_I2 (st fr eR sR : Int) : (sdI2 st fr 0 eR sR).parts = (sdI3 st fr eR sR 0 0 [] [], [box3 fr eR sR st, box4 fr eR sR st]) := by
  simp [Sd.parts, sdI2, sdI3, Sd.seal, Sd.mix, Sd.next, Sd.se, Sd.dh, Sd.mixKey, hash5, hash6, box3, box4, key2, key3, ck2, ck3, dT]

/-- What is opened is what was sealed. -/
theorem opens_box (N : Nums f P) {s s2 : Sd} {t x : Tm} (hk : s.key ≠ .non) (hko : s.key.ok P) (hkd : s.key.dry = true) (hh : s.hash.ok P) (hhd : s.hash.dry = true) (ht : t.ok P) (h : s.opens f t = some (s2, x)) :
    t = .box s.key s.n s.hash x ∧ s2 = ({ s with n := s.n + 1 } : Sd).mix t := by
  unfold Sd.opens at h
  rw [if_neg hk] at h
  cases t <;> simp only [] at h <;> try cases h
  case box k n a y =>
    split at h
    · rename_i hc
      simp only [Option.some.injEq, Prod.mk.injEq] at h
      obtain ⟨rfl, rfl⟩ := h
      have h1 := nm_dry N _ ht.2.1 hko hkd hc.1
      have h2 := nm_dry N _ ht.2.2.1 hh hhd hc.2.2
      subst h1 h2
      exact ⟨by rw [hc.2.1], rfl⟩
    · cases h
theorem opens_seal {s : Sd} {x : Tm} (hk : s.key ≠ .non) : s.opens f (.box s.key s.n s.hash x) = some (({ s with n := s.n + 1 } : Sd).mix (.box s.key s.n s.hash x), x) := by
  unfold Sd.opens
  rw [if_neg hk]
  simp

/-- A responder hears the first message. -/
theorem hears_R0 {l : List Tm} {st fr : Int} {s2 : Sd} (h : (sd0 false st fr 0).hears f l = some s2) : ∃ eI, l = [.pub eI] ∧ s2 = sdR1 st fr 0 eI := by
  unfold Sd.hears at h
  rw [if_pos (show (sd0 false st fr 0).step = 0 from rfl)] at h
  split at h
  · rename_i p
    refine ⟨p, rfl, ?_⟩
    simp [Sd.close, Sd.opens, sd0, Sd.mix, Sd.next] at h
    rw [← h]
    simp [sdR1, hash1]
  · cases h
theorem heard_R0 (st fr eI : Int) : (sd0 false st fr 0).hears f [.pub eI] = some (sdR1 st fr 0 eI) := by
  simp [Sd.hears, Sd.close, Sd.opens, sd0, Sd.mix, Sd.next, sdR1, hash1]

def sdA (st fr eR : Int) : Sd := ⟨true, st, fr, 1, 0, 0, hash2 fr eR, .non, 0, 0, ck1 fr eR, key1 fr eR, 0, .pub eR, .non, [], []⟩
def sdB (st fr eR sR : Int) : Sd := ⟨true, st, fr, 1, 0, sR, hash3 fr eR sR, .non, 0, 0, ck2 fr eR sR, key2 fr eR sR, 0, .pub eR, .pub sR, [], []⟩
def sdC (st fr eI sI : Int) : Sd := ⟨false, st, fr, 2, 0, sI, hash5 eI fr st sI, hash4 eI fr st, 0, 0, ck3 eI fr st sI, key3 eI fr st sI, 0, .pub eI, .pub sI, [], []⟩
theorem hears_I1 (N : Nums f P) {l : List Tm} {st fr : Int} {s2 : Sd} (hfr : P fr) (hl : ∀ t ∈ l, t.ok P) (h : (sdI1 st fr 0).hears f l = some s2) :
    ∃ eR sR, P eR ∧ P sR ∧ l = [.pub eR, box1 fr eR sR, box2 fr eR sR] ∧ s2 = sdI2 st fr 0 eR sR := by
  unfold Sd.hears at h
  rw [if_neg (show ¬ (sdI1 st fr 0).step = 0 by simp [sdI1]), if_pos (show (sdI1 st fr 0).step = 1 from rfl)] at h
  split at h
  · rename_i eR b c
    have hR : P eR := hl (.pub eR) (by simp)
    have hb := hl b (by simp)
    have hc := hl c (by simp)
    have e1 : (({ (sdI1 st fr 0) with theirs := Tm.pub eR } : Sd).mix (.pub eR)).ee = sdA st fr eR := by
      simp [sdI1, sdA, Sd.mix, Sd.ee, Sd.dh, Sd.mixKey, hash2, ck1, key1, dT]
    rw [e1] at h
    unfold Sd.body at h
    cases ho : (sdA st fr eR).opens f b with
    | none => rw [ho] at h; cases h
    | some r =>
      obtain ⟨r1, x⟩ := r
      rw [ho] at h
      have h1 := opens_box N (by simp [sdA, key1]) (ok_key1 hfr hR) rfl (ok_hash2 hfr hR) rfl hb ho
      split at h
      · rename_i r3 sR he
        obtain ⟨rfl, rfl⟩ := Prod.mk.inj (Option.some.inj he)
        have e2 : b = box1 fr eR sR := h1.1
        have hsR : P sR := by rw [e2] at hb; exact hb.2.2.2
        have e3 : (({ r1 with peer := Tm.pub sR, peerN := sR } : Sd)).es = sdB st fr eR sR := by
          rw [h1.2, e2]
          simp [sdA, sdB, Sd.mix, Sd.es, Sd.dh, Sd.mixKey, hash3, ck2, key2, dT]
        have e4 : r1.step = 1 := by rw [h1.2]; rfl
        rw [if_pos e4, e3] at h
        unfold Sd.close at h
        cases ho2 : (sdB st fr eR sR).opens f c with
        | none => rw [ho2] at h; cases h
        | some q =>
          obtain ⟨q1, y⟩ := q
          rw [ho2] at h
          have h2 := opens_box N (by simp [sdB, key2]) (ok_key2 hfr hR hsR) rfl (ok_hash3 hfr hR hsR) rfl hc ho2
          replace h : (if nm f y = nm f .empty then some q1.next else none) = some s2 := h
          split at h
          · rename_i hy
            have hyo : y.ok P := by have := hc; rw [h2.1] at this; exact this.2.2.2
            obtain rfl : y = .empty := nm_dry N .empty hyo trivial rfl hy
            refine ⟨eR, sR, hR, hsR, by rw [e2, h2.1]; rfl, ?_⟩
            rw [← Option.some.inj h, h2.2, h2.1]
            simp [sdB, sdI2, Sd.mix, Sd.next, hash4, box2]
          · cases h
      · cases h
  · cases h
theorem heard_I1 (st fr eR sR : Int) : (sdI1 st fr 0).hears f [.pub eR, box1 fr eR sR, box2 fr eR sR] = some (sdI2 st fr 0 eR sR) := by
  unfold Sd.hears
  rw [if_neg (show ¬ (sdI1 st fr 0).step = 0 by simp [sdI1]), if_pos (show (sdI1 st fr 0).step = 1 from rfl)]
  have e1 : (({ (sdI1 st fr 0) with theirs := Tm.pub eR } : Sd).mix (.pub eR)).ee = sdA st fr eR := by
    simp [sdI1, sdA, Sd.mix, Sd.ee, Sd.dh, Sd.mixKey, hash2, ck1, key1, dT]
  show (((({ (sdI1 st fr 0) with theirs := Tm.pub eR } : Sd).mix (.pub eR)).ee).body f _ _) = _
  rw [e1]
  unfold Sd.body
  have o1 := opens_seal (f := f) (s := sdA st fr eR) (x := .pub sR) (by simp [sdA, key1])
  have o1' : (sdA st fr eR).opens f (box1 fr eR sR) = _ := o1
  rw [o1']
  have e3 : (({ ({ (sdA st fr eR) with n := (sdA st fr eR).n + 1 } : Sd).mix (.box (sdA st fr eR).key (sdA st fr eR).n (sdA st fr eR).hash (.pub sR)) with peer := Tm.pub sR, peerN := sR } : Sd)).es = sdB st fr eR sR := by
    simp [sdA, sdB, Sd.mix, Sd.es, Sd.dh, Sd.mixKey, hash3, box1, ck2, key2, dT]
  have e5 : ∀ (a b : Sd), (if (({ ({ (sdA st fr eR) with n := (sdA st fr eR).n + 1 } : Sd).mix (.box (sdA st fr eR).key (sdA st fr eR).n (sdA st fr eR).hash (.pub sR)) with peer := Tm.pub sR, peerN := sR } : Sd)).step = 1 then a else b) = a := fun a b => if_pos rfl
  refine (congrArg (fun z => Sd.close f z (box2 fr eR sR)) ((e5 _ _).trans e3)).trans ?_
  show Sd.close f (sdB st fr eR sR) (box2 fr eR sR) = _
  unfold Sd.close
  have o2 := opens_seal (f := f) (s := sdB st fr eR sR) (x := .empty) (by simp [sdB, key2])
  have o2' : (sdB st fr eR sR).opens f (box2 fr eR sR) = _ := o2
  rw [o2']
  simp [sdB, sdI2, Sd.mix, Sd.next, hash4, box2]
theorem hears_R2 (N : Nums f P) {l : List Tm} {st fr eI : Int} {s2 : Sd} (hfr : P fr) (hst : P st) (he : P eI) (hl : ∀ t ∈ l, t.ok P) (h : (sdR2 st fr 0 eI).hears f l = some s2) :
    ∃ sI, P sI ∧ l = [box3 eI fr st sI, box4 eI fr st sI] ∧ s2 = sdR3 st fr eI sI 0 0 [] [] := by
  unfold Sd.hears at h
  rw [if_neg (show ¬ (sdR2 st fr 0 eI).step = 0 by simp [sdR2]), if_neg (show ¬ (sdR2 st fr 0 eI).step = 1 by simp [sdR2])] at h
  split at h
  · rename_i b c
    have hb := hl b (by simp)
    have hc := hl c (by simp)
    unfold Sd.body at h
    cases ho : (sdR2 st fr 0 eI).opens f b with
    | none => rw [ho] at h; cases h
    | some r =>
      obtain ⟨r1, x⟩ := r
      rw [ho] at h
      have h1 := opens_box N (by simp [sdR2, key2]) (ok_key2 he hfr hst) rfl (ok_hash4 he hfr hst) rfl hb ho
      split at h
      · rename_i r3 sI heq
        obtain ⟨rfl, rfl⟩ := Prod.mk.inj (Option.some.inj heq)
        have e2 : b = box3 eI fr st sI := h1.1
        have hsI : P sI := by rw [e2] at hb; exact hb.2.2.2
        have e3 : (({ r1 with peer := Tm.pub sI, peerN := sI } : Sd)).se = sdC st fr eI sI := by
          rw [h1.2, e2]
          simp [sdR2, sdC, Sd.mix, Sd.se, Sd.dh, Sd.mixKey, hash5, ck3, key3, dT, Int.min_comm, Int.max_comm]
        have e4 : r1.step ≠ 1 := by rw [h1.2]; simp [sdR2, Sd.mix]
        rw [if_neg e4, e3] at h
        unfold Sd.close at h
        cases ho2 : (sdC st fr eI sI).opens f c with
        | none => rw [ho2] at h; cases h
        | some q =>
          obtain ⟨q1, y⟩ := q
          rw [ho2] at h
          have h2 := opens_box N (by simp [sdC, key3]) (ok_key3 he hfr hst hsI) rfl (ok_hash5 he hfr hst hsI) rfl hc ho2
          replace h : (if nm f y = nm f .empty then some q1.next else none) = some s2 := h
          split at h
          · rename_i hy
            have hyo : y.ok P := by have := hc; rw [h2.1] at this; exact this.2.2.2
            obtain rfl : y = .empty := nm_dry N .empty hyo trivial rfl hy
            refine ⟨sI, hsI, by rw [e2, h2.1]; rfl, ?_⟩
            rw [← Option.some.inj h, h2.2, h2.1]
            simp [sdC, sdR3, Sd.mix, Sd.next, hash6, box4]
          · cases h
      · cases h
  · cases h
theorem heard_R2 (st fr eI sI : Int) : (sdR2 st fr 0 eI).hears f [box3 eI fr st sI, box4 eI fr st sI] = some (sdR3 st fr eI sI 0 0 [] []) := by
  unfold Sd.hears
  rw [if_neg (show ¬ (sdR2 st fr 0 eI).step = 0 by simp [sdR2]), if_neg (show ¬ (sdR2 st fr 0 eI).step = 1 by simp [sdR2])]
  show (sdR2 st fr 0 eI).body f _ _ = _
  unfold Sd.body
  have o1 := opens_seal (f := f) (s := sdR2 st fr 0 eI) (x := .pub sI) (by simp [sdR2, key2])
  have o1' : (sdR2 st fr 0 eI).opens f (box3 eI fr st sI) = _ := o1
  rw [o1']
  have e3 : (({ ({ (sdR2 st fr 0 eI) with n := (sdR2 st fr 0 eI).n + 1 } : Sd).mix (.box (sdR2 st fr 0 eI).key (sdR2 st fr 0 eI).n (sdR2 st fr 0 eI).hash (.pub sI)) with peer := Tm.pub sI, peerN := sI } : Sd)).se = sdC st fr eI sI := by
    simp [sdR2, sdC, Sd.mix, Sd.se, Sd.dh, Sd.mixKey, hash5, box3, ck3, key3, dT, Int.min_comm, Int.max_comm]
  have e5 : ∀ (a b : Sd), (if (({ ({ (sdR2 st fr 0 eI) with n := (sdR2 st fr 0 eI).n + 1 } : Sd).mix (.box (sdR2 st fr 0 eI).key (sdR2 st fr 0 eI).n (sdR2 st fr 0 eI).hash (.pub sI)) with peer := Tm.pub sI, peerN := sI } : Sd)).step = 1 then a else b) = b := fun a b => if_neg (by simp [sdR2, Sd.mix])
  refine (congrArg (fun z => Sd.close f z (box4 eI fr st sI)) ((e5 _ _).trans e3)).trans ?_
  show Sd.close f (sdC st fr eI sI) (box4 eI fr st sI) = _
  unfold Sd.close
  have o2 := opens_seal (f := f) (s := sdC st fr eI sI) (x := .empty) (by simp [sdC, key3])
  have o2' : (sdC st fr eI sI).opens f (box4 eI fr st sI) = _ := o2
  rw [o2']
  simp [sdC, sdR3, Sd.mix, Sd.next, hash6, box4]

end Go.Proofs.YtjodmedgkmeklaaGreat
