/-
  The address that goes, where there is no room.
-/
import Derived.Test.YtnlblmpfkikneaaS11
namespace Go.Proofs.Ytnlblmpfkikneaa
open Go Go.RowKit Go.Maps
attribute [local go_sem] extUpon
attribute [local go_sem ↓] eval_put_ne eval_put_none eval_put_same size_put eval_const

/-- The first of the least. -/
def pickMin (t : Int → Nat) : Int → List Int → Int
  | m, [] => m
  | m, x :: l => pickMin t (if t x < t m then x else m) l
theorem pickMin_spec (t : Int → Nat) : ∀ (l : List Int) (m : Int), (∀ x ∈ l, m < x) → l.Pairwise (· < ·) → pickMin t m l ∈ m :: l ∧ ∀ x ∈ m :: l, t (pickMin t m l) < t x ∨ (t (pickMin t m l) = t x ∧ pickMin t m l ≤ x)
  | [], m, _, _ => ⟨List.mem_singleton.2 rfl, fun x hx => by rw [List.mem_singleton.1 hx]; exact .inr ⟨rfl, Int.le_refl _⟩⟩
  | y :: l, m, h1, h2 => by
    have hy := h1 y (List.mem_cons_self ..)
    obtain ⟨h3, h4⟩ := List.pairwise_cons.1 h2
    have ih := pickMin_spec t l (if t y < t m then y else m) (fun x hx => by
      split
      · exact h3 x hx
      · exact h1 x (List.mem_cons_of_mem _ hx)) h4
    show pickMin t (if t y < t m then y else m) l ∈ m :: y :: l ∧ ∀ x ∈ m :: y :: l, t (pickMin t (if t y < t m then y else m) l) < t x ∨ (t (pickMin t (if t y < t m then y else m) l) = t x ∧ pickMin t (if t y < t m then y else m) l ≤ x)
    generalize pickMin t (if t y < t m then y else m) l = p at *
    by_cases hlt : t y < t m
    · rw [if_pos hlt] at ih
      obtain ⟨i1, i2⟩ := ih
      refine ⟨List.mem_cons_of_mem _ i1, fun x hx => ?_⟩
      rcases List.mem_cons.1 hx with rfl | hx
      · have := i2 y (List.mem_cons_self ..)
        left; omega
      · exact i2 x hx
    · rw [if_neg hlt] at ih
      obtain ⟨i1, i2⟩ := ih
      refine ⟨by rcases List.mem_cons.1 i1 with rfl | i1
                 · exact List.mem_cons_self ..
                 · exact List.mem_cons_of_mem _ (List.mem_cons_of_mem _ i1), fun x hx => ?_⟩
      rcases List.mem_cons.1 hx with rfl | hx
      · exact i2 x (List.mem_cons_self ..)
      · rcases List.mem_cons.1 hx with rfl | hx
        · have := i2 m (List.mem_cons_self ..)
          omega
        · exact i2 x (List.mem_cons_of_mem _ hx)
def tilK (rows : Int → Option LRow) (k : Int) : Nat := match rows k with | some r => r.til | none => 0
def cvU (t : Int → Nat) (x y : Int) : Int := if t x < t y then -1 else if t y < t x then 1 else 0
theorem cvU_neg (t : Int → Nat) (x y : Int) : cvU t x y < 0 ↔ t x < t y := by
  unfold cvU
  split
  · simp [*]
  · split <;> simp [*]

section
variable {w0 w : World} {own : Nat → Option (Nat × Tag)} {ts : Nat → Option TS} {i : Nat} {s : TS} {tbx : Nat}
set_option maxHeartbeats 4000000 in
set_option maxRecDepth 100000 in
theorem cmp_any (h : Locks w0 w own ts) (hs : ts i = some s) (hbx : w.heap[tbx]? = some (.cells #[ptr s.tb] 25 (0, 0))) {a b : Int} {ra rb : LRow} (ha : s.rows a = some ra) (hb : s.rows b = some rb) :
    Calls Try.prog 30 #[.int .u32 a, .int .u32 b, .pointer (some ⟨tbx, 0, none⟩)] w fun e w' => e = .returned (.int .i64 (cvU (tilK s.rows) a b)) ∧ Ext w w' := by
  have hma : s.map a = some (s.pf a) := by show (s.rows a).map _ = _; rw [ha]; rfl
  have hmb : s.map b = some (s.pf b) := by show (s.rows b).map _ = _; rw [hb]; rfl
  have hua := ((h.tab i s hs).map).dom hma
  have hub := ((h.tab i s hs).map).dom hmb
  have hcv : cvU (tilK s.rows) a b = if ra.til < rb.til then -1 else if rb.til < ra.til then 1 else 0 := by
    unfold cvU tilK; rw [ha, hb]
  rw [hcv]
  have HT := hid (fun W (he : Ext w W) => (h.later he).tab i s hs)
  have HX : Hid (∀ W, Ext w W → W.cell? ⟨tbx, 0, none⟩ = some (.pointer (some ⟨s.tb, 0, none⟩))) := hid (fun W he => cell_blk (he.blk hbx) rfl)
  have HM : Hid (∀ W, Ext w W → W.cell? ⟨s.tb, 3, none⟩ = some (.map (some s.mb))) := hid (fun W he => cell_blk (HT.out W he).blk rfl)
  have HA : Hid (∀ W, Ext w W → (Instr.lookup 51 (.map (some s.mb)) (.int .u32 a) false).run Try.prog W = .ok (.pointer (some ⟨s.pf a, 0, none⟩)) W) := hid (fun W he => by
    have := (HT.out W he).map.get hua
    rw [hma] at this
    exact this)
  have HB : Hid (∀ W, Ext w W → (Instr.lookup 51 (.map (some s.mb)) (.int .u32 b) false).run Try.prog W = .ok (.pointer (some ⟨s.pf b, 0, none⟩)) W) := hid (fun W he => by
    have := (HT.out W he).map.get hub
    rw [hmb] at this
    exact this)
  have HRA : Hid (∀ W, Ext w W → W.cell? ⟨s.pf a, 1, none⟩ = some (.int .u64 ra.til)) := hid (fun W he => cell_blk ((HT.out W he).row a ra ha).blk rfl)
  have HRB : Hid (∀ W, Ext w W → W.cell? ⟨s.pf b, 1, none⟩ = some (.int .u64 rb.til)) := hid (fun W he => cell_blk ((HT.out W he).row b rb hb).blk rfl)
  clear h hs hbx ha hb hma hmb hua hub hcv HT
  generalize ra.til = ta at *
  generalize rb.til = tb at *
  obtain ⟨cv, hcv2⟩ : ∃ c : Int, c = if ta < tb then -1 else if tb < ta then 1 else 0 := ⟨_, rfl⟩
  rw [← hcv2]
  have HCV := hid hcv2
  clear hcv2
  go_enter Try.func30, Try.ntmps30
  go_wp2_with fail
  refine reg_begin 20 (by kernel_rfl) ?_
  refine reg_hide (fun Q2 HQ => ?_)
  generalize hW : World.drew _ = W8
  have HE8 : Hid (Ext w W8) := hid (by rw [← hW]; exact Ext.drew _)
  clear hW
  refine reg_quiet 0 rfl (by kernel_rfl) (by kernel_rfl) ?_; apply Exists.intro; refine ⟨fun w' hw' => ?_, ?_⟩; · have q0 := HX.out w' (HE8.out.trans hw'); go_simp; exact ⟨rfl, Ext.refl _⟩
  iterate 2 (refine reg_pf 20 rfl (by kernel_rfl) (by kernel_rfl) ?_; apply Exists.intro; refine ⟨fun w' => ?_, ?_⟩; · go_simp; exact rfl)
  refine reg_quiet 3 rfl (by kernel_rfl) (by kernel_rfl) ?_; apply Exists.intro; refine ⟨fun w' hw' => ?_, ?_⟩; · have q0 := HM.out w' (HE8.out.trans hw'); go_simp; exact ⟨rfl, Ext.refl _⟩
  iterate 1 (refine reg_pf 20 rfl (by kernel_rfl) (by kernel_rfl) ?_; apply Exists.intro; refine ⟨fun w' => ?_, ?_⟩; · go_simp; exact rfl)
  refine reg_quiet 5 rfl (by kernel_rfl) (by kernel_rfl) ?_; apply Exists.intro; refine ⟨fun w' hw' => ?_, ?_⟩; · have q0 := HA.out w' (HE8.out.trans hw'); go_simp; exact ⟨rfl, Ext.refl _⟩
  iterate 2 (refine reg_pf 20 rfl (by kernel_rfl) (by kernel_rfl) ?_; apply Exists.intro; refine ⟨fun w' => ?_, ?_⟩; · go_simp; exact rfl)
  refine reg_quiet 8 rfl (by kernel_rfl) (by kernel_rfl) ?_; apply Exists.intro; refine ⟨fun w' hw' => ?_, ?_⟩; · have q0 := HRA.out w' (HE8.out.trans hw'); go_simp; exact ⟨rfl, Ext.refl _⟩
  refine reg_quiet 9 rfl (by kernel_rfl) (by kernel_rfl) ?_; apply Exists.intro; refine ⟨fun w' hw' => ?_, ?_⟩; · have q0 := HX.out w' (HE8.out.trans hw'); go_simp; exact ⟨rfl, Ext.refl _⟩
  iterate 2 (refine reg_pf 20 rfl (by kernel_rfl) (by kernel_rfl) ?_; apply Exists.intro; refine ⟨fun w' => ?_, ?_⟩; · go_simp; exact rfl)
  refine reg_quiet 12 rfl (by kernel_rfl) (by kernel_rfl) ?_; apply Exists.intro; refine ⟨fun w' hw' => ?_, ?_⟩; · have q0 := HM.out w' (HE8.out.trans hw'); go_simp; exact ⟨rfl, Ext.refl _⟩
  iterate 1 (refine reg_pf 20 rfl (by kernel_rfl) (by kernel_rfl) ?_; apply Exists.intro; refine ⟨fun w' => ?_, ?_⟩; · go_simp; exact rfl)
  refine reg_quiet 14 rfl (by kernel_rfl) (by kernel_rfl) ?_; apply Exists.intro; refine ⟨fun w' hw' => ?_, ?_⟩; · have q0 := HB.out w' (HE8.out.trans hw'); go_simp; exact ⟨rfl, Ext.refl _⟩
  iterate 2 (refine reg_pf 20 rfl (by kernel_rfl) (by kernel_rfl) ?_; apply Exists.intro; refine ⟨fun w' => ?_, ?_⟩; · go_simp; exact rfl)
  refine reg_quiet 17 rfl (by kernel_rfl) (by kernel_rfl) ?_; apply Exists.intro; refine ⟨fun w' hw' => ?_, ?_⟩; · have q0 := HRB.out w' (HE8.out.trans hw'); go_simp; exact ⟨rfl, Ext.refl _⟩
  iterate 2 (refine reg_pf 20 rfl (by kernel_rfl) (by kernel_rfl) ?_; apply Exists.intro; refine ⟨fun w' => ?_, ?_⟩; · go_simp; exact rfl)
  refine reg_done (by kernel_rfl) (fun W9 hw5 => ?_) _
  rw [HQ.out]
  clear HQ Q2
  have HE9 := hid (HE8.out.trans hw5)
  clear hw5 HE8
  go_simp
  by_cases h1 : ta < tb
  · have h1z : (ta : Int) < (tb : Int) := by omega
    go_wp2_with fail
    go_ret
    have e : cv = -1 := by rw [HCV.out, if_pos h1]
    rw [e]
    exact ⟨rfl, HE9.out⟩
  · have h1z : ¬ (ta : Int) < (tb : Int) := by omega
    by_cases h2 : tb < ta
    · have h2z : (tb : Int) < (ta : Int) := by omega
      go_wp2_with fail
      go_ret
      have e : cv = 1 := by rw [HCV.out, if_neg h1, if_pos h2]
      rw [e]
      exact ⟨rfl, HE9.out⟩
    · have h2z : ¬ (tb : Int) < (ta : Int) := by omega
      go_wp2_with fail
      go_ret
      have e : cv = 0 := by rw [HCV.out, if_neg h1, if_neg h2]
      rw [e]
      exact ⟨rfl, HE9.out⟩

set_option maxHeartbeats 4000000 in
set_option maxRecDepth 100000 in
theorem min_any {v : Value} {k0 : Int} {l : List Int} (t : Int → Nat) (hv : Ad w v (k0 :: l)) (hn : (k0 :: l).length ≤ 1000)
    (hc : ∀ x ∈ k0 :: l, ∀ y ∈ k0 :: l, ∀ W, Ext w W → Calls Try.prog 30 #[.int .u32 x, .int .u32 y, .pointer (some ⟨tbx, 0, none⟩)] W fun e w' => e = .returned (.int .i64 (cvU t x y)) ∧ Ext W w') :
    Calls Try.prog 29 #[v, .func (.func 30) #[] #[.pointer (some ⟨tbx, 0, none⟩)]] w fun e w' => e = .returned (.int .u32 (pickMin t k0 l)) ∧ Ext w w' := by
  obtain ⟨a, cap, rfl, h1⟩ := hv
  obtain ⟨g, rfl, h2⟩ := h1 (by simp)
  have HC := hid hc
  have HCELL := hid h2
  have h0 := h2 0 (by simp)
  simp only [List.getElem_cons_zero] at h0
  obtain ⟨ks, hks⟩ : ∃ ks, ks = k0 :: l := ⟨_, rfl⟩
  rw [← hks] at HC HCELL hn
  rw [← hks]
  obtain ⟨n, hln⟩ : ∃ n, n = ks.length := ⟨_, rfl⟩
  have hn1 : 1 ≤ n := by rw [hln, hks]; simp
  rw [← hln] at hn
  rw [← hln]
  have HKS := hid hks
  have HN := hid hln
  have HMEM : Hid (k0 ∈ ks) := hid (by rw [hks]; exact List.mem_cons_self ..)
  have hd : Hid (pickMin t k0 (ks.drop 1) = pickMin t k0 l) := hid (by rw [hks]; rfl)
  have hn1z : ¬ (n : Int) < 1 := by omega
  have b0 : (0 : Int) < (n : Int) := by omega
  clear hc h1 h2 hks hln
  go_enter Try.func29, Try.ntmps29
  go_wp2_with fail
  go_loopw [5, 6] (fun mv jv wr => ∃ (m : Int) (j : Nat), mv = .int .u32 m ∧ jv = .int .i64 j ∧ 1 ≤ j ∧ j ≤ n ∧ Hid (m ∈ ks) ∧ Hid (Ext w wr) ∧ Hid (pickMin t m (ks.drop j) = pickMin t k0 l)) (fun _ jv _ => n - (intOf jv).toNat)
  case atStart => exact ⟨k0, 1, rfl, rfl, Nat.le_refl _, hn1, HMEM, hid (Ext.refl _), hd⟩
  case round =>
    obtain ⟨m, j, rfl, rfl, hj1, hjn, HM, HE, HP⟩ := hrel
    by_cases hlt : j < n
    · have hltz : (j : Int) < (n : Int) := by omega
      have hjl : j < ks.length := by rw [← HN.out]; exact hlt
      have hcj := HE.out.cell (HCELL.out j hjl)
      have hcl := HC.out ks[j] (List.getElem_mem hjl) m HM.out wr HE.out
      have hneg := cvU_neg t ks[j] m
      have HD : Hid (ks.drop j = ks[j] :: ks.drop (j + 1)) := hid (List.drop_eq_getElem_cons hjl)
      have HX : Hid (ks[j] ∈ ks) := hid (List.getElem_mem hjl)
      have HCL := hid hcl
      clear hcl
      have hcj2 := hid hcj
      generalize ks[j] = x at *
      generalize cvU t x m = c at *
      by_cases hx : t x < t m
      · have hcz : c < 0 := hneg.2 hx
        clear hneg
        go_wp2_with fail
        refine HCL.out.mono ?_
        rintro e w2 ⟨rfl, hE2⟩
        have HE2 := hid (HE.out.trans hE2)
        have hcj3 := hE2.cell hcj2.out
        clear hE2 hcj
        go_wp2_with fail
        go_roundw
        case rel => exact ⟨x, j + 1, rfl, by go_num, by omega, by omega, HX, HE2, hid (by rw [← HP.out, HD.out]; show _ = pickMin t (if t x < t m then x else m) _; rw [if_pos hx])⟩
        case measure => simp [intOf]; omega
      · have hcz : ¬ c < 0 := fun h => hx (hneg.1 h)
        clear hneg
        go_wp2_with fail
        refine HCL.out.mono ?_
        rintro e w2 ⟨rfl, hE2⟩
        have HE2 := hid (HE.out.trans hE2)
        clear hE2 hcj
        go_wp2_with fail
        go_roundw
        case rel => exact ⟨m, j + 1, rfl, by go_num, by omega, by omega, HM, HE2, hid (by rw [← HP.out, HD.out]; show _ = pickMin t (if t x < t m then x else m) _; rw [if_neg hx])⟩
        case measure => simp [intOf]; omega
    · have hltz : ¬ (j : Int) < (n : Int) := by omega
      have hjn2 : j = n := by omega
      go_wp2_with fail
      go_ret
      refine ⟨?_, HE.out⟩
      have h5 := HP.out
      rw [List.drop_eq_nil_of_le (by rw [← HN.out]; omega)] at h5
      rw [← h5]; rfl
end

end Go.Proofs.Ytnlblmpfkikneaa
