/-
  A fail where there is no room: one address goes.
-/
import Derived.Test.YtnlblmpfkikneaaS12
import Derived.Deep.Cut
namespace Go.Proofs.Ytnlblmpfkikneaa
open Go Go.RowKit Go.Maps
attribute [local go_sem] extUpon
attribute [local go_sem ↓] eval_put_ne eval_put_none eval_put_same size_put eval_const

/-- The address that goes: one that is locked the shortest, of such the least. -/
def Gone (rows : Int → Option LRow) (k : Int) : Prop := (rows k).isSome = true ∧ ∀ x, (rows x).isSome = true → tilK rows k < tilK rows x ∨ (tilK rows k = tilK rows x ∧ k ≤ x)
theorem Gone.uniq {rows : Int → Option LRow} {k k2 : Int} (h : Gone rows k) (h2 : Gone rows k2) : k = k2 := by
  have h3 := h.2 k2 h2.1
  have h4 := h2.2 k h.1
  omega
theorem Gone.of_rising {s : TS} {k0 : Int} {l : List Int} {n : Nat} (h : Rising s.map n (k0 :: l)) : Gone s.rows (pickMin (tilK s.rows) k0 l) := by
  obtain ⟨h1, h2, h3⟩ := h
  have hm : ∀ x, (s.map x).isSome = (s.rows x).isSome := fun x => by unfold TS.map; cases s.rows x <;> rfl
  obtain ⟨h4, h5⟩ := List.pairwise_cons.1 h1
  obtain ⟨h6, h7⟩ := pickMin_spec (tilK s.rows) l k0 h4 h5
  exact ⟨by rw [← hm]; exact (h3 _).1 h6, fun x hx => h7 x ((h3 x).2 (by rw [hm]; exact hx))⟩
theorem MapF.rising {w : World} {b n : Nat} {f : Int → Option Nat} (h : MapF w b f n) : ∃ ks, Rising f n ks := by
  obtain ⟨ks, h1, h2, h3⟩ := h.keysF
  exact ⟨_, sort_rising h1, by rw [List.length_mergeSort, h2], fun x => by rw [List.mem_mergeSort, h3]⟩
theorem gone_some {w0 w : World} {own : Nat → Option (Nat × Tag)} {ts : Nat → Option TS} {i : Nat} {s : TS} (h : Locks w0 w own ts) (hs : ts i = some s) (hn : 0 < s.n) : ∃ k, Gone s.rows k := by
  obtain ⟨ks, hk⟩ := (h.tab i s hs).map.rising
  cases ks with
  | nil => have := hk.2.1; simp at this; omega
  | cons k0 l => exact ⟨_, Gone.of_rising hk⟩

section
variable {w0 w : World} {own : Nat → Option (Nat × Tag)} {ts : Nat → Option TS} {i : Nat} {s : TS} {a k : Int}
set_option maxHeartbeats 4000000 in
set_option maxRecDepth 100000 in
theorem row_full (h : Locks w0 w own ts) (hs : ts i = some s) (ha : U32 a) (hr : s.rows a = none) (hn : s.n = 32) (hk : Gone s.rows k) :
    Calls Try.prog 23 #[ptr s.tb, .int .u32 a] w fun e w' => ∃ own' s', e = .returned (ptr (s'.pf a)) ∧ Locks w0 w' own' (upd ts i s') ∧ Owns w own own' ∧ Same w w' (Free own) ∧
      s'.rows = rset (rdel s.rows k) a .new ∧ s'.c = s.c ∧ s'.tb = s.tb ∧ s'.n = 32 := by
  have hE0 : Ext w (w.alloc (.cells #[ptr s.tb] 25 (0, 0))) := Ext.alloc _ _
  have hT1 := (h.later hE0).tab i s hs
  have hb3 := cell_blk (j := 3) hT1.blk rfl
  have hlk := hT1.map.look ha
  have hln := hT1.map.len 3
  rw [hn, show ((32 : Nat) : Int) = 32 from rfl] at hln
  have hmap : s.map a = (s.rows a).map fun _ => s.pf a := rfl
  rw [hr] at hmap
  simp only [hmap, Option.map_none, Option.isSome_none] at hlk
  have hbx : (w.alloc (.cells #[ptr s.tb] 25 (0, 0))).heap[w.heap.size]? = some (.cells #[ptr s.tb] 25 (0, 0)) := blk_new _ _
  have HS := hid hs
  have HN := hid hn
  have HR := hid hr
  have HK := hid hk
  have HOW : Hid (∀ b, w.heap.size ≤ b → own b = none) := hid (fun b hb => by
    cases ho : own b with
    | none => rfl
    | some x => have := (h.owns _ _ ho).2; omega)
  have HM := hid hmap
  have HE0 := hid hE0
  have H1 := hid (h.later hE0)
  have HB := hid hbx
  have HBS := hid h.ext.size
  have HMB := hid (h.tab i s hs).mbo
  clear hT1 hE0 h hs hn hr hk hbx hmap
  unfold ptr at *
  go_enter Try.func23, Try.ntmps23
  go_wp2_with fail
  have haddr := addr_any H1.out HS.out
  unfold ptr at haddr
  generalize World.alloc w _ = W1 at *
  refine haddr.mono ?_
  clear haddr hb3 hlk hln
  rintro e W2 ⟨v, ks, rfl, hri, had, hE2⟩
  have HE2 := hid hE2
  have HB2 := hid (hE2.blk HB.out)
  have H2 := hid (H1.out.later hE2)
  clear hE2
  cases ks with
  | nil => exfalso; have := hri.2.1; have := HN.out; simp at *; omega
  | cons k0 l =>
    have hg0 := Gone.of_rising hri
    have hkk := hg0.uniq HK.out
    have hmin := min_any (tbx := w.heap.size) (tilK s.rows) had (by have := hri.2.1; have := HN.out; omega) (fun x hx y hy W he => by
      have hsx : (s.rows x).isSome = true := by have h5 := (hri.2.2 x).1 hx; unfold TS.map at h5; cases h6 : s.rows x <;> simp_all
      have hsy : (s.rows y).isSome = true := by have h5 := (hri.2.2 y).1 hy; unfold TS.map at h5; cases h6 : s.rows y <;> simp_all
      obtain ⟨rx, hrx⟩ := Option.isSome_iff_exists.1 hsx
      obtain ⟨ry, hry⟩ := Option.isSome_iff_exists.1 hsy
      exact cmp_any (H2.out.later he) HS.out (he.blk HB2.out) hrx hry)
    rw [hkk] at hmin
    have HMIN := hid hmin
    have HK2 := HK
    obtain ⟨av, capv, rfl, _⟩ := had
    clear hmin hri hg0 hkk
    go_wp2_with fail
    refine HMIN.out.mono ?_
    rintro e W3 ⟨rfl, hE3⟩
    have h3 := H2.out.later hE3
    have hT3 := h3.tab i s HS.out
    have hmk : s.map k = some (s.pf k) := by
      have h5 := HK2.out.1
      unfold TS.map
      cases h6 : s.rows k with
      | none => rw [h6] at h5; cases h5
      | some r => rfl
    obtain ⟨W4, hrun4, hm4, hg4⟩ := hT3.map.drop (hT3.map.dom hmk) 0
    have h4 := h3.del HS.out hg4 hm4
    have hn4 : (s.less k).n = 31 := by
      show (if (s.rows k).isSome then s.n - 1 else s.n) = 31
      rw [if_pos HK2.out.1, HN.out]
    have hr4 : (s.less k).rows a = none := by
      show (if a = k then none else s.rows a) = none
      rw [HR.out]; split <;> rfl
    have hE5 : Ext W4 (W4.alloc (.cells #[.slice none 0 0, .int .u64 0, .int .i64 0] 58 (0, 0))) := Ext.alloc _ _
    have h5 := h4.later hE5
    have hT5 := h5.tab i _ (upd_self _ _ _)
    have hm5 : (s.less k).map a = none := by unfold TS.map; rw [hr4]; rfl
    obtain ⟨W6, hrun6, hm6, hg6⟩ := hT5.map.store ha hm5 (by omega) W4.heap.size
    have hsz1 := HE0.out.size
    have hsz2 := HE2.out.size
    have hsz3 := hE3.size
    have hsz4 := hg4.size
    have hnp : own W4.heap.size = none := HOW.out _ (by omega)
    have htbn : w.heap.size ≠ s.mb := fun e => by have := HMB.out; rw [← e, HOW.out _ (Nat.le_refl _)] at this; cases this
    have hbl1 := (Array.getElem?_eq_some_iff.1 HB.out).1
    have hbx4 : W4.heap[w.heap.size]? = some (.cells #[.pointer (some ⟨s.tb, 0, none⟩)] 25 (0, 0)) := (hg4.block _ (by omega) (fun e => htbn (Option.some.inj e))).trans (hE3.blk HB2.out)
    have hpb : W6.heap[W4.heap.size]? = some (.cells #[.slice none 0 0, .int .u64 0, .int .i64 0] 58 (0, 0)) := by
      rw [hg6.block _ (by simp) (fun e => by
        have h9 := (h5.owns _ _ hT5.mbo)
        have h8 := (h4.owns _ _ (h4.tab i _ (upd_self _ _ _)).mbo).2
        have e : (s.less k).mb = W4.heap.size := (Option.some.inj e).symm
        omega)]
      exact blk_new _ _
    have hL := h5.add (upd_self _ _ _) hr4 hnp (by have := HBS.out; omega) (Same.of_grown hg6 (fun b hb e => hb (Option.some.inj e))) hpb hm6 (by omega)
    rw [upd_upd] at hL
    have HL := hid hL
    have HSM : Hid (Same w W6 (Free own)) := hid ((((Same.of_ext ((HE0.out.trans HE2.out).trans hE3)).trans (Same.of_grown hg4 (fun b hb e => by
      have h9 := HMB.out
      cases e
      rw [show own s.mb = none from hb] at h9
      cases h9))).trans (Same.of_ext hE5)).trans (Same.of_grown hg6 (fun b hb e => by
      have h9 := HMB.out
      cases e
      rw [show own s.mb = none from hb] at h9
      cases h9)))
    have HO : Hid (Owns w own (fun b => if b = W4.heap.size then some (i, Tag.r a) else own b)) := hid ⟨fun b x hx => by
        rw [if_neg (fun e => by rw [e, hnp] at hx; cases hx)]; exact hx, fun b hb hx => by
        rw [if_neg (by omega)]; exact hx⟩
    have c1 := cell_blk (j := 0) (hE3.blk HB2.out) rfl
    have c2 := cell_blk (j := 3) hT3.blk rfl
    have c3 := cell_blk (j := 0) (hE5.blk hbx4) rfl
    have c4 : (W4.alloc (.cells #[.slice none 0 0, .int .u64 0, .int .i64 0] 58 (0, 0))).cell? ⟨s.tb, 3, none⟩ = some (.map (some s.mb)) := cell_blk (j := 3) hT5.blk rfl
    have hrun7 : (Instr.mapUpdate 51 (.map (some s.mb)) (.int .u32 a) (.pointer (some ⟨W4.heap.size, 0, none⟩))).run Try.prog (W4.alloc (.cells #[.slice none 0 0, .int .u64 0, .int .i64 0] 58 (0, 0))) = .ok () W6 := hrun6
    clear hrun6
    have HN4 := hid hn4
    clear hE3 h3 hT3 hmk hm4 hg4 h4 hn4 hr4 hE5 h5 hT5 hm5 hm6 hg6 hsz1 hsz2 hsz3 hsz4 hnp htbn hbl1 hbx4 hpb hL
    unfold ptr at *
    go_wp2_with fail
    go_ret
    exact ⟨_, _, by simp, HL.out, HO.out, HSM.out, rfl, rfl, rfl, by show (s.less k).n + 1 = 32; rw [HN4.out]⟩
end

end Go.Proofs.Ytnlblmpfkikneaa
