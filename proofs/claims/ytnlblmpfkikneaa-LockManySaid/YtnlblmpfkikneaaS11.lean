/-
  The addresses of a table, rising.
-/
import Derived.Test.YtnlblmpfkikneaaS9
import Derived.Test.YtnlblmpfkikneaaS10
import Derived.Test.YtnlblmpfkikneaaM5
namespace Go.Proofs.Ytnlblmpfkikneaa
open Go Go.RowKit Go.Maps Go.Sort Go.MapKept Go.ChangeMaps
open Go.WideElems (Fit rd rg pl rd_key rd_val rg_of rd_mk rd_stay)
attribute [local go_sem] extUpon
attribute [local go_sem ↓] eval_put_ne eval_put_none eval_put_same size_put eval_const

/-- A row of addresses in memory. -/
def Ad (W : World) (v : Value) (ks : List Int) : Prop := ∃ a cap, v = .slice a ks.length cap ∧ (0 < ks.length → ∃ g, a = some ⟨g, 0, none⟩ ∧ ∀ j (h : j < ks.length), W.cell? ⟨g, j, none⟩ = some (.int .u32 ks[j]))
theorem Ad.later {W W2 : World} {v : Value} {ks : List Int} (h : Ad W v ks) (he : Ext W W2) : Ad W2 v ks := by
  obtain ⟨a, cap, rfl, h1⟩ := h
  refine ⟨a, cap, rfl, fun h0 => ?_⟩
  obtain ⟨g, rfl, h2⟩ := h1 h0
  exact ⟨g, rfl, fun j hj => he.cell (h2 j hj)⟩

theorem MapF.keysF {w : World} {b n : Nat} {f : Int → Option Nat} (h : MapF w b f n) : ∃ ks : List Int, ks.Nodup ∧ ks.length = n ∧ ∀ x, x ∈ ks ↔ (f x).isSome = true := by
  obtain ⟨es, clock, hb, F, hn, h1, h2⟩ := h
  refine ⟨es.toList.map fun e => (match e.key with | .int _ x => x | _ => 0), ?_, by simp [hn], fun x => ?_⟩
  · have hd : es.toList.Pairwise (fun x y => x.key ≠ y.key) := ((stamped_iff es clock).1 F.stamped).2.2
    refine List.pairwise_map.2 (hd.imp_of_mem fun {p q} hp hq hne e => hne ?_)
    obtain ⟨k, _, hk, _⟩ := h1 p hp
    obtain ⟨k2, _, hk2, _⟩ := h1 q hq
    rw [hk, hk2] at e ⊢
    simp only at e
    rw [e]
  · rw [List.mem_map]
    constructor
    · rintro ⟨e, he, rfl⟩
      obtain ⟨k, p, hk, _, hf⟩ := h1 e he
      simp only [hk, hf, Option.isSome_some]
    · intro hx
      obtain ⟨p, hp⟩ := Option.isSome_iff_exists.1 hx
      obtain ⟨e, he, hk⟩ := h2 x p hp
      exact ⟨e, he, by rw [hk]⟩

theorem MapF.owns {w : World} {b n : Nat} {f : Int → Option Nat} (h : MapF w b f n) :
    ∃ D0 : DataW Unit, w.ownsMap Try.prog 31 RP b n D0 ∧ Maps.size D0 = n ∧ ∀ x, has D0 (.int .u32 x) = true ↔ (f x).isSome = true := by
  obtain ⟨es, clock, hb, F, hn, h1, h2⟩ := h
  have hkey : ∀ e ∈ es.toList, ∃ k, e.key = .int .u32 k ∧ (rg Try.prog 31 RP e).1 = .int .u32 k ∧ (f k).isSome = true := fun e he => by
    obtain ⟨k, p, hk, hv, hf⟩ := h1 e he
    obtain ⟨y, hy⟩ := F.reads e he
    have h5 := rd_key hy
    obtain ⟨x, hx1, hx2⟩ := keyU_of h5
    refine ⟨k, hk, ?_, by rw [hf]; rfl⟩
    rw [rg_of hy]
    rw [hk] at hx1
    cases hx1
    exact hx2
  have hperm := Go.WideShapes.sorted_perm (es.toList.map (rg Try.prog 31 RP))
  refine ⟨_, ⟨es, clock, hb, F, by omega, rfl⟩, ?_, fun x => ?_⟩
  · show ((es.toList.map (rg Try.prog 31 RP)).foldr DataW.insert []).length = n
    rw [hperm.length_eq]; simp [hn]
  · rw [has_eq, List.any_eq_true]
    constructor
    · rintro ⟨p, hp, hs⟩
      obtain ⟨e, he, rfl⟩ := List.mem_map.1 (hperm.mem_iff.1 hp)
      obtain ⟨k, _, h6, h7⟩ := hkey e he
      rw [h6] at hs
      have : k = x := by simpa [Lit.sameKey] using hs
      rw [← this]; exact h7
    · intro hs
      obtain ⟨p, hp⟩ := Option.isSome_iff_exists.1 hs
      obtain ⟨e, he, hk⟩ := h2 x p hp
      obtain ⟨k, h5, h6, _⟩ := hkey e he
      rw [hk] at h5
      cases h5
      exact ⟨_, hperm.mem_iff.2 (List.mem_map.2 ⟨e, he, rfl⟩), by rw [h6]; simp [Lit.sameKey]⟩

set_option maxRecDepth 100000 in
theorem keysf_any (mb : Nat) (w : World) : Calls Try.prog 27 #[.map (some mb)] w fun e w' =>
    e = .returned (.func (.func 34) #[] #[.pointer (some ⟨w.heap.size, 0, none⟩)]) ∧ w' = w.alloc (.cells #[.map (some mb)] 51 (0, 0)) := by
  go_enter Try.func27, Try.ntmps27
  go_wp2_with fail
  go_ret
  exact ⟨rfl, rfl⟩

/-- The one rising row of the addresses of f. -/
def Rising (f : Int → Option Nat) (n : Nat) (ks : List Int) : Prop := ks.Pairwise (· < ·) ∧ ks.length = n ∧ ∀ x, x ∈ ks ↔ (f x).isSome = true

theorem sort_rising {ss : List Int} (h : ss.Nodup) : (ss.mergeSort fun x y => decide (x ≤ y)).Pairwise (· < ·) := by
  have h1 : (ss.mergeSort fun x y => decide (x ≤ y)).Pairwise (fun a b => decide (a ≤ b) = true) := List.pairwise_mergeSort (le := fun x y => decide (x ≤ y)) (fun a b c h1 h2 => by simp only [decide_eq_true_eq] at *; omega) (fun a b => by simp only [Bool.or_eq_true, decide_eq_true_eq]; omega) ss
  have h2 : (ss.mergeSort fun x y => decide (x ≤ y)).Nodup := (List.mergeSort_perm ss _).nodup_iff.2 h
  exact List.Pairwise.imp₂ (fun a b h3 h4 => by simp only [decide_eq_true_eq] at h3; have h4 : a ≠ b := h4; omega) h1 h2

set_option maxHeartbeats 1000000 in
set_option maxRecDepth 100000 in
theorem sorted_any {w : World} {mb n Bm : Nat} {f : Int → Option Nat} (h : MapF w mb f n) (hn : n ≤ 32) (hBm : Bm < w.heap.size) (hm : w.cell? ⟨Bm, 0, none⟩ = some (.map (some mb))) :
    Calls Try.prog 26 #[.func (.func 34) #[] #[.pointer (some ⟨Bm, 0, none⟩)]] w fun e w' => ∃ v ks, e = .returned v ∧ Rising f n ks ∧ Ad w' v ks ∧ Ext w w' := by
  obtain ⟨D0, o1, o2, o3⟩ := h.owns
  obtain ⟨ks0, k1, k2, k3⟩ := h.keysF
  have hc := callsIn_wide.1 (collect_u Fence.wide 3 trivial trivial trivial rfl (Nat.le_refl _) Bm mb n D0 (by omega) w hBm hm o1)
  have HC := hid hc
  have HK := hid (And.intro k1 (And.intro k2 (And.intro k3 o3)))
  clear hc h hm o1 o2 o3 k1 k2 k3
  go_enter Try.func26, Try.ntmps26
  go_wp2_with fail
  refine HC.out.mono ?_
  rintro e W ⟨v, ss, rfl, ⟨hnd, hmem⟩, hrow, hE⟩
  obtain ⟨k1, k2, k3, o3⟩ := HK.out
  have hperm : ss.Perm ks0 := (List.perm_ext_iff_of_nodup hnd k1).2 fun x => by rw [hmem, k3, o3]
  have hlen : ss.length = n := hperm.length_eq.trans k2
  have HE : Hid (Ext w W) := hid hE
  rcases hrow.2 with ⟨rfl, hz⟩ | ⟨g, cap, cur, rfl, hbase, hgb, r1, r2, r3, r4⟩
  · have hss : ss = [] := List.eq_nil_of_length_eq_zero hz
    have HR : Hid (Rising f n []) := hid ⟨List.Pairwise.nil, by rw [← hlen, hz]; rfl, fun x => by rw [← o3, ← hmem, hss]⟩
    clear hrow hE hmem hnd hperm k1 k2 k3 o3
    go_wp2_with fail
    refine (sort_none W).mono ?_
    rintro e w' ⟨rfl, rfl⟩
    go_wp2_with fail
    go_ret
    exact ⟨_, [], rfl, HR.out, ⟨none, 0, rfl, fun h => absurd h (by simp)⟩, HE.out⟩
  · have hlt := (Array.getElem?_eq_some_iff.1 hgb).1
    have hSR : SR w g ss.toArray W := ⟨hE, hbase, cur, hgb, fun j hj => by
      have hj' : j < ss.length := by simpa using hj
      have h5 := congrArg (fun l => l[j]?) r4
      simp only [Nat.mul_one] at h5
      rw [List.getElem?_take_of_lt hj', Array.getElem?_toList] at h5
      rw [h5]
      simp [hj']⟩
    have hst := sort_any (cap := cap) ss.toArray W (n := n) (by simpa using hlen) (by omega) hSR
    have HST := hid hst
    have hsi : (Sort.sort ltInt ss.toArray).toList = ss.mergeSort (fun x y => decide (x ≤ y)) := sortInt ss
    have hsl : (ss.mergeSort (fun x y => decide (x ≤ y))).length = ss.length := List.length_mergeSort ss
    have HR : Hid (Rising f n (ss.mergeSort (fun x y => decide (x ≤ y)))) := hid ⟨sort_rising hnd, by rw [hsl, hlen], fun x => by rw [List.mem_mergeSort, hmem, o3]⟩
    have HSI := hid hsi
    have HSL := hid hsl
    rw [hlen]
    replace hlen := hid hlen
    clear hrow hE hmem hnd hperm k1 k2 k3 o3 hSR hst hsi hsl r4 hgb r1 r2 r3
    go_wp2_with fail
    refine HST.out.mono ?_
    rintro e w' ⟨rfl, hs⟩
    have S2 := hid hs
    clear hs
    go_wp2_with fail
    go_ret
    refine ⟨.slice (some ⟨g, 0, none⟩) n cap, _, rfl, HR.out, ⟨some ⟨g, 0, none⟩, cap, by rw [HSL.out, hlen.out], fun _ => ⟨g, rfl, fun j hj => ?_⟩⟩, S2.out.ext⟩
    have hsz : (Sort.sort ltInt ss.toArray).size = (ss.mergeSort (fun x y => decide (x ≤ y))).length := by rw [← HSI.out]; simp
    have h5 := S2.out.cell j (by rw [hsz]; exact hj)
    rw [h5]
    congr 2
    rw [getElem!_pos _ j (by rw [hsz]; exact hj), ← Array.getElem_toList]
    simp only [HSI.out]

set_option maxRecDepth 100000 in
theorem addr_any {w0 w : World} {own : Nat → Option (Nat × Tag)} {ts : Nat → Option TS} {i : Nat} {s : TS} (h : Locks w0 w own ts) (hs : ts i = some s) :
    Calls Try.prog 16 #[ptr s.tb] w fun e w' => ∃ v ks, e = .returned v ∧ Rising s.map s.n ks ∧ Ad w' v ks ∧ Ext w w' := by
  have hT := h.tab i s hs
  have hb3 := cell_blk (j := 3) hT.blk rfl
  have hE1 : Ext w (w.alloc (.cells #[.map (some s.mb)] 51 (0, 0))) := Ext.alloc _ _
  have hsrt := sorted_any (Bm := w.heap.size) ((h.later hE1).tab i s hs).map hT.few (by simp) (by simp)
  have HS := hid hsrt
  have HE := hid hE1
  clear hT hE1 hsrt h hs
  unfold ptr at *
  go_enter Try.func16, Try.ntmps16
  go_wp2_with fail
  refine (keysf_any s.mb w).mono ?_
  rintro e w1 ⟨rfl, rfl⟩
  go_wp2_with fail
  refine HS.out.mono ?_
  rintro e w2 ⟨v, ks, rfl, hR, hA, hE⟩
  have HX := hid (And.intro hR (And.intro hA hE))
  clear hR hA hE
  go_wp2_with fail
  go_ret
  exact ⟨v, ks, rfl, HX.out.1, HX.out.2.1, HE.out.trans HX.out.2.2⟩

end Go.Proofs.Ytnlblmpfkikneaa
