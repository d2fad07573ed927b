/-
  Secrets that come in as raw numbers; what three laws of chapter 13 share.
-/
import Derived.Test.YtegmnbcfanjocaaK18
import Derived.Test.YtegmnbcfanjocaaRow
namespace Go.Proofs.Ytegmnbcfanjocaa
open Go Go.RowKit Go.Maps Go.Deep
variable {f : Int → List UInt8}

/-- Numbers in memory. -/
def IntsAt (w : World) (a : Option Addr) (l : List Int) : Prop := ∀ i (h : i < l.length), ∃ b o, a = some ⟨b, o, none⟩ ∧ w.cell? ⟨b, o + i, none⟩ = some (.int .i64 l[i])
theorem IntsAt.later {w w1 : World} {a : Option Addr} {l : List Int} (h : IntsAt w a l) (he : Ext w w1) : IntsAt w1 a l := fun i hi => by
  obtain ⟨b, o, ha, hc⟩ := h i hi
  exact ⟨b, o, ha, he.cell hc⟩
section
variable {H : Type} {enc : TypeId × Value → H} {w : World} {base : Nat} {spare : Nat → Bool} {held : Bool}
theorem open_ints {fuel : Nat} {cs : List Value} {x : DataW H × List MemPlace} (h : DataW.trod enc Try.prog w base spare held fuel 23 cs = some x) :
    ∃ (a : Option Addr) (cap : Nat) (l : List Int), cs = [.slice a l.length cap] ∧ IntsAt w a l ∧ l.length ≤ 9223372036854775807 := by
  rcases open_slice Try.underlying23 h with ⟨rfl, _⟩ | ⟨a, len, cap, m, n, D, Pl, rfl, hb, hl, hm, hmm, rfl, hx⟩
  · exact ⟨none, 0, [], rfl, fun i hi => by simp at hi, by simp⟩
  · have h7 : Try.prog.cellsOf 3 = 1 := by kernel_rfl
    rw [h7] at hx
    have hlm : len ≤ m := by subst hmm; split <;> omega
    obtain ⟨R, hR⟩ := choose_lt (α := Int) (n := len) (p := fun i r => ∃ cs', w.cells? base (a.add (i * 1)) 1 = some cs' ∧ cs' = [.int .i64 r]) (fun i hi => by
      obtain ⟨cs', h1, h2⟩ := hx i (by omega)
      obtain ⟨n2, e2, _, w2⟩ := DataW.trod_int Try.underlying3 h2
      exact ⟨n2, cs', h1, e2⟩)
    refine ⟨some a, cap, (List.range len).map R, by simp, fun i hi => ?_, by unfold maxLen at hm; simp; omega⟩
    have hi' : i < len := by simpa using hi
    obtain ⟨b, o, spot⟩ := a
    have hspot : spot = none := by
      obtain ⟨cs', h1, rfl⟩ := hR 0 (by omega)
      have := (World.cells?_some h1).2.2 0 (by omega)
      exact by simpa [Addr.add] using World.cell?_spot this
    subst hspot
    obtain ⟨cs', h1, rfl⟩ := hR i hi'
    have hc := (World.cells?_some h1).2.2
    have hadd : ∀ j, ((⟨b, o, none⟩ : Addr).add (i * 1)).add j = ⟨b, o + i + j, none⟩ := fun j => by
      unfold Addr.add; repeat' split
      all_goals simp_all
    have c0 := hc 0 (by omega)
    rw [hadd] at c0
    simp only [List.getElem_map, List.getElem_range]
    exact ⟨b, o, rfl, c0⟩
end

/-- The secrets that a law takes out of raw numbers. -/
def secL (l : List Int) : List Int := (l.take 3).map fun n => 1 + n % 9
theorem secL_len (l : List Int) : (secL l).length ≤ 3 := by simp [secL]; omega
theorem secL_ok (l : List Int) : ∀ n ∈ secL l, 1 ≤ n ∧ n ≤ 9 := by
  intro n hn
  simp only [secL, List.mem_map] at hn
  obtain ⟨a, _, rfl⟩ := hn
  omega
theorem secL_int {l : List Int} (h : ∀ n ∈ l, 1 ≤ n ∧ n ≤ 9) : ∀ n ∈ l, IntOk n := fun n hn => by have := h n hn; unfold IntOk; omega
theorem secL_end {l : List Int} {j : Nat} (hj : j ≤ l.length) (h3 : j ≤ 3) (h : ¬ (j < l.length ∧ j < 3)) : secL (l.take j) = secL l ∧ j = (secL l).length := by
  rcases (show j = l.length ∨ j = 3 by omega) with rfl | rfl
  · rw [List.take_length]
    exact ⟨rfl, by simp [secL]; omega⟩
  · refine ⟨by unfold secL; rw [List.take_take, Nat.min_self], by simp [secL]; omega⟩
theorem secL_succ {l : List Int} {j : Nat} (hj : j < l.length) (h3 : j < 3) : secL (l.take (j + 1)) = secL (l.take j) ++ [1 + l[j] % 9] := by
  unfold secL
  rw [List.take_take, List.take_take, Nat.min_eq_right (by omega), Nat.min_eq_right (by omega), List.take_succ_eq_append_getElem hj, List.map_append]
  rfl

theorem own_row {w : World} {base n : Nat} {e : TypeId} {v : Value} {xs : List Value} (h : w.ownsRow base e 1 v n xs) : ∃ a cap, v = .slice a n cap ∧ n ≤ cap ∧ Rd w a xs := by
  rcases h.2 with ⟨rfl, rfl⟩ | ⟨g, cap, cur, rfl, hB, hh, hn, hc, hs, ht⟩
  · have h0 : xs = [] := by
      have := h.1
      simpa using this
    exact ⟨none, 0, rfl, Nat.le_refl _, fun h5 => by rw [h0] at h5; exact absurd h5 (by decide)⟩
  · refine ⟨_, _, rfl, by omega, fun _ => ⟨g, rfl, (Array.getElem?_eq_some_iff.1 hh).1, fun i u hu => cell_blk hh ?_⟩⟩
    subst ht
    rw [List.getElem?_take] at hu
    split at hu
    · simpa using hu
    · cases hu
theorem Rd.take {w : World} {a : Option Addr} {xs : List Value} (h : Rd w a xs) (n : Nat) : Rd w a (xs.take n) := fun h0 => by
  obtain ⟨g, h1, h2, h3⟩ := h (by simp at h0; omega)
  refine ⟨g, h1, h2, fun i u hu => h3 i u ?_⟩
  rw [List.getElem?_take] at hu
  split at hu
  · exact hu
  · cases hu

theorem can_val {w0 W0 : World} (hI : Itoa w0 Small f) (hE : Ext w0 W0) {k : KS} {v : KV} (hK : KAt f P0 W0 k v) {t : Tm} {V : Value} {b : Bool} (hv : t.val = V) (ht : t.ok P0) (hs : sz t ≤ 10000) (hb : can f v.x v.S t = b) :
    ∀ W, Ext W0 W → Calls Try.prog 13 #[.pointer (some ⟨k.kb, 0, none⟩), V] W fun e w' => e = .returned (.bool b) ∧ Ext W w' := by
  intro W hW
  subst hv hb
  exact can_any t W k v (hI.later (hE.trans hW)) (hK.later hW) (ht.all (fun n hn => by unfold P0 at hn; unfold Small; omega)) hs

/-- A base of some secrets and the first terms. -/
structure Base0 (f : Int → List UInt8) (U : List (List UInt8)) (w : World) (k : KS) (v : KV) (sl : List Int) (l : List Tm) : Prop where
  at_ : KAt f P0 w k v
  x : v.x = secs sl
  S : v.S = names f l
  kc : KC f P0 v
  inU : ∀ s, v.S s = true → s ∈ U
  n : v.n ≤ l.length
theorem Base0.later {U : List (List UInt8)} {w w2 : World} {k : KS} {v : KV} {sl : List Int} {l : List Tm} (h : Base0 f U w k v sl l) (he : Ext w w2) : Base0 f U w2 k v sl l := ⟨h.at_.later he, h.x, h.S, h.kc, h.inU, h.n⟩
theorem new_take (N : Nums f P0) {ts : List Tm} (hM : Made ts) (hF : ∀ t ∈ ts, Fine P0 t) (hl : ts.length ≤ 41) {w0 w : World} (hI : Itoa w0 Small f) (hE : Ext w0 w) (U : List (List UInt8)) (hUl : U.length ≤ 80000) (hUn : Univ f P0 U) (hU : ∀ t ∈ ts, nm f t ∈ U)
    {sl : List Int} (hs : ∀ n ∈ sl, 1 ≤ n ∧ n ≤ 9) (hsl : sl.length ≤ 10) {sa ta : Option Addr} (hr1 : Rd w sa (sl.map (Value.int .i64))) (hr2 : Rd w ta (ts.map Tm.val)) {n : Nat} (hn : n ≤ ts.length) (c1 c2 : Nat) :
    Calls Try.prog 11 #[.slice sa sl.length c1, .slice ta n c2] w fun e w' => ∃ k v, e = .returned (.pointer (some ⟨k.kb, 0, none⟩)) ∧ Ext w w' ∧ w.heap.size ≤ k.kb ∧ w.heap.size ≤ k.sb ∧ w.heap.size ≤ k.nb ∧ w.heap.size ≤ k.ab ∧ Base0 f U w' k v sl (ts.take n) := by
  have hlen : (ts.take n).length = n := by simp; omega
  have h := new_any (f := f) (P := P0) U (see_said N U hUl hUn) w sl (ts.take n) sa ta c1 c2 (hI.later hE) hr1 (by rw [List.map_take]; exact hr2.take n) (secL_int hs) (by omega) (fun t ht => ⟨hF t (List.mem_of_mem_take ht), hU t (List.mem_of_mem_take ht)⟩) (by omega)
  rw [hlen] at h
  refine h.mono ?_
  rintro e w' ⟨k, v, rfl, hr⟩
  exact ⟨k, v, rfl, hr.ext, hr.kb, hr.sb, hr.nb, hr.ab, hr.at_, hr.x, Cl.names_eq N hM hr.cl, hr.kc, hr.inU, hr.n⟩

end Go.Proofs.Ytegmnbcfanjocaa
