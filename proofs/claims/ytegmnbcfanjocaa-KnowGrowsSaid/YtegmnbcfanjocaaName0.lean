/-
  A term's name as plain data, over any way of writing numbers; the row of parts.
-/
import Derived.Test.YtegmnbcfanjocaaOwn
import Derived.Test.YtegmnbcfanjocaaSz
import Derived.Test.YtegmnbcfanjocaaShelf
import Derived.Deep.DeepCutAuto
import Derived.Deep.CutBlock
import Derived.Deep.QuietTactic
import Derived.BigQuiet
import Derived.Outline
import Derived.Shelf.Abstract
namespace Go.Proofs.Ytegmnbcfanjocaa
open Go Go.RowKit
attribute [local go_sem] extUpon run_store_tm
attribute [local go_sem ↓] Tm.val_cell eval_put_ne eval_put_none eval_put_same size_put eval_const

def nm (f : Int → List UInt8) : Tm → List UInt8
  | .non => [63]
  | .atom n => 97 :: f n
  | .pub n => 112 :: f n
  | .shared a b => 115 :: (f a ++ 46 :: f b)
  | .chain i x y => 99 :: f i ++ 40 :: (Lib.join [nm f x, nm f y] [44] ++ [41])
  | .digest x y => [104] ++ 40 :: (Lib.join [nm f x, nm f y] [44] ++ [41])
  | .box k n a t => 98 :: f n ++ 40 :: (Lib.join [nm f k, nm f a, nm f t] [44] ++ [41])
  | .empty => [95]

theorem join2 (x y s : List UInt8) : Lib.join [x, y] s = x ++ (s ++ y) := by simp [Lib.join]
theorem join3 (x y z s : List UInt8) : Lib.join [x, y, z] s = x ++ (s ++ (y ++ (s ++ z))) := by simp [Lib.join]

theorem nm_len {f : Int → List UInt8} (hf : ∀ n, (f n).length ≤ 40) : ∀ t : Tm, ((nm f t).length : Int) ≤ 100 * sz t
  | .non => by simp [nm, sz]
  | .atom n => by have := hf n; simp only [nm, sz, List.length_cons]; omega
  | .pub n => by have := hf n; simp only [nm, sz, List.length_cons]; omega
  | .shared a b => by have := hf a; have := hf b; simp only [nm, sz, List.length_cons, List.length_append]; omega
  | .chain i x y => by
    have := hf i; have := nm_len hf x; have := nm_len hf y
    simp only [nm, sz, join2, List.length_cons, List.length_append, List.length_nil]; omega
  | .digest x y => by
    have := nm_len hf x; have := nm_len hf y
    simp only [nm, sz, join2, List.length_cons, List.length_append, List.length_nil]; omega
  | .box k n a t => by
    have := hf n; have := nm_len hf k; have := nm_len hf a; have := nm_len hf t
    simp only [nm, sz, join3, List.length_cons, List.length_append, List.length_nil]; omega
  | .empty => by simp [nm, sz]

/-- A function that answers a string, from w on. -/
def Tells (w : World) (f : FuncId) (args : Array Value) (s : List UInt8) : Prop := ∀ w', Ext w w' → Calls Try.prog f args w' fun e w'' => e = .returned (str s) ∧ Ext w' w''
theorem Tells.later {w w1 : World} {f : FuncId} {args : Array Value} {s : List UInt8} (h : Tells w f args s) (he : Ext w w1) : Tells w1 f args s := fun w' h' => h w' (he.trans h')

theorem join_len (xs : List (List UInt8)) (h : ∀ x ∈ xs, x.length ≤ 1000000000) (hl : xs.length ≤ 3) : (Lib.join xs [44]).length ≤ 4000000000 := by
  match xs, hl with
  | [], _ => simp [Lib.join]
  | [x], _ => have := h x (by simp); simp [Lib.join]; omega
  | [x, y], _ => have := h x (by simp); have := h y (by simp); rw [join2]; simp; omega
  | [x, y, z], _ => have := h x (by simp); have := h y (by simp); have := h z (by simp); rw [join3]; simp; omega

set_option maxHeartbeats 1000000 in
theorem row_any (head : List UInt8) (b cap : Nat) (ts : List Tm) (ns : List (List UInt8)) (w : World) (hh : head.length ≤ 1000000) (h0 : 0 < ts.length) (hl : ts.length ≤ 3) (hns : ns.length = ts.length) (hbd : ∀ x ∈ ns, x.length ≤ 1000000000)
    (hb : ∀ i (h : i < ts.length), w.cell? ⟨b, i, none⟩ = some ts[i].val)
    (hn : ∀ i (h : i < ts.length) (h' : i < ns.length), Tells w 80 #[ts[i].val] ns[i]) :
    Calls Try.prog 79 #[str head, .slice (some ⟨b, 0, none⟩) ts.length cap] w fun e w' => e = .returned (str (head ++ 40 :: (Lib.join ns [44] ++ [41]))) ∧ Ext w w' := by
  have i9 : (Try.prog.info? 9).map (fun i => (i.zero, i.size, i.bytes)) = some (some (.string ⟨#[]⟩), 1, 16) := by kernel_rfl
  obtain ⟨j0, hi, hz0, hz1, hz2⟩ := info_parts i9
  have HI := hid (And.intro hi (And.intro hz0 (And.intro hz1 hz2)))
  clear i9 hi hz0 hz1 hz2
  have HB := hid hb
  have HN := hid hn
  have HNS := hid hns
  have HBD := hid hbd
  clear hb hn hns hbd
  go_enter Try.func79, Try.ntmps79
  go_wp2_with fail
  go_loopw [5, 10] (fun v i wr => ∃ k : Nat, i = .int .i64 k ∧ k ≤ ts.length ∧ Hid (Ext w wr) ∧ Hid (wr.ownsRow w.heap.size 9 1 v k ((ns.take k).map str))) (fun _ i _ => ts.length - (intOf i).toNat)
  case atStart => exact ⟨0, rfl, by omega, hid (Ext.refl _), hid (World.ownsRow_nil _ _ _ _)⟩
  case round =>
    obtain ⟨k, rfl, hk, hE, hO⟩ := hrel
    by_cases hlt : k < ts.length
    · have c0 : wr.cell? ⟨b, k, none⟩ = some ts[k].val := hE.out.cell (HB.out k hlt)
      have hlt' : k < ns.length := by rw [HNS.out]; exact hlt
      have HT := hid (HN.out k hlt hlt' wr hE.out)
      have HS := hid (List.take_succ_eq_append_getElem hlt')
      generalize ts[k].val = tv at *
      generalize ns[k] = nk at *
      go_wp2_with fail
      refine HT.out.mono ?_
      rintro e w1 ⟨rfl, hE1⟩
      have HE1 := hid hE1
      clear hE1
      have HO1 := hid (fun o => own_ext ((HE1.out).alloc' o) hO.out)
      have hlen : (w.heap.size ≤ wr.heap.size) := hE.out.size
      have hlen1 : (wr.heap.size ≤ w1.heap.size) := HE1.out.size
      go_wp2_with (first
        | (at_builtin; refine wpList_append_lies _ rfl (.tmp 14) (.tmp 17) _ rfl w.heap.size 9 j0 (.string ⟨#[]⟩) 1 16 Try.underlying45 HI.out.1 HI.out.2.1 HI.out.2.2.1 HI.out.2.2.2 rfl (by omega) u5 k ((ns.take k).map str) (by rfl) (HO1.out _) ⟨w1.heap.size, 0, none⟩ 1 1 [str nk] (by rfl) (by rfl) (World.news_of_block (blk_new w1 _)) (by intro u hu; simp at hu; subst hu; rfl) (by omega) (by unfold maxLen; omega) (by omega) (by simp; omega) (w1.heap.size + 1) (by simp) ?_; intro g cap2 w2 hown hgrow hat hlt2))
      have HF := hid (Below.grown ((hE.out.trans HE1.out).alloc' _) hgrow (by simp; omega) (fun k hk => (hO.out.lt k hk).1))
      have HO2 := hid hown
      clear hown hgrow hat
      go_roundw
      case rel => exact ⟨k + 1, by go_num, by omega, HF, hid (by rw [HS.out, List.map_append]; exact HO2.out)⟩
      case measure => simp [intOf]; omega
    · have hkk : k = ts.length := by omega
      subst hkk
      have hown := hO.out
      obtain ⟨g, cap2, hv, _⟩ := hown.form h0
      subst hv
      have hcells : ∀ (j : Nat) x, (ns.map fun l => (⟨l.toArray⟩ : ByteArray))[j]? = some x → wr.cell? ⟨g, 0 + j, none⟩ = some (.string x) := by
        intro j x hx
        rw [List.getElem?_map] at hx
        cases hj : ns[j]? with
        | none => rw [hj] at hx; cases hx
        | some l =>
          rw [hj] at hx
          simp only [Option.map_some, Option.some.injEq] at hx
          subst hx
          have hjl : j < ns.length := (List.getElem?_eq_some_iff.1 hj).1
          rw [Nat.zero_add]
          refine own_ints_at hown j (by rw [← HNS.out]; exact hjl) _ ?_
          rw [List.getElem?_map, List.getElem?_take, if_pos (by rw [← HNS.out]; exact hjl), hj]
          rfl
      have HJ := hid (Try.strings_Join g 0 cap2 (ns.map fun l => (⟨l.toArray⟩ : ByteArray)) ⟨#[44]⟩ wr hcells ((hown.lt g rfl).2) (by rw [List.length_map, HNS.out]; omega) (by
          rcases hown.2 with ⟨h, _⟩ | ⟨_, _, _, h, _, _, h2, _⟩
          · cases h
          · cases h; rw [List.length_map, HNS.out]; exact h2) (by
          have := join_len ns HBD.out (by rw [HNS.out]; exact hl)
          rw [List.map_map]
          have e : (List.map ((fun x : ByteArray => x.data.toList) ∘ fun l => (⟨l.toArray⟩ : ByteArray)) ns) = ns := by
            conv => rhs; rw [← List.map_id ns]
            apply List.map_congr_left; intro l _; rfl
          rw [e]
          exact Nat.le_trans this (by omega)))
      rw [List.length_map, HNS.out] at HJ
      have HL := hid (join_len ns HBD.out (by rw [HNS.out]; exact hl))
      have HR := hid (show (⟨(Lib.join ((ns.map fun l => (⟨l.toArray⟩ : ByteArray)).map fun x => x.data.toList) [44]).toArray⟩ : ByteArray) = ⟨(Lib.join ns [44]).toArray⟩ by
          rw [List.map_map]
          have e : (List.map ((fun x : ByteArray => x.data.toList) ∘ fun l => (⟨l.toArray⟩ : ByteArray)) ns) = ns := by
            conv => rhs; rw [← List.map_id ns]
            apply List.map_congr_left; intro l _; rfl
          rw [e])
      have HJ2 := hid (HJ.out.mono (R' := fun e w' => e = .returned (str (Lib.join ns [44])) ∧ Ext wr w') (fun e w' h => ⟨h.1.trans (congrArg (fun x => Ending.returned (Value.string x)) HR.out), h.2⟩))
      clear hcells hown hlt HJ HR
      go_wp2_with (first
        | (refine wpl_adds head [40] ?_; refine ⟨rfl, _, _, _, _, rfl, rfl, rfl, (by simp; omega), ?_⟩)
        | (go_at_call 81; refine HJ2.out.mono ?_; rintro e w1 ⟨rfl, hE1⟩)
        | (refine wpl_adds (head ++ [40]) (Lib.join ns [44]) ?_; refine ⟨rfl, _, _, _, _, rfl, rfl, rfl, (by have := HL.out; simp; omega), ?_⟩)
        | (refine wpl_adds (head ++ [40] ++ Lib.join ns [44]) [41] ?_; refine ⟨rfl, _, _, _, _, rfl, rfl, rfl, (by have := HL.out; simp; omega), ?_⟩))
      go_ret
      exact ⟨rfl, hE.out.trans hE1⟩

end Go.Proofs.Ytegmnbcfanjocaa
