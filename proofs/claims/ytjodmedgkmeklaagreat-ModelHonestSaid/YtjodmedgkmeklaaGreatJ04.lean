/-
  Texts merged: Name0, Name, Dig0.
-/
import Derived.Deep.DeepCutAuto
import Derived.Deep.CutBlock
import Derived.Deep.QuietTactic
import Derived.BigQuiet
import Derived.Outline
import Derived.Shelf.Abstract
import Derived.Test.YtjodmedgkmeklaaGreatJ01
import Derived.Test.YtjodmedgkmeklaaGreatJ02
import Derived.Test.YtjodmedgkmeklaaGreatJ03
/-
  A term's name as plain data, over any way of writing numbers; the row of parts.
-/
namespace Go.Proofs.YtjodmedgkmeklaaGreat
open Go Go.RowKit
attribute [local go_sem] extUpon run_store_tm
attribute [local go_sem ↓] Tm.val_cell eval_put_ne eval_put_none eval_put_same size_put eval_const

def nm (f : Int → List UInt8) : Tm → List UInt8
  | .non => [63]
  | .atom n => 97 :: f n
  | .pub n => 112 :: f n
  | .shared a b => 115 :: (f a ++ 46 :: f b)
  | .chain i x y => 99 :: f i ++ 40 :: (Lib.join [nm f x, nm f y] [44] ++ [41])
  | .digest x y => [104] ++ 40 :: (Lib.join [nm f x, nm f y] [44] ++ [41])
  | .box k n a t => 98 :: f n ++ 40 :: (Lib.join [nm f k, nm f a, nm f t] [44] ++ [41])
  | .empty => [95]

theorem join2 (x y s : List UInt8) : Lib.join [x, y] s = x ++ (s ++ y) := by simp [Lib.join]
theorem join3 (x y z s : List UInt8) : Lib.join [x, y, z] s = x ++ (s ++ (y ++ (s ++ z))) := by simp [Lib.join]

theorem nm_len {f : Int → List UInt8} (hf : ∀ n, (f n).length ≤ 40) : ∀ t : Tm, ((nm f t).length : Int) ≤ 100 * sz t
  | .non => by simp [nm, sz]
  | .atom n => by have := hf n; simp only [nm, sz, List.length_cons]; omega
  | .pub n => by have := hf n; simp only [nm, sz, List.length_cons]; omega
  | .shared a b => by have := hf a; have := hf b; simp only [nm, sz, List.length_cons, List.length_append]; omega
  | .chain i x y => by
    have := hf i; have := nm_len hf x; have := nm_len hf y
    simp only [nm, sz, join2, List.length_cons, List.length_append, List.length_nil]; omega
  | .digest x y => by
    have := nm_len hf x; have := nm_len hf y
    simp only [nm, sz, join2, List.length_cons, List.length_append, List.length_nil]; omega
  | .box k n a t => by
    have := hf n; have := nm_len hf k; have := nm_len hf a; have := nm_len hf t
    simp only [nm, sz, join3, List.length_cons, List.length_append, List.length_nil]; omega
  | .empty => by simp [nm, sz]

/-- A function that answers a string, from w on. -/
def Tells (w : World) (f : FuncId) (args : Array Value) (s : List UInt8) : Prop := ∀ w', Ext w w' → Calls Tryz.prog f args w' fun e w'' => e = .returned (str s) ∧ Ext w' w''
theorem Tells.later {w w1 : World} {f : FuncId} {args : Array Value} {s : List UInt8} (h : Tells w f args s) (he : Ext w w1) : Tells w1 f args s := fun w' h' => h w' (he.trans h')

theorem join_len (xs : List (List UInt8)) (h : ∀ x ∈ xs, x.length ≤ 1000000000) (hl : xs.length ≤ 3) : (Lib.join xs [44]).length ≤ 4000000000 := by
  match xs, hl with
  | [], _ => simp [Lib.join]
  | [x], _ => have := h x (by simp); simp [Lib.join]; omega
  | [x, y], _ => have := h x (by simp); have := h y (by simp); rw [join2]; simp; omega
  | [x, y, z], _ => have := h x (by simp); have := h y (by simp); have := h z (by simp); rw [join3]; simp; omega

set_option maxHeartbeats 1000000 in
theorem row_any (head : List UInt8) (b cap : Nat) (ts : List Tm) (ns : List (List UInt8)) (w : World) (hh : head.length ≤ 1000000) (h0 : 0 < ts.length) (hl : ts.length ≤ 3) (hns : ns.length = ts.length) (hbd : ∀ x ∈ ns, x.length ≤ 1000000000)
    (hb : ∀ i (h : i < ts.length), w.cell? ⟨b, i, none⟩ = some ts[i].val)
    (hn : ∀ i (h : i < ts.length) (h' : i < ns.length), Tells w 29 #[ts[i].val] ns[i]) :
    Calls Tryz.prog 134 #[str head, .slice (some ⟨b, 0, none⟩) ts.length cap] w fun e w' => e = .returned (str (head ++ 40 :: (Lib.join ns [44] ++ [41]))) ∧ Ext w w' := by
  have i9 : (Tryz.prog.info? 9).map (fun i => (i.zero, i.size, i.bytes)) = some (some (.string ⟨#[]⟩), 1, 16) := by kernel_rfl
  obtain ⟨j0, hi, hz0, hz1, hz2⟩ := info_parts i9
  have HI := hid (And.intro hi (And.intro hz0 (And.intro hz1 hz2)))
  clear i9 hi hz0 hz1 hz2
  have HB := hid hb
  have HN := hid hn
  have HNS := hid hns
  have HBD := hid hbd
  clear hb hn hns hbd
  go_enter Tryz.func134, Tryz.ntmps134
  go_wp2_with fail
  go_loopw [5, 10] (fun v i wr => ∃ k : Nat, i = .int .i64 k ∧ k ≤ ts.length ∧ Hid (Ext w wr) ∧ Hid (wr.ownsRow w.heap.size 9 1 v k ((ns.take k).map str))) (fun _ i _ => ts.length - (intOf i).toNat)
  case atStart => exact ⟨0, rfl, by omega, hid (Ext.refl _), hid (World.ownsRow_nil _ _ _ _)⟩
  case round =>
    obtain ⟨k, rfl, hk, hE, hO⟩ := hrel
    by_cases hlt : k < ts.length
    · have c0 : wr.cell? ⟨b, k, none⟩ = some ts[k].val := hE.out.cell (HB.out k hlt)
      have hlt' : k < ns.length := by rw [HNS.out]; exact hlt
      have HT := hid (HN.out k hlt hlt' wr hE.out)
      have HS := hid (List.take_succ_eq_append_getElem hlt')
      generalize ts[k].val = tv at *
      generalize ns[k] = nk at *
      go_wp2_with fail
      refine HT.out.mono ?_
      rintro e w1 ⟨rfl, hE1⟩
      have HE1 := hid hE1
      clear hE1
      have HO1 := hid (fun o => own_ext ((HE1.out).alloc' o) hO.out)
      have hlen : (w.heap.size ≤ wr.heap.size) := hE.out.size
      have hlen1 : (wr.heap.size ≤ w1.heap.size) := HE1.out.size
      go_wp2_with (first
        | (at_builtin; refine wpList_append_lies _ rfl (.tmp 14) (.tmp 17) _ rfl w.heap.size 9 j0 (.string ⟨#[]⟩) 1 16 Tryz.underlying119 HI.out.1 HI.out.2.1 HI.out.2.2.1 HI.out.2.2.2 rfl (by omega) u5 k ((ns.take k).map str) (by rfl) (HO1.out _) ⟨w1.heap.size, 0, none⟩ 1 1 [str nk] (by rfl) (by rfl) (World.news_of_block (blk_new w1 _)) (by intro u hu; simp at hu; subst hu; rfl) (by omega) (by unfold maxLen; omega) (by omega) (by simp; omega) (w1.heap.size + 1) (by simp) ?_; intro g cap2 w2 hown hgrow hat hlt2))
      have HF := hid (Below.grown ((hE.out.trans HE1.out).alloc' _) hgrow (by simp; omega) (fun k hk => (hO.out.lt k hk).1))
      have HO2 := hid hown
      clear hown hgrow hat
      go_roundw
      case rel => exact ⟨k + 1, by go_num, by omega, HF, hid (by rw [HS.out, List.map_append]; exact HO2.out)⟩
      case measure => simp [intOf]; omega
    · have hkk : k = ts.length := by omega
      subst hkk
      have hown := hO.out
      obtain ⟨g, cap2, hv, _⟩ := hown.form h0
      subst hv
      have hcells : ∀ (j : Nat) x, (ns.map fun l => (⟨l.toArray⟩ : ByteArray))[j]? = some x → wr.cell? ⟨g, 0 + j, none⟩ = some (.string x) := by
        intro j x hx
        rw [List.getElem?_map] at hx
        cases hj : ns[j]? with
        | none => rw [hj] at hx; cases hx
        | some l =>
          rw [hj] at hx
          simp only [Option.map_some, Option.some.injEq] at hx
          subst hx
          have hjl : j < ns.length := (List.getElem?_eq_some_iff.1 hj).1
          rw [Nat.zero_add]
          refine own_ints_at hown j (by rw [← HNS.out]; exact hjl) _ ?_
          rw [List.getElem?_map, List.getElem?_take, if_pos (by rw [← HNS.out]; exact hjl), hj]
          rfl
      have HJ := hid (Tryz.strings_Join g 0 cap2 (ns.map fun l => (⟨l.toArray⟩ : ByteArray)) ⟨#[44]⟩ wr hcells ((hown.lt g rfl).2) (by rw [List.length_map, HNS.out]; omega) (by
          rcases hown.2 with ⟨h, _⟩ | ⟨_, _, _, h, _, _, h2, _⟩
          · cases h
          · cases h; rw [List.length_map, HNS.out]; exact h2) (by
          have := join_len ns HBD.out (by rw [HNS.out]; exact hl)
          rw [List.map_map]
          have e : (List.map ((fun x : ByteArray => x.data.toList) ∘ fun l => (⟨l.toArray⟩ : ByteArray)) ns) = ns := by
            conv => rhs; rw [← List.map_id ns]
            apply List.map_congr_left; intro l _; rfl
          rw [e]
          exact Nat.le_trans this (by omega)))
      rw [List.length_map, HNS.out] at HJ
      have HL := hid (join_len ns HBD.out (by rw [HNS.out]; exact hl))
      have HR := hid (show (⟨(Lib.join ((ns.map fun l => (⟨l.toArray⟩ : ByteArray)).map fun x => x.data.toList) [44]).toArray⟩ : ByteArray) = ⟨(Lib.join ns [44]).toArray⟩ by
          rw [List.map_map]
          have e : (List.map ((fun x : ByteArray => x.data.toList) ∘ fun l => (⟨l.toArray⟩ : ByteArray)) ns) = ns := by
            conv => rhs; rw [← List.map_id ns]
            apply List.map_congr_left; intro l _; rfl
          rw [e])
      have HJ2 := hid (HJ.out.mono (R' := fun e w' => e = .returned (str (Lib.join ns [44])) ∧ Ext wr w') (fun e w' h => ⟨h.1.trans (congrArg (fun x => Ending.returned (Value.string x)) HR.out), h.2⟩))
      clear hcells hown hlt HJ HR
      go_wp2_with (first
        | (refine wpl_adds head [40] ?_; refine ⟨rfl, _, _, _, _, rfl, rfl, rfl, (by simp; omega), ?_⟩)
        | (go_at_call 135; refine HJ2.out.mono ?_; rintro e w1 ⟨rfl, hE1⟩)
        | (refine wpl_adds (head ++ [40]) (Lib.join ns [44]) ?_; refine ⟨rfl, _, _, _, _, rfl, rfl, rfl, (by have := HL.out; simp; omega), ?_⟩)
        | (refine wpl_adds (head ++ [40] ++ Lib.join ns [44]) [41] ?_; refine ⟨rfl, _, _, _, _, rfl, rfl, rfl, (by have := HL.out; simp; omega), ?_⟩))
      go_ret
      exact ⟨rfl, hE.out.trans hE1⟩

end Go.Proofs.YtjodmedgkmeklaaGreat

/-
  The names of terms, over any way of writing numbers.
-/
namespace Go.Proofs.YtjodmedgkmeklaaGreat
open Go Go.RowKit
attribute [local go_sem] extUpon run_store_tm
attribute [local go_sem ↓] Tm.val_cell eval_put_ne eval_put_none eval_put_same size_put eval_const
attribute [local go_sem ↓] meth_Atom meth_Public meth_Shared meth_Chain meth_Digest meth_Box meth_Empty
attribute [local go_sem ↓] run_build_chain run_build_digest run_build_box
attribute [local go_sem] ta_Atom_Atom ta_Public_Atom ta_Shared_Atom ta_Chain_Atom ta_Digest_Atom ta_Box_Atom ta_Empty_Atom ta_Nil_Atom ta_Atom_Public ta_Public_Public ta_Shared_Public ta_Chain_Public ta_Digest_Public ta_Box_Public ta_Empty_Public ta_Nil_Public ta_Atom_Shared ta_Public_Shared ta_Shared_Shared ta_Chain_Shared ta_Digest_Shared ta_Box_Shared ta_Empty_Shared ta_Nil_Shared ta_Atom_Chain ta_Public_Chain ta_Shared_Chain ta_Chain_Chain ta_Digest_Chain ta_Box_Chain ta_Empty_Chain ta_Nil_Chain ta_Atom_Digest ta_Public_Digest ta_Shared_Digest ta_Chain_Digest ta_Digest_Digest ta_Box_Digest ta_Empty_Digest ta_Nil_Digest ta_Atom_Box ta_Public_Box ta_Shared_Box ta_Chain_Box ta_Digest_Box ta_Box_Box ta_Empty_Box ta_Nil_Box ta_Atom_Empty ta_Public_Empty ta_Shared_Empty ta_Chain_Empty ta_Digest_Empty ta_Box_Empty ta_Empty_Empty ta_Nil_Empty

/-- All numbers of a term are such. -/
def Tm.all (R : Int → Prop) : Tm → Prop
  | .non => True
  | .atom n => R n
  | .pub n => R n
  | .shared a b => R a ∧ R b
  | .chain i x y => R i ∧ x.all R ∧ y.all R
  | .digest x y => x.all R ∧ y.all R
  | .box k n a t => R n ∧ k.all R ∧ a.all R ∧ t.all R
  | .empty => True

/-- From w on, numbers that are such are written so. -/
def Itoa (w : World) (R : Int → Prop) (f : Int → List UInt8) : Prop := (∀ n, (f n).length ≤ 40) ∧ ∀ n, R n → Tells w 117 #[.int .i64 n] (f n)
theorem Itoa.later {w w1 : World} {R : Int → Prop} {f : Int → List UInt8} (h : Itoa w R f) (he : Ext w w1) : Itoa w1 R f := ⟨h.1, fun n hn => (h.2 n hn).later he⟩

variable {R : Int → Prop} {f : Int → List UInt8}

theorem name_atom (n : Int) (w : World) (hI : Itoa w R f) (hn : R n) : Calls Tryz.prog 116 #[.agg #[.int .i64 n]] w fun e w' => e = .returned (str (nm f (.atom n))) ∧ Ext w w' := by
  have hl := hI.1 n
  have HI := hid hI
  clear hI
  go_enter Tryz.func116, Tryz.ntmps116
  go_wp2_with (first
    | (go_at_call 117; refine ((HI.out.2 n hn) _ (Ext.alloc _ _)).mono ?_; rintro e w1 ⟨rfl, hE1⟩)
    | (refine wpl_adds [97] (f n) ?_; refine ⟨rfl, _, _, _, _, rfl, rfl, rfl, (by simp; omega), ?_⟩))
  go_ret
  exact ⟨rfl, (Ext.alloc _ _).trans hE1⟩

theorem name_pub (n : Int) (w : World) (hI : Itoa w R f) (hn : R n) : Calls Tryz.prog 131 #[.agg #[.int .i64 n]] w fun e w' => e = .returned (str (nm f (.pub n))) ∧ Ext w w' := by
  have hl := hI.1 n
  have HI := hid hI
  clear hI
  go_enter Tryz.func131, Tryz.ntmps131
  go_wp2_with (first
    | (go_at_call 117; refine ((HI.out.2 n hn) _ (Ext.alloc _ _)).mono ?_; rintro e w1 ⟨rfl, hE1⟩)
    | (refine wpl_adds [112] (f n) ?_; refine ⟨rfl, _, _, _, _, rfl, rfl, rfl, (by simp; omega), ?_⟩))
  go_ret
  exact ⟨rfl, (Ext.alloc _ _).trans hE1⟩

theorem name_empty (w : World) : Calls Tryz.prog 130 #[.agg #[]] w fun e w' => e = .returned (str (nm f .empty)) ∧ Ext w w' := by
  go_enter Tryz.func130, Tryz.ntmps130
  go_wp2_with fail
  go_ret
  exact ⟨rfl, Ext.alloc _ _⟩

theorem name_shared (a b : Int) (w : World) (hI : Itoa w R f) (ha : R a) (hb : R b) : Calls Tryz.prog 132 #[.agg #[.int .i64 a, .int .i64 b]] w fun e w' => e = .returned (str (nm f (.shared a b))) ∧ Ext w w' := by
  have hla := hI.1 a
  have hlb := hI.1 b
  have HI := hid hI
  clear hI
  go_enter Tryz.func132, Tryz.ntmps132
  go_wp2_with fail
  refine reg_begin 10 (by kernel_rfl) ?_
  generalize hW : World.drew _ = W
  have c0 : W.cell? ⟨w.heap.size, 0, none⟩ = some (.int .i64 a) := by rw [← hW]; exact cell_drew (cell_new rfl)
  have c1 : W.cell? ⟨w.heap.size, 1, none⟩ = some (.int .i64 b) := by rw [← hW]; exact cell_drew (cell_new rfl)
  have hE : Ext w W := by rw [← hW]; exact (Ext.alloc _ _).trans (Ext.drew _)
  clear hW
  refine reg_quiet 0 rfl (by kernel_rfl) rfl ?_
  apply Exists.intro
  refine ⟨fun w' hw' => ?_, ?_⟩
  · go_simp
    exact ⟨rfl, Ext.refl _⟩
  refine reg_quiet 1 rfl (by kernel_rfl) rfl ?_
  apply Exists.intro
  refine ⟨fun w' hw' => ?_, ?_⟩
  · have hc := hw'.cell c0
    go_simp
    exact ⟨rfl, Ext.refl _⟩
  refine reg_quiet 2 rfl (by kernel_rfl) rfl ?_
  apply Exists.intro
  refine ⟨fun w' hw' => ?_, ?_⟩
  · go_simp
    exact (HI.out.2 a ha) w' (hE.trans hw')
  refine reg_adds 3 ([115]) (f a) rfl (by kernel_rfl) (by simp; omega) (by go_simp) (by go_simp) ?_
  refine reg_adds 4 ([115] ++ f a) ([46]) rfl (by kernel_rfl) (by simp; omega) (by go_simp) (by go_simp) ?_
  refine reg_quiet 5 rfl (by kernel_rfl) rfl ?_
  apply Exists.intro
  refine ⟨fun w' hw' => ?_, ?_⟩
  · go_simp
    exact ⟨rfl, Ext.refl _⟩
  refine reg_quiet 6 rfl (by kernel_rfl) rfl ?_
  apply Exists.intro
  refine ⟨fun w' hw' => ?_, ?_⟩
  · have hc := hw'.cell c1
    go_simp
    exact ⟨rfl, Ext.refl _⟩
  refine reg_quiet 7 rfl (by kernel_rfl) rfl ?_
  apply Exists.intro
  refine ⟨fun w' hw' => ?_, ?_⟩
  · go_simp
    exact (HI.out.2 b hb) w' (hE.trans hw')
  refine reg_adds 8 ([115] ++ f a ++ [46]) (f b) rfl (by kernel_rfl) (by simp; omega) (by go_simp) (by go_simp) ?_
  refine reg_quiet 9 rfl (by kernel_rfl) rfl ?_
  apply Exists.intro
  refine ⟨fun w' hw' => ?_, ?_⟩
  · go_simp
    exact ⟨rfl, Ext.refl _⟩
  refine reg_done (by kernel_rfl) (fun w' hw' => ?_) _
  go_simp
  go_wp2
  go_ret
  exact ⟨rfl, hE.trans hw'⟩

/-- What is asked of a part: that its name is told. -/
def Named (f : Int → List UInt8) (w : World) (t : Tm) : Prop := Tells w 29 #[t.val] (nm f t) ∧ (nm f t).length ≤ 1000000000

theorem get2 {α : Type} {p : α → Prop} {x y : α} (hx : p x) (hy : p y) : ∀ i (h : i < [x, y].length), p [x, y][i] := by
  intro i h
  match i, h with
  | 0, _ => exact hx
  | 1, _ => exact hy
theorem get3 {α : Type} {p : α → Prop} {x y z : α} (hx : p x) (hy : p y) (hz : p z) : ∀ i (h : i < [x, y, z].length), p [x, y, z][i] := by
  intro i h
  match i, h with
  | 0, _ => exact hx
  | 1, _ => exact hy
  | 2, _ => exact hz

theorem row2 (head : List UInt8) (b cap : Nat) (x y : Tm) (w : World) (hh : head.length ≤ 1000000) (hx : Named f w x) (hy : Named f w y)
    (cx : w.cell? ⟨b, 0, none⟩ = some x.val) (cy : w.cell? ⟨b, 1, none⟩ = some y.val) :
    Calls Tryz.prog 134 #[str head, .slice (some ⟨b, 0, none⟩) 2 cap] w fun e w' => e = .returned (str (head ++ 40 :: (Lib.join [nm f x, nm f y] [44] ++ [41]))) ∧ Ext w w' := by
  refine row_any head b cap [x, y] [nm f x, nm f y] w hh (by simp) (by simp) rfl ?_ ?_ ?_
  · intro l hl
    simp only [List.mem_cons, List.not_mem_nil, or_false] at hl
    rcases hl with rfl | rfl
    · exact hx.2
    · exact hy.2
  · intro i h
    match i, h with
    | 0, _ => exact cx
    | 1, _ => exact cy
  · intro i h h'
    match i, h, h' with
    | 0, _, _ => exact hx.1
    | 1, _, _ => exact hy.1
theorem row3 (head : List UInt8) (b cap : Nat) (x y z : Tm) (w : World) (hh : head.length ≤ 1000000) (hx : Named f w x) (hy : Named f w y) (hz : Named f w z)
    (cx : w.cell? ⟨b, 0, none⟩ = some x.val) (cy : w.cell? ⟨b, 1, none⟩ = some y.val) (cz : w.cell? ⟨b, 2, none⟩ = some z.val) :
    Calls Tryz.prog 134 #[str head, .slice (some ⟨b, 0, none⟩) 3 cap] w fun e w' => e = .returned (str (head ++ 40 :: (Lib.join [nm f x, nm f y, nm f z] [44] ++ [41]))) ∧ Ext w w' := by
  refine row_any head b cap [x, y, z] [nm f x, nm f y, nm f z] w hh (by simp) (by simp) rfl ?_ ?_ ?_
  · intro l hl
    simp only [List.mem_cons, List.not_mem_nil, or_false] at hl
    rcases hl with rfl | rfl | rfl
    · exact hx.2
    · exact hy.2
    · exact hz.2
  · intro i h
    match i, h with
    | 0, _ => exact cx
    | 1, _ => exact cy
    | 2, _ => exact cz
  · intro i h h'
    match i, h, h' with
    | 0, _, _ => exact hx.1
    | 1, _, _ => exact hy.1
    | 2, _, _ => exact hz.1
theorem Named.later {w w1 : World} {t : Tm} (h : Named f w t) (he : Ext w w1) : Named f w1 t := ⟨h.1.later he, h.2⟩

theorem name_digest (x y : Tm) (w : World) (hx : Named f w x) (hy : Named f w y) : Calls Tryz.prog 143 #[.agg #[x.val, y.val]] w fun e w' => e = .returned (str (nm f (.digest x y))) ∧ Ext w w' := by
  have HX := hid hx; have HY := hid hy
  clear hx hy
  go_enter Tryz.func143, Tryz.ntmps143
  go_wp2_with (first
    | (refine wpl_bs ?_; refine ⟨rfl, _, _, _, [(0, x.val), (1, y.val)], _, _, rfl, rfl, run_bs2 x y _, ?_⟩)
    | (go_at_call 134; refine (row2 [104] _ 2 x y _ (by simp) (HX.out.later ((Ext.alloc _ _).alloc' _)) (HY.out.later ((Ext.alloc _ _).alloc' _)) (cell_blk (blk_at (by simp)) rfl) (cell_blk (blk_at (by simp)) rfl)).mono ?_; rintro e w1 ⟨rfl, hE1⟩))
  go_ret
  exact ⟨rfl, ((Ext.alloc _ _).alloc' _).trans hE1⟩

set_option maxRecDepth 100000 in
theorem name_chain (i : Int) (x y : Tm) (w : World) (hI : Itoa w R f) (hi : R i) (hx : Named f w x) (hy : Named f w y) : Calls Tryz.prog 133 #[.agg #[.int .i64 i, x.val, y.val]] w fun e w' => e = .returned (str (nm f (.chain i x y))) ∧ Ext w w' := by
  have hl := hI.1 i
  have HI := hid hI; have HX := hid hx; have HY := hid hy
  clear hI hx hy
  go_enter Tryz.func133, Tryz.ntmps133
  go_wp2_with fail
  refine reg_begin 11 (by kernel_rfl) ?_
  generalize hW : World.drew _ = W
  have c0 : W.cell? ⟨w.heap.size, 0, none⟩ = some (.int .i64 i) := by rw [← hW]; exact cell_drew (cell_new rfl)
  have c1 : W.cell? ⟨w.heap.size, 1, none⟩ = some x.val := by rw [← hW]; exact cell_drew (cell_new rfl)
  have c2 : W.cell? ⟨w.heap.size, 2, none⟩ = some y.val := by rw [← hW]; exact cell_drew (cell_new rfl)
  have hE : Ext w W := by rw [← hW]; exact (Ext.alloc _ _).trans (Ext.drew _)
  clear hW
  refine reg_quiet 0 rfl (by kernel_rfl) rfl ?_
  apply Exists.intro
  refine ⟨fun w' hw' => ?_, ?_⟩
  · go_simp
    exact ⟨rfl, Ext.refl _⟩
  refine reg_quiet 1 rfl (by kernel_rfl) rfl ?_
  apply Exists.intro
  refine ⟨fun w' hw' => ?_, ?_⟩
  · have hc := hw'.cell c0
    go_simp
    exact ⟨rfl, Ext.refl _⟩
  refine reg_quiet 2 rfl (by kernel_rfl) rfl ?_
  apply Exists.intro
  refine ⟨fun w' hw' => ?_, ?_⟩
  · go_simp
    exact (HI.out.2 i hi) w' (hE.trans hw')
  refine reg_adds 3 ([99]) (f i) rfl (by kernel_rfl) (by simp; omega) (by go_simp) (by go_simp) ?_
  refine reg_quiet 4 rfl (by kernel_rfl) rfl ?_
  apply Exists.intro
  refine ⟨fun w' hw' => ?_, ?_⟩
  · go_simp
    exact ⟨rfl, Ext.refl _⟩
  refine reg_quiet 5 rfl (by kernel_rfl) rfl ?_
  apply Exists.intro
  refine ⟨fun w' hw' => ?_, ?_⟩
  · have hc := hw'.cell c1
    go_simp
    exact ⟨rfl, Ext.refl _⟩
  refine reg_quiet 6 rfl (by kernel_rfl) rfl ?_
  apply Exists.intro
  refine ⟨fun w' hw' => ?_, ?_⟩
  · go_simp
    exact ⟨rfl, Ext.refl _⟩
  refine reg_quiet 7 rfl (by kernel_rfl) rfl ?_
  apply Exists.intro
  refine ⟨fun w' hw' => ?_, ?_⟩
  · have hc := hw'.cell c2
    go_simp
    exact ⟨rfl, Ext.refl _⟩
  refine reg_one 8 rfl (by kernel_rfl) rfl (fun w' hw' => ?_)
  refine wp_bs (L := [(0, x.val), (1, y.val)]) rfl (by go_simp) (run_bs2 x y _) ⟨fun _ => Ext.alloc _ _, ?_⟩
  generalize hg : w'.heap.size = g
  have d0 : (w'.alloc (.cells #[x.val, y.val] 29)).cell? ⟨g, 0, none⟩ = some x.val := by rw [← hg]; exact cell_new rfl
  have d1 : (w'.alloc (.cells #[x.val, y.val] 29)).cell? ⟨g, 1, none⟩ = some y.val := by rw [← hg]; exact cell_new rfl
  have hE2 : Ext w (w'.alloc (.cells #[x.val, y.val] 29)) := (hE.trans hw').alloc' _
  generalize (w'.alloc (.cells #[x.val, y.val] 29)) = W2 at *
  clear hg hw' hE c0 c1 c2
  refine reg_quiet 9 rfl (by kernel_rfl) rfl ?_
  apply Exists.intro
  refine ⟨fun w' hw' => ?_, ?_⟩
  · go_simp
    exact row2 (99 :: f i) g 2 x y w' (by simp; omega) (HX.out.later (hE2.trans hw')) (HY.out.later (hE2.trans hw')) (hw'.cell d0) (hw'.cell d1)
  refine reg_quiet 10 rfl (by kernel_rfl) rfl ?_
  apply Exists.intro
  refine ⟨fun w' hw' => ?_, ?_⟩
  · go_simp
    exact ⟨rfl, Ext.refl _⟩
  refine reg_done (by kernel_rfl) (fun w' hw' => ?_) _
  go_simp
  go_wp2
  go_ret
  exact ⟨by simp [nm], hE2.trans hw'⟩

set_option maxRecDepth 100000 in
theorem name_box (k : Tm) (n : Int) (x y : Tm) (w : World) (hI : Itoa w R f) (hi : R n) (hk : Named f w k) (hx : Named f w x) (hy : Named f w y) : Calls Tryz.prog 144 #[.agg #[k.val, .int .i64 n, x.val, y.val]] w fun e w' => e = .returned (str (nm f (.box k n x y))) ∧ Ext w w' := by
  have hl := hI.1 n
  have HI := hid hI; have HX := hid hx; have HY := hid hy; have HK := hid hk
  clear hI hx hy hk
  go_enter Tryz.func144, Tryz.ntmps144
  go_wp2_with fail
  refine reg_begin 13 (by kernel_rfl) ?_
  generalize hW : World.drew _ = W
  have c0 : W.cell? ⟨w.heap.size, 0, none⟩ = some k.val := by rw [← hW]; exact cell_drew (cell_new rfl)
  have c1 : W.cell? ⟨w.heap.size, 1, none⟩ = some (.int .i64 n) := by rw [← hW]; exact cell_drew (cell_new rfl)
  have c2 : W.cell? ⟨w.heap.size, 2, none⟩ = some x.val := by rw [← hW]; exact cell_drew (cell_new rfl)
  have c3 : W.cell? ⟨w.heap.size, 3, none⟩ = some y.val := by rw [← hW]; exact cell_drew (cell_new rfl)
  have hE : Ext w W := by rw [← hW]; exact (Ext.alloc _ _).trans (Ext.drew _)
  clear hW
  refine reg_quiet 0 rfl (by kernel_rfl) rfl ?_
  apply Exists.intro
  refine ⟨fun w' hw' => ?_, ?_⟩
  · go_simp
    exact ⟨rfl, Ext.refl _⟩
  refine reg_quiet 1 rfl (by kernel_rfl) rfl ?_
  apply Exists.intro
  refine ⟨fun w' hw' => ?_, ?_⟩
  · have hc := hw'.cell c1
    go_simp
    exact ⟨rfl, Ext.refl _⟩
  refine reg_quiet 2 rfl (by kernel_rfl) rfl ?_
  apply Exists.intro
  refine ⟨fun w' hw' => ?_, ?_⟩
  · go_simp
    exact (HI.out.2 n hi) w' (hE.trans hw')
  refine reg_adds 3 ([98]) (f n) rfl (by kernel_rfl) (by simp; omega) (by go_simp) (by go_simp) ?_
  refine reg_quiet 4 rfl (by kernel_rfl) rfl ?_
  apply Exists.intro
  refine ⟨fun w' hw' => ?_, ?_⟩
  · go_simp
    exact ⟨rfl, Ext.refl _⟩
  refine reg_quiet 5 rfl (by kernel_rfl) rfl ?_
  apply Exists.intro
  refine ⟨fun w' hw' => ?_, ?_⟩
  · have hc := hw'.cell c0
    go_simp
    exact ⟨rfl, Ext.refl _⟩
  refine reg_quiet 6 rfl (by kernel_rfl) rfl ?_
  apply Exists.intro
  refine ⟨fun w' hw' => ?_, ?_⟩
  · go_simp
    exact ⟨rfl, Ext.refl _⟩
  refine reg_quiet 7 rfl (by kernel_rfl) rfl ?_
  apply Exists.intro
  refine ⟨fun w' hw' => ?_, ?_⟩
  · have hc := hw'.cell c2
    go_simp
    exact ⟨rfl, Ext.refl _⟩
  refine reg_quiet 8 rfl (by kernel_rfl) rfl ?_
  apply Exists.intro
  refine ⟨fun w' hw' => ?_, ?_⟩
  · go_simp
    exact ⟨rfl, Ext.refl _⟩
  refine reg_quiet 9 rfl (by kernel_rfl) rfl ?_
  apply Exists.intro
  refine ⟨fun w' hw' => ?_, ?_⟩
  · have hc := hw'.cell c3
    go_simp
    exact ⟨rfl, Ext.refl _⟩
  refine reg_one 10 rfl (by kernel_rfl) rfl (fun w' hw' => ?_)
  refine wp_bs (L := [(0, k.val), (1, x.val), (2, y.val)]) rfl (by go_simp) (run_bs3 k x y _) ⟨fun _ => Ext.alloc _ _, ?_⟩
  generalize hg : w'.heap.size = g
  have d0 : (w'.alloc (.cells #[k.val, x.val, y.val] 29)).cell? ⟨g, 0, none⟩ = some k.val := by rw [← hg]; exact cell_new rfl
  have d1 : (w'.alloc (.cells #[k.val, x.val, y.val] 29)).cell? ⟨g, 1, none⟩ = some x.val := by rw [← hg]; exact cell_new rfl
  have d2 : (w'.alloc (.cells #[k.val, x.val, y.val] 29)).cell? ⟨g, 2, none⟩ = some y.val := by rw [← hg]; exact cell_new rfl
  have hE2 : Ext w (w'.alloc (.cells #[k.val, x.val, y.val] 29)) := (hE.trans hw').alloc' _
  generalize (w'.alloc (.cells #[k.val, x.val, y.val] 29)) = W2 at *
  clear hg hw' hE c0 c1 c2 c3
  refine reg_quiet 11 rfl (by kernel_rfl) rfl ?_
  apply Exists.intro
  refine ⟨fun w' hw' => ?_, ?_⟩
  · go_simp
    exact row3 (98 :: f n) g 3 k x y w' (by simp; omega) (HK.out.later (hE2.trans hw')) (HX.out.later (hE2.trans hw')) (HY.out.later (hE2.trans hw')) (hw'.cell d0) (hw'.cell d1) (hw'.cell d2)
  refine reg_quiet 12 rfl (by kernel_rfl) rfl ?_
  apply Exists.intro
  refine ⟨fun w' hw' => ?_, ?_⟩
  · go_simp
    exact ⟨rfl, Ext.refl _⟩
  refine reg_done (by kernel_rfl) (fun w' hw' => ?_) _
  go_simp
  go_wp2
  go_ret
  exact ⟨by simp [nm], hE2.trans hw'⟩

/-- A part's name, its kind's method being told. -/
theorem name_of {u : TypeId} {x : Value} {m : FuncId} {s : List UInt8} (w : World) (hm : ∀ w, (method 291 u x "Name").run Tryz.prog w = .ok (m, x) w) (hc : ∀ args w, (callFunc m args).run Tryz.prog w = .ok (.enter m args) w)
    (h : Calls Tryz.prog m #[x] w fun e w' => e = .returned (str s) ∧ Ext w w') : Calls Tryz.prog 29 #[.iface u x] w fun e w' => e = .returned (str s) ∧ Ext w w' := by
  have H := hid h
  clear h
  go_enter Tryz.func29, Tryz.ntmps29
  go_wp2_with (refine H.out.mono ?_; rintro e w1 ⟨rfl, hE1⟩)
  go_ret
  exact ⟨rfl, hE1⟩

theorem name_non (w : World) : Calls Tryz.prog 29 #[.nilIface] w fun e w' => e = .returned (str (nm f .non)) ∧ Ext w w' := by
  go_enter Tryz.func29, Tryz.ntmps29
  go_wp2_with fail
  go_ret
  exact ⟨rfl, Ext.refl _⟩

theorem ent_atom : ∀ args w, (callFunc 116 args).run Tryz.prog w = .ok (.enter 116 args) w := enters_of Tryz.func116 (by kernel_rfl) rfl
theorem ent_pub : ∀ args w, (callFunc 131 args).run Tryz.prog w = .ok (.enter 131 args) w := enters_of Tryz.func131 (by kernel_rfl) rfl
theorem ent_shared : ∀ args w, (callFunc 132 args).run Tryz.prog w = .ok (.enter 132 args) w := enters_of Tryz.func132 (by kernel_rfl) rfl
theorem ent_chain : ∀ args w, (callFunc 133 args).run Tryz.prog w = .ok (.enter 133 args) w := enters_of Tryz.func133 (by kernel_rfl) rfl
theorem ent_digest : ∀ args w, (callFunc 143 args).run Tryz.prog w = .ok (.enter 143 args) w := enters_of Tryz.func143 (by kernel_rfl) rfl
theorem ent_box : ∀ args w, (callFunc 144 args).run Tryz.prog w = .ok (.enter 144 args) w := enters_of Tryz.func144 (by kernel_rfl) rfl
theorem ent_empty : ∀ args w, (callFunc 130 args).run Tryz.prog w = .ok (.enter 130 args) w := enters_of Tryz.func130 (by kernel_rfl) rfl

theorem name_any (hR : True) : ∀ (t : Tm) (w : World), Itoa w R f → t.all R → sz t ≤ 10000 → Calls Tryz.prog 29 #[t.val] w fun e w' => e = .returned (str (nm f t)) ∧ Ext w w'
  | .non, w, _, _, _ => name_non w
  | .atom n, w, hI, ha, _ => name_of w (fun _ => meth_Atom _ _) ent_atom (name_atom n w hI ha)
  | .pub n, w, hI, ha, _ => name_of w (fun _ => meth_Public _ _) ent_pub (name_pub n w hI ha)
  | .shared a b, w, hI, ha, _ => name_of w (fun _ => meth_Shared _ _) ent_shared (name_shared a b w hI ha.1 ha.2)
  | .empty, w, _, _, _ => name_of w (fun _ => meth_Empty _ _) ent_empty (name_empty w)
  | .digest x y, w, hI, ha, hs => by
    have px := sz_pos x; have py := sz_pos y
    simp only [sz] at hs
    have lx := nm_len hI.1 x; have ly := nm_len hI.1 y
    exact name_of w (fun _ => meth_Digest _ _) ent_digest (name_digest x y w ⟨fun w' h' => name_any hR x w' (hI.later h') ha.1 (by omega), by omega⟩ ⟨fun w' h' => name_any hR y w' (hI.later h') ha.2 (by omega), by omega⟩)
  | .chain i x y, w, hI, ha, hs => by
    have px := sz_pos x; have py := sz_pos y
    simp only [sz] at hs
    have lx := nm_len hI.1 x; have ly := nm_len hI.1 y
    exact name_of w (fun _ => meth_Chain _ _) ent_chain (name_chain i x y w hI ha.1 ⟨fun w' h' => name_any hR x w' (hI.later h') ha.2.1 (by omega), by omega⟩ ⟨fun w' h' => name_any hR y w' (hI.later h') ha.2.2 (by omega), by omega⟩)
  | .box k n x y, w, hI, ha, hs => by
    have pk := sz_pos k; have px := sz_pos x; have py := sz_pos y
    simp only [sz] at hs
    have lk := nm_len hI.1 k; have lx := nm_len hI.1 x; have ly := nm_len hI.1 y
    exact name_of w (fun _ => meth_Box _ _) ent_box (name_box k n x y w hI ha.1 ⟨fun w' h' => name_any hR k w' (hI.later h') ha.2.1 (by omega), by omega⟩ ⟨fun w' h' => name_any hR x w' (hI.later h') ha.2.2.1 (by omega), by omega⟩ ⟨fun w' h' => name_any hR y w' (hI.later h') ha.2.2.2 (by omega), by omega⟩)

end Go.Proofs.YtjodmedgkmeklaaGreat

/-
  Two digits at a time: the library's table of the numbers 00 to 99, asked at a place.
-/
namespace Go.Proofs.YtjodmedgkmeklaaGreat
open Go Go.RowKit

def smalls : ByteArray := ⟨[48, 48, 48, 49, 48, 50, 48, 51, 48, 52, 48, 53, 48, 54, 48, 55, 48, 56, 48, 57, 49, 48, 49, 49, 49, 50, 49, 51, 49, 52, 49, 53, 49, 54, 49, 55, 49, 56, 49, 57, 50, 48, 50, 49, 50, 50, 50, 51, 50, 52, 50, 53, 50, 54, 50, 55, 50, 56, 50, 57, 51, 48, 51, 49, 51, 50, 51, 51, 51, 52, 51, 53, 51, 54, 51, 55, 51, 56, 51, 57, 52, 48, 52, 49, 52, 50, 52, 51, 52, 52, 52, 53, 52, 54, 52, 55, 52, 56, 52, 57, 53, 48, 53, 49, 53, 50, 53, 51, 53, 52, 53, 53, 53, 54, 53, 55, 53, 56, 53, 57, 54, 48, 54, 49, 54, 50, 54, 51, 54, 52, 54, 53, 54, 54, 54, 55, 54, 56, 54, 57, 55, 48, 55, 49, 55, 50, 55, 51, 55, 52, 55, 53, 55, 54, 55, 55, 55, 56, 55, 57, 56, 48, 56, 49, 56, 50, 56, 51, 56, 52, 56, 53, 56, 54, 56, 55, 56, 56, 56, 57, 57, 48, 57, 49, 57, 50, 57, 51, 57, 52, 57, 53, 57, 54, 57, 55, 57, 56, 57, 57].toArray⟩

theorem w64_0 : IntKind.i64.wrap 0 = 0 := by decide
theorem w64_1 : IntKind.i64.wrap 1 = 1 := by decide
theorem w64_2 : IntKind.i64.wrap 2 = 2 := by decide
theorem w64_3 : IntKind.i64.wrap 3 = 3 := by decide
theorem w64_4 : IntKind.i64.wrap 4 = 4 := by decide
theorem w32 {x : Int} (h0 : 0 ≤ x) (h1 : x < 4294967296) : IntKind.u32.wrap x = x := by
  have h : x % 4294967296 = x := Int.emod_eq_of_lt h0 h1
  simp only [IntKind.wrap, IntKind.bits, IntKind.signed, Bool.false_and, Bool.false_eq_true, if_false]
  exact h
theorem smalls_size : smalls.size = 200 := by decide +kernel
theorem smalls_at : ∀ n, n < 100 → smalls.data.toList[n * 2]? = some (UInt8.ofNat (48 + n / 10)) ∧ smalls.data.toList[n * 2 + 1]? = some (UInt8.ofNat (48 + n % 10)) := by decide +kernel
set_option maxRecDepth 10000 in
theorem run_at (n : Nat) (b : UInt8) (h : smalls.data.toList[n]? = some b) (w : World) : (Instr.index 9 (.string smalls) (.int .u32 (n : Int))).run Tryz.prog w = .ok (.int .u8 b.toNat) w := by
  have hlt : n < smalls.size := by
    have := (List.getElem?_eq_some_iff.1 h).1
    rw [Array.length_toList] at this; exact this
  have hb : smalls[n]'hlt = b := by
    have := (List.getElem?_eq_some_iff.1 h).2
    rw [← this]; rfl
  have hlt2 : (n : Int) < (smalls.size : Int) := by omega
  clear h
  generalize smalls = S at *
  have HB := hid hb
  clear hb
  go_simp
  rw [HB.out]
theorem toNat8 (n : Nat) (h : n < 256) : (UInt8.ofNat n).toNat = n := by simp [Nat.mod_eq_of_lt h]
theorem sm0 (n : Nat) (h : n < 100) (w : World) : (Instr.index 9 (.string smalls) (.int .u32 ((n : Int) * 2))).run Tryz.prog w = .ok (.int .u8 (48 + (n : Int) / 10)) w := by
  have h1 := run_at (n * 2) _ (smalls_at n h).1 w
  rw [toNat8 _ (by omega)] at h1
  exact h1
theorem sm1 (n : Nat) (h : n < 100) (w : World) : (Instr.index 9 (.string smalls) (.int .u32 ((n : Int) * 2 + 1))).run Tryz.prog w = .ok (.int .u8 (48 + (n : Int) % 10)) w := by
  have h1 := run_at (n * 2 + 1) _ (smalls_at n h).2 w
  rw [toNat8 _ (by omega)] at h1
  exact h1
/-- A constant string asked at a place, in a region that draws its order. -/
theorem reg_index {E fuel : Nat} {l tl : List Oper} {dst : Option Tmp} {t ty : TypeId} {pos : String} {after : Array Edge} {x : Operand} {S : ByteArray} {X : Value} {listed : Array Bool} {a : Act} {w : World} {md : Region.Mode} {Q : Exit → Act → World → Prop} (i : Nat) (v : Value)
    (hi : l.drop i = ⟨dst, .index t (.const (.string S)) x, ty, pos, after, none⟩ :: tl) (hB : pureB md l.toArray listed i = true) (hx : a.eval x = X) (hr : ∀ w, (Instr.index t (.string S) X).run Tryz.prog w = .ok v w)
    (h : wpAnyU Tryz.prog md l.toArray (calm Q) E fuel (listed.setIfInBounds i true) (a.put dst v) w) : wpAnyU Tryz.prog md l.toArray (calm Q) E (fuel + 1) listed a w :=
  reg_pure i hi hB rfl ⟨v, fun w' => by simp only [execOp, hx, eval_const]; rw [Sem.run_bind, hr]; rfl, h⟩

end Go.Proofs.YtjodmedgkmeklaaGreat
