/-
  term.size and Size: how many stand in a term.
-/
import Derived.Test.YtegmnbcfanjocaaTa
import Derived.Outline
import Derived.Shelf.Abstract
namespace Go.Proofs.Ytegmnbcfanjocaa
open Go Go.RowKit
attribute [local go_sem] extUpon run_store_tm
attribute [local go_sem ↓] Tm.val_cell eval_put_ne eval_put_none eval_put_same size_put eval_const
attribute [local go_sem ↓] meth_Atom meth_Public meth_Shared meth_Chain meth_Digest meth_Box meth_Empty
attribute [local go_sem ↓] run_build_chain run_build_digest run_build_box
attribute [local go_sem] ta_Atom_Atom ta_Public_Atom ta_Shared_Atom ta_Chain_Atom ta_Digest_Atom ta_Box_Atom ta_Empty_Atom ta_Nil_Atom ta_Atom_Public ta_Public_Public ta_Shared_Public ta_Chain_Public ta_Digest_Public ta_Box_Public ta_Empty_Public ta_Nil_Public ta_Atom_Shared ta_Public_Shared ta_Shared_Shared ta_Chain_Shared ta_Digest_Shared ta_Box_Shared ta_Empty_Shared ta_Nil_Shared ta_Atom_Chain ta_Public_Chain ta_Shared_Chain ta_Chain_Chain ta_Digest_Chain ta_Box_Chain ta_Empty_Chain ta_Nil_Chain ta_Atom_Digest ta_Public_Digest ta_Shared_Digest ta_Chain_Digest ta_Digest_Digest ta_Box_Digest ta_Empty_Digest ta_Nil_Digest ta_Atom_Box ta_Public_Box ta_Shared_Box ta_Chain_Box ta_Digest_Box ta_Box_Box ta_Empty_Box ta_Nil_Box ta_Atom_Empty ta_Public_Empty ta_Shared_Empty ta_Chain_Empty ta_Digest_Empty ta_Box_Empty ta_Empty_Empty ta_Nil_Empty

/-- A term's size, so many counted already. -/
def szf : Tm → Int → Int
  | .chain _ f w, n => if 10000 ≤ n + 1 then 10000 else szf w (szf f (n + 1))
  | .digest f w, n => if 10000 ≤ n + 1 then 10000 else szf w (szf f (n + 1))
  | .box k _ a t, n => if 10000 ≤ n + 1 then 10000 else szf t (szf a (szf k (n + 1)))
  | .non, n => if 10000 ≤ n + 1 then 10000 else n + 1
  | .atom _, n => if 10000 ≤ n + 1 then 10000 else n + 1
  | .pub _, n => if 10000 ≤ n + 1 then 10000 else n + 1
  | .shared _ _, n => if 10000 ≤ n + 1 then 10000 else n + 1
  | .empty, n => if 10000 ≤ n + 1 then 10000 else n + 1

theorem szf_bd : ∀ (t : Tm) (n : Int), 0 ≤ n → n ≤ 10000 → 0 ≤ szf t n ∧ szf t n ≤ 10000
  | .non, n, h0, h1 => by unfold szf; split <;> omega
  | .atom _, n, h0, h1 => by unfold szf; split <;> omega
  | .pub _, n, h0, h1 => by unfold szf; split <;> omega
  | .shared _ _, n, h0, h1 => by unfold szf; split <;> omega
  | .empty, n, h0, h1 => by unfold szf; split <;> omega
  | .chain _ f w, n, h0, h1 => by
    unfold szf; split
    · omega
    · have a := szf_bd f (n + 1) (by omega) (by omega); exact szf_bd w _ a.1 a.2
  | .digest f w, n, h0, h1 => by
    unfold szf; split
    · omega
    · have a := szf_bd f (n + 1) (by omega) (by omega); exact szf_bd w _ a.1 a.2
  | .box k _ a t, n, h0, h1 => by
    unfold szf; split
    · omega
    · have x := szf_bd k (n + 1) (by omega) (by omega); have y := szf_bd a _ x.1 x.2; exact szf_bd t _ y.1 y.2

def SizeSaid (t : Tm) : Prop := ∀ (n : Int) (w : World), 0 ≤ n → n ≤ 10000 → Calls Try.prog 34 #[t.val, .int .i64 n] w fun e w' => e = .returned (.int .i64 (szf t n)) ∧ Ext w w'

theorem size_full (t : Tm) (n : Int) (w : World) (h0 : 9999 ≤ n) (hn : n ≤ 10000) :
    Calls Try.prog 34 #[t.val, .int .i64 n] w fun e w' => e = .returned (.int .i64 (szf t n)) ∧ Ext w w' := by
  have H : Hid (szf t n = 10000) := by cases t <;> rw [szf, if_pos (by omega)] <;> exact rfl
  go_enter Try.func34, Try.ntmps34
  go_wp2_with fail
  go_ret
  exact ⟨by rw [H.out]; rfl, Ext.refl _⟩

theorem size_non  : SizeSaid (Tm.non) := by
  intro n w h0 hn
  by_cases h : 9999 ≤ n
  · exact size_full _ n w h hn
  have H : Hid (szf (Tm.non) n = n + 1) := by rw [szf, if_neg (by omega)]; exact rfl
  have hval : (Tm.non).val = .nilIface := rfl
  rw [hval]
  clear hval
  go_enter Try.func34, Try.ntmps34
  go_wp2_with fail
  go_ret
  exact ⟨by rw [H.out]; rfl, Ext.refl _⟩

theorem size_atom (m : Int) : SizeSaid (Tm.atom m) := by
  intro n w h0 hn
  by_cases h : 9999 ≤ n
  · exact size_full _ n w h hn
  have H : Hid (szf (Tm.atom m) n = n + 1) := by rw [szf, if_neg (by omega)]; exact rfl
  have hval : (Tm.atom m).val = .iface 37 (.agg #[.int .i64 m]) := rfl
  rw [hval]
  clear hval
  go_enter Try.func34, Try.ntmps34
  go_wp2_with fail
  go_ret
  exact ⟨by rw [H.out]; rfl, Ext.refl _⟩

theorem size_pub (m : Int) : SizeSaid (Tm.pub m) := by
  intro n w h0 hn
  by_cases h : 9999 ≤ n
  · exact size_full _ n w h hn
  have H : Hid (szf (Tm.pub m) n = n + 1) := by rw [szf, if_neg (by omega)]; exact rfl
  have hval : (Tm.pub m).val = .iface 58 (.agg #[.int .i64 m]) := rfl
  rw [hval]
  clear hval
  go_enter Try.func34, Try.ntmps34
  go_wp2_with fail
  go_ret
  exact ⟨by rw [H.out]; rfl, Ext.refl _⟩

theorem size_shared (m k : Int) : SizeSaid (Tm.shared m k) := by
  intro n w h0 hn
  by_cases h : 9999 ≤ n
  · exact size_full _ n w h hn
  have H : Hid (szf (Tm.shared m k) n = n + 1) := by rw [szf, if_neg (by omega)]; exact rfl
  have hval : (Tm.shared m k).val = .iface 61 (.agg #[.int .i64 m, .int .i64 k]) := rfl
  rw [hval]
  clear hval
  go_enter Try.func34, Try.ntmps34
  go_wp2_with fail
  go_ret
  exact ⟨by rw [H.out]; rfl, Ext.refl _⟩

theorem size_empty  : SizeSaid (Tm.empty) := by
  intro n w h0 hn
  by_cases h : 9999 ≤ n
  · exact size_full _ n w h hn
  have H : Hid (szf (Tm.empty) n = n + 1) := by rw [szf, if_neg (by omega)]; exact rfl
  have hval : (Tm.empty).val = .iface 44 (.agg #[]) := rfl
  rw [hval]
  clear hval
  go_enter Try.func34, Try.ntmps34
  go_wp2_with fail
  go_ret
  exact ⟨by rw [H.out]; rfl, Ext.refl _⟩

theorem size_chain (i : Int) (f x : Tm) (ihf : SizeSaid f) (ihx : SizeSaid x) : SizeSaid (.chain i f x) := by
  intro n w h0 hn
  by_cases h : 9999 ≤ n
  · exact size_full _ n w h hn
  have H : Hid (szf (.chain i f x) n = szf x (szf f (n + 1))) := by rw [szf, if_neg (by omega)]; exact rfl
  have hval : (Tm.chain i f x).val = .iface 41 (.agg #[.int .i64 i, f.val, x.val]) := rfl
  rw [hval]
  clear hval
  go_enter Try.func34, Try.ntmps34
  go_wp2_with fail
  refine reg_begin 8 (by kernel_rfl) ?_
  generalize hW : World.drew _ = W
  have c1 : W.cell? ⟨w.heap.size, 1, none⟩ = some f.val := by rw [← hW]; exact cell_drew (cell_new rfl)
  have c2 : W.cell? ⟨w.heap.size, 2, none⟩ = some x.val := by rw [← hW]; exact cell_drew (cell_new rfl)
  have hE : Ext w W := by rw [← hW]; exact (Ext.alloc _ _).trans (Ext.drew _)
  clear hW
  refine reg_quiet 0 rfl (by kernel_rfl) rfl ?_
  apply Exists.intro
  refine ⟨fun w' hw' => ?_, ?_⟩
  · go_simp
    exact ⟨rfl, Ext.refl _⟩
  refine reg_quiet 1 rfl (by kernel_rfl) rfl ?_
  apply Exists.intro
  refine ⟨fun w' hw' => ?_, ?_⟩
  · have hc := hw'.cell c2
    go_simp
    exact ⟨rfl, Ext.refl _⟩
  refine reg_quiet 2 rfl (by kernel_rfl) rfl ?_
  apply Exists.intro
  refine ⟨fun w' hw' => ?_, ?_⟩
  · go_simp
    exact ⟨rfl, Ext.refl _⟩
  refine reg_quiet 3 rfl (by kernel_rfl) rfl ?_
  apply Exists.intro
  refine ⟨fun w' hw' => ?_, ?_⟩
  · have hc := hw'.cell c1
    go_simp
    exact ⟨rfl, Ext.refl _⟩
  refine reg_quiet 4 rfl (by kernel_rfl) rfl ?_
  apply Exists.intro
  refine ⟨fun w' hw' => ?_, ?_⟩
  · go_simp
    exact ⟨rfl, Ext.refl _⟩
  refine reg_quiet 5 rfl (by kernel_rfl) rfl ?_
  apply Exists.intro
  refine ⟨fun w' hw' => ?_, ?_⟩
  · go_simp
    exact ihf (n + 1) w' (by omega) (by omega)
  have hb := szf_bd f (n + 1) (by omega) (by omega)
  refine reg_quiet 6 rfl (by kernel_rfl) rfl ?_
  apply Exists.intro
  refine ⟨fun w' hw' => ?_, ?_⟩
  · go_simp
    exact ihx _ w' hb.1 hb.2
  refine reg_quiet 7 rfl (by kernel_rfl) rfl ?_
  apply Exists.intro
  refine ⟨fun w' hw' => ?_, ?_⟩
  · go_simp
    exact ⟨rfl, Ext.refl _⟩
  refine reg_done (by kernel_rfl) (fun w' hw' => ?_) _
  go_simp
  go_wp2
  go_ret
  exact ⟨by rw [H.out]; rfl, hE.trans hw'⟩

theorem size_digest (f x : Tm) (ihf : SizeSaid f) (ihx : SizeSaid x) : SizeSaid (.digest f x) := by
  intro n w h0 hn
  by_cases h : 9999 ≤ n
  · exact size_full _ n w h hn
  have H : Hid (szf (.digest f x) n = szf x (szf f (n + 1))) := by rw [szf, if_neg (by omega)]; exact rfl
  have hval : (Tm.digest f x).val = .iface 35 (.agg #[f.val, x.val]) := rfl
  rw [hval]
  clear hval
  go_enter Try.func34, Try.ntmps34
  go_wp2_with fail
  refine reg_begin 8 (by kernel_rfl) ?_
  generalize hW : World.drew _ = W
  have c1 : W.cell? ⟨w.heap.size, 0, none⟩ = some f.val := by rw [← hW]; exact cell_drew (cell_new rfl)
  have c2 : W.cell? ⟨w.heap.size, 1, none⟩ = some x.val := by rw [← hW]; exact cell_drew (cell_new rfl)
  have hE : Ext w W := by rw [← hW]; exact (Ext.alloc _ _).trans (Ext.drew _)
  clear hW
  refine reg_quiet 0 rfl (by kernel_rfl) rfl ?_
  apply Exists.intro
  refine ⟨fun w' hw' => ?_, ?_⟩
  · go_simp
    exact ⟨rfl, Ext.refl _⟩
  refine reg_quiet 1 rfl (by kernel_rfl) rfl ?_
  apply Exists.intro
  refine ⟨fun w' hw' => ?_, ?_⟩
  · have hc := hw'.cell c2
    go_simp
    exact ⟨rfl, Ext.refl _⟩
  refine reg_quiet 2 rfl (by kernel_rfl) rfl ?_
  apply Exists.intro
  refine ⟨fun w' hw' => ?_, ?_⟩
  · go_simp
    exact ⟨rfl, Ext.refl _⟩
  refine reg_quiet 3 rfl (by kernel_rfl) rfl ?_
  apply Exists.intro
  refine ⟨fun w' hw' => ?_, ?_⟩
  · have hc := hw'.cell c1
    go_simp
    exact ⟨rfl, Ext.refl _⟩
  refine reg_quiet 4 rfl (by kernel_rfl) rfl ?_
  apply Exists.intro
  refine ⟨fun w' hw' => ?_, ?_⟩
  · go_simp
    exact ⟨rfl, Ext.refl _⟩
  refine reg_quiet 5 rfl (by kernel_rfl) rfl ?_
  apply Exists.intro
  refine ⟨fun w' hw' => ?_, ?_⟩
  · go_simp
    exact ihf (n + 1) w' (by omega) (by omega)
  have hb := szf_bd f (n + 1) (by omega) (by omega)
  refine reg_quiet 6 rfl (by kernel_rfl) rfl ?_
  apply Exists.intro
  refine ⟨fun w' hw' => ?_, ?_⟩
  · go_simp
    exact ihx _ w' hb.1 hb.2
  refine reg_quiet 7 rfl (by kernel_rfl) rfl ?_
  apply Exists.intro
  refine ⟨fun w' hw' => ?_, ?_⟩
  · go_simp
    exact ⟨rfl, Ext.refl _⟩
  refine reg_done (by kernel_rfl) (fun w' hw' => ?_) _
  go_simp
  go_wp2
  go_ret
  exact ⟨by rw [H.out]; rfl, hE.trans hw'⟩

theorem size_box (m : Int) (k a x : Tm) (ihk : SizeSaid k) (iha : SizeSaid a) (ihx : SizeSaid x) : SizeSaid (.box k m a x) := by
  intro n w h0 hn
  by_cases h : 9999 ≤ n
  · exact size_full _ n w h hn
  have H : Hid (szf (.box k m a x) n = szf x (szf a (szf k (n + 1)))) := by rw [szf, if_neg (by omega)]; exact rfl
  have hval : (Tm.box k m a x).val = .iface 39 (.agg #[k.val, .int .i64 m, a.val, x.val]) := rfl
  rw [hval]
  clear hval
  go_enter Try.func34, Try.ntmps34
  go_wp2_with fail
  refine reg_begin 11 (by kernel_rfl) ?_
  generalize hW : World.drew _ = W
  have c0 : W.cell? ⟨w.heap.size, 0, none⟩ = some k.val := by rw [← hW]; exact cell_drew (cell_new rfl)
  have c2 : W.cell? ⟨w.heap.size, 2, none⟩ = some a.val := by rw [← hW]; exact cell_drew (cell_new rfl)
  have c3 : W.cell? ⟨w.heap.size, 3, none⟩ = some x.val := by rw [← hW]; exact cell_drew (cell_new rfl)
  have hE : Ext w W := by rw [← hW]; exact (Ext.alloc _ _).trans (Ext.drew _)
  clear hW
  refine reg_quiet 0 rfl (by kernel_rfl) rfl ?_
  apply Exists.intro
  refine ⟨fun w' hw' => ?_, ?_⟩
  · go_simp
    exact ⟨rfl, Ext.refl _⟩
  refine reg_quiet 1 rfl (by kernel_rfl) rfl ?_
  apply Exists.intro
  refine ⟨fun w' hw' => ?_, ?_⟩
  · have hc := hw'.cell c3
    go_simp
    exact ⟨rfl, Ext.refl _⟩
  refine reg_quiet 2 rfl (by kernel_rfl) rfl ?_
  apply Exists.intro
  refine ⟨fun w' hw' => ?_, ?_⟩
  · go_simp
    exact ⟨rfl, Ext.refl _⟩
  refine reg_quiet 3 rfl (by kernel_rfl) rfl ?_
  apply Exists.intro
  refine ⟨fun w' hw' => ?_, ?_⟩
  · have hc := hw'.cell c2
    go_simp
    exact ⟨rfl, Ext.refl _⟩
  refine reg_quiet 4 rfl (by kernel_rfl) rfl ?_
  apply Exists.intro
  refine ⟨fun w' hw' => ?_, ?_⟩
  · go_simp
    exact ⟨rfl, Ext.refl _⟩
  refine reg_quiet 5 rfl (by kernel_rfl) rfl ?_
  apply Exists.intro
  refine ⟨fun w' hw' => ?_, ?_⟩
  · have hc := hw'.cell c0
    go_simp
    exact ⟨rfl, Ext.refl _⟩
  refine reg_quiet 6 rfl (by kernel_rfl) rfl ?_
  apply Exists.intro
  refine ⟨fun w' hw' => ?_, ?_⟩
  · go_simp
    exact ⟨rfl, Ext.refl _⟩
  refine reg_quiet 7 rfl (by kernel_rfl) rfl ?_
  apply Exists.intro
  refine ⟨fun w' hw' => ?_, ?_⟩
  · go_simp
    exact ihk (n + 1) w' (by omega) (by omega)
  have hb := szf_bd k (n + 1) (by omega) (by omega)
  refine reg_quiet 8 rfl (by kernel_rfl) rfl ?_
  apply Exists.intro
  refine ⟨fun w' hw' => ?_, ?_⟩
  · go_simp
    exact iha _ w' hb.1 hb.2
  have hb2 := szf_bd a _ hb.1 hb.2
  refine reg_quiet 9 rfl (by kernel_rfl) rfl ?_
  apply Exists.intro
  refine ⟨fun w' hw' => ?_, ?_⟩
  · go_simp
    exact ihx _ w' hb2.1 hb2.2
  refine reg_quiet 10 rfl (by kernel_rfl) rfl ?_
  apply Exists.intro
  refine ⟨fun w' hw' => ?_, ?_⟩
  · go_simp
    exact ⟨rfl, Ext.refl _⟩
  refine reg_done (by kernel_rfl) (fun w' hw' => ?_) _
  go_simp
  go_wp2
  go_ret
  exact ⟨by rw [H.out]; rfl, hE.trans hw'⟩

theorem size_any : ∀ t : Tm, SizeSaid t
  | .non => size_non
  | .atom m => size_atom m
  | .pub m => size_pub m
  | .shared m k => size_shared m k
  | .empty => size_empty
  | .chain i f x => size_chain i f x (size_any f) (size_any x)
  | .digest f x => size_digest f x (size_any f) (size_any x)
  | .box k m a x => size_box m k a x (size_any k) (size_any a) (size_any x)

theorem Size_any (t : Tm) (w : World) :
    Calls Try.prog 26 #[t.val] w fun e w' => e = .returned (.int .i64 (szf t 0)) ∧ Ext w w' := by
  go_enter Try.func26, Try.ntmps26
  go_wp2_with (go_at_call 34; refine (size_any t 0 _ (by omega) (by omega)).mono ?_; rintro e w' ⟨rfl, hE⟩)
  go_ret
  exact ⟨rfl, hE⟩

end Go.Proofs.Ytegmnbcfanjocaa
