/-
  Chapter 13's example (portholelaw13.known).
-/
import Derived.Test.YtegmnbcfanjocaaK9
import Derived.Test.YtegmnbcfanjocaaK11
import Derived.Test.YtegmnbcfanjocaaK14
import Derived.Test.YtegmnbcfanjocaaK2
namespace Go.Proofs.Ytegmnbcfanjocaa
open Go Go.RowKit Go.Maps
attribute [local go_sem] extUpon run_store_tm
attribute [local go_sem ↓] Tm.val_cell eval_put_ne eval_put_none eval_put_same size_put eval_const
attribute [local go_sem ↓] meth_Atom meth_Public meth_Shared meth_Chain meth_Digest meth_Box meth_Empty
attribute [local go_sem ↓] run_build_chain run_build_digest run_build_box
attribute [local go_sem] ta_Atom_Atom ta_Public_Atom ta_Shared_Atom ta_Chain_Atom ta_Digest_Atom ta_Box_Atom ta_Empty_Atom ta_Nil_Atom ta_Atom_Public ta_Public_Public ta_Shared_Public ta_Chain_Public ta_Digest_Public ta_Box_Public ta_Empty_Public ta_Nil_Public ta_Atom_Shared ta_Public_Shared ta_Shared_Shared ta_Chain_Shared ta_Digest_Shared ta_Box_Shared ta_Empty_Shared ta_Nil_Shared ta_Atom_Chain ta_Public_Chain ta_Shared_Chain ta_Chain_Chain ta_Digest_Chain ta_Box_Chain ta_Empty_Chain ta_Nil_Chain ta_Atom_Digest ta_Public_Digest ta_Shared_Digest ta_Chain_Digest ta_Digest_Digest ta_Box_Digest ta_Empty_Digest ta_Nil_Digest ta_Atom_Box ta_Public_Box ta_Shared_Box ta_Chain_Box ta_Digest_Box ta_Box_Box ta_Empty_Box ta_Nil_Box ta_Atom_Empty ta_Public_Empty ta_Shared_Empty ta_Chain_Empty ta_Digest_Empty ta_Box_Empty ta_Empty_Empty ta_Nil_Empty
variable {f : Int → List UInt8} {P : Int → Prop}

theorem see_said (N : Nums f P) (U : List (List UInt8)) (hUl : U.length ≤ 80000) (hUn : Univ f P U) : SeeSaid f P U :=
  fun t w k v h1 h2 h3 h4 h5 h6 h7 => see_any N U hUl hUn t w k v h1 h2 h3 h4 h5 h6 h7
theorem rd_new (W : World) (g : Nat) (cs : Array Value) (t : TypeId) (xs : List Value) (h : W.heap[g]? = some (.cells cs t (0, 0))) (hcs : cs.toList = xs) : Rd W (some ⟨g, 0, none⟩) xs := fun _ => by
  refine ⟨g, rfl, (Array.getElem?_eq_some_iff.1 h).1, fun i u hu => cell_blk h ?_⟩
  rw [← hcs] at hu
  simpa using hu

set_option maxHeartbeats 4000000 in
set_option maxRecDepth 100000 in
theorem known13 (N : Nums f P0) (w : World) (hI : Itoa w Small f) : Calls Try.prog 12 #[] w fun e w' => e = .returned (.bool true) ∧ Ext w w' := by
  have hsee := see_said N (U7 f) (by simp [U7]) (univ7 N)
  have hts : ∀ t ∈ seen7, Fine P0 t ∧ nm f t ∈ U7 f := by
    intro t ht
    simp only [seen7, List.mem_cons, List.not_mem_nil, or_false] at ht
    rcases ht with rfl | rfl
    · exact ⟨fine_p3, by simp [U7]⟩
    · exact ⟨fine_box7, by simp [U7]⟩
  have HSEE := hid hsee
  have HTS := hid hts
  have HI := hid hI
  have HN := hid N
  clear hsee hts hI N
  go_enter Try.func12, Try.ntmps12
  go_wp2_with fail
  have hE0 : Ext w ((w.alloc (.cells #[.iface 58 (.agg #[.int .i64 3]), .iface 39 (.agg #[.iface 61 (.agg #[.int .i64 3, .int .i64 5]), .int .i64 0, .iface 44 (.agg #[]), .iface 37 (.agg #[.int .i64 (-7)])])] 32 (0, 0))).alloc (.cells #[.int .i64 5] 3 (0, 0))) := (Ext.alloc _ _).trans (Ext.alloc _ _)
  have hR2 := rd_new _ (w.heap.size) _ _ (seen7.map Tm.val) ((Ext.alloc _ (.cells #[.int .i64 5] 3 (0, 0))).blk (blk_new w (.cells #[.iface 58 (.agg #[.int .i64 3]), .iface 39 (.agg #[.iface 61 (.agg #[.int .i64 3, .int .i64 5]), .int .i64 0, .iface 44 (.agg #[]), .iface 37 (.agg #[.int .i64 (-7)])])] 32 (0, 0)))) rfl
  have hR1 := rd_new _ (w.heap.size + 1) _ _ ([(5 : Int)].map fun n => .int .i64 n) (blk_at (w := w.alloc (.cells #[.iface 58 (.agg #[.int .i64 3]), .iface 39 (.agg #[.iface 61 (.agg #[.int .i64 3, .int .i64 5]), .int .i64 0, .iface 44 (.agg #[]), .iface 37 (.agg #[.int .i64 (-7)])])] 32 (0, 0))) (o := .cells #[.int .i64 5] 3 (0, 0)) (by simp)) rfl
  have HE := hid hE0
  have HR1 := hid hR1
  have HR2 := hid hR2
  clear hE0 hR1 hR2
  generalize World.alloc _ _ = W1 at *
  generalize w.heap.size + 1 = g1 at *
  generalize w.heap.size = g0 at *
  refine (new_any (f := f) (P := P0) (U7 f) HSEE.out W1 [5] seen7 _ _ 1 2 (HI.out.later HE.out) HR1.out HR2.out (by intro n hn; simp only [List.mem_singleton] at hn; subst hn; unfold IntOk; omega) (by decide) HTS.out (by decide)).mono ?_
  rintro e w2 ⟨k, v, rfl, ha⟩
  have HA := hid ha
  clear ha HR1
  go_wp2_with fail
  refine (new_any (f := f) (P := P0) (U7 f) HSEE.out w2 [] seen7 _ _ 0 2 (HI.out.later (HE.out.trans HA.out.ext)) (fun h => absurd h (by decide)) (HR2.out.later HA.out.ext) (by intro n hn; cases hn) (by decide) HTS.out (by decide)).mono ?_
  rintro e w3 ⟨k2, v2, rfl, hb⟩
  have HB := hid hb
  have HE3 := hid ((HE.out.trans HA.out.ext).trans hb.ext)
  have HKA := hid (HA.out.at_.later hb.ext)
  clear hb HR2 HE
  go_wp2_with fail
  have hca : can f v.x v.S (.atom (-7)) = true := known_a HA.out.cl (by simp [names, seen7]) (by rw [HA.out.x]; simp [secs])
  refine (can_any (.atom (-7)) w3 k v (HI.out.later HE3.out) HKA.out (by show Small (-7); unfold Small; omega) (by decide)).mono ?_
  rintro e w4 ⟨rfl, hE4⟩
  rw [hca]
  have HE4 := hid (HE3.out.trans hE4)
  have HKB := hid (HB.out.at_.later hE4)
  clear hE4 hca HKA HE3
  go_wp2_with fail
  have hcb : can f v2.x v2.S (.atom (-7)) = false := known_b HN.out HB.out.cl (fun s hs => by unfold names at hs; simpa [seen7] using hs) (fun n => by rw [HB.out.x]; simp [secs])
  refine (can_any (.atom (-7)) w4 k2 v2 (HI.out.later HE4.out) HKB.out (by show Small (-7); unfold Small; omega) (by decide)).mono ?_
  rintro e w5 ⟨rfl, hE5⟩
  rw [hcb]
  have HE5 := hid (HE4.out.trans hE5)
  clear hE5 hcb HKB HE4
  go_wp2_with fail
  go_ret
  exact ⟨rfl, HE5.out⟩

end Go.Proofs.Ytegmnbcfanjocaa
