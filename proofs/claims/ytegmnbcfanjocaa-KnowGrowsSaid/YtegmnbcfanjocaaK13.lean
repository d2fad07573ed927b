/-
  The names of what is known (know.Terms).
-/
import Derived.Test.YtegmnbcfanjocaaK7
namespace Go.Proofs.Ytegmnbcfanjocaa
open Go Go.RowKit Go.Maps
attribute [local go_sem] extUpon run_store_tm
attribute [local go_sem ↓] Tm.val_cell eval_put_ne eval_put_none eval_put_same size_put eval_const
variable {f : Int → List UInt8} {P : Int → Prop}

set_option maxHeartbeats 4000000 in
set_option maxRecDepth 100000 in
theorem terms_known (w : World) (k : KS) (v : KV) (hK : KAt f P w k v) (hm : v.m ≤ 100000) :
    Calls Try.prog 16 #[.pointer (some ⟨k.kb, 0, none⟩)] w fun e w' => (∃ a c, e = .returned (.slice a v.m c)) ∧ Ext w w' := by
  have hkey := keys_any hK.all hm
  have HK1 := hid hkey.1
  have HK2 := hid hkey.2
  have q2 := cell_blk (j := 2) hK.blk rfl
  clear hkey hK
  go_enter Try.func16, Try.ntmps16
  go_wp2_with fail
  refine HK1.out.mono ?_
  rintro e w1 ⟨rfl, rfl⟩
  go_wp2_with fail
  refine HK2.out.mono ?_
  rintro e w2 ⟨vv, ss, rfl, hss, hrow, hE2, hsn⟩
  obtain ⟨ra, rcap, rfl, hcells⟩ := row_cells hrow
  rw [hsn]
  clear hcells hrow hss
  go_wp2_with fail
  go_ret
  exact ⟨⟨_, _, rfl⟩, (Ext.alloc _ _).trans hE2⟩

end Go.Proofs.Ytegmnbcfanjocaa
