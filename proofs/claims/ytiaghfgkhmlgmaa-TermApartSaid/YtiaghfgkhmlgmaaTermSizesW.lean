/-
  The walk of TermSizes: a term's size is that of its parts and one.
-/
import Derived.Test.YtiaghfgkhmlgmaaSizes0
import Derived.Test.YtiaghfgkhmlgmaaKnown
import Derived.Test.YtiaghfgkhmlgmaaTerms
namespace Go.Proofs.Ytiaghfgkhmlgmaa
open Go Go.RowKit
attribute [local go_sem] extUpon run_store_tm
attribute [local go_sem ↓] Tm.val_cell eval_put_ne eval_put_none eval_put_same size_put eval_const
attribute [local go_sem ↓] meth_Atom meth_Public meth_Shared meth_Chain meth_Digest meth_Box meth_Empty
attribute [local go_sem ↓] run_build_chain run_build_digest run_build_box
attribute [local go_sem] ta_Atom_Atom ta_Public_Atom ta_Shared_Atom ta_Chain_Atom ta_Digest_Atom ta_Box_Atom ta_Empty_Atom ta_Nil_Atom ta_Atom_Public ta_Public_Public ta_Shared_Public ta_Chain_Public ta_Digest_Public ta_Box_Public ta_Empty_Public ta_Nil_Public ta_Atom_Shared ta_Public_Shared ta_Shared_Shared ta_Chain_Shared ta_Digest_Shared ta_Box_Shared ta_Empty_Shared ta_Nil_Shared ta_Atom_Chain ta_Public_Chain ta_Shared_Chain ta_Chain_Chain ta_Digest_Chain ta_Box_Chain ta_Empty_Chain ta_Nil_Chain ta_Atom_Digest ta_Public_Digest ta_Shared_Digest ta_Chain_Digest ta_Digest_Digest ta_Box_Digest ta_Empty_Digest ta_Nil_Digest ta_Atom_Box ta_Public_Box ta_Shared_Box ta_Chain_Box ta_Digest_Box ta_Box_Box ta_Empty_Box ta_Nil_Box ta_Atom_Empty ta_Public_Empty ta_Shared_Empty ta_Chain_Empty ta_Digest_Empty ta_Box_Empty ta_Empty_Empty ta_Nil_Empty

theorem idx_of (a : Int) (n : Nat) (h : 0 < n) : ∃ i : Nat, a % (n : Int) = i ∧ i < n := by
  have h1 := Int.emod_nonneg a (b := n) (by omega)
  have h2 := Int.emod_lt_of_pos a (b := n) (by omega)
  exact ⟨(a % n).toNat, by omega, by omega⟩

/-- The size of a value that is a term's. -/
theorem size_val {v : Value} {t : Tm} {n : Int} (hv : t.val = v) (hn : szf t 0 = n) (w : World) :
    Calls Try.prog 15 #[v] w fun e w' => e = .returned (.int .i64 n) ∧ Ext w w' := by
  subst hv hn; exact Size_any t w

set_option maxHeartbeats 2000000 in
set_option maxRecDepth 100000 in
theorem TermSizes_walk (av : Option Addr) (cap : Nat) (l : List Raw) (a b c : Int) (w : World) (hl : l.length ≤ 9223372036854775807) (hr : RawAt w av l) :
    Calls Try.prog 5 #[.slice av l.length cap, .int .i64 a, .int .i64 b, .int .i64 c] w fun e w' => e = .returned (.bool true) ∧ Ext w w' := by
  have HT := hid (Terms_any av cap l w hl hr)
  obtain ⟨hn0, hn1⟩ := terms_len l
  have hne := terms_ne l
  have hsz := terms_sz l
  clear hr hl
  generalize terms l = ts at *
  obtain ⟨i, hi, hi'⟩ := idx_of a ts.length hn0
  obtain ⟨j, hj, hj'⟩ := idx_of b ts.length hn0
  obtain ⟨k, hk, hk'⟩ := idx_of c ts.length hn0
  have hx := hne _ (List.getElem_mem hi'); have hy := hne _ (List.getElem_mem hj'); have hz := hne _ (List.getElem_mem hk')
  have sx := hsz _ (List.getElem_mem hi'); have sy := hsz _ (List.getElem_mem hj'); have szz := hsz _ (List.getElem_mem hk')
  have hgx : ts[i]? = some ts[i] := List.getElem?_eq_getElem hi'
  have hgy : ts[j]? = some ts[j] := List.getElem?_eq_getElem hj'
  have hgz : ts[k]? = some ts[k] := List.getElem?_eq_getElem hk'
  generalize ts[i] = x at *
  generalize ts[j] = y at *
  generalize ts[k] = z at *
  have px := sz_pos x; have py := sz_pos y; have pz := sz_pos z
  obtain ⟨ux, vx, hvx⟩ := Tm.val_iface hx
  obtain ⟨uy, vy, hvy⟩ := Tm.val_iface hy
  obtain ⟨uz, vz, hvz⟩ := Tm.val_iface hz
  have Sx := hid (size_val hvx (szf_small (t := x) (by omega)))
  have Sy := hid (size_val hvy (szf_small (t := y) (by omega)))
  have Sz := hid (size_val hvz (szf_small (t := z) (by omega)))
  have Sc := hid (size_val (t := .chain 0 x y) (v := .iface 29 (.agg #[.int .i64 0, .iface ux vx, .iface uy vy])) (n := sz x + sz y + 1) (by simp [Tm.val, hvx, hvy]) (by rw [szf_small (by simp only [sz]; omega)]; simp only [sz]; omega))
  have Sd := hid (size_val (t := .digest x y) (v := .iface 31 (.agg #[.iface ux vx, .iface uy vy])) (n := sz x + sz y + 1) (by simp [Tm.val, hvx, hvy]) (by rw [szf_small (by simp only [sz]; omega)]; simp only [sz]; omega))
  have Sb := hid (size_val (t := .box x 0 y z) (v := .iface 33 (.agg #[.iface ux vx, .int .i64 0, .iface uy vy, .iface uz vz])) (n := sz x + sz y + sz z + 1) (by simp [Tm.val, hvx, hvy, hvz]) (by rw [szf_small (by simp only [sz]; omega)]; simp only [sz]; omega))
  have HI := hid hi; have HJ := hid hj; have HK := hid hk
  have HGX := hid hgx; have HGY := hid hgy; have HGZ := hid hgz
  have HVX := hid hvx; have HVY := hid hvy; have HVZ := hid hvz
  clear hi hj hk hgx hgy hgz hvx hvy hvz hx hy hz hne hsz
  generalize sz x = ax at *
  generalize sz y = ay at *
  generalize sz z = az at *
  go_enter Try.func5, Try.ntmps5
  go_wp2_with fail
  refine HT.out.mono ?_
  rintro e w1 ⟨v, rfl, hown, hE1⟩
  obtain ⟨g, cap2, hv, hg⟩ := hown.form hn0
  subst hv
  have cx : w1.cell? ⟨g, i, none⟩ = some (.iface ux vx) := own_ints_at hown i hi' _ (by simp [HGX.out, HVX.out])
  have cy : w1.cell? ⟨g, j, none⟩ = some (.iface uy vy) := own_ints_at hown j hj' _ (by simp [HGY.out, HVY.out])
  have cz : w1.cell? ⟨g, k, none⟩ = some (.iface uz vz) := own_ints_at hown k hk' _ (by simp [HGZ.out, HVZ.out])
  have HE1 := hid hE1
  clear hown hg hE1 HT
  have ii : (i : Int) < (ts.length : Int) := by omega
  have jj : (j : Int) < (ts.length : Int) := by omega
  have kk : (k : Int) < (ts.length : Int) := by omega
  generalize ts.length = n at *
  go_wp2_with fail
  refine (pick_any _ _ _ (by omega) (by omega)).mono ?_
  rintro e w' ⟨rfl, rfl⟩
  rw [HI.out]
  go_wp2_with fail
  refine (pick_any _ _ _ (by omega) (by omega)).mono ?_
  rintro e w' ⟨rfl, rfl⟩
  rw [HJ.out]
  go_wp2_with fail
  refine (pick_any _ _ _ (by omega) (by omega)).mono ?_
  rintro e w' ⟨rfl, rfl⟩
  rw [HK.out]
  go_wp2_with fail
  refine (known12 _).mono ?_
  rintro e w' ⟨rfl, hE2⟩
  have HE2 := hid hE2; clear hE2
  go_wp2_with fail
  refine (Sc.out _).mono ?_
  rintro e w' ⟨rfl, hE3⟩
  have HE3 := hid hE3; clear hE3
  go_wp2_with fail
  refine (Sx.out _).mono ?_
  rintro e w' ⟨rfl, hE4⟩
  have HE4 := hid hE4; clear hE4
  go_wp2_with fail
  refine (Sy.out _).mono ?_
  rintro e w' ⟨rfl, hE5⟩
  have HE5 := hid hE5; clear hE5
  go_wp2_with fail
  refine (Sd.out _).mono ?_
  rintro e w' ⟨rfl, hE6⟩
  have HE6 := hid hE6; clear hE6
  go_wp2_with fail
  refine (Sx.out _).mono ?_
  rintro e w' ⟨rfl, hE7⟩
  have HE7 := hid hE7; clear hE7
  go_wp2_with fail
  refine (Sy.out _).mono ?_
  rintro e w' ⟨rfl, hE8⟩
  have HE8 := hid hE8; clear hE8
  go_wp2_with fail
  refine (Sb.out _).mono ?_
  rintro e w' ⟨rfl, hE9⟩
  have HE9 := hid hE9; clear hE9
  go_wp2_with fail
  refine (Sx.out _).mono ?_
  rintro e w' ⟨rfl, hE10⟩
  have HE10 := hid hE10; clear hE10
  go_wp2_with fail
  refine (Sy.out _).mono ?_
  rintro e w' ⟨rfl, hE11⟩
  have HE11 := hid hE11; clear hE11
  go_wp2_with fail
  refine (Sz.out _).mono ?_
  rintro e w' ⟨rfl, hE12⟩
  have HE12 := hid hE12; clear hE12
  go_wp2_with fail
  go_ret
  exact ⟨rfl, (((((((((((HE1.out.trans HE2.out).trans HE3.out).trans HE4.out).trans HE5.out).trans HE6.out).trans HE7.out).trans HE8.out).trans HE9.out).trans HE10.out).trans HE11.out).trans HE12.out)⟩

end Go.Proofs.Ytiaghfgkhmlgmaa
