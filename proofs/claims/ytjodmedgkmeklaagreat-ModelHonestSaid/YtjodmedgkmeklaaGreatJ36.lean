/-
  Texts merged: Q46A.
-/
import Derived.Deep.DeepCutAuto
import Derived.Test.YtjodmedgkmeklaaGreatJ35
/-
  One round of play, kind by kind.
-/
namespace Go.Proofs.YtjodmedgkmeklaaGreat
open Go Go.RowKit Go.Maps
attribute [local go_sem] extUpon run_store_tm
attribute [local go_sem ↓] Tm.val_cell eval_put_ne eval_put_none eval_put_same size_put eval_const
attribute [local go_sem ↓] meth_Atom meth_Public meth_Shared meth_Chain meth_Digest meth_Box meth_Empty
attribute [local go_sem ↓] run_build_chain run_build_digest run_build_box
attribute [local go_sem] ta_Atom_Atom ta_Public_Atom ta_Shared_Atom ta_Chain_Atom ta_Digest_Atom ta_Box_Atom ta_Empty_Atom ta_Nil_Atom ta_Atom_Public ta_Public_Public ta_Shared_Public ta_Chain_Public ta_Digest_Public ta_Box_Public ta_Empty_Public ta_Nil_Public ta_Atom_Shared ta_Public_Shared ta_Shared_Shared ta_Chain_Shared ta_Digest_Shared ta_Box_Shared ta_Empty_Shared ta_Nil_Shared ta_Atom_Chain ta_Public_Chain ta_Shared_Chain ta_Chain_Chain ta_Digest_Chain ta_Box_Chain ta_Empty_Chain ta_Nil_Chain ta_Atom_Digest ta_Public_Digest ta_Shared_Digest ta_Chain_Digest ta_Digest_Digest ta_Box_Digest ta_Empty_Digest ta_Nil_Digest ta_Atom_Box ta_Public_Box ta_Shared_Box ta_Chain_Box ta_Digest_Box ta_Box_Box ta_Empty_Box ta_Nil_Box ta_Atom_Empty ta_Public_Empty ta_Shared_Empty ta_Chain_Empty ta_Digest_Empty ta_Box_Empty ta_Empty_Empty ta_Nil_Empty
variable {f : Int → List UInt8} {P : Int → Prop} {w0 w W W2 W3 : World} {μ μ2 : MS} {c d wb : Nat} {B : Int} {F : Nat → Prop}

theorem rd_new (W : World) (g : Nat) (cs : Array Value) (t : TypeId) (xs : List Value) (h : W.heap[g]? = some (.cells cs t (0, 0))) (hcs : cs.toList = xs) : Rd W (some ⟨g, 0, none⟩) xs := fun _ => by
  refine ⟨g, rfl, (Array.getElem?_eq_some_iff.1 h).1, fun i u hu => cell_blk h ?_⟩
  rw [← hcs] at hu
  simpa using hu
theorem shake1_statics (k : Nat) (a b : Int) : (μ.shake1 f P k a b).1.statics = μ.statics := by
  unfold MS.shake1
  split
  · exact (play_rows _ _ _ _).2
  · exact (play_rows _ _ _ _).2.trans (play_rows _ _ _ _).2
theorem shk_statics (a b : Int) : ∀ (r : Nat) {μ : MS}, (μ.shk f P a b r).1.statics = μ.statics
  | 0, _ => rfl
  | r + 1, μ => by
    rw [shk_succ]
    generalize hs : μ.shake1 f P (shN (2 - r)) (if r = 1 then b else a) (if r = 1 then a else b) = res
    have h1 : res.1.statics = μ.statics := by rw [← hs]; exact shake1_statics _ _ _
    by_cases hb : res.2 = true
    · rw [if_pos hb]; exact (shk_statics a b r).trans h1
    · rw [if_neg hb]; exact h1
theorem intOk_small {n : Int} (h : -1000000 ≤ n ∧ n ≤ 1000000) : IntOk n := by unfold IntOk; omega
/-- A world that play leaves. -/
structure PlayW (f : Int → List UInt8) (P : Int → Prop) (w w' : World) (wb : Nat) (μ : MS) : Prop where
  wd : ∃ w1, Ext w w1 ∧ Wd f P 60 60 59 (fun _ => False) w1 w' wb μ
  st : μ.statics = [1, 2, 3, 4]


theorem play_n (N : Nums f P) (hP : ∀ n, P1 n → P n) (hI : Itoa w0 Small f) (h : Wd f P c d B F w0 W wb μ) {kind a b e : Int} (hk : 1 ≤ kind ∧ kind ≤ 12) (hk4 : kind ≠ 4) (hk5 : kind ≠ 5) (hao : -1000000 ≤ a ∧ a ≤ 1000000) (he : -1000000 ≤ e ∧ e ≤ 1000000) (hc : c ≤ 98) (hd : d ≤ 900) (h0 : 0 ≤ B) (h9 : B ≤ 999) :
    Calls Tryz.prog 16 #[ptr wb, .agg #[.int .i64 kind, .int .i64 a, .int .i64 b, .int .i64 e]] W fun r w' => r = .returned (.int .i64 (μ.play f P kind a b e).2) ∧ Wd f P c d B F w0 w' wb (μ.play f P kind a b e).1 ∧ ∀ b, F b → w'.heap[b]? = W.heap[b]? := by
  have := play_w N hP hI h hk (intOk_small hao) he (b := b) (fun h => absurd h hk4) hc hd h0 h9
  rwa [if_neg hk4, if_neg hk5] at this
theorem play_4 (N : Nums f P) (hP : ∀ n, P1 n → P n) (hI : Itoa w0 Small f) (h : Wd f P c d B F w0 W wb μ) {a b e : Int} (hao : -1000000 ≤ a ∧ a ≤ 1000000) (hb : b ≤ B) (he : -1000000 ≤ e ∧ e ≤ 1000000) (hc : c ≤ 98) (hd : d ≤ 900) (h0 : 0 ≤ B) (h9 : B ≤ 999) :
    Calls Tryz.prog 16 #[ptr wb, .agg #[.int .i64 4, .int .i64 a, .int .i64 b, .int .i64 e]] W fun r w' => r = .returned (.int .i64 (μ.play f P 4 a b e).2) ∧ Wd f P (c + 1) d B F w0 w' wb (μ.play f P 4 a b e).1 ∧ ∀ b, F b → w'.heap[b]? = W.heap[b]? := by
  have := play_w N hP hI h (kind := 4) (by omega) (intOk_small hao) he (b := b) (fun _ => hb) hc hd h0 h9
  rwa [if_pos rfl, if_neg (by omega)] at this
theorem play_5 (N : Nums f P) (hP : ∀ n, P1 n → P n) (hI : Itoa w0 Small f) (h : Wd f P c d B F w0 W wb μ) {a b e : Int} (hao : -1000000 ≤ a ∧ a ≤ 1000000) (he : -1000000 ≤ e ∧ e ≤ 1000000) (hc : c ≤ 98) (hd : d ≤ 900) (h0 : 0 ≤ B) (h9 : B ≤ 999) :
    Calls Tryz.prog 16 #[ptr wb, .agg #[.int .i64 5, .int .i64 a, .int .i64 b, .int .i64 e]] W fun r w' => r = .returned (.int .i64 (μ.play f P 5 a b e).2) ∧ Wd f P c (d + 1) B F w0 w' wb (μ.play f P 5 a b e).1 ∧ ∀ b, F b → w'.heap[b]? = W.heap[b]? := by
  have := play_w N hP hI h (kind := 5) (by omega) (intOk_small hao) he (b := b) (fun h => absurd h (by omega)) hc hd h0 h9
  rwa [if_neg (by omega), if_pos rfl] at this
theorem Wd.pool0 (h : Wd f P c d B F w0 W wb μ) : 0 < μ.pool.length := by
  obtain ⟨own, m, v, h1, h2, h3, h4, h5, h6, h7, h8⟩ := h
  exact h7
theorem emod_in (n : Int) {m : Int} (hm : 0 < m) : 0 ≤ n % m ∧ n % m < m := ⟨Int.emod_nonneg _ (by omega), Int.emod_lt_of_pos _ hm⟩
/-- The code of block 2 out of a piece of code. -/
def blockOf (n : Nat) : Code → Option Code
  | .block m c => if m = n then some (.block m c) else blockOf n c
  | .seq a b => match blockOf n a with
    | some c => some c
    | none => blockOf n b
  | .loop c => blockOf n c
  | .scope c => blockOf n c
  | .cond _ a b => match blockOf n a with
    | some c => some c
    | none => blockOf n b
  | _ => none
noncomputable def switchCode : Code := ((Tryz.f11.body.bind (blockOf 2)).getD .skip)

set_option maxHeartbeats 16000000 in
set_option maxRecDepth 1000000 in
theorem play_arm0 (Q : Exit → Act → World → Prop) (w1 W3 : World) (wb i p ls sc : Nat) (sa : Option Addr) (μ : MS) (last rk rn ra rb rc : Int) (v0 v1 v2 v8 v9 v10 v11 v12 v13 v14 v15 v16 v17 v18 v19 v20 v21 v22 v23 v24 v25 v26 v27 v28 v29 v30 v31 v32 v33 v34 v35 v36 v38 v39 v40 v41 v42 v43 v44 v45 v46 v47 v48 v49 v50 v51 v52 v53 v54 v55 v56 v57 v58 v59 v60 v61 v62 v63 v64 v65 v66 v67 v68 v69 v70 v71 v72 v73 v74 v75 v76 v77 v78 v79 v80 v81 v82 v83 v84 v85 v86 v87 v88 v89 v90 v91 v92 v93 v94 v95 v96 v97 v98 v99 v100 v101 v102 v103 v104 v105 v106 v107 v108 v109 v110 v111 v112 v113 v114 v115 v116 v117 v118 v119 v120 v121 v122 v123 v124 v125 v126 v127 v128 v129 v130 v131 v132 v133 v134 v135 v136 v137 v138 v139 v140 v141 v142 v143 v144 v145 v146 v147 v148 v149 v150 v151 v152 v153 v154 v155 v156 v157 v158 v159 v160 v161 v162 v163 v164 v165 v166 v167 v168 v169 v170 v171 v172 v173 v174 v175 v176 v177 v178 v179 v180 v181 v182 v183 v184 v185 v186 v187 v188 : Value)
    (HN : Hid (Nums f P)) (HP : Hid (∀ n, P1 n → P n)) (HI : Hid (Itoa w1 Small f)) (HW : Hid (Wd f P i i 59 (fun b => b = p) w1 W3 wb μ)) (HPB : Hid (W3.heap[p]? = some (.cells #[.int .i64 rk, .int .i64 rn, .int .i64 ra, .int .i64 rb, .int .i64 rc] 57 (0, 0))))
    (HST : Hid (μ.statics = [1, 2, 3, 4])) (hlast : 0 ≤ last ∧ last ≤ 300) (_ : ls ≤ 12) (h60 : i < 60)
    (hexit : ∀ (y8 y9 y10 y11 y12 y13 y14 y38 y39 y40 y41 y42 y43 y44 y45 y46 y47 y48 y49 y50 y51 y52 y53 y54 y55 y56 y57 y58 y59 y60 y61 y62 y63 y64 y65 y66 y67 y68 y69 y70 y71 y72 y73 y74 y75 y76 y77 y78 y79 y80 y81 y82 y83 y84 y85 y86 y87 y88 y89 y90 y91 y92 y93 y94 y95 y96 y97 y98 y99 y100 y101 y102 y103 y104 y105 y106 y107 y108 y109 y110 y111 y112 y113 y114 y115 y116 y117 y118 y119 y120 y121 y122 y123 y124 y125 y126 y127 y128 y129 y130 y131 y132 y133 y134 y135 y136 y137 y138 y139 y140 y141 y142 y143 y144 y145 y146 y147 y148 y149 y150 y151 y152 y153 y154 y155 y156 y157 y158 y159 y160 y161 y162 y163 y164 y165 y166 y167 y168 y169 y170 y171 y172 y173 y174 y175 y176 y177 y178 y179 y180 y181 y182 y183 y184 y185 y186 y187 : Value) (last2 : Int) (w' : World) (μ2 : MS), 0 ≤ last2 ∧ last2 ≤ 300 → Hid (Wd f P (i + 1) (i + 1) 59 (fun _ => False) w1 w' wb μ2) → Hid (μ2.statics = [1, 2, 3, 4]) → Q .normal ⟨#[v0, v1, v2, ptr wb, .int .i64 last2, .int .i64 (i : Int), .pointer (some ⟨p, 0, none⟩), .slice sa ls sc, y8, y9, y10, y11, y12, y13, y14, v15, v16, v17, v18, v19, v20, v21, v22, v23, v24, v25, v26, v27, v28, v29, v30, v31, v32, v33, v34, v35, v36, .int .i64 0, y38, y39, y40, y41, y42, y43, y44, y45, y46, y47, y48, y49, y50, y51, y52, y53, y54, y55, y56, y57, y58, y59, y60, y61, y62, y63, y64, y65, y66, y67, y68, y69, y70, y71, y72, y73, y74, y75, y76, y77, y78, y79, y80, y81, y82, y83, y84, y85, y86, y87, y88, y89, y90, y91, y92, y93, y94, y95, y96, y97, y98, y99, y100, y101, y102, y103, y104, y105, y106, y107, y108, y109, y110, y111, y112, y113, y114, y115, y116, y117, y118, y119, y120, y121, y122, y123, y124, y125, y126, y127, y128, y129, y130, y131, y132, y133, y134, y135, y136, y137, y138, y139, y140, y141, y142, y143, y144, y145, y146, y147, y148, y149, y150, y151, y152, y153, y154, y155, y156, y157, y158, y159, y160, y161, y162, y163, y164, y165, y166, y167, y168, y169, y170, y171, y172, y173, y174, y175, y176, y177, y178, y179, y180, y181, y182, y183, y184, y185, y186, y187, v188], []⟩ w') :
    Code.wp Tryz.prog switchCode Q ⟨#[v0, v1, v2, ptr wb, .int .i64 last, .int .i64 (i : Int), .pointer (some ⟨p, 0, none⟩), .slice sa ls sc, v8, v9, v10, v11, v12, v13, v14, v15, v16, v17, v18, v19, v20, v21, v22, v23, v24, v25, v26, v27, v28, v29, v30, v31, v32, v33, v34, v35, v36, .int .i64 0, v38, v39, v40, v41, v42, v43, v44, v45, v46, v47, v48, v49, v50, v51, v52, v53, v54, v55, v56, v57, v58, v59, v60, v61, v62, v63, v64, v65, v66, v67, v68, v69, v70, v71, v72, v73, v74, v75, v76, v77, v78, v79, v80, v81, v82, v83, v84, v85, v86, v87, v88, v89, v90, v91, v92, v93, v94, v95, v96, v97, v98, v99, v100, v101, v102, v103, v104, v105, v106, v107, v108, v109, v110, v111, v112, v113, v114, v115, v116, v117, v118, v119, v120, v121, v122, v123, v124, v125, v126, v127, v128, v129, v130, v131, v132, v133, v134, v135, v136, v137, v138, v139, v140, v141, v142, v143, v144, v145, v146, v147, v148, v149, v150, v151, v152, v153, v154, v155, v156, v157, v158, v159, v160, v161, v162, v163, v164, v165, v166, v167, v168, v169, v170, v171, v172, v173, v174, v175, v176, v177, v178, v179, v180, v181, v182, v183, v184, v185, v186, v187, v188], []⟩ W3 := by
  have x2 : W3.cell? ⟨p, 2, none⟩ = some (.int .i64 ra) := cell_blk HPB.out rfl
  have x3 : W3.cell? ⟨p, 3, none⟩ = some (.int .i64 rb) := cell_blk HPB.out rfl
  have x4 : W3.cell? ⟨p, 4, none⟩ = some (.int .i64 rc) := cell_blk HPB.out rfl
  conv => arg 2; whnf
  go_wp2_with fail
  refine (pick_any ra 4 _ (by omega) (by omega)).mono ?_
  rintro e wx ⟨rfl, rfl⟩
  have hwr1 : IntKind.i64.wrap (1 + ra % 4) = 1 + ra % 4 := by rw [IntKind.wrap_i64]; omega
  have hwr2 : IntKind.i64.wrap (1 + rb % 4) = 1 + rb % 4 := by rw [IntKind.wrap_i64]; omega
  go_wp2_with fail
  have hplay := play_n HN.out HP.out HI.out HW.out (kind := 1) (a := 1) (b := 1 + ra % 4) (e := 0) (by omega) (by omega) (by omega) (by omega) (by omega) (by omega) (by omega) (by omega) (by omega)
  have hpst := (play_rows (f := f) (P := P) (μ := μ) 1 (1) (1 + ra % 4) (0)).2
  generalize hres : MS.play f P μ 1 (1) (1 + ra % 4) (0) = resA at *
  refine hplay.mono ?_
  rintro e w4 ⟨rfl, hwA, hfrA⟩
  have HWA := hid hwA
  have HPBA := hid ((hfrA p rfl).trans HPB.out)
  have HSTA : Hid (resA.1.statics = [1, 2, 3, 4]) := hid (hpst.trans HST.out)
  clear hres hplay hpst hwA hfrA
  clear x2 x3 x4
  have x3 : w4.cell? ⟨p, 3, none⟩ = some (.int .i64 rb) := cell_blk HPBA.out rfl
  go_wp2_with fail
  refine (pick_any rb 4 _ (by omega) (by omega)).mono ?_
  rintro e wx ⟨rfl, rfl⟩
  go_wp2_with fail
  have hplay := play_n HN.out HP.out HI.out HWA.out (kind := 1) (a := 0) (b := 1 + rb % 4) (e := 0) (by omega) (by omega) (by omega) (by omega) (by omega) (by omega) (by omega) (by omega) (by omega)
  have hpst := (play_rows (f := f) (P := P) (μ := resA.1) 1 (0) (1 + rb % 4) (0)).2
  generalize hres : MS.play f P resA.1 1 (0) (1 + rb % 4) (0) = resB at *
  refine hplay.mono ?_
  rintro e w5 ⟨rfl, hwB, hfrB⟩
  have HWB := hid hwB
  have HPBB := hid ((hfrB p rfl).trans HPBA.out)
  have HSTB : Hid (resB.1.statics = [1, 2, 3, 4]) := hid (hpst.trans HSTA.out)
  clear hres hplay hpst hwB hfrB
  go_wp2_with fail
  exact hexit _ _ _ _ _ _ _ _ _ _ _ _ _ _ _ _ _ _ _ _ _ _ _ _ _ _ _ _ _ _ _ _ _ _ _ _ _ _ _ _ _ _ _ _ _ _ _ _ _ _ _ _ _ _ _ _ _ _ _ _ _ _ _ _ _ _ _ _ _ _ _ _ _ _ _ _ _ _ _ _ _ _ _ _ _ _ _ _ _ _ _ _ _ _ _ _ _ _ _ _ _ _ _ _ _ _ _ _ _ _ _ _ _ _ _ _ _ _ _ _ _ _ _ _ _ _ _ _ _ _ _ _ _ _ _ _ _ _ _ _ _ _ _ _ _ _ _ _ _ _ _ _ _ _ _ _ _ _ _ resB.1 (by omega) (hid ((HWB.out.mono (by omega) (by omega) (by omega)).less (fun b hb => False.elim hb))) HSTB

set_option maxHeartbeats 16000000 in
set_option maxRecDepth 1000000 in
theorem play_arm1 (Q : Exit → Act → World → Prop) (w1 W3 : World) (wb i p ls sc : Nat) (sa : Option Addr) (μ : MS) (last rk rn ra rb rc : Int) (v0 v1 v2 v8 v9 v10 v11 v12 v13 v14 v15 v16 v17 v18 v19 v20 v21 v22 v23 v24 v25 v26 v27 v28 v29 v30 v31 v32 v33 v34 v35 v36 v38 v39 v40 v41 v42 v43 v44 v45 v46 v47 v48 v49 v50 v51 v52 v53 v54 v55 v56 v57 v58 v59 v60 v61 v62 v63 v64 v65 v66 v67 v68 v69 v70 v71 v72 v73 v74 v75 v76 v77 v78 v79 v80 v81 v82 v83 v84 v85 v86 v87 v88 v89 v90 v91 v92 v93 v94 v95 v96 v97 v98 v99 v100 v101 v102 v103 v104 v105 v106 v107 v108 v109 v110 v111 v112 v113 v114 v115 v116 v117 v118 v119 v120 v121 v122 v123 v124 v125 v126 v127 v128 v129 v130 v131 v132 v133 v134 v135 v136 v137 v138 v139 v140 v141 v142 v143 v144 v145 v146 v147 v148 v149 v150 v151 v152 v153 v154 v155 v156 v157 v158 v159 v160 v161 v162 v163 v164 v165 v166 v167 v168 v169 v170 v171 v172 v173 v174 v175 v176 v177 v178 v179 v180 v181 v182 v183 v184 v185 v186 v187 v188 : Value)
    (HN : Hid (Nums f P)) (HP : Hid (∀ n, P1 n → P n)) (HI : Hid (Itoa w1 Small f)) (HW : Hid (Wd f P i i 59 (fun b => b = p) w1 W3 wb μ)) (HPB : Hid (W3.heap[p]? = some (.cells #[.int .i64 rk, .int .i64 rn, .int .i64 ra, .int .i64 rb, .int .i64 rc] 57 (0, 0))))
    (HST : Hid (μ.statics = [1, 2, 3, 4])) (hlast : 0 ≤ last ∧ last ≤ 300) (hls : ls ≤ 12) (h60 : i < 60)
    (hexit : ∀ (y8 y9 y10 y11 y12 y13 y14 y38 y39 y40 y41 y42 y43 y44 y45 y46 y47 y48 y49 y50 y51 y52 y53 y54 y55 y56 y57 y58 y59 y60 y61 y62 y63 y64 y65 y66 y67 y68 y69 y70 y71 y72 y73 y74 y75 y76 y77 y78 y79 y80 y81 y82 y83 y84 y85 y86 y87 y88 y89 y90 y91 y92 y93 y94 y95 y96 y97 y98 y99 y100 y101 y102 y103 y104 y105 y106 y107 y108 y109 y110 y111 y112 y113 y114 y115 y116 y117 y118 y119 y120 y121 y122 y123 y124 y125 y126 y127 y128 y129 y130 y131 y132 y133 y134 y135 y136 y137 y138 y139 y140 y141 y142 y143 y144 y145 y146 y147 y148 y149 y150 y151 y152 y153 y154 y155 y156 y157 y158 y159 y160 y161 y162 y163 y164 y165 y166 y167 y168 y169 y170 y171 y172 y173 y174 y175 y176 y177 y178 y179 y180 y181 y182 y183 y184 y185 y186 y187 : Value) (last2 : Int) (w' : World) (μ2 : MS), 0 ≤ last2 ∧ last2 ≤ 300 → Hid (Wd f P (i + 1) (i + 1) 59 (fun _ => False) w1 w' wb μ2) → Hid (μ2.statics = [1, 2, 3, 4]) → Q .normal ⟨#[v0, v1, v2, ptr wb, .int .i64 last2, .int .i64 (i : Int), .pointer (some ⟨p, 0, none⟩), .slice sa ls sc, y8, y9, y10, y11, y12, y13, y14, v15, v16, v17, v18, v19, v20, v21, v22, v23, v24, v25, v26, v27, v28, v29, v30, v31, v32, v33, v34, v35, v36, .int .i64 1, y38, y39, y40, y41, y42, y43, y44, y45, y46, y47, y48, y49, y50, y51, y52, y53, y54, y55, y56, y57, y58, y59, y60, y61, y62, y63, y64, y65, y66, y67, y68, y69, y70, y71, y72, y73, y74, y75, y76, y77, y78, y79, y80, y81, y82, y83, y84, y85, y86, y87, y88, y89, y90, y91, y92, y93, y94, y95, y96, y97, y98, y99, y100, y101, y102, y103, y104, y105, y106, y107, y108, y109, y110, y111, y112, y113, y114, y115, y116, y117, y118, y119, y120, y121, y122, y123, y124, y125, y126, y127, y128, y129, y130, y131, y132, y133, y134, y135, y136, y137, y138, y139, y140, y141, y142, y143, y144, y145, y146, y147, y148, y149, y150, y151, y152, y153, y154, y155, y156, y157, y158, y159, y160, y161, y162, y163, y164, y165, y166, y167, y168, y169, y170, y171, y172, y173, y174, y175, y176, y177, y178, y179, y180, y181, y182, y183, y184, y185, y186, y187, v188], []⟩ w') :
    Code.wp Tryz.prog switchCode Q ⟨#[v0, v1, v2, ptr wb, .int .i64 last, .int .i64 (i : Int), .pointer (some ⟨p, 0, none⟩), .slice sa ls sc, v8, v9, v10, v11, v12, v13, v14, v15, v16, v17, v18, v19, v20, v21, v22, v23, v24, v25, v26, v27, v28, v29, v30, v31, v32, v33, v34, v35, v36, .int .i64 1, v38, v39, v40, v41, v42, v43, v44, v45, v46, v47, v48, v49, v50, v51, v52, v53, v54, v55, v56, v57, v58, v59, v60, v61, v62, v63, v64, v65, v66, v67, v68, v69, v70, v71, v72, v73, v74, v75, v76, v77, v78, v79, v80, v81, v82, v83, v84, v85, v86, v87, v88, v89, v90, v91, v92, v93, v94, v95, v96, v97, v98, v99, v100, v101, v102, v103, v104, v105, v106, v107, v108, v109, v110, v111, v112, v113, v114, v115, v116, v117, v118, v119, v120, v121, v122, v123, v124, v125, v126, v127, v128, v129, v130, v131, v132, v133, v134, v135, v136, v137, v138, v139, v140, v141, v142, v143, v144, v145, v146, v147, v148, v149, v150, v151, v152, v153, v154, v155, v156, v157, v158, v159, v160, v161, v162, v163, v164, v165, v166, v167, v168, v169, v170, v171, v172, v173, v174, v175, v176, v177, v178, v179, v180, v181, v182, v183, v184, v185, v186, v187, v188], []⟩ W3 := by
  have x2 : W3.cell? ⟨p, 2, none⟩ = some (.int .i64 ra) := cell_blk HPB.out rfl
  have x3 : W3.cell? ⟨p, 3, none⟩ = some (.int .i64 rb) := cell_blk HPB.out rfl
  have x4 : W3.cell? ⟨p, 4, none⟩ = some (.int .i64 rc) := cell_blk HPB.out rfl
  conv => arg 2; whnf
  by_cases hs0 : 0 < ls
  ·
    have hgt : (0 : Int) < (ls : Int) := by omega
    go_wp2_with fail
    refine (pool_w HW.out).mono ?_
    rintro e w4 ⟨paA, pcA, rfl, _, hEA⟩
    have HWA := hid (HW.out.later hEA)
    have HPBA := hid (hEA.blk HPB.out)
    have hplA := HW.out.pool.few
    have hpl0A := HW.out.pool0
    clear hEA
    generalize hpnA : List.length (μ).pool = pn at *
    clear hpnA
    clear x2 x3 x4
    have x2 : w4.cell? ⟨p, 2, none⟩ = some (.int .i64 ra) := cell_blk HPBA.out rfl
    go_wp2_with fail
    refine (pick_any ra (ls : Int) _ (by omega) (by omega)).mono ?_
    rintro e wx ⟨rfl, rfl⟩
    have hmod := emod_in ra (m := (ls : Int)) (by omega)
    generalize hai : ra % (ls : Int) = ai at *
    clear hai
    go_wp2_with fail
    have hplay := play_n HN.out HP.out HI.out HWA.out (kind := 2) (a := ai) (b := 0) (e := 0) (by omega) (by omega) (by omega) (by omega) (by omega) (by omega) (by omega) (by omega) (by omega)
    have hpst := (play_rows (f := f) (P := P) (μ := μ) 2 (ai) (0) (0)).2
    generalize hres : MS.play f P μ 2 (ai) (0) (0) = resB at *
    refine hplay.mono ?_
    rintro e w5 ⟨rfl, hwB, hfrB⟩
    have HWB := hid hwB
    have HPBB := hid ((hfrB p rfl).trans HPBA.out)
    have HSTB : Hid (resB.1.statics = [1, 2, 3, 4]) := hid (hpst.trans HST.out)
    clear hres hplay hpst hwB hfrB
    by_cases hr : resB.2 = 0
    ·
      rw [hr]
      go_wp2_with fail
      exact hexit _ _ _ _ _ _ _ _ _ _ _ _ _ _ _ _ _ _ _ _ _ _ _ _ _ _ _ _ _ _ _ _ _ _ _ _ _ _ _ _ _ _ _ _ _ _ _ _ _ _ _ _ _ _ _ _ _ _ _ _ _ _ _ _ _ _ _ _ _ _ _ _ _ _ _ _ _ _ _ _ _ _ _ _ _ _ _ _ _ _ _ _ _ _ _ _ _ _ _ _ _ _ _ _ _ _ _ _ _ _ _ _ _ _ _ _ _ _ _ _ _ _ _ _ _ _ _ _ _ _ _ _ _ _ _ _ _ _ _ _ _ _ _ _ _ _ _ _ _ _ _ _ _ _ _ _ _ _ _ resB.1 (by omega) (hid ((HWB.out.mono (by omega) (by omega) (by omega)).less (fun b hb => False.elim hb))) HSTB
    ·
      have hr2 : (resB.2 == 0) = false := by simp [hr]
      have hr3 : (resB.2 != 0) = true := by simp [hr]
      go_wp2_with fail
      exact hexit _ _ _ _ _ _ _ _ _ _ _ _ _ _ _ _ _ _ _ _ _ _ _ _ _ _ _ _ _ _ _ _ _ _ _ _ _ _ _ _ _ _ _ _ _ _ _ _ _ _ _ _ _ _ _ _ _ _ _ _ _ _ _ _ _ _ _ _ _ _ _ _ _ _ _ _ _ _ _ _ _ _ _ _ _ _ _ _ _ _ _ _ _ _ _ _ _ _ _ _ _ _ _ _ _ _ _ _ _ _ _ _ _ _ _ _ _ _ _ _ _ _ _ _ _ _ _ _ _ _ _ _ _ _ _ _ _ _ _ _ _ _ _ _ _ _ _ _ _ _ _ _ _ _ _ _ _ _ _ resB.1 (by omega) (hid ((HWB.out.mono (by omega) (by omega) (by omega)).less (fun b hb => False.elim hb))) HSTB
  ·
    have hgt : ¬ (0 : Int) < (ls : Int) := by omega
    go_wp2_with fail
    exact hexit _ _ _ _ _ _ _ _ _ _ _ _ _ _ _ _ _ _ _ _ _ _ _ _ _ _ _ _ _ _ _ _ _ _ _ _ _ _ _ _ _ _ _ _ _ _ _ _ _ _ _ _ _ _ _ _ _ _ _ _ _ _ _ _ _ _ _ _ _ _ _ _ _ _ _ _ _ _ _ _ _ _ _ _ _ _ _ _ _ _ _ _ _ _ _ _ _ _ _ _ _ _ _ _ _ _ _ _ _ _ _ _ _ _ _ _ _ _ _ _ _ _ _ _ _ _ _ _ _ _ _ _ _ _ _ _ _ _ _ _ _ _ _ _ _ _ _ _ _ _ _ _ _ _ _ _ _ _ _ μ (by omega) (hid ((HW.out.mono (by omega) (by omega) (by omega)).less (fun b hb => False.elim hb))) HST

set_option maxHeartbeats 16000000 in
set_option maxRecDepth 1000000 in
theorem play_arm2 (Q : Exit → Act → World → Prop) (w1 W3 : World) (wb i p ls sc : Nat) (sa : Option Addr) (μ : MS) (last rk rn ra rb rc : Int) (v0 v1 v2 v8 v9 v10 v11 v12 v13 v14 v15 v16 v17 v18 v19 v20 v21 v22 v23 v24 v25 v26 v27 v28 v29 v30 v31 v32 v33 v34 v35 v36 v38 v39 v40 v41 v42 v43 v44 v45 v46 v47 v48 v49 v50 v51 v52 v53 v54 v55 v56 v57 v58 v59 v60 v61 v62 v63 v64 v65 v66 v67 v68 v69 v70 v71 v72 v73 v74 v75 v76 v77 v78 v79 v80 v81 v82 v83 v84 v85 v86 v87 v88 v89 v90 v91 v92 v93 v94 v95 v96 v97 v98 v99 v100 v101 v102 v103 v104 v105 v106 v107 v108 v109 v110 v111 v112 v113 v114 v115 v116 v117 v118 v119 v120 v121 v122 v123 v124 v125 v126 v127 v128 v129 v130 v131 v132 v133 v134 v135 v136 v137 v138 v139 v140 v141 v142 v143 v144 v145 v146 v147 v148 v149 v150 v151 v152 v153 v154 v155 v156 v157 v158 v159 v160 v161 v162 v163 v164 v165 v166 v167 v168 v169 v170 v171 v172 v173 v174 v175 v176 v177 v178 v179 v180 v181 v182 v183 v184 v185 v186 v187 v188 : Value)
    (HN : Hid (Nums f P)) (HP : Hid (∀ n, P1 n → P n)) (HI : Hid (Itoa w1 Small f)) (HW : Hid (Wd f P i i 59 (fun b => b = p) w1 W3 wb μ)) (HPB : Hid (W3.heap[p]? = some (.cells #[.int .i64 rk, .int .i64 rn, .int .i64 ra, .int .i64 rb, .int .i64 rc] 57 (0, 0))))
    (HST : Hid (μ.statics = [1, 2, 3, 4])) (hlast : 0 ≤ last ∧ last ≤ 300) (hls : ls ≤ 12) (h60 : i < 60)
    (hexit : ∀ (y8 y9 y10 y11 y12 y13 y14 y38 y39 y40 y41 y42 y43 y44 y45 y46 y47 y48 y49 y50 y51 y52 y53 y54 y55 y56 y57 y58 y59 y60 y61 y62 y63 y64 y65 y66 y67 y68 y69 y70 y71 y72 y73 y74 y75 y76 y77 y78 y79 y80 y81 y82 y83 y84 y85 y86 y87 y88 y89 y90 y91 y92 y93 y94 y95 y96 y97 y98 y99 y100 y101 y102 y103 y104 y105 y106 y107 y108 y109 y110 y111 y112 y113 y114 y115 y116 y117 y118 y119 y120 y121 y122 y123 y124 y125 y126 y127 y128 y129 y130 y131 y132 y133 y134 y135 y136 y137 y138 y139 y140 y141 y142 y143 y144 y145 y146 y147 y148 y149 y150 y151 y152 y153 y154 y155 y156 y157 y158 y159 y160 y161 y162 y163 y164 y165 y166 y167 y168 y169 y170 y171 y172 y173 y174 y175 y176 y177 y178 y179 y180 y181 y182 y183 y184 y185 y186 y187 : Value) (last2 : Int) (w' : World) (μ2 : MS), 0 ≤ last2 ∧ last2 ≤ 300 → Hid (Wd f P (i + 1) (i + 1) 59 (fun _ => False) w1 w' wb μ2) → Hid (μ2.statics = [1, 2, 3, 4]) → Q .normal ⟨#[v0, v1, v2, ptr wb, .int .i64 last2, .int .i64 (i : Int), .pointer (some ⟨p, 0, none⟩), .slice sa ls sc, y8, y9, y10, y11, y12, y13, y14, v15, v16, v17, v18, v19, v20, v21, v22, v23, v24, v25, v26, v27, v28, v29, v30, v31, v32, v33, v34, v35, v36, .int .i64 2, y38, y39, y40, y41, y42, y43, y44, y45, y46, y47, y48, y49, y50, y51, y52, y53, y54, y55, y56, y57, y58, y59, y60, y61, y62, y63, y64, y65, y66, y67, y68, y69, y70, y71, y72, y73, y74, y75, y76, y77, y78, y79, y80, y81, y82, y83, y84, y85, y86, y87, y88, y89, y90, y91, y92, y93, y94, y95, y96, y97, y98, y99, y100, y101, y102, y103, y104, y105, y106, y107, y108, y109, y110, y111, y112, y113, y114, y115, y116, y117, y118, y119, y120, y121, y122, y123, y124, y125, y126, y127, y128, y129, y130, y131, y132, y133, y134, y135, y136, y137, y138, y139, y140, y141, y142, y143, y144, y145, y146, y147, y148, y149, y150, y151, y152, y153, y154, y155, y156, y157, y158, y159, y160, y161, y162, y163, y164, y165, y166, y167, y168, y169, y170, y171, y172, y173, y174, y175, y176, y177, y178, y179, y180, y181, y182, y183, y184, y185, y186, y187, v188], []⟩ w') :
    Code.wp Tryz.prog switchCode Q ⟨#[v0, v1, v2, ptr wb, .int .i64 last, .int .i64 (i : Int), .pointer (some ⟨p, 0, none⟩), .slice sa ls sc, v8, v9, v10, v11, v12, v13, v14, v15, v16, v17, v18, v19, v20, v21, v22, v23, v24, v25, v26, v27, v28, v29, v30, v31, v32, v33, v34, v35, v36, .int .i64 2, v38, v39, v40, v41, v42, v43, v44, v45, v46, v47, v48, v49, v50, v51, v52, v53, v54, v55, v56, v57, v58, v59, v60, v61, v62, v63, v64, v65, v66, v67, v68, v69, v70, v71, v72, v73, v74, v75, v76, v77, v78, v79, v80, v81, v82, v83, v84, v85, v86, v87, v88, v89, v90, v91, v92, v93, v94, v95, v96, v97, v98, v99, v100, v101, v102, v103, v104, v105, v106, v107, v108, v109, v110, v111, v112, v113, v114, v115, v116, v117, v118, v119, v120, v121, v122, v123, v124, v125, v126, v127, v128, v129, v130, v131, v132, v133, v134, v135, v136, v137, v138, v139, v140, v141, v142, v143, v144, v145, v146, v147, v148, v149, v150, v151, v152, v153, v154, v155, v156, v157, v158, v159, v160, v161, v162, v163, v164, v165, v166, v167, v168, v169, v170, v171, v172, v173, v174, v175, v176, v177, v178, v179, v180, v181, v182, v183, v184, v185, v186, v187, v188], []⟩ W3 := by
  have x2 : W3.cell? ⟨p, 2, none⟩ = some (.int .i64 ra) := cell_blk HPB.out rfl
  have x3 : W3.cell? ⟨p, 3, none⟩ = some (.int .i64 rb) := cell_blk HPB.out rfl
  have x4 : W3.cell? ⟨p, 4, none⟩ = some (.int .i64 rc) := cell_blk HPB.out rfl
  conv => arg 2; whnf
  by_cases hs0 : 0 < ls
  ·
    have hgt : (0 : Int) < (ls : Int) := by omega
    go_wp2_with fail
    refine (pool_w HW.out).mono ?_
    rintro e w4 ⟨paA, pcA, rfl, _, hEA⟩
    have HWA := hid (HW.out.later hEA)
    have HPBA := hid (hEA.blk HPB.out)
    have hplA := HW.out.pool.few
    have hpl0A := HW.out.pool0
    clear hEA
    generalize hpnA : List.length (μ).pool = pn at *
    clear hpnA
    clear x2 x3 x4
    have x2 : w4.cell? ⟨p, 2, none⟩ = some (.int .i64 ra) := cell_blk HPBA.out rfl
    go_wp2_with fail
    refine (pick_any ra (ls : Int) _ (by omega) (by omega)).mono ?_
    rintro e wx ⟨rfl, rfl⟩
    have hmod := emod_in ra (m := (ls : Int)) (by omega)
    generalize hai : ra % (ls : Int) = ai at *
    clear hai
    go_wp2_with fail
    have hplay := play_n HN.out HP.out HI.out HWA.out (kind := 2) (a := ai) (b := 0) (e := 0) (by omega) (by omega) (by omega) (by omega) (by omega) (by omega) (by omega) (by omega) (by omega)
    have hpst := (play_rows (f := f) (P := P) (μ := μ) 2 (ai) (0) (0)).2
    generalize hres : MS.play f P μ 2 (ai) (0) (0) = resB at *
    refine hplay.mono ?_
    rintro e w5 ⟨rfl, hwB, hfrB⟩
    have HWB := hid hwB
    have HPBB := hid ((hfrB p rfl).trans HPBA.out)
    have HSTB : Hid (resB.1.statics = [1, 2, 3, 4]) := hid (hpst.trans HST.out)
    clear hres hplay hpst hwB hfrB
    by_cases hr : resB.2 = 0
    ·
      rw [hr]
      go_wp2_with fail
      exact hexit _ _ _ _ _ _ _ _ _ _ _ _ _ _ _ _ _ _ _ _ _ _ _ _ _ _ _ _ _ _ _ _ _ _ _ _ _ _ _ _ _ _ _ _ _ _ _ _ _ _ _ _ _ _ _ _ _ _ _ _ _ _ _ _ _ _ _ _ _ _ _ _ _ _ _ _ _ _ _ _ _ _ _ _ _ _ _ _ _ _ _ _ _ _ _ _ _ _ _ _ _ _ _ _ _ _ _ _ _ _ _ _ _ _ _ _ _ _ _ _ _ _ _ _ _ _ _ _ _ _ _ _ _ _ _ _ _ _ _ _ _ _ _ _ _ _ _ _ _ _ _ _ _ _ _ _ _ _ _ resB.1 (by omega) (hid ((HWB.out.mono (by omega) (by omega) (by omega)).less (fun b hb => False.elim hb))) HSTB
    ·
      have hr2 : (resB.2 == 0) = false := by simp [hr]
      have hr3 : (resB.2 != 0) = true := by simp [hr]
      go_wp2_with fail
      exact hexit _ _ _ _ _ _ _ _ _ _ _ _ _ _ _ _ _ _ _ _ _ _ _ _ _ _ _ _ _ _ _ _ _ _ _ _ _ _ _ _ _ _ _ _ _ _ _ _ _ _ _ _ _ _ _ _ _ _ _ _ _ _ _ _ _ _ _ _ _ _ _ _ _ _ _ _ _ _ _ _ _ _ _ _ _ _ _ _ _ _ _ _ _ _ _ _ _ _ _ _ _ _ _ _ _ _ _ _ _ _ _ _ _ _ _ _ _ _ _ _ _ _ _ _ _ _ _ _ _ _ _ _ _ _ _ _ _ _ _ _ _ _ _ _ _ _ _ _ _ _ _ _ _ _ _ _ _ _ _ resB.1 (by omega) (hid ((HWB.out.mono (by omega) (by omega) (by omega)).less (fun b hb => False.elim hb))) HSTB
  ·
    have hgt : ¬ (0 : Int) < (ls : Int) := by omega
    go_wp2_with fail
    exact hexit _ _ _ _ _ _ _ _ _ _ _ _ _ _ _ _ _ _ _ _ _ _ _ _ _ _ _ _ _ _ _ _ _ _ _ _ _ _ _ _ _ _ _ _ _ _ _ _ _ _ _ _ _ _ _ _ _ _ _ _ _ _ _ _ _ _ _ _ _ _ _ _ _ _ _ _ _ _ _ _ _ _ _ _ _ _ _ _ _ _ _ _ _ _ _ _ _ _ _ _ _ _ _ _ _ _ _ _ _ _ _ _ _ _ _ _ _ _ _ _ _ _ _ _ _ _ _ _ _ _ _ _ _ _ _ _ _ _ _ _ _ _ _ _ _ _ _ _ _ _ _ _ _ _ _ _ _ _ _ μ (by omega) (hid ((HW.out.mono (by omega) (by omega) (by omega)).less (fun b hb => False.elim hb))) HST

end Go.Proofs.YtjodmedgkmeklaaGreat
