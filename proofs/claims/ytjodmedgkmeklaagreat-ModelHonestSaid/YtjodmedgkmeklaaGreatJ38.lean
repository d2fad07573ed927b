/-
  Texts merged: Q46D, Q46.
-/
import Derived.Deep.DeepCutAuto
import Derived.Deep.CutBlock
import Derived.Test.YtjodmedgkmeklaaGreatJ37
/-
  One round of play, kind by kind.
-/
namespace Go.Proofs.YtjodmedgkmeklaaGreat
open Go Go.RowKit Go.Maps
attribute [local go_sem] extUpon run_store_tm
attribute [local go_sem ↓] Tm.val_cell eval_put_ne eval_put_none eval_put_same size_put eval_const
attribute [local go_sem ↓] meth_Atom meth_Public meth_Shared meth_Chain meth_Digest meth_Box meth_Empty
attribute [local go_sem ↓] run_build_chain run_build_digest run_build_box
attribute [local go_sem] ta_Atom_Atom ta_Public_Atom ta_Shared_Atom ta_Chain_Atom ta_Digest_Atom ta_Box_Atom ta_Empty_Atom ta_Nil_Atom ta_Atom_Public ta_Public_Public ta_Shared_Public ta_Chain_Public ta_Digest_Public ta_Box_Public ta_Empty_Public ta_Nil_Public ta_Atom_Shared ta_Public_Shared ta_Shared_Shared ta_Chain_Shared ta_Digest_Shared ta_Box_Shared ta_Empty_Shared ta_Nil_Shared ta_Atom_Chain ta_Public_Chain ta_Shared_Chain ta_Chain_Chain ta_Digest_Chain ta_Box_Chain ta_Empty_Chain ta_Nil_Chain ta_Atom_Digest ta_Public_Digest ta_Shared_Digest ta_Chain_Digest ta_Digest_Digest ta_Box_Digest ta_Empty_Digest ta_Nil_Digest ta_Atom_Box ta_Public_Box ta_Shared_Box ta_Chain_Box ta_Digest_Box ta_Box_Box ta_Empty_Box ta_Nil_Box ta_Atom_Empty ta_Public_Empty ta_Shared_Empty ta_Chain_Empty ta_Digest_Empty ta_Box_Empty ta_Empty_Empty ta_Nil_Empty
variable {f : Int → List UInt8} {P : Int → Prop} {w0 w W W2 W3 : World} {μ μ2 : MS} {c d wb : Nat} {B : Int} {F : Nat → Prop}



set_option maxHeartbeats 16000000 in
set_option maxRecDepth 1000000 in
theorem play_arm7 (Q : Exit → Act → World → Prop) (w1 W3 : World) (wb i p ls sc : Nat) (sa : Option Addr) (μ : MS) (last rk rn ra rb rc : Int) (v0 v1 v2 v8 v9 v10 v11 v12 v13 v14 v15 v16 v17 v18 v19 v20 v21 v22 v23 v24 v25 v26 v27 v28 v29 v30 v31 v32 v33 v34 v35 v36 v38 v39 v40 v41 v42 v43 v44 v45 v46 v47 v48 v49 v50 v51 v52 v53 v54 v55 v56 v57 v58 v59 v60 v61 v62 v63 v64 v65 v66 v67 v68 v69 v70 v71 v72 v73 v74 v75 v76 v77 v78 v79 v80 v81 v82 v83 v84 v85 v86 v87 v88 v89 v90 v91 v92 v93 v94 v95 v96 v97 v98 v99 v100 v101 v102 v103 v104 v105 v106 v107 v108 v109 v110 v111 v112 v113 v114 v115 v116 v117 v118 v119 v120 v121 v122 v123 v124 v125 v126 v127 v128 v129 v130 v131 v132 v133 v134 v135 v136 v137 v138 v139 v140 v141 v142 v143 v144 v145 v146 v147 v148 v149 v150 v151 v152 v153 v154 v155 v156 v157 v158 v159 v160 v161 v162 v163 v164 v165 v166 v167 v168 v169 v170 v171 v172 v173 v174 v175 v176 v177 v178 v179 v180 v181 v182 v183 v184 v185 v186 v187 v188 : Value)
    (HN : Hid (Nums f P)) (HP : Hid (∀ n, P1 n → P n)) (HI : Hid (Itoa w1 Small f)) (HW : Hid (Wd f P i i 59 (fun b => b = p) w1 W3 wb μ)) (HPB : Hid (W3.heap[p]? = some (.cells #[.int .i64 rk, .int .i64 rn, .int .i64 ra, .int .i64 rb, .int .i64 rc] 57 (0, 0))))
    (HST : Hid (μ.statics = [1, 2, 3, 4])) (hlast : 0 ≤ last ∧ last ≤ 300) (_ : ls ≤ 12) (h60 : i < 60)
    (hexit : ∀ (y8 y9 y10 y11 y12 y13 y14 y38 y39 y40 y41 y42 y43 y44 y45 y46 y47 y48 y49 y50 y51 y52 y53 y54 y55 y56 y57 y58 y59 y60 y61 y62 y63 y64 y65 y66 y67 y68 y69 y70 y71 y72 y73 y74 y75 y76 y77 y78 y79 y80 y81 y82 y83 y84 y85 y86 y87 y88 y89 y90 y91 y92 y93 y94 y95 y96 y97 y98 y99 y100 y101 y102 y103 y104 y105 y106 y107 y108 y109 y110 y111 y112 y113 y114 y115 y116 y117 y118 y119 y120 y121 y122 y123 y124 y125 y126 y127 y128 y129 y130 y131 y132 y133 y134 y135 y136 y137 y138 y139 y140 y141 y142 y143 y144 y145 y146 y147 y148 y149 y150 y151 y152 y153 y154 y155 y156 y157 y158 y159 y160 y161 y162 y163 y164 y165 y166 y167 y168 y169 y170 y171 y172 y173 y174 y175 y176 y177 y178 y179 y180 y181 y182 y183 y184 y185 y186 y187 : Value) (last2 : Int) (w' : World) (μ2 : MS), 0 ≤ last2 ∧ last2 ≤ 300 → Hid (Wd f P (i + 1) (i + 1) 59 (fun _ => False) w1 w' wb μ2) → Hid (μ2.statics = [1, 2, 3, 4]) → Q .normal ⟨#[v0, v1, v2, ptr wb, .int .i64 last2, .int .i64 (i : Int), .pointer (some ⟨p, 0, none⟩), .slice sa ls sc, y8, y9, y10, y11, y12, y13, y14, v15, v16, v17, v18, v19, v20, v21, v22, v23, v24, v25, v26, v27, v28, v29, v30, v31, v32, v33, v34, v35, v36, .int .i64 7, y38, y39, y40, y41, y42, y43, y44, y45, y46, y47, y48, y49, y50, y51, y52, y53, y54, y55, y56, y57, y58, y59, y60, y61, y62, y63, y64, y65, y66, y67, y68, y69, y70, y71, y72, y73, y74, y75, y76, y77, y78, y79, y80, y81, y82, y83, y84, y85, y86, y87, y88, y89, y90, y91, y92, y93, y94, y95, y96, y97, y98, y99, y100, y101, y102, y103, y104, y105, y106, y107, y108, y109, y110, y111, y112, y113, y114, y115, y116, y117, y118, y119, y120, y121, y122, y123, y124, y125, y126, y127, y128, y129, y130, y131, y132, y133, y134, y135, y136, y137, y138, y139, y140, y141, y142, y143, y144, y145, y146, y147, y148, y149, y150, y151, y152, y153, y154, y155, y156, y157, y158, y159, y160, y161, y162, y163, y164, y165, y166, y167, y168, y169, y170, y171, y172, y173, y174, y175, y176, y177, y178, y179, y180, y181, y182, y183, y184, y185, y186, y187, v188], []⟩ w') :
    Code.wp Tryz.prog switchCode Q ⟨#[v0, v1, v2, ptr wb, .int .i64 last, .int .i64 (i : Int), .pointer (some ⟨p, 0, none⟩), .slice sa ls sc, v8, v9, v10, v11, v12, v13, v14, v15, v16, v17, v18, v19, v20, v21, v22, v23, v24, v25, v26, v27, v28, v29, v30, v31, v32, v33, v34, v35, v36, .int .i64 7, v38, v39, v40, v41, v42, v43, v44, v45, v46, v47, v48, v49, v50, v51, v52, v53, v54, v55, v56, v57, v58, v59, v60, v61, v62, v63, v64, v65, v66, v67, v68, v69, v70, v71, v72, v73, v74, v75, v76, v77, v78, v79, v80, v81, v82, v83, v84, v85, v86, v87, v88, v89, v90, v91, v92, v93, v94, v95, v96, v97, v98, v99, v100, v101, v102, v103, v104, v105, v106, v107, v108, v109, v110, v111, v112, v113, v114, v115, v116, v117, v118, v119, v120, v121, v122, v123, v124, v125, v126, v127, v128, v129, v130, v131, v132, v133, v134, v135, v136, v137, v138, v139, v140, v141, v142, v143, v144, v145, v146, v147, v148, v149, v150, v151, v152, v153, v154, v155, v156, v157, v158, v159, v160, v161, v162, v163, v164, v165, v166, v167, v168, v169, v170, v171, v172, v173, v174, v175, v176, v177, v178, v179, v180, v181, v182, v183, v184, v185, v186, v187, v188], []⟩ W3 := by
  have x2 : W3.cell? ⟨p, 2, none⟩ = some (.int .i64 ra) := cell_blk HPB.out rfl
  have x3 : W3.cell? ⟨p, 3, none⟩ = some (.int .i64 rb) := cell_blk HPB.out rfl
  have x4 : W3.cell? ⟨p, 4, none⟩ = some (.int .i64 rc) := cell_blk HPB.out rfl
  conv => arg 2; whnf
  by_cases h3 : rb.tmod 3 = 0
  ·
    have hwr1 : IntKind.i64.wrap (1 + ra % 4) = 1 + ra % 4 := by rw [IntKind.wrap_i64]; omega
    go_wp2_with fail
    refine (pick_any ra 4 _ (by omega) (by omega)).mono ?_
    rintro e wx ⟨rfl, rfl⟩
    go_wp2_with fail
    have hplay := play_n HN.out HP.out HI.out HW.out (kind := 6) (a := 1 + ra % 4) (b := 0) (e := 0) (by omega) (by omega) (by omega) (by omega) (by omega) (by omega) (by omega) (by omega) (by omega)
    have hpst := (play_rows (f := f) (P := P) (μ := μ) 6 (1 + ra % 4) (0) (0)).2
    generalize hres : MS.play f P μ 6 (1 + ra % 4) (0) (0) = resA at *
    refine hplay.mono ?_
    rintro e w4 ⟨rfl, hwA, hfrA⟩
    have HWA := hid hwA
    have HPBA := hid ((hfrA p rfl).trans HPB.out)
    have HSTA : Hid (resA.1.statics = [1, 2, 3, 4]) := hid (hpst.trans HST.out)
    clear hres hplay hpst hwA hfrA
    go_wp2_with fail
    exact hexit _ _ _ _ _ _ _ _ _ _ _ _ _ _ _ _ _ _ _ _ _ _ _ _ _ _ _ _ _ _ _ _ _ _ _ _ _ _ _ _ _ _ _ _ _ _ _ _ _ _ _ _ _ _ _ _ _ _ _ _ _ _ _ _ _ _ _ _ _ _ _ _ _ _ _ _ _ _ _ _ _ _ _ _ _ _ _ _ _ _ _ _ _ _ _ _ _ _ _ _ _ _ _ _ _ _ _ _ _ _ _ _ _ _ _ _ _ _ _ _ _ _ _ _ _ _ _ _ _ _ _ _ _ _ _ _ _ _ _ _ _ _ _ _ _ _ _ _ _ _ _ _ _ _ _ _ _ _ _ resA.1 (by omega) (hid ((HWA.out.mono (by omega) (by omega) (by omega)).less (fun b hb => False.elim hb))) HSTA
  ·
    go_wp2_with fail
    exact hexit _ _ _ _ _ _ _ _ _ _ _ _ _ _ _ _ _ _ _ _ _ _ _ _ _ _ _ _ _ _ _ _ _ _ _ _ _ _ _ _ _ _ _ _ _ _ _ _ _ _ _ _ _ _ _ _ _ _ _ _ _ _ _ _ _ _ _ _ _ _ _ _ _ _ _ _ _ _ _ _ _ _ _ _ _ _ _ _ _ _ _ _ _ _ _ _ _ _ _ _ _ _ _ _ _ _ _ _ _ _ _ _ _ _ _ _ _ _ _ _ _ _ _ _ _ _ _ _ _ _ _ _ _ _ _ _ _ _ _ _ _ _ _ _ _ _ _ _ _ _ _ _ _ _ _ _ _ _ _ μ (by omega) (hid ((HW.out.mono (by omega) (by omega) (by omega)).less (fun b hb => False.elim hb))) HST

set_option maxHeartbeats 16000000 in
set_option maxRecDepth 1000000 in
theorem play_arm8 (Q : Exit → Act → World → Prop) (w1 W3 : World) (wb i p ls sc : Nat) (sa : Option Addr) (μ : MS) (last rk rn ra rb rc : Int) (v0 v1 v2 v8 v9 v10 v11 v12 v13 v14 v15 v16 v17 v18 v19 v20 v21 v22 v23 v24 v25 v26 v27 v28 v29 v30 v31 v32 v33 v34 v35 v36 v38 v39 v40 v41 v42 v43 v44 v45 v46 v47 v48 v49 v50 v51 v52 v53 v54 v55 v56 v57 v58 v59 v60 v61 v62 v63 v64 v65 v66 v67 v68 v69 v70 v71 v72 v73 v74 v75 v76 v77 v78 v79 v80 v81 v82 v83 v84 v85 v86 v87 v88 v89 v90 v91 v92 v93 v94 v95 v96 v97 v98 v99 v100 v101 v102 v103 v104 v105 v106 v107 v108 v109 v110 v111 v112 v113 v114 v115 v116 v117 v118 v119 v120 v121 v122 v123 v124 v125 v126 v127 v128 v129 v130 v131 v132 v133 v134 v135 v136 v137 v138 v139 v140 v141 v142 v143 v144 v145 v146 v147 v148 v149 v150 v151 v152 v153 v154 v155 v156 v157 v158 v159 v160 v161 v162 v163 v164 v165 v166 v167 v168 v169 v170 v171 v172 v173 v174 v175 v176 v177 v178 v179 v180 v181 v182 v183 v184 v185 v186 v187 v188 : Value)
    (HN : Hid (Nums f P)) (HP : Hid (∀ n, P1 n → P n)) (HI : Hid (Itoa w1 Small f)) (HW : Hid (Wd f P i i 59 (fun b => b = p) w1 W3 wb μ)) (HPB : Hid (W3.heap[p]? = some (.cells #[.int .i64 rk, .int .i64 rn, .int .i64 ra, .int .i64 rb, .int .i64 rc] 57 (0, 0))))
    (HST : Hid (μ.statics = [1, 2, 3, 4])) (hlast : 0 ≤ last ∧ last ≤ 300) (_ : ls ≤ 12) (h60 : i < 60)
    (hexit : ∀ (y8 y9 y10 y11 y12 y13 y14 y38 y39 y40 y41 y42 y43 y44 y45 y46 y47 y48 y49 y50 y51 y52 y53 y54 y55 y56 y57 y58 y59 y60 y61 y62 y63 y64 y65 y66 y67 y68 y69 y70 y71 y72 y73 y74 y75 y76 y77 y78 y79 y80 y81 y82 y83 y84 y85 y86 y87 y88 y89 y90 y91 y92 y93 y94 y95 y96 y97 y98 y99 y100 y101 y102 y103 y104 y105 y106 y107 y108 y109 y110 y111 y112 y113 y114 y115 y116 y117 y118 y119 y120 y121 y122 y123 y124 y125 y126 y127 y128 y129 y130 y131 y132 y133 y134 y135 y136 y137 y138 y139 y140 y141 y142 y143 y144 y145 y146 y147 y148 y149 y150 y151 y152 y153 y154 y155 y156 y157 y158 y159 y160 y161 y162 y163 y164 y165 y166 y167 y168 y169 y170 y171 y172 y173 y174 y175 y176 y177 y178 y179 y180 y181 y182 y183 y184 y185 y186 y187 : Value) (last2 : Int) (w' : World) (μ2 : MS), 0 ≤ last2 ∧ last2 ≤ 300 → Hid (Wd f P (i + 1) (i + 1) 59 (fun _ => False) w1 w' wb μ2) → Hid (μ2.statics = [1, 2, 3, 4]) → Q .normal ⟨#[v0, v1, v2, ptr wb, .int .i64 last2, .int .i64 (i : Int), .pointer (some ⟨p, 0, none⟩), .slice sa ls sc, y8, y9, y10, y11, y12, y13, y14, v15, v16, v17, v18, v19, v20, v21, v22, v23, v24, v25, v26, v27, v28, v29, v30, v31, v32, v33, v34, v35, v36, .int .i64 8, y38, y39, y40, y41, y42, y43, y44, y45, y46, y47, y48, y49, y50, y51, y52, y53, y54, y55, y56, y57, y58, y59, y60, y61, y62, y63, y64, y65, y66, y67, y68, y69, y70, y71, y72, y73, y74, y75, y76, y77, y78, y79, y80, y81, y82, y83, y84, y85, y86, y87, y88, y89, y90, y91, y92, y93, y94, y95, y96, y97, y98, y99, y100, y101, y102, y103, y104, y105, y106, y107, y108, y109, y110, y111, y112, y113, y114, y115, y116, y117, y118, y119, y120, y121, y122, y123, y124, y125, y126, y127, y128, y129, y130, y131, y132, y133, y134, y135, y136, y137, y138, y139, y140, y141, y142, y143, y144, y145, y146, y147, y148, y149, y150, y151, y152, y153, y154, y155, y156, y157, y158, y159, y160, y161, y162, y163, y164, y165, y166, y167, y168, y169, y170, y171, y172, y173, y174, y175, y176, y177, y178, y179, y180, y181, y182, y183, y184, y185, y186, y187, v188], []⟩ w') :
    Code.wp Tryz.prog switchCode Q ⟨#[v0, v1, v2, ptr wb, .int .i64 last, .int .i64 (i : Int), .pointer (some ⟨p, 0, none⟩), .slice sa ls sc, v8, v9, v10, v11, v12, v13, v14, v15, v16, v17, v18, v19, v20, v21, v22, v23, v24, v25, v26, v27, v28, v29, v30, v31, v32, v33, v34, v35, v36, .int .i64 8, v38, v39, v40, v41, v42, v43, v44, v45, v46, v47, v48, v49, v50, v51, v52, v53, v54, v55, v56, v57, v58, v59, v60, v61, v62, v63, v64, v65, v66, v67, v68, v69, v70, v71, v72, v73, v74, v75, v76, v77, v78, v79, v80, v81, v82, v83, v84, v85, v86, v87, v88, v89, v90, v91, v92, v93, v94, v95, v96, v97, v98, v99, v100, v101, v102, v103, v104, v105, v106, v107, v108, v109, v110, v111, v112, v113, v114, v115, v116, v117, v118, v119, v120, v121, v122, v123, v124, v125, v126, v127, v128, v129, v130, v131, v132, v133, v134, v135, v136, v137, v138, v139, v140, v141, v142, v143, v144, v145, v146, v147, v148, v149, v150, v151, v152, v153, v154, v155, v156, v157, v158, v159, v160, v161, v162, v163, v164, v165, v166, v167, v168, v169, v170, v171, v172, v173, v174, v175, v176, v177, v178, v179, v180, v181, v182, v183, v184, v185, v186, v187, v188], []⟩ W3 := by
  have x2 : W3.cell? ⟨p, 2, none⟩ = some (.int .i64 ra) := cell_blk HPB.out rfl
  have x3 : W3.cell? ⟨p, 3, none⟩ = some (.int .i64 rb) := cell_blk HPB.out rfl
  have x4 : W3.cell? ⟨p, 4, none⟩ = some (.int .i64 rc) := cell_blk HPB.out rfl
  conv => arg 2; whnf
  have hwr1 : IntKind.i64.wrap (6 + ra % 6) = 6 + ra % 6 := by rw [IntKind.wrap_i64]; omega
  go_wp2_with fail
  refine reg_begin 14 (by kernel_rfl) ?_
  refine reg_hide (fun Q2 HQ => ?_)
  generalize hW : World.drew _ = Wa
  have HE : Hid (Ext W3 Wa) := hid (by rw [← hW]; exact Ext.drew _)
  clear hW
  refine reg_pure 0 rfl (by kernel_rfl) (by kernel_rfl) ?_; apply Exists.intro; refine ⟨fun w' => ?_, ?_⟩; · go_simp; exact rfl
  refine reg_quiet 1 rfl (by kernel_rfl) (by kernel_rfl) ?_; apply Exists.intro; refine ⟨fun w' hw' => ?_, ?_⟩; · have q0 : w'.cell? ⟨p, 2, none⟩ = some (.int .i64 ra) := cell_blk ((HE.out.trans hw').blk HPB.out) rfl; go_simp; exact ⟨rfl, Ext.refl _⟩
  refine reg_quiet 2 rfl (by kernel_rfl) (by kernel_rfl) ?_; apply Exists.intro; refine ⟨fun w' hw' => ?_, ?_⟩; · go_simp; exact pick_at ra 6 (by omega) (by omega) w'
  refine reg_pure 3 rfl (by kernel_rfl) (by kernel_rfl) ?_; apply Exists.intro; refine ⟨fun w' => ?_, ?_⟩; · go_simp; exact rfl
  refine reg_pure 4 rfl (by kernel_rfl) (by kernel_rfl) ?_; apply Exists.intro; refine ⟨fun w' => ?_, ?_⟩; · go_simp; exact rfl
  refine reg_quiet 5 rfl (by kernel_rfl) (by kernel_rfl) ?_; apply Exists.intro; refine ⟨fun w' hw' => ?_, ?_⟩; · have q0 : w'.cell? ⟨p, 3, none⟩ = some (.int .i64 rb) := cell_blk ((HE.out.trans hw').blk HPB.out) rfl; go_simp; exact ⟨rfl, Ext.refl _⟩
  refine reg_pure 6 rfl (by kernel_rfl) (by kernel_rfl) ?_; apply Exists.intro; refine ⟨fun w' => ?_, ?_⟩; · go_simp; exact rfl
  refine reg_quiet 7 rfl (by kernel_rfl) (by kernel_rfl) ?_; apply Exists.intro; refine ⟨fun w' hw' => ?_, ?_⟩; · have q0 : w'.cell? ⟨p, 4, none⟩ = some (.int .i64 rc) := cell_blk ((HE.out.trans hw').blk HPB.out) rfl; go_simp; exact ⟨rfl, Ext.refl _⟩
  refine reg_pure 8 rfl (by kernel_rfl) (by kernel_rfl) ?_; apply Exists.intro; refine ⟨fun w' => ?_, ?_⟩; · go_simp; exact rfl
  refine reg_quiet 9 rfl (by kernel_rfl) (by kernel_rfl) ?_; apply Exists.intro; refine ⟨fun w' hw' => ?_, ?_⟩; · have q0 : w'.cell? ⟨p, 1, none⟩ = some (.int .i64 rn) := cell_blk ((HE.out.trans hw').blk HPB.out) rfl; go_simp; exact ⟨rfl, Ext.refl _⟩
  refine reg_pure 10 rfl (by kernel_rfl) (by kernel_rfl) ?_; apply Exists.intro; refine ⟨fun w' => ?_, ?_⟩; · go_simp; exact rfl
  refine reg_one 11 rfl (by kernel_rfl) (by kernel_rfl) (fun w3 hw3 => ?_)
  go_simp
  refine ⟨Ext.alloc _ _, ?_⟩
  have HBA := hid (blk_new w3 (.cells #[.int .i64 (6 + ra % 6), .int .i64 0, .int .i64 rb, .int .i64 rc, .int .i64 rn] 57 (0, 0)))
  have HEA := hid ((HE.out.trans hw3).alloc' (.cells #[.int .i64 (6 + ra % 6), .int .i64 0, .int .i64 rb, .int .i64 rc, .int .i64 rn] 57 (0, 0)))
  clear hw3 HE
  generalize World.alloc w3 _ = w4 at *
  generalize w3.heap.size = qq at *
  refine reg_one 12 rfl (by kernel_rfl) (by kernel_rfl) (fun w5 hw5 => ?_)
  have hops := ops_one (W := w5) (g := qq) (cap := 1) (rk := 6 + ra % 6) (rn := 0) (ra := rb) (rb := rc) (rc := rn) (by omega) (cell_blk (hw5.blk HBA.out) rfl) (cell_blk (hw5.blk HBA.out) rfl) (cell_blk (hw5.blk HBA.out) rfl) (cell_blk (hw5.blk HBA.out) rfl) (cell_blk (hw5.blk HBA.out) rfl)
  go_simp
  refine hops.mono ?_
  rintro e w6 ⟨v, ok, oa, ob, oc, rfl, hoi, hown, hE6⟩
  refine ⟨hE6, ?_⟩
  have HE6 := hid ((HEA.out.trans hw5).trans hE6)
  have HOI := hid hoi
  obtain ⟨g6, cap6, hv6, _⟩ := hown.form (by omega)
  subst hv6
  have HOW := hid hown
  clear hops hw5 hE6 hoi hown HEA HBA
  refine reg_pure 13 rfl (by kernel_rfl) (by kernel_rfl) ?_; apply Exists.intro; refine ⟨fun w' => ?_, ?_⟩; · go_simp; exact rfl
  refine reg_done (by kernel_rfl) (fun W7 hw7 => ?_) _
  rw [HQ.out]
  clear HQ Q2
  have HWA := hid (HW.out.later (HE6.out.trans hw7))
  have HPBA := hid ((HE6.out.trans hw7).blk HPB.out)
  have HOW7 := hid (own_ext hw7 HOW.out)
  clear hw7 HE6 x2 x3 x4 HOW
  go_simp
  have y0 : W7.cell? ⟨g6, 0, none⟩ = some (.int .i64 ok) := by rw [HOW7.out.cellAt 0 (by omega)]; rfl
  have y1 : W7.cell? ⟨g6, 1, none⟩ = some (.int .i64 oa) := by rw [HOW7.out.cellAt 1 (by omega)]; rfl
  have y2 : W7.cell? ⟨g6, 2, none⟩ = some (.int .i64 ob) := by rw [HOW7.out.cellAt 2 (by omega)]; rfl
  have y3 : W7.cell? ⟨g6, 3, none⟩ = some (.int .i64 oc) := by rw [HOW7.out.cellAt 3 (by omega)]; rfl
  have hok := HOI.out.k
  have hoa := HOI.out.a
  have hoc := HOI.out.c
  go_wp2_with fail
  have hplay := play_n HN.out HP.out HI.out HWA.out (kind := ok) (a := oa) (b := ob) (e := oc) (by omega) (by omega) (by omega) (by omega) (by omega) (by omega) (by omega) (by omega) (by omega)
  have hpst := (play_rows (f := f) (P := P) (μ := μ) ok (oa) (ob) (oc)).2
  generalize hres : MS.play f P μ ok (oa) (ob) (oc) = resB at *
  refine hplay.mono ?_
  rintro e w8 ⟨rfl, hwB, hfrB⟩
  have HWB := hid hwB
  have HPBB := hid ((hfrB p rfl).trans HPBA.out)
  have HSTB : Hid (resB.1.statics = [1, 2, 3, 4]) := hid (hpst.trans HST.out)
  clear hres hplay hpst hwB hfrB
  go_wp2_with fail
  exact hexit _ _ _ _ _ _ _ _ _ _ _ _ _ _ _ _ _ _ _ _ _ _ _ _ _ _ _ _ _ _ _ _ _ _ _ _ _ _ _ _ _ _ _ _ _ _ _ _ _ _ _ _ _ _ _ _ _ _ _ _ _ _ _ _ _ _ _ _ _ _ _ _ _ _ _ _ _ _ _ _ _ _ _ _ _ _ _ _ _ _ _ _ _ _ _ _ _ _ _ _ _ _ _ _ _ _ _ _ _ _ _ _ _ _ _ _ _ _ _ _ _ _ _ _ _ _ _ _ _ _ _ _ _ _ _ _ _ _ _ _ _ _ _ _ _ _ _ _ _ _ _ _ _ _ _ _ _ _ _ resB.1 (by omega) (hid ((HWB.out.mono (by omega) (by omega) (by omega)).less (fun b hb => False.elim hb))) HSTB

end Go.Proofs.YtjodmedgkmeklaaGreat

/-
  Handshakes among a listener's ops (play).
-/
namespace Go.Proofs.YtjodmedgkmeklaaGreat
open Go Go.RowKit Go.Maps
attribute [local go_sem] extUpon run_store_tm
attribute [local go_sem ↓] Tm.val_cell eval_put_ne eval_put_none eval_put_same size_put eval_const
attribute [local go_sem ↓] meth_Atom meth_Public meth_Shared meth_Chain meth_Digest meth_Box meth_Empty
attribute [local go_sem ↓] run_build_chain run_build_digest run_build_box
attribute [local go_sem] ta_Atom_Atom ta_Public_Atom ta_Shared_Atom ta_Chain_Atom ta_Digest_Atom ta_Box_Atom ta_Empty_Atom ta_Nil_Atom ta_Atom_Public ta_Public_Public ta_Shared_Public ta_Chain_Public ta_Digest_Public ta_Box_Public ta_Empty_Public ta_Nil_Public ta_Atom_Shared ta_Public_Shared ta_Shared_Shared ta_Chain_Shared ta_Digest_Shared ta_Box_Shared ta_Empty_Shared ta_Nil_Shared ta_Atom_Chain ta_Public_Chain ta_Shared_Chain ta_Chain_Chain ta_Digest_Chain ta_Box_Chain ta_Empty_Chain ta_Nil_Chain ta_Atom_Digest ta_Public_Digest ta_Shared_Digest ta_Chain_Digest ta_Digest_Digest ta_Box_Digest ta_Empty_Digest ta_Nil_Digest ta_Atom_Box ta_Public_Box ta_Shared_Box ta_Chain_Box ta_Digest_Box ta_Box_Box ta_Empty_Box ta_Nil_Box ta_Atom_Empty ta_Public_Empty ta_Shared_Empty ta_Chain_Empty ta_Digest_Empty ta_Box_Empty ta_Empty_Empty ta_Nil_Empty
variable {f : Int → List UInt8} {P : Int → Prop} {w0 w W W2 W3 : World} {μ μ2 : MS} {c d wb : Nat} {B : Int} {F : Nat → Prop}


set_option maxHeartbeats 64000000 in
set_option maxRecDepth 100000 in
theorem play_law (N : Nums f P) (hP : ∀ n, P1 n → P n) (hI : Itoa w Small f) (av : Option Addr) (cap : Nat) (l : List Raw) (hl : l.length ≤ 9223372036854775807) (hr : RawAt w av l) :
    Calls Tryz.prog 11 #[.slice av l.length cap] w fun e w' => ∃ wb μ, e = .returned (ptr wb) ∧ PlayW f P w w' wb μ := by
  have HN := hid N
  have HP := hid hP
  have HR := hid hr
  have HE0 := hid (Ext.alloc w (.cells #[.int .i64 1, .int .i64 2, .int .i64 3, .int .i64 4] 3 (0, 0)))
  have HI := hid (hI.later HE0.out)
  have HNW := hid (new_w (W := w.alloc (.cells #[.int .i64 1, .int .i64 2, .int .i64 3, .int .i64 4] 3 (0, 0))) (sa := some ⟨w.heap.size, 0, none⟩) (sc := 4) N hP HI.out (ns := [1, 2, 3, 4]) (by decide) (by decide) (by decide) (rd_new _ _ _ _ _ (blk_new w _) rfl))
  have HNS : Hid ((newMS f P [1, 2, 3, 4]).statics = [1, 2, 3, 4]) := hid (by
    have := (sees_same (f := f) (P := P) (μ := newMS0 f [1, 2, 3, 4]) (newMS0 f [1, 2, 3, 4]).pool).2.2.2.1
    exact this.trans (newMS0_statics _))
  clear N hP hI hr
  go_enter Tryz.func11, Tryz.ntmps11
  go_wp2_with fail
  refine HNW.out.mono ?_
  rintro e w2 ⟨wb, rfl, hw2⟩
  have HW0 := hid (hw2.mono (Nat.le_refl _) (Nat.le_refl _) (by omega : (0 : Int) ≤ 59))
  clear hw2 HNW
  generalize newMS f P [1, 2, 3, 4] = μ0 at *
  generalize World.alloc w _ = w1 at *
  go_wp2_with fail
  go_loopw [4, 5] (fun lv iv wr => ∃ (i : Nat) (last : Int) (μ : MS), lv = .int .i64 last ∧ iv = .int .i64 i ∧ i ≤ l.length ∧ i ≤ 60 ∧ (0 ≤ last ∧ last ≤ 300) ∧ Hid (Wd f P i i 59 (fun _ => False) w1 wr wb μ) ∧ Hid (μ.statics = [1, 2, 3, 4])) (fun _ iv _ => 60 - (intOf iv).toNat)
  case atStart => exact ⟨0, 0, μ0, rfl, rfl, by omega, by omega, by omega, HW0, HNS⟩
  case round =>
    clear HW0 HNS
    obtain ⟨i, last, μ, rfl, rfl, hi, hi6, hlast, HW0, HST⟩ := hrel
    by_cases hlt : i < l.length
    · by_cases h60 : i < 60
      · have hlt2 : (i : Int) < (l.length : Int) := by omega
        have h602 : (i : Int) < 60 := by omega
        obtain ⟨bk, o, rfl, k0, k1, k2, k3, k4⟩ := HR.out i hlt
        have hEw := HE0.out.trans HW0.out.ext
        have c0 := hEw.cell k0
        have c1 := hEw.cell k1
        have c2 := hEw.cell k2
        have c3 := hEw.cell k3
        have c4 := hEw.cell k4
        clear k0 k1 k2 k3 k4 hEw
        generalize l[i].kind = rk at *
        generalize l[i].n = rn at *
        generalize l[i].a = ra at *
        generalize l[i].b = rb at *
        generalize l[i].c = rc at *
        go_upto_region 9 with fail
        have HWx := hid (HW0.out.free (G := fun b => b = wr.heap.size) (Ext.alloc wr (.cells #[.int .i64 rk, .int .i64 rn, .int .i64 ra, .int .i64 rb, .int .i64 rc] 57 (0, 0))) (fun b hb => .inr ⟨by omega, by simp; omega⟩))
        have HPx := hid (blk_new wr (.cells #[.int .i64 rk, .int .i64 rn, .int .i64 ra, .int .i64 rb, .int .i64 rc] 57 (0, 0)))
        generalize World.alloc wr _ = W2 at *
        generalize wr.heap.size = p at *
        clear c0 c1 c2 c3 c4 HW0
        go_wp2_with fail
        refine (sides_w HN.out.small HP.out HWx.out (by omega) (by omega)).mono ?_
        rintro e W3 ⟨sa, sc, rfl, _, hE3⟩
        have HW := hid (HWx.out.later hE3)
        have HPB := hid (hE3.blk HPx.out)
        have hls := HWx.out.inv.few
        clear hE3 HWx HPx
        generalize hlsg : μ.sides.length = ls at *
        clear hlsg
        have x0 : W3.cell? ⟨p, 0, none⟩ = some (.int .i64 rk) := cell_blk HPB.out rfl
        have x2 : W3.cell? ⟨p, 2, none⟩ = some (.int .i64 ra) := cell_blk HPB.out rfl
        have x3 : W3.cell? ⟨p, 3, none⟩ = some (.int .i64 rb) := cell_blk HPB.out rfl
        have x4 : W3.cell? ⟨p, 4, none⟩ = some (.int .i64 rc) := cell_blk HPB.out rfl
        go_wp2_with fail
        refine (pick_any rk 9 _ (by omega) (by omega)).mono ?_
        rintro e wx ⟨rfl, rfl⟩
        clear x0 x2 x3 x4
        have hkk : rk % 9 = 0 ∨ rk % 9 = 1 ∨ rk % 9 = 2 ∨ rk % 9 = 3 ∨ rk % 9 = 4 ∨ rk % 9 = 5 ∨ rk % 9 = 6 ∨ rk % 9 = 7 ∨ rk % 9 = 8 := by omega
        generalize rk % 9 = kk at *
        go_upto_block 2 with fail
        rcases hkk with rfl | rfl | rfl | rfl | rfl | rfl | rfl | rfl | rfl
        · refine play_arm0 _ w1 W3 wb i p ls sc sa μ last rk rn ra rb rc _ _ _ _ _ _ _ _ _ _ _ _ _ _ _ _ _ _ _ _ _ _ _ _ _ _ _ _ _ _ _ _ _ _ _ _ _ _ _ _ _ _ _ _ _ _ _ _ _ _ _ _ _ _ _ _ _ _ _ _ _ _ _ _ _ _ _ _ _ _ _ _ _ _ _ _ _ _ _ _ _ _ _ _ _ _ _ _ _ _ _ _ _ _ _ _ _ _ _ _ _ _ _ _ _ _ _ _ _ _ _ _ _ _ _ _ _ _ _ _ _ _ _ _ _ _ _ _ _ _ _ _ _ _ _ _ _ _ _ _ _ _ _ _ _ _ _ _ _ _ _ _ _ _ _ _ _ _ _ _ _ _ _ _ _ _ _ _ _ _ _ _ _ _ _ _ _ _ _ _ _ _ _ HN HP HI HW HPB HST hlast hls h60 ?_
          intro y8 y9 y10 y11 y12 y13 y14 y38 y39 y40 y41 y42 y43 y44 y45 y46 y47 y48 y49 y50 y51 y52 y53 y54 y55 y56 y57 y58 y59 y60 y61 y62 y63 y64 y65 y66 y67 y68 y69 y70 y71 y72 y73 y74 y75 y76 y77 y78 y79 y80 y81 y82 y83 y84 y85 y86 y87 y88 y89 y90 y91 y92 y93 y94 y95 y96 y97 y98 y99 y100 y101 y102 y103 y104 y105 y106 y107 y108 y109 y110 y111 y112 y113 y114 y115 y116 y117 y118 y119 y120 y121 y122 y123 y124 y125 y126 y127 y128 y129 y130 y131 y132 y133 y134 y135 y136 y137 y138 y139 y140 y141 y142 y143 y144 y145 y146 y147 y148 y149 y150 y151 y152 y153 y154 y155 y156 y157 y158 y159 y160 y161 y162 y163 y164 y165 y166 y167 y168 y169 y170 y171 y172 y173 y174 y175 y176 y177 y178 y179 y180 y181 y182 y183 y184 y185 y186 y187 last2 w' μ2 hb2 HW2 HST2
          go_wp2_with fail
          go_roundw
          case rel => exact ⟨i + 1, last2, μ2, rfl, by go_num, by omega, by omega, hb2, HW2, HST2⟩
          case measure => simp [intOf]; omega
        · refine play_arm1 _ w1 W3 wb i p ls sc sa μ last rk rn ra rb rc _ _ _ _ _ _ _ _ _ _ _ _ _ _ _ _ _ _ _ _ _ _ _ _ _ _ _ _ _ _ _ _ _ _ _ _ _ _ _ _ _ _ _ _ _ _ _ _ _ _ _ _ _ _ _ _ _ _ _ _ _ _ _ _ _ _ _ _ _ _ _ _ _ _ _ _ _ _ _ _ _ _ _ _ _ _ _ _ _ _ _ _ _ _ _ _ _ _ _ _ _ _ _ _ _ _ _ _ _ _ _ _ _ _ _ _ _ _ _ _ _ _ _ _ _ _ _ _ _ _ _ _ _ _ _ _ _ _ _ _ _ _ _ _ _ _ _ _ _ _ _ _ _ _ _ _ _ _ _ _ _ _ _ _ _ _ _ _ _ _ _ _ _ _ _ _ _ _ _ _ _ _ _ HN HP HI HW HPB HST hlast hls h60 ?_
          intro y8 y9 y10 y11 y12 y13 y14 y38 y39 y40 y41 y42 y43 y44 y45 y46 y47 y48 y49 y50 y51 y52 y53 y54 y55 y56 y57 y58 y59 y60 y61 y62 y63 y64 y65 y66 y67 y68 y69 y70 y71 y72 y73 y74 y75 y76 y77 y78 y79 y80 y81 y82 y83 y84 y85 y86 y87 y88 y89 y90 y91 y92 y93 y94 y95 y96 y97 y98 y99 y100 y101 y102 y103 y104 y105 y106 y107 y108 y109 y110 y111 y112 y113 y114 y115 y116 y117 y118 y119 y120 y121 y122 y123 y124 y125 y126 y127 y128 y129 y130 y131 y132 y133 y134 y135 y136 y137 y138 y139 y140 y141 y142 y143 y144 y145 y146 y147 y148 y149 y150 y151 y152 y153 y154 y155 y156 y157 y158 y159 y160 y161 y162 y163 y164 y165 y166 y167 y168 y169 y170 y171 y172 y173 y174 y175 y176 y177 y178 y179 y180 y181 y182 y183 y184 y185 y186 y187 last2 w' μ2 hb2 HW2 HST2
          go_wp2_with fail
          go_roundw
          case rel => exact ⟨i + 1, last2, μ2, rfl, by go_num, by omega, by omega, hb2, HW2, HST2⟩
          case measure => simp [intOf]; omega
        · refine play_arm2 _ w1 W3 wb i p ls sc sa μ last rk rn ra rb rc _ _ _ _ _ _ _ _ _ _ _ _ _ _ _ _ _ _ _ _ _ _ _ _ _ _ _ _ _ _ _ _ _ _ _ _ _ _ _ _ _ _ _ _ _ _ _ _ _ _ _ _ _ _ _ _ _ _ _ _ _ _ _ _ _ _ _ _ _ _ _ _ _ _ _ _ _ _ _ _ _ _ _ _ _ _ _ _ _ _ _ _ _ _ _ _ _ _ _ _ _ _ _ _ _ _ _ _ _ _ _ _ _ _ _ _ _ _ _ _ _ _ _ _ _ _ _ _ _ _ _ _ _ _ _ _ _ _ _ _ _ _ _ _ _ _ _ _ _ _ _ _ _ _ _ _ _ _ _ _ _ _ _ _ _ _ _ _ _ _ _ _ _ _ _ _ _ _ _ _ _ _ _ HN HP HI HW HPB HST hlast hls h60 ?_
          intro y8 y9 y10 y11 y12 y13 y14 y38 y39 y40 y41 y42 y43 y44 y45 y46 y47 y48 y49 y50 y51 y52 y53 y54 y55 y56 y57 y58 y59 y60 y61 y62 y63 y64 y65 y66 y67 y68 y69 y70 y71 y72 y73 y74 y75 y76 y77 y78 y79 y80 y81 y82 y83 y84 y85 y86 y87 y88 y89 y90 y91 y92 y93 y94 y95 y96 y97 y98 y99 y100 y101 y102 y103 y104 y105 y106 y107 y108 y109 y110 y111 y112 y113 y114 y115 y116 y117 y118 y119 y120 y121 y122 y123 y124 y125 y126 y127 y128 y129 y130 y131 y132 y133 y134 y135 y136 y137 y138 y139 y140 y141 y142 y143 y144 y145 y146 y147 y148 y149 y150 y151 y152 y153 y154 y155 y156 y157 y158 y159 y160 y161 y162 y163 y164 y165 y166 y167 y168 y169 y170 y171 y172 y173 y174 y175 y176 y177 y178 y179 y180 y181 y182 y183 y184 y185 y186 y187 last2 w' μ2 hb2 HW2 HST2
          go_wp2_with fail
          go_roundw
          case rel => exact ⟨i + 1, last2, μ2, rfl, by go_num, by omega, by omega, hb2, HW2, HST2⟩
          case measure => simp [intOf]; omega
        · refine play_arm3 _ w1 W3 wb i p ls sc sa μ last rk rn ra rb rc _ _ _ _ _ _ _ _ _ _ _ _ _ _ _ _ _ _ _ _ _ _ _ _ _ _ _ _ _ _ _ _ _ _ _ _ _ _ _ _ _ _ _ _ _ _ _ _ _ _ _ _ _ _ _ _ _ _ _ _ _ _ _ _ _ _ _ _ _ _ _ _ _ _ _ _ _ _ _ _ _ _ _ _ _ _ _ _ _ _ _ _ _ _ _ _ _ _ _ _ _ _ _ _ _ _ _ _ _ _ _ _ _ _ _ _ _ _ _ _ _ _ _ _ _ _ _ _ _ _ _ _ _ _ _ _ _ _ _ _ _ _ _ _ _ _ _ _ _ _ _ _ _ _ _ _ _ _ _ _ _ _ _ _ _ _ _ _ _ _ _ _ _ _ _ _ _ _ _ _ _ _ _ HN HP HI HW HPB HST hlast hls h60 ?_
          intro y8 y9 y10 y11 y12 y13 y14 y38 y39 y40 y41 y42 y43 y44 y45 y46 y47 y48 y49 y50 y51 y52 y53 y54 y55 y56 y57 y58 y59 y60 y61 y62 y63 y64 y65 y66 y67 y68 y69 y70 y71 y72 y73 y74 y75 y76 y77 y78 y79 y80 y81 y82 y83 y84 y85 y86 y87 y88 y89 y90 y91 y92 y93 y94 y95 y96 y97 y98 y99 y100 y101 y102 y103 y104 y105 y106 y107 y108 y109 y110 y111 y112 y113 y114 y115 y116 y117 y118 y119 y120 y121 y122 y123 y124 y125 y126 y127 y128 y129 y130 y131 y132 y133 y134 y135 y136 y137 y138 y139 y140 y141 y142 y143 y144 y145 y146 y147 y148 y149 y150 y151 y152 y153 y154 y155 y156 y157 y158 y159 y160 y161 y162 y163 y164 y165 y166 y167 y168 y169 y170 y171 y172 y173 y174 y175 y176 y177 y178 y179 y180 y181 y182 y183 y184 y185 y186 y187 last2 w' μ2 hb2 HW2 HST2
          go_wp2_with fail
          go_roundw
          case rel => exact ⟨i + 1, last2, μ2, rfl, by go_num, by omega, by omega, hb2, HW2, HST2⟩
          case measure => simp [intOf]; omega
        · refine play_arm4 _ w1 W3 wb i p ls sc sa μ last rk rn ra rb rc _ _ _ _ _ _ _ _ _ _ _ _ _ _ _ _ _ _ _ _ _ _ _ _ _ _ _ _ _ _ _ _ _ _ _ _ _ _ _ _ _ _ _ _ _ _ _ _ _ _ _ _ _ _ _ _ _ _ _ _ _ _ _ _ _ _ _ _ _ _ _ _ _ _ _ _ _ _ _ _ _ _ _ _ _ _ _ _ _ _ _ _ _ _ _ _ _ _ _ _ _ _ _ _ _ _ _ _ _ _ _ _ _ _ _ _ _ _ _ _ _ _ _ _ _ _ _ _ _ _ _ _ _ _ _ _ _ _ _ _ _ _ _ _ _ _ _ _ _ _ _ _ _ _ _ _ _ _ _ _ _ _ _ _ _ _ _ _ _ _ _ _ _ _ _ _ _ _ _ _ _ _ _ HN HP HI HW HPB HST hlast hls h60 ?_
          intro y8 y9 y10 y11 y12 y13 y14 y38 y39 y40 y41 y42 y43 y44 y45 y46 y47 y48 y49 y50 y51 y52 y53 y54 y55 y56 y57 y58 y59 y60 y61 y62 y63 y64 y65 y66 y67 y68 y69 y70 y71 y72 y73 y74 y75 y76 y77 y78 y79 y80 y81 y82 y83 y84 y85 y86 y87 y88 y89 y90 y91 y92 y93 y94 y95 y96 y97 y98 y99 y100 y101 y102 y103 y104 y105 y106 y107 y108 y109 y110 y111 y112 y113 y114 y115 y116 y117 y118 y119 y120 y121 y122 y123 y124 y125 y126 y127 y128 y129 y130 y131 y132 y133 y134 y135 y136 y137 y138 y139 y140 y141 y142 y143 y144 y145 y146 y147 y148 y149 y150 y151 y152 y153 y154 y155 y156 y157 y158 y159 y160 y161 y162 y163 y164 y165 y166 y167 y168 y169 y170 y171 y172 y173 y174 y175 y176 y177 y178 y179 y180 y181 y182 y183 y184 y185 y186 y187 last2 w' μ2 hb2 HW2 HST2
          go_wp2_with fail
          go_roundw
          case rel => exact ⟨i + 1, last2, μ2, rfl, by go_num, by omega, by omega, hb2, HW2, HST2⟩
          case measure => simp [intOf]; omega
        · refine play_arm5 _ w1 W3 wb i p ls sc sa μ last rk rn ra rb rc _ _ _ _ _ _ _ _ _ _ _ _ _ _ _ _ _ _ _ _ _ _ _ _ _ _ _ _ _ _ _ _ _ _ _ _ _ _ _ _ _ _ _ _ _ _ _ _ _ _ _ _ _ _ _ _ _ _ _ _ _ _ _ _ _ _ _ _ _ _ _ _ _ _ _ _ _ _ _ _ _ _ _ _ _ _ _ _ _ _ _ _ _ _ _ _ _ _ _ _ _ _ _ _ _ _ _ _ _ _ _ _ _ _ _ _ _ _ _ _ _ _ _ _ _ _ _ _ _ _ _ _ _ _ _ _ _ _ _ _ _ _ _ _ _ _ _ _ _ _ _ _ _ _ _ _ _ _ _ _ _ _ _ _ _ _ _ _ _ _ _ _ _ _ _ _ _ _ _ _ _ _ _ HN HP HI HW HPB HST hlast hls h60 ?_
          intro y8 y9 y10 y11 y12 y13 y14 y38 y39 y40 y41 y42 y43 y44 y45 y46 y47 y48 y49 y50 y51 y52 y53 y54 y55 y56 y57 y58 y59 y60 y61 y62 y63 y64 y65 y66 y67 y68 y69 y70 y71 y72 y73 y74 y75 y76 y77 y78 y79 y80 y81 y82 y83 y84 y85 y86 y87 y88 y89 y90 y91 y92 y93 y94 y95 y96 y97 y98 y99 y100 y101 y102 y103 y104 y105 y106 y107 y108 y109 y110 y111 y112 y113 y114 y115 y116 y117 y118 y119 y120 y121 y122 y123 y124 y125 y126 y127 y128 y129 y130 y131 y132 y133 y134 y135 y136 y137 y138 y139 y140 y141 y142 y143 y144 y145 y146 y147 y148 y149 y150 y151 y152 y153 y154 y155 y156 y157 y158 y159 y160 y161 y162 y163 y164 y165 y166 y167 y168 y169 y170 y171 y172 y173 y174 y175 y176 y177 y178 y179 y180 y181 y182 y183 y184 y185 y186 y187 last2 w' μ2 hb2 HW2 HST2
          go_wp2_with fail
          go_roundw
          case rel => exact ⟨i + 1, last2, μ2, rfl, by go_num, by omega, by omega, hb2, HW2, HST2⟩
          case measure => simp [intOf]; omega
        · refine play_arm6 _ w1 W3 wb i p ls sc sa μ last rk rn ra rb rc _ _ _ _ _ _ _ _ _ _ _ _ _ _ _ _ _ _ _ _ _ _ _ _ _ _ _ _ _ _ _ _ _ _ _ _ _ _ _ _ _ _ _ _ _ _ _ _ _ _ _ _ _ _ _ _ _ _ _ _ _ _ _ _ _ _ _ _ _ _ _ _ _ _ _ _ _ _ _ _ _ _ _ _ _ _ _ _ _ _ _ _ _ _ _ _ _ _ _ _ _ _ _ _ _ _ _ _ _ _ _ _ _ _ _ _ _ _ _ _ _ _ _ _ _ _ _ _ _ _ _ _ _ _ _ _ _ _ _ _ _ _ _ _ _ _ _ _ _ _ _ _ _ _ _ _ _ _ _ _ _ _ _ _ _ _ _ _ _ _ _ _ _ _ _ _ _ _ _ _ _ _ _ HN HP HI HW HPB HST hlast hls h60 ?_
          intro y8 y9 y10 y11 y12 y13 y14 y38 y39 y40 y41 y42 y43 y44 y45 y46 y47 y48 y49 y50 y51 y52 y53 y54 y55 y56 y57 y58 y59 y60 y61 y62 y63 y64 y65 y66 y67 y68 y69 y70 y71 y72 y73 y74 y75 y76 y77 y78 y79 y80 y81 y82 y83 y84 y85 y86 y87 y88 y89 y90 y91 y92 y93 y94 y95 y96 y97 y98 y99 y100 y101 y102 y103 y104 y105 y106 y107 y108 y109 y110 y111 y112 y113 y114 y115 y116 y117 y118 y119 y120 y121 y122 y123 y124 y125 y126 y127 y128 y129 y130 y131 y132 y133 y134 y135 y136 y137 y138 y139 y140 y141 y142 y143 y144 y145 y146 y147 y148 y149 y150 y151 y152 y153 y154 y155 y156 y157 y158 y159 y160 y161 y162 y163 y164 y165 y166 y167 y168 y169 y170 y171 y172 y173 y174 y175 y176 y177 y178 y179 y180 y181 y182 y183 y184 y185 y186 y187 last2 w' μ2 hb2 HW2 HST2
          go_wp2_with fail
          go_roundw
          case rel => exact ⟨i + 1, last2, μ2, rfl, by go_num, by omega, by omega, hb2, HW2, HST2⟩
          case measure => simp [intOf]; omega
        · refine play_arm7 _ w1 W3 wb i p ls sc sa μ last rk rn ra rb rc _ _ _ _ _ _ _ _ _ _ _ _ _ _ _ _ _ _ _ _ _ _ _ _ _ _ _ _ _ _ _ _ _ _ _ _ _ _ _ _ _ _ _ _ _ _ _ _ _ _ _ _ _ _ _ _ _ _ _ _ _ _ _ _ _ _ _ _ _ _ _ _ _ _ _ _ _ _ _ _ _ _ _ _ _ _ _ _ _ _ _ _ _ _ _ _ _ _ _ _ _ _ _ _ _ _ _ _ _ _ _ _ _ _ _ _ _ _ _ _ _ _ _ _ _ _ _ _ _ _ _ _ _ _ _ _ _ _ _ _ _ _ _ _ _ _ _ _ _ _ _ _ _ _ _ _ _ _ _ _ _ _ _ _ _ _ _ _ _ _ _ _ _ _ _ _ _ _ _ _ _ _ _ HN HP HI HW HPB HST hlast hls h60 ?_
          intro y8 y9 y10 y11 y12 y13 y14 y38 y39 y40 y41 y42 y43 y44 y45 y46 y47 y48 y49 y50 y51 y52 y53 y54 y55 y56 y57 y58 y59 y60 y61 y62 y63 y64 y65 y66 y67 y68 y69 y70 y71 y72 y73 y74 y75 y76 y77 y78 y79 y80 y81 y82 y83 y84 y85 y86 y87 y88 y89 y90 y91 y92 y93 y94 y95 y96 y97 y98 y99 y100 y101 y102 y103 y104 y105 y106 y107 y108 y109 y110 y111 y112 y113 y114 y115 y116 y117 y118 y119 y120 y121 y122 y123 y124 y125 y126 y127 y128 y129 y130 y131 y132 y133 y134 y135 y136 y137 y138 y139 y140 y141 y142 y143 y144 y145 y146 y147 y148 y149 y150 y151 y152 y153 y154 y155 y156 y157 y158 y159 y160 y161 y162 y163 y164 y165 y166 y167 y168 y169 y170 y171 y172 y173 y174 y175 y176 y177 y178 y179 y180 y181 y182 y183 y184 y185 y186 y187 last2 w' μ2 hb2 HW2 HST2
          go_wp2_with fail
          go_roundw
          case rel => exact ⟨i + 1, last2, μ2, rfl, by go_num, by omega, by omega, hb2, HW2, HST2⟩
          case measure => simp [intOf]; omega
        · refine play_arm8 _ w1 W3 wb i p ls sc sa μ last rk rn ra rb rc _ _ _ _ _ _ _ _ _ _ _ _ _ _ _ _ _ _ _ _ _ _ _ _ _ _ _ _ _ _ _ _ _ _ _ _ _ _ _ _ _ _ _ _ _ _ _ _ _ _ _ _ _ _ _ _ _ _ _ _ _ _ _ _ _ _ _ _ _ _ _ _ _ _ _ _ _ _ _ _ _ _ _ _ _ _ _ _ _ _ _ _ _ _ _ _ _ _ _ _ _ _ _ _ _ _ _ _ _ _ _ _ _ _ _ _ _ _ _ _ _ _ _ _ _ _ _ _ _ _ _ _ _ _ _ _ _ _ _ _ _ _ _ _ _ _ _ _ _ _ _ _ _ _ _ _ _ _ _ _ _ _ _ _ _ _ _ _ _ _ _ _ _ _ _ _ _ _ _ _ _ _ _ HN HP HI HW HPB HST hlast hls h60 ?_
          intro y8 y9 y10 y11 y12 y13 y14 y38 y39 y40 y41 y42 y43 y44 y45 y46 y47 y48 y49 y50 y51 y52 y53 y54 y55 y56 y57 y58 y59 y60 y61 y62 y63 y64 y65 y66 y67 y68 y69 y70 y71 y72 y73 y74 y75 y76 y77 y78 y79 y80 y81 y82 y83 y84 y85 y86 y87 y88 y89 y90 y91 y92 y93 y94 y95 y96 y97 y98 y99 y100 y101 y102 y103 y104 y105 y106 y107 y108 y109 y110 y111 y112 y113 y114 y115 y116 y117 y118 y119 y120 y121 y122 y123 y124 y125 y126 y127 y128 y129 y130 y131 y132 y133 y134 y135 y136 y137 y138 y139 y140 y141 y142 y143 y144 y145 y146 y147 y148 y149 y150 y151 y152 y153 y154 y155 y156 y157 y158 y159 y160 y161 y162 y163 y164 y165 y166 y167 y168 y169 y170 y171 y172 y173 y174 y175 y176 y177 y178 y179 y180 y181 y182 y183 y184 y185 y186 y187 last2 w' μ2 hb2 HW2 HST2
          go_wp2_with fail
          go_roundw
          case rel => exact ⟨i + 1, last2, μ2, rfl, by go_num, by omega, by omega, hb2, HW2, HST2⟩
          case measure => simp [intOf]; omega
      · have h602 : ¬ (i : Int) < 60 := by omega
        have hlt2 : (i : Int) < (l.length : Int) := by omega
        go_wp2_with fail
        go_ret
        exact ⟨wb, rfl, μ, ⟨⟨w1, HE0.out, (HW0.out.mono (by omega) (by omega) (by omega)).less (fun b hb => False.elim hb)⟩, HST.out⟩⟩
    · have hlt2 : ¬ (i : Int) < (l.length : Int) := by omega
      go_wp2_with fail
      go_ret
      exact ⟨wb, rfl, μ, ⟨⟨w1, HE0.out, (HW0.out.mono (by omega) (by omega) (by omega)).less (fun b hb => False.elim hb)⟩, HST.out⟩⟩

end Go.Proofs.YtjodmedgkmeklaaGreat
