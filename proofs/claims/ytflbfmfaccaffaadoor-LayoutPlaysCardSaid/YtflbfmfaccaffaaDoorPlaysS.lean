/-
  The walk of LayoutPlays: one call on both trees.
-/
import Derived.Test.YtflbfmfaccaffaaDoorR10
import Derived.Test.YtflbfmfaccaffaaDoorStepRowR
import Derived.Deep.DeepCutAuto
import Derived.Deep.Cut
import Derived.Deep.CutRange
import Derived.Deep.CutBlock
namespace Go.Proofs.YtflbfmfaccaffaaDoor
open Go Go.RowKit
attribute [local go_sem] extUpon
attribute [local go_sem ↓] eval_put_ne eval_put_none eval_put_same size_put eval_const

theorem beq_dec (y a : Int) : (y == a) = decide (y = a) := Bool.eq_iff_iff.2 (by simp)
theorem mod_bd (a m : Int) (hm : 0 < m) : 0 ≤ a % m ∧ a % m < m := ⟨Int.emod_nonneg a (by omega), Int.emod_lt_of_pos a hm⟩



/-- The code of block 2 out of a piece of code. -/
def blockOf (n : Nat) : Code → Option Code
  | .block m c => if m = n then some (.block m c) else blockOf n c
  | .seq a b => match blockOf n a with
    | some c => some c
    | none => blockOf n b
  | .loop c => blockOf n c
  | .scope c => blockOf n c
  | .cond _ a b => match blockOf n a with
    | some c => some c
    | none => blockOf n b
  | _ => none
noncomputable def switchCode : Code := ((Tryd.f8.body.bind (blockOf 2)).getD .skip)

set_option maxHeartbeats 8000000 in
set_option maxRecDepth 1000000 in
theorem plays_switch (Q : Exit → Act → World → Prop) (w W : World) (tb rb xb : Nat) (t u : LT) (rr ccc a b pw x0 x1 x2 x4 x5 x6 : Int) (x3 : Bool) (v0 v3 v4 v5 v6 v7 v8 v11 v16 v17 v18 v19 v20 v21 v22 v23 v24 v25 v26 v27 v28 v29 v30 v31 v32 v33 v34 v35 v36 v37 v38 v39 v40 v41 v42 v43 v44 v45 v46 v47 v48 v49 v50 v51 v52 v53 v54 v55 v56 v57 v58 v59 v60 v61 v62 v63 v64 v65 v66 v67 v68 v69 v70 v71 v72 v73 v75 v76 v77 v78 v79 v80 v81 v82 v83 v84 v85 v86 v87 v88 v89 v90 v91 v92 v93 v94 v95 v96 v97 v98 v99 v100 v101 v102 v103 v104 v105 v106 v107 v108 v109 v110 v111 v112 v113 v114 v115 v116 v117 v118 v119 v120 v121 v122 v123 v124 v125 v126 v127 v128 v129 v130 v131 v132 v133 v134 v135 v136 v137 v138 v139 v140 v141 v142 v143 v144 v145 v146 v147 v148 v149 v150 v151 v152 v153 v154 v155 v156 v157 v158 v159 v160 v161 v162 v163 v164 v165 v166 v167 v168 v169 v170 v171 v172 v173 v174 v175 v176 v177 v178 v179 v180 v181 v182 v183 v184 v185 v186 v187 v188 v189 v190 v191 v192 v193 v194 v195 v196 v197 v198 v199 v200 v201 v202 v203 v204 v205 v206 v207 v208 v209 v210 v211 v212 v213 v214 v215 v216 : Value)
    (HP : Hid (Pair w W (tb + 1) rb t u)) (HXB : Hid (W.heap[xb]? = some (.cells #[.int .i64 x0, .int .i64 x1, .int .i64 x2, .bool x3, .int .i64 x4, .int .i64 x5, .int .i64 x6] 38 (0, 0))))
    (hxt : Hid (xb ∉ t.blocks)) (hxu : Hid (xb ∉ u.blocks)) (hr1 : rr ≤ 1000) (hc1 : ccc ≤ 1000) (hbr2 : IntR b) (hpw0 : 0 ≤ pw) (hpw1 : pw < 9)
    (hexit : ∀ (y75 y76 y77 y78 y79 y80 y81 y82 y83 y84 y85 y86 y87 y88 y89 y90 y91 y92 y93 y94 y95 y96 y97 y98 y99 y100 y101 y102 y103 y104 y105 y106 y107 y108 y109 y110 y111 y112 y113 y114 y115 y116 y117 y118 y119 y120 y121 y122 y123 y124 y125 y126 y127 y128 y129 y130 y131 y132 y133 : Value) (w' : World) (t2 u2 : LT), Hid (Pair w w' (tb + 1) rb t2 u2) → Q .normal ⟨#[v0, .int .i64 rr, .int .i64 ccc, v3, v4, v5, v6, v7, v8, .pointer (some ⟨tb + 1, 0, none⟩), .pointer (some ⟨rb, 0, none⟩), v11, .pointer (some ⟨xb, 0, none⟩), .int .i64 a, .int .i64 b, .bool true, v16, v17, v18, v19, v20, v21, v22, v23, v24, v25, v26, v27, v28, v29, v30, v31, v32, v33, v34, v35, v36, v37, v38, v39, v40, v41, v42, v43, v44, v45, v46, v47, v48, v49, v50, v51, v52, v53, v54, v55, v56, v57, v58, v59, v60, v61, v62, v63, v64, v65, v66, v67, v68, v69, v70, v71, v72, v73, .int .i64 pw, y75, y76, y77, y78, y79, y80, y81, y82, y83, y84, y85, y86, y87, y88, y89, y90, y91, y92, y93, y94, y95, y96, y97, y98, y99, y100, y101, y102, y103, y104, y105, y106, y107, y108, y109, y110, y111, y112, y113, y114, y115, y116, y117, y118, y119, y120, y121, y122, y123, y124, y125, y126, y127, y128, y129, y130, y131, y132, y133, v134, v135, v136, v137, v138, v139, v140, v141, v142, v143, v144, v145, v146, v147, v148, v149, v150, v151, v152, v153, v154, v155, v156, v157, v158, v159, v160, v161, v162, v163, v164, v165, v166, v167, v168, v169, v170, v171, v172, v173, v174, v175, v176, v177, v178, v179, v180, v181, v182, v183, v184, v185, v186, v187, v188, v189, v190, v191, v192, v193, v194, v195, v196, v197, v198, v199, v200, v201, v202, v203, v204, v205, v206, v207, v208, v209, v210, v211, v212, v213, v214, v215, v216], []⟩ w') :
    Code.wp Tryd.prog switchCode Q ⟨#[v0, .int .i64 rr, .int .i64 ccc, v3, v4, v5, v6, v7, v8, .pointer (some ⟨tb + 1, 0, none⟩), .pointer (some ⟨rb, 0, none⟩), v11, .pointer (some ⟨xb, 0, none⟩), .int .i64 a, .int .i64 b, .bool true, v16, v17, v18, v19, v20, v21, v22, v23, v24, v25, v26, v27, v28, v29, v30, v31, v32, v33, v34, v35, v36, v37, v38, v39, v40, v41, v42, v43, v44, v45, v46, v47, v48, v49, v50, v51, v52, v53, v54, v55, v56, v57, v58, v59, v60, v61, v62, v63, v64, v65, v66, v67, v68, v69, v70, v71, v72, v73, .int .i64 pw, v75, v76, v77, v78, v79, v80, v81, v82, v83, v84, v85, v86, v87, v88, v89, v90, v91, v92, v93, v94, v95, v96, v97, v98, v99, v100, v101, v102, v103, v104, v105, v106, v107, v108, v109, v110, v111, v112, v113, v114, v115, v116, v117, v118, v119, v120, v121, v122, v123, v124, v125, v126, v127, v128, v129, v130, v131, v132, v133, v134, v135, v136, v137, v138, v139, v140, v141, v142, v143, v144, v145, v146, v147, v148, v149, v150, v151, v152, v153, v154, v155, v156, v157, v158, v159, v160, v161, v162, v163, v164, v165, v166, v167, v168, v169, v170, v171, v172, v173, v174, v175, v176, v177, v178, v179, v180, v181, v182, v183, v184, v185, v186, v187, v188, v189, v190, v191, v192, v193, v194, v195, v196, v197, v198, v199, v200, v201, v202, v203, v204, v205, v206, v207, v208, v209, v210, v211, v212, v213, v214, v215, v216], []⟩ W := by
  conv => arg 2; whnf
  have hpw : pw = 5 ∨ pw = 6 ∨ pw = 7 ∨ pw = 8 ∨ (pw < 5) := by omega
  rcases hpw with rfl | rfl | rfl | rfl | hpw
  · go_wp2_with fail
    refine (HP.out.kill_l a).mono ?_
    rintro e w3 ⟨c, t2, rfl, hH, _⟩
    go_wp2_with fail
    refine hH.kill_r.mono ?_
    rintro e w4 ⟨u2, rfl, hP2, _⟩
    go_wp2_with fail
    exact hexit _ _ _ _ _ _ _ _ _ _ _ _ _ _ _ _ _ _ _ _ _ _ _ _ _ _ _ _ _ _ _ _ _ _ _ _ _ _ _ _ _ _ _ _ _ _ _ _ _ _ _ _ _ _ _ _ _ _ _ _ _ _ (hid hP2)
  · go_wp2_with fail
    refine (HP.out.swap_l a b).mono ?_
    rintro e w3 ⟨c, t2, rfl, hH, _⟩
    go_wp2_with fail
    refine hH.swap_r.mono ?_
    rintro e w4 ⟨u2, rfl, hP2, _⟩
    go_wp2_with fail
    exact hexit _ _ _ _ _ _ _ _ _ _ _ _ _ _ _ _ _ _ _ _ _ _ _ _ _ _ _ _ _ _ _ _ _ _ _ _ _ _ _ _ _ _ _ _ _ _ _ _ _ _ _ _ _ _ _ _ _ _ _ _ _ _ (hid hP2)
  · skip
    go_wp2_with fail
    refine regR_begin (Keeps xb) (by kernel_rfl) ?_
    generalize hW : World.drew _ = WD
    replace HP := hid (by rw [← hW]; exact HP.out.later (Ext.drew _) : Pair w WD (tb + 1) rb t u)
    replace HXB := hid (by rw [← hW]; exact HXB.out : WD.heap[xb]? = some (.cells #[.int .i64 x0, .int .i64 x1, .int .i64 x2, .bool x3, .int .i64 x4, .int .i64 x5, .int .i64 x6] 38 (0, 0)))
    clear hW
    refine regR_quiet (Keeps.ok _) 0 rfl (by kernel_rfl) (by kernel_rfl) ?_
    apply Exists.intro
    refine ⟨fun w' hw' => ?_, ?_⟩
    · go_simp
      exact ⟨rfl, Ext.refl _⟩
    refine regR_quiet (Keeps.ok _) 1 rfl (by kernel_rfl) (by kernel_rfl) ?_
    apply Exists.intro
    refine ⟨fun w' hw' => ?_, ?_⟩
    · go_simp
      exact ⟨rfl, Ext.refl _⟩
    refine regR_quiet (Keeps.ok _) 2 rfl (by kernel_rfl) (by kernel_rfl) ?_
    apply Exists.intro
    refine ⟨fun w' hw' => ?_, ?_⟩
    · go_simp
      exact ⟨rfl, Ext.refl _⟩
    refine regR_quiet (Keeps.ok _) 3 rfl (by kernel_rfl) (by kernel_rfl) ?_
    apply Exists.intro
    refine ⟨fun w' hw' => ?_, ?_⟩
    · have q0 := cell_blk (j := 3) (hw'.blk HXB.out) rfl
      go_simp
      exact ⟨rfl, Ext.refl _⟩
    refine regR_quiet (Keeps.ok _) 4 rfl (by kernel_rfl) (by kernel_rfl) ?_
    apply Exists.intro
    refine ⟨fun w' hw' => ?_, ?_⟩
    · go_simp
      exact ⟨rfl, Ext.refl _⟩
    refine regR_quiet (Keeps.ok _) 5 rfl (by kernel_rfl) (by kernel_rfl) ?_
    apply Exists.intro
    refine ⟨fun w' hw' => ?_, ?_⟩
    · have q0 := cell_blk (j := 4) (hw'.blk HXB.out) rfl
      go_simp
      exact ⟨rfl, Ext.refl _⟩
    refine regR_quiet (Keeps.ok _) 6 rfl (by kernel_rfl) (by kernel_rfl) ?_
    apply Exists.intro
    refine ⟨fun w' hw' => ?_, ?_⟩
    · go_simp
      exact ⟨rfl, Ext.refl _⟩
    refine regR_quiet (Keeps.ok _) 7 rfl (by kernel_rfl) (by kernel_rfl) ?_
    apply Exists.intro
    refine ⟨fun w' hw' => ?_, ?_⟩
    · go_simp
      exact ⟨rfl, Ext.refl _⟩
    refine regR_quiet (Keeps.ok _) 9 rfl (by kernel_rfl) (by kernel_rfl) ?_
    apply Exists.intro
    refine ⟨fun w' hw' => ?_, ?_⟩
    · go_simp
      exact ⟨rfl, Ext.refl _⟩
    refine regR_quiet (Keeps.ok _) 10 rfl (by kernel_rfl) (by kernel_rfl) ?_
    apply Exists.intro
    refine ⟨fun w' hw' => ?_, ?_⟩
    · go_simp
      exact ⟨rfl, Ext.refl _⟩
    refine regR_quiet (Keeps.ok _) 11 rfl (by kernel_rfl) (by kernel_rfl) ?_
    apply Exists.intro
    refine ⟨fun w' hw' => ?_, ?_⟩
    · go_simp
      exact ⟨rfl, Ext.refl _⟩
    refine regR_quiet (Keeps.ok _) 12 rfl (by kernel_rfl) (by kernel_rfl) ?_
    apply Exists.intro
    refine ⟨fun w' hw' => ?_, ?_⟩
    · have q0 := cell_blk (j := 3) (hw'.blk HXB.out) rfl
      go_simp
      exact ⟨rfl, Ext.refl _⟩
    refine regR_quiet (Keeps.ok _) 13 rfl (by kernel_rfl) (by kernel_rfl) ?_
    apply Exists.intro
    refine ⟨fun w' hw' => ?_, ?_⟩
    · go_simp
      exact ⟨rfl, Ext.refl _⟩
    refine regR_quiet (Keeps.ok _) 14 rfl (by kernel_rfl) (by kernel_rfl) ?_
    apply Exists.intro
    refine ⟨fun w' hw' => ?_, ?_⟩
    · have q0 := cell_blk (j := 4) (hw'.blk HXB.out) rfl
      go_simp
      exact ⟨rfl, Ext.refl _⟩
    refine regR_quiet (Keeps.ok _) 15 rfl (by kernel_rfl) (by kernel_rfl) ?_
    apply Exists.intro
    refine ⟨fun w' hw' => ?_, ?_⟩
    · go_simp
      exact ⟨rfl, Ext.refl _⟩
    refine regR_quiet (Keeps.ok _) 16 rfl (by kernel_rfl) (by kernel_rfl) ?_
    apply Exists.intro
    refine ⟨fun w' hw' => ?_, ?_⟩
    · go_simp
      exact ⟨rfl, Ext.refl _⟩
    refine regR_one 8 rfl (by kernel_rfl) rfl (fun w' hw' => ?_)
    go_simp
    refine ((HP.out.later hw').grow_l a x4 rr ccc x3 (by omega) (by omega)).mono ?_
    rintro e w3 ⟨c, t2, rfl, hH, hWr⟩
    refine ⟨hWr.keeps hxt.out, ?_⟩
    have HH := hid hH
    clear hH hWr hw' HP HXB
    refine regR_one 17 rfl (by kernel_rfl) rfl (fun w5 hw5 => ?_)
    go_simp
    refine (Half.grow_r (by omega) (by omega) (HH.out.later hw5)).mono ?_
    rintro e w4 ⟨u2, rfl, hP2, hWr⟩
    refine ⟨hWr.keeps hxu.out, ?_⟩
    have HP2 := hid hP2
    clear hP2 hWr hw5 HH
    refine regR_quiet (Keeps.ok _) 18 rfl (by kernel_rfl) (by kernel_rfl) ?_
    apply Exists.intro
    refine ⟨fun w' hw' => ?_, ?_⟩
    · go_simp
      exact ⟨rfl, Ext.refl _⟩
    refine regR_quiet (Keeps.ok _) 19 rfl (by kernel_rfl) (by kernel_rfl) ?_
    apply Exists.intro
    refine ⟨fun w' hw' => ?_, ?_⟩
    · go_simp
      exact ⟨rfl, Ext.refl _⟩
    refine regR_done (by kernel_rfl) (fun w6 hw6 => ?_) _
    have HP3 := hid (HP2.out.later hw6)
    clear hw6 HP2
    go_simp
    go_wp2_with fail
    exact hexit _ _ _ _ _ _ _ _ _ _ _ _ _ _ _ _ _ _ _ _ _ _ _ _ _ _ _ _ _ _ _ _ _ _ _ _ _ _ _ _ _ _ _ _ _ _ _ _ _ _ _ _ _ _ _ _ _ _ _ _ _ _ (HP3)
  · skip
    go_wp2_with fail
    refine regR_begin (Keeps xb) (by kernel_rfl) ?_
    generalize hW : World.drew _ = WD
    replace HP := hid (by rw [← hW]; exact HP.out.later (Ext.drew _) : Pair w WD (tb + 1) rb t u)
    replace HXB := hid (by rw [← hW]; exact HXB.out : WD.heap[xb]? = some (.cells #[.int .i64 x0, .int .i64 x1, .int .i64 x2, .bool x3, .int .i64 x4, .int .i64 x5, .int .i64 x6] 38 (0, 0)))
    clear hW
    refine regR_quiet (Keeps.ok _) 0 rfl (by kernel_rfl) (by kernel_rfl) ?_
    apply Exists.intro
    refine ⟨fun w' hw' => ?_, ?_⟩
    · go_simp
      exact ⟨rfl, Ext.refl _⟩
    refine regR_quiet (Keeps.ok _) 1 rfl (by kernel_rfl) (by kernel_rfl) ?_
    apply Exists.intro
    refine ⟨fun w' hw' => ?_, ?_⟩
    · go_simp
      exact ⟨rfl, Ext.refl _⟩
    refine regR_quiet (Keeps.ok _) 2 rfl (by kernel_rfl) (by kernel_rfl) ?_
    apply Exists.intro
    refine ⟨fun w' hw' => ?_, ?_⟩
    · go_simp
      exact ⟨rfl, Ext.refl _⟩
    refine regR_quiet (Keeps.ok _) 3 rfl (by kernel_rfl) (by kernel_rfl) ?_
    apply Exists.intro
    refine ⟨fun w' hw' => ?_, ?_⟩
    · have q0 := cell_blk (j := 3) (hw'.blk HXB.out) rfl
      go_simp
      exact ⟨rfl, Ext.refl _⟩
    refine regR_quiet (Keeps.ok _) 4 rfl (by kernel_rfl) (by kernel_rfl) ?_
    apply Exists.intro
    refine ⟨fun w' hw' => ?_, ?_⟩
    · go_simp
      exact ⟨rfl, Ext.refl _⟩
    refine regR_quiet (Keeps.ok _) 5 rfl (by kernel_rfl) (by kernel_rfl) ?_
    apply Exists.intro
    refine ⟨fun w' hw' => ?_, ?_⟩
    · have q0 := cell_blk (j := 4) (hw'.blk HXB.out) rfl
      go_simp
      exact ⟨rfl, Ext.refl _⟩
    refine regR_quiet (Keeps.ok _) 6 rfl (by kernel_rfl) (by kernel_rfl) ?_
    apply Exists.intro
    refine ⟨fun w' hw' => ?_, ?_⟩
    · go_simp
      exact ⟨rfl, Ext.refl _⟩
    refine regR_quiet (Keeps.ok _) 7 rfl (by kernel_rfl) (by kernel_rfl) ?_
    apply Exists.intro
    refine ⟨fun w' hw' => ?_, ?_⟩
    · go_simp
      exact ⟨rfl, Ext.refl _⟩
    refine regR_quiet (Keeps.ok _) 9 rfl (by kernel_rfl) (by kernel_rfl) ?_
    apply Exists.intro
    refine ⟨fun w' hw' => ?_, ?_⟩
    · go_simp
      exact ⟨rfl, Ext.refl _⟩
    refine regR_quiet (Keeps.ok _) 10 rfl (by kernel_rfl) (by kernel_rfl) ?_
    apply Exists.intro
    refine ⟨fun w' hw' => ?_, ?_⟩
    · go_simp
      exact ⟨rfl, Ext.refl _⟩
    refine regR_quiet (Keeps.ok _) 11 rfl (by kernel_rfl) (by kernel_rfl) ?_
    apply Exists.intro
    refine ⟨fun w' hw' => ?_, ?_⟩
    · go_simp
      exact ⟨rfl, Ext.refl _⟩
    refine regR_quiet (Keeps.ok _) 12 rfl (by kernel_rfl) (by kernel_rfl) ?_
    apply Exists.intro
    refine ⟨fun w' hw' => ?_, ?_⟩
    · have q0 := cell_blk (j := 3) (hw'.blk HXB.out) rfl
      go_simp
      exact ⟨rfl, Ext.refl _⟩
    refine regR_quiet (Keeps.ok _) 13 rfl (by kernel_rfl) (by kernel_rfl) ?_
    apply Exists.intro
    refine ⟨fun w' hw' => ?_, ?_⟩
    · go_simp
      exact ⟨rfl, Ext.refl _⟩
    refine regR_quiet (Keeps.ok _) 14 rfl (by kernel_rfl) (by kernel_rfl) ?_
    apply Exists.intro
    refine ⟨fun w' hw' => ?_, ?_⟩
    · have q0 := cell_blk (j := 4) (hw'.blk HXB.out) rfl
      go_simp
      exact ⟨rfl, Ext.refl _⟩
    refine regR_quiet (Keeps.ok _) 15 rfl (by kernel_rfl) (by kernel_rfl) ?_
    apply Exists.intro
    refine ⟨fun w' hw' => ?_, ?_⟩
    · go_simp
      exact ⟨rfl, Ext.refl _⟩
    refine regR_quiet (Keeps.ok _) 16 rfl (by kernel_rfl) (by kernel_rfl) ?_
    apply Exists.intro
    refine ⟨fun w' hw' => ?_, ?_⟩
    · go_simp
      exact ⟨rfl, Ext.refl _⟩
    refine regR_one 8 rfl (by kernel_rfl) rfl (fun w' hw' => ?_)
    go_simp
    refine ((HP.out.later hw').grow_l a x4 rr ccc x3 (by omega) (by omega)).mono ?_
    rintro e w3 ⟨c, t2, rfl, hH, hWr⟩
    refine ⟨hWr.keeps hxt.out, ?_⟩
    have HH := hid hH
    clear hH hWr hw' HP HXB
    refine regR_one 17 rfl (by kernel_rfl) rfl (fun w5 hw5 => ?_)
    go_simp
    refine (Half.grow_r (by omega) (by omega) (HH.out.later hw5)).mono ?_
    rintro e w4 ⟨u2, rfl, hP2, hWr⟩
    refine ⟨hWr.keeps hxu.out, ?_⟩
    have HP2 := hid hP2
    clear hP2 hWr hw5 HH
    refine regR_quiet (Keeps.ok _) 18 rfl (by kernel_rfl) (by kernel_rfl) ?_
    apply Exists.intro
    refine ⟨fun w' hw' => ?_, ?_⟩
    · go_simp
      exact ⟨rfl, Ext.refl _⟩
    refine regR_quiet (Keeps.ok _) 19 rfl (by kernel_rfl) (by kernel_rfl) ?_
    apply Exists.intro
    refine ⟨fun w' hw' => ?_, ?_⟩
    · go_simp
      exact ⟨rfl, Ext.refl _⟩
    refine regR_done (by kernel_rfl) (fun w6 hw6 => ?_) _
    have HP3 := hid (HP2.out.later hw6)
    clear hw6 HP2
    go_simp
    go_wp2_with fail
    exact hexit _ _ _ _ _ _ _ _ _ _ _ _ _ _ _ _ _ _ _ _ _ _ _ _ _ _ _ _ _ _ _ _ _ _ _ _ _ _ _ _ _ _ _ _ _ _ _ _ _ _ _ _ _ _ _ _ _ _ _ _ _ _ (HP3)
  · skip
    go_wp2_with fail
    refine regR_begin (Keeps xb) (by kernel_rfl) ?_
    generalize hW : World.drew _ = WD
    replace HP := hid (by rw [← hW]; exact HP.out.later (Ext.drew _) : Pair w WD (tb + 1) rb t u)
    replace HXB := hid (by rw [← hW]; exact HXB.out : WD.heap[xb]? = some (.cells #[.int .i64 x0, .int .i64 x1, .int .i64 x2, .bool x3, .int .i64 x4, .int .i64 x5, .int .i64 x6] 38 (0, 0)))
    clear hW
    refine regR_quiet (Keeps.ok _) 0 rfl (by kernel_rfl) (by kernel_rfl) ?_
    apply Exists.intro
    refine ⟨fun w' hw' => ?_, ?_⟩
    · go_simp
      exact ⟨rfl, Ext.refl _⟩
    refine regR_quiet (Keeps.ok _) 1 rfl (by kernel_rfl) (by kernel_rfl) ?_
    apply Exists.intro
    refine ⟨fun w' hw' => ?_, ?_⟩
    · go_simp
      exact ⟨rfl, Ext.refl _⟩
    refine regR_quiet (Keeps.ok _) 2 rfl (by kernel_rfl) (by kernel_rfl) ?_
    apply Exists.intro
    refine ⟨fun w' hw' => ?_, ?_⟩
    · go_simp
      exact ⟨rfl, Ext.refl _⟩
    refine regR_quiet (Keeps.ok _) 3 rfl (by kernel_rfl) (by kernel_rfl) ?_
    apply Exists.intro
    refine ⟨fun w' hw' => ?_, ?_⟩
    · go_simp
      exact ⟨rfl, Ext.refl _⟩
    refine regR_quiet (Keeps.ok _) 4 rfl (by kernel_rfl) (by kernel_rfl) ?_
    apply Exists.intro
    refine ⟨fun w' hw' => ?_, ?_⟩
    · have q0 := cell_blk (j := 3) (hw'.blk HXB.out) rfl
      go_simp
      exact ⟨rfl, Ext.refl _⟩
    refine regR_quiet (Keeps.ok _) 5 rfl (by kernel_rfl) (by kernel_rfl) ?_
    apply Exists.intro
    refine ⟨fun w' hw' => ?_, ?_⟩
    · go_simp
      exact ⟨rfl, Ext.refl _⟩
    refine regR_quiet (Keeps.ok _) 6 rfl (by kernel_rfl) (by kernel_rfl) ?_
    apply Exists.intro
    refine ⟨fun w' hw' => ?_, ?_⟩
    · go_simp
      exact ⟨rfl, Ext.refl _⟩
    refine regR_quiet (Keeps.ok _) 8 rfl (by kernel_rfl) (by kernel_rfl) ?_
    apply Exists.intro
    refine ⟨fun w' hw' => ?_, ?_⟩
    · go_simp
      exact ⟨rfl, Ext.refl _⟩
    refine regR_quiet (Keeps.ok _) 9 rfl (by kernel_rfl) (by kernel_rfl) ?_
    apply Exists.intro
    refine ⟨fun w' hw' => ?_, ?_⟩
    · go_simp
      exact ⟨rfl, Ext.refl _⟩
    refine regR_quiet (Keeps.ok _) 10 rfl (by kernel_rfl) (by kernel_rfl) ?_
    apply Exists.intro
    refine ⟨fun w' hw' => ?_, ?_⟩
    · go_simp
      exact ⟨rfl, Ext.refl _⟩
    refine regR_quiet (Keeps.ok _) 11 rfl (by kernel_rfl) (by kernel_rfl) ?_
    apply Exists.intro
    refine ⟨fun w' hw' => ?_, ?_⟩
    · go_simp
      exact ⟨rfl, Ext.refl _⟩
    refine regR_quiet (Keeps.ok _) 12 rfl (by kernel_rfl) (by kernel_rfl) ?_
    apply Exists.intro
    refine ⟨fun w' hw' => ?_, ?_⟩
    · have q0 := cell_blk (j := 3) (hw'.blk HXB.out) rfl
      go_simp
      exact ⟨rfl, Ext.refl _⟩
    refine regR_quiet (Keeps.ok _) 13 rfl (by kernel_rfl) (by kernel_rfl) ?_
    apply Exists.intro
    refine ⟨fun w' hw' => ?_, ?_⟩
    · go_simp
      exact ⟨rfl, Ext.refl _⟩
    refine regR_quiet (Keeps.ok _) 14 rfl (by kernel_rfl) (by kernel_rfl) ?_
    apply Exists.intro
    refine ⟨fun w' hw' => ?_, ?_⟩
    · go_simp
      exact ⟨rfl, Ext.refl _⟩
    refine regR_one 7 rfl (by kernel_rfl) rfl (fun w' hw' => ?_)
    go_simp
    refine ((HP.out.later hw').split_l a b rr ccc x3 (by omega) (by omega) hbr2).mono ?_
    rintro e w3 ⟨c, t2, rfl, hH, hWr⟩
    refine ⟨hWr.keeps hxt.out, ?_⟩
    have HH := hid hH
    clear hH hWr hw' HP HXB
    refine regR_one 15 rfl (by kernel_rfl) rfl (fun w5 hw5 => ?_)
    go_simp
    refine (Half.split_r (by omega) (by omega) hbr2 (HH.out.later hw5)).mono ?_
    rintro e w4 ⟨u2, rfl, hP2, hWr⟩
    refine ⟨hWr.keeps hxu.out, ?_⟩
    have HP2 := hid hP2
    clear hP2 hWr hw5 HH
    refine regR_quiet (Keeps.ok _) 16 rfl (by kernel_rfl) (by kernel_rfl) ?_
    apply Exists.intro
    refine ⟨fun w' hw' => ?_, ?_⟩
    · go_simp
      exact ⟨rfl, Ext.refl _⟩
    refine regR_quiet (Keeps.ok _) 17 rfl (by kernel_rfl) (by kernel_rfl) ?_
    apply Exists.intro
    refine ⟨fun w' hw' => ?_, ?_⟩
    · go_simp
      exact ⟨rfl, Ext.refl _⟩
    refine regR_done (by kernel_rfl) (fun w6 hw6 => ?_) _
    have HP3 := hid (HP2.out.later hw6)
    clear hw6 HP2
    go_simp
    go_wp2_with fail
    exact hexit _ _ _ _ _ _ _ _ _ _ _ _ _ _ _ _ _ _ _ _ _ _ _ _ _ _ _ _ _ _ _ _ _ _ _ _ _ _ _ _ _ _ _ _ _ _ _ _ _ _ _ _ _ _ _ _ _ _ _ _ _ _ (HP3)

end Go.Proofs.YtflbfmfaccaffaaDoor
