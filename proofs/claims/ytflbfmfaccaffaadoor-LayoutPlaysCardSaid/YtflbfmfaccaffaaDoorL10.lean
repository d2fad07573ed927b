/-
  Grow.
-/
import Derived.Test.YtflbfmfaccaffaaDoorL9
namespace Go.Proofs.YtflbfmfaccaffaaDoor
open Go Go.RowKit
attribute [local go_sem] extUpon
attribute [local go_sem ↓] eval_put_ne eval_put_none eval_put_same size_put eval_const

/-- The nearest node around that is parted so: its place on the way. -/
def gAt (across : Bool) (A : List Fr) : Nat → Option Nat
  | 0 => none
  | n + 1 => if (A[n]?.map Fr.across) = some across then some n else gAt across A n
theorem gAt_some {across : Bool} {A : List Fr} : ∀ {n i : Nat}, gAt across A n = some i → i < n ∧ ∃ f, A[i]? = some f ∧ f.across = across
  | 0, i, h => by cases h
  | n + 1, i, h => by
    unfold gAt at h
    split at h
    · rename_i h'
      simp only [Option.some.injEq] at h; subst h
      cases hf : A[n]? with
      | none => rw [hf] at h'; cases h'
      | some f => rw [hf] at h'; simp at h'; exact ⟨by omega, f, rfl, h'⟩
    · obtain ⟨h1, h2⟩ := gAt_some h
      exact ⟨by omega, h2⟩

def LT.grow (t : LT) (p : Int) (across : Bool) (by_ : Int) (R : Bx) : Int × LT :=
  if p ∉ t.panes then (3, t)
  else match gAt across (t.path p) (t.path p).length with
    | none => (3, t)
    | some i => match (t.path p)[i]?, (t.bxs p R)[i]? with
      | some f, some bx =>
        if wide f.across bx < 3 then (17, t)
        else (0, plug ((t.path p).take i ++ { f with part := min (max (held f.part (wide f.across bx) + (if f.left then min (max by_ (-1000)) 1000 else - min (max by_ (-1000)) 1000)) 1) (wide f.across bx - 2) } :: (t.path p).drop (i + 1)) (t.tip p))
      | _, _ => (3, t)

theorem path_side {p : Int} : ∀ {t : LT} {A1 A2 : List Fr} {f : Fr}, p ∈ t.panes → t.path p = A1 ++ f :: A2 → (f.left = true → p ∈ (plug A2 (t.tip p)).panes) ∧ (f.left = false → p ∉ f.sib.panes)
  | .leaf .., A1, A2, f, _, h => by simp [LT.path] at h
  | .node b x y a k, A1, A2, f, hp, h => by
    by_cases hx : p ∈ x.panes
    · simp only [LT.path, hx, if_true] at h
      simp only [LT.tip, hx, if_true]
      cases A1 with
      | nil =>
        simp only [List.nil_append, List.cons.injEq] at h
        obtain ⟨rfl, rfl⟩ := h
        rw [plug_path]
        exact ⟨fun _ => hx, fun h' => by simp at h'⟩
      | cons f0 A1 =>
        simp only [List.cons_append, List.cons.injEq] at h
        exact path_side hx h.2
    · have hy : p ∈ y.panes := by simpa [LT.panes, hx] using hp
      simp only [LT.path, hx, if_false] at h
      simp only [LT.tip, hx, if_false]
      cases A1 with
      | nil =>
        simp only [List.nil_append, List.cons.injEq] at h
        obtain ⟨rfl, rfl⟩ := h
        exact ⟨fun h' => by simp at h', fun _ => hx⟩
      | cons f0 A1 =>
        simp only [List.cons_append, List.cons.injEq] at h
        exact path_side hy h.2
theorem plug_size {s : LT} : ∀ {A : List Fr}, s.size ≤ (plug A s).size
  | [] => Nat.le_refl _
  | f :: A => by
    have := plug_size (s := s) (A := A)
    cases hf : f.left <;> simp [plug, Fr.fill, hf, LT.size] <;> omega
def Fr.fst (f : Fr) (s : LT) : LT := if f.left then s else f.sib
def Fr.snd (f : Fr) (s : LT) : LT := if f.left then f.sib else s
theorem Fr.fill_eq (f : Fr) (s : LT) : f.fill s = .node f.b (f.fst s) (f.snd s) f.across f.part := by
  unfold Fr.fill Fr.fst Fr.snd; split <;> rfl
theorem vals_at {l : List Bx} : ∀ {i : Nat} {r : Bx}, l[i]? = some r → ∀ j u, r.vals[j]? = some u → (l.flatMap Bx.vals)[i * 4 + j]? = some u := by
  induction l with
  | nil => intro i r h; simp at h
  | cons x l ih =>
    intro i r h j u hu
    cases i with
    | zero =>
      simp at h; subst h
      simp only [List.flatMap_cons]
      have hj : j < x.vals.length := (List.getElem?_eq_some_iff.1 hu).1
      rw [List.getElem?_append_left (by omega)]
      simpa using hu
    | succ i =>
      simp at h
      simp only [List.flatMap_cons]
      rw [List.getElem?_append_right (by simp [Bx.vals]; omega)]
      have := ih h j u hu
      have e : (i + 1) * 4 + j - x.vals.length = i * 4 + j := by simp [Bx.vals]; omega
      rw [e]; exact this
theorem bxs_ok (p : Int) : ∀ (t : LT) (r : Bx), r.ok → ∀ b ∈ t.bxs p r, b.ok
  | .leaf .., _, _, b, h => by simp [LT.bxs] at h
  | .node b0 x y a k, r, h, b, hb => by
    have := parts_ok (a := a) (k := k) h
    by_cases hp : p ∈ x.panes
    · simp only [LT.bxs, hp, if_true, List.mem_cons] at hb
      rcases hb with rfl | hb
      · exact h
      · exact bxs_ok p x _ this.1 b hb
    · simp only [LT.bxs, hp, if_false, List.mem_cons] at hb
      rcases hb with rfl | hb
      · exact h
      · exact bxs_ok p y _ this.2 b hb
theorem wide_ok {a : Bool} {r : Bx} (h : r.ok) : 0 ≤ wide a r ∧ wide a r ≤ 1000000 := by
  obtain ⟨g0, g1, g2, g3, g4, g5⟩ := h
  unfold wide; split <;> omega

theorem take_drop {A : List Fr} {n : Nat} {f : Fr} (h : A[n]? = some f) : A = A.take n ++ f :: A.drop (n + 1) := by
  obtain ⟨hn, rfl⟩ := List.getElem?_eq_some_iff.1 h
  rw [← List.drop_eq_getElem_cons hn, List.take_append_drop]
theorem frame_eq {t tip : LT} {A : List Fr} {n : Nat} {f : Fr} (hpl : plug A tip = t) (hf : A[n]? = some f) :
    plug (A.take n) (.node f.b (f.fst (plug (A.drop (n + 1)) tip)) (f.snd (plug (A.drop (n + 1)) tip)) f.across f.part) = t := by
  rw [← Fr.fill_eq, ← hpl]
  conv => rhs; rw [take_drop hf, plug_append]
  rfl
theorem frame_at {w : World} {t tip : LT} {A : List Fr} {n : Nat} {f : Fr} (hat : LtAt w t) (hpl : plug A tip = t) (hf : A[n]? = some f) :
    LtAt w (.node f.b (f.fst (plug (A.drop (n + 1)) tip)) (f.snd (plug (A.drop (n + 1)) tip)) f.across f.part) := by
  rw [← frame_eq hpl hf] at hat
  exact plug_at hat

theorem grown_plug {t tip : LT} {A : List Fr} {n : Nat} {f : Fr} (k : Int) :
    plug (A.take n ++ { f with part := k } :: A.drop (n + 1)) tip = plug (A.take n) (.node f.b (f.fst (plug (A.drop (n + 1)) tip)) (f.snd (plug (A.drop (n + 1)) tip)) f.across k) := by
  rw [plug_append]
  show plug _ (Fr.fill { f with part := k } _) = _
  rw [Fr.fill_eq]; rfl
theorem setc4_blk {W : World} {q : Nat} {x y z u v e : Value} {t : TypeId} {fr : Nat × Nat} (h : W.heap[q]? = some (.cells #[x, y, z, u, v] t fr)) : (W.setCell ⟨q, 4, none⟩ e).heap[q]? = some (.cells #[x, y, z, u, e] t fr) := by
  simp [World.setCell, Array.getElem?_modify, h]
/-- The part of a node is set. -/
theorem Tr.part {B tb : Nat} {w W : World} {t tip : LT} {A : List Fr} {n : Nat} {f : Fr} {k : Int} (h : Tr B w tb t) (he : Ext w W) (hB : B ≤ w.heap.size) (hpl : plug A tip = t) (hf : A[n]? = some f) (hk : -1000000 ≤ k ∧ k ≤ 1000000) :
    Tr B (W.setCell ⟨f.b, 4, none⟩ (.int .i64 k)) tb (plug (A.take n ++ { f with part := k } :: A.drop (n + 1)) tip) ∧ Wr t (plug (A.take n ++ { f with part := k } :: A.drop (n + 1)) tip) w (W.setCell ⟨f.b, 4, none⟩ (.int .i64 k)) := by
  rw [grown_plug (t := t)]
  have hfe := frame_eq hpl hf
  have hnode := frame_at (h.ext he).at_.at_ hpl hf
  have hT : Tr B w tb (plug (A.take n) (.node f.b (f.fst (plug (A.drop (n + 1)) tip)) (f.snd (plug (A.drop (n + 1)) tip)) f.across f.part)) := by rw [hfe]; exact h
  have hnd := (List.nodup_append.1 ((plug_blocks _ _).nodup_iff.1 hT.nodup)).2.1
  have hsm := plug_small' hT.at_.small
  have hm := hT.many
  rw [plug_panes] at hm
  have hres := Tr.turn (s' := .node f.b (f.fst (plug (A.drop (n + 1)) tip)) (f.snd (plug (A.drop (n + 1)) tip)) f.across k) hT he ((Set1.refl f.b W).set 4 (.int .i64 k)) (setc4_blk hnode.1) rfl hnode.2
    (fun j hj => .inl hj) hB hnd ⟨hk, hsm.2⟩ (by rw [plug_panes]; exact hm)
  rw [hfe] at hres
  exact hres

set_option maxHeartbeats 4000000 in
set_option maxRecDepth 100000 in
theorem Grow_any (B tb : Nat) (t : LT) (p by_ rows cols : Int) (across : Bool) (w : World) (h : Tr B w tb t) (h1 : rows ≤ 1000000) (h2 : cols ≤ 1000000) (hB : B ≤ w.heap.size) :
    Calls Tryd.prog 12 #[ptr tb, .int .i64 p, .bool across, .int .i64 by_, .int .i64 rows, .int .i64 cols] w fun e w' => e = .returned (.int .i64 (t.grow p across by_ (allB rows cols)).1) ∧
      Tr B w' tb (t.grow p across by_ (allB rows cols)).2 ∧ Wr t (t.grow p across by_ (allB rows cols)).2 w w' := by
  have HP := hid (fun w' (he : Ext w w') => Has_any tb t p w' (h.at_.ext he))
  have HF := hid (fun w' (he : Ext w w') => find_any tb t p rows cols w' (h.at_.ext he) h1 h2)
  have hbok := bxs_ok p t _ (allB_ok h1 h2)
  have HH := hid h
  have HBB := hid hB
  clear h h1 h2 hB
  generalize allB rows cols = R at *
  have hlen : (t.path p).length ≤ 1000 := by have := path_size p t; have := HH.out.at_.size; omega
  unfold ptr at *
  by_cases hp : p ∈ t.panes
  · have HS := hid (fun r => show gAt across (t.path p) (t.path p).length = r → t.grow p across by_ R = _ from fun h => by unfold LT.grow; rw [if_neg (not_not_intro hp), h])
    have HSIDE := hid (fun A1 A2 f => path_side (p := p) (t := t) (A1 := A1) (A2 := A2) (f := f) hp)
    have hlb := hid (path_len p t R)
    rw [decide_eq_true hp] at HP
    clear hp
    obtain ⟨tib, tpn, htip⟩ := tip_form p t
    have hpl := plug_path p t
    rw [htip] at HF hpl
    have HPL := hid hpl
    have HTI := hid htip
    clear htip hpl
    generalize hA : t.path p = A at *
    replace hA := hid hA
    generalize hBs : t.bxs p R = Bs at *
    replace hBs := hid hBs
    generalize t.tipBox p R = tbx at *
    unfold Bx.val at *
    simp only [LT.b] at HF
    go_enter Tryd.func12, Tryd.ntmps12
    go_wp2_with fail
    refine (HP.out _ (Ext.refl _)).mono ?_
    rintro e w1 ⟨rfl, hE⟩
    go_wp2_with fail
    refine (HF.out _ hE).mono ?_
    rintro e w2 ⟨va, vb, rfl, hoa, hob, hE2⟩
    replace hE2 := hE.trans hE2
    clear hE HP HF
    obtain ⟨aa, cap, rfl, hca⟩ := own_form hoa
    obtain ⟨ab, capb, rfl, hcb⟩ := own_form hob
    clear hoa hob
    have HCA := hid hca
    have HCB := hid hcb
    clear hca hcb
    have v1 : IntKind.i64.wrap ((A.length : Int) - 1) = (A.length : Int) - 1 := by rw [IntKind.wrap_i64]; omega
    go_wp2_with fail
    generalize hW3 : World.alloc _ _ = W3
    have HE3 := hid (by rw [← hW3]; exact Ext.alloc _ _ : Ext w2 W3)
    clear hW3 v1
    go_loopw [17] (fun i wr => ∃ n : Nat, i = .int .i64 ((n : Int) - 1) ∧ n ≤ A.length ∧ Hid (gAt across A A.length = gAt across A n) ∧ Hid (Ext w2 wr)) (fun i _ => (intOf i + 1).toNat)
    case atStart => exact ⟨A.length, rfl, by omega, hid rfl, HE3⟩
    case round =>
      obtain ⟨n, rfl, hn, hG, hE⟩ := hrel
      clear HE3
      cases n with
      | zero =>
        replace HS := hid (HS.out none hG.out)
        simp only at HS
        rw [show (((0 : Nat) : Int) - 1) = -1 from rfl]
        go_wp2_with fail
        go_ret
        have hX := hE2.trans hE.out
        exact ⟨by rw [HS.out]; rfl, by rw [HS.out]; exact HH.out.ext hX, by rw [HS.out]; exact Wr.of_ext hX⟩
      | succ n =>
        rw [show (((n + 1 : Nat) : Int) - 1) = (n : Int) by omega]
        obtain ⟨f, hf⟩ : ∃ f, A[n]? = some f := ⟨_, List.getElem?_eq_getElem (by omega)⟩
        obtain ⟨g, rfl, hcc⟩ := HCA.out (by omega)
        have ca := hE.out.cell (hcc n (ptr f.b) (by simp [bvals, hf]))
        have hNd := frame_at (HH.out.ext (hE2.trans hE.out)).at_.at_ HPL.out hf
        have cb : wr.cell? ⟨f.b, 3, none⟩ = some (.bool f.across) := node_cells hNd 3 _ rfl
        have HNd := hid hNd
        have HFn := hid hf
        unfold ptr at ca
        obtain ⟨bx, hbx⟩ : ∃ b, Bs[n]? = some b := ⟨_, List.getElem?_eq_getElem (by have := hlb.out; omega)⟩
        obtain ⟨gb, rfl, hcb⟩ := HCB.out (by omega)
        have hbo := wide_ok (a := f.across) (hbok bx (List.mem_of_getElem? hbx))
        obtain ⟨hbo1, hbo2⟩ := hbo
        have HBX := hid hbx
        have e0 : wr.cell? ⟨gb, n * 4, none⟩ = some (.int .i64 bx.row) := hE.out.cell (hcb _ _ (vals_at hbx 0 _ rfl))
        have e1 : wr.cell? ⟨gb, n * 4 + 1, none⟩ = some (.int .i64 bx.col) := hE.out.cell (hcb _ _ (vals_at hbx 1 _ rfl))
        have e2 : wr.cell? ⟨gb, n * 4 + 2, none⟩ = some (.int .i64 bx.rows) := hE.out.cell (hcb _ _ (vals_at hbx 2 _ rfl))
        have e3 : wr.cell? ⟨gb, n * 4 + 3, none⟩ = some (.int .i64 bx.cols) := hE.out.cell (hcb _ _ (vals_at hbx 3 _ rfl))
        clear hcb hbx
        clear hcc hNd hf
        have hn2 : (n : Int) < (A.length : Int) := by omega
        have hn3 : (0 : Int) ≤ (n : Int) := by omega
        by_cases hac : f.across = across
        · have hGG : Hid (gAt across A A.length = some n) := hid (by rw [hG.out]; unfold gAt; rw [HFn.out]; simp [hac])
          rw [hac] at cb hbo1 hbo2
          have hfa := hid hac
          clear hac
          generalize hfb : f.b = fb at *
          replace hfb := hid hfb
          go_wp2_with fail
          refine (wide_any fb across bx wr cb).mono ?_
          rintro e w4 ⟨rfl, hE4⟩
          have hsm0 : (LT.node f.b (f.fst (plug (A.drop (n + 1)) (.leaf tib tpn))) (f.snd (plug (A.drop (n + 1)) (.leaf tib tpn))) f.across f.part).small := plug_small' (A := A.take n) (by rw [frame_eq HPL.out HFn.out]; exact HH.out.at_.small)
          have hsz0 : (LT.node f.b (f.fst (plug (A.drop (n + 1)) (.leaf tib tpn))) (f.snd (plug (A.drop (n + 1)) (.leaf tib tpn))) f.across f.part).size ≤ 1000 := Nat.le_trans (plug_size (A := A.take n)) (by rw [frame_eq HPL.out HFn.out]; exact HH.out.at_.size)
          have HHAS := hid (fun w' (he : Ext wr w') => has_any (f.fst (plug (A.drop (n + 1)) (.leaf tib tpn))) p w' (HNd.out.ext he).2.1 hsm0.2.1 (by simp only [LT.size] at hsz0; omega))
          have hleft : decide (p ∈ (f.fst (plug (A.drop (n + 1)) (.leaf tib tpn))).panes) = f.left := by
            have h5 := HSIDE.out _ _ f (take_drop HFn.out)
            rw [HTI.out] at h5
            unfold Fr.fst
            cases hl : f.left
            · simp [h5.2 hl]
            · simp [h5.1 hl]
          rw [hleft] at HHAS
          have HC1 := hid (fun w' (he : Ext wr w') => node_cells (HNd.out.ext he) 1 _ rfl)
          have HC4 := hid (fun w' (he : Ext wr w') => node_cells (HNd.out.ext he) 4 _ rfl)
          have hpart := hsm0.1
          have HFZ : Hid (∀ w', Ext wr w' → ∃ cs, w'.heap[fb]? = some (.cells cs 52 (0, 0))) := hid (fun w' he => ⟨_, (HNd.out.ext he).1⟩)
          have hs := HS.out (some n) hGG.out
          simp only [HFn.out, HBX.out] at hs
          rw [hfa.out] at hs
          replace HS := hid hs
          clear hs
          have HTP := hid (fun W k (he : Ext w W) => Tr.part (k := k) HH.out he HBB.out HPL.out HFn.out)
          clear hleft hsm0 hsz0 HSIDE hbok HNd
          generalize hcn : (f.fst (plug (A.drop (n + 1)) (.leaf tib tpn))).b = cn at *
          have hheld : 3 ≤ wide across bx → 1 ≤ held f.part (wide across bx) ∧ held f.part (wide across bx) ≤ wide across bx - 2 := by unfold held; omega
          have HHE := hid (fun w' (he : Ext wr w') => held_any fb f.part (wide across bx) w' (HC4.out w' he) (by omega) (by omega) hpart.2)
          generalize wide across bx = d at *
          generalize held f.part d = hh at *
          by_cases hd3 : d < 3
          · replace HS := hid (HS.out.trans (if_pos hd3))
            go_wp2_with fail
            go_ret
            have hX := (hE2.trans hE.out).trans hE4
            exact ⟨by rw [HS.out]; rfl, by rw [HS.out]; exact HH.out.ext hX, by rw [HS.out]; exact Wr.of_ext hX⟩
          · replace HS := hid (HS.out.trans (if_neg hd3))
            obtain ⟨hh1, hh2⟩ := hheld (by omega)
            have c1 : w4.cell? ⟨fb, 1, none⟩ = some (.pointer (some ⟨cn, 0, none⟩)) := by have h6 : w4.cell? ⟨fb, 1, none⟩ = some (ptr (f.fst (plug (A.drop (n + 1)) (.leaf tib tpn))).b) := HC1.out w4 hE4; rw [hcn] at h6; exact h6
            clear hcn
            unfold ptr at HHAS
            have w1' : IntKind.i64.wrap (d - 2) = d - 2 := by rw [IntKind.wrap_i64]; omega
            go_wp2_with fail
            all_goals (
              refine (HHAS.out w4 hE4).mono ?_
              rintro e w5 ⟨rfl, hE5⟩
              have hE45 := hE4.trans hE5
              have c4 : w5.cell? ⟨fb, 4, none⟩ = some (.int .i64 f.part) := HC4.out w5 hE45
              have hE25 := (hE2.trans hE.out).trans hE45
              have z4 : w5.frozen? ⟨fb, 4, none⟩ = false := by
                obtain ⟨cs, hcs⟩ := HFZ.out w5 hE45
                simp [World.frozen?, hcs]
              replace HHE := hid (HHE.out w5 hE45)
              cases hl : f.left
              · have key : Hid (∀ k', k' = min (max (hh + - min (max by_ (-1000)) 1000) 1) (d - 2) → Tr B (w5.setCell ⟨fb, 4, none⟩ (.int .i64 k')) tb (t.grow p across by_ R).2 ∧ Wr t (t.grow p across by_ R).2 w (w5.setCell ⟨fb, 4, none⟩ (.int .i64 k'))) := hid (fun k' hk' => by
                  have h7 := HTP.out w5 k' hE25 (by omega)
                  rw [HS.out, HTI.out, hl, show fb = f.b from hfb.out.symm]
                  rw [hl, hfa.out] at h7
                  subst hk'
                  exact h7)
                have HS0 : Hid ((t.grow p across by_ R).1 = 0) := hid (by rw [HS.out])
                have HL := hid hl
                clear hl HTP HC4 HC1 HHAS HS HFZ
                go_wp2_with fail
                refine HHE.out.mono ?_
                rintro e w6 ⟨rfl, rfl⟩
                go_wp2_with fail
                all_goals go_ret
                all_goals exact ⟨by rw [HS0.out]; rfl, key.out _ (by omega)⟩
              · have key : Hid (∀ k', k' = min (max (hh + min (max by_ (-1000)) 1000) 1) (d - 2) → Tr B (w5.setCell ⟨fb, 4, none⟩ (.int .i64 k')) tb (t.grow p across by_ R).2 ∧ Wr t (t.grow p across by_ R).2 w (w5.setCell ⟨fb, 4, none⟩ (.int .i64 k'))) := hid (fun k' hk' => by
                  have h7 := HTP.out w5 k' hE25 (by omega)
                  rw [HS.out, HTI.out, hl, show fb = f.b from hfb.out.symm]
                  rw [hl, hfa.out] at h7
                  subst hk'
                  exact h7)
                have HS0 : Hid ((t.grow p across by_ R).1 = 0) := hid (by rw [HS.out])
                have HL := hid hl
                clear hl HTP HC4 HC1 HHAS HS HFZ
                go_wp2_with fail
                all_goals (refine HHE.out.mono ?_; rintro e w6 ⟨rfl, rfl⟩)
                all_goals go_wp2_with fail
                all_goals go_ret
                all_goals exact ⟨by rw [HS0.out]; rfl, key.out _ (by omega)⟩)
        · have hGG : Hid (gAt across A A.length = gAt across A n) := hid (by rw [hG.out]; conv => lhs; unfold gAt; rw [HFn.out]; simp [hac])
          generalize hfb : f.b = fb at *
          replace hfb := hid hfb
          generalize hfa : f.across = fa at *
          replace hfa := hid hfa
          have v1 : IntKind.i64.wrap ((n : Int) - 1) = (n : Int) - 1 := by rw [IntKind.wrap_i64]; omega
          have hac' : fa = !across := by cases fa <;> cases across <;> simp_all
          subst hac'
          clear hac
          cases across
          · go_wp2_with fail
            go_roundw
            case rel => exact ⟨n, rfl, by omega, hGG, hE⟩
            case measure => simp [intOf]
          · go_wp2_with fail
            go_roundw
            case rel => exact ⟨n, rfl, by omega, hGG, hE⟩
            case measure => simp [intOf]
  · have HS : Hid (t.grow p across by_ R = (3, t)) := hid (by simp [LT.grow, hp])
    rw [decide_eq_false hp] at HP
    clear hp
    go_enter Tryd.func12, Tryd.ntmps12
    go_wp2_with fail
    refine (HP.out _ (Ext.refl _)).mono ?_
    rintro e w1 ⟨rfl, hE⟩
    go_wp2_with fail
    go_ret
    exact ⟨by rw [HS.out]; rfl, by rw [HS.out]; exact HH.out.ext hE, by rw [HS.out]; exact Wr.of_ext hE⟩

end Go.Proofs.YtflbfmfaccaffaaDoor
