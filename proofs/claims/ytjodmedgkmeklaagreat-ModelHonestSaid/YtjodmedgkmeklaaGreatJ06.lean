/-
  Texts merged: K1.
-/
import Derived.Test.YtjodmedgkmeklaaGreatJ01
import Derived.Test.YtjodmedgkmeklaaGreatJ05
/-
  A base of what somebody knows, in memory; the name of a term, asked through the interface.
-/
namespace Go.Proofs.YtjodmedgkmeklaaGreat
open Go Go.RowKit Go.Maps

theorem str_inj {s t : List UInt8} (h : str s = str t) : s = t := by
  simp only [str, Value.string.injEq, ByteArray.mk.injEq] at h
  simpa using congrArg Array.toList h

theorem str_small {s : List UInt8} (h : s.length ≤ 1000000) : (⟨s.toArray⟩ : ByteArray).size ≤ maxLen := by
  have : (⟨s.toArray⟩ : ByteArray).size = s.length := by simp [ByteArray.size]
  unfold maxLen; omega
/-- Names, and the terms that bear them. -/
def CS : MC (List UInt8) Tm where
  mt := 76
  kt := 9
  et := 29
  ek s := str s
  ok s := s.length ≤ 1000000
  ev t := t.val
  R _ := some (.lit (.bool true), [])
  z := .nilIface
  hm := Tryz.underlying76
  law := string_keyed Tryz.underlying9
  key s hs := ⟨_, Go.WideMaps.keyOf_string_mk Tryz.underlying9 (str_small hs)⟩
  inj a b h := str_inj h
  reads _ := ⟨_, rfl⟩
  zero _ := by kernel_rfl
/-- Secrets. -/
def IntOk (n : Int) : Prop := -9223372036854775808 ≤ n ∧ n ≤ 9223372036854775807
def CI : MC Int Bool where
  mt := 62
  kt := 3
  et := 4
  ek n := .int .i64 n
  ok n := IntOk n
  ev b := .bool b
  R _ := some (.lit (.bool true), [])
  z := .bool false
  hm := Tryz.underlying62
  law := int_keyed Tryz.underlying3
  key n hn := ⟨_, keyOf_int_mk Tryz.underlying3 (by unfold IntOk at hn; simp [Lit.wf, IntKind.min, IntKind.max, IntKind.signed, IntKind.bits]; omega)⟩
  inj a b h := by cases h; rfl
  reads _ := ⟨_, rfl⟩
  zero _ := by kernel_rfl

structure KS where
  kb : Nat
  sb : Nat
  nb : Nat
  ab : Nat
structure KV where
  sec : Int → Option Bool
  sn : Nat
  seen : List UInt8 → Option Tm
  n : Nat
  all : List UInt8 → Option Tm
  m : Nat
/-- Numbers that count. -/
def P0 (n : Int) : Prop := 0 ≤ n ∧ n < 100
theorem P0.small {n : Int} (h : P0 n) : Small n := by unfold P0 at h; unfold Small; omega
/-- A term of something, its numbers such. -/
def Tm.ok (P : Int → Prop) : Tm → Prop
  | .non => False
  | .atom n => Small n
  | .pub n => P n
  | .shared a b => P a ∧ P b
  | .chain i x y => P0 i ∧ x.ok P ∧ y.ok P
  | .digest x y => x.ok P ∧ y.ok P
  | .box k n a t => P0 n ∧ k.ok P ∧ a.ok P ∧ t.ok P
  | .empty => True
/-- A term that may be known. -/
structure Fine (P : Int → Prop) (t : Tm) : Prop where
  ok : t.ok P
  size : sz t ≤ 2000
theorem Tm.ok.all {P : Int → Prop} (hP : ∀ n, P n → Small n) : ∀ {t : Tm}, t.ok P → t.all Small
  | .atom _, h => h
  | .pub n, h => hP n h
  | .shared a b, h => ⟨hP a h.1, hP b h.2⟩
  | .chain _ _ _, h => ⟨h.1.small, Tm.ok.all hP h.2.1, Tm.ok.all hP h.2.2⟩
  | .digest _ _, h => ⟨Tm.ok.all hP h.1, Tm.ok.all hP h.2⟩
  | .box _ _ _ _, h => ⟨h.1.small, Tm.ok.all hP h.2.1, Tm.ok.all hP h.2.2.1, Tm.ok.all hP h.2.2.2⟩
  | .empty, _ => trivial
theorem Tm.ok.ne {P : Int → Prop} {t : Tm} (h : t.ok P) : t ≠ .non := by rintro rfl; exact h
theorem Fine.box {P : Int → Prop} {k : Tm} {n : Int} {a t : Tm} (h : Fine P (.box k n a t)) : Fine P k ∧ Fine P a ∧ Fine P t := by
  have hs := h.size
  have h1 := sz_pos k; have h2 := sz_pos a; have h3 := sz_pos t
  simp only [sz] at hs
  exact ⟨⟨h.ok.2.1, by omega⟩, ⟨h.ok.2.2.1, by omega⟩, ⟨h.ok.2.2.2, by omega⟩⟩
variable {f : Int → List UInt8} {P : Int → Prop}
/-- A base: its blocks, and what they hold. -/
structure KAt (f : Int → List UInt8) (P : Int → Prop) (w : World) (k : KS) (v : KV) : Prop where
  blk : w.heap[k.kb]? = some (.cells #[.map (some k.sb), .map (some k.nb), .map (some k.ab)] 78 (0, 0))
  sec : MapG CI w k.sb v.sec v.sn
  seen : MapG CS w k.nb v.seen v.n
  all : MapG CS w k.ab v.all v.m
  ne1 : k.sb ≠ k.nb
  ne2 : k.sb ≠ k.ab
  ne3 : k.nb ≠ k.ab
  named : ∀ s t, v.all s = some t → nm f t = s ∧ Fine P t
  few : v.n ≤ 400
  fews : v.sn ≤ 1000
theorem KAt.later {w w2 : World} {k : KS} {v : KV} (h : KAt f P w k v) (he : Ext w w2) : KAt f P w2 k v :=
  ⟨he.blk h.blk, h.sec.later he, h.seen.later he, h.all.later he, h.ne1, h.ne2, h.ne3, h.named, h.few, h.fews⟩
theorem KAt.keep {w w2 : World} {k : KS} {v : KV} (h : KAt f P w k v) (he : ∀ b, b = k.kb ∨ b = k.sb ∨ b = k.nb ∨ b = k.ab → w2.heap[b]? = w.heap[b]?) : KAt f P w2 k v :=
  ⟨(he _ (.inl rfl)).trans h.blk, h.sec.keep (he _ (.inr (.inl rfl))), h.seen.keep (he _ (.inr (.inr (.inl rfl)))), h.all.keep (he _ (.inr (.inr (.inr rfl)))), h.ne1, h.ne2, h.ne3, h.named, h.few, h.fews⟩

/-- The function that tells a term's name, and what it is told. -/
def Tm.nf : Tm → FuncId
  | .non => 0
  | .atom _ => 116
  | .pub _ => 131
  | .shared _ _ => 132
  | .chain _ _ _ => 133
  | .digest _ _ => 143
  | .box _ _ _ _ => 144
  | .empty => 130
def Tm.arg : Tm → Value
  | .non => .nilIface
  | .atom n => .agg #[.int .i64 n]
  | .pub n => .agg #[.int .i64 n]
  | .shared a b => .agg #[.int .i64 a, .int .i64 b]
  | .chain i f w => .agg #[.int .i64 i, f.val, w.val]
  | .digest f w => .agg #[f.val, w.val]
  | .box k n a t => .agg #[k.val, .int .i64 n, a.val, t.val]
  | .empty => .agg #[]
theorem call_name {R : Int → Prop} (t : Tm) (w : World) (ht : t ≠ .non) (hI : Itoa w R f) (ha : t.all R) (hs : sz t ≤ 10000) (W : World) (hW : Ext w W) :
    Calls Tryz.prog t.nf #[t.arg] W fun e w' => e = .returned (str (nm f t)) ∧ Ext W w' := by
  cases t with
  | non => exact absurd rfl ht
  | atom n => exact name_atom n W (hI.later hW) ha
  | pub n => exact name_pub n W (hI.later hW) ha
  | shared a b => exact name_shared a b W (hI.later hW) ha.1 ha.2
  | empty => exact name_empty W
  | digest x y =>
    have px := sz_pos x; have py := sz_pos y
    simp only [sz] at hs
    have lx := nm_len hI.1 x; have ly := nm_len hI.1 y
    exact name_digest x y W ⟨fun w' h' => name_any trivial x w' (hI.later (hW.trans h')) ha.1 (by omega), by omega⟩ ⟨fun w' h' => name_any trivial y w' (hI.later (hW.trans h')) ha.2 (by omega), by omega⟩
  | chain i x y =>
    have px := sz_pos x; have py := sz_pos y
    simp only [sz] at hs
    have lx := nm_len hI.1 x; have ly := nm_len hI.1 y
    exact name_chain i x y W (hI.later hW) ha.1 ⟨fun w' h' => name_any trivial x w' (hI.later (hW.trans h')) ha.2.1 (by omega), by omega⟩ ⟨fun w' h' => name_any trivial y w' (hI.later (hW.trans h')) ha.2.2 (by omega), by omega⟩
  | box k n x y =>
    have pk := sz_pos k; have px := sz_pos x; have py := sz_pos y
    simp only [sz] at hs
    have lk := nm_len hI.1 k; have lx := nm_len hI.1 x; have ly := nm_len hI.1 y
    exact name_box k n x y W (hI.later hW) ha.1 ⟨fun w' h' => name_any trivial k w' (hI.later (hW.trans h')) ha.2.1 (by omega), by omega⟩ ⟨fun w' h' => name_any trivial x w' (hI.later (hW.trans h')) ha.2.2.1 (by omega), by omega⟩ ⟨fun w' h' => name_any trivial y w' (hI.later (hW.trans h')) ha.2.2.2 (by omega), by omega⟩
theorem nm_ok {R : Int → Prop} {w : World} (hI : Itoa w R f) (t : Tm) (hs : sz t ≤ 10000) : CS.ok (nm f t) := by
  have := nm_len hI.1 t
  show (nm f t).length ≤ 1000000
  omega

/-- What can be made, where these names and these secrets are known. -/
def can (f : Int → List UInt8) (sec : Int → Bool) (S : List UInt8 → Bool) : Tm → Bool
  | .non => false
  | .empty => true
  | .atom n => S (nm f (.atom n)) || decide (0 ≤ n)
  | .pub n => S (nm f (.pub n)) || sec n
  | .shared a b => S (nm f (.shared a b)) || (sec a || sec b)
  | .chain i x y => S (nm f (.chain i x y)) || (can f sec S x && can f sec S y)
  | .digest x y => S (nm f (.digest x y)) || (can f sec S x && can f sec S y)
  | .box k n a t => S (nm f (.box k n a t)) || ((can f sec S k && can f sec S a) && can f sec S t)
def KV.S (v : KV) (s : List UInt8) : Bool := (v.all s).isSome
def KV.x (v : KV) (n : Int) : Bool := (v.sec n).getD false
theorem KAt.look {w : World} {k : KS} {v : KV} (h : KAt f P w k v) (s : List UInt8) (hs : CS.ok s) : ∃ xv, ∀ W, Ext w W →
    (Instr.lookup 76 (.map (some k.ab)) (str s) true).run Tryz.prog W = .ok (.tuple #[xv, .bool (v.S s)]) W := ⟨_, fun _ hW => (h.all.later hW).look hs⟩
theorem KAt.secret {w : World} {k : KS} {v : KV} (h : KAt f P w k v) (n : Int) (hn : IntOk n) (W : World) (hW : Ext w W) :
    (Instr.lookup 62 (.map (some k.sb)) (.int .i64 n) false).run Tryz.prog W = .ok (.bool (v.x n)) W := by
  have h5 := (h.sec.later hW).get (a := n) hn
  refine h5.trans ?_
  unfold KV.x
  cases v.sec n <;> rfl

end Go.Proofs.YtjodmedgkmeklaaGreat
