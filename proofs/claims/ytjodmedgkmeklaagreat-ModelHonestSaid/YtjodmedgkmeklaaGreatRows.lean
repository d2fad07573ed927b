/-
  No cell of these rows narrows 'for every input' (looked for: loops, veiled, ifaces, maps, wideKeys, modest, calm, conditions, laid).
  DERIVED. THE GIVEN ROWS OF THIS SEAT. 8 by the template 'for every input the law returns true; each argument reads behind the call as it read before'; 0 by the template 'total and deterministic' (their statements: YtjodmedgkmeklaaGreatTotals.lean).
  GIVEN WITH THE SEED: the statements are not yours to turn. If you find one false, say at which input.
  Laid BY PROGRAM, IN A SANDBOX (cutbox-rows.mjs): the forced cells as the released guide's own fill.sh prints them over the translation e5eb148408dcecda… (all of the seat's roots in one cut). By AI agents, Wed Nov 11 2026. No macro, syntax, notation, axiom, sorry.
-/
import Derived.Test.YtjodmedgkmeklaaGreatChecked
import GoSem.Claim
import GoSem.ClaimJoined
import GoSem.ClaimMapViews
import Derived.JoinedTies
import Derived.KernelRfl
namespace Go.Proofs.YtjodmedgkmeklaaGreat
/- THE CELL 'sum', in the pinned program and in every row, IS THE sha256 OF THE DUMP (.gsa) THAT YtjodmedgkmeklaaGreatProg.lean LOADS. Nothing in Lean hashes anything: it is a label: what it is worth is what the hold of that sum in a sandbox is worth. -/
noncomputable def Tryz.pinned : Pinned := { name := "ytjodmedgkmeklaagreat", sum := "e5eb148408dcecda92f29a016d2f63b1d7dc667fff18fc905c95754c01c4310b", checked := Tryz.checked }
namespace Rows
def none {H : Type} : Left H := { results := [], args := [] }

/-- 'portholelaw14.ModelBelieves': WHATEVER THE INPUT: true; the input reads as it did. -/
def modelBelievesSpec : ChangeSpec := { name := "modelBelieves", fn := fun _ => fun
  | [d] => { results := [.lit (.bool true)], args := [d] }
  | _ => none }
def modelBelievesRow : OpenClaim := { program := "ytjodmedgkmeklaagreat", sum := "e5eb148408dcecda92f29a016d2f63b1d7dc667fff18fc905c95754c01c4310b", func := "porthole/portholelaw14.ModelBelieves", spec := "modelBelieves", unfollowed := true, recurses := true, apart := false }
def ModelBelievesSaid : Prop := modelBelievesRow.holds Tryz.pinned (OpenSpec.ofChange modelBelievesSpec)

/-- ITS FALSE NEIGHBOUR: 'it returns false'. Refute it at one input. -/
def modelBelievesWrong : ChangeSpec := { name := "modelBelieves", fn := fun _ => fun
  | [d] => { results := [.lit (.bool false)], args := [d] }
  | _ => none }
def ModelBelievesWrongFalsely : Prop := modelBelievesRow.holds Tryz.pinned (OpenSpec.ofChange modelBelievesWrong)

/-- 'portholelaw14.ModelForward': WHATEVER THE INPUT: true; the input reads as it did. -/
def modelForwardSpec : ChangeSpec := { name := "modelForward", fn := fun _ => fun
  | [d1, d2, d3, d4] => { results := [.lit (.bool true)], args := [d1, d2, d3, d4] }
  | _ => none }
def modelForwardRow : OpenClaim := { program := "ytjodmedgkmeklaagreat", sum := "e5eb148408dcecda92f29a016d2f63b1d7dc667fff18fc905c95754c01c4310b", func := "porthole/portholelaw14.ModelForward", spec := "modelForward", unfollowed := true, recurses := true, apart := false }
def ModelForwardSaid : Prop := modelForwardRow.holds Tryz.pinned (OpenSpec.ofChange modelForwardSpec)

/-- ITS FALSE NEIGHBOUR: 'it returns false'. Refute it at one input. -/
def modelForwardWrong : ChangeSpec := { name := "modelForward", fn := fun _ => fun
  | [d1, d2, d3, d4] => { results := [.lit (.bool false)], args := [d1, d2, d3, d4] }
  | _ => none }
def ModelForwardWrongFalsely : Prop := modelForwardRow.holds Tryz.pinned (OpenSpec.ofChange modelForwardWrong)

/-- 'portholelaw14.ModelPool': WHATEVER THE INPUT: true; the input reads as it did. -/
def modelPoolSpec : ChangeSpec := { name := "modelPool", fn := fun _ => fun
  | [d] => { results := [.lit (.bool true)], args := [d] }
  | _ => none }
def modelPoolRow : OpenClaim := { program := "ytjodmedgkmeklaagreat", sum := "e5eb148408dcecda92f29a016d2f63b1d7dc667fff18fc905c95754c01c4310b", func := "porthole/portholelaw14.ModelPool", spec := "modelPool", unfollowed := true, recurses := true, apart := false }
def ModelPoolSaid : Prop := modelPoolRow.holds Tryz.pinned (OpenSpec.ofChange modelPoolSpec)

/-- ITS FALSE NEIGHBOUR: 'it returns false'. Refute it at one input. -/
def modelPoolWrong : ChangeSpec := { name := "modelPool", fn := fun _ => fun
  | [d] => { results := [.lit (.bool false)], args := [d] }
  | _ => none }
def ModelPoolWrongFalsely : Prop := modelPoolRow.holds Tryz.pinned (OpenSpec.ofChange modelPoolWrong)

/-- 'portholelaw14.ModelFresh': WHATEVER THE INPUT: true; the input reads as it did. -/
def modelFreshSpec : ChangeSpec := { name := "modelFresh", fn := fun _ => fun
  | [d] => { results := [.lit (.bool true)], args := [d] }
  | _ => none }
def modelFreshRow : OpenClaim := { program := "ytjodmedgkmeklaagreat", sum := "e5eb148408dcecda92f29a016d2f63b1d7dc667fff18fc905c95754c01c4310b", func := "porthole/portholelaw14.ModelFresh", spec := "modelFresh", unfollowed := true, recurses := true, apart := false }
def ModelFreshSaid : Prop := modelFreshRow.holds Tryz.pinned (OpenSpec.ofChange modelFreshSpec)

/-- ITS FALSE NEIGHBOUR: 'it returns false'. Refute it at one input. -/
def modelFreshWrong : ChangeSpec := { name := "modelFresh", fn := fun _ => fun
  | [d] => { results := [.lit (.bool false)], args := [d] }
  | _ => none }
def ModelFreshWrongFalsely : Prop := modelFreshRow.holds Tryz.pinned (OpenSpec.ofChange modelFreshWrong)

/-- 'portholelaw14.ModelSecret': WHATEVER THE INPUT: true; the input reads as it did. -/
def modelSecretSpec : ChangeSpec := { name := "modelSecret", fn := fun _ => fun
  | [d] => { results := [.lit (.bool true)], args := [d] }
  | _ => none }
def modelSecretRow : OpenClaim := { program := "ytjodmedgkmeklaagreat", sum := "e5eb148408dcecda92f29a016d2f63b1d7dc667fff18fc905c95754c01c4310b", func := "porthole/portholelaw14.ModelSecret", spec := "modelSecret", unfollowed := true, recurses := true, apart := false }
def ModelSecretSaid : Prop := modelSecretRow.holds Tryz.pinned (OpenSpec.ofChange modelSecretSpec)

/-- ITS FALSE NEIGHBOUR: 'it returns false'. Refute it at one input. -/
def modelSecretWrong : ChangeSpec := { name := "modelSecret", fn := fun _ => fun
  | [d] => { results := [.lit (.bool false)], args := [d] }
  | _ => none }
def ModelSecretWrongFalsely : Prop := modelSecretRow.holds Tryz.pinned (OpenSpec.ofChange modelSecretWrong)

/-- 'portholelaw14.ModelHonest': WHATEVER THE INPUT: true; the input reads as it did. -/
def modelHonestSpec : ChangeSpec := { name := "modelHonest", fn := fun _ => fun
  | [d1, d2, d3, d4] => { results := [.lit (.bool true)], args := [d1, d2, d3, d4] }
  | _ => none }
def modelHonestRow : OpenClaim := { program := "ytjodmedgkmeklaagreat", sum := "e5eb148408dcecda92f29a016d2f63b1d7dc667fff18fc905c95754c01c4310b", func := "porthole/portholelaw14.ModelHonest", spec := "modelHonest", unfollowed := true, recurses := true, apart := false }
def ModelHonestSaid : Prop := modelHonestRow.holds Tryz.pinned (OpenSpec.ofChange modelHonestSpec)

/-- ITS FALSE NEIGHBOUR: 'it returns false'. Refute it at one input. -/
def modelHonestWrong : ChangeSpec := { name := "modelHonest", fn := fun _ => fun
  | [d1, d2, d3, d4] => { results := [.lit (.bool false)], args := [d1, d2, d3, d4] }
  | _ => none }
def ModelHonestWrongFalsely : Prop := modelHonestRow.holds Tryz.pinned (OpenSpec.ofChange modelHonestWrong)

/-- 'portholelaw14.ModelOrder': WHATEVER THE INPUT: true; the input reads as it did. -/
def modelOrderSpec : ChangeSpec := { name := "modelOrder", fn := fun _ => fun
  | [d] => { results := [.lit (.bool true)], args := [d] }
  | _ => none }
def modelOrderRow : OpenClaim := { program := "ytjodmedgkmeklaagreat", sum := "e5eb148408dcecda92f29a016d2f63b1d7dc667fff18fc905c95754c01c4310b", func := "porthole/portholelaw14.ModelOrder", spec := "modelOrder", unfollowed := true, recurses := true, apart := false }
def ModelOrderSaid : Prop := modelOrderRow.holds Tryz.pinned (OpenSpec.ofChange modelOrderSpec)

/-- ITS FALSE NEIGHBOUR: 'it returns false'. Refute it at one input. -/
def modelOrderWrong : ChangeSpec := { name := "modelOrder", fn := fun _ => fun
  | [d] => { results := [.lit (.bool false)], args := [d] }
  | _ => none }
def ModelOrderWrongFalsely : Prop := modelOrderRow.holds Tryz.pinned (OpenSpec.ofChange modelOrderWrong)

/-- 'portholelaw14.ModelKnown': WHATEVER THE INPUT: true; the input reads as it did. -/
def modelKnownSpec : ChangeSpec := { name := "modelKnown", fn := fun _ => fun
  | [] => { results := [.lit (.bool true)], args := [] }
  | _ => none }
def modelKnownRow : OpenClaim := { program := "ytjodmedgkmeklaagreat", sum := "e5eb148408dcecda92f29a016d2f63b1d7dc667fff18fc905c95754c01c4310b", func := "porthole/portholelaw14.ModelKnown", spec := "modelKnown", unfollowed := true, recurses := true, apart := false }
def ModelKnownSaid : Prop := modelKnownRow.holds Tryz.pinned (OpenSpec.ofChange modelKnownSpec)

/-- ITS FALSE NEIGHBOUR: 'it returns false'. Refute it at one input. -/
def modelKnownWrong : ChangeSpec := { name := "modelKnown", fn := fun _ => fun
  | [] => { results := [.lit (.bool false)], args := [] }
  | _ => none }
def ModelKnownWrongFalsely : Prop := modelKnownRow.holds Tryz.pinned (OpenSpec.ofChange modelKnownWrong)

/- THE SECOND FORM. 'bulk': how many values and letters a reading holds, each counted each time it is reached (what is shared counts as often as it is met; a slice's spare places count too). A statement '..UptoSaid' is the law's where the arguments, and the package variables that the reading takes, are together of bulk at most 1048576: NARROWER than '..Said'. Prove '..Said' where nothing that the law and all that it calls make is longer than what came in: it says more and counts as full. Else prove '..UptoSaid'. A law counts once. -/
mutual
def uptoBulk {H : Type} : DataW H → Nat
  | .lit (.string bytes) => bytes.length + 1
  | .lit _ => 1
  | .nil => 1
  | .ptr d => uptoBulk d + 1
  | .slice elems spare => uptoBulkAll elems + uptoBulkAll spare + 1
  | .agg parts => uptoBulkAll parts + 1
  | .iface _ d => uptoBulk d + 1
  | .map entries => uptoBulkEntries entries + 1
  | .held _ => 1
def uptoBulkAll {H : Type} : List (DataW H) → Nat
  | [] => 0
  | d :: r => uptoBulk d + uptoBulkAll r
def uptoBulkEntries {H : Type} : List (Lit × DataW H) → Nat
  | [] => 0
  | x :: r => uptoBulkEntry x + uptoBulkEntries r
def uptoBulkEntry {H : Type} : Lit × DataW H → Nat
  | (.string bytes, d) => bytes.length + uptoBulk d + 1
  | (_, d) => uptoBulk d + 1
 end
def uptoSmall : (H : Type) → List (DataW H) → Bool := fun _ ds => decide (uptoBulkAll ds ≤ 1048576)
def OpenSpec.upto (s : _root_.Go.ChangeSpec) : _root_.Go.OpenSpec := { _root_.Go.OpenSpec.ofChange s with cond := some uptoSmall }

/-- 'portholelaw14.ModelBelieves', WHERE WHAT IT READS IS OF BULK AT MOST 1048576: true; the input reads as it did. -/
def modelBelievesUptoRow : OpenClaim := { program := "ytjodmedgkmeklaagreat", sum := "e5eb148408dcecda92f29a016d2f63b1d7dc667fff18fc905c95754c01c4310b", func := "porthole/portholelaw14.ModelBelieves", spec := "modelBelieves", unfollowed := true, recurses := true, apart := false, narrowed := true }
def ModelBelievesUptoSaid : Prop := modelBelievesUptoRow.holds Tryz.pinned (OpenSpec.upto modelBelievesSpec)

/-- 'portholelaw14.ModelForward', WHERE WHAT IT READS IS OF BULK AT MOST 1048576: true; the input reads as it did. -/
def modelForwardUptoRow : OpenClaim := { program := "ytjodmedgkmeklaagreat", sum := "e5eb148408dcecda92f29a016d2f63b1d7dc667fff18fc905c95754c01c4310b", func := "porthole/portholelaw14.ModelForward", spec := "modelForward", unfollowed := true, recurses := true, apart := false, narrowed := true }
def ModelForwardUptoSaid : Prop := modelForwardUptoRow.holds Tryz.pinned (OpenSpec.upto modelForwardSpec)

/-- 'portholelaw14.ModelPool', WHERE WHAT IT READS IS OF BULK AT MOST 1048576: true; the input reads as it did. -/
def modelPoolUptoRow : OpenClaim := { program := "ytjodmedgkmeklaagreat", sum := "e5eb148408dcecda92f29a016d2f63b1d7dc667fff18fc905c95754c01c4310b", func := "porthole/portholelaw14.ModelPool", spec := "modelPool", unfollowed := true, recurses := true, apart := false, narrowed := true }
def ModelPoolUptoSaid : Prop := modelPoolUptoRow.holds Tryz.pinned (OpenSpec.upto modelPoolSpec)

/-- 'portholelaw14.ModelFresh', WHERE WHAT IT READS IS OF BULK AT MOST 1048576: true; the input reads as it did. -/
def modelFreshUptoRow : OpenClaim := { program := "ytjodmedgkmeklaagreat", sum := "e5eb148408dcecda92f29a016d2f63b1d7dc667fff18fc905c95754c01c4310b", func := "porthole/portholelaw14.ModelFresh", spec := "modelFresh", unfollowed := true, recurses := true, apart := false, narrowed := true }
def ModelFreshUptoSaid : Prop := modelFreshUptoRow.holds Tryz.pinned (OpenSpec.upto modelFreshSpec)

/-- 'portholelaw14.ModelSecret', WHERE WHAT IT READS IS OF BULK AT MOST 1048576: true; the input reads as it did. -/
def modelSecretUptoRow : OpenClaim := { program := "ytjodmedgkmeklaagreat", sum := "e5eb148408dcecda92f29a016d2f63b1d7dc667fff18fc905c95754c01c4310b", func := "porthole/portholelaw14.ModelSecret", spec := "modelSecret", unfollowed := true, recurses := true, apart := false, narrowed := true }
def ModelSecretUptoSaid : Prop := modelSecretUptoRow.holds Tryz.pinned (OpenSpec.upto modelSecretSpec)

/-- 'portholelaw14.ModelHonest', WHERE WHAT IT READS IS OF BULK AT MOST 1048576: true; the input reads as it did. -/
def modelHonestUptoRow : OpenClaim := { program := "ytjodmedgkmeklaagreat", sum := "e5eb148408dcecda92f29a016d2f63b1d7dc667fff18fc905c95754c01c4310b", func := "porthole/portholelaw14.ModelHonest", spec := "modelHonest", unfollowed := true, recurses := true, apart := false, narrowed := true }
def ModelHonestUptoSaid : Prop := modelHonestUptoRow.holds Tryz.pinned (OpenSpec.upto modelHonestSpec)

/-- 'portholelaw14.ModelOrder', WHERE WHAT IT READS IS OF BULK AT MOST 1048576: true; the input reads as it did. -/
def modelOrderUptoRow : OpenClaim := { program := "ytjodmedgkmeklaagreat", sum := "e5eb148408dcecda92f29a016d2f63b1d7dc667fff18fc905c95754c01c4310b", func := "porthole/portholelaw14.ModelOrder", spec := "modelOrder", unfollowed := true, recurses := true, apart := false, narrowed := true }
def ModelOrderUptoSaid : Prop := modelOrderUptoRow.holds Tryz.pinned (OpenSpec.upto modelOrderSpec)

/-- 'portholelaw14.ModelKnown', WHERE WHAT IT READS IS OF BULK AT MOST 1048576: true; the input reads as it did. -/
def modelKnownUptoRow : OpenClaim := { program := "ytjodmedgkmeklaagreat", sum := "e5eb148408dcecda92f29a016d2f63b1d7dc667fff18fc905c95754c01c4310b", func := "porthole/portholelaw14.ModelKnown", spec := "modelKnown", unfollowed := true, recurses := true, apart := false, narrowed := true }
def ModelKnownUptoSaid : Prop := modelKnownUptoRow.holds Tryz.pinned (OpenSpec.upto modelKnownSpec)

end Rows
end Go.Proofs.YtjodmedgkmeklaaGreat
