/-
  No cell of these rows narrows 'for every input' (looked for: loops, veiled, ifaces, maps, wideKeys, modest, calm, conditions, laid).
  DERIVED. THE GIVEN ROWS OF THIS SEAT. 6 by the template 'for every input the law returns true; each argument reads behind the call as it read before'; 0 by the template 'total and deterministic' (their statements: YtegmnbcfanjocaaTotals.lean).
  GIVEN WITH THE SEED: the statements are not yours to turn. If you find one false, say at which input.
  Laid BY PROGRAM, IN A SANDBOX (cutbox-rows.mjs): the forced cells as the released guide's own fill.sh prints them over the translation d34e2668e15841af… (all of the seat's roots in one cut). By AI agents, Wed Nov 11 2026. No macro, syntax, notation, axiom, sorry.
-/
import Derived.Test.YtegmnbcfanjocaaChecked
import GoSem.Claim
import GoSem.ClaimJoined
import GoSem.ClaimMapViews
import Derived.JoinedTies
import Derived.KernelRfl
namespace Go.Proofs.Ytegmnbcfanjocaa
/- THE CELL 'sum', in the pinned program and in every row, IS THE sha256 OF THE DUMP (.gsa) THAT YtegmnbcfanjocaaProg.lean LOADS. Nothing in Lean hashes anything: it is a label: what it is worth is what the hold of that sum in a sandbox is worth. -/
noncomputable def Try.pinned : Pinned := { name := "ytegmnbcfanjocaa", sum := "d34e2668e15841afae7e9adea319614c69a1059abc82e3324ad39989ba6e43bc", checked := Try.checked }
namespace Rows
def none {H : Type} : Left H := { results := [], args := [] }

/-- 'portholelaw13.KnowGrows': WHATEVER THE INPUT: true; the input reads as it did. -/
def knowGrowsSpec : ChangeSpec := { name := "knowGrows", fn := fun _ => fun
  | [d1, d2, d3, d4] => { results := [.lit (.bool true)], args := [d1, d2, d3, d4] }
  | _ => none }
def knowGrowsRow : OpenClaim := { program := "ytegmnbcfanjocaa", sum := "d34e2668e15841afae7e9adea319614c69a1059abc82e3324ad39989ba6e43bc", func := "porthole/portholelaw13.KnowGrows", spec := "knowGrows", unfollowed := true, recurses := true, apart := false }
def KnowGrowsSaid : Prop := knowGrowsRow.holds Try.pinned (OpenSpec.ofChange knowGrowsSpec)

/-- ITS FALSE NEIGHBOUR: 'it returns false'. Refute it at one input. -/
def knowGrowsWrong : ChangeSpec := { name := "knowGrows", fn := fun _ => fun
  | [d1, d2, d3, d4] => { results := [.lit (.bool false)], args := [d1, d2, d3, d4] }
  | _ => none }
def KnowGrowsWrongFalsely : Prop := knowGrowsRow.holds Try.pinned (OpenSpec.ofChange knowGrowsWrong)

/-- 'portholelaw13.KnowMakes': WHATEVER THE INPUT: true; the input reads as it did. -/
def knowMakesSpec : ChangeSpec := { name := "knowMakes", fn := fun _ => fun
  | [d1, d2, d3, d4, d5] => { results := [.lit (.bool true)], args := [d1, d2, d3, d4, d5] }
  | _ => none }
def knowMakesRow : OpenClaim := { program := "ytegmnbcfanjocaa", sum := "d34e2668e15841afae7e9adea319614c69a1059abc82e3324ad39989ba6e43bc", func := "porthole/portholelaw13.KnowMakes", spec := "knowMakes", unfollowed := true, recurses := true, apart := false }
def KnowMakesSaid : Prop := knowMakesRow.holds Try.pinned (OpenSpec.ofChange knowMakesSpec)

/-- ITS FALSE NEIGHBOUR: 'it returns false'. Refute it at one input. -/
def knowMakesWrong : ChangeSpec := { name := "knowMakes", fn := fun _ => fun
  | [d1, d2, d3, d4, d5] => { results := [.lit (.bool false)], args := [d1, d2, d3, d4, d5] }
  | _ => none }
def KnowMakesWrongFalsely : Prop := knowMakesRow.holds Try.pinned (OpenSpec.ofChange knowMakesWrong)

/-- 'portholelaw13.KnowBoxes': WHATEVER THE INPUT: true; the input reads as it did. -/
def knowBoxesSpec : ChangeSpec := { name := "knowBoxes", fn := fun _ => fun
  | [d1, d2, d3, d4, d5] => { results := [.lit (.bool true)], args := [d1, d2, d3, d4, d5] }
  | _ => none }
def knowBoxesRow : OpenClaim := { program := "ytegmnbcfanjocaa", sum := "d34e2668e15841afae7e9adea319614c69a1059abc82e3324ad39989ba6e43bc", func := "porthole/portholelaw13.KnowBoxes", spec := "knowBoxes", unfollowed := true, recurses := true, apart := false }
def KnowBoxesSaid : Prop := knowBoxesRow.holds Try.pinned (OpenSpec.ofChange knowBoxesSpec)

/-- ITS FALSE NEIGHBOUR: 'it returns false'. Refute it at one input. -/
def knowBoxesWrong : ChangeSpec := { name := "knowBoxes", fn := fun _ => fun
  | [d1, d2, d3, d4, d5] => { results := [.lit (.bool false)], args := [d1, d2, d3, d4, d5] }
  | _ => none }
def KnowBoxesWrongFalsely : Prop := knowBoxesRow.holds Try.pinned (OpenSpec.ofChange knowBoxesWrong)

/-- 'portholelaw13.KnowNothing': WHATEVER THE INPUT: true; the input reads as it did. -/
def knowNothingSpec : ChangeSpec := { name := "knowNothing", fn := fun _ => fun
  | [d] => { results := [.lit (.bool true)], args := [d] }
  | _ => none }
def knowNothingRow : OpenClaim := { program := "ytegmnbcfanjocaa", sum := "d34e2668e15841afae7e9adea319614c69a1059abc82e3324ad39989ba6e43bc", func := "porthole/portholelaw13.KnowNothing", spec := "knowNothing", unfollowed := true, recurses := true, apart := false }
def KnowNothingSaid : Prop := knowNothingRow.holds Try.pinned (OpenSpec.ofChange knowNothingSpec)

/-- ITS FALSE NEIGHBOUR: 'it returns false'. Refute it at one input. -/
def knowNothingWrong : ChangeSpec := { name := "knowNothing", fn := fun _ => fun
  | [d] => { results := [.lit (.bool false)], args := [d] }
  | _ => none }
def KnowNothingWrongFalsely : Prop := knowNothingRow.holds Try.pinned (OpenSpec.ofChange knowNothingWrong)

/-- 'portholelaw13.KnowCan': WHATEVER THE INPUT: true; the input reads as it did. -/
def knowCanSpec : ChangeSpec := { name := "knowCan", fn := fun _ => fun
  | [d1, d2, d3, d4, d5] => { results := [.lit (.bool true)], args := [d1, d2, d3, d4, d5] }
  | _ => none }
def knowCanRow : OpenClaim := { program := "ytegmnbcfanjocaa", sum := "d34e2668e15841afae7e9adea319614c69a1059abc82e3324ad39989ba6e43bc", func := "porthole/portholelaw13.KnowCan", spec := "knowCan", unfollowed := true, recurses := true, apart := false }
def KnowCanSaid : Prop := knowCanRow.holds Try.pinned (OpenSpec.ofChange knowCanSpec)

/-- ITS FALSE NEIGHBOUR: 'it returns false'. Refute it at one input. -/
def knowCanWrong : ChangeSpec := { name := "knowCan", fn := fun _ => fun
  | [d1, d2, d3, d4, d5] => { results := [.lit (.bool false)], args := [d1, d2, d3, d4, d5] }
  | _ => none }
def KnowCanWrongFalsely : Prop := knowCanRow.holds Try.pinned (OpenSpec.ofChange knowCanWrong)

/-- 'portholelaw13.KnowKnown': WHATEVER THE INPUT: true; the input reads as it did. -/
def knowKnownSpec : ChangeSpec := { name := "knowKnown", fn := fun _ => fun
  | [] => { results := [.lit (.bool true)], args := [] }
  | _ => none }
def knowKnownRow : OpenClaim := { program := "ytegmnbcfanjocaa", sum := "d34e2668e15841afae7e9adea319614c69a1059abc82e3324ad39989ba6e43bc", func := "porthole/portholelaw13.KnowKnown", spec := "knowKnown", unfollowed := true, recurses := true, apart := false }
def KnowKnownSaid : Prop := knowKnownRow.holds Try.pinned (OpenSpec.ofChange knowKnownSpec)

/-- ITS FALSE NEIGHBOUR: 'it returns false'. Refute it at one input. -/
def knowKnownWrong : ChangeSpec := { name := "knowKnown", fn := fun _ => fun
  | [] => { results := [.lit (.bool false)], args := [] }
  | _ => none }
def KnowKnownWrongFalsely : Prop := knowKnownRow.holds Try.pinned (OpenSpec.ofChange knowKnownWrong)

/- THE SECOND FORM. 'bulk': how many values and letters a reading holds, each counted each time it is reached (what is shared counts as often as it is met; a slice's spare places count too). A statement '..UptoSaid' is the law's where the arguments, and the package variables that the reading takes, are together of bulk at most 1048576: NARROWER than '..Said'. Prove '..Said' where nothing that the law and all that it calls make is longer than what came in: it says more and counts as full. Else prove '..UptoSaid'. A law counts once. -/
mutual
def uptoBulk {H : Type} : DataW H → Nat
  | .lit (.string bytes) => bytes.length + 1
  | .lit _ => 1
  | .nil => 1
  | .ptr d => uptoBulk d + 1
  | .slice elems spare => uptoBulkAll elems + uptoBulkAll spare + 1
  | .agg parts => uptoBulkAll parts + 1
  | .iface _ d => uptoBulk d + 1
  | .map entries => uptoBulkEntries entries + 1
  | .held _ => 1
def uptoBulkAll {H : Type} : List (DataW H) → Nat
  | [] => 0
  | d :: r => uptoBulk d + uptoBulkAll r
def uptoBulkEntries {H : Type} : List (Lit × DataW H) → Nat
  | [] => 0
  | x :: r => uptoBulkEntry x + uptoBulkEntries r
def uptoBulkEntry {H : Type} : Lit × DataW H → Nat
  | (.string bytes, d) => bytes.length + uptoBulk d + 1
  | (_, d) => uptoBulk d + 1
 end
def uptoSmall : (H : Type) → List (DataW H) → Bool := fun _ ds => decide (uptoBulkAll ds ≤ 1048576)
def OpenSpec.upto (s : _root_.Go.ChangeSpec) : _root_.Go.OpenSpec := { _root_.Go.OpenSpec.ofChange s with cond := some uptoSmall }

/-- 'portholelaw13.KnowGrows', WHERE WHAT IT READS IS OF BULK AT MOST 1048576: true; the input reads as it did. -/
def knowGrowsUptoRow : OpenClaim := { program := "ytegmnbcfanjocaa", sum := "d34e2668e15841afae7e9adea319614c69a1059abc82e3324ad39989ba6e43bc", func := "porthole/portholelaw13.KnowGrows", spec := "knowGrows", unfollowed := true, recurses := true, apart := false, narrowed := true }
def KnowGrowsUptoSaid : Prop := knowGrowsUptoRow.holds Try.pinned (OpenSpec.upto knowGrowsSpec)

/-- 'portholelaw13.KnowMakes', WHERE WHAT IT READS IS OF BULK AT MOST 1048576: true; the input reads as it did. -/
def knowMakesUptoRow : OpenClaim := { program := "ytegmnbcfanjocaa", sum := "d34e2668e15841afae7e9adea319614c69a1059abc82e3324ad39989ba6e43bc", func := "porthole/portholelaw13.KnowMakes", spec := "knowMakes", unfollowed := true, recurses := true, apart := false, narrowed := true }
def KnowMakesUptoSaid : Prop := knowMakesUptoRow.holds Try.pinned (OpenSpec.upto knowMakesSpec)

/-- 'portholelaw13.KnowBoxes', WHERE WHAT IT READS IS OF BULK AT MOST 1048576: true; the input reads as it did. -/
def knowBoxesUptoRow : OpenClaim := { program := "ytegmnbcfanjocaa", sum := "d34e2668e15841afae7e9adea319614c69a1059abc82e3324ad39989ba6e43bc", func := "porthole/portholelaw13.KnowBoxes", spec := "knowBoxes", unfollowed := true, recurses := true, apart := false, narrowed := true }
def KnowBoxesUptoSaid : Prop := knowBoxesUptoRow.holds Try.pinned (OpenSpec.upto knowBoxesSpec)

/-- 'portholelaw13.KnowNothing', WHERE WHAT IT READS IS OF BULK AT MOST 1048576: true; the input reads as it did. -/
def knowNothingUptoRow : OpenClaim := { program := "ytegmnbcfanjocaa", sum := "d34e2668e15841afae7e9adea319614c69a1059abc82e3324ad39989ba6e43bc", func := "porthole/portholelaw13.KnowNothing", spec := "knowNothing", unfollowed := true, recurses := true, apart := false, narrowed := true }
def KnowNothingUptoSaid : Prop := knowNothingUptoRow.holds Try.pinned (OpenSpec.upto knowNothingSpec)

/-- 'portholelaw13.KnowCan', WHERE WHAT IT READS IS OF BULK AT MOST 1048576: true; the input reads as it did. -/
def knowCanUptoRow : OpenClaim := { program := "ytegmnbcfanjocaa", sum := "d34e2668e15841afae7e9adea319614c69a1059abc82e3324ad39989ba6e43bc", func := "porthole/portholelaw13.KnowCan", spec := "knowCan", unfollowed := true, recurses := true, apart := false, narrowed := true }
def KnowCanUptoSaid : Prop := knowCanUptoRow.holds Try.pinned (OpenSpec.upto knowCanSpec)

/-- 'portholelaw13.KnowKnown', WHERE WHAT IT READS IS OF BULK AT MOST 1048576: true; the input reads as it did. -/
def knowKnownUptoRow : OpenClaim := { program := "ytegmnbcfanjocaa", sum := "d34e2668e15841afae7e9adea319614c69a1059abc82e3324ad39989ba6e43bc", func := "porthole/portholelaw13.KnowKnown", spec := "knowKnown", unfollowed := true, recurses := true, apart := false, narrowed := true }
def KnowKnownUptoSaid : Prop := knowKnownUptoRow.holds Try.pinned (OpenSpec.upto knowKnownSpec)

end Rows
end Go.Proofs.Ytegmnbcfanjocaa
