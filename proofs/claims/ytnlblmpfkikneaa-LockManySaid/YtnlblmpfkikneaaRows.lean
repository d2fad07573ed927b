/-
  No cell of these rows narrows 'for every input' (looked for: loops, veiled, ifaces, maps, wideKeys, modest, calm, conditions, laid).
  DERIVED. THE GIVEN ROWS OF THIS SEAT. 7 by the template 'for every input the law returns true; each argument reads behind the call as it read before'; 0 by the template 'total and deterministic' (their statements: YtnlblmpfkikneaaTotals.lean).
  GIVEN WITH THE SEED: the statements are not yours to turn. If you find one false, say at which input.
  Laid BY PROGRAM, IN A SANDBOX (cutbox-rows.mjs): the forced cells as the released guide's own fill.sh prints them over the translation ef820244f596a750… (all of the seat's roots in one cut). By AI agents, Wed Nov 11 2026. No macro, syntax, notation, axiom, sorry.
-/
import Derived.Test.YtnlblmpfkikneaaChecked
import GoSem.Claim
import GoSem.ClaimJoined
import GoSem.ClaimMapViews
import Derived.JoinedTies
import Derived.KernelRfl
namespace Go.Proofs.Ytnlblmpfkikneaa
/- THE CELL 'sum', in the pinned program and in every row, IS THE sha256 OF THE DUMP (.gsa) THAT YtnlblmpfkikneaaProg.lean LOADS. Nothing in Lean hashes anything: it is a label: what it is worth is what the hold of that sum in a sandbox is worth. -/
noncomputable def Try.pinned : Pinned := { name := "ytnlblmpfkikneaa", sum := "ef820244f596a750a468a59dd5cc154e2d1aeed72755dd91302a80770e272fcd", checked := Try.checked }
namespace Rows
def none {H : Type} : Left H := { results := [], args := [] }

/-- 'portholelaw18.LockApart': WHATEVER THE INPUT: true; the input reads as it did. -/
def lockApartSpec : ChangeSpec := { name := "lockApart", fn := fun _ => fun
  | [d1, d2, d3, d4] => { results := [.lit (.bool true)], args := [d1, d2, d3, d4] }
  | _ => none }
def lockApartRow : OpenClaim := { program := "ytnlblmpfkikneaa", sum := "ef820244f596a750a468a59dd5cc154e2d1aeed72755dd91302a80770e272fcd", func := "porthole/portholelaw18.LockApart", spec := "lockApart", unfollowed := true, recurses := true, apart := false }
def LockApartSaid : Prop := lockApartRow.holds Try.pinned (OpenSpec.ofChange lockApartSpec)

/-- ITS FALSE NEIGHBOUR: 'it returns false'. Refute it at one input. -/
def lockApartWrong : ChangeSpec := { name := "lockApart", fn := fun _ => fun
  | [d1, d2, d3, d4] => { results := [.lit (.bool false)], args := [d1, d2, d3, d4] }
  | _ => none }
def LockApartWrongFalsely : Prop := lockApartRow.holds Try.pinned (OpenSpec.ofChange lockApartWrong)

/-- 'portholelaw18.LockWaits': WHATEVER THE INPUT: true; the input reads as it did. -/
def lockWaitsSpec : ChangeSpec := { name := "lockWaits", fn := fun _ => fun
  | [d1, d2, d3, d4] => { results := [.lit (.bool true)], args := [d1, d2, d3, d4] }
  | _ => none }
def lockWaitsRow : OpenClaim := { program := "ytnlblmpfkikneaa", sum := "ef820244f596a750a468a59dd5cc154e2d1aeed72755dd91302a80770e272fcd", func := "porthole/portholelaw18.LockWaits", spec := "lockWaits", unfollowed := true, recurses := true, apart := false }
def LockWaitsSaid : Prop := lockWaitsRow.holds Try.pinned (OpenSpec.ofChange lockWaitsSpec)

/-- ITS FALSE NEIGHBOUR: 'it returns false'. Refute it at one input. -/
def lockWaitsWrong : ChangeSpec := { name := "lockWaits", fn := fun _ => fun
  | [d1, d2, d3, d4] => { results := [.lit (.bool false)], args := [d1, d2, d3, d4] }
  | _ => none }
def LockWaitsWrongFalsely : Prop := lockWaitsRow.holds Try.pinned (OpenSpec.ofChange lockWaitsWrong)

/-- 'portholelaw18.LockForgets': WHATEVER THE INPUT: true; the input reads as it did. -/
def lockForgetsSpec : ChangeSpec := { name := "lockForgets", fn := fun _ => fun
  | [d1, d2, d3, d4, d5] => { results := [.lit (.bool true)], args := [d1, d2, d3, d4, d5] }
  | _ => none }
def lockForgetsRow : OpenClaim := { program := "ytnlblmpfkikneaa", sum := "ef820244f596a750a468a59dd5cc154e2d1aeed72755dd91302a80770e272fcd", func := "porthole/portholelaw18.LockForgets", spec := "lockForgets", unfollowed := true, recurses := true, apart := false }
def LockForgetsSaid : Prop := lockForgetsRow.holds Try.pinned (OpenSpec.ofChange lockForgetsSpec)

/-- ITS FALSE NEIGHBOUR: 'it returns false'. Refute it at one input. -/
def lockForgetsWrong : ChangeSpec := { name := "lockForgets", fn := fun _ => fun
  | [d1, d2, d3, d4, d5] => { results := [.lit (.bool false)], args := [d1, d2, d3, d4, d5] }
  | _ => none }
def LockForgetsWrongFalsely : Prop := lockForgetsRow.holds Try.pinned (OpenSpec.ofChange lockForgetsWrong)

/-- 'portholelaw18.LockMany': WHATEVER THE INPUT: true; the input reads as it did. -/
def lockManySpec : ChangeSpec := { name := "lockMany", fn := fun _ => fun
  | [d1, d2] => { results := [.lit (.bool true)], args := [d1, d2] }
  | _ => none }
def lockManyRow : OpenClaim := { program := "ytnlblmpfkikneaa", sum := "ef820244f596a750a468a59dd5cc154e2d1aeed72755dd91302a80770e272fcd", func := "porthole/portholelaw18.LockMany", spec := "lockMany", unfollowed := true, recurses := true, apart := false }
def LockManySaid : Prop := lockManyRow.holds Try.pinned (OpenSpec.ofChange lockManySpec)

/-- ITS FALSE NEIGHBOUR: 'it returns false'. Refute it at one input. -/
def lockManyWrong : ChangeSpec := { name := "lockMany", fn := fun _ => fun
  | [d1, d2] => { results := [.lit (.bool false)], args := [d1, d2] }
  | _ => none }
def LockManyWrongFalsely : Prop := lockManyRow.holds Try.pinned (OpenSpec.ofChange lockManyWrong)

/-- 'portholelaw18.LockKnown': WHATEVER THE INPUT: true; the input reads as it did. -/
def lockKnownSpec : ChangeSpec := { name := "lockKnown", fn := fun _ => fun
  | [] => { results := [.lit (.bool true)], args := [] }
  | _ => none }
def lockKnownRow : OpenClaim := { program := "ytnlblmpfkikneaa", sum := "ef820244f596a750a468a59dd5cc154e2d1aeed72755dd91302a80770e272fcd", func := "porthole/portholelaw18.LockKnown", spec := "lockKnown", unfollowed := true, recurses := true, apart := false }
def LockKnownSaid : Prop := lockKnownRow.holds Try.pinned (OpenSpec.ofChange lockKnownSpec)

/-- ITS FALSE NEIGHBOUR: 'it returns false'. Refute it at one input. -/
def lockKnownWrong : ChangeSpec := { name := "lockKnown", fn := fun _ => fun
  | [] => { results := [.lit (.bool false)], args := [] }
  | _ => none }
def LockKnownWrongFalsely : Prop := lockKnownRow.holds Try.pinned (OpenSpec.ofChange lockKnownWrong)

/-- 'portholelaw18.LockPlays': WHATEVER THE INPUT: true; the input reads as it did. -/
def lockPlaysSpec : ChangeSpec := { name := "lockPlays", fn := fun _ => fun
  | [d1, d2, d3, d4, d5, d6] => { results := [.lit (.bool true)], args := [d1, d2, d3, d4, d5, d6] }
  | _ => none }
def lockPlaysRow : OpenClaim := { program := "ytnlblmpfkikneaa", sum := "ef820244f596a750a468a59dd5cc154e2d1aeed72755dd91302a80770e272fcd", func := "porthole/portholelaw18.LockPlays", spec := "lockPlays", unfollowed := true, recurses := true, apart := false }
def LockPlaysSaid : Prop := lockPlaysRow.holds Try.pinned (OpenSpec.ofChange lockPlaysSpec)

/-- ITS FALSE NEIGHBOUR: 'it returns false'. Refute it at one input. -/
def lockPlaysWrong : ChangeSpec := { name := "lockPlays", fn := fun _ => fun
  | [d1, d2, d3, d4, d5, d6] => { results := [.lit (.bool false)], args := [d1, d2, d3, d4, d5, d6] }
  | _ => none }
def LockPlaysWrongFalsely : Prop := lockPlaysRow.holds Try.pinned (OpenSpec.ofChange lockPlaysWrong)

/-- 'portholelaw18.LockClears': WHATEVER THE INPUT: true; the input reads as it did. -/
def lockClearsSpec : ChangeSpec := { name := "lockClears", fn := fun _ => fun
  | [d1, d2, d3, d4] => { results := [.lit (.bool true)], args := [d1, d2, d3, d4] }
  | _ => none }
def lockClearsRow : OpenClaim := { program := "ytnlblmpfkikneaa", sum := "ef820244f596a750a468a59dd5cc154e2d1aeed72755dd91302a80770e272fcd", func := "porthole/portholelaw18.LockClears", spec := "lockClears", unfollowed := true, recurses := true, apart := false }
def LockClearsSaid : Prop := lockClearsRow.holds Try.pinned (OpenSpec.ofChange lockClearsSpec)

/-- ITS FALSE NEIGHBOUR: 'it returns false'. Refute it at one input. -/
def lockClearsWrong : ChangeSpec := { name := "lockClears", fn := fun _ => fun
  | [d1, d2, d3, d4] => { results := [.lit (.bool false)], args := [d1, d2, d3, d4] }
  | _ => none }
def LockClearsWrongFalsely : Prop := lockClearsRow.holds Try.pinned (OpenSpec.ofChange lockClearsWrong)

/- THE SECOND FORM. 'bulk': how many values and letters a reading holds, each counted each time it is reached (what is shared counts as often as it is met; a slice's spare places count too). A statement '..UptoSaid' is the law's where the arguments, and the package variables that the reading takes, are together of bulk at most 1048576: NARROWER than '..Said'. Prove '..Said' where nothing that the law and all that it calls make is longer than what came in: it says more and counts as full. Else prove '..UptoSaid'. A law counts once. -/
mutual
def uptoBulk {H : Type} : DataW H → Nat
  | .lit (.string bytes) => bytes.length + 1
  | .lit _ => 1
  | .nil => 1
  | .ptr d => uptoBulk d + 1
  | .slice elems spare => uptoBulkAll elems + uptoBulkAll spare + 1
  | .agg parts => uptoBulkAll parts + 1
  | .iface _ d => uptoBulk d + 1
  | .map entries => uptoBulkEntries entries + 1
  | .held _ => 1
def uptoBulkAll {H : Type} : List (DataW H) → Nat
  | [] => 0
  | d :: r => uptoBulk d + uptoBulkAll r
def uptoBulkEntries {H : Type} : List (Lit × DataW H) → Nat
  | [] => 0
  | x :: r => uptoBulkEntry x + uptoBulkEntries r
def uptoBulkEntry {H : Type} : Lit × DataW H → Nat
  | (.string bytes, d) => bytes.length + uptoBulk d + 1
  | (_, d) => uptoBulk d + 1
 end
def uptoSmall : (H : Type) → List (DataW H) → Bool := fun _ ds => decide (uptoBulkAll ds ≤ 1048576)
def OpenSpec.upto (s : _root_.Go.ChangeSpec) : _root_.Go.OpenSpec := { _root_.Go.OpenSpec.ofChange s with cond := some uptoSmall }

/-- 'portholelaw18.LockApart', WHERE WHAT IT READS IS OF BULK AT MOST 1048576: true; the input reads as it did. -/
def lockApartUptoRow : OpenClaim := { program := "ytnlblmpfkikneaa", sum := "ef820244f596a750a468a59dd5cc154e2d1aeed72755dd91302a80770e272fcd", func := "porthole/portholelaw18.LockApart", spec := "lockApart", unfollowed := true, recurses := true, apart := false, narrowed := true }
def LockApartUptoSaid : Prop := lockApartUptoRow.holds Try.pinned (OpenSpec.upto lockApartSpec)

/-- 'portholelaw18.LockWaits', WHERE WHAT IT READS IS OF BULK AT MOST 1048576: true; the input reads as it did. -/
def lockWaitsUptoRow : OpenClaim := { program := "ytnlblmpfkikneaa", sum := "ef820244f596a750a468a59dd5cc154e2d1aeed72755dd91302a80770e272fcd", func := "porthole/portholelaw18.LockWaits", spec := "lockWaits", unfollowed := true, recurses := true, apart := false, narrowed := true }
def LockWaitsUptoSaid : Prop := lockWaitsUptoRow.holds Try.pinned (OpenSpec.upto lockWaitsSpec)

/-- 'portholelaw18.LockForgets', WHERE WHAT IT READS IS OF BULK AT MOST 1048576: true; the input reads as it did. -/
def lockForgetsUptoRow : OpenClaim := { program := "ytnlblmpfkikneaa", sum := "ef820244f596a750a468a59dd5cc154e2d1aeed72755dd91302a80770e272fcd", func := "porthole/portholelaw18.LockForgets", spec := "lockForgets", unfollowed := true, recurses := true, apart := false, narrowed := true }
def LockForgetsUptoSaid : Prop := lockForgetsUptoRow.holds Try.pinned (OpenSpec.upto lockForgetsSpec)

/-- 'portholelaw18.LockMany', WHERE WHAT IT READS IS OF BULK AT MOST 1048576: true; the input reads as it did. -/
def lockManyUptoRow : OpenClaim := { program := "ytnlblmpfkikneaa", sum := "ef820244f596a750a468a59dd5cc154e2d1aeed72755dd91302a80770e272fcd", func := "porthole/portholelaw18.LockMany", spec := "lockMany", unfollowed := true, recurses := true, apart := false, narrowed := true }
def LockManyUptoSaid : Prop := lockManyUptoRow.holds Try.pinned (OpenSpec.upto lockManySpec)

/-- 'portholelaw18.LockKnown', WHERE WHAT IT READS IS OF BULK AT MOST 1048576: true; the input reads as it did. -/
def lockKnownUptoRow : OpenClaim := { program := "ytnlblmpfkikneaa", sum := "ef820244f596a750a468a59dd5cc154e2d1aeed72755dd91302a80770e272fcd", func := "porthole/portholelaw18.LockKnown", spec := "lockKnown", unfollowed := true, recurses := true, apart := false, narrowed := true }
def LockKnownUptoSaid : Prop := lockKnownUptoRow.holds Try.pinned (OpenSpec.upto lockKnownSpec)

/-- 'portholelaw18.LockPlays', WHERE WHAT IT READS IS OF BULK AT MOST 1048576: true; the input reads as it did. -/
def lockPlaysUptoRow : OpenClaim := { program := "ytnlblmpfkikneaa", sum := "ef820244f596a750a468a59dd5cc154e2d1aeed72755dd91302a80770e272fcd", func := "porthole/portholelaw18.LockPlays", spec := "lockPlays", unfollowed := true, recurses := true, apart := false, narrowed := true }
def LockPlaysUptoSaid : Prop := lockPlaysUptoRow.holds Try.pinned (OpenSpec.upto lockPlaysSpec)

/-- 'portholelaw18.LockClears', WHERE WHAT IT READS IS OF BULK AT MOST 1048576: true; the input reads as it did. -/
def lockClearsUptoRow : OpenClaim := { program := "ytnlblmpfkikneaa", sum := "ef820244f596a750a468a59dd5cc154e2d1aeed72755dd91302a80770e272fcd", func := "porthole/portholelaw18.LockClears", spec := "lockClears", unfollowed := true, recurses := true, apart := false, narrowed := true }
def LockClearsUptoSaid : Prop := lockClearsUptoRow.holds Try.pinned (OpenSpec.upto lockClearsSpec)

end Rows
end Go.Proofs.Ytnlblmpfkikneaa
