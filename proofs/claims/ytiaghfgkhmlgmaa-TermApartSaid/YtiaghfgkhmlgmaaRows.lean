/-
  No cell of these rows narrows 'for every input' (looked for: loops, veiled, ifaces, maps, wideKeys, modest, calm, conditions, laid).
  DERIVED. THE GIVEN ROWS OF THIS SEAT. 5 by the template 'for every input the law returns true; each argument reads behind the call as it read before'; 0 by the template 'total and deterministic' (their statements: YtiaghfgkhmlgmaaTotals.lean).
  GIVEN WITH THE SEED: the statements are not yours to turn. If you find one false, say at which input.
  Laid BY PROGRAM, IN A SANDBOX (cutbox-rows.mjs): the forced cells as the released guide's own fill.sh prints them over the translation 6325ed87eb71c71a… (all of the seat's roots in one cut). By AI agents, Wed Nov 11 2026. No macro, syntax, notation, axiom, sorry.
-/
import Derived.Test.YtiaghfgkhmlgmaaChecked
import GoSem.Claim
import GoSem.ClaimJoined
import GoSem.ClaimMapViews
import Derived.JoinedTies
import Derived.KernelRfl
namespace Go.Proofs.Ytiaghfgkhmlgmaa
/- THE CELL 'sum', in the pinned program and in every row, IS THE sha256 OF THE DUMP (.gsa) THAT YtiaghfgkhmlgmaaProg.lean LOADS. Nothing in Lean hashes anything: it is a label: what it is worth is what the hold of that sum in a sandbox is worth. -/
noncomputable def Try.pinned : Pinned := { name := "ytiaghfgkhmlgmaa", sum := "6325ed87eb71c71a367765e50fc91bd92035bd61333254d6e8d7d4782c55373a", checked := Try.checked }
namespace Rows
def none {H : Type} : Left H := { results := [], args := [] }

/-- 'portholelaw12.TermApart': WHATEVER THE INPUT: true; the input reads as it did. -/
def termApartSpec : ChangeSpec := { name := "termApart", fn := fun _ => fun
  | [d1, d2, d3, d4] => { results := [.lit (.bool true)], args := [d1, d2, d3, d4] }
  | _ => none }
def termApartRow : OpenClaim := { program := "ytiaghfgkhmlgmaa", sum := "6325ed87eb71c71a367765e50fc91bd92035bd61333254d6e8d7d4782c55373a", func := "porthole/portholelaw12.TermApart", spec := "termApart", unfollowed := true, recurses := true, apart := false }
def TermApartSaid : Prop := termApartRow.holds Try.pinned (OpenSpec.ofChange termApartSpec)

/-- ITS FALSE NEIGHBOUR: 'it returns false'. Refute it at one input. -/
def termApartWrong : ChangeSpec := { name := "termApart", fn := fun _ => fun
  | [d1, d2, d3, d4] => { results := [.lit (.bool false)], args := [d1, d2, d3, d4] }
  | _ => none }
def TermApartWrongFalsely : Prop := termApartRow.holds Try.pinned (OpenSpec.ofChange termApartWrong)

/-- 'portholelaw12.TermDh': WHATEVER THE INPUT: true; the input reads as it did. -/
def termDhSpec : ChangeSpec := { name := "termDh", fn := fun _ => fun
  | [d1, d2, d3, d4] => { results := [.lit (.bool true)], args := [d1, d2, d3, d4] }
  | _ => none }
def termDhRow : OpenClaim := { program := "ytiaghfgkhmlgmaa", sum := "6325ed87eb71c71a367765e50fc91bd92035bd61333254d6e8d7d4782c55373a", func := "porthole/portholelaw12.TermDh", spec := "termDh", unfollowed := true, recurses := true, apart := false }
def TermDhSaid : Prop := termDhRow.holds Try.pinned (OpenSpec.ofChange termDhSpec)

/-- ITS FALSE NEIGHBOUR: 'it returns false'. Refute it at one input. -/
def termDhWrong : ChangeSpec := { name := "termDh", fn := fun _ => fun
  | [d1, d2, d3, d4] => { results := [.lit (.bool false)], args := [d1, d2, d3, d4] }
  | _ => none }
def TermDhWrongFalsely : Prop := termDhRow.holds Try.pinned (OpenSpec.ofChange termDhWrong)

/-- 'portholelaw12.TermSizes': WHATEVER THE INPUT: true; the input reads as it did. -/
def termSizesSpec : ChangeSpec := { name := "termSizes", fn := fun _ => fun
  | [d1, d2, d3, d4] => { results := [.lit (.bool true)], args := [d1, d2, d3, d4] }
  | _ => none }
def termSizesRow : OpenClaim := { program := "ytiaghfgkhmlgmaa", sum := "6325ed87eb71c71a367765e50fc91bd92035bd61333254d6e8d7d4782c55373a", func := "porthole/portholelaw12.TermSizes", spec := "termSizes", unfollowed := true, recurses := true, apart := false }
def TermSizesSaid : Prop := termSizesRow.holds Try.pinned (OpenSpec.ofChange termSizesSpec)

/-- ITS FALSE NEIGHBOUR: 'it returns false'. Refute it at one input. -/
def termSizesWrong : ChangeSpec := { name := "termSizes", fn := fun _ => fun
  | [d1, d2, d3, d4] => { results := [.lit (.bool false)], args := [d1, d2, d3, d4] }
  | _ => none }
def TermSizesWrongFalsely : Prop := termSizesRow.holds Try.pinned (OpenSpec.ofChange termSizesWrong)

/-- 'portholelaw12.TermNames': WHATEVER THE INPUT: true; the input reads as it did. -/
def termNamesSpec : ChangeSpec := { name := "termNames", fn := fun _ => fun
  | [d1, d2, d3] => { results := [.lit (.bool true)], args := [d1, d2, d3] }
  | _ => none }
def termNamesRow : OpenClaim := { program := "ytiaghfgkhmlgmaa", sum := "6325ed87eb71c71a367765e50fc91bd92035bd61333254d6e8d7d4782c55373a", func := "porthole/portholelaw12.TermNames", spec := "termNames", unfollowed := true, recurses := true, apart := false }
def TermNamesSaid : Prop := termNamesRow.holds Try.pinned (OpenSpec.ofChange termNamesSpec)

/-- ITS FALSE NEIGHBOUR: 'it returns false'. Refute it at one input. -/
def termNamesWrong : ChangeSpec := { name := "termNames", fn := fun _ => fun
  | [d1, d2, d3] => { results := [.lit (.bool false)], args := [d1, d2, d3] }
  | _ => none }
def TermNamesWrongFalsely : Prop := termNamesRow.holds Try.pinned (OpenSpec.ofChange termNamesWrong)

/-- 'portholelaw12.TermShared': WHATEVER THE INPUT: true; the input reads as it did. -/
def termSharedSpec : ChangeSpec := { name := "termShared", fn := fun _ => fun
  | [d1, d2, d3] => { results := [.lit (.bool true)], args := [d1, d2, d3] }
  | _ => none }
def termSharedRow : OpenClaim := { program := "ytiaghfgkhmlgmaa", sum := "6325ed87eb71c71a367765e50fc91bd92035bd61333254d6e8d7d4782c55373a", func := "porthole/portholelaw12.TermShared", spec := "termShared", unfollowed := true, recurses := true, apart := false }
def TermSharedSaid : Prop := termSharedRow.holds Try.pinned (OpenSpec.ofChange termSharedSpec)

/-- ITS FALSE NEIGHBOUR: 'it returns false'. Refute it at one input. -/
def termSharedWrong : ChangeSpec := { name := "termShared", fn := fun _ => fun
  | [d1, d2, d3] => { results := [.lit (.bool false)], args := [d1, d2, d3] }
  | _ => none }
def TermSharedWrongFalsely : Prop := termSharedRow.holds Try.pinned (OpenSpec.ofChange termSharedWrong)

/- THE SECOND FORM. 'bulk': how many values and letters a reading holds, each counted each time it is reached (what is shared counts as often as it is met; a slice's spare places count too). A statement '..UptoSaid' is the law's where the arguments, and the package variables that the reading takes, are together of bulk at most 1048576: NARROWER than '..Said'. Prove '..Said' where nothing that the law and all that it calls make is longer than what came in: it says more and counts as full. Else prove '..UptoSaid'. A law counts once. -/
mutual
def uptoBulk {H : Type} : DataW H → Nat
  | .lit (.string bytes) => bytes.length + 1
  | .lit _ => 1
  | .nil => 1
  | .ptr d => uptoBulk d + 1
  | .slice elems spare => uptoBulkAll elems + uptoBulkAll spare + 1
  | .agg parts => uptoBulkAll parts + 1
  | .iface _ d => uptoBulk d + 1
  | .map entries => uptoBulkEntries entries + 1
  | .held _ => 1
def uptoBulkAll {H : Type} : List (DataW H) → Nat
  | [] => 0
  | d :: r => uptoBulk d + uptoBulkAll r
def uptoBulkEntries {H : Type} : List (Lit × DataW H) → Nat
  | [] => 0
  | x :: r => uptoBulkEntry x + uptoBulkEntries r
def uptoBulkEntry {H : Type} : Lit × DataW H → Nat
  | (.string bytes, d) => bytes.length + uptoBulk d + 1
  | (_, d) => uptoBulk d + 1
 end
def uptoSmall : (H : Type) → List (DataW H) → Bool := fun _ ds => decide (uptoBulkAll ds ≤ 1048576)
def OpenSpec.upto (s : _root_.Go.ChangeSpec) : _root_.Go.OpenSpec := { _root_.Go.OpenSpec.ofChange s with cond := some uptoSmall }

/-- 'portholelaw12.TermApart', WHERE WHAT IT READS IS OF BULK AT MOST 1048576: true; the input reads as it did. -/
def termApartUptoRow : OpenClaim := { program := "ytiaghfgkhmlgmaa", sum := "6325ed87eb71c71a367765e50fc91bd92035bd61333254d6e8d7d4782c55373a", func := "porthole/portholelaw12.TermApart", spec := "termApart", unfollowed := true, recurses := true, apart := false, narrowed := true }
def TermApartUptoSaid : Prop := termApartUptoRow.holds Try.pinned (OpenSpec.upto termApartSpec)

/-- 'portholelaw12.TermDh', WHERE WHAT IT READS IS OF BULK AT MOST 1048576: true; the input reads as it did. -/
def termDhUptoRow : OpenClaim := { program := "ytiaghfgkhmlgmaa", sum := "6325ed87eb71c71a367765e50fc91bd92035bd61333254d6e8d7d4782c55373a", func := "porthole/portholelaw12.TermDh", spec := "termDh", unfollowed := true, recurses := true, apart := false, narrowed := true }
def TermDhUptoSaid : Prop := termDhUptoRow.holds Try.pinned (OpenSpec.upto termDhSpec)

/-- 'portholelaw12.TermSizes', WHERE WHAT IT READS IS OF BULK AT MOST 1048576: true; the input reads as it did. -/
def termSizesUptoRow : OpenClaim := { program := "ytiaghfgkhmlgmaa", sum := "6325ed87eb71c71a367765e50fc91bd92035bd61333254d6e8d7d4782c55373a", func := "porthole/portholelaw12.TermSizes", spec := "termSizes", unfollowed := true, recurses := true, apart := false, narrowed := true }
def TermSizesUptoSaid : Prop := termSizesUptoRow.holds Try.pinned (OpenSpec.upto termSizesSpec)

/-- 'portholelaw12.TermNames', WHERE WHAT IT READS IS OF BULK AT MOST 1048576: true; the input reads as it did. -/
def termNamesUptoRow : OpenClaim := { program := "ytiaghfgkhmlgmaa", sum := "6325ed87eb71c71a367765e50fc91bd92035bd61333254d6e8d7d4782c55373a", func := "porthole/portholelaw12.TermNames", spec := "termNames", unfollowed := true, recurses := true, apart := false, narrowed := true }
def TermNamesUptoSaid : Prop := termNamesUptoRow.holds Try.pinned (OpenSpec.upto termNamesSpec)

/-- 'portholelaw12.TermShared', WHERE WHAT IT READS IS OF BULK AT MOST 1048576: true; the input reads as it did. -/
def termSharedUptoRow : OpenClaim := { program := "ytiaghfgkhmlgmaa", sum := "6325ed87eb71c71a367765e50fc91bd92035bd61333254d6e8d7d4782c55373a", func := "porthole/portholelaw12.TermShared", spec := "termShared", unfollowed := true, recurses := true, apart := false, narrowed := true }
def TermSharedUptoSaid : Prop := termSharedUptoRow.holds Try.pinned (OpenSpec.upto termSharedSpec)

end Rows
end Go.Proofs.Ytiaghfgkhmlgmaa
