/-
  Terms as plain data, and how they lie in memory.
-/
import Derived.Test.YtegmnbcfanjocaaRows
import Derived.Test.YtegmnbcfanjocaaReg
import Derived.WalkKit
import Derived.WalkLawsBesides
import Derived.WalkSpells
namespace Go.Proofs.Ytegmnbcfanjocaa
open Go Go.RowKit

/-- Terms. -/
inductive Tm where
  | non
  | atom (n : Int)
  | pub (n : Int)
  | shared (a b : Int)
  | chain (i : Int) (f w : Tm)
  | digest (f w : Tm)
  | box (k : Tm) (n : Int) (a t : Tm)
  | empty
  deriving DecidableEq

def Tm.val : Tm → Value
  | .non => .nilIface
  | .atom n => .iface 37 (.agg #[.int .i64 n])
  | .pub n => .iface 58 (.agg #[.int .i64 n])
  | .shared a b => .iface 61 (.agg #[.int .i64 a, .int .i64 b])
  | .chain i f w => .iface 41 (.agg #[.int .i64 i, f.val, w.val])
  | .digest f w => .iface 35 (.agg #[f.val, w.val])
  | .box k n a t => .iface 39 (.agg #[k.val, .int .i64 n, a.val, t.val])
  | .empty => .iface 44 (.agg #[])

theorem Tm.val_one (t : Tm) : t.val.oneCell' = true := by cases t <;> rfl
theorem run_store_tm {P : Program} {a : Addr} {m : Mode} {w : World} (t : Tm) : (store a t.val m).run P w = stored P w a t.val m := run_store P w a _ m t.val_one
theorem Tm.val_cell (t : Tm) : t.val.cells = #[t.val] := by cases t <;> rfl

end Go.Proofs.Ytegmnbcfanjocaa
