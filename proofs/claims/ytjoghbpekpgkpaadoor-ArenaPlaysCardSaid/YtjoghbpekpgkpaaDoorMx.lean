/- The builtins max and min at two integers. Of no one program. -/
import Derived.Test.YtjoghbpekpgkpaaDoorRf
import Derived.Handy
namespace Go.Proofs.YtjoghbpekpgkpaaDoor
open Go Go.RowKit
theorem run_max_int (P : Program) (w : World) (ts : Array TypeId) (t : TypeId) (k k' : IntKind) (x y : Int) : (Builtin.max_ ts t #[.int k x, .int k' y]).run P w = .ok (.int k (max x y)) w := by
  rw [run_max_int2]; congr 2; omega
theorem run_min_int (P : Program) (w : World) (ts : Array TypeId) (t : TypeId) (k k' : IntKind) (x y : Int) : (Builtin.min_ ts t #[.int k x, .int k' y]).run P w = .ok (.int k (min x y)) w := by
  rw [run_min_int2]; congr 2; omega
end Go.Proofs.YtjoghbpekpgkpaaDoor
