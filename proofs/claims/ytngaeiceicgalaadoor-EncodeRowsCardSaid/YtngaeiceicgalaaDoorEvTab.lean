/-
  Variables that are laid and stay: the library's table of powers of ten. Own text.
-/
import Derived.WalkKit
import Derived.Lib.ItoaNum
namespace Go.Ev
/-- Blocks of the world that are known and never written: their numbers, what they hold. -/
def tabs : List (Nat × Array Value) := [(0, (Go.Lib.pow10Tab.map fun z => Value.int .u64 z).toArray)]
end Go.Ev
