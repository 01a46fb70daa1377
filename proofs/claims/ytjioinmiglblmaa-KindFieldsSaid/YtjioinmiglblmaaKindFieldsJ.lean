/- Walk: a struct of numbers with names that are unlike. Condition: what came in lies in memory. -/
import Derived.Test.YtjioinmiglblmaaKindFields3
import Derived.Test.YtjioinmiglblmaaKindFields4
namespace Go.Proofs.Ytjioinmiglblmaa
open Go.RowKit Go.Sort
theorem kindFields_any (l : List Int) (a : Option Addr) (c : Nat) (pk un : Bool) (x : Nat) (hx : x < 256) (w : World) (hI : IntsAt w .u8 a l c) : Calls Try.prog 12 #[.slice a l.length c, .bool pk, .bool un, .int .u8 x] w fun e w' => e = .returned (.bool true) ∧ Below w.heap.size w w' := by
  cases un
  · exact kindFields_false l a c pk x hx w hI
  · exact kindFields_true l a c pk x hx w hI
end Go.Proofs.Ytjioinmiglblmaa
