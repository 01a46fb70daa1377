/- Walk: FlowStays, all of it. Conditions: numbers fit. -/
import Derived.Test.YtfijppclaahkmaaFlowStaysB
import Derived.Test.YtfijppclaahkmaaFlowOpen2
namespace Go.Proofs.Ytfijppclaahkmaa
open Go.RowKit Go.Sort
theorem flowStays_walk (s : St) (hs : s.ok) (i : Ins) (hi : i.rng) (g : Nat × Nat) (hg : g.1 < 18446744073709551616 ∧ g.2 < 18446744073709551616) (fits : Bool) (w : World) : Calls Try.prog 5 #[stV s, insV i, .agg #[.int .u64 (g.1 : Nat), .int .u64 (g.2 : Nat)], .bool fits] w fun e w' => e = .returned (.bool true) ∧ Below w.heap.size w w' := by
  cases h : enc i with
  | none => exact stays_no s i hi g.1 g.2 fits h w
  | some v =>
    cases hm : meB i.op with
    | false => exact stays_yes s i hi hs g.1 g.2 hg.1 fits v h w false false false false false 0 0 0 0 (fun W => ask_no s i hi (Or.inr hm) W) (fun h => by cases h) hm
    | true => exact stays_yes s i hi hs g.1 g.2 hg.1 fits v h w true (exB i.op) (wrB i.op) (acqB i.op) (relB i.op) (spanA s i) (lenI i) (ask0 s i) (ask1 s i) (fun W => ask_yes s i hi hs v h hm W) (fun _ h => h) hm
end Go.Proofs.Ytfijppclaahkmaa
