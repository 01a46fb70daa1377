/- Walk: FlowAsks, all of it. Conditions: numbers fit. -/
import Derived.Test.YtfijppclaahkmaaFlowAsksB
import Derived.Test.YtfijppclaahkmaaFlowOpen
namespace Go.Proofs.Ytfijppclaahkmaa
open Go.RowKit Go.Sort
theorem flowAsks_walk (s : St) (hs : s.ok) (i : Ins) (hi : i.rng) (w : World) : Calls Try.prog 3 #[stV s, insV i] w fun e w' => e = .returned (.bool true) ∧ Below w.heap.size w w' := by
  cases h : enc i with
  | none => exact asks_unsound s i hi h w
  | some v =>
    cases hm : meB i.op with
    | false => exact asks_none s i hi v h hm w
    | true => exact asks_mem s i hi hs v h hm w
end Go.Proofs.Ytfijppclaahkmaa
