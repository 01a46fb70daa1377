/- Walk: FlowNexts, all of it. Conditions: numbers fit. -/
import Derived.Test.YtfijppclaahkmaaFlowNextsP1
import Derived.Test.YtfijppclaahkmaaFlowNextsP2
import Derived.Test.YtfijppclaahkmaaFlowNextsP3
import Derived.Test.YtfijppclaahkmaaFlowOpenT
namespace Go.Proofs.Ytfijppclaahkmaa
open Go.RowKit Go.Sort
theorem flowNexts_walk (s : St) (hs : s.ok) (i : Ins) (hi : i.rng) (g : Nat × Nat) (hg : g.1 < 18446744073709551616 ∧ g.2 < 18446744073709551616) (fits : Bool) (w : World) : Calls Try.prog 4 #[stV s, insV i, .agg #[.int .u64 (g.1 : Nat), .int .u64 (g.2 : Nat)], .bool fits] w fun e w' => e = .returned (.bool true) ∧ Below w.heap.size w w' := by
  cases h : enc i with
  | none => exact nexts_no s i hi g.1 g.2 fits h w
  | some v =>
    cases hm : meB i.op with
    | false =>
      by_cases h30 : i.op = 30
      · exact nexts_c s i hi hs g.1 g.2 hg.1 fits v h h30 w
      · cases hn : numB i.op with
        | false => exact nexts_s s i hi hs g.1 g.2 hg.1 fits v h hn hm h30 w
        | true =>
          by_cases h5 : i.op = 5
          · exact nexts_f s i hi hs g.1 g.2 hg.1 fits v h h5 w
          · exact nexts_n s i hi hs g.1 g.2 hg.1 fits v h hn h5 w
    | true =>
      cases hw : wrB i.op with
      | true =>
        cases hx : exB i.op with
        | true => exact nexts_cwe s i hi hs g.1 g.2 hg.1 fits v h hm hw hx w
        | false => exact nexts_cw s i hi hs g.1 g.2 hg.1 fits v h hm hw hx w
      | false =>
        cases hp : paB i.op with
        | true => exact nexts_cp s i hi hs g.1 g.2 hg.1 fits v h hm hw hp w
        | false =>
          cases hx : exB i.op with
          | true => exact nexts_cx s i hi hs g.1 g.2 hg.1 fits v h hm hw hp hx w
          | false => exact nexts_cr s i hi hs g.1 g.2 hg.1 fits v h hm hw hp hx w
end Go.Proofs.Ytfijppclaahkmaa
