/-
  NARROWER THAN 'FOR EVERY INPUT', by the rows' own cells (each row's printed sentence says how): RelPairs: laid · RelUnions: laid · RelThens: laid · RelAcyclics: laid · RelLines: laid · RelParts: laid · RelTurned: laid · RelGrows: laid.
  DERIVED. THE GIVEN ROWS OF THIS SEAT. 8 by the template 'for every input the law returns true; each argument reads behind the call as it read before'; 0 by the template 'total and deterministic' (their statements: YtgghhbjaokgeeaaDoorTotals.lean).
  GIVEN WITH THE SEED: the statements are not yours to turn. If you find one false, say at which input.
  Laid BY PROGRAM, IN A SANDBOX (cutbox-rows.mjs): the forced cells as the released guide's own fill.sh prints them over the translation 6a3db6ea2c9c7f7c… (all of the seat's roots in one cut). By AI agents, Wed Nov 11 2026. No macro, syntax, notation, axiom, sorry.
-/
import Derived.Test.YtgghhbjaokgeeaaDoorChecked
import GoSem.Claim
import GoSem.ClaimJoined
import GoSem.ClaimMapViews
import Derived.JoinedTies
import Derived.KernelRfl
namespace Go.Proofs.YtgghhbjaokgeeaaDoor
/- THE CELL 'sum', in the pinned program and in every row, IS THE sha256 OF THE DUMP (.gsa) THAT YtgghhbjaokgeeaaDoorProg.lean LOADS. Nothing in Lean hashes anything: it is a label: what it is worth is what the hold of that sum in a sandbox is worth. -/
noncomputable def Tryd.pinned : Pinned := { name := "ytgghhbjaokgeeaadoor", sum := "6a3db6ea2c9c7f7cfb362476aa27e226e5111a1e038297ce0d54d581e69d3569", checked := Tryd.checked }
namespace Rows
def none {H : Type} : Left H := { results := [], args := [] }

/- WHAT THE LISTED PACKAGE-LEVEL VARIABLES READ AS WHEN THE CALL BEGINS. Each datum BY PROGRAM (the guide's laid-datum.mjs) off the statement by which the dump's own 'gosem.cut.vars' lays the variable. In a bare row this is a premise. The card (YtgghhbjaokgeeaaDoorCards.lean) ties it to the program's text. -/
def laid_math_bits_deBruijn64tab {H : Type} : DataW H := .agg [.lit (.int .u8 0), .lit (.int .u8 1), .lit (.int .u8 56), .lit (.int .u8 2), .lit (.int .u8 57), .lit (.int .u8 49), .lit (.int .u8 28), .lit (.int .u8 3), .lit (.int .u8 61), .lit (.int .u8 58), .lit (.int .u8 42), .lit (.int .u8 50), .lit (.int .u8 38), .lit (.int .u8 29), .lit (.int .u8 17), .lit (.int .u8 4), .lit (.int .u8 62), .lit (.int .u8 47), .lit (.int .u8 59), .lit (.int .u8 36), .lit (.int .u8 45), .lit (.int .u8 43), .lit (.int .u8 51), .lit (.int .u8 22), .lit (.int .u8 53), .lit (.int .u8 39), .lit (.int .u8 33), .lit (.int .u8 30), .lit (.int .u8 24), .lit (.int .u8 18), .lit (.int .u8 12), .lit (.int .u8 5), .lit (.int .u8 63), .lit (.int .u8 55), .lit (.int .u8 48), .lit (.int .u8 27), .lit (.int .u8 60), .lit (.int .u8 41), .lit (.int .u8 37), .lit (.int .u8 16), .lit (.int .u8 46), .lit (.int .u8 35), .lit (.int .u8 44), .lit (.int .u8 21), .lit (.int .u8 52), .lit (.int .u8 32), .lit (.int .u8 23), .lit (.int .u8 11), .lit (.int .u8 54), .lit (.int .u8 26), .lit (.int .u8 40), .lit (.int .u8 15), .lit (.int .u8 34), .lit (.int .u8 20), .lit (.int .u8 31), .lit (.int .u8 10), .lit (.int .u8 25), .lit (.int .u8 14), .lit (.int .u8 19), .lit (.int .u8 9), .lit (.int .u8 13), .lit (.int .u8 8), .lit (.int .u8 7), .lit (.int .u8 6)]

/-- 'rabbetlaw02.RelPairs': WHATEVER THE INPUT: true; the input reads as it did. -/
def relPairsSpec : ChangeSpec := { name := "relPairs", fn := fun _ => fun
  | [d1, d2, d3, d4] => { results := [.lit (.bool true)], args := [d1, d2, d3, d4] }
  | _ => none }
def relPairsRow : OpenClaim := { program := "ytgghhbjaokgeeaadoor", sum := "6a3db6ea2c9c7f7cfb362476aa27e226e5111a1e038297ce0d54d581e69d3569", func := "rabbet/rabbetlaw02.RelPairs", spec := "relPairs", named := ["math/bits.deBruijn64tab"], apart := false, laid := [("math/bits.deBruijn64tab", laid_math_bits_deBruijn64tab)] }
def RelPairsSaid : Prop := relPairsRow.holds Tryd.pinned (OpenSpec.ofChange relPairsSpec)

/-- ITS FALSE NEIGHBOUR: 'it returns false'. Refute it at one input. -/
def relPairsWrong : ChangeSpec := { name := "relPairs", fn := fun _ => fun
  | [d1, d2, d3, d4] => { results := [.lit (.bool false)], args := [d1, d2, d3, d4] }
  | _ => none }
def RelPairsWrongFalsely : Prop := relPairsRow.holds Tryd.pinned (OpenSpec.ofChange relPairsWrong)

/-- 'rabbetlaw02.RelUnions': WHATEVER THE INPUT: true; the input reads as it did. -/
def relUnionsSpec : ChangeSpec := { name := "relUnions", fn := fun _ => fun
  | [d1, d2, d3, d4] => { results := [.lit (.bool true)], args := [d1, d2, d3, d4] }
  | _ => none }
def relUnionsRow : OpenClaim := { program := "ytgghhbjaokgeeaadoor", sum := "6a3db6ea2c9c7f7cfb362476aa27e226e5111a1e038297ce0d54d581e69d3569", func := "rabbet/rabbetlaw02.RelUnions", spec := "relUnions", named := ["math/bits.deBruijn64tab"], apart := false, laid := [("math/bits.deBruijn64tab", laid_math_bits_deBruijn64tab)] }
def RelUnionsSaid : Prop := relUnionsRow.holds Tryd.pinned (OpenSpec.ofChange relUnionsSpec)

/-- ITS FALSE NEIGHBOUR: 'it returns false'. Refute it at one input. -/
def relUnionsWrong : ChangeSpec := { name := "relUnions", fn := fun _ => fun
  | [d1, d2, d3, d4] => { results := [.lit (.bool false)], args := [d1, d2, d3, d4] }
  | _ => none }
def RelUnionsWrongFalsely : Prop := relUnionsRow.holds Tryd.pinned (OpenSpec.ofChange relUnionsWrong)

/-- 'rabbetlaw02.RelThens': WHATEVER THE INPUT: true; the input reads as it did. -/
def relThensSpec : ChangeSpec := { name := "relThens", fn := fun _ => fun
  | [d1, d2] => { results := [.lit (.bool true)], args := [d1, d2] }
  | _ => none }
def relThensRow : OpenClaim := { program := "ytgghhbjaokgeeaadoor", sum := "6a3db6ea2c9c7f7cfb362476aa27e226e5111a1e038297ce0d54d581e69d3569", func := "rabbet/rabbetlaw02.RelThens", spec := "relThens", named := ["math/bits.deBruijn64tab"], apart := false, laid := [("math/bits.deBruijn64tab", laid_math_bits_deBruijn64tab)] }
def RelThensSaid : Prop := relThensRow.holds Tryd.pinned (OpenSpec.ofChange relThensSpec)

/-- ITS FALSE NEIGHBOUR: 'it returns false'. Refute it at one input. -/
def relThensWrong : ChangeSpec := { name := "relThens", fn := fun _ => fun
  | [d1, d2] => { results := [.lit (.bool false)], args := [d1, d2] }
  | _ => none }
def RelThensWrongFalsely : Prop := relThensRow.holds Tryd.pinned (OpenSpec.ofChange relThensWrong)

/-- 'rabbetlaw02.RelAcyclics': WHATEVER THE INPUT: true; the input reads as it did. -/
def relAcyclicsSpec : ChangeSpec := { name := "relAcyclics", fn := fun _ => fun
  | [d] => { results := [.lit (.bool true)], args := [d] }
  | _ => none }
def relAcyclicsRow : OpenClaim := { program := "ytgghhbjaokgeeaadoor", sum := "6a3db6ea2c9c7f7cfb362476aa27e226e5111a1e038297ce0d54d581e69d3569", func := "rabbet/rabbetlaw02.RelAcyclics", spec := "relAcyclics", named := ["math/bits.deBruijn64tab"], apart := false, laid := [("math/bits.deBruijn64tab", laid_math_bits_deBruijn64tab)] }
def RelAcyclicsSaid : Prop := relAcyclicsRow.holds Tryd.pinned (OpenSpec.ofChange relAcyclicsSpec)

/-- ITS FALSE NEIGHBOUR: 'it returns false'. Refute it at one input. -/
def relAcyclicsWrong : ChangeSpec := { name := "relAcyclics", fn := fun _ => fun
  | [d] => { results := [.lit (.bool false)], args := [d] }
  | _ => none }
def RelAcyclicsWrongFalsely : Prop := relAcyclicsRow.holds Tryd.pinned (OpenSpec.ofChange relAcyclicsWrong)

/-- 'rabbetlaw02.RelLines': WHATEVER THE INPUT: true; the input reads as it did. -/
def relLinesSpec : ChangeSpec := { name := "relLines", fn := fun _ => fun
  | [d1, d2] => { results := [.lit (.bool true)], args := [d1, d2] }
  | _ => none }
def relLinesRow : OpenClaim := { program := "ytgghhbjaokgeeaadoor", sum := "6a3db6ea2c9c7f7cfb362476aa27e226e5111a1e038297ce0d54d581e69d3569", func := "rabbet/rabbetlaw02.RelLines", spec := "relLines", named := ["math/bits.deBruijn64tab"], apart := false, laid := [("math/bits.deBruijn64tab", laid_math_bits_deBruijn64tab)] }
def RelLinesSaid : Prop := relLinesRow.holds Tryd.pinned (OpenSpec.ofChange relLinesSpec)

/-- ITS FALSE NEIGHBOUR: 'it returns false'. Refute it at one input. -/
def relLinesWrong : ChangeSpec := { name := "relLines", fn := fun _ => fun
  | [d1, d2] => { results := [.lit (.bool false)], args := [d1, d2] }
  | _ => none }
def RelLinesWrongFalsely : Prop := relLinesRow.holds Tryd.pinned (OpenSpec.ofChange relLinesWrong)

/-- 'rabbetlaw02.RelParts': WHATEVER THE INPUT: true; the input reads as it did. -/
def relPartsSpec : ChangeSpec := { name := "relParts", fn := fun _ => fun
  | [d1, d2, d3] => { results := [.lit (.bool true)], args := [d1, d2, d3] }
  | _ => none }
def relPartsRow : OpenClaim := { program := "ytgghhbjaokgeeaadoor", sum := "6a3db6ea2c9c7f7cfb362476aa27e226e5111a1e038297ce0d54d581e69d3569", func := "rabbet/rabbetlaw02.RelParts", spec := "relParts", named := ["math/bits.deBruijn64tab"], apart := false, laid := [("math/bits.deBruijn64tab", laid_math_bits_deBruijn64tab)] }
def RelPartsSaid : Prop := relPartsRow.holds Tryd.pinned (OpenSpec.ofChange relPartsSpec)

/-- ITS FALSE NEIGHBOUR: 'it returns false'. Refute it at one input. -/
def relPartsWrong : ChangeSpec := { name := "relParts", fn := fun _ => fun
  | [d1, d2, d3] => { results := [.lit (.bool false)], args := [d1, d2, d3] }
  | _ => none }
def RelPartsWrongFalsely : Prop := relPartsRow.holds Tryd.pinned (OpenSpec.ofChange relPartsWrong)

/-- 'rabbetlaw02.RelTurned': WHATEVER THE INPUT: true; the input reads as it did. -/
def relTurnedSpec : ChangeSpec := { name := "relTurned", fn := fun _ => fun
  | [d1, d2, d3] => { results := [.lit (.bool true)], args := [d1, d2, d3] }
  | _ => none }
def relTurnedRow : OpenClaim := { program := "ytgghhbjaokgeeaadoor", sum := "6a3db6ea2c9c7f7cfb362476aa27e226e5111a1e038297ce0d54d581e69d3569", func := "rabbet/rabbetlaw02.RelTurned", spec := "relTurned", named := ["math/bits.deBruijn64tab"], apart := false, laid := [("math/bits.deBruijn64tab", laid_math_bits_deBruijn64tab)] }
def RelTurnedSaid : Prop := relTurnedRow.holds Tryd.pinned (OpenSpec.ofChange relTurnedSpec)

/-- ITS FALSE NEIGHBOUR: 'it returns false'. Refute it at one input. -/
def relTurnedWrong : ChangeSpec := { name := "relTurned", fn := fun _ => fun
  | [d1, d2, d3] => { results := [.lit (.bool false)], args := [d1, d2, d3] }
  | _ => none }
def RelTurnedWrongFalsely : Prop := relTurnedRow.holds Tryd.pinned (OpenSpec.ofChange relTurnedWrong)

/-- 'rabbetlaw02.RelGrows': WHATEVER THE INPUT: true; the input reads as it did. -/
def relGrowsSpec : ChangeSpec := { name := "relGrows", fn := fun _ => fun
  | [d1, d2, d3, d4] => { results := [.lit (.bool true)], args := [d1, d2, d3, d4] }
  | _ => none }
def relGrowsRow : OpenClaim := { program := "ytgghhbjaokgeeaadoor", sum := "6a3db6ea2c9c7f7cfb362476aa27e226e5111a1e038297ce0d54d581e69d3569", func := "rabbet/rabbetlaw02.RelGrows", spec := "relGrows", named := ["math/bits.deBruijn64tab"], apart := false, laid := [("math/bits.deBruijn64tab", laid_math_bits_deBruijn64tab)] }
def RelGrowsSaid : Prop := relGrowsRow.holds Tryd.pinned (OpenSpec.ofChange relGrowsSpec)

/-- ITS FALSE NEIGHBOUR: 'it returns false'. Refute it at one input. -/
def relGrowsWrong : ChangeSpec := { name := "relGrows", fn := fun _ => fun
  | [d1, d2, d3, d4] => { results := [.lit (.bool false)], args := [d1, d2, d3, d4] }
  | _ => none }
def RelGrowsWrongFalsely : Prop := relGrowsRow.holds Tryd.pinned (OpenSpec.ofChange relGrowsWrong)

/- THE SECOND FORM. 'bulk': how many values and letters a reading holds, each counted each time it is reached (what is shared counts as often as it is met; a slice's spare places count too). A statement '..UptoSaid' is the law's where the arguments, and the package variables that the reading takes, are together of bulk at most 1048576: NARROWER than '..Said'. Prove '..Said' where nothing that the law and all that it calls make is longer than what came in: it says more and counts as full. Else prove '..UptoSaid'. A law counts once. -/
mutual
def uptoBulk {H : Type} : DataW H → Nat
  | .lit (.string bytes) => bytes.length + 1
  | .lit _ => 1
  | .nil => 1
  | .ptr d => uptoBulk d + 1
  | .slice elems spare => uptoBulkAll elems + uptoBulkAll spare + 1
  | .agg parts => uptoBulkAll parts + 1
  | .iface _ d => uptoBulk d + 1
  | .map entries => uptoBulkEntries entries + 1
  | .held _ => 1
def uptoBulkAll {H : Type} : List (DataW H) → Nat
  | [] => 0
  | d :: r => uptoBulk d + uptoBulkAll r
def uptoBulkEntries {H : Type} : List (Lit × DataW H) → Nat
  | [] => 0
  | x :: r => uptoBulkEntry x + uptoBulkEntries r
def uptoBulkEntry {H : Type} : Lit × DataW H → Nat
  | (.string bytes, d) => bytes.length + uptoBulk d + 1
  | (_, d) => uptoBulk d + 1
 end
def uptoSmall : (H : Type) → List (DataW H) → Bool := fun _ ds => decide (uptoBulkAll ds ≤ 1048576)
def OpenSpec.upto (s : _root_.Go.ChangeSpec) : _root_.Go.OpenSpec := { _root_.Go.OpenSpec.ofChange s with cond := some uptoSmall }

/-- 'rabbetlaw02.RelPairs', WHERE WHAT IT READS IS OF BULK AT MOST 1048576: true; the input reads as it did. -/
def relPairsUptoRow : OpenClaim := { program := "ytgghhbjaokgeeaadoor", sum := "6a3db6ea2c9c7f7cfb362476aa27e226e5111a1e038297ce0d54d581e69d3569", func := "rabbet/rabbetlaw02.RelPairs", spec := "relPairs", named := ["math/bits.deBruijn64tab"], apart := false, laid := [("math/bits.deBruijn64tab", laid_math_bits_deBruijn64tab)], narrowed := true }
def RelPairsUptoSaid : Prop := relPairsUptoRow.holds Tryd.pinned (OpenSpec.upto relPairsSpec)

/-- 'rabbetlaw02.RelUnions', WHERE WHAT IT READS IS OF BULK AT MOST 1048576: true; the input reads as it did. -/
def relUnionsUptoRow : OpenClaim := { program := "ytgghhbjaokgeeaadoor", sum := "6a3db6ea2c9c7f7cfb362476aa27e226e5111a1e038297ce0d54d581e69d3569", func := "rabbet/rabbetlaw02.RelUnions", spec := "relUnions", named := ["math/bits.deBruijn64tab"], apart := false, laid := [("math/bits.deBruijn64tab", laid_math_bits_deBruijn64tab)], narrowed := true }
def RelUnionsUptoSaid : Prop := relUnionsUptoRow.holds Tryd.pinned (OpenSpec.upto relUnionsSpec)

/-- 'rabbetlaw02.RelThens', WHERE WHAT IT READS IS OF BULK AT MOST 1048576: true; the input reads as it did. -/
def relThensUptoRow : OpenClaim := { program := "ytgghhbjaokgeeaadoor", sum := "6a3db6ea2c9c7f7cfb362476aa27e226e5111a1e038297ce0d54d581e69d3569", func := "rabbet/rabbetlaw02.RelThens", spec := "relThens", named := ["math/bits.deBruijn64tab"], apart := false, laid := [("math/bits.deBruijn64tab", laid_math_bits_deBruijn64tab)], narrowed := true }
def RelThensUptoSaid : Prop := relThensUptoRow.holds Tryd.pinned (OpenSpec.upto relThensSpec)

/-- 'rabbetlaw02.RelAcyclics', WHERE WHAT IT READS IS OF BULK AT MOST 1048576: true; the input reads as it did. -/
def relAcyclicsUptoRow : OpenClaim := { program := "ytgghhbjaokgeeaadoor", sum := "6a3db6ea2c9c7f7cfb362476aa27e226e5111a1e038297ce0d54d581e69d3569", func := "rabbet/rabbetlaw02.RelAcyclics", spec := "relAcyclics", named := ["math/bits.deBruijn64tab"], apart := false, laid := [("math/bits.deBruijn64tab", laid_math_bits_deBruijn64tab)], narrowed := true }
def RelAcyclicsUptoSaid : Prop := relAcyclicsUptoRow.holds Tryd.pinned (OpenSpec.upto relAcyclicsSpec)

/-- 'rabbetlaw02.RelLines', WHERE WHAT IT READS IS OF BULK AT MOST 1048576: true; the input reads as it did. -/
def relLinesUptoRow : OpenClaim := { program := "ytgghhbjaokgeeaadoor", sum := "6a3db6ea2c9c7f7cfb362476aa27e226e5111a1e038297ce0d54d581e69d3569", func := "rabbet/rabbetlaw02.RelLines", spec := "relLines", named := ["math/bits.deBruijn64tab"], apart := false, laid := [("math/bits.deBruijn64tab", laid_math_bits_deBruijn64tab)], narrowed := true }
def RelLinesUptoSaid : Prop := relLinesUptoRow.holds Tryd.pinned (OpenSpec.upto relLinesSpec)

/-- 'rabbetlaw02.RelParts', WHERE WHAT IT READS IS OF BULK AT MOST 1048576: true; the input reads as it did. -/
def relPartsUptoRow : OpenClaim := { program := "ytgghhbjaokgeeaadoor", sum := "6a3db6ea2c9c7f7cfb362476aa27e226e5111a1e038297ce0d54d581e69d3569", func := "rabbet/rabbetlaw02.RelParts", spec := "relParts", named := ["math/bits.deBruijn64tab"], apart := false, laid := [("math/bits.deBruijn64tab", laid_math_bits_deBruijn64tab)], narrowed := true }
def RelPartsUptoSaid : Prop := relPartsUptoRow.holds Tryd.pinned (OpenSpec.upto relPartsSpec)

/-- 'rabbetlaw02.RelTurned', WHERE WHAT IT READS IS OF BULK AT MOST 1048576: true; the input reads as it did. -/
def relTurnedUptoRow : OpenClaim := { program := "ytgghhbjaokgeeaadoor", sum := "6a3db6ea2c9c7f7cfb362476aa27e226e5111a1e038297ce0d54d581e69d3569", func := "rabbet/rabbetlaw02.RelTurned", spec := "relTurned", named := ["math/bits.deBruijn64tab"], apart := false, laid := [("math/bits.deBruijn64tab", laid_math_bits_deBruijn64tab)], narrowed := true }
def RelTurnedUptoSaid : Prop := relTurnedUptoRow.holds Tryd.pinned (OpenSpec.upto relTurnedSpec)

/-- 'rabbetlaw02.RelGrows', WHERE WHAT IT READS IS OF BULK AT MOST 1048576: true; the input reads as it did. -/
def relGrowsUptoRow : OpenClaim := { program := "ytgghhbjaokgeeaadoor", sum := "6a3db6ea2c9c7f7cfb362476aa27e226e5111a1e038297ce0d54d581e69d3569", func := "rabbet/rabbetlaw02.RelGrows", spec := "relGrows", named := ["math/bits.deBruijn64tab"], apart := false, laid := [("math/bits.deBruijn64tab", laid_math_bits_deBruijn64tab)], narrowed := true }
def RelGrowsUptoSaid : Prop := relGrowsUptoRow.holds Tryd.pinned (OpenSpec.upto relGrowsSpec)

end Rows
end Go.Proofs.YtgghhbjaokgeeaaDoor
