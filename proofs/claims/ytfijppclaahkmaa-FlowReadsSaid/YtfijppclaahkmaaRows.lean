/-
  No cell of these rows narrows 'for every input' (looked for: loops, veiled, ifaces, maps, wideKeys, modest, calm, conditions, laid).
  DERIVED. THE GIVEN ROWS OF THIS SEAT. 4 by the template 'for every input the law returns true; each argument reads behind the call as it read before'; 0 by the template 'total and deterministic' (their statements: YtfijppclaahkmaaTotals.lean).
  GIVEN WITH THE SEED: the statements are not yours to turn. If you find one false, say at which input.
  Laid BY PROGRAM, IN A SANDBOX (cutbox-rows.mjs): the forced cells as the released guide's own fill.sh prints them over the translation 733e2a7c517fd415… (all of the seat's roots in one cut). By AI agents, Wed Nov 11 2026. No macro, syntax, notation, axiom, sorry.
-/
import Derived.Test.YtfijppclaahkmaaChecked
import GoSem.Claim
import GoSem.ClaimJoined
import GoSem.ClaimMapViews
import Derived.JoinedTies
import Derived.KernelRfl
namespace Go.Proofs.Ytfijppclaahkmaa
/- THE CELL 'sum', in the pinned program and in every row, IS THE sha256 OF THE DUMP (.gsa) THAT YtfijppclaahkmaaProg.lean LOADS. Nothing in Lean hashes anything: it is a label: what it is worth is what the hold of that sum in a sandbox is worth. -/
noncomputable def Try.pinned : Pinned := { name := "ytfijppclaahkmaa", sum := "733e2a7c517fd4150e9830d0ee75b58bc38109c4c07f7e7f191f9e8047e844ea", checked := Try.checked }
namespace Rows
def none {H : Type} : Left H := { results := [], args := [] }

/-- 'rabbetlaw05.FlowAsks': WHATEVER THE INPUT: true; the input reads as it did. -/
def flowAsksSpec : ChangeSpec := { name := "flowAsks", fn := fun _ => fun
  | [d1, d2] => { results := [.lit (.bool true)], args := [d1, d2] }
  | _ => none }
def flowAsksRow : OpenClaim := { program := "ytfijppclaahkmaa", sum := "733e2a7c517fd4150e9830d0ee75b58bc38109c4c07f7e7f191f9e8047e844ea", func := "rabbet/rabbetlaw05.FlowAsks", spec := "flowAsks", apart := false }
def FlowAsksSaid : Prop := flowAsksRow.holds Try.pinned (OpenSpec.ofChange flowAsksSpec)

/-- ITS FALSE NEIGHBOUR: 'it returns false'. Refute it at one input. -/
def flowAsksWrong : ChangeSpec := { name := "flowAsks", fn := fun _ => fun
  | [d1, d2] => { results := [.lit (.bool false)], args := [d1, d2] }
  | _ => none }
def FlowAsksWrongFalsely : Prop := flowAsksRow.holds Try.pinned (OpenSpec.ofChange flowAsksWrong)

/-- 'rabbetlaw05.FlowNexts': WHATEVER THE INPUT: true; the input reads as it did. -/
def flowNextsSpec : ChangeSpec := { name := "flowNexts", fn := fun _ => fun
  | [d1, d2, d3, d4] => { results := [.lit (.bool true)], args := [d1, d2, d3, d4] }
  | _ => none }
def flowNextsRow : OpenClaim := { program := "ytfijppclaahkmaa", sum := "733e2a7c517fd4150e9830d0ee75b58bc38109c4c07f7e7f191f9e8047e844ea", func := "rabbet/rabbetlaw05.FlowNexts", spec := "flowNexts", apart := false }
def FlowNextsSaid : Prop := flowNextsRow.holds Try.pinned (OpenSpec.ofChange flowNextsSpec)

/-- ITS FALSE NEIGHBOUR: 'it returns false'. Refute it at one input. -/
def flowNextsWrong : ChangeSpec := { name := "flowNexts", fn := fun _ => fun
  | [d1, d2, d3, d4] => { results := [.lit (.bool false)], args := [d1, d2, d3, d4] }
  | _ => none }
def FlowNextsWrongFalsely : Prop := flowNextsRow.holds Try.pinned (OpenSpec.ofChange flowNextsWrong)

/-- 'rabbetlaw05.FlowStays': WHATEVER THE INPUT: true; the input reads as it did. -/
def flowStaysSpec : ChangeSpec := { name := "flowStays", fn := fun _ => fun
  | [d1, d2, d3, d4] => { results := [.lit (.bool true)], args := [d1, d2, d3, d4] }
  | _ => none }
def flowStaysRow : OpenClaim := { program := "ytfijppclaahkmaa", sum := "733e2a7c517fd4150e9830d0ee75b58bc38109c4c07f7e7f191f9e8047e844ea", func := "rabbet/rabbetlaw05.FlowStays", spec := "flowStays", apart := false }
def FlowStaysSaid : Prop := flowStaysRow.holds Try.pinned (OpenSpec.ofChange flowStaysSpec)

/-- ITS FALSE NEIGHBOUR: 'it returns false'. Refute it at one input. -/
def flowStaysWrong : ChangeSpec := { name := "flowStays", fn := fun _ => fun
  | [d1, d2, d3, d4] => { results := [.lit (.bool false)], args := [d1, d2, d3, d4] }
  | _ => none }
def FlowStaysWrongFalsely : Prop := flowStaysRow.holds Try.pinned (OpenSpec.ofChange flowStaysWrong)

/-- 'rabbetlaw05.FlowReads': WHATEVER THE INPUT: true; the input reads as it did. -/
def flowReadsSpec : ChangeSpec := { name := "flowReads", fn := fun _ => fun
  | [d1, d2, d3, d4, d5] => { results := [.lit (.bool true)], args := [d1, d2, d3, d4, d5] }
  | _ => none }
def flowReadsRow : OpenClaim := { program := "ytfijppclaahkmaa", sum := "733e2a7c517fd4150e9830d0ee75b58bc38109c4c07f7e7f191f9e8047e844ea", func := "rabbet/rabbetlaw05.FlowReads", spec := "flowReads", apart := false }
def FlowReadsSaid : Prop := flowReadsRow.holds Try.pinned (OpenSpec.ofChange flowReadsSpec)

/-- ITS FALSE NEIGHBOUR: 'it returns false'. Refute it at one input. -/
def flowReadsWrong : ChangeSpec := { name := "flowReads", fn := fun _ => fun
  | [d1, d2, d3, d4, d5] => { results := [.lit (.bool false)], args := [d1, d2, d3, d4, d5] }
  | _ => none }
def FlowReadsWrongFalsely : Prop := flowReadsRow.holds Try.pinned (OpenSpec.ofChange flowReadsWrong)

/- THE SECOND FORM. 'bulk': how many values and letters a reading holds, each counted each time it is reached (what is shared counts as often as it is met; a slice's spare places count too). A statement '..UptoSaid' is the law's where the arguments, and the package variables that the reading takes, are together of bulk at most 1048576: NARROWER than '..Said'. Prove '..Said' where nothing that the law and all that it calls make is longer than what came in: it says more and counts as full. Else prove '..UptoSaid'. A law counts once. -/
mutual
def uptoBulk {H : Type} : DataW H → Nat
  | .lit (.string bytes) => bytes.length + 1
  | .lit _ => 1
  | .nil => 1
  | .ptr d => uptoBulk d + 1
  | .slice elems spare => uptoBulkAll elems + uptoBulkAll spare + 1
  | .agg parts => uptoBulkAll parts + 1
  | .iface _ d => uptoBulk d + 1
  | .map entries => uptoBulkEntries entries + 1
  | .held _ => 1
def uptoBulkAll {H : Type} : List (DataW H) → Nat
  | [] => 0
  | d :: r => uptoBulk d + uptoBulkAll r
def uptoBulkEntries {H : Type} : List (Lit × DataW H) → Nat
  | [] => 0
  | x :: r => uptoBulkEntry x + uptoBulkEntries r
def uptoBulkEntry {H : Type} : Lit × DataW H → Nat
  | (.string bytes, d) => bytes.length + uptoBulk d + 1
  | (_, d) => uptoBulk d + 1
 end
def uptoSmall : (H : Type) → List (DataW H) → Bool := fun _ ds => decide (uptoBulkAll ds ≤ 1048576)
def OpenSpec.upto (s : _root_.Go.ChangeSpec) : _root_.Go.OpenSpec := { _root_.Go.OpenSpec.ofChange s with cond := some uptoSmall }

/-- 'rabbetlaw05.FlowAsks', WHERE WHAT IT READS IS OF BULK AT MOST 1048576: true; the input reads as it did. -/
def flowAsksUptoRow : OpenClaim := { program := "ytfijppclaahkmaa", sum := "733e2a7c517fd4150e9830d0ee75b58bc38109c4c07f7e7f191f9e8047e844ea", func := "rabbet/rabbetlaw05.FlowAsks", spec := "flowAsks", apart := false, narrowed := true }
def FlowAsksUptoSaid : Prop := flowAsksUptoRow.holds Try.pinned (OpenSpec.upto flowAsksSpec)

/-- 'rabbetlaw05.FlowNexts', WHERE WHAT IT READS IS OF BULK AT MOST 1048576: true; the input reads as it did. -/
def flowNextsUptoRow : OpenClaim := { program := "ytfijppclaahkmaa", sum := "733e2a7c517fd4150e9830d0ee75b58bc38109c4c07f7e7f191f9e8047e844ea", func := "rabbet/rabbetlaw05.FlowNexts", spec := "flowNexts", apart := false, narrowed := true }
def FlowNextsUptoSaid : Prop := flowNextsUptoRow.holds Try.pinned (OpenSpec.upto flowNextsSpec)

/-- 'rabbetlaw05.FlowStays', WHERE WHAT IT READS IS OF BULK AT MOST 1048576: true; the input reads as it did. -/
def flowStaysUptoRow : OpenClaim := { program := "ytfijppclaahkmaa", sum := "733e2a7c517fd4150e9830d0ee75b58bc38109c4c07f7e7f191f9e8047e844ea", func := "rabbet/rabbetlaw05.FlowStays", spec := "flowStays", apart := false, narrowed := true }
def FlowStaysUptoSaid : Prop := flowStaysUptoRow.holds Try.pinned (OpenSpec.upto flowStaysSpec)

/-- 'rabbetlaw05.FlowReads', WHERE WHAT IT READS IS OF BULK AT MOST 1048576: true; the input reads as it did. -/
def flowReadsUptoRow : OpenClaim := { program := "ytfijppclaahkmaa", sum := "733e2a7c517fd4150e9830d0ee75b58bc38109c4c07f7e7f191f9e8047e844ea", func := "rabbet/rabbetlaw05.FlowReads", spec := "flowReads", apart := false, narrowed := true }
def FlowReadsUptoSaid : Prop := flowReadsUptoRow.holds Try.pinned (OpenSpec.upto flowReadsSpec)

end Rows
end Go.Proofs.Ytfijppclaahkmaa
