/-
  No cell of these rows narrows 'for every input' (looked for: loops, veiled, ifaces, maps, wideKeys, modest, calm, conditions, laid).
  DERIVED. THE GIVEN ROWS OF THIS SEAT. 4 by the template 'for every input the law returns true; each argument reads behind the call as it read before'; 0 by the template 'total and deterministic' (their statements: YthlnjhchifcghaaTotals.lean).
  GIVEN WITH THE SEED: the statements are not yours to turn. If you find one false, say at which input.
  Laid BY PROGRAM, IN A SANDBOX (cutbox-rows.mjs): the forced cells as the released guide's own fill.sh prints them over the translation 4c249af401075a96… (all of the seat's roots in one cut). By AI agents, Wed Nov 11 2026. No macro, syntax, notation, axiom, sorry.
-/
import Derived.Test.YthlnjhchifcghaaChecked
import GoSem.Claim
import GoSem.ClaimJoined
import GoSem.ClaimMapViews
import Derived.JoinedTies
import Derived.KernelRfl
namespace Go.Proofs.Ythlnjhchifcghaa
/- THE CELL 'sum', in the pinned program and in every row, IS THE sha256 OF THE DUMP (.gsa) THAT YthlnjhchifcghaaProg.lean LOADS. Nothing in Lean hashes anything: it is a label: what it is worth is what the hold of that sum in a sandbox is worth. -/
noncomputable def Try.pinned : Pinned := { name := "ythlnjhchifcghaa", sum := "4c249af401075a9648cd884fd9a11f7387fd3083452401aacec6b06693aebc9c", checked := Try.checked }
namespace Rows
def none {H : Type} : Left H := { results := [], args := [] }

/-- 'rabbetlaw04.A64Writes': WHATEVER THE INPUT: true; the input reads as it did. -/
def a64WritesSpec : ChangeSpec := { name := "a64Writes", fn := fun _ => fun
  | [d] => { results := [.lit (.bool true)], args := [d] }
  | _ => none }
def a64WritesRow : OpenClaim := { program := "ythlnjhchifcghaa", sum := "4c249af401075a9648cd884fd9a11f7387fd3083452401aacec6b06693aebc9c", func := "rabbet/rabbetlaw04.A64Writes", spec := "a64Writes", apart := false }
def A64WritesSaid : Prop := a64WritesRow.holds Try.pinned (OpenSpec.ofChange a64WritesSpec)

/-- ITS FALSE NEIGHBOUR: 'it returns false'. Refute it at one input. -/
def a64WritesWrong : ChangeSpec := { name := "a64Writes", fn := fun _ => fun
  | [d] => { results := [.lit (.bool false)], args := [d] }
  | _ => none }
def A64WritesWrongFalsely : Prop := a64WritesRow.holds Try.pinned (OpenSpec.ofChange a64WritesWrong)

/-- 'rabbetlaw04.A64Reads': WHATEVER THE INPUT: true; the input reads as it did. -/
def a64ReadsSpec : ChangeSpec := { name := "a64Reads", fn := fun _ => fun
  | [d] => { results := [.lit (.bool true)], args := [d] }
  | _ => none }
def a64ReadsRow : OpenClaim := { program := "ythlnjhchifcghaa", sum := "4c249af401075a9648cd884fd9a11f7387fd3083452401aacec6b06693aebc9c", func := "rabbet/rabbetlaw04.A64Reads", spec := "a64Reads", apart := false }
def A64ReadsSaid : Prop := a64ReadsRow.holds Try.pinned (OpenSpec.ofChange a64ReadsSpec)

/-- ITS FALSE NEIGHBOUR: 'it returns false'. Refute it at one input. -/
def a64ReadsWrong : ChangeSpec := { name := "a64Reads", fn := fun _ => fun
  | [d] => { results := [.lit (.bool false)], args := [d] }
  | _ => none }
def A64ReadsWrongFalsely : Prop := a64ReadsRow.holds Try.pinned (OpenSpec.ofChange a64ReadsWrong)

/-- 'rabbetlaw04.A64Bits': WHATEVER THE INPUT: true; the input reads as it did. -/
def a64BitsSpec : ChangeSpec := { name := "a64Bits", fn := fun _ => fun
  | [d1, d2] => { results := [.lit (.bool true)], args := [d1, d2] }
  | _ => none }
def a64BitsRow : OpenClaim := { program := "ythlnjhchifcghaa", sum := "4c249af401075a9648cd884fd9a11f7387fd3083452401aacec6b06693aebc9c", func := "rabbet/rabbetlaw04.A64Bits", spec := "a64Bits", apart := false }
def A64BitsSaid : Prop := a64BitsRow.holds Try.pinned (OpenSpec.ofChange a64BitsSpec)

/-- ITS FALSE NEIGHBOUR: 'it returns false'. Refute it at one input. -/
def a64BitsWrong : ChangeSpec := { name := "a64Bits", fn := fun _ => fun
  | [d1, d2] => { results := [.lit (.bool false)], args := [d1, d2] }
  | _ => none }
def A64BitsWrongFalsely : Prop := a64BitsRow.holds Try.pinned (OpenSpec.ofChange a64BitsWrong)

/-- 'rabbetlaw04.A64Apart': WHATEVER THE INPUT: true; the input reads as it did. -/
def a64ApartSpec : ChangeSpec := { name := "a64Apart", fn := fun _ => fun
  | [d1, d2] => { results := [.lit (.bool true)], args := [d1, d2] }
  | _ => none }
def a64ApartRow : OpenClaim := { program := "ythlnjhchifcghaa", sum := "4c249af401075a9648cd884fd9a11f7387fd3083452401aacec6b06693aebc9c", func := "rabbet/rabbetlaw04.A64Apart", spec := "a64Apart", apart := false }
def A64ApartSaid : Prop := a64ApartRow.holds Try.pinned (OpenSpec.ofChange a64ApartSpec)

/-- ITS FALSE NEIGHBOUR: 'it returns false'. Refute it at one input. -/
def a64ApartWrong : ChangeSpec := { name := "a64Apart", fn := fun _ => fun
  | [d1, d2] => { results := [.lit (.bool false)], args := [d1, d2] }
  | _ => none }
def A64ApartWrongFalsely : Prop := a64ApartRow.holds Try.pinned (OpenSpec.ofChange a64ApartWrong)

/- THE SECOND FORM. 'bulk': how many values and letters a reading holds, each counted each time it is reached (what is shared counts as often as it is met; a slice's spare places count too). A statement '..UptoSaid' is the law's where the arguments, and the package variables that the reading takes, are together of bulk at most 1048576: NARROWER than '..Said'. Prove '..Said' where nothing that the law and all that it calls make is longer than what came in: it says more and counts as full. Else prove '..UptoSaid'. A law counts once. -/
mutual
def uptoBulk {H : Type} : DataW H → Nat
  | .lit (.string bytes) => bytes.length + 1
  | .lit _ => 1
  | .nil => 1
  | .ptr d => uptoBulk d + 1
  | .slice elems spare => uptoBulkAll elems + uptoBulkAll spare + 1
  | .agg parts => uptoBulkAll parts + 1
  | .iface _ d => uptoBulk d + 1
  | .map entries => uptoBulkEntries entries + 1
  | .held _ => 1
def uptoBulkAll {H : Type} : List (DataW H) → Nat
  | [] => 0
  | d :: r => uptoBulk d + uptoBulkAll r
def uptoBulkEntries {H : Type} : List (Lit × DataW H) → Nat
  | [] => 0
  | x :: r => uptoBulkEntry x + uptoBulkEntries r
def uptoBulkEntry {H : Type} : Lit × DataW H → Nat
  | (.string bytes, d) => bytes.length + uptoBulk d + 1
  | (_, d) => uptoBulk d + 1
 end
def uptoSmall : (H : Type) → List (DataW H) → Bool := fun _ ds => decide (uptoBulkAll ds ≤ 1048576)
def OpenSpec.upto (s : _root_.Go.ChangeSpec) : _root_.Go.OpenSpec := { _root_.Go.OpenSpec.ofChange s with cond := some uptoSmall }

/-- 'rabbetlaw04.A64Writes', WHERE WHAT IT READS IS OF BULK AT MOST 1048576: true; the input reads as it did. -/
def a64WritesUptoRow : OpenClaim := { program := "ythlnjhchifcghaa", sum := "4c249af401075a9648cd884fd9a11f7387fd3083452401aacec6b06693aebc9c", func := "rabbet/rabbetlaw04.A64Writes", spec := "a64Writes", apart := false, narrowed := true }
def A64WritesUptoSaid : Prop := a64WritesUptoRow.holds Try.pinned (OpenSpec.upto a64WritesSpec)

/-- 'rabbetlaw04.A64Reads', WHERE WHAT IT READS IS OF BULK AT MOST 1048576: true; the input reads as it did. -/
def a64ReadsUptoRow : OpenClaim := { program := "ythlnjhchifcghaa", sum := "4c249af401075a9648cd884fd9a11f7387fd3083452401aacec6b06693aebc9c", func := "rabbet/rabbetlaw04.A64Reads", spec := "a64Reads", apart := false, narrowed := true }
def A64ReadsUptoSaid : Prop := a64ReadsUptoRow.holds Try.pinned (OpenSpec.upto a64ReadsSpec)

/-- 'rabbetlaw04.A64Bits', WHERE WHAT IT READS IS OF BULK AT MOST 1048576: true; the input reads as it did. -/
def a64BitsUptoRow : OpenClaim := { program := "ythlnjhchifcghaa", sum := "4c249af401075a9648cd884fd9a11f7387fd3083452401aacec6b06693aebc9c", func := "rabbet/rabbetlaw04.A64Bits", spec := "a64Bits", apart := false, narrowed := true }
def A64BitsUptoSaid : Prop := a64BitsUptoRow.holds Try.pinned (OpenSpec.upto a64BitsSpec)

/-- 'rabbetlaw04.A64Apart', WHERE WHAT IT READS IS OF BULK AT MOST 1048576: true; the input reads as it did. -/
def a64ApartUptoRow : OpenClaim := { program := "ythlnjhchifcghaa", sum := "4c249af401075a9648cd884fd9a11f7387fd3083452401aacec6b06693aebc9c", func := "rabbet/rabbetlaw04.A64Apart", spec := "a64Apart", apart := false, narrowed := true }
def A64ApartUptoSaid : Prop := a64ApartUptoRow.holds Try.pinned (OpenSpec.upto a64ApartSpec)

end Rows
end Go.Proofs.Ythlnjhchifcghaa
