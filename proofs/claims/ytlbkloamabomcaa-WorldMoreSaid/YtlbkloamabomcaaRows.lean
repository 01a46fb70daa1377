/-
  NARROWER THAN 'FOR EVERY INPUT', by the rows' own cells (each row's printed sentence says how): LayoutOf: loops · LayoutFields: loops · LayoutApart: loops · LayoutArrays: loops · WorldMaps: loops · WorldFinds: loops · WorldApart: loops · WorldMore: loops.
  DERIVED. THE GIVEN ROWS OF THIS SEAT. 10 by the template 'for every input the law returns true; each argument reads behind the call as it read before'; 0 by the template 'total and deterministic' (their statements: YtlbkloamabomcaaTotals.lean).
  GIVEN WITH THE SEED: the statements are not yours to turn. If you find one false, say at which input.
  Laid BY PROGRAM, IN A SANDBOX (cutbox-rows.mjs): the forced cells as the released guide's own fill.sh prints them over the translation ab79d587b5bfbf7b… (all of the seat's roots in one cut). By AI agents, Wed Nov 11 2026. No macro, syntax, notation, axiom, sorry.
-/
import Derived.Test.YtlbkloamabomcaaChecked
import GoSem.Claim
import GoSem.ClaimJoined
import GoSem.ClaimMapViews
import Derived.JoinedTies
import Derived.KernelRfl
namespace Go.Proofs.Ytlbkloamabomcaa
/- THE CELL 'sum', in the pinned program and in every row, IS THE sha256 OF THE DUMP (.gsa) THAT YtlbkloamabomcaaProg.lean LOADS. Nothing in Lean hashes anything: it is a label: what it is worth is what the hold of that sum in a sandbox is worth. -/
noncomputable def Try.pinned : Pinned := { name := "ytlbkloamabomcaa", sum := "ab79d587b5bfbf7b831621aa55f3a15da474a224fc5d91268bf3048629accc86", checked := Try.checked }
namespace Rows
def none {H : Type} : Left H := { results := [], args := [] }

/-- 'rabbetlaw07.LayoutOf': WHATEVER THE INPUT: true; the input reads as it did. -/
def layoutOfSpec : ChangeSpec := { name := "layoutOf", fn := fun _ => fun
  | [d] => { results := [.lit (.bool true)], args := [d] }
  | _ => none }
def layoutOfRow : OpenClaim := { program := "ytlbkloamabomcaa", sum := "ab79d587b5bfbf7b831621aa55f3a15da474a224fc5d91268bf3048629accc86", func := "rabbet/rabbetlaw07.LayoutOf", spec := "layoutOf", unfollowed := true, recurses := true, loops := true, apart := false }
def LayoutOfSaid : Prop := layoutOfRow.holds Try.pinned (OpenSpec.ofChange layoutOfSpec)

/-- ITS FALSE NEIGHBOUR: 'it returns false'. Refute it at one input. -/
def layoutOfWrong : ChangeSpec := { name := "layoutOf", fn := fun _ => fun
  | [d] => { results := [.lit (.bool false)], args := [d] }
  | _ => none }
def LayoutOfWrongFalsely : Prop := layoutOfRow.holds Try.pinned (OpenSpec.ofChange layoutOfWrong)

/-- 'rabbetlaw07.LayoutFields': WHATEVER THE INPUT: true; the input reads as it did. -/
def layoutFieldsSpec : ChangeSpec := { name := "layoutFields", fn := fun _ => fun
  | [d] => { results := [.lit (.bool true)], args := [d] }
  | _ => none }
def layoutFieldsRow : OpenClaim := { program := "ytlbkloamabomcaa", sum := "ab79d587b5bfbf7b831621aa55f3a15da474a224fc5d91268bf3048629accc86", func := "rabbet/rabbetlaw07.LayoutFields", spec := "layoutFields", unfollowed := true, recurses := true, loops := true, apart := false }
def LayoutFieldsSaid : Prop := layoutFieldsRow.holds Try.pinned (OpenSpec.ofChange layoutFieldsSpec)

/-- ITS FALSE NEIGHBOUR: 'it returns false'. Refute it at one input. -/
def layoutFieldsWrong : ChangeSpec := { name := "layoutFields", fn := fun _ => fun
  | [d] => { results := [.lit (.bool false)], args := [d] }
  | _ => none }
def LayoutFieldsWrongFalsely : Prop := layoutFieldsRow.holds Try.pinned (OpenSpec.ofChange layoutFieldsWrong)

/-- 'rabbetlaw07.LayoutApart': WHATEVER THE INPUT: true; the input reads as it did. -/
def layoutApartSpec : ChangeSpec := { name := "layoutApart", fn := fun _ => fun
  | [d] => { results := [.lit (.bool true)], args := [d] }
  | _ => none }
def layoutApartRow : OpenClaim := { program := "ytlbkloamabomcaa", sum := "ab79d587b5bfbf7b831621aa55f3a15da474a224fc5d91268bf3048629accc86", func := "rabbet/rabbetlaw07.LayoutApart", spec := "layoutApart", unfollowed := true, recurses := true, loops := true, apart := false }
def LayoutApartSaid : Prop := layoutApartRow.holds Try.pinned (OpenSpec.ofChange layoutApartSpec)

/-- ITS FALSE NEIGHBOUR: 'it returns false'. Refute it at one input. -/
def layoutApartWrong : ChangeSpec := { name := "layoutApart", fn := fun _ => fun
  | [d] => { results := [.lit (.bool false)], args := [d] }
  | _ => none }
def LayoutApartWrongFalsely : Prop := layoutApartRow.holds Try.pinned (OpenSpec.ofChange layoutApartWrong)

/-- 'rabbetlaw07.LayoutArrays': WHATEVER THE INPUT: true; the input reads as it did. -/
def layoutArraysSpec : ChangeSpec := { name := "layoutArrays", fn := fun _ => fun
  | [d1, d2] => { results := [.lit (.bool true)], args := [d1, d2] }
  | _ => none }
def layoutArraysRow : OpenClaim := { program := "ytlbkloamabomcaa", sum := "ab79d587b5bfbf7b831621aa55f3a15da474a224fc5d91268bf3048629accc86", func := "rabbet/rabbetlaw07.LayoutArrays", spec := "layoutArrays", unfollowed := true, recurses := true, loops := true, apart := false }
def LayoutArraysSaid : Prop := layoutArraysRow.holds Try.pinned (OpenSpec.ofChange layoutArraysSpec)

/-- ITS FALSE NEIGHBOUR: 'it returns false'. Refute it at one input. -/
def layoutArraysWrong : ChangeSpec := { name := "layoutArrays", fn := fun _ => fun
  | [d1, d2] => { results := [.lit (.bool false)], args := [d1, d2] }
  | _ => none }
def LayoutArraysWrongFalsely : Prop := layoutArraysRow.holds Try.pinned (OpenSpec.ofChange layoutArraysWrong)

/-- 'rabbetlaw07.LayoutPacked': WHATEVER THE INPUT: true; the input reads as it did. -/
def layoutPackedSpec : ChangeSpec := { name := "layoutPacked", fn := fun _ => fun
  | [d] => { results := [.lit (.bool true)], args := [d] }
  | _ => none }
def layoutPackedRow : OpenClaim := { program := "ytlbkloamabomcaa", sum := "ab79d587b5bfbf7b831621aa55f3a15da474a224fc5d91268bf3048629accc86", func := "rabbet/rabbetlaw07.LayoutPacked", spec := "layoutPacked", unfollowed := true, recurses := true, apart := false }
def LayoutPackedSaid : Prop := layoutPackedRow.holds Try.pinned (OpenSpec.ofChange layoutPackedSpec)

/-- ITS FALSE NEIGHBOUR: 'it returns false'. Refute it at one input. -/
def layoutPackedWrong : ChangeSpec := { name := "layoutPacked", fn := fun _ => fun
  | [d] => { results := [.lit (.bool false)], args := [d] }
  | _ => none }
def LayoutPackedWrongFalsely : Prop := layoutPackedRow.holds Try.pinned (OpenSpec.ofChange layoutPackedWrong)

/-- 'rabbetlaw12.WorldMaps': WHATEVER THE INPUT: true; the input reads as it did. -/
def worldMapsSpec : ChangeSpec := { name := "worldMaps", fn := fun _ => fun
  | [d] => { results := [.lit (.bool true)], args := [d] }
  | _ => none }
def worldMapsRow : OpenClaim := { program := "ytlbkloamabomcaa", sum := "ab79d587b5bfbf7b831621aa55f3a15da474a224fc5d91268bf3048629accc86", func := "rabbet/rabbetlaw12.WorldMaps", spec := "worldMaps", unfollowed := true, recurses := true, loops := true, apart := false }
def WorldMapsSaid : Prop := worldMapsRow.holds Try.pinned (OpenSpec.ofChange worldMapsSpec)

/-- ITS FALSE NEIGHBOUR: 'it returns false'. Refute it at one input. -/
def worldMapsWrong : ChangeSpec := { name := "worldMaps", fn := fun _ => fun
  | [d] => { results := [.lit (.bool false)], args := [d] }
  | _ => none }
def WorldMapsWrongFalsely : Prop := worldMapsRow.holds Try.pinned (OpenSpec.ofChange worldMapsWrong)

/-- 'rabbetlaw12.WorldFinds': WHATEVER THE INPUT: true; the input reads as it did. -/
def worldFindsSpec : ChangeSpec := { name := "worldFinds", fn := fun _ => fun
  | [d1, d2, d3] => { results := [.lit (.bool true)], args := [d1, d2, d3] }
  | _ => none }
def worldFindsRow : OpenClaim := { program := "ytlbkloamabomcaa", sum := "ab79d587b5bfbf7b831621aa55f3a15da474a224fc5d91268bf3048629accc86", func := "rabbet/rabbetlaw12.WorldFinds", spec := "worldFinds", unfollowed := true, recurses := true, loops := true, apart := false }
def WorldFindsSaid : Prop := worldFindsRow.holds Try.pinned (OpenSpec.ofChange worldFindsSpec)

/-- ITS FALSE NEIGHBOUR: 'it returns false'. Refute it at one input. -/
def worldFindsWrong : ChangeSpec := { name := "worldFinds", fn := fun _ => fun
  | [d1, d2, d3] => { results := [.lit (.bool false)], args := [d1, d2, d3] }
  | _ => none }
def WorldFindsWrongFalsely : Prop := worldFindsRow.holds Try.pinned (OpenSpec.ofChange worldFindsWrong)

/-- 'rabbetlaw12.WorldApart': WHATEVER THE INPUT: true; the input reads as it did. -/
def worldApartSpec : ChangeSpec := { name := "worldApart", fn := fun _ => fun
  | [d] => { results := [.lit (.bool true)], args := [d] }
  | _ => none }
def worldApartRow : OpenClaim := { program := "ytlbkloamabomcaa", sum := "ab79d587b5bfbf7b831621aa55f3a15da474a224fc5d91268bf3048629accc86", func := "rabbet/rabbetlaw12.WorldApart", spec := "worldApart", unfollowed := true, recurses := true, loops := true, apart := false }
def WorldApartSaid : Prop := worldApartRow.holds Try.pinned (OpenSpec.ofChange worldApartSpec)

/-- ITS FALSE NEIGHBOUR: 'it returns false'. Refute it at one input. -/
def worldApartWrong : ChangeSpec := { name := "worldApart", fn := fun _ => fun
  | [d] => { results := [.lit (.bool false)], args := [d] }
  | _ => none }
def WorldApartWrongFalsely : Prop := worldApartRow.holds Try.pinned (OpenSpec.ofChange worldApartWrong)

/-- 'rabbetlaw12.WorldMore': WHATEVER THE INPUT: true; the input reads as it did. -/
def worldMoreSpec : ChangeSpec := { name := "worldMore", fn := fun _ => fun
  | [d1, d2] => { results := [.lit (.bool true)], args := [d1, d2] }
  | _ => none }
def worldMoreRow : OpenClaim := { program := "ytlbkloamabomcaa", sum := "ab79d587b5bfbf7b831621aa55f3a15da474a224fc5d91268bf3048629accc86", func := "rabbet/rabbetlaw12.WorldMore", spec := "worldMore", unfollowed := true, recurses := true, loops := true, apart := false }
def WorldMoreSaid : Prop := worldMoreRow.holds Try.pinned (OpenSpec.ofChange worldMoreSpec)

/-- ITS FALSE NEIGHBOUR: 'it returns false'. Refute it at one input. -/
def worldMoreWrong : ChangeSpec := { name := "worldMore", fn := fun _ => fun
  | [d1, d2] => { results := [.lit (.bool false)], args := [d1, d2] }
  | _ => none }
def WorldMoreWrongFalsely : Prop := worldMoreRow.holds Try.pinned (OpenSpec.ofChange worldMoreWrong)

/-- 'rabbetlaw12.WorldSteps': WHATEVER THE INPUT: true; the input reads as it did. -/
def worldStepsSpec : ChangeSpec := { name := "worldSteps", fn := fun _ => fun
  | [d1, d2, d3, d4] => { results := [.lit (.bool true)], args := [d1, d2, d3, d4] }
  | _ => none }
def worldStepsRow : OpenClaim := { program := "ytlbkloamabomcaa", sum := "ab79d587b5bfbf7b831621aa55f3a15da474a224fc5d91268bf3048629accc86", func := "rabbet/rabbetlaw12.WorldSteps", spec := "worldSteps", unfollowed := true, recurses := true, apart := false }
def WorldStepsSaid : Prop := worldStepsRow.holds Try.pinned (OpenSpec.ofChange worldStepsSpec)

/-- ITS FALSE NEIGHBOUR: 'it returns false'. Refute it at one input. -/
def worldStepsWrong : ChangeSpec := { name := "worldSteps", fn := fun _ => fun
  | [d1, d2, d3, d4] => { results := [.lit (.bool false)], args := [d1, d2, d3, d4] }
  | _ => none }
def WorldStepsWrongFalsely : Prop := worldStepsRow.holds Try.pinned (OpenSpec.ofChange worldStepsWrong)

/- THE SECOND FORM. 'bulk': how many values and letters a reading holds, each counted each time it is reached (what is shared counts as often as it is met; a slice's spare places count too). A statement '..UptoSaid' is the law's where the arguments, and the package variables that the reading takes, are together of bulk at most 1048576: NARROWER than '..Said'. Prove '..Said' where nothing that the law and all that it calls make is longer than what came in: it says more and counts as full. Else prove '..UptoSaid'. A law counts once. -/
mutual
def uptoBulk {H : Type} : DataW H → Nat
  | .lit (.string bytes) => bytes.length + 1
  | .lit _ => 1
  | .nil => 1
  | .ptr d => uptoBulk d + 1
  | .slice elems spare => uptoBulkAll elems + uptoBulkAll spare + 1
  | .agg parts => uptoBulkAll parts + 1
  | .iface _ d => uptoBulk d + 1
  | .map entries => uptoBulkEntries entries + 1
  | .held _ => 1
def uptoBulkAll {H : Type} : List (DataW H) → Nat
  | [] => 0
  | d :: r => uptoBulk d + uptoBulkAll r
def uptoBulkEntries {H : Type} : List (Lit × DataW H) → Nat
  | [] => 0
  | x :: r => uptoBulkEntry x + uptoBulkEntries r
def uptoBulkEntry {H : Type} : Lit × DataW H → Nat
  | (.string bytes, d) => bytes.length + uptoBulk d + 1
  | (_, d) => uptoBulk d + 1
 end
def uptoSmall : (H : Type) → List (DataW H) → Bool := fun _ ds => decide (uptoBulkAll ds ≤ 1048576)
def OpenSpec.upto (s : _root_.Go.ChangeSpec) : _root_.Go.OpenSpec := { _root_.Go.OpenSpec.ofChange s with cond := some uptoSmall }

/-- 'rabbetlaw07.LayoutOf', WHERE WHAT IT READS IS OF BULK AT MOST 1048576: true; the input reads as it did. -/
def layoutOfUptoRow : OpenClaim := { program := "ytlbkloamabomcaa", sum := "ab79d587b5bfbf7b831621aa55f3a15da474a224fc5d91268bf3048629accc86", func := "rabbet/rabbetlaw07.LayoutOf", spec := "layoutOf", unfollowed := true, recurses := true, loops := true, apart := false, narrowed := true }
def LayoutOfUptoSaid : Prop := layoutOfUptoRow.holds Try.pinned (OpenSpec.upto layoutOfSpec)

/-- 'rabbetlaw07.LayoutFields', WHERE WHAT IT READS IS OF BULK AT MOST 1048576: true; the input reads as it did. -/
def layoutFieldsUptoRow : OpenClaim := { program := "ytlbkloamabomcaa", sum := "ab79d587b5bfbf7b831621aa55f3a15da474a224fc5d91268bf3048629accc86", func := "rabbet/rabbetlaw07.LayoutFields", spec := "layoutFields", unfollowed := true, recurses := true, loops := true, apart := false, narrowed := true }
def LayoutFieldsUptoSaid : Prop := layoutFieldsUptoRow.holds Try.pinned (OpenSpec.upto layoutFieldsSpec)

/-- 'rabbetlaw07.LayoutApart', WHERE WHAT IT READS IS OF BULK AT MOST 1048576: true; the input reads as it did. -/
def layoutApartUptoRow : OpenClaim := { program := "ytlbkloamabomcaa", sum := "ab79d587b5bfbf7b831621aa55f3a15da474a224fc5d91268bf3048629accc86", func := "rabbet/rabbetlaw07.LayoutApart", spec := "layoutApart", unfollowed := true, recurses := true, loops := true, apart := false, narrowed := true }
def LayoutApartUptoSaid : Prop := layoutApartUptoRow.holds Try.pinned (OpenSpec.upto layoutApartSpec)

/-- 'rabbetlaw07.LayoutArrays', WHERE WHAT IT READS IS OF BULK AT MOST 1048576: true; the input reads as it did. -/
def layoutArraysUptoRow : OpenClaim := { program := "ytlbkloamabomcaa", sum := "ab79d587b5bfbf7b831621aa55f3a15da474a224fc5d91268bf3048629accc86", func := "rabbet/rabbetlaw07.LayoutArrays", spec := "layoutArrays", unfollowed := true, recurses := true, loops := true, apart := false, narrowed := true }
def LayoutArraysUptoSaid : Prop := layoutArraysUptoRow.holds Try.pinned (OpenSpec.upto layoutArraysSpec)

/-- 'rabbetlaw07.LayoutPacked', WHERE WHAT IT READS IS OF BULK AT MOST 1048576: true; the input reads as it did. -/
def layoutPackedUptoRow : OpenClaim := { program := "ytlbkloamabomcaa", sum := "ab79d587b5bfbf7b831621aa55f3a15da474a224fc5d91268bf3048629accc86", func := "rabbet/rabbetlaw07.LayoutPacked", spec := "layoutPacked", unfollowed := true, recurses := true, apart := false, narrowed := true }
def LayoutPackedUptoSaid : Prop := layoutPackedUptoRow.holds Try.pinned (OpenSpec.upto layoutPackedSpec)

/-- 'rabbetlaw12.WorldMaps', WHERE WHAT IT READS IS OF BULK AT MOST 1048576: true; the input reads as it did. -/
def worldMapsUptoRow : OpenClaim := { program := "ytlbkloamabomcaa", sum := "ab79d587b5bfbf7b831621aa55f3a15da474a224fc5d91268bf3048629accc86", func := "rabbet/rabbetlaw12.WorldMaps", spec := "worldMaps", unfollowed := true, recurses := true, loops := true, apart := false, narrowed := true }
def WorldMapsUptoSaid : Prop := worldMapsUptoRow.holds Try.pinned (OpenSpec.upto worldMapsSpec)

/-- 'rabbetlaw12.WorldFinds', WHERE WHAT IT READS IS OF BULK AT MOST 1048576: true; the input reads as it did. -/
def worldFindsUptoRow : OpenClaim := { program := "ytlbkloamabomcaa", sum := "ab79d587b5bfbf7b831621aa55f3a15da474a224fc5d91268bf3048629accc86", func := "rabbet/rabbetlaw12.WorldFinds", spec := "worldFinds", unfollowed := true, recurses := true, loops := true, apart := false, narrowed := true }
def WorldFindsUptoSaid : Prop := worldFindsUptoRow.holds Try.pinned (OpenSpec.upto worldFindsSpec)

/-- 'rabbetlaw12.WorldApart', WHERE WHAT IT READS IS OF BULK AT MOST 1048576: true; the input reads as it did. -/
def worldApartUptoRow : OpenClaim := { program := "ytlbkloamabomcaa", sum := "ab79d587b5bfbf7b831621aa55f3a15da474a224fc5d91268bf3048629accc86", func := "rabbet/rabbetlaw12.WorldApart", spec := "worldApart", unfollowed := true, recurses := true, loops := true, apart := false, narrowed := true }
def WorldApartUptoSaid : Prop := worldApartUptoRow.holds Try.pinned (OpenSpec.upto worldApartSpec)

/-- 'rabbetlaw12.WorldMore', WHERE WHAT IT READS IS OF BULK AT MOST 1048576: true; the input reads as it did. -/
def worldMoreUptoRow : OpenClaim := { program := "ytlbkloamabomcaa", sum := "ab79d587b5bfbf7b831621aa55f3a15da474a224fc5d91268bf3048629accc86", func := "rabbet/rabbetlaw12.WorldMore", spec := "worldMore", unfollowed := true, recurses := true, loops := true, apart := false, narrowed := true }
def WorldMoreUptoSaid : Prop := worldMoreUptoRow.holds Try.pinned (OpenSpec.upto worldMoreSpec)

/-- 'rabbetlaw12.WorldSteps', WHERE WHAT IT READS IS OF BULK AT MOST 1048576: true; the input reads as it did. -/
def worldStepsUptoRow : OpenClaim := { program := "ytlbkloamabomcaa", sum := "ab79d587b5bfbf7b831621aa55f3a15da474a224fc5d91268bf3048629accc86", func := "rabbet/rabbetlaw12.WorldSteps", spec := "worldSteps", unfollowed := true, recurses := true, apart := false, narrowed := true }
def WorldStepsUptoSaid : Prop := worldStepsUptoRow.holds Try.pinned (OpenSpec.upto worldStepsSpec)

end Rows
end Go.Proofs.Ytlbkloamabomcaa
