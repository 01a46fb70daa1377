/- Small lemmas for the walk: where a group's fields lie, bit by bit: the document's Lay. Conditions: the type lies in memory and is sound. -/
import Derived.Test.YtlbkloamabomcaaLayLd
import Derived.Test.YtlbkloamabomcaaQuietTail
import Derived.Deep.CutRange
namespace Go.Proofs.Ytlbkloamabomcaa
open Go.RowKit Go.Sort
set_option linter.unusedVariables false
set_option linter.unusedSimpArgs false
theorem range5 {w : World} {b : Nat} {v0 v1 v2 v3 v4 : Value} (h0 : w.cell? ⟨b, 0, none⟩ = some v0) (h1 : w.cell? ⟨b, 1, none⟩ = some v1) (h2 : w.cell? ⟨b, 2, none⟩ = some v2) (h3 : w.cell? ⟨b, 3, none⟩ = some v3) (h4 : w.cell? ⟨b, 4, none⟩ = some v4) : w.rangeAt b 0 [v0, v1, v2, v3, v4] := fun j v hv => by
  match j with
  | 0 => cases hv; exact h0
  | 1 => cases hv; exact h1
  | 2 => cases hv; exact h2
  | 3 => cases hv; exact h3
  | 4 => cases hv; exact h4
  | n + 5 => simp at hv
/-- a struct out of a block. -/
theorem ret_c {P : Program} {fn : Func} {tmps : Array Value} {w : World} {T : TypeId} {c B : Nat} {cs : List Value} {d : TypeDesc} (hr : fn.results = #[.cell c T]) (hp : tmps.getD c undef = .pointer (some ⟨B, 0, none⟩))
    (hu : P.underlying T = some d) (hd : d.isRow = true) (hi : (P.info? T).map (·.size) = some cs.length) (hc : w.rangeAt B 0 cs) : (results fn tmps).run P w = .ok (.agg cs.toArray) w := by
  have hl := run_loadVar_mid (P := P) w B 0 T cs d hc hu hd hi
  unfold results
  rw [hr]
  have hp2 : (tmps[c]?).getD undef = .pointer (some ⟨B, 0, none⟩) := by simpa [Array.getD_eq_getD_getElem?] using hp
  simp [hp2, asAddr, hl]
end Go.Proofs.Ytlbkloamabomcaa
