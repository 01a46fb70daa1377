/- Rows of bits that came in, opened. No condition. -/
import Derived.Test.YtgghhbjaokgeeaaDoorRelKit
import Derived.Test.YtgghhbjaokgeeaaDoorSlKit
namespace Go.Proofs.YtgghhbjaokgeeaaDoor
open Go.ChangeShapes Go.WideShapes Go.ChangeAt Go.RowKit
set_option linter.unusedVariables false
section
variable {H : Type} {enc : TypeId × Value → H} {W : World}
theorem u64_nat {x : Int} (h : (Lit.int .u64 x).wf = true) : ∃ n : Nat, x = n ∧ n < 18446744073709551616 := by
  have h2 : IntKind.u64.min = 0 := by decide
  have h3 : IntKind.u64.max = 18446744073709551615 := by decide
  simp only [Lit.wf, h2, h3, Bool.and_eq_true, decide_eq_true_eq] at h
  exact ⟨x.toNat, by omega, by omega⟩
theorem rows_open {r : Reach} {b0 : Nat} {v : Value} {d : DataW H} {p : List MemPlace} (hv : Value.okWide Tryd.prog W r b0 22 v) (h : DataW.Trod enc Tryd.prog W 0 (fun _ => true) true 22 v d p) :
    ∃ (len : Nat) (R : Nat → Nat), Sl W v len R := by
  obtain ⟨l, a, c, rfl, h1, h2, h3, h4⟩ := ints_open Tryd.underlying22 Tryd.underlying36 (by kernel_rfl) hv h
  have key : ∀ i : Nat, ∃ n : Nat, n < 18446744073709551616 ∧ ∀ x, l[i]? = some x → x = (n : Int) := fun i => by
    cases hi : l[i]? with
    | none => exact ⟨0, by decide, fun x hx => by cases hx⟩
    | some x =>
      obtain ⟨n, hn, hl⟩ := u64_nat (h4 x (List.mem_of_getElem? hi))
      exact ⟨n, hl, fun y hy => by cases hy; exact hn⟩
  let R : Nat → Nat := fun i => Classical.choose (key i)
  have hR : ∀ i : Nat, R i < 18446744073709551616 ∧ ∀ x, l[i]? = some x → x = (R i : Int) := fun i => Classical.choose_spec (key i)
  clear_value R
  by_cases hpos : 0 < l.length
  · obtain ⟨b, off, rfl, _, hc⟩ := h3 hpos
    refine ⟨l.length, R, some ⟨b, off, none⟩, b, off, c, rfl, fun _ => rfl, h1, h2, fun i hi => ?_, fun i => (hR i).1⟩
    have hx : l[i]? = some l[i] := List.getElem?_eq_getElem hi
    rw [hc i _ hx, (hR i).2 _ hx]
  · exact ⟨l.length, R, a, 0, 0, c, rfl, fun h => absurd h hpos, h1, h2, fun i hi => by omega, fun i => (hR i).1⟩
end
end Go.Proofs.YtgghhbjaokgeeaaDoor
