/- A span that came in, opened. No condition. -/
import Derived.Test.YtigbdndjlkmemaaLawKit
import Derived.Test.YtigbdndjlkmemaaProg
import Derived.Lib.SmallJoins
namespace Go.Proofs.Ytigbdndjlkmemaa
open Go.ChangeShapes Go.WideShapes Go.ChangeAt Go.RowKit Go.Joins
theorem span_cells : Try.prog.cellsOf 38 = 2 := by kernel_rfl
theorem span_open {H : Type} {enc : TypeId × Value → H} {W : World} {r : Reach} {b0 : Nat} {v : Value} {d : DataW H} {p : List MemPlace}
    (hv : Value.okWide Try.prog W r b0 38 v) (h : DataW.Trod enc Try.prog W 0 (fun _ => true) true 38 v d p) :
    ∃ a l : Int, v = .agg #[.int .i64 a, .int .i64 l] ∧ (-9223372036854775808 ≤ a ∧ a ≤ 9223372036854775807) ∧ (-9223372036854775808 ≤ l ∧ l ≤ 9223372036854775807) := by
  obtain ⟨c0, c1, y0, y1, m, rfl, rfl, rfl, hy0, hy1⟩ := open_agg2 Try.underlying38 (by kernel_rfl) span_cells hv h
  obtain ⟨a, e0, rfl, wa⟩ := DataW.trod_int Try.underlying3 hy0
  obtain ⟨l, e1, rfl, wl⟩ := DataW.trod_int Try.underlying3 hy1
  simp at e0 e1
  subst e0 e1
  exact ⟨a, l, rfl, rng_i64 wa, rng_i64 wl⟩
end Go.Proofs.Ytigbdndjlkmemaa
