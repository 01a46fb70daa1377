/- Two numbers side by side are compared. No condition. -/
import Derived.Test.YtfijppclaahkmaaFlowRow
namespace Go.Proofs.Ytfijppclaahkmaa
open Go.RowKit Go.Sort
set_option linter.unusedVariables false
set_option linter.unusedSimpArgs false
theorem cells_u64 : Try.prog.cellsOf 22 = 1 := by kernel_rfl
@[go_sem] theorem eq_two (w : World) (a b c e : Int) : (Op.equalIn 9999 30 (.agg #[.int .u64 a, .int .u64 b]) (.agg #[.int .u64 c, .int .u64 e])).run Try.prog w = .ok (a == c && b == e) w := by
  obtain ⟨i, hi⟩ : ∃ i, Try.prog.info? 22 = some i := Option.isSome_iff_exists.1 (by kernel_rfl)
  have h := run_equalIn_array (P := Try.prog) w 9998 #[.int .u64 a, .int .u64 b] #[.int .u64 c, .int .u64 e] Try.underlying30 hi
  rw [show (9999 : Nat) = 9998 + 1 from rfl, h, cells_u64]
  have hs : i.size = 1 := by
    have h2 : (Try.prog.info? 22).map (·.size) = some 1 := by kernel_rfl
    rw [hi] at h2
    simpa using h2
  have hag : (isAgg 22).run Try.prog w = .ok false w := by kernel_rfl
  simp only [List.range_succ, List.range_zero, List.nil_append, List.cons_append]
  simp [Op.eqItems, part, hag, go_sem, run_equalIn_int, Try.underlying22]
  by_cases h1 : a = c <;> by_cases h2 : b = e <;> simp [h1, h2]
end Go.Proofs.Ytfijppclaahkmaa
