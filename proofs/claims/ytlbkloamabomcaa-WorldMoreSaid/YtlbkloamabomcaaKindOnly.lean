/- Small tests on a type: what its kind has, sizes of numbers. No condition but that numbers fit their kinds. -/
import Derived.Test.YtlbkloamabomcaaKindDepth
namespace Go.Proofs.Ytlbkloamabomcaa
open Go.RowKit Go.Sort
set_option linter.unusedVariables false
set_option linter.unusedSimpArgs false
/-- is it a size of a number, up to the greatest (8 or 16)? -/
def powN (n most : Int) : Bool := n == 1 || n == 2 || n == 4 || n == 8 || (n == 16 && most == 16)
theorem power_low (n most : Int) (h : n < 1) (w : World) : Calls Try.prog 75 #[.int .i64 n, .int .i64 most] w (Gives w (.bool false)) := by
  go_enter Try.func75, Try.ntmps75
  go_wp2
  go_ret
  exact Gives.mk rfl (Below.refl _ _)
theorem power_high (n most : Int) (h0 : 1 ≤ n) (h : most < n) (w : World) : Calls Try.prog 75 #[.int .i64 n, .int .i64 most] w (Gives w (.bool false)) := by
  go_enter Try.func75, Try.ntmps75
  go_wp2
  go_ret
  exact Gives.mk rfl (Below.refl _ _)
theorem power_mid (n most : Int) (h0 : 1 ≤ n) (h : n ≤ most) (v : Bool) (hv : (bits BinOp.and IntKind.i64 n (n - 1) == 0) = v) (h16 : n ≤ 16) (w : World) : Calls Try.prog 75 #[.int .i64 n, .int .i64 most] w (Gives w (.bool v)) := by
  go_enter Try.func75, Try.ntmps75
  go_wp2
  go_ret
  exact Gives.mk (ret_bool (by first | rfl | exact hv | simp)) (Below.refl _ _)
theorem power_any (n most : Int) (hm : most = 8 ∨ most = 16) (w : World) : Calls Try.prog 75 #[.int .i64 n, .int .i64 most] w (Gives w (.bool (powN n most))) := by
  rcases Int.lt_or_le n 1 with h1 | h1
  · have e : powN n most = false := by simp [powN]; omega
    rw [e]; exact power_low n most h1 w
  rcases Int.lt_or_le most n with h2 | h2
  · have e : powN n most = false := by simp [powN]; omega
    rw [e]; exact power_high n most h1 h2 w
  have hn : n ≤ 16 := by omega
  refine power_mid n most h1 h2 _ ?_ hn w
  have h3 : n = 1 ∨ n = 2 ∨ n = 3 ∨ n = 4 ∨ n = 5 ∨ n = 6 ∨ n = 7 ∨ n = 8 ∨ n = 9 ∨ n = 10 ∨ n = 11 ∨ n = 12 ∨ n = 13 ∨ n = 14 ∨ n = 15 ∨ n = 16 := by omega
  rcases hm with rfl | rfl <;> rcases h3 with rfl | rfl | rfl | rfl | rfl | rfl | rfl | rfl | rfl | rfl | rfl | rfl | rfl | rfl | rfl | rfl <;> first | rfl | omega | decide
theorem refsize_8_1 (w : World) : Calls Try.prog 66 #[.int .i64 1, .int .i64 8] w (Gives w (.bool true)) := by
  go_enter Try.func66, Try.ntmps66
  go_wp2
  refine wp_loop_rounds 1 ?_
  rw [rounds_succ]
  go_wp2
  go_ret
  exact Gives.mk rfl (Below.refl _ _)
theorem refsize_8_2 (w : World) : Calls Try.prog 66 #[.int .i64 2, .int .i64 8] w (Gives w (.bool true)) := by
  go_enter Try.func66, Try.ntmps66
  go_wp2
  refine wp_loop_rounds 2 ?_
  rw [rounds_succ]
  go_wp2
  rw [rounds_succ]
  go_wp2
  go_ret
  exact Gives.mk rfl (Below.refl _ _)
theorem refsize_8_4 (w : World) : Calls Try.prog 66 #[.int .i64 4, .int .i64 8] w (Gives w (.bool true)) := by
  go_enter Try.func66, Try.ntmps66
  go_wp2
  refine wp_loop_rounds 3 ?_
  rw [rounds_succ]
  go_wp2
  rw [rounds_succ]
  go_wp2
  rw [rounds_succ]
  go_wp2
  go_ret
  exact Gives.mk rfl (Below.refl _ _)
theorem refsize_8_8 (w : World) : Calls Try.prog 66 #[.int .i64 8, .int .i64 8] w (Gives w (.bool true)) := by
  go_enter Try.func66, Try.ntmps66
  go_wp2
  refine wp_loop_rounds 4 ?_
  rw [rounds_succ]
  go_wp2
  rw [rounds_succ]
  go_wp2
  rw [rounds_succ]
  go_wp2
  rw [rounds_succ]
  go_wp2
  go_ret
  exact Gives.mk rfl (Below.refl _ _)
theorem refsize_8_no (n : Int) (h1 : (n == 1) = false) (h2 : (n == 2) = false) (h4 : (n == 4) = false) (h8 : (n == 8) = false) (w : World) : Calls Try.prog 66 #[.int .i64 n, .int .i64 8] w (Gives w (.bool false)) := by
  go_enter Try.func66, Try.ntmps66
  go_wp2
  refine wp_loop_rounds 5 ?_
  rw [rounds_succ]
  go_wp2
  rw [rounds_succ]
  go_wp2
  rw [rounds_succ]
  go_wp2
  rw [rounds_succ]
  go_wp2
  rw [rounds_succ]
  go_wp2
  go_ret
  exact Gives.mk rfl (Below.refl _ _)
theorem refsize_16_1 (w : World) : Calls Try.prog 66 #[.int .i64 1, .int .i64 16] w (Gives w (.bool true)) := by
  go_enter Try.func66, Try.ntmps66
  go_wp2
  refine wp_loop_rounds 1 ?_
  rw [rounds_succ]
  go_wp2
  go_ret
  exact Gives.mk rfl (Below.refl _ _)
theorem refsize_16_2 (w : World) : Calls Try.prog 66 #[.int .i64 2, .int .i64 16] w (Gives w (.bool true)) := by
  go_enter Try.func66, Try.ntmps66
  go_wp2
  refine wp_loop_rounds 2 ?_
  rw [rounds_succ]
  go_wp2
  rw [rounds_succ]
  go_wp2
  go_ret
  exact Gives.mk rfl (Below.refl _ _)
theorem refsize_16_4 (w : World) : Calls Try.prog 66 #[.int .i64 4, .int .i64 16] w (Gives w (.bool true)) := by
  go_enter Try.func66, Try.ntmps66
  go_wp2
  refine wp_loop_rounds 3 ?_
  rw [rounds_succ]
  go_wp2
  rw [rounds_succ]
  go_wp2
  rw [rounds_succ]
  go_wp2
  go_ret
  exact Gives.mk rfl (Below.refl _ _)
theorem refsize_16_8 (w : World) : Calls Try.prog 66 #[.int .i64 8, .int .i64 16] w (Gives w (.bool true)) := by
  go_enter Try.func66, Try.ntmps66
  go_wp2
  refine wp_loop_rounds 4 ?_
  rw [rounds_succ]
  go_wp2
  rw [rounds_succ]
  go_wp2
  rw [rounds_succ]
  go_wp2
  rw [rounds_succ]
  go_wp2
  go_ret
  exact Gives.mk rfl (Below.refl _ _)
theorem refsize_16_16 (w : World) : Calls Try.prog 66 #[.int .i64 16, .int .i64 16] w (Gives w (.bool true)) := by
  go_enter Try.func66, Try.ntmps66
  go_wp2
  refine wp_loop_rounds 5 ?_
  rw [rounds_succ]
  go_wp2
  rw [rounds_succ]
  go_wp2
  rw [rounds_succ]
  go_wp2
  rw [rounds_succ]
  go_wp2
  rw [rounds_succ]
  go_wp2
  go_ret
  exact Gives.mk rfl (Below.refl _ _)
theorem refsize_16_no (n : Int) (h1 : (n == 1) = false) (h2 : (n == 2) = false) (h4 : (n == 4) = false) (h8 : (n == 8) = false) (h16 : (n == 16) = false) (w : World) : Calls Try.prog 66 #[.int .i64 n, .int .i64 16] w (Gives w (.bool false)) := by
  go_enter Try.func66, Try.ntmps66
  go_wp2
  refine wp_loop_rounds 6 ?_
  rw [rounds_succ]
  go_wp2
  rw [rounds_succ]
  go_wp2
  rw [rounds_succ]
  go_wp2
  rw [rounds_succ]
  go_wp2
  rw [rounds_succ]
  go_wp2
  rw [rounds_succ]
  go_wp2
  go_ret
  exact Gives.mk rfl (Below.refl _ _)
theorem refsize_any (n most : Int) (hm : most = 8 ∨ most = 16) (w : World) : Calls Try.prog 66 #[.int .i64 n, .int .i64 most] w (Gives w (.bool (powN n most))) := by
  rcases hm with rfl | rfl
  · by_cases h1 : n = 1
    · subst h1; exact refsize_8_1 w
    by_cases h2 : n = 2
    · subst h2; exact refsize_8_2 w
    by_cases h4 : n = 4
    · subst h4; exact refsize_8_4 w
    by_cases h8 : n = 8
    · subst h8; exact refsize_8_8 w
    have e : powN n 8 = false := by simp [powN]; omega
    rw [e]
    exact refsize_8_no n (beq_eq_false_iff_ne.2 h1) (beq_eq_false_iff_ne.2 h2) (beq_eq_false_iff_ne.2 h4) (beq_eq_false_iff_ne.2 h8) w
  · by_cases h1 : n = 1
    · subst h1; exact refsize_16_1 w
    by_cases h2 : n = 2
    · subst h2; exact refsize_16_2 w
    by_cases h4 : n = 4
    · subst h4; exact refsize_16_4 w
    by_cases h8 : n = 8
    · subst h8; exact refsize_16_8 w
    by_cases h16 : n = 16
    · subst h16; exact refsize_16_16 w
    have e : powN n 16 = false := by simp [powN]; omega
    rw [e]
    exact refsize_16_no n (beq_eq_false_iff_ne.2 h1) (beq_eq_false_iff_ne.2 h2) (beq_eq_false_iff_ne.2 h4) (beq_eq_false_iff_ne.2 h8) (beq_eq_false_iff_ne.2 h16) w
end Go.Proofs.Ytlbkloamabomcaa
