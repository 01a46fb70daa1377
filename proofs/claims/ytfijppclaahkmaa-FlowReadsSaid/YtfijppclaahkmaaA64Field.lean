/- Walks: a field's mask, and what fits. No condition. -/
import Derived.Test.YtfijppclaahkmaaA64Bits
import Derived.Test.YtfijppclaahkmaaA64Place
namespace Go.Proofs.Ytfijppclaahkmaa
open Go.RowKit Go.Sort
set_option linter.unusedVariables false
set_option linter.unusedSimpArgs false

theorem ret_boolA {a b : Bool} (h : a = b) : Ending.returned (.bool a) = .returned (.bool b) := by rw [h]
theorem ret_intA {k : IntKind} {a b : Int} (h : a = b) : Ending.returned (.int k a) = .returned (.int k b) := by rw [h]
theorem mask_d (w : World) : Calls Try.prog 46 #[.agg #[.int .i64 0, .int .i64 5, .bool false, .int .u32 0, .int .i64 31]] w (Gives w (.int .u32 31)) := by
  go_enter Try.func46, Try.ntmps46
  go_wp2
  refine wp_quiet_more (by kernel_rfl) (by kernel_rfl) ?_
  repeat (go_big_quiet_step (fail))
  refine wpQuiet_nil ?_
  intro p
  go_wp2
  go_ret
  exact Gives.mk rfl (by repeat (first | exact Below.refl _ _ | refine below_mo ?_ _ | refine below_al ?_ _))
theorem fits_d (x : Int) (hx : -9223372036854775808 ≤ x ∧ x ≤ 9223372036854775807) (w : World) : Calls Try.prog 45 #[.agg #[.int .i64 0, .int .i64 5, .bool false, .int .u32 0, .int .i64 31], .int .i64 x] w (Gives w (.bool (fitF ⟨0, 5, 1, 0, 31⟩ x))) := by
  have e : fitF ⟨0, 5, 1, 0, 31⟩ x = (decide (0 ≤ x) && decide (x ≤ 31)) := by unfold fitF; simp
  rw [e]
  clear e
  by_cases h1 : 0 ≤ x
  · by_cases h2 : x ≤ 31
    · rw [decide_eq_true h1, decide_eq_true h2]
      go_enter Try.func45, Try.ntmps45
      go_wp2
      go_ret
      exact Gives.mk rfl (by repeat (first | exact Below.refl _ _ | refine below_mo ?_ _ | refine below_al ?_ _))
    · rw [decide_eq_true h1, decide_eq_false h2]
      go_enter Try.func45, Try.ntmps45
      go_wp2
      go_ret
      exact Gives.mk rfl (by repeat (first | exact Below.refl _ _ | refine below_mo ?_ _ | refine below_al ?_ _))
  · rw [decide_eq_false h1, Bool.false_and]
    go_enter Try.func45, Try.ntmps45
    go_wp2
    go_ret
    exact Gives.mk rfl (by repeat (first | exact Below.refl _ _ | refine below_mo ?_ _ | refine below_al ?_ _))
theorem mask_n (w : World) : Calls Try.prog 46 #[.agg #[.int .i64 5, .int .i64 5, .bool false, .int .u32 0, .int .i64 31]] w (Gives w (.int .u32 992)) := by
  go_enter Try.func46, Try.ntmps46
  go_wp2
  refine wp_quiet_more (by kernel_rfl) (by kernel_rfl) ?_
  repeat (go_big_quiet_step (fail))
  refine wpQuiet_nil ?_
  intro p
  go_wp2
  go_ret
  exact Gives.mk rfl (by repeat (first | exact Below.refl _ _ | refine below_mo ?_ _ | refine below_al ?_ _))
theorem fits_n (x : Int) (hx : -9223372036854775808 ≤ x ∧ x ≤ 9223372036854775807) (w : World) : Calls Try.prog 45 #[.agg #[.int .i64 5, .int .i64 5, .bool false, .int .u32 0, .int .i64 31], .int .i64 x] w (Gives w (.bool (fitF ⟨5, 5, 2, 0, 31⟩ x))) := by
  have e : fitF ⟨5, 5, 2, 0, 31⟩ x = (decide (0 ≤ x) && decide (x ≤ 31)) := by unfold fitF; simp
  rw [e]
  clear e
  by_cases h1 : 0 ≤ x
  · by_cases h2 : x ≤ 31
    · rw [decide_eq_true h1, decide_eq_true h2]
      go_enter Try.func45, Try.ntmps45
      go_wp2
      go_ret
      exact Gives.mk rfl (by repeat (first | exact Below.refl _ _ | refine below_mo ?_ _ | refine below_al ?_ _))
    · rw [decide_eq_true h1, decide_eq_false h2]
      go_enter Try.func45, Try.ntmps45
      go_wp2
      go_ret
      exact Gives.mk rfl (by repeat (first | exact Below.refl _ _ | refine below_mo ?_ _ | refine below_al ?_ _))
  · rw [decide_eq_false h1, Bool.false_and]
    go_enter Try.func45, Try.ntmps45
    go_wp2
    go_ret
    exact Gives.mk rfl (by repeat (first | exact Below.refl _ _ | refine below_mo ?_ _ | refine below_al ?_ _))
theorem mask_a (w : World) : Calls Try.prog 46 #[.agg #[.int .i64 5, .int .i64 5, .bool false, .int .u32 0, .int .i64 30]] w (Gives w (.int .u32 992)) := by
  go_enter Try.func46, Try.ntmps46
  go_wp2
  refine wp_quiet_more (by kernel_rfl) (by kernel_rfl) ?_
  repeat (go_big_quiet_step (fail))
  refine wpQuiet_nil ?_
  intro p
  go_wp2
  go_ret
  exact Gives.mk rfl (by repeat (first | exact Below.refl _ _ | refine below_mo ?_ _ | refine below_al ?_ _))
theorem fits_a (x : Int) (hx : -9223372036854775808 ≤ x ∧ x ≤ 9223372036854775807) (w : World) : Calls Try.prog 45 #[.agg #[.int .i64 5, .int .i64 5, .bool false, .int .u32 0, .int .i64 30], .int .i64 x] w (Gives w (.bool (fitF ⟨5, 5, 2, 0, 30⟩ x))) := by
  have e : fitF ⟨5, 5, 2, 0, 30⟩ x = (decide (0 ≤ x) && decide (x ≤ 30)) := by unfold fitF; simp
  rw [e]
  clear e
  by_cases h1 : 0 ≤ x
  · by_cases h2 : x ≤ 30
    · rw [decide_eq_true h1, decide_eq_true h2]
      go_enter Try.func45, Try.ntmps45
      go_wp2
      go_ret
      exact Gives.mk rfl (by repeat (first | exact Below.refl _ _ | refine below_mo ?_ _ | refine below_al ?_ _))
    · rw [decide_eq_true h1, decide_eq_false h2]
      go_enter Try.func45, Try.ntmps45
      go_wp2
      go_ret
      exact Gives.mk rfl (by repeat (first | exact Below.refl _ _ | refine below_mo ?_ _ | refine below_al ?_ _))
  · rw [decide_eq_false h1, Bool.false_and]
    go_enter Try.func45, Try.ntmps45
    go_wp2
    go_ret
    exact Gives.mk rfl (by repeat (first | exact Below.refl _ _ | refine below_mo ?_ _ | refine below_al ?_ _))
theorem mask_m (w : World) : Calls Try.prog 46 #[.agg #[.int .i64 16, .int .i64 5, .bool false, .int .u32 0, .int .i64 31]] w (Gives w (.int .u32 2031616)) := by
  go_enter Try.func46, Try.ntmps46
  go_wp2
  refine wp_quiet_more (by kernel_rfl) (by kernel_rfl) ?_
  repeat (go_big_quiet_step (fail))
  refine wpQuiet_nil ?_
  intro p
  go_wp2
  go_ret
  exact Gives.mk rfl (by repeat (first | exact Below.refl _ _ | refine below_mo ?_ _ | refine below_al ?_ _))
theorem fits_m (x : Int) (hx : -9223372036854775808 ≤ x ∧ x ≤ 9223372036854775807) (w : World) : Calls Try.prog 45 #[.agg #[.int .i64 16, .int .i64 5, .bool false, .int .u32 0, .int .i64 31], .int .i64 x] w (Gives w (.bool (fitF ⟨16, 5, 3, 0, 31⟩ x))) := by
  have e : fitF ⟨16, 5, 3, 0, 31⟩ x = (decide (0 ≤ x) && decide (x ≤ 31)) := by unfold fitF; simp
  rw [e]
  clear e
  by_cases h1 : 0 ≤ x
  · by_cases h2 : x ≤ 31
    · rw [decide_eq_true h1, decide_eq_true h2]
      go_enter Try.func45, Try.ntmps45
      go_wp2
      go_ret
      exact Gives.mk rfl (by repeat (first | exact Below.refl _ _ | refine below_mo ?_ _ | refine below_al ?_ _))
    · rw [decide_eq_true h1, decide_eq_false h2]
      go_enter Try.func45, Try.ntmps45
      go_wp2
      go_ret
      exact Gives.mk rfl (by repeat (first | exact Below.refl _ _ | refine below_mo ?_ _ | refine below_al ?_ _))
  · rw [decide_eq_false h1, Bool.false_and]
    go_enter Try.func45, Try.ntmps45
    go_wp2
    go_ret
    exact Gives.mk rfl (by repeat (first | exact Below.refl _ _ | refine below_mo ?_ _ | refine below_al ?_ _))
theorem mask_e (w : World) : Calls Try.prog 46 #[.agg #[.int .i64 10, .int .i64 5, .bool false, .int .u32 0, .int .i64 31]] w (Gives w (.int .u32 31744)) := by
  go_enter Try.func46, Try.ntmps46
  go_wp2
  refine wp_quiet_more (by kernel_rfl) (by kernel_rfl) ?_
  repeat (go_big_quiet_step (fail))
  refine wpQuiet_nil ?_
  intro p
  go_wp2
  go_ret
  exact Gives.mk rfl (by repeat (first | exact Below.refl _ _ | refine below_mo ?_ _ | refine below_al ?_ _))
theorem fits_e (x : Int) (hx : -9223372036854775808 ≤ x ∧ x ≤ 9223372036854775807) (w : World) : Calls Try.prog 45 #[.agg #[.int .i64 10, .int .i64 5, .bool false, .int .u32 0, .int .i64 31], .int .i64 x] w (Gives w (.bool (fitF ⟨10, 5, 4, 0, 31⟩ x))) := by
  have e : fitF ⟨10, 5, 4, 0, 31⟩ x = (decide (0 ≤ x) && decide (x ≤ 31)) := by unfold fitF; simp
  rw [e]
  clear e
  by_cases h1 : 0 ≤ x
  · by_cases h2 : x ≤ 31
    · rw [decide_eq_true h1, decide_eq_true h2]
      go_enter Try.func45, Try.ntmps45
      go_wp2
      go_ret
      exact Gives.mk rfl (by repeat (first | exact Below.refl _ _ | refine below_mo ?_ _ | refine below_al ?_ _))
    · rw [decide_eq_true h1, decide_eq_false h2]
      go_enter Try.func45, Try.ntmps45
      go_wp2
      go_ret
      exact Gives.mk rfl (by repeat (first | exact Below.refl _ _ | refine below_mo ?_ _ | refine below_al ?_ _))
  · rw [decide_eq_false h1, Bool.false_and]
    go_enter Try.func45, Try.ntmps45
    go_wp2
    go_ret
    exact Gives.mk rfl (by repeat (first | exact Below.refl _ _ | refine below_mo ?_ _ | refine below_al ?_ _))
theorem mask_q (w : World) : Calls Try.prog 46 #[.agg #[.int .i64 21, .int .i64 2, .bool false, .int .u32 0, .int .i64 3]] w (Gives w (.int .u32 6291456)) := by
  go_enter Try.func46, Try.ntmps46
  go_wp2
  refine wp_quiet_more (by kernel_rfl) (by kernel_rfl) ?_
  repeat (go_big_quiet_step (fail))
  refine wpQuiet_nil ?_
  intro p
  go_wp2
  go_ret
  exact Gives.mk rfl (by repeat (first | exact Below.refl _ _ | refine below_mo ?_ _ | refine below_al ?_ _))
theorem fits_q (x : Int) (hx : -9223372036854775808 ≤ x ∧ x ≤ 9223372036854775807) (w : World) : Calls Try.prog 45 #[.agg #[.int .i64 21, .int .i64 2, .bool false, .int .u32 0, .int .i64 3], .int .i64 x] w (Gives w (.bool (fitF ⟨21, 2, 4, 0, 3⟩ x))) := by
  have e : fitF ⟨21, 2, 4, 0, 3⟩ x = (decide (0 ≤ x) && decide (x ≤ 3)) := by unfold fitF; simp
  rw [e]
  clear e
  by_cases h1 : 0 ≤ x
  · by_cases h2 : x ≤ 3
    · rw [decide_eq_true h1, decide_eq_true h2]
      go_enter Try.func45, Try.ntmps45
      go_wp2
      go_ret
      exact Gives.mk rfl (by repeat (first | exact Below.refl _ _ | refine below_mo ?_ _ | refine below_al ?_ _))
    · rw [decide_eq_true h1, decide_eq_false h2]
      go_enter Try.func45, Try.ntmps45
      go_wp2
      go_ret
      exact Gives.mk rfl (by repeat (first | exact Below.refl _ _ | refine below_mo ?_ _ | refine below_al ?_ _))
  · rw [decide_eq_false h1, Bool.false_and]
    go_enter Try.func45, Try.ntmps45
    go_wp2
    go_ret
    exact Gives.mk rfl (by repeat (first | exact Below.refl _ _ | refine below_mo ?_ _ | refine below_al ?_ _))
theorem mask_c (w : World) : Calls Try.prog 46 #[.agg #[.int .i64 0, .int .i64 2, .bool false, .int .u32 0, .int .i64 3]] w (Gives w (.int .u32 3)) := by
  go_enter Try.func46, Try.ntmps46
  go_wp2
  refine wp_quiet_more (by kernel_rfl) (by kernel_rfl) ?_
  repeat (go_big_quiet_step (fail))
  refine wpQuiet_nil ?_
  intro p
  go_wp2
  go_ret
  exact Gives.mk rfl (by repeat (first | exact Below.refl _ _ | refine below_mo ?_ _ | refine below_al ?_ _))
theorem fits_c (x : Int) (hx : -9223372036854775808 ≤ x ∧ x ≤ 9223372036854775807) (w : World) : Calls Try.prog 45 #[.agg #[.int .i64 0, .int .i64 2, .bool false, .int .u32 0, .int .i64 3], .int .i64 x] w (Gives w (.bool (fitF ⟨0, 2, 4, 0, 3⟩ x))) := by
  have e : fitF ⟨0, 2, 4, 0, 3⟩ x = (decide (0 ≤ x) && decide (x ≤ 3)) := by unfold fitF; simp
  rw [e]
  clear e
  by_cases h1 : 0 ≤ x
  · by_cases h2 : x ≤ 3
    · rw [decide_eq_true h1, decide_eq_true h2]
      go_enter Try.func45, Try.ntmps45
      go_wp2
      go_ret
      exact Gives.mk rfl (by repeat (first | exact Below.refl _ _ | refine below_mo ?_ _ | refine below_al ?_ _))
    · rw [decide_eq_true h1, decide_eq_false h2]
      go_enter Try.func45, Try.ntmps45
      go_wp2
      go_ret
      exact Gives.mk rfl (by repeat (first | exact Below.refl _ _ | refine below_mo ?_ _ | refine below_al ?_ _))
  · rw [decide_eq_false h1, Bool.false_and]
    go_enter Try.func45, Try.ntmps45
    go_wp2
    go_ret
    exact Gives.mk rfl (by repeat (first | exact Below.refl _ _ | refine below_mo ?_ _ | refine below_al ?_ _))
theorem mask_k (w : World) : Calls Try.prog 46 #[.agg #[.int .i64 12, .int .i64 2, .bool false, .int .u32 1, .int .i64 3]] w (Gives w (.int .u32 12288)) := by
  go_enter Try.func46, Try.ntmps46
  go_wp2
  refine wp_quiet_more (by kernel_rfl) (by kernel_rfl) ?_
  repeat (go_big_quiet_step (fail))
  refine wpQuiet_nil ?_
  intro p
  go_wp2
  go_ret
  exact Gives.mk rfl (by repeat (first | exact Below.refl _ _ | refine below_mo ?_ _ | refine below_al ?_ _))
theorem fits_k (x : Int) (hx : -9223372036854775808 ≤ x ∧ x ≤ 9223372036854775807) (w : World) : Calls Try.prog 45 #[.agg #[.int .i64 12, .int .i64 2, .bool false, .int .u32 1, .int .i64 3], .int .i64 x] w (Gives w (.bool (fitF ⟨12, 2, 4, 2, 3⟩ x))) := by
  have e : fitF ⟨12, 2, 4, 2, 3⟩ x = (decide (0 ≤ x) && decide (x ≤ 3)) := by unfold fitF; simp
  rw [e]
  clear e
  by_cases h1 : 0 ≤ x
  · by_cases h2 : x ≤ 3
    · rw [decide_eq_true h1, decide_eq_true h2]
      go_enter Try.func45, Try.ntmps45
      go_wp2
      go_ret
      exact Gives.mk rfl (by repeat (first | exact Below.refl _ _ | refine below_mo ?_ _ | refine below_al ?_ _))
    · rw [decide_eq_true h1, decide_eq_false h2]
      go_enter Try.func45, Try.ntmps45
      go_wp2
      go_ret
      exact Gives.mk rfl (by repeat (first | exact Below.refl _ _ | refine below_mo ?_ _ | refine below_al ?_ _))
  · rw [decide_eq_false h1, Bool.false_and]
    go_enter Try.func45, Try.ntmps45
    go_wp2
    go_ret
    exact Gives.mk rfl (by repeat (first | exact Below.refl _ _ | refine below_mo ?_ _ | refine below_al ?_ _))
theorem mask_s (w : World) : Calls Try.prog 46 #[.agg #[.int .i64 30, .int .i64 2, .bool false, .int .u32 0, .int .i64 3]] w (Gives w (.int .u32 3221225472)) := by
  go_enter Try.func46, Try.ntmps46
  go_wp2
  refine wp_quiet_more (by kernel_rfl) (by kernel_rfl) ?_
  repeat (go_big_quiet_step (fail))
  refine wpQuiet_nil ?_
  intro p
  go_wp2
  go_ret
  exact Gives.mk rfl (by repeat (first | exact Below.refl _ _ | refine below_mo ?_ _ | refine below_al ?_ _))
theorem fits_s (x : Int) (hx : -9223372036854775808 ≤ x ∧ x ≤ 9223372036854775807) (w : World) : Calls Try.prog 45 #[.agg #[.int .i64 30, .int .i64 2, .bool false, .int .u32 0, .int .i64 3], .int .i64 x] w (Gives w (.bool (fitF ⟨30, 2, 5, 0, 3⟩ x))) := by
  have e : fitF ⟨30, 2, 5, 0, 3⟩ x = (decide (0 ≤ x) && decide (x ≤ 3)) := by unfold fitF; simp
  rw [e]
  clear e
  by_cases h1 : 0 ≤ x
  · by_cases h2 : x ≤ 3
    · rw [decide_eq_true h1, decide_eq_true h2]
      go_enter Try.func45, Try.ntmps45
      go_wp2
      go_ret
      exact Gives.mk rfl (by repeat (first | exact Below.refl _ _ | refine below_mo ?_ _ | refine below_al ?_ _))
    · rw [decide_eq_true h1, decide_eq_false h2]
      go_enter Try.func45, Try.ntmps45
      go_wp2
      go_ret
      exact Gives.mk rfl (by repeat (first | exact Below.refl _ _ | refine below_mo ?_ _ | refine below_al ?_ _))
  · rw [decide_eq_false h1, Bool.false_and]
    go_enter Try.func45, Try.ntmps45
    go_wp2
    go_ret
    exact Gives.mk rfl (by repeat (first | exact Below.refl _ _ | refine below_mo ?_ _ | refine below_al ?_ _))
theorem mask_i (w : World) : Calls Try.prog 46 #[.agg #[.int .i64 5, .int .i64 16, .bool false, .int .u32 0, .int .i64 65535]] w (Gives w (.int .u32 2097120)) := by
  go_enter Try.func46, Try.ntmps46
  go_wp2
  refine wp_quiet_more (by kernel_rfl) (by kernel_rfl) ?_
  repeat (go_big_quiet_step (fail))
  refine wpQuiet_nil ?_
  intro p
  go_wp2
  go_ret
  exact Gives.mk rfl (by repeat (first | exact Below.refl _ _ | refine below_mo ?_ _ | refine below_al ?_ _))
theorem fits_i (x : Int) (hx : -9223372036854775808 ≤ x ∧ x ≤ 9223372036854775807) (w : World) : Calls Try.prog 45 #[.agg #[.int .i64 5, .int .i64 16, .bool false, .int .u32 0, .int .i64 65535], .int .i64 x] w (Gives w (.bool (fitF ⟨5, 16, 6, 0, 65535⟩ x))) := by
  have e : fitF ⟨5, 16, 6, 0, 65535⟩ x = (decide (0 ≤ x) && decide (x ≤ 65535)) := by unfold fitF; simp
  rw [e]
  clear e
  by_cases h1 : 0 ≤ x
  · by_cases h2 : x ≤ 65535
    · rw [decide_eq_true h1, decide_eq_true h2]
      go_enter Try.func45, Try.ntmps45
      go_wp2
      go_ret
      exact Gives.mk rfl (by repeat (first | exact Below.refl _ _ | refine below_mo ?_ _ | refine below_al ?_ _))
    · rw [decide_eq_true h1, decide_eq_false h2]
      go_enter Try.func45, Try.ntmps45
      go_wp2
      go_ret
      exact Gives.mk rfl (by repeat (first | exact Below.refl _ _ | refine below_mo ?_ _ | refine below_al ?_ _))
  · rw [decide_eq_false h1, Bool.false_and]
    go_enter Try.func45, Try.ntmps45
    go_wp2
    go_ret
    exact Gives.mk rfl (by repeat (first | exact Below.refl _ _ | refine below_mo ?_ _ | refine below_al ?_ _))
theorem mask_o (w : World) : Calls Try.prog 46 #[.agg #[.int .i64 10, .int .i64 12, .bool false, .int .u32 0, .int .i64 4095]] w (Gives w (.int .u32 4193280)) := by
  go_enter Try.func46, Try.ntmps46
  go_wp2
  refine wp_quiet_more (by kernel_rfl) (by kernel_rfl) ?_
  repeat (go_big_quiet_step (fail))
  refine wpQuiet_nil ?_
  intro p
  go_wp2
  go_ret
  exact Gives.mk rfl (by repeat (first | exact Below.refl _ _ | refine below_mo ?_ _ | refine below_al ?_ _))
theorem fits_o (x : Int) (hx : -9223372036854775808 ≤ x ∧ x ≤ 9223372036854775807) (w : World) : Calls Try.prog 45 #[.agg #[.int .i64 10, .int .i64 12, .bool false, .int .u32 0, .int .i64 4095], .int .i64 x] w (Gives w (.bool (fitF ⟨10, 12, 6, 0, 4095⟩ x))) := by
  have e : fitF ⟨10, 12, 6, 0, 4095⟩ x = (decide (0 ≤ x) && decide (x ≤ 4095)) := by unfold fitF; simp
  rw [e]
  clear e
  by_cases h1 : 0 ≤ x
  · by_cases h2 : x ≤ 4095
    · rw [decide_eq_true h1, decide_eq_true h2]
      go_enter Try.func45, Try.ntmps45
      go_wp2
      go_ret
      exact Gives.mk rfl (by repeat (first | exact Below.refl _ _ | refine below_mo ?_ _ | refine below_al ?_ _))
    · rw [decide_eq_true h1, decide_eq_false h2]
      go_enter Try.func45, Try.ntmps45
      go_wp2
      go_ret
      exact Gives.mk rfl (by repeat (first | exact Below.refl _ _ | refine below_mo ?_ _ | refine below_al ?_ _))
  · rw [decide_eq_false h1, Bool.false_and]
    go_enter Try.func45, Try.ntmps45
    go_wp2
    go_ret
    exact Gives.mk rfl (by repeat (first | exact Below.refl _ _ | refine below_mo ?_ _ | refine below_al ?_ _))
theorem mask_b (w : World) : Calls Try.prog 46 #[.agg #[.int .i64 0, .int .i64 26, .bool true, .int .u32 0, .int .i64 0]] w (Gives w (.int .u32 67108863)) := by
  go_enter Try.func46, Try.ntmps46
  go_wp2
  refine wp_quiet_more (by kernel_rfl) (by kernel_rfl) ?_
  repeat (go_big_quiet_step (fail))
  refine wpQuiet_nil ?_
  intro p
  go_wp2
  go_ret
  exact Gives.mk rfl (by repeat (first | exact Below.refl _ _ | refine below_mo ?_ _ | refine below_al ?_ _))
theorem fits_b (x : Int) (hx : -9223372036854775808 ≤ x ∧ x ≤ 9223372036854775807) (w : World) : Calls Try.prog 45 #[.agg #[.int .i64 0, .int .i64 26, .bool true, .int .u32 0, .int .i64 0], .int .i64 x] w (Gives w (.bool (fitF ⟨0, 26, 6, 1, 0⟩ x))) := by
  have e : fitF ⟨0, 26, 6, 1, 0⟩ x = (decide (-33554432 ≤ x) && decide (x < 33554432)) := by unfold fitF; simp
  rw [e]
  clear e
  by_cases h1 : -33554432 ≤ x
  · by_cases h2 : x < 33554432
    · rw [decide_eq_true h1, decide_eq_true h2]
      go_enter Try.func45, Try.ntmps45
      go_wp2
      go_ret
      exact Gives.mk rfl (by repeat (first | exact Below.refl _ _ | refine below_mo ?_ _ | refine below_al ?_ _))
    · rw [decide_eq_true h1, decide_eq_false h2]
      go_enter Try.func45, Try.ntmps45
      go_wp2
      go_ret
      exact Gives.mk rfl (by repeat (first | exact Below.refl _ _ | refine below_mo ?_ _ | refine below_al ?_ _))
  · rw [decide_eq_false h1, Bool.false_and]
    go_enter Try.func45, Try.ntmps45
    go_wp2
    go_ret
    exact Gives.mk rfl (by repeat (first | exact Below.refl _ _ | refine below_mo ?_ _ | refine below_al ?_ _))
theorem mask_x (w : World) : Calls Try.prog 46 #[.agg #[.int .i64 5, .int .i64 19, .bool true, .int .u32 0, .int .i64 0]] w (Gives w (.int .u32 16777184)) := by
  go_enter Try.func46, Try.ntmps46
  go_wp2
  refine wp_quiet_more (by kernel_rfl) (by kernel_rfl) ?_
  repeat (go_big_quiet_step (fail))
  refine wpQuiet_nil ?_
  intro p
  go_wp2
  go_ret
  exact Gives.mk rfl (by repeat (first | exact Below.refl _ _ | refine below_mo ?_ _ | refine below_al ?_ _))
theorem fits_x (x : Int) (hx : -9223372036854775808 ≤ x ∧ x ≤ 9223372036854775807) (w : World) : Calls Try.prog 45 #[.agg #[.int .i64 5, .int .i64 19, .bool true, .int .u32 0, .int .i64 0], .int .i64 x] w (Gives w (.bool (fitF ⟨5, 19, 6, 1, 0⟩ x))) := by
  have e : fitF ⟨5, 19, 6, 1, 0⟩ x = (decide (-262144 ≤ x) && decide (x < 262144)) := by unfold fitF; simp
  rw [e]
  clear e
  by_cases h1 : -262144 ≤ x
  · by_cases h2 : x < 262144
    · rw [decide_eq_true h1, decide_eq_true h2]
      go_enter Try.func45, Try.ntmps45
      go_wp2
      go_ret
      exact Gives.mk rfl (by repeat (first | exact Below.refl _ _ | refine below_mo ?_ _ | refine below_al ?_ _))
    · rw [decide_eq_true h1, decide_eq_false h2]
      go_enter Try.func45, Try.ntmps45
      go_wp2
      go_ret
      exact Gives.mk rfl (by repeat (first | exact Below.refl _ _ | refine below_mo ?_ _ | refine below_al ?_ _))
  · rw [decide_eq_false h1, Bool.false_and]
    go_enter Try.func45, Try.ntmps45
    go_wp2
    go_ret
    exact Gives.mk rfl (by repeat (first | exact Below.refl _ _ | refine below_mo ?_ _ | refine below_al ?_ _))
theorem mask_f (w : World) : Calls Try.prog 46 #[.agg #[.int .i64 8, .int .i64 4, .bool false, .int .u32 0, .int .i64 2]] w (Gives w (.int .u32 3840)) := by
  go_enter Try.func46, Try.ntmps46
  go_wp2
  refine wp_quiet_more (by kernel_rfl) (by kernel_rfl) ?_
  repeat (go_big_quiet_step (fail))
  refine wpQuiet_nil ?_
  intro p
  go_wp2
  go_ret
  exact Gives.mk rfl (by repeat (first | exact Below.refl _ _ | refine below_mo ?_ _ | refine below_al ?_ _))
theorem fits_f (x : Int) (hx : -9223372036854775808 ≤ x ∧ x ≤ 9223372036854775807) (w : World) : Calls Try.prog 45 #[.agg #[.int .i64 8, .int .i64 4, .bool false, .int .u32 0, .int .i64 2], .int .i64 x] w (Gives w (.bool (fitF ⟨8, 4, 6, 3, 2⟩ x))) := by
  have e : fitF ⟨8, 4, 6, 3, 2⟩ x = (decide (0 ≤ x) && decide (x ≤ 2)) := by unfold fitF; simp
  rw [e]
  clear e
  by_cases h1 : 0 ≤ x
  · by_cases h2 : x ≤ 2
    · rw [decide_eq_true h1, decide_eq_true h2]
      go_enter Try.func45, Try.ntmps45
      go_wp2
      go_ret
      exact Gives.mk rfl (by repeat (first | exact Below.refl _ _ | refine below_mo ?_ _ | refine below_al ?_ _))
    · rw [decide_eq_true h1, decide_eq_false h2]
      go_enter Try.func45, Try.ntmps45
      go_wp2
      go_ret
      exact Gives.mk rfl (by repeat (first | exact Below.refl _ _ | refine below_mo ?_ _ | refine below_al ?_ _))
  · rw [decide_eq_false h1, Bool.false_and]
    go_enter Try.func45, Try.ntmps45
    go_wp2
    go_ret
    exact Gives.mk rfl (by repeat (first | exact Below.refl _ _ | refine below_mo ?_ _ | refine below_al ?_ _))
theorem mask_any (c : Nat) (f : Fl) (h : fl c = some f) (w : World) : Calls Try.prog 46 #[.agg #[.int .i64 f.lo, .int .i64 f.n, .bool (f.kd == 1), .int .u32 (if f.kd = 2 then 1 else 0), .int .i64 f.most]] w (Gives w (.int .u32 ((mskN f : Nat) : Int))) := by
  unfold fl at h
  by_cases h100 : c = 100
  · rw [if_pos h100] at h
    cases h
    subst h100
    exact mask_d w
  rw [if_neg h100] at h
  by_cases h110 : c = 110
  · rw [if_pos h110] at h
    cases h
    subst h110
    exact mask_n w
  rw [if_neg h110] at h
  by_cases h97 : c = 97
  · rw [if_pos h97] at h
    cases h
    subst h97
    exact mask_a w
  rw [if_neg h97] at h
  by_cases h109 : c = 109
  · rw [if_pos h109] at h
    cases h
    subst h109
    exact mask_m w
  rw [if_neg h109] at h
  by_cases h101 : c = 101
  · rw [if_pos h101] at h
    cases h
    subst h101
    exact mask_e w
  rw [if_neg h101] at h
  by_cases h113 : c = 113
  · rw [if_pos h113] at h
    cases h
    subst h113
    exact mask_q w
  rw [if_neg h113] at h
  by_cases h99 : c = 99
  · rw [if_pos h99] at h
    cases h
    subst h99
    exact mask_c w
  rw [if_neg h99] at h
  by_cases h107 : c = 107
  · rw [if_pos h107] at h
    cases h
    subst h107
    exact mask_k w
  rw [if_neg h107] at h
  by_cases h115 : c = 115
  · rw [if_pos h115] at h
    cases h
    subst h115
    exact mask_s w
  rw [if_neg h115] at h
  by_cases h105 : c = 105
  · rw [if_pos h105] at h
    cases h
    subst h105
    exact mask_i w
  rw [if_neg h105] at h
  by_cases h111 : c = 111
  · rw [if_pos h111] at h
    cases h
    subst h111
    exact mask_o w
  rw [if_neg h111] at h
  by_cases h98 : c = 98
  · rw [if_pos h98] at h
    cases h
    subst h98
    exact mask_b w
  rw [if_neg h98] at h
  by_cases h120 : c = 120
  · rw [if_pos h120] at h
    cases h
    subst h120
    exact mask_x w
  rw [if_neg h120] at h
  by_cases h102 : c = 102
  · rw [if_pos h102] at h
    cases h
    subst h102
    exact mask_f w
  rw [if_neg h102] at h
  cases h
theorem fits_any (c : Nat) (f : Fl) (h : fl c = some f) (x : Int) (hx : -9223372036854775808 ≤ x ∧ x ≤ 9223372036854775807) (w : World) : Calls Try.prog 45 #[.agg #[.int .i64 f.lo, .int .i64 f.n, .bool (f.kd == 1), .int .u32 (if f.kd = 2 then 1 else 0), .int .i64 f.most], .int .i64 x] w (Gives w (.bool (fitF f x))) := by
  unfold fl at h
  by_cases h100 : c = 100
  · rw [if_pos h100] at h
    cases h
    subst h100
    exact fits_d x hx w
  rw [if_neg h100] at h
  by_cases h110 : c = 110
  · rw [if_pos h110] at h
    cases h
    subst h110
    exact fits_n x hx w
  rw [if_neg h110] at h
  by_cases h97 : c = 97
  · rw [if_pos h97] at h
    cases h
    subst h97
    exact fits_a x hx w
  rw [if_neg h97] at h
  by_cases h109 : c = 109
  · rw [if_pos h109] at h
    cases h
    subst h109
    exact fits_m x hx w
  rw [if_neg h109] at h
  by_cases h101 : c = 101
  · rw [if_pos h101] at h
    cases h
    subst h101
    exact fits_e x hx w
  rw [if_neg h101] at h
  by_cases h113 : c = 113
  · rw [if_pos h113] at h
    cases h
    subst h113
    exact fits_q x hx w
  rw [if_neg h113] at h
  by_cases h99 : c = 99
  · rw [if_pos h99] at h
    cases h
    subst h99
    exact fits_c x hx w
  rw [if_neg h99] at h
  by_cases h107 : c = 107
  · rw [if_pos h107] at h
    cases h
    subst h107
    exact fits_k x hx w
  rw [if_neg h107] at h
  by_cases h115 : c = 115
  · rw [if_pos h115] at h
    cases h
    subst h115
    exact fits_s x hx w
  rw [if_neg h115] at h
  by_cases h105 : c = 105
  · rw [if_pos h105] at h
    cases h
    subst h105
    exact fits_i x hx w
  rw [if_neg h105] at h
  by_cases h111 : c = 111
  · rw [if_pos h111] at h
    cases h
    subst h111
    exact fits_o x hx w
  rw [if_neg h111] at h
  by_cases h98 : c = 98
  · rw [if_pos h98] at h
    cases h
    subst h98
    exact fits_b x hx w
  rw [if_neg h98] at h
  by_cases h120 : c = 120
  · rw [if_pos h120] at h
    cases h
    subst h120
    exact fits_x x hx w
  rw [if_neg h120] at h
  by_cases h102 : c = 102
  · rw [if_pos h102] at h
    cases h
    subst h102
    exact fits_f x hx w
  rw [if_neg h102] at h
  cases h
end Go.Proofs.Ytfijppclaahkmaa
