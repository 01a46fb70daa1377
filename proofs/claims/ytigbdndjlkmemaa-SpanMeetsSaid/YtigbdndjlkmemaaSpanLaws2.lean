/- Walks: the statements on two spans, and on one, return true. Conditions: numbers fit their kinds. -/
import Derived.Test.YtigbdndjlkmemaaSpanMath
namespace Go.Proofs.Ytigbdndjlkmemaa
open Go.RowKit Go.Sort
set_option linter.unusedVariables false
set_option linter.unusedSimpArgs false
set_option maxHeartbeats 1000000 in
theorem spanMeets_A (a l b m : Int) (ha : -9223372036854775808 ≤ a ∧ a ≤ 9223372036854775807) (hl : -9223372036854775808 ≤ l ∧ l ≤ 9223372036854775807) (hb : -9223372036854775808 ≤ b ∧ b ≤ 9223372036854775807) (hm : -9223372036854775808 ≤ m ∧ m ≤ 9223372036854775807) (w : World) (q1 : sndB a l = false) (q2 : sndB b m = false) (q3 : hasB a l b = false) (q4 : hasB b m a = false) : Calls Try.prog 9 #[.agg #[.int .i64 a, .int .i64 l], .agg #[.int .i64 b, .int .i64 m]] w (Gives w (.bool true)) := by
    have u1 : meetsB a l b m = false := by rw [← meets_law, q1, q2, q3, q4]; simp <;> omega
    have u2 : withinB a l b m = true := by rw [← within_law, q1, q4]; simp <;> omega
    go_enter Try.func9, Try.ntmps9
    go_wp2_with (first
    | (go_at_call 22; refine (has_g _ _ _ (by omega) (by omega) _).mono ?_; rintro e w1 ⟨rfl, p, rfl⟩)
    | (go_at_call 23; refine (lsound_g _ _ _).mono ?_; rintro e w1 ⟨rfl, p, rfl⟩)
    | (go_at_call 24; refine (sawake_any _).mono ?_; rintro e w1 ⟨rfl, p, rfl⟩)
    | (go_at_call 25; refine (meets_g _ _ _ _ _).mono ?_; rintro e w1 ⟨rfl, p, rfl⟩)
    | (go_at_call 26; refine (within_g _ _ _ _ _).mono ?_; rintro e w1 ⟨rfl, p, rfl⟩)
    | (go_at_call 27; refine (aligned_g _ _ _).mono ?_; rintro e w1 ⟨rfl, p, rfl⟩))
    go_ret
    exact Gives.mk rfl (by repeat (first | exact Below.refl _ _ | refine below_mo ?_ _ | refine below_al ?_ _))
set_option maxHeartbeats 1000000 in
theorem spanMeets_B1 (a l b m : Int) (ha : -9223372036854775808 ≤ a ∧ a ≤ 9223372036854775807) (hl : -9223372036854775808 ≤ l ∧ l ≤ 9223372036854775807) (hb : -9223372036854775808 ≤ b ∧ b ≤ 9223372036854775807) (hm : -9223372036854775808 ≤ m ∧ m ≤ 9223372036854775807) (w : World) (q1 : sndB a l = false) (q2 : sndB b m = true) (q3 : hasB a l b = false) (q4 : hasB b m a = false) : Calls Try.prog 9 #[.agg #[.int .i64 a, .int .i64 l], .agg #[.int .i64 b, .int .i64 m]] w (Gives w (.bool true)) := by
    have u1 : meetsB a l b m = false := by rw [← meets_law, q1, q2, q3, q4]; simp <;> omega
    have u2 : withinB a l b m = true := by rw [← within_law, q1, q4]; simp <;> omega
    go_enter Try.func9, Try.ntmps9
    go_wp2_with (first
    | (go_at_call 22; refine (has_g _ _ _ (by omega) (by omega) _).mono ?_; rintro e w1 ⟨rfl, p, rfl⟩)
    | (go_at_call 23; refine (lsound_g _ _ _).mono ?_; rintro e w1 ⟨rfl, p, rfl⟩)
    | (go_at_call 24; refine (sawake_any _).mono ?_; rintro e w1 ⟨rfl, p, rfl⟩)
    | (go_at_call 25; refine (meets_g _ _ _ _ _).mono ?_; rintro e w1 ⟨rfl, p, rfl⟩)
    | (go_at_call 26; refine (within_g _ _ _ _ _).mono ?_; rintro e w1 ⟨rfl, p, rfl⟩)
    | (go_at_call 27; refine (aligned_g _ _ _).mono ?_; rintro e w1 ⟨rfl, p, rfl⟩))
    go_ret
    exact Gives.mk rfl (by repeat (first | exact Below.refl _ _ | refine below_mo ?_ _ | refine below_al ?_ _))
set_option maxHeartbeats 1000000 in
theorem spanMeets_B2 (a l b m : Int) (ha : -9223372036854775808 ≤ a ∧ a ≤ 9223372036854775807) (hl : -9223372036854775808 ≤ l ∧ l ≤ 9223372036854775807) (hb : -9223372036854775808 ≤ b ∧ b ≤ 9223372036854775807) (hm : -9223372036854775808 ≤ m ∧ m ≤ 9223372036854775807) (w : World) (q1 : sndB a l = false) (q2 : sndB b m = true) (q3 : hasB a l b = false) (q4 : hasB b m a = true) (r0 : 0 < l) : Calls Try.prog 9 #[.agg #[.int .i64 a, .int .i64 l], .agg #[.int .i64 b, .int .i64 m]] w (Gives w (.bool true)) := by
    have u1 : meetsB a l b m = false := by rw [← meets_law, q1, q2, q3, q4]; simp <;> omega
    have u2 : withinB a l b m = true := by rw [← within_law, q1, q4]; simp <;> omega
    have u3 : (l == 0) = false := by simp; omega
    go_enter Try.func9, Try.ntmps9
    go_wp2_with (first
    | (go_at_call 22; refine (has_g _ _ _ (by omega) (by omega) _).mono ?_; rintro e w1 ⟨rfl, p, rfl⟩)
    | (go_at_call 23; refine (lsound_g _ _ _).mono ?_; rintro e w1 ⟨rfl, p, rfl⟩)
    | (go_at_call 24; refine (sawake_any _).mono ?_; rintro e w1 ⟨rfl, p, rfl⟩)
    | (go_at_call 25; refine (meets_g _ _ _ _ _).mono ?_; rintro e w1 ⟨rfl, p, rfl⟩)
    | (go_at_call 26; refine (within_g _ _ _ _ _).mono ?_; rintro e w1 ⟨rfl, p, rfl⟩)
    | (go_at_call 27; refine (aligned_g _ _ _).mono ?_; rintro e w1 ⟨rfl, p, rfl⟩))
    go_ret
    exact Gives.mk rfl (by repeat (first | exact Below.refl _ _ | refine below_mo ?_ _ | refine below_al ?_ _))
set_option maxHeartbeats 1000000 in
theorem spanMeets_B3 (a l b m : Int) (ha : -9223372036854775808 ≤ a ∧ a ≤ 9223372036854775807) (hl : -9223372036854775808 ≤ l ∧ l ≤ 9223372036854775807) (hb : -9223372036854775808 ≤ b ∧ b ≤ 9223372036854775807) (hm : -9223372036854775808 ≤ m ∧ m ≤ 9223372036854775807) (w : World) (q1 : sndB a l = false) (q2 : sndB b m = true) (q3 : hasB a l b = false) (q4 : hasB b m a = true) (r0 : ¬ 0 < l) : Calls Try.prog 9 #[.agg #[.int .i64 a, .int .i64 l], .agg #[.int .i64 b, .int .i64 m]] w (Gives w (.bool true)) := by
    have u1 : meetsB a l b m = false := by rw [← meets_law, q1, q2, q3, q4]; simp <;> omega
    have u2 : withinB a l b m = true := by rw [← within_law, q1, q4]; simp <;> omega
    go_enter Try.func9, Try.ntmps9
    go_wp2_with (first
    | (go_at_call 22; refine (has_g _ _ _ (by omega) (by omega) _).mono ?_; rintro e w1 ⟨rfl, p, rfl⟩)
    | (go_at_call 23; refine (lsound_g _ _ _).mono ?_; rintro e w1 ⟨rfl, p, rfl⟩)
    | (go_at_call 24; refine (sawake_any _).mono ?_; rintro e w1 ⟨rfl, p, rfl⟩)
    | (go_at_call 25; refine (meets_g _ _ _ _ _).mono ?_; rintro e w1 ⟨rfl, p, rfl⟩)
    | (go_at_call 26; refine (within_g _ _ _ _ _).mono ?_; rintro e w1 ⟨rfl, p, rfl⟩)
    | (go_at_call 27; refine (aligned_g _ _ _).mono ?_; rintro e w1 ⟨rfl, p, rfl⟩))
    go_ret
    exact Gives.mk rfl (by repeat (first | exact Below.refl _ _ | refine below_mo ?_ _ | refine below_al ?_ _))
set_option maxHeartbeats 1000000 in
theorem spanMeets_C1 (a l b m : Int) (ha : -9223372036854775808 ≤ a ∧ a ≤ 9223372036854775807) (hl : -9223372036854775808 ≤ l ∧ l ≤ 9223372036854775807) (hb : -9223372036854775808 ≤ b ∧ b ≤ 9223372036854775807) (hm : -9223372036854775808 ≤ m ∧ m ≤ 9223372036854775807) (w : World) (q1 : sndB a l = true) (q2 : sndB b m = false) (q3 : hasB a l b = false) (q4 : hasB b m a = false) (r0 : l = 0) : Calls Try.prog 9 #[.agg #[.int .i64 a, .int .i64 l], .agg #[.int .i64 b, .int .i64 m]] w (Gives w (.bool true)) := by
    subst r0
    have u1 : meetsB a 0 b m = false := by rw [← meets_law, q1, q2, q3, q4]; simp <;> omega
    have u2 : withinB a 0 b m = true := by rw [← within_law, q1, q4]; simp <;> omega
    have hs := sndB_yes q1
    go_enter Try.func9, Try.ntmps9
    go_wp2_with (first
    | (go_at_call 22; refine (has_g _ _ _ (by omega) (by omega) _).mono ?_; rintro e w1 ⟨rfl, p, rfl⟩)
    | (go_at_call 23; refine (lsound_g _ _ _).mono ?_; rintro e w1 ⟨rfl, p, rfl⟩)
    | (go_at_call 24; refine (sawake_any _).mono ?_; rintro e w1 ⟨rfl, p, rfl⟩)
    | (go_at_call 25; refine (meets_g _ _ _ _ _).mono ?_; rintro e w1 ⟨rfl, p, rfl⟩)
    | (go_at_call 26; refine (within_g _ _ _ _ _).mono ?_; rintro e w1 ⟨rfl, p, rfl⟩)
    | (go_at_call 27; refine (aligned_g _ _ _).mono ?_; rintro e w1 ⟨rfl, p, rfl⟩))
    go_ret
    exact Gives.mk rfl (by repeat (first | exact Below.refl _ _ | refine below_mo ?_ _ | refine below_al ?_ _))
set_option maxHeartbeats 1000000 in
theorem spanMeets_C2 (a l b m : Int) (ha : -9223372036854775808 ≤ a ∧ a ≤ 9223372036854775807) (hl : -9223372036854775808 ≤ l ∧ l ≤ 9223372036854775807) (hb : -9223372036854775808 ≤ b ∧ b ≤ 9223372036854775807) (hm : -9223372036854775808 ≤ m ∧ m ≤ 9223372036854775807) (w : World) (q1 : sndB a l = true) (q2 : sndB b m = false) (q3 : hasB a l b = false) (q4 : hasB b m a = false) (r0 : 0 < l) : Calls Try.prog 9 #[.agg #[.int .i64 a, .int .i64 l], .agg #[.int .i64 b, .int .i64 m]] w (Gives w (.bool true)) := by
    have u1 : meetsB a l b m = false := by rw [← meets_law, q1, q2, q3, q4]; simp <;> omega
    have u2 : withinB a l b m = false := by rw [← within_law, q1, q4]; simp <;> omega
    have hs := sndB_yes q1
    have u3 : (l == 0) = false := by simp; omega
    go_enter Try.func9, Try.ntmps9
    go_wp2_with (first
    | (go_at_call 22; refine (has_g _ _ _ (by omega) (by omega) _).mono ?_; rintro e w1 ⟨rfl, p, rfl⟩)
    | (go_at_call 23; refine (lsound_g _ _ _).mono ?_; rintro e w1 ⟨rfl, p, rfl⟩)
    | (go_at_call 24; refine (sawake_any _).mono ?_; rintro e w1 ⟨rfl, p, rfl⟩)
    | (go_at_call 25; refine (meets_g _ _ _ _ _).mono ?_; rintro e w1 ⟨rfl, p, rfl⟩)
    | (go_at_call 26; refine (within_g _ _ _ _ _).mono ?_; rintro e w1 ⟨rfl, p, rfl⟩)
    | (go_at_call 27; refine (aligned_g _ _ _).mono ?_; rintro e w1 ⟨rfl, p, rfl⟩))
    go_ret
    exact Gives.mk rfl (by repeat (first | exact Below.refl _ _ | refine below_mo ?_ _ | refine below_al ?_ _))
set_option maxHeartbeats 1000000 in
theorem spanMeets_C3 (a l b m : Int) (ha : -9223372036854775808 ≤ a ∧ a ≤ 9223372036854775807) (hl : -9223372036854775808 ≤ l ∧ l ≤ 9223372036854775807) (hb : -9223372036854775808 ≤ b ∧ b ≤ 9223372036854775807) (hm : -9223372036854775808 ≤ m ∧ m ≤ 9223372036854775807) (w : World) (q1 : sndB a l = true) (q2 : sndB b m = false) (q3 : hasB a l b = true) (q4 : hasB b m a = false) (r0 : 0 < l) (r1 : 0 < m) : Calls Try.prog 9 #[.agg #[.int .i64 a, .int .i64 l], .agg #[.int .i64 b, .int .i64 m]] w (Gives w (.bool true)) := by
    have u1 : meetsB a l b m = false := by rw [← meets_law, q1, q2, q3, q4]; simp <;> omega
    have u2 : withinB a l b m = false := by rw [← within_law, q1, q4]; simp <;> omega
    have hs := sndB_yes q1
    have u3 : (l == 0) = false := by simp; omega
    go_enter Try.func9, Try.ntmps9
    go_wp2_with (first
    | (go_at_call 22; refine (has_g _ _ _ (by omega) (by omega) _).mono ?_; rintro e w1 ⟨rfl, p, rfl⟩)
    | (go_at_call 23; refine (lsound_g _ _ _).mono ?_; rintro e w1 ⟨rfl, p, rfl⟩)
    | (go_at_call 24; refine (sawake_any _).mono ?_; rintro e w1 ⟨rfl, p, rfl⟩)
    | (go_at_call 25; refine (meets_g _ _ _ _ _).mono ?_; rintro e w1 ⟨rfl, p, rfl⟩)
    | (go_at_call 26; refine (within_g _ _ _ _ _).mono ?_; rintro e w1 ⟨rfl, p, rfl⟩)
    | (go_at_call 27; refine (aligned_g _ _ _).mono ?_; rintro e w1 ⟨rfl, p, rfl⟩))
    go_ret
    exact Gives.mk rfl (by repeat (first | exact Below.refl _ _ | refine below_mo ?_ _ | refine below_al ?_ _))
set_option maxHeartbeats 1000000 in
theorem spanMeets_C4 (a l b m : Int) (ha : -9223372036854775808 ≤ a ∧ a ≤ 9223372036854775807) (hl : -9223372036854775808 ≤ l ∧ l ≤ 9223372036854775807) (hb : -9223372036854775808 ≤ b ∧ b ≤ 9223372036854775807) (hm : -9223372036854775808 ≤ m ∧ m ≤ 9223372036854775807) (w : World) (q1 : sndB a l = true) (q2 : sndB b m = false) (q3 : hasB a l b = true) (q4 : hasB b m a = false) (r0 : 0 < l) (r1 : ¬ 0 < m) : Calls Try.prog 9 #[.agg #[.int .i64 a, .int .i64 l], .agg #[.int .i64 b, .int .i64 m]] w (Gives w (.bool true)) := by
    have u1 : meetsB a l b m = false := by rw [← meets_law, q1, q2, q3, q4]; simp <;> omega
    have u2 : withinB a l b m = false := by rw [← within_law, q1, q4]; simp <;> omega
    have hs := sndB_yes q1
    have u3 : (l == 0) = false := by simp; omega
    go_enter Try.func9, Try.ntmps9
    go_wp2_with (first
    | (go_at_call 22; refine (has_g _ _ _ (by omega) (by omega) _).mono ?_; rintro e w1 ⟨rfl, p, rfl⟩)
    | (go_at_call 23; refine (lsound_g _ _ _).mono ?_; rintro e w1 ⟨rfl, p, rfl⟩)
    | (go_at_call 24; refine (sawake_any _).mono ?_; rintro e w1 ⟨rfl, p, rfl⟩)
    | (go_at_call 25; refine (meets_g _ _ _ _ _).mono ?_; rintro e w1 ⟨rfl, p, rfl⟩)
    | (go_at_call 26; refine (within_g _ _ _ _ _).mono ?_; rintro e w1 ⟨rfl, p, rfl⟩)
    | (go_at_call 27; refine (aligned_g _ _ _).mono ?_; rintro e w1 ⟨rfl, p, rfl⟩))
    go_ret
    exact Gives.mk rfl (by repeat (first | exact Below.refl _ _ | refine below_mo ?_ _ | refine below_al ?_ _))
set_option maxHeartbeats 1000000 in
theorem spanMeets_D1 (a l b m : Int) (ha : -9223372036854775808 ≤ a ∧ a ≤ 9223372036854775807) (hl : -9223372036854775808 ≤ l ∧ l ≤ 9223372036854775807) (hb : -9223372036854775808 ≤ b ∧ b ≤ 9223372036854775807) (hm : -9223372036854775808 ≤ m ∧ m ≤ 9223372036854775807) (w : World) (q1 : sndB a l = true) (q2 : sndB b m = true) (q3 : hasB a l b = true) (q4 : hasB b m a = true) (q5 : hasB b m (a + l - 1) = true) (r0 : 0 < l) (r1 : 0 < m) : Calls Try.prog 9 #[.agg #[.int .i64 a, .int .i64 l], .agg #[.int .i64 b, .int .i64 m]] w (Gives w (.bool true)) := by
    have u1 : meetsB a l b m = true := by rw [← meets_law, q1, q2, q3, q4]; simp <;> omega
    have u2 : withinB a l b m = true := by rw [← within_law, q1, q4, q5]; simp <;> omega
    have hs := sndB_yes q1
    have u3 : (l == 0) = false := by simp; omega
    go_enter Try.func9, Try.ntmps9
    go_wp2_with (first
    | (go_at_call 22; refine (has_g _ _ _ (by omega) (by omega) _).mono ?_; rintro e w1 ⟨rfl, p, rfl⟩)
    | (go_at_call 23; refine (lsound_g _ _ _).mono ?_; rintro e w1 ⟨rfl, p, rfl⟩)
    | (go_at_call 24; refine (sawake_any _).mono ?_; rintro e w1 ⟨rfl, p, rfl⟩)
    | (go_at_call 25; refine (meets_g _ _ _ _ _).mono ?_; rintro e w1 ⟨rfl, p, rfl⟩)
    | (go_at_call 26; refine (within_g _ _ _ _ _).mono ?_; rintro e w1 ⟨rfl, p, rfl⟩)
    | (go_at_call 27; refine (aligned_g _ _ _).mono ?_; rintro e w1 ⟨rfl, p, rfl⟩))
    go_ret
    exact Gives.mk rfl (by repeat (first | exact Below.refl _ _ | refine below_mo ?_ _ | refine below_al ?_ _))
set_option maxHeartbeats 1000000 in
theorem spanMeets_D2 (a l b m : Int) (ha : -9223372036854775808 ≤ a ∧ a ≤ 9223372036854775807) (hl : -9223372036854775808 ≤ l ∧ l ≤ 9223372036854775807) (hb : -9223372036854775808 ≤ b ∧ b ≤ 9223372036854775807) (hm : -9223372036854775808 ≤ m ∧ m ≤ 9223372036854775807) (w : World) (q1 : sndB a l = true) (q2 : sndB b m = true) (q3 : hasB a l b = true) (q4 : hasB b m a = true) (q5 : hasB b m (a + l - 1) = false) (r0 : 0 < l) (r1 : 0 < m) : Calls Try.prog 9 #[.agg #[.int .i64 a, .int .i64 l], .agg #[.int .i64 b, .int .i64 m]] w (Gives w (.bool true)) := by
    have u1 : meetsB a l b m = true := by rw [← meets_law, q1, q2, q3, q4]; simp <;> omega
    have u2 : withinB a l b m = false := by rw [← within_law, q1, q4, q5]; simp <;> omega
    have hs := sndB_yes q1
    have u3 : (l == 0) = false := by simp; omega
    go_enter Try.func9, Try.ntmps9
    go_wp2_with (first
    | (go_at_call 22; refine (has_g _ _ _ (by omega) (by omega) _).mono ?_; rintro e w1 ⟨rfl, p, rfl⟩)
    | (go_at_call 23; refine (lsound_g _ _ _).mono ?_; rintro e w1 ⟨rfl, p, rfl⟩)
    | (go_at_call 24; refine (sawake_any _).mono ?_; rintro e w1 ⟨rfl, p, rfl⟩)
    | (go_at_call 25; refine (meets_g _ _ _ _ _).mono ?_; rintro e w1 ⟨rfl, p, rfl⟩)
    | (go_at_call 26; refine (within_g _ _ _ _ _).mono ?_; rintro e w1 ⟨rfl, p, rfl⟩)
    | (go_at_call 27; refine (aligned_g _ _ _).mono ?_; rintro e w1 ⟨rfl, p, rfl⟩))
    go_ret
    exact Gives.mk rfl (by repeat (first | exact Below.refl _ _ | refine below_mo ?_ _ | refine below_al ?_ _))
set_option maxHeartbeats 1000000 in
theorem spanMeets_D3 (a l b m : Int) (ha : -9223372036854775808 ≤ a ∧ a ≤ 9223372036854775807) (hl : -9223372036854775808 ≤ l ∧ l ≤ 9223372036854775807) (hb : -9223372036854775808 ≤ b ∧ b ≤ 9223372036854775807) (hm : -9223372036854775808 ≤ m ∧ m ≤ 9223372036854775807) (w : World) (q1 : sndB a l = true) (q2 : sndB b m = true) (q3 : hasB a l b = true) (q4 : hasB b m a = false) (r0 : 0 < l) (r1 : 0 < m) : Calls Try.prog 9 #[.agg #[.int .i64 a, .int .i64 l], .agg #[.int .i64 b, .int .i64 m]] w (Gives w (.bool true)) := by
    have u1 : meetsB a l b m = true := by rw [← meets_law, q1, q2, q3, q4]; simp <;> omega
    have u2 : withinB a l b m = false := by rw [← within_law, q1, q4]; simp <;> omega
    have hs := sndB_yes q1
    have u3 : (l == 0) = false := by simp; omega
    go_enter Try.func9, Try.ntmps9
    go_wp2_with (first
    | (go_at_call 22; refine (has_g _ _ _ (by omega) (by omega) _).mono ?_; rintro e w1 ⟨rfl, p, rfl⟩)
    | (go_at_call 23; refine (lsound_g _ _ _).mono ?_; rintro e w1 ⟨rfl, p, rfl⟩)
    | (go_at_call 24; refine (sawake_any _).mono ?_; rintro e w1 ⟨rfl, p, rfl⟩)
    | (go_at_call 25; refine (meets_g _ _ _ _ _).mono ?_; rintro e w1 ⟨rfl, p, rfl⟩)
    | (go_at_call 26; refine (within_g _ _ _ _ _).mono ?_; rintro e w1 ⟨rfl, p, rfl⟩)
    | (go_at_call 27; refine (aligned_g _ _ _).mono ?_; rintro e w1 ⟨rfl, p, rfl⟩))
    go_ret
    exact Gives.mk rfl (by repeat (first | exact Below.refl _ _ | refine below_mo ?_ _ | refine below_al ?_ _))
set_option maxHeartbeats 1000000 in
theorem spanMeets_D4 (a l b m : Int) (ha : -9223372036854775808 ≤ a ∧ a ≤ 9223372036854775807) (hl : -9223372036854775808 ≤ l ∧ l ≤ 9223372036854775807) (hb : -9223372036854775808 ≤ b ∧ b ≤ 9223372036854775807) (hm : -9223372036854775808 ≤ m ∧ m ≤ 9223372036854775807) (w : World) (q1 : sndB a l = true) (q2 : sndB b m = true) (q3 : hasB a l b = true) (q4 : hasB b m a = false) (r0 : 0 < l) (r1 : ¬ 0 < m) : Calls Try.prog 9 #[.agg #[.int .i64 a, .int .i64 l], .agg #[.int .i64 b, .int .i64 m]] w (Gives w (.bool true)) := by
    have u1 : meetsB a l b m = false := by rw [← meets_law, q1, q2, q3, q4]; simp <;> omega
    have u2 : withinB a l b m = false := by rw [← within_law, q1, q4]; simp <;> omega
    have hs := sndB_yes q1
    have u3 : (l == 0) = false := by simp; omega
    go_enter Try.func9, Try.ntmps9
    go_wp2_with (first
    | (go_at_call 22; refine (has_g _ _ _ (by omega) (by omega) _).mono ?_; rintro e w1 ⟨rfl, p, rfl⟩)
    | (go_at_call 23; refine (lsound_g _ _ _).mono ?_; rintro e w1 ⟨rfl, p, rfl⟩)
    | (go_at_call 24; refine (sawake_any _).mono ?_; rintro e w1 ⟨rfl, p, rfl⟩)
    | (go_at_call 25; refine (meets_g _ _ _ _ _).mono ?_; rintro e w1 ⟨rfl, p, rfl⟩)
    | (go_at_call 26; refine (within_g _ _ _ _ _).mono ?_; rintro e w1 ⟨rfl, p, rfl⟩)
    | (go_at_call 27; refine (aligned_g _ _ _).mono ?_; rintro e w1 ⟨rfl, p, rfl⟩))
    go_ret
    exact Gives.mk rfl (by repeat (first | exact Below.refl _ _ | refine below_mo ?_ _ | refine below_al ?_ _))
set_option maxHeartbeats 1000000 in
theorem spanMeets_E1 (a l b m : Int) (ha : -9223372036854775808 ≤ a ∧ a ≤ 9223372036854775807) (hl : -9223372036854775808 ≤ l ∧ l ≤ 9223372036854775807) (hb : -9223372036854775808 ≤ b ∧ b ≤ 9223372036854775807) (hm : -9223372036854775808 ≤ m ∧ m ≤ 9223372036854775807) (w : World) (q1 : sndB a l = true) (q2 : sndB b m = true) (q3 : hasB a l b = false) (q4 : hasB b m a = true) (q5 : hasB b m (a + l - 1) = true) (r0 : 0 < l) (r1 : 0 < m) : Calls Try.prog 9 #[.agg #[.int .i64 a, .int .i64 l], .agg #[.int .i64 b, .int .i64 m]] w (Gives w (.bool true)) := by
    have u1 : meetsB a l b m = true := by rw [← meets_law, q1, q2, q3, q4]; simp <;> omega
    have u2 : withinB a l b m = true := by rw [← within_law, q1, q4, q5]; simp <;> omega
    have hs := sndB_yes q1
    have u3 : (l == 0) = false := by simp; omega
    go_enter Try.func9, Try.ntmps9
    go_wp2_with (first
    | (go_at_call 22; refine (has_g _ _ _ (by omega) (by omega) _).mono ?_; rintro e w1 ⟨rfl, p, rfl⟩)
    | (go_at_call 23; refine (lsound_g _ _ _).mono ?_; rintro e w1 ⟨rfl, p, rfl⟩)
    | (go_at_call 24; refine (sawake_any _).mono ?_; rintro e w1 ⟨rfl, p, rfl⟩)
    | (go_at_call 25; refine (meets_g _ _ _ _ _).mono ?_; rintro e w1 ⟨rfl, p, rfl⟩)
    | (go_at_call 26; refine (within_g _ _ _ _ _).mono ?_; rintro e w1 ⟨rfl, p, rfl⟩)
    | (go_at_call 27; refine (aligned_g _ _ _).mono ?_; rintro e w1 ⟨rfl, p, rfl⟩))
    go_ret
    exact Gives.mk rfl (by repeat (first | exact Below.refl _ _ | refine below_mo ?_ _ | refine below_al ?_ _))
set_option maxHeartbeats 1000000 in
theorem spanMeets_E2 (a l b m : Int) (ha : -9223372036854775808 ≤ a ∧ a ≤ 9223372036854775807) (hl : -9223372036854775808 ≤ l ∧ l ≤ 9223372036854775807) (hb : -9223372036854775808 ≤ b ∧ b ≤ 9223372036854775807) (hm : -9223372036854775808 ≤ m ∧ m ≤ 9223372036854775807) (w : World) (q1 : sndB a l = true) (q2 : sndB b m = true) (q3 : hasB a l b = false) (q4 : hasB b m a = true) (q5 : hasB b m (a + l - 1) = false) (r0 : 0 < l) (r1 : 0 < m) : Calls Try.prog 9 #[.agg #[.int .i64 a, .int .i64 l], .agg #[.int .i64 b, .int .i64 m]] w (Gives w (.bool true)) := by
    have u1 : meetsB a l b m = true := by rw [← meets_law, q1, q2, q3, q4]; simp <;> omega
    have u2 : withinB a l b m = false := by rw [← within_law, q1, q4, q5]; simp <;> omega
    have hs := sndB_yes q1
    have u3 : (l == 0) = false := by simp; omega
    go_enter Try.func9, Try.ntmps9
    go_wp2_with (first
    | (go_at_call 22; refine (has_g _ _ _ (by omega) (by omega) _).mono ?_; rintro e w1 ⟨rfl, p, rfl⟩)
    | (go_at_call 23; refine (lsound_g _ _ _).mono ?_; rintro e w1 ⟨rfl, p, rfl⟩)
    | (go_at_call 24; refine (sawake_any _).mono ?_; rintro e w1 ⟨rfl, p, rfl⟩)
    | (go_at_call 25; refine (meets_g _ _ _ _ _).mono ?_; rintro e w1 ⟨rfl, p, rfl⟩)
    | (go_at_call 26; refine (within_g _ _ _ _ _).mono ?_; rintro e w1 ⟨rfl, p, rfl⟩)
    | (go_at_call 27; refine (aligned_g _ _ _).mono ?_; rintro e w1 ⟨rfl, p, rfl⟩))
    go_ret
    exact Gives.mk rfl (by repeat (first | exact Below.refl _ _ | refine below_mo ?_ _ | refine below_al ?_ _))
set_option maxHeartbeats 1000000 in
theorem spanMeets_E3 (a l b m : Int) (ha : -9223372036854775808 ≤ a ∧ a ≤ 9223372036854775807) (hl : -9223372036854775808 ≤ l ∧ l ≤ 9223372036854775807) (hb : -9223372036854775808 ≤ b ∧ b ≤ 9223372036854775807) (hm : -9223372036854775808 ≤ m ∧ m ≤ 9223372036854775807) (w : World) (q1 : sndB a l = true) (q2 : sndB b m = true) (q3 : hasB a l b = false) (q4 : hasB b m a = true) (r0 : l = 0) (r1 : 0 < m) : Calls Try.prog 9 #[.agg #[.int .i64 a, .int .i64 l], .agg #[.int .i64 b, .int .i64 m]] w (Gives w (.bool true)) := by
    subst r0
    have u1 : meetsB a 0 b m = false := by rw [← meets_law, q1, q2, q3, q4]; simp <;> omega
    have u2 : withinB a 0 b m = true := by rw [← within_law, q1, q4]; simp <;> omega
    have hs := sndB_yes q1
    go_enter Try.func9, Try.ntmps9
    go_wp2_with (first
    | (go_at_call 22; refine (has_g _ _ _ (by omega) (by omega) _).mono ?_; rintro e w1 ⟨rfl, p, rfl⟩)
    | (go_at_call 23; refine (lsound_g _ _ _).mono ?_; rintro e w1 ⟨rfl, p, rfl⟩)
    | (go_at_call 24; refine (sawake_any _).mono ?_; rintro e w1 ⟨rfl, p, rfl⟩)
    | (go_at_call 25; refine (meets_g _ _ _ _ _).mono ?_; rintro e w1 ⟨rfl, p, rfl⟩)
    | (go_at_call 26; refine (within_g _ _ _ _ _).mono ?_; rintro e w1 ⟨rfl, p, rfl⟩)
    | (go_at_call 27; refine (aligned_g _ _ _).mono ?_; rintro e w1 ⟨rfl, p, rfl⟩))
    go_ret
    exact Gives.mk rfl (by repeat (first | exact Below.refl _ _ | refine below_mo ?_ _ | refine below_al ?_ _))
set_option maxHeartbeats 1000000 in
theorem spanMeets_E4 (a l b m : Int) (ha : -9223372036854775808 ≤ a ∧ a ≤ 9223372036854775807) (hl : -9223372036854775808 ≤ l ∧ l ≤ 9223372036854775807) (hb : -9223372036854775808 ≤ b ∧ b ≤ 9223372036854775807) (hm : -9223372036854775808 ≤ m ∧ m ≤ 9223372036854775807) (w : World) (q1 : sndB a l = true) (q2 : sndB b m = true) (q3 : hasB a l b = false) (q4 : hasB b m a = false) (r0 : l = 0) : Calls Try.prog 9 #[.agg #[.int .i64 a, .int .i64 l], .agg #[.int .i64 b, .int .i64 m]] w (Gives w (.bool true)) := by
    subst r0
    have u1 : meetsB a 0 b m = false := by rw [← meets_law, q1, q2, q3, q4]; simp <;> omega
    have u2 : withinB a 0 b m = true := by rw [← within_law, q1, q4]; simp <;> omega
    have hs := sndB_yes q1
    go_enter Try.func9, Try.ntmps9
    go_wp2_with (first
    | (go_at_call 22; refine (has_g _ _ _ (by omega) (by omega) _).mono ?_; rintro e w1 ⟨rfl, p, rfl⟩)
    | (go_at_call 23; refine (lsound_g _ _ _).mono ?_; rintro e w1 ⟨rfl, p, rfl⟩)
    | (go_at_call 24; refine (sawake_any _).mono ?_; rintro e w1 ⟨rfl, p, rfl⟩)
    | (go_at_call 25; refine (meets_g _ _ _ _ _).mono ?_; rintro e w1 ⟨rfl, p, rfl⟩)
    | (go_at_call 26; refine (within_g _ _ _ _ _).mono ?_; rintro e w1 ⟨rfl, p, rfl⟩)
    | (go_at_call 27; refine (aligned_g _ _ _).mono ?_; rintro e w1 ⟨rfl, p, rfl⟩))
    go_ret
    exact Gives.mk rfl (by repeat (first | exact Below.refl _ _ | refine below_mo ?_ _ | refine below_al ?_ _))
set_option maxHeartbeats 1000000 in
theorem spanMeets_E5 (a l b m : Int) (ha : -9223372036854775808 ≤ a ∧ a ≤ 9223372036854775807) (hl : -9223372036854775808 ≤ l ∧ l ≤ 9223372036854775807) (hb : -9223372036854775808 ≤ b ∧ b ≤ 9223372036854775807) (hm : -9223372036854775808 ≤ m ∧ m ≤ 9223372036854775807) (w : World) (q1 : sndB a l = true) (q2 : sndB b m = true) (q3 : hasB a l b = false) (q4 : hasB b m a = false) (r0 : 0 < l) : Calls Try.prog 9 #[.agg #[.int .i64 a, .int .i64 l], .agg #[.int .i64 b, .int .i64 m]] w (Gives w (.bool true)) := by
    have u1 : meetsB a l b m = false := by rw [← meets_law, q1, q2, q3, q4]; simp <;> omega
    have u2 : withinB a l b m = false := by rw [← within_law, q1, q4]; simp <;> omega
    have hs := sndB_yes q1
    have u3 : (l == 0) = false := by simp; omega
    go_enter Try.func9, Try.ntmps9
    go_wp2_with (first
    | (go_at_call 22; refine (has_g _ _ _ (by omega) (by omega) _).mono ?_; rintro e w1 ⟨rfl, p, rfl⟩)
    | (go_at_call 23; refine (lsound_g _ _ _).mono ?_; rintro e w1 ⟨rfl, p, rfl⟩)
    | (go_at_call 24; refine (sawake_any _).mono ?_; rintro e w1 ⟨rfl, p, rfl⟩)
    | (go_at_call 25; refine (meets_g _ _ _ _ _).mono ?_; rintro e w1 ⟨rfl, p, rfl⟩)
    | (go_at_call 26; refine (within_g _ _ _ _ _).mono ?_; rintro e w1 ⟨rfl, p, rfl⟩)
    | (go_at_call 27; refine (aligned_g _ _ _).mono ?_; rintro e w1 ⟨rfl, p, rfl⟩))
    go_ret
    exact Gives.mk rfl (by repeat (first | exact Below.refl _ _ | refine below_mo ?_ _ | refine below_al ?_ _))
theorem hasB_yes {a l x : Int} (h : hasB a l x = true) : sndB a l = true ∧ 0 < l := by
  unfold hasB at h
  simp only [Bool.and_eq_true, decide_eq_true_eq] at h
  have := sndB_yes h.1.1
  exact ⟨h.1.1, by omega⟩
theorem spanMeets_walk (a l b m : Int) (ha : -9223372036854775808 ≤ a ∧ a ≤ 9223372036854775807) (hl : -9223372036854775808 ≤ l ∧ l ≤ 9223372036854775807) (hb : -9223372036854775808 ≤ b ∧ b ≤ 9223372036854775807) (hm : -9223372036854775808 ≤ m ∧ m ≤ 9223372036854775807) (w : World) : Calls Try.prog 9 #[.agg #[.int .i64 a, .int .i64 l], .agg #[.int .i64 b, .int .i64 m]] w (Gives w (.bool true)) := by
  have n1 : sndB a l = false → hasB a l b = false := fun h => by unfold hasB; rw [h]; rfl
  have n2 : sndB b m = false → hasB b m a = false := fun h => by unfold hasB; rw [h]; rfl
  cases q1 : sndB a l <;> cases q2 : sndB b m
  · exact spanMeets_A a l b m ha hl hb hm w q1 q2 (n1 q1) (n2 q2)
  · cases q4 : hasB b m a
    · exact spanMeets_B1 a l b m ha hl hb hm w q1 q2 (n1 q1) q4
    · by_cases r : 0 < l
      · exact spanMeets_B2 a l b m ha hl hb hm w q1 q2 (n1 q1) q4 r
      · exact spanMeets_B3 a l b m ha hl hb hm w q1 q2 (n1 q1) q4 r
  · have hs := sndB_yes q1
    cases q3 : hasB a l b
    · by_cases r : l = 0
      · exact spanMeets_C1 a l b m ha hl hb hm w q1 q2 q3 (n2 q2) r
      · exact spanMeets_C2 a l b m ha hl hb hm w q1 q2 q3 (n2 q2) (by omega)
    · by_cases r : 0 < m
      · exact spanMeets_C3 a l b m ha hl hb hm w q1 q2 q3 (n2 q2) (hasB_yes q3).2 r
      · exact spanMeets_C4 a l b m ha hl hb hm w q1 q2 q3 (n2 q2) (hasB_yes q3).2 r
  · have hs := sndB_yes q1
    have ht := sndB_yes q2
    cases q3 : hasB a l b <;> cases q4 : hasB b m a
    · by_cases r : l = 0
      · exact spanMeets_E4 a l b m ha hl hb hm w q1 q2 q3 q4 r
      · exact spanMeets_E5 a l b m ha hl hb hm w q1 q2 q3 q4 (by omega)
    · by_cases r : l = 0
      · exact spanMeets_E3 a l b m ha hl hb hm w q1 q2 q3 q4 r (hasB_yes q4).2
      · cases q5 : hasB b m (a + l - 1)
        · exact spanMeets_E2 a l b m ha hl hb hm w q1 q2 q3 q4 q5 (by omega) (hasB_yes q4).2
        · exact spanMeets_E1 a l b m ha hl hb hm w q1 q2 q3 q4 q5 (by omega) (hasB_yes q4).2
    · by_cases r : 0 < m
      · exact spanMeets_D3 a l b m ha hl hb hm w q1 q2 q3 q4 (hasB_yes q3).2 r
      · exact spanMeets_D4 a l b m ha hl hb hm w q1 q2 q3 q4 (hasB_yes q3).2 r
    · cases q5 : hasB b m (a + l - 1)
      · exact spanMeets_D2 a l b m ha hl hb hm w q1 q2 q3 q4 q5 (hasB_yes q3).2 (hasB_yes q4).2
      · exact spanMeets_D1 a l b m ha hl hb hm w q1 q2 q3 q4 q5 (hasB_yes q3).2 (hasB_yes q4).2
end Go.Proofs.Ytigbdndjlkmemaa
