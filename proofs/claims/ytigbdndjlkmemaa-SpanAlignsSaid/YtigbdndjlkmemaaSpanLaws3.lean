/- Walk: the statement on how a span lies returns true. Conditions: numbers fit their kinds. -/
import Derived.Test.YtigbdndjlkmemaaSpanMath
namespace Go.Proofs.Ytigbdndjlkmemaa
open Go.RowKit Go.Sort
set_option linter.unusedVariables false
set_option linter.unusedSimpArgs false
set_option maxHeartbeats 1000000 in
theorem spanAligns_no (a l : Int) (w : World) (q1 : sndB a l = false) : Calls Try.prog 10 #[.agg #[.int .i64 a, .int .i64 l]] w (Gives w (.bool true)) := by
    have u1 : algB a l = false := by unfold algB; rw [q1]; rfl
    go_enter Try.func10, Try.ntmps10
    go_wp2_with (first
    | (go_at_call 22; refine (has_g _ _ _ (by omega) (by omega) _).mono ?_; rintro e w1 ⟨rfl, p, rfl⟩)
    | (go_at_call 23; refine (lsound_g _ _ _).mono ?_; rintro e w1 ⟨rfl, p, rfl⟩)
    | (go_at_call 24; refine (sawake_any _).mono ?_; rintro e w1 ⟨rfl, p, rfl⟩)
    | (go_at_call 25; refine (meets_g _ _ _ _ _).mono ?_; rintro e w1 ⟨rfl, p, rfl⟩)
    | (go_at_call 26; refine (within_g _ _ _ _ _).mono ?_; rintro e w1 ⟨rfl, p, rfl⟩)
    | (go_at_call 27; refine (aligned_g _ _ _).mono ?_; rintro e w1 ⟨rfl, p, rfl⟩))
    go_ret
    exact Gives.mk rfl (by repeat (first | exact Below.refl _ _ | refine below_mo ?_ _ | refine below_al ?_ _))
set_option maxHeartbeats 1000000 in
theorem spanAligns_odd (a l : Int) (w : World) (q1 : sndB a l = true) (v1 : (l == 1) = false) (v2 : (l == 2) = false) (v3 : (l == 4) = false) (v4 : (l == 8) = false) (v5 : (l == 16) = false) : Calls Try.prog 10 #[.agg #[.int .i64 a, .int .i64 l]] w (Gives w (.bool true)) := by
    have u1 : algB a l = false := by unfold algB powB; rw [q1, v1, v2, v3, v4, v5]; rfl
    go_enter Try.func10, Try.ntmps10
    go_wp2_with (first
    | (go_at_call 22; refine (has_g _ _ _ (by omega) (by omega) _).mono ?_; rintro e w1 ⟨rfl, p, rfl⟩)
    | (go_at_call 23; refine (lsound_g _ _ _).mono ?_; rintro e w1 ⟨rfl, p, rfl⟩)
    | (go_at_call 24; refine (sawake_any _).mono ?_; rintro e w1 ⟨rfl, p, rfl⟩)
    | (go_at_call 25; refine (meets_g _ _ _ _ _).mono ?_; rintro e w1 ⟨rfl, p, rfl⟩)
    | (go_at_call 26; refine (within_g _ _ _ _ _).mono ?_; rintro e w1 ⟨rfl, p, rfl⟩)
    | (go_at_call 27; refine (aligned_g _ _ _).mono ?_; rintro e w1 ⟨rfl, p, rfl⟩))
    go_ret
    exact Gives.mk rfl (by repeat (first | exact Below.refl _ _ | refine below_mo ?_ _ | refine below_al ?_ _))
set_option maxHeartbeats 1000000 in
theorem spanAligns_1y (a : Int) (w : World) (q1 : sndB a 1 = true) (hm : (a % 1 == 0) = true) : Calls Try.prog 10 #[.agg #[.int .i64 a, .int .i64 1]] w (Gives w (.bool true)) := by
    have u1 : algB a 1 = true := by unfold algB; rw [q1, hm]; rfl
    have hs := (sndB_yes q1).1
    go_enter Try.func10, Try.ntmps10
    go_wp2_with (first
    | (go_at_call 22; refine (has_g _ _ _ (by omega) (by omega) _).mono ?_; rintro e w1 ⟨rfl, p, rfl⟩)
    | (go_at_call 23; refine (lsound_g _ _ _).mono ?_; rintro e w1 ⟨rfl, p, rfl⟩)
    | (go_at_call 24; refine (sawake_any _).mono ?_; rintro e w1 ⟨rfl, p, rfl⟩)
    | (go_at_call 25; refine (meets_g _ _ _ _ _).mono ?_; rintro e w1 ⟨rfl, p, rfl⟩)
    | (go_at_call 26; refine (within_g _ _ _ _ _).mono ?_; rintro e w1 ⟨rfl, p, rfl⟩)
    | (go_at_call 27; refine (aligned_g _ _ _).mono ?_; rintro e w1 ⟨rfl, p, rfl⟩))
    go_ret
    exact Gives.mk rfl (by repeat (first | exact Below.refl _ _ | refine below_mo ?_ _ | refine below_al ?_ _))
set_option maxHeartbeats 1000000 in
theorem spanAligns_2y (a : Int) (w : World) (q1 : sndB a 2 = true) (hm : (a % 2 == 0) = true) : Calls Try.prog 10 #[.agg #[.int .i64 a, .int .i64 2]] w (Gives w (.bool true)) := by
    have u1 : algB a 2 = true := by unfold algB; rw [q1, hm]; rfl
    have hs := (sndB_yes q1).1
    go_enter Try.func10, Try.ntmps10
    go_wp2_with (first
    | (go_at_call 22; refine (has_g _ _ _ (by omega) (by omega) _).mono ?_; rintro e w1 ⟨rfl, p, rfl⟩)
    | (go_at_call 23; refine (lsound_g _ _ _).mono ?_; rintro e w1 ⟨rfl, p, rfl⟩)
    | (go_at_call 24; refine (sawake_any _).mono ?_; rintro e w1 ⟨rfl, p, rfl⟩)
    | (go_at_call 25; refine (meets_g _ _ _ _ _).mono ?_; rintro e w1 ⟨rfl, p, rfl⟩)
    | (go_at_call 26; refine (within_g _ _ _ _ _).mono ?_; rintro e w1 ⟨rfl, p, rfl⟩)
    | (go_at_call 27; refine (aligned_g _ _ _).mono ?_; rintro e w1 ⟨rfl, p, rfl⟩))
    go_ret
    exact Gives.mk rfl (by repeat (first | exact Below.refl _ _ | refine below_mo ?_ _ | refine below_al ?_ _))
set_option maxHeartbeats 1000000 in
theorem spanAligns_2n (a : Int) (w : World) (q1 : sndB a 2 = true) (hm : (a % 2 == 0) = false) : Calls Try.prog 10 #[.agg #[.int .i64 a, .int .i64 2]] w (Gives w (.bool true)) := by
    have u1 : algB a 2 = false := by unfold algB; rw [q1, hm]; rfl
    have hs := (sndB_yes q1).1
    go_enter Try.func10, Try.ntmps10
    go_wp2_with (first
    | (go_at_call 22; refine (has_g _ _ _ (by omega) (by omega) _).mono ?_; rintro e w1 ⟨rfl, p, rfl⟩)
    | (go_at_call 23; refine (lsound_g _ _ _).mono ?_; rintro e w1 ⟨rfl, p, rfl⟩)
    | (go_at_call 24; refine (sawake_any _).mono ?_; rintro e w1 ⟨rfl, p, rfl⟩)
    | (go_at_call 25; refine (meets_g _ _ _ _ _).mono ?_; rintro e w1 ⟨rfl, p, rfl⟩)
    | (go_at_call 26; refine (within_g _ _ _ _ _).mono ?_; rintro e w1 ⟨rfl, p, rfl⟩)
    | (go_at_call 27; refine (aligned_g _ _ _).mono ?_; rintro e w1 ⟨rfl, p, rfl⟩))
    go_ret
    exact Gives.mk rfl (by repeat (first | exact Below.refl _ _ | refine below_mo ?_ _ | refine below_al ?_ _))
set_option maxHeartbeats 1000000 in
theorem spanAligns_4y (a : Int) (w : World) (q1 : sndB a 4 = true) (hm : (a % 4 == 0) = true) : Calls Try.prog 10 #[.agg #[.int .i64 a, .int .i64 4]] w (Gives w (.bool true)) := by
    have u1 : algB a 4 = true := by unfold algB; rw [q1, hm]; rfl
    have hs := (sndB_yes q1).1
    go_enter Try.func10, Try.ntmps10
    go_wp2_with (first
    | (go_at_call 22; refine (has_g _ _ _ (by omega) (by omega) _).mono ?_; rintro e w1 ⟨rfl, p, rfl⟩)
    | (go_at_call 23; refine (lsound_g _ _ _).mono ?_; rintro e w1 ⟨rfl, p, rfl⟩)
    | (go_at_call 24; refine (sawake_any _).mono ?_; rintro e w1 ⟨rfl, p, rfl⟩)
    | (go_at_call 25; refine (meets_g _ _ _ _ _).mono ?_; rintro e w1 ⟨rfl, p, rfl⟩)
    | (go_at_call 26; refine (within_g _ _ _ _ _).mono ?_; rintro e w1 ⟨rfl, p, rfl⟩)
    | (go_at_call 27; refine (aligned_g _ _ _).mono ?_; rintro e w1 ⟨rfl, p, rfl⟩))
    go_ret
    exact Gives.mk rfl (by repeat (first | exact Below.refl _ _ | refine below_mo ?_ _ | refine below_al ?_ _))
set_option maxHeartbeats 1000000 in
theorem spanAligns_4n (a : Int) (w : World) (q1 : sndB a 4 = true) (hm : (a % 4 == 0) = false) : Calls Try.prog 10 #[.agg #[.int .i64 a, .int .i64 4]] w (Gives w (.bool true)) := by
    have u1 : algB a 4 = false := by unfold algB; rw [q1, hm]; rfl
    have hs := (sndB_yes q1).1
    go_enter Try.func10, Try.ntmps10
    go_wp2_with (first
    | (go_at_call 22; refine (has_g _ _ _ (by omega) (by omega) _).mono ?_; rintro e w1 ⟨rfl, p, rfl⟩)
    | (go_at_call 23; refine (lsound_g _ _ _).mono ?_; rintro e w1 ⟨rfl, p, rfl⟩)
    | (go_at_call 24; refine (sawake_any _).mono ?_; rintro e w1 ⟨rfl, p, rfl⟩)
    | (go_at_call 25; refine (meets_g _ _ _ _ _).mono ?_; rintro e w1 ⟨rfl, p, rfl⟩)
    | (go_at_call 26; refine (within_g _ _ _ _ _).mono ?_; rintro e w1 ⟨rfl, p, rfl⟩)
    | (go_at_call 27; refine (aligned_g _ _ _).mono ?_; rintro e w1 ⟨rfl, p, rfl⟩))
    go_ret
    exact Gives.mk rfl (by repeat (first | exact Below.refl _ _ | refine below_mo ?_ _ | refine below_al ?_ _))
set_option maxHeartbeats 1000000 in
theorem spanAligns_8y (a : Int) (w : World) (q1 : sndB a 8 = true) (hm : (a % 8 == 0) = true) : Calls Try.prog 10 #[.agg #[.int .i64 a, .int .i64 8]] w (Gives w (.bool true)) := by
    have u1 : algB a 8 = true := by unfold algB; rw [q1, hm]; rfl
    have hs := (sndB_yes q1).1
    go_enter Try.func10, Try.ntmps10
    go_wp2_with (first
    | (go_at_call 22; refine (has_g _ _ _ (by omega) (by omega) _).mono ?_; rintro e w1 ⟨rfl, p, rfl⟩)
    | (go_at_call 23; refine (lsound_g _ _ _).mono ?_; rintro e w1 ⟨rfl, p, rfl⟩)
    | (go_at_call 24; refine (sawake_any _).mono ?_; rintro e w1 ⟨rfl, p, rfl⟩)
    | (go_at_call 25; refine (meets_g _ _ _ _ _).mono ?_; rintro e w1 ⟨rfl, p, rfl⟩)
    | (go_at_call 26; refine (within_g _ _ _ _ _).mono ?_; rintro e w1 ⟨rfl, p, rfl⟩)
    | (go_at_call 27; refine (aligned_g _ _ _).mono ?_; rintro e w1 ⟨rfl, p, rfl⟩))
    go_ret
    exact Gives.mk rfl (by repeat (first | exact Below.refl _ _ | refine below_mo ?_ _ | refine below_al ?_ _))
set_option maxHeartbeats 1000000 in
theorem spanAligns_8n (a : Int) (w : World) (q1 : sndB a 8 = true) (hm : (a % 8 == 0) = false) : Calls Try.prog 10 #[.agg #[.int .i64 a, .int .i64 8]] w (Gives w (.bool true)) := by
    have u1 : algB a 8 = false := by unfold algB; rw [q1, hm]; rfl
    have hs := (sndB_yes q1).1
    go_enter Try.func10, Try.ntmps10
    go_wp2_with (first
    | (go_at_call 22; refine (has_g _ _ _ (by omega) (by omega) _).mono ?_; rintro e w1 ⟨rfl, p, rfl⟩)
    | (go_at_call 23; refine (lsound_g _ _ _).mono ?_; rintro e w1 ⟨rfl, p, rfl⟩)
    | (go_at_call 24; refine (sawake_any _).mono ?_; rintro e w1 ⟨rfl, p, rfl⟩)
    | (go_at_call 25; refine (meets_g _ _ _ _ _).mono ?_; rintro e w1 ⟨rfl, p, rfl⟩)
    | (go_at_call 26; refine (within_g _ _ _ _ _).mono ?_; rintro e w1 ⟨rfl, p, rfl⟩)
    | (go_at_call 27; refine (aligned_g _ _ _).mono ?_; rintro e w1 ⟨rfl, p, rfl⟩))
    go_ret
    exact Gives.mk rfl (by repeat (first | exact Below.refl _ _ | refine below_mo ?_ _ | refine below_al ?_ _))
set_option maxHeartbeats 1000000 in
theorem spanAligns_16y (a : Int) (w : World) (q1 : sndB a 16 = true) (hm : (a % 16 == 0) = true) : Calls Try.prog 10 #[.agg #[.int .i64 a, .int .i64 16]] w (Gives w (.bool true)) := by
    have u1 : algB a 16 = true := by unfold algB; rw [q1, hm]; rfl
    have hs := (sndB_yes q1).1
    go_enter Try.func10, Try.ntmps10
    go_wp2_with (first
    | (go_at_call 22; refine (has_g _ _ _ (by omega) (by omega) _).mono ?_; rintro e w1 ⟨rfl, p, rfl⟩)
    | (go_at_call 23; refine (lsound_g _ _ _).mono ?_; rintro e w1 ⟨rfl, p, rfl⟩)
    | (go_at_call 24; refine (sawake_any _).mono ?_; rintro e w1 ⟨rfl, p, rfl⟩)
    | (go_at_call 25; refine (meets_g _ _ _ _ _).mono ?_; rintro e w1 ⟨rfl, p, rfl⟩)
    | (go_at_call 26; refine (within_g _ _ _ _ _).mono ?_; rintro e w1 ⟨rfl, p, rfl⟩)
    | (go_at_call 27; refine (aligned_g _ _ _).mono ?_; rintro e w1 ⟨rfl, p, rfl⟩))
    go_ret
    exact Gives.mk rfl (by repeat (first | exact Below.refl _ _ | refine below_mo ?_ _ | refine below_al ?_ _))
set_option maxHeartbeats 1000000 in
theorem spanAligns_16n (a : Int) (w : World) (q1 : sndB a 16 = true) (hm : (a % 16 == 0) = false) : Calls Try.prog 10 #[.agg #[.int .i64 a, .int .i64 16]] w (Gives w (.bool true)) := by
    have u1 : algB a 16 = false := by unfold algB; rw [q1, hm]; rfl
    have hs := (sndB_yes q1).1
    go_enter Try.func10, Try.ntmps10
    go_wp2_with (first
    | (go_at_call 22; refine (has_g _ _ _ (by omega) (by omega) _).mono ?_; rintro e w1 ⟨rfl, p, rfl⟩)
    | (go_at_call 23; refine (lsound_g _ _ _).mono ?_; rintro e w1 ⟨rfl, p, rfl⟩)
    | (go_at_call 24; refine (sawake_any _).mono ?_; rintro e w1 ⟨rfl, p, rfl⟩)
    | (go_at_call 25; refine (meets_g _ _ _ _ _).mono ?_; rintro e w1 ⟨rfl, p, rfl⟩)
    | (go_at_call 26; refine (within_g _ _ _ _ _).mono ?_; rintro e w1 ⟨rfl, p, rfl⟩)
    | (go_at_call 27; refine (aligned_g _ _ _).mono ?_; rintro e w1 ⟨rfl, p, rfl⟩))
    go_ret
    exact Gives.mk rfl (by repeat (first | exact Below.refl _ _ | refine below_mo ?_ _ | refine below_al ?_ _))
theorem spanAligns_walk (a l : Int) (w : World) : Calls Try.prog 10 #[.agg #[.int .i64 a, .int .i64 l]] w (Gives w (.bool true)) := by
  cases q1 : sndB a l
  · exact spanAligns_no a l w q1
  by_cases v1 : l = 1
  · subst v1
    cases hm : (a % 1 == 0)
    · rw [Int.emod_one] at hm; cases hm
    · exact spanAligns_1y a w q1 hm
  by_cases v2 : l = 2
  · subst v2
    cases hm : (a % 2 == 0)
    · exact spanAligns_2n a w q1 hm
    · exact spanAligns_2y a w q1 hm
  by_cases v3 : l = 4
  · subst v3
    cases hm : (a % 4 == 0)
    · exact spanAligns_4n a w q1 hm
    · exact spanAligns_4y a w q1 hm
  by_cases v4 : l = 8
  · subst v4
    cases hm : (a % 8 == 0)
    · exact spanAligns_8n a w q1 hm
    · exact spanAligns_8y a w q1 hm
  by_cases v5 : l = 16
  · subst v5
    cases hm : (a % 16 == 0)
    · exact spanAligns_16n a w q1 hm
    · exact spanAligns_16y a w q1 hm
  exact spanAligns_odd a l w q1 (by simpa using v1) (by simpa using v2) (by simpa using v3) (by simpa using v4) (by simpa using v5)
end Go.Proofs.Ytigbdndjlkmemaa
