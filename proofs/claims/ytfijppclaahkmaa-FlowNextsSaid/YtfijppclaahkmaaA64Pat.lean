/- The document's patterns: their walk. No condition. -/
import Derived.Test.YtfijppclaahkmaaA64PatT
import Derived.Test.YtfijppclaahkmaaA64Conv
namespace Go.Proofs.Ytfijppclaahkmaa
open Go.RowKit Go.Sort
set_option linter.unusedVariables false
set_option linter.unusedSimpArgs false
theorem rmemory_17 (w : World) : Calls Try.prog 39 #[.int .i64 17] w (Gives w (.string ⟨#[115, 115, 49, 49, 49, 48, 48, 49, 48, 49, 105, 105, 105, 105, 105, 105, 105, 105, 105, 105, 105, 105, 97, 97, 97, 97, 97, 100, 100, 100, 100, 100]⟩)) := by
  go_enter Try.func39, Try.ntmps39
  go_wp2
  go_ret
  exact Gives.mk rfl (by repeat (first | exact Below.refl _ _ | refine below_mo ?_ _ | refine below_al ?_ _))
theorem rmemory_18 (w : World) : Calls Try.prog 39 #[.int .i64 18] w (Gives w (.string ⟨#[115, 115, 49, 49, 49, 48, 48, 49, 48, 48, 105, 105, 105, 105, 105, 105, 105, 105, 105, 105, 105, 105, 97, 97, 97, 97, 97, 100, 100, 100, 100, 100]⟩)) := by
  go_enter Try.func39, Try.ntmps39
  go_wp2
  go_ret
  exact Gives.mk rfl (by repeat (first | exact Below.refl _ _ | refine below_mo ?_ _ | refine below_al ?_ _))
theorem rmemory_19 (w : World) : Calls Try.prog 39 #[.int .i64 19] w (Gives w (.string ⟨#[115, 115, 48, 48, 49, 48, 48, 48, 49, 49, 48, 49, 49, 49, 49, 49, 49, 49, 49, 49, 49, 49, 97, 97, 97, 97, 97, 100, 100, 100, 100, 100]⟩)) := by
  go_enter Try.func39, Try.ntmps39
  go_wp2
  go_ret
  exact Gives.mk rfl (by repeat (first | exact Below.refl _ _ | refine below_mo ?_ _ | refine below_al ?_ _))
theorem rmemory_20 (w : World) : Calls Try.prog 39 #[.int .i64 20] w (Gives w (.string ⟨#[115, 115, 48, 48, 49, 48, 48, 48, 49, 48, 48, 49, 49, 49, 49, 49, 49, 49, 49, 49, 49, 49, 97, 97, 97, 97, 97, 100, 100, 100, 100, 100]⟩)) := by
  go_enter Try.func39, Try.ntmps39
  go_wp2
  go_ret
  exact Gives.mk rfl (by repeat (first | exact Below.refl _ _ | refine below_mo ?_ _ | refine below_al ?_ _))
theorem rmemory_21 (w : World) : Calls Try.prog 39 #[.int .i64 21] w (Gives w (.string ⟨#[115, 115, 48, 48, 49, 48, 48, 48, 48, 49, 48, 49, 49, 49, 49, 49, 48, 49, 49, 49, 49, 49, 97, 97, 97, 97, 97, 100, 100, 100, 100, 100]⟩)) := by
  go_enter Try.func39, Try.ntmps39
  go_wp2
  go_ret
  exact Gives.mk rfl (by repeat (first | exact Below.refl _ _ | refine below_mo ?_ _ | refine below_al ?_ _))
theorem rmemory_22 (w : World) : Calls Try.prog 39 #[.int .i64 22] w (Gives w (.string ⟨#[115, 115, 48, 48, 49, 48, 48, 48, 48, 49, 48, 49, 49, 49, 49, 49, 49, 49, 49, 49, 49, 49, 97, 97, 97, 97, 97, 100, 100, 100, 100, 100]⟩)) := by
  go_enter Try.func39, Try.ntmps39
  go_wp2
  go_ret
  exact Gives.mk rfl (by repeat (first | exact Below.refl _ _ | refine below_mo ?_ _ | refine below_al ?_ _))
theorem rmemory_23 (w : World) : Calls Try.prog 39 #[.int .i64 23] w (Gives w (.string ⟨#[115, 115, 48, 48, 49, 48, 48, 48, 48, 48, 48, 109, 109, 109, 109, 109, 48, 49, 49, 49, 49, 49, 97, 97, 97, 97, 97, 100, 100, 100, 100, 100]⟩)) := by
  go_enter Try.func39, Try.ntmps39
  go_wp2
  go_ret
  exact Gives.mk rfl (by repeat (first | exact Below.refl _ _ | refine below_mo ?_ _ | refine below_al ?_ _))
theorem rmemory_24 (w : World) : Calls Try.prog 39 #[.int .i64 24] w (Gives w (.string ⟨#[115, 115, 48, 48, 49, 48, 48, 48, 48, 48, 48, 109, 109, 109, 109, 109, 49, 49, 49, 49, 49, 49, 97, 97, 97, 97, 97, 100, 100, 100, 100, 100]⟩)) := by
  go_enter Try.func39, Try.ntmps39
  go_wp2
  go_ret
  exact Gives.mk rfl (by repeat (first | exact Below.refl _ _ | refine below_mo ?_ _ | refine below_al ?_ _))
theorem rmemory_25 (w : World) : Calls Try.prog 39 #[.int .i64 25] w (Gives w (.string ⟨#[49, 49, 48, 48, 49, 48, 48, 48, 48, 49, 49, 49, 49, 49, 49, 49, 48, 101, 101, 101, 101, 101, 97, 97, 97, 97, 97, 100, 100, 100, 100, 100]⟩)) := by
  go_enter Try.func39, Try.ntmps39
  go_wp2
  go_ret
  exact Gives.mk rfl (by repeat (first | exact Below.refl _ _ | refine below_mo ?_ _ | refine below_al ?_ _))
theorem rmemory_26 (w : World) : Calls Try.prog 39 #[.int .i64 26] w (Gives w (.string ⟨#[49, 49, 48, 48, 49, 48, 48, 48, 48, 49, 49, 49, 49, 49, 49, 49, 49, 101, 101, 101, 101, 101, 97, 97, 97, 97, 97, 100, 100, 100, 100, 100]⟩)) := by
  go_enter Try.func39, Try.ntmps39
  go_wp2
  go_ret
  exact Gives.mk rfl (by repeat (first | exact Below.refl _ _ | refine below_mo ?_ _ | refine below_al ?_ _))
theorem rmemory_27 (w : World) : Calls Try.prog 39 #[.int .i64 27] w (Gives w (.string ⟨#[49, 49, 48, 48, 49, 48, 48, 48, 48, 48, 49, 109, 109, 109, 109, 109, 48, 101, 101, 101, 101, 101, 97, 97, 97, 97, 97, 100, 100, 100, 100, 100]⟩)) := by
  go_enter Try.func39, Try.ntmps39
  go_wp2
  go_ret
  exact Gives.mk rfl (by repeat (first | exact Below.refl _ _ | refine below_mo ?_ _ | refine below_al ?_ _))
theorem rmemory_28 (w : World) : Calls Try.prog 39 #[.int .i64 28] w (Gives w (.string ⟨#[49, 49, 48, 48, 49, 48, 48, 48, 48, 48, 49, 109, 109, 109, 109, 109, 49, 101, 101, 101, 101, 101, 97, 97, 97, 97, 97, 100, 100, 100, 100, 100]⟩)) := by
  go_enter Try.func39, Try.ntmps39
  go_wp2
  go_ret
  exact Gives.mk rfl (by repeat (first | exact Below.refl _ _ | refine below_mo ?_ _ | refine below_al ?_ _))
theorem rmemory_none (op : Int) (h : ¬ (1 ≤ op ∧ op ≤ 32)) (w : World) : Calls Try.prog 39 #[.int .i64 op] w (Gives w (.string ⟨#[]⟩)) := by
  have h17 : (op == 17) = false := by simp; omega
  have h18 : (op == 18) = false := by simp; omega
  have h19 : (op == 19) = false := by simp; omega
  have h20 : (op == 20) = false := by simp; omega
  have h21 : (op == 21) = false := by simp; omega
  have h22 : (op == 22) = false := by simp; omega
  have h23 : (op == 23) = false := by simp; omega
  have h24 : (op == 24) = false := by simp; omega
  have h25 : (op == 25) = false := by simp; omega
  have h26 : (op == 26) = false := by simp; omega
  have h27 : (op == 27) = false := by simp; omega
  have h28 : (op == 28) = false := by simp; omega
  clear h
  go_enter Try.func39, Try.ntmps39
  go_wp2
  go_ret
  exact Gives.mk rfl (by repeat (first | exact Below.refl _ _ | refine below_mo ?_ _ | refine below_al ?_ _))
theorem rpattern_1 (w : World) : Calls Try.prog 29 #[.int .i64 1] w (Gives w (.string ⟨#[49, 49, 48, 49, 48, 48, 49, 48, 49, 113, 113, 105, 105, 105, 105, 105, 105, 105, 105, 105, 105, 105, 105, 105, 105, 105, 105, 100, 100, 100, 100, 100]⟩)) := by
  go_enter Try.func29, Try.ntmps29
  go_wp2
  go_ret
  exact Gives.mk rfl (by repeat (first | exact Below.refl _ _ | refine below_mo ?_ _ | refine below_al ?_ _))
theorem rpattern_2 (w : World) : Calls Try.prog 29 #[.int .i64 2] w (Gives w (.string ⟨#[49, 49, 49, 49, 48, 48, 49, 48, 49, 113, 113, 105, 105, 105, 105, 105, 105, 105, 105, 105, 105, 105, 105, 105, 105, 105, 105, 100, 100, 100, 100, 100]⟩)) := by
  go_enter Try.func29, Try.ntmps29
  go_wp2
  go_ret
  exact Gives.mk rfl (by repeat (first | exact Below.refl _ _ | refine below_mo ?_ _ | refine below_al ?_ _))
theorem rpattern_3 (w : World) : Calls Try.prog 29 #[.int .i64 3] w (Gives w (.string ⟨#[49, 48, 48, 48, 49, 48, 49, 49, 48, 48, 48, 109, 109, 109, 109, 109, 48, 48, 48, 48, 48, 48, 110, 110, 110, 110, 110, 100, 100, 100, 100, 100]⟩)) := by
  go_enter Try.func29, Try.ntmps29
  go_wp2
  go_ret
  exact Gives.mk rfl (by repeat (first | exact Below.refl _ _ | refine below_mo ?_ _ | refine below_al ?_ _))
theorem rpattern_4 (w : World) : Calls Try.prog 29 #[.int .i64 4] w (Gives w (.string ⟨#[49, 49, 48, 48, 49, 48, 49, 49, 48, 48, 48, 109, 109, 109, 109, 109, 48, 48, 48, 48, 48, 48, 110, 110, 110, 110, 110, 100, 100, 100, 100, 100]⟩)) := by
  go_enter Try.func29, Try.ntmps29
  go_wp2
  go_ret
  exact Gives.mk rfl (by repeat (first | exact Below.refl _ _ | refine below_mo ?_ _ | refine below_al ?_ _))
theorem rpattern_5 (w : World) : Calls Try.prog 29 #[.int .i64 5] w (Gives w (.string ⟨#[49, 49, 49, 48, 49, 48, 49, 49, 48, 48, 48, 109, 109, 109, 109, 109, 48, 48, 48, 48, 48, 48, 110, 110, 110, 110, 110, 100, 100, 100, 100, 100]⟩)) := by
  go_enter Try.func29, Try.ntmps29
  go_wp2
  go_ret
  exact Gives.mk rfl (by repeat (first | exact Below.refl _ _ | refine below_mo ?_ _ | refine below_al ?_ _))
theorem rpattern_6 (w : World) : Calls Try.prog 29 #[.int .i64 6] w (Gives w (.string ⟨#[49, 48, 48, 48, 49, 48, 49, 48, 48, 48, 48, 109, 109, 109, 109, 109, 48, 48, 48, 48, 48, 48, 110, 110, 110, 110, 110, 100, 100, 100, 100, 100]⟩)) := by
  go_enter Try.func29, Try.ntmps29
  go_wp2
  go_ret
  exact Gives.mk rfl (by repeat (first | exact Below.refl _ _ | refine below_mo ?_ _ | refine below_al ?_ _))
theorem rpattern_7 (w : World) : Calls Try.prog 29 #[.int .i64 7] w (Gives w (.string ⟨#[49, 48, 49, 48, 49, 48, 49, 48, 48, 48, 48, 109, 109, 109, 109, 109, 48, 48, 48, 48, 48, 48, 110, 110, 110, 110, 110, 100, 100, 100, 100, 100]⟩)) := by
  go_enter Try.func29, Try.ntmps29
  go_wp2
  go_ret
  exact Gives.mk rfl (by repeat (first | exact Below.refl _ _ | refine below_mo ?_ _ | refine below_al ?_ _))
theorem rpattern_8 (w : World) : Calls Try.prog 29 #[.int .i64 8] w (Gives w (.string ⟨#[49, 49, 48, 48, 49, 48, 49, 48, 48, 48, 48, 109, 109, 109, 109, 109, 48, 48, 48, 48, 48, 48, 110, 110, 110, 110, 110, 100, 100, 100, 100, 100]⟩)) := by
  go_enter Try.func29, Try.ntmps29
  go_wp2
  go_ret
  exact Gives.mk rfl (by repeat (first | exact Below.refl _ _ | refine below_mo ?_ _ | refine below_al ?_ _))
theorem rpattern_9 (w : World) : Calls Try.prog 29 #[.int .i64 9] w (Gives w (.string ⟨#[49, 48, 48, 49, 49, 48, 49, 49, 48, 48, 48, 109, 109, 109, 109, 109, 48, 49, 49, 49, 49, 49, 110, 110, 110, 110, 110, 100, 100, 100, 100, 100]⟩)) := by
  go_enter Try.func29, Try.ntmps29
  go_wp2
  go_ret
  exact Gives.mk rfl (by repeat (first | exact Below.refl _ _ | refine below_mo ?_ _ | refine below_al ?_ _))
theorem rpattern_10 (w : World) : Calls Try.prog 29 #[.int .i64 10] w (Gives w (.string ⟨#[49, 48, 48, 49, 49, 48, 49, 48, 49, 49, 48, 109, 109, 109, 109, 109, 48, 48, 49, 48, 48, 48, 110, 110, 110, 110, 110, 100, 100, 100, 100, 100]⟩)) := by
  go_enter Try.func29, Try.ntmps29
  go_wp2
  go_ret
  exact Gives.mk rfl (by repeat (first | exact Below.refl _ _ | refine below_mo ?_ _ | refine below_al ?_ _))
theorem rpattern_11 (w : World) : Calls Try.prog 29 #[.int .i64 11] w (Gives w (.string ⟨#[49, 48, 48, 49, 49, 48, 49, 48, 49, 49, 48, 109, 109, 109, 109, 109, 48, 48, 49, 48, 48, 49, 110, 110, 110, 110, 110, 100, 100, 100, 100, 100]⟩)) := by
  go_enter Try.func29, Try.ntmps29
  go_wp2
  go_ret
  exact Gives.mk rfl (by repeat (first | exact Below.refl _ _ | refine below_mo ?_ _ | refine below_al ?_ _))
theorem rpattern_12 (w : World) : Calls Try.prog 29 #[.int .i64 12] w (Gives w (.string ⟨#[49, 48, 48, 49, 49, 48, 49, 48, 49, 48, 48, 49, 49, 49, 49, 49, 48, 48, 107, 107, 48, 49, 49, 49, 49, 49, 49, 100, 100, 100, 100, 100]⟩)) := by
  go_enter Try.func29, Try.ntmps29
  go_wp2
  go_ret
  exact Gives.mk rfl (by repeat (first | exact Below.refl _ _ | refine below_mo ?_ _ | refine below_al ?_ _))
theorem rpattern_13 (w : World) : Calls Try.prog 29 #[.int .i64 13] w (Gives w (.string ⟨#[48, 48, 48, 49, 48, 49, 105, 105, 105, 105, 105, 105, 105, 105, 105, 105, 105, 105, 105, 105, 105, 105, 105, 105, 105, 105, 105, 105, 105, 105, 105, 105]⟩)) := by
  go_enter Try.func29, Try.ntmps29
  go_wp2
  go_ret
  exact Gives.mk rfl (by repeat (first | exact Below.refl _ _ | refine below_mo ?_ _ | refine below_al ?_ _))
theorem rpattern_14 (w : World) : Calls Try.prog 29 #[.int .i64 14] w (Gives w (.string ⟨#[48, 49, 48, 49, 48, 49, 48, 48, 105, 105, 105, 105, 105, 105, 105, 105, 105, 105, 105, 105, 105, 105, 105, 105, 105, 105, 105, 48, 48, 48, 113, 113]⟩)) := by
  go_enter Try.func29, Try.ntmps29
  go_wp2
  go_ret
  exact Gives.mk rfl (by repeat (first | exact Below.refl _ _ | refine below_mo ?_ _ | refine below_al ?_ _))
theorem rpattern_15 (w : World) : Calls Try.prog 29 #[.int .i64 15] w (Gives w (.string ⟨#[49, 48, 49, 49, 48, 49, 48, 48, 105, 105, 105, 105, 105, 105, 105, 105, 105, 105, 105, 105, 105, 105, 105, 105, 105, 105, 105, 100, 100, 100, 100, 100]⟩)) := by
  go_enter Try.func29, Try.ntmps29
  go_wp2
  go_ret
  exact Gives.mk rfl (by repeat (first | exact Below.refl _ _ | refine below_mo ?_ _ | refine below_al ?_ _))
theorem rpattern_16 (w : World) : Calls Try.prog 29 #[.int .i64 16] w (Gives w (.string ⟨#[49, 48, 49, 49, 48, 49, 48, 49, 105, 105, 105, 105, 105, 105, 105, 105, 105, 105, 105, 105, 105, 105, 105, 105, 105, 105, 105, 100, 100, 100, 100, 100]⟩)) := by
  go_enter Try.func29, Try.ntmps29
  go_wp2
  go_ret
  exact Gives.mk rfl (by repeat (first | exact Below.refl _ _ | refine below_mo ?_ _ | refine below_al ?_ _))
theorem rpattern_29 (w : World) : Calls Try.prog 29 #[.int .i64 29] w (Gives w (.string ⟨#[49, 49, 48, 49, 48, 49, 48, 49, 48, 48, 48, 48, 48, 48, 49, 49, 48, 48, 49, 49, 98, 98, 98, 98, 49, 48, 49, 49, 49, 49, 49, 49]⟩)) := by
  go_enter Try.func29, Try.ntmps29
  go_wp2
  go_ret
  exact Gives.mk rfl (by repeat (first | exact Below.refl _ _ | refine below_mo ?_ _ | refine below_al ?_ _))
theorem rpattern_30 (w : World) : Calls Try.prog 29 #[.int .i64 30] w (Gives w (.string ⟨#[49, 49, 48, 49, 48, 49, 48, 49, 48, 48, 48, 48, 48, 48, 49, 49, 48, 48, 49, 49, 49, 49, 49, 49, 48, 49, 48, 49, 49, 49, 49, 49]⟩)) := by
  go_enter Try.func29, Try.ntmps29
  go_wp2
  go_ret
  exact Gives.mk rfl (by repeat (first | exact Below.refl _ _ | refine below_mo ?_ _ | refine below_al ?_ _))
theorem rpattern_31 (w : World) : Calls Try.prog 29 #[.int .i64 31] w (Gives w (.string ⟨#[49, 49, 48, 49, 48, 49, 48, 48, 48, 48, 48, 105, 105, 105, 105, 105, 105, 105, 105, 105, 105, 105, 105, 105, 105, 105, 105, 48, 48, 48, 48, 49]⟩)) := by
  go_enter Try.func29, Try.ntmps29
  go_wp2
  go_ret
  exact Gives.mk rfl (by repeat (first | exact Below.refl _ _ | refine below_mo ?_ _ | refine below_al ?_ _))
theorem rpattern_32 (w : World) : Calls Try.prog 29 #[.int .i64 32] w (Gives w (.string ⟨#[49, 49, 48, 49, 48, 49, 48, 48, 48, 48, 49, 105, 105, 105, 105, 105, 105, 105, 105, 105, 105, 105, 105, 105, 105, 105, 105, 48, 48, 48, 48, 48]⟩)) := by
  go_enter Try.func29, Try.ntmps29
  go_wp2
  go_ret
  exact Gives.mk rfl (by repeat (first | exact Below.refl _ _ | refine below_mo ?_ _ | refine below_al ?_ _))
theorem rpattern_17 (w : World) : Calls Try.prog 29 #[.int .i64 17] w (Gives w (.string ⟨#[115, 115, 49, 49, 49, 48, 48, 49, 48, 49, 105, 105, 105, 105, 105, 105, 105, 105, 105, 105, 105, 105, 97, 97, 97, 97, 97, 100, 100, 100, 100, 100]⟩)) := by
  go_enter Try.func29, Try.ntmps29
  go_wp2_with (first | (go_at_call 39; refine (rmemory_17 _).mono ?_; rintro e w1 ⟨rfl, p1, rfl⟩))
  go_ret
  exact Gives.mk rfl (by repeat (first | exact Below.refl _ _ | refine below_mo ?_ _ | refine below_al ?_ _))
theorem rpattern_18 (w : World) : Calls Try.prog 29 #[.int .i64 18] w (Gives w (.string ⟨#[115, 115, 49, 49, 49, 48, 48, 49, 48, 48, 105, 105, 105, 105, 105, 105, 105, 105, 105, 105, 105, 105, 97, 97, 97, 97, 97, 100, 100, 100, 100, 100]⟩)) := by
  go_enter Try.func29, Try.ntmps29
  go_wp2_with (first | (go_at_call 39; refine (rmemory_18 _).mono ?_; rintro e w1 ⟨rfl, p1, rfl⟩))
  go_ret
  exact Gives.mk rfl (by repeat (first | exact Below.refl _ _ | refine below_mo ?_ _ | refine below_al ?_ _))
theorem rpattern_19 (w : World) : Calls Try.prog 29 #[.int .i64 19] w (Gives w (.string ⟨#[115, 115, 48, 48, 49, 48, 48, 48, 49, 49, 48, 49, 49, 49, 49, 49, 49, 49, 49, 49, 49, 49, 97, 97, 97, 97, 97, 100, 100, 100, 100, 100]⟩)) := by
  go_enter Try.func29, Try.ntmps29
  go_wp2_with (first | (go_at_call 39; refine (rmemory_19 _).mono ?_; rintro e w1 ⟨rfl, p1, rfl⟩))
  go_ret
  exact Gives.mk rfl (by repeat (first | exact Below.refl _ _ | refine below_mo ?_ _ | refine below_al ?_ _))
theorem rpattern_20 (w : World) : Calls Try.prog 29 #[.int .i64 20] w (Gives w (.string ⟨#[115, 115, 48, 48, 49, 48, 48, 48, 49, 48, 48, 49, 49, 49, 49, 49, 49, 49, 49, 49, 49, 49, 97, 97, 97, 97, 97, 100, 100, 100, 100, 100]⟩)) := by
  go_enter Try.func29, Try.ntmps29
  go_wp2_with (first | (go_at_call 39; refine (rmemory_20 _).mono ?_; rintro e w1 ⟨rfl, p1, rfl⟩))
  go_ret
  exact Gives.mk rfl (by repeat (first | exact Below.refl _ _ | refine below_mo ?_ _ | refine below_al ?_ _))
theorem rpattern_21 (w : World) : Calls Try.prog 29 #[.int .i64 21] w (Gives w (.string ⟨#[115, 115, 48, 48, 49, 48, 48, 48, 48, 49, 48, 49, 49, 49, 49, 49, 48, 49, 49, 49, 49, 49, 97, 97, 97, 97, 97, 100, 100, 100, 100, 100]⟩)) := by
  go_enter Try.func29, Try.ntmps29
  go_wp2_with (first | (go_at_call 39; refine (rmemory_21 _).mono ?_; rintro e w1 ⟨rfl, p1, rfl⟩))
  go_ret
  exact Gives.mk rfl (by repeat (first | exact Below.refl _ _ | refine below_mo ?_ _ | refine below_al ?_ _))
theorem rpattern_22 (w : World) : Calls Try.prog 29 #[.int .i64 22] w (Gives w (.string ⟨#[115, 115, 48, 48, 49, 48, 48, 48, 48, 49, 48, 49, 49, 49, 49, 49, 49, 49, 49, 49, 49, 49, 97, 97, 97, 97, 97, 100, 100, 100, 100, 100]⟩)) := by
  go_enter Try.func29, Try.ntmps29
  go_wp2_with (first | (go_at_call 39; refine (rmemory_22 _).mono ?_; rintro e w1 ⟨rfl, p1, rfl⟩))
  go_ret
  exact Gives.mk rfl (by repeat (first | exact Below.refl _ _ | refine below_mo ?_ _ | refine below_al ?_ _))
theorem rpattern_23 (w : World) : Calls Try.prog 29 #[.int .i64 23] w (Gives w (.string ⟨#[115, 115, 48, 48, 49, 48, 48, 48, 48, 48, 48, 109, 109, 109, 109, 109, 48, 49, 49, 49, 49, 49, 97, 97, 97, 97, 97, 100, 100, 100, 100, 100]⟩)) := by
  go_enter Try.func29, Try.ntmps29
  go_wp2_with (first | (go_at_call 39; refine (rmemory_23 _).mono ?_; rintro e w1 ⟨rfl, p1, rfl⟩))
  go_ret
  exact Gives.mk rfl (by repeat (first | exact Below.refl _ _ | refine below_mo ?_ _ | refine below_al ?_ _))
theorem rpattern_24 (w : World) : Calls Try.prog 29 #[.int .i64 24] w (Gives w (.string ⟨#[115, 115, 48, 48, 49, 48, 48, 48, 48, 48, 48, 109, 109, 109, 109, 109, 49, 49, 49, 49, 49, 49, 97, 97, 97, 97, 97, 100, 100, 100, 100, 100]⟩)) := by
  go_enter Try.func29, Try.ntmps29
  go_wp2_with (first | (go_at_call 39; refine (rmemory_24 _).mono ?_; rintro e w1 ⟨rfl, p1, rfl⟩))
  go_ret
  exact Gives.mk rfl (by repeat (first | exact Below.refl _ _ | refine below_mo ?_ _ | refine below_al ?_ _))
theorem rpattern_25 (w : World) : Calls Try.prog 29 #[.int .i64 25] w (Gives w (.string ⟨#[49, 49, 48, 48, 49, 48, 48, 48, 48, 49, 49, 49, 49, 49, 49, 49, 48, 101, 101, 101, 101, 101, 97, 97, 97, 97, 97, 100, 100, 100, 100, 100]⟩)) := by
  go_enter Try.func29, Try.ntmps29
  go_wp2_with (first | (go_at_call 39; refine (rmemory_25 _).mono ?_; rintro e w1 ⟨rfl, p1, rfl⟩))
  go_ret
  exact Gives.mk rfl (by repeat (first | exact Below.refl _ _ | refine below_mo ?_ _ | refine below_al ?_ _))
theorem rpattern_26 (w : World) : Calls Try.prog 29 #[.int .i64 26] w (Gives w (.string ⟨#[49, 49, 48, 48, 49, 48, 48, 48, 48, 49, 49, 49, 49, 49, 49, 49, 49, 101, 101, 101, 101, 101, 97, 97, 97, 97, 97, 100, 100, 100, 100, 100]⟩)) := by
  go_enter Try.func29, Try.ntmps29
  go_wp2_with (first | (go_at_call 39; refine (rmemory_26 _).mono ?_; rintro e w1 ⟨rfl, p1, rfl⟩))
  go_ret
  exact Gives.mk rfl (by repeat (first | exact Below.refl _ _ | refine below_mo ?_ _ | refine below_al ?_ _))
theorem rpattern_27 (w : World) : Calls Try.prog 29 #[.int .i64 27] w (Gives w (.string ⟨#[49, 49, 48, 48, 49, 48, 48, 48, 48, 48, 49, 109, 109, 109, 109, 109, 48, 101, 101, 101, 101, 101, 97, 97, 97, 97, 97, 100, 100, 100, 100, 100]⟩)) := by
  go_enter Try.func29, Try.ntmps29
  go_wp2_with (first | (go_at_call 39; refine (rmemory_27 _).mono ?_; rintro e w1 ⟨rfl, p1, rfl⟩))
  go_ret
  exact Gives.mk rfl (by repeat (first | exact Below.refl _ _ | refine below_mo ?_ _ | refine below_al ?_ _))
theorem rpattern_28 (w : World) : Calls Try.prog 29 #[.int .i64 28] w (Gives w (.string ⟨#[49, 49, 48, 48, 49, 48, 48, 48, 48, 48, 49, 109, 109, 109, 109, 109, 49, 101, 101, 101, 101, 101, 97, 97, 97, 97, 97, 100, 100, 100, 100, 100]⟩)) := by
  go_enter Try.func29, Try.ntmps29
  go_wp2_with (first | (go_at_call 39; refine (rmemory_28 _).mono ?_; rintro e w1 ⟨rfl, p1, rfl⟩))
  go_ret
  exact Gives.mk rfl (by repeat (first | exact Below.refl _ _ | refine below_mo ?_ _ | refine below_al ?_ _))
theorem rpattern_none (op : Int) (h : ¬ (1 ≤ op ∧ op ≤ 32)) (w : World) : Calls Try.prog 29 #[.int .i64 op] w (Gives w (.string ⟨#[]⟩)) := by
  have h1 : (op == 1) = false := by simp; omega
  have h2 : (op == 2) = false := by simp; omega
  have h3 : (op == 3) = false := by simp; omega
  have h4 : (op == 4) = false := by simp; omega
  have h5 : (op == 5) = false := by simp; omega
  have h6 : (op == 6) = false := by simp; omega
  have h7 : (op == 7) = false := by simp; omega
  have h8 : (op == 8) = false := by simp; omega
  have h9 : (op == 9) = false := by simp; omega
  have h10 : (op == 10) = false := by simp; omega
  have h11 : (op == 11) = false := by simp; omega
  have h12 : (op == 12) = false := by simp; omega
  have h13 : (op == 13) = false := by simp; omega
  have h14 : (op == 14) = false := by simp; omega
  have h15 : (op == 15) = false := by simp; omega
  have h16 : (op == 16) = false := by simp; omega
  have h29 : (op == 29) = false := by simp; omega
  have h30 : (op == 30) = false := by simp; omega
  have h31 : (op == 31) = false := by simp; omega
  have h32 : (op == 32) = false := by simp; omega
  have H := Lib.hid h
  clear h
  go_enter Try.func29, Try.ntmps29
  go_wp2_with (first | (go_at_call 39; refine (rmemory_none op H.out _).mono ?_; rintro e w1 ⟨rfl, p1, rfl⟩))
  go_ret
  exact Gives.mk rfl (by repeat (first | exact Below.refl _ _ | refine below_mo ?_ _ | refine below_al ?_ _))
theorem rpattern_any (op : Int) (w : World) : Calls Try.prog 29 #[.int .i64 op] w (Gives w (.string (strB (patI op)))) := by
  by_cases h : 1 ≤ op ∧ op ≤ 32
  · obtain ⟨k, rfl⟩ : ∃ k : Nat, op = k := ⟨op.toNat, by omega⟩
    have hk : k ≤ 32 := by omega
    have hk0 : 1 ≤ k := by omega
    match k, hk, hk0 with
    | 1, _, _ => exact rpattern_1 w
    | 2, _, _ => exact rpattern_2 w
    | 3, _, _ => exact rpattern_3 w
    | 4, _, _ => exact rpattern_4 w
    | 5, _, _ => exact rpattern_5 w
    | 6, _, _ => exact rpattern_6 w
    | 7, _, _ => exact rpattern_7 w
    | 8, _, _ => exact rpattern_8 w
    | 9, _, _ => exact rpattern_9 w
    | 10, _, _ => exact rpattern_10 w
    | 11, _, _ => exact rpattern_11 w
    | 12, _, _ => exact rpattern_12 w
    | 13, _, _ => exact rpattern_13 w
    | 14, _, _ => exact rpattern_14 w
    | 15, _, _ => exact rpattern_15 w
    | 16, _, _ => exact rpattern_16 w
    | 17, _, _ => exact rpattern_17 w
    | 18, _, _ => exact rpattern_18 w
    | 19, _, _ => exact rpattern_19 w
    | 20, _, _ => exact rpattern_20 w
    | 21, _, _ => exact rpattern_21 w
    | 22, _, _ => exact rpattern_22 w
    | 23, _, _ => exact rpattern_23 w
    | 24, _, _ => exact rpattern_24 w
    | 25, _, _ => exact rpattern_25 w
    | 26, _, _ => exact rpattern_26 w
    | 27, _, _ => exact rpattern_27 w
    | 28, _, _ => exact rpattern_28 w
    | 29, _, _ => exact rpattern_29 w
    | 30, _, _ => exact rpattern_30 w
    | 31, _, _ => exact rpattern_31 w
    | 32, _, _ => exact rpattern_32 w
  · have e : patI op = [] := by
      unfold patI
      split
      · rcases Nat.eq_zero_or_pos op.toNat with e | e
        · rw [e]; rfl
        · rw [patN_out _ (by omega)]
      · rfl
    rw [e]
    exact rpattern_none op h w
end Go.Proofs.Ytfijppclaahkmaa
