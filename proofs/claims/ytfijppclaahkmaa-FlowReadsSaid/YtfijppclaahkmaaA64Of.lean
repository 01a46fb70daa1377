/- Walks: an operation's shape. No condition. -/
import Derived.Test.YtfijppclaahkmaaA64Ops
import Derived.Test.YtfijppclaahkmaaMore
import Derived.Test.YtfijppclaahkmaaProg
import Derived.Handy
namespace Go.Proofs.Ytfijppclaahkmaa
open Go.RowKit Go.Sort
set_option linter.unusedVariables false
set_option linter.unusedSimpArgs false

def strB (l : List Nat) : ByteArray := ⟨(l.map UInt8.ofNat).toArray⟩
theorem memory_17 (w : World) : Calls Try.prog 51 #[.int .i64 17] w (Gives w (.agg #[.int .u32 960495616, .string ⟨#[100, 97, 111, 115]⟩])) := by
  go_enter Try.func51, Try.ntmps51
  go_wp2
  go_returns
  exact Gives.mk rfl (by repeat (first | exact Below.refl _ _ | refine below_mo ?_ _ | refine below_al ?_ _))
theorem memory_18 (w : World) : Calls Try.prog 51 #[.int .i64 18] w (Gives w (.agg #[.int .u32 956301312, .string ⟨#[100, 97, 111, 115]⟩])) := by
  go_enter Try.func51, Try.ntmps51
  go_wp2
  go_returns
  exact Gives.mk rfl (by repeat (first | exact Below.refl _ _ | refine below_mo ?_ _ | refine below_al ?_ _))
theorem memory_19 (w : World) : Calls Try.prog 51 #[.int .i64 19] w (Gives w (.agg #[.int .u32 148896768, .string ⟨#[100, 97, 115]⟩])) := by
  go_enter Try.func51, Try.ntmps51
  go_wp2
  go_returns
  exact Gives.mk rfl (by repeat (first | exact Below.refl _ _ | refine below_mo ?_ _ | refine below_al ?_ _))
theorem memory_20 (w : World) : Calls Try.prog 51 #[.int .i64 20] w (Gives w (.agg #[.int .u32 144702464, .string ⟨#[100, 97, 115]⟩])) := by
  go_enter Try.func51, Try.ntmps51
  go_wp2
  go_returns
  exact Gives.mk rfl (by repeat (first | exact Below.refl _ _ | refine below_mo ?_ _ | refine below_al ?_ _))
theorem memory_21 (w : World) : Calls Try.prog 51 #[.int .i64 21] w (Gives w (.agg #[.int .u32 140475392, .string ⟨#[100, 97, 115]⟩])) := by
  go_enter Try.func51, Try.ntmps51
  go_wp2
  go_returns
  exact Gives.mk rfl (by repeat (first | exact Below.refl _ _ | refine below_mo ?_ _ | refine below_al ?_ _))
theorem memory_22 (w : World) : Calls Try.prog 51 #[.int .i64 22] w (Gives w (.agg #[.int .u32 140508160, .string ⟨#[100, 97, 115]⟩])) := by
  go_enter Try.func51, Try.ntmps51
  go_wp2
  go_returns
  exact Gives.mk rfl (by repeat (first | exact Below.refl _ _ | refine below_mo ?_ _ | refine below_al ?_ _))
theorem memory_23 (w : World) : Calls Try.prog 51 #[.int .i64 23] w (Gives w (.agg #[.int .u32 134249472, .string ⟨#[100, 97, 115, 109]⟩])) := by
  go_enter Try.func51, Try.ntmps51
  go_wp2
  go_returns
  exact Gives.mk rfl (by repeat (first | exact Below.refl _ _ | refine below_mo ?_ _ | refine below_al ?_ _))
theorem memory_24 (w : World) : Calls Try.prog 51 #[.int .i64 24] w (Gives w (.agg #[.int .u32 134282240, .string ⟨#[100, 97, 115, 109]⟩])) := by
  go_enter Try.func51, Try.ntmps51
  go_wp2
  go_returns
  exact Gives.mk rfl (by repeat (first | exact Below.refl _ _ | refine below_mo ?_ _ | refine below_al ?_ _))
theorem memory_25 (w : World) : Calls Try.prog 51 #[.int .i64 25] w (Gives w (.agg #[.int .u32 3363766272, .string ⟨#[100, 97, 101]⟩])) := by
  go_enter Try.func51, Try.ntmps51
  go_wp2
  go_returns
  exact Gives.mk rfl (by repeat (first | exact Below.refl _ _ | refine below_mo ?_ _ | refine below_al ?_ _))
theorem memory_26 (w : World) : Calls Try.prog 51 #[.int .i64 26] w (Gives w (.agg #[.int .u32 3363799040, .string ⟨#[100, 97, 101]⟩])) := by
  go_enter Try.func51, Try.ntmps51
  go_wp2
  go_returns
  exact Gives.mk rfl (by repeat (first | exact Below.refl _ _ | refine below_mo ?_ _ | refine below_al ?_ _))
theorem memory_27 (w : World) : Calls Try.prog 51 #[.int .i64 27] w (Gives w (.agg #[.int .u32 3357540352, .string ⟨#[100, 97, 101, 109]⟩])) := by
  go_enter Try.func51, Try.ntmps51
  go_wp2
  go_returns
  exact Gives.mk rfl (by repeat (first | exact Below.refl _ _ | refine below_mo ?_ _ | refine below_al ?_ _))
theorem memory_28 (w : World) : Calls Try.prog 51 #[.int .i64 28] w (Gives w (.agg #[.int .u32 3357573120, .string ⟨#[100, 97, 101, 109]⟩])) := by
  go_enter Try.func51, Try.ntmps51
  go_wp2
  go_returns
  exact Gives.mk rfl (by repeat (first | exact Below.refl _ _ | refine below_mo ?_ _ | refine below_al ?_ _))
theorem memory_none (op : Int) (h : ¬ (1 ≤ op ∧ op ≤ 32)) (w : World) : Calls Try.prog 51 #[.int .i64 op] w (Gives w (.agg #[.int .u32 0, .string ⟨#[]⟩])) := by
  have h17 : (op == 17) = false := by simp; omega
  have h18 : (op == 18) = false := by simp; omega
  have h19 : (op == 19) = false := by simp; omega
  have h20 : (op == 20) = false := by simp; omega
  have h21 : (op == 21) = false := by simp; omega
  have h22 : (op == 22) = false := by simp; omega
  have h23 : (op == 23) = false := by simp; omega
  have h24 : (op == 24) = false := by simp; omega
  have h25 : (op == 25) = false := by simp; omega
  have h26 : (op == 26) = false := by simp; omega
  have h27 : (op == 27) = false := by simp; omega
  have h28 : (op == 28) = false := by simp; omega
  clear h
  go_enter Try.func51, Try.ntmps51
  go_wp2
  go_returns
  exact Gives.mk rfl (by repeat (first | exact Below.refl _ _ | refine below_mo ?_ _ | refine below_al ?_ _))
theorem jump_13 (w : World) : Calls Try.prog 49 #[.int .i64 13] w (Gives w (.agg #[.int .u32 335544320, .string ⟨#[98]⟩])) := by
  go_enter Try.func49, Try.ntmps49
  go_wp2
  go_returns
  exact Gives.mk rfl (by repeat (first | exact Below.refl _ _ | refine below_mo ?_ _ | refine below_al ?_ _))
theorem jump_14 (w : World) : Calls Try.prog 49 #[.int .i64 14] w (Gives w (.agg #[.int .u32 1409286144, .string ⟨#[120, 99]⟩])) := by
  go_enter Try.func49, Try.ntmps49
  go_wp2
  go_returns
  exact Gives.mk rfl (by repeat (first | exact Below.refl _ _ | refine below_mo ?_ _ | refine below_al ?_ _))
theorem jump_15 (w : World) : Calls Try.prog 49 #[.int .i64 15] w (Gives w (.agg #[.int .u32 3019898880, .string ⟨#[100, 120]⟩])) := by
  go_enter Try.func49, Try.ntmps49
  go_wp2
  go_returns
  exact Gives.mk rfl (by repeat (first | exact Below.refl _ _ | refine below_mo ?_ _ | refine below_al ?_ _))
theorem jump_16 (w : World) : Calls Try.prog 49 #[.int .i64 16] w (Gives w (.agg #[.int .u32 3036676096, .string ⟨#[100, 120]⟩])) := by
  go_enter Try.func49, Try.ntmps49
  go_wp2
  go_returns
  exact Gives.mk rfl (by repeat (first | exact Below.refl _ _ | refine below_mo ?_ _ | refine below_al ?_ _))
theorem jump_29 (w : World) : Calls Try.prog 49 #[.int .i64 29] w (Gives w (.agg #[.int .u32 3573756095, .string ⟨#[102]⟩])) := by
  go_enter Try.func49, Try.ntmps49
  go_wp2
  go_returns
  exact Gives.mk rfl (by repeat (first | exact Below.refl _ _ | refine below_mo ?_ _ | refine below_al ?_ _))
theorem jump_30 (w : World) : Calls Try.prog 49 #[.int .i64 30] w (Gives w (.agg #[.int .u32 3573759839, .string ⟨#[122]⟩])) := by
  go_enter Try.func49, Try.ntmps49
  go_wp2
  go_returns
  exact Gives.mk rfl (by repeat (first | exact Below.refl _ _ | refine below_mo ?_ _ | refine below_al ?_ _))
theorem jump_31 (w : World) : Calls Try.prog 49 #[.int .i64 31] w (Gives w (.agg #[.int .u32 3556769793, .string ⟨#[105]⟩])) := by
  go_enter Try.func49, Try.ntmps49
  go_wp2
  go_returns
  exact Gives.mk rfl (by repeat (first | exact Below.refl _ _ | refine below_mo ?_ _ | refine below_al ?_ _))
theorem jump_32 (w : World) : Calls Try.prog 49 #[.int .i64 32] w (Gives w (.agg #[.int .u32 3558866944, .string ⟨#[105]⟩])) := by
  go_enter Try.func49, Try.ntmps49
  go_wp2
  go_returns
  exact Gives.mk rfl (by repeat (first | exact Below.refl _ _ | refine below_mo ?_ _ | refine below_al ?_ _))
theorem jump_17 (w : World) : Calls Try.prog 49 #[.int .i64 17] w (Gives w (.agg #[.int .u32 960495616, .string ⟨#[100, 97, 111, 115]⟩])) := by
  go_enter Try.func49, Try.ntmps49
  go_wp2_with (first | (go_at_call 51; refine (memory_17 _).mono ?_; rintro e w1 ⟨rfl, p1, rfl⟩))
  go_returns
  exact Gives.mk rfl (by repeat (first | exact Below.refl _ _ | refine below_mo ?_ _ | refine below_al ?_ _))
theorem jump_18 (w : World) : Calls Try.prog 49 #[.int .i64 18] w (Gives w (.agg #[.int .u32 956301312, .string ⟨#[100, 97, 111, 115]⟩])) := by
  go_enter Try.func49, Try.ntmps49
  go_wp2_with (first | (go_at_call 51; refine (memory_18 _).mono ?_; rintro e w1 ⟨rfl, p1, rfl⟩))
  go_returns
  exact Gives.mk rfl (by repeat (first | exact Below.refl _ _ | refine below_mo ?_ _ | refine below_al ?_ _))
theorem jump_19 (w : World) : Calls Try.prog 49 #[.int .i64 19] w (Gives w (.agg #[.int .u32 148896768, .string ⟨#[100, 97, 115]⟩])) := by
  go_enter Try.func49, Try.ntmps49
  go_wp2_with (first | (go_at_call 51; refine (memory_19 _).mono ?_; rintro e w1 ⟨rfl, p1, rfl⟩))
  go_returns
  exact Gives.mk rfl (by repeat (first | exact Below.refl _ _ | refine below_mo ?_ _ | refine below_al ?_ _))
theorem jump_20 (w : World) : Calls Try.prog 49 #[.int .i64 20] w (Gives w (.agg #[.int .u32 144702464, .string ⟨#[100, 97, 115]⟩])) := by
  go_enter Try.func49, Try.ntmps49
  go_wp2_with (first | (go_at_call 51; refine (memory_20 _).mono ?_; rintro e w1 ⟨rfl, p1, rfl⟩))
  go_returns
  exact Gives.mk rfl (by repeat (first | exact Below.refl _ _ | refine below_mo ?_ _ | refine below_al ?_ _))
theorem jump_21 (w : World) : Calls Try.prog 49 #[.int .i64 21] w (Gives w (.agg #[.int .u32 140475392, .string ⟨#[100, 97, 115]⟩])) := by
  go_enter Try.func49, Try.ntmps49
  go_wp2_with (first | (go_at_call 51; refine (memory_21 _).mono ?_; rintro e w1 ⟨rfl, p1, rfl⟩))
  go_returns
  exact Gives.mk rfl (by repeat (first | exact Below.refl _ _ | refine below_mo ?_ _ | refine below_al ?_ _))
theorem jump_22 (w : World) : Calls Try.prog 49 #[.int .i64 22] w (Gives w (.agg #[.int .u32 140508160, .string ⟨#[100, 97, 115]⟩])) := by
  go_enter Try.func49, Try.ntmps49
  go_wp2_with (first | (go_at_call 51; refine (memory_22 _).mono ?_; rintro e w1 ⟨rfl, p1, rfl⟩))
  go_returns
  exact Gives.mk rfl (by repeat (first | exact Below.refl _ _ | refine below_mo ?_ _ | refine below_al ?_ _))
theorem jump_23 (w : World) : Calls Try.prog 49 #[.int .i64 23] w (Gives w (.agg #[.int .u32 134249472, .string ⟨#[100, 97, 115, 109]⟩])) := by
  go_enter Try.func49, Try.ntmps49
  go_wp2_with (first | (go_at_call 51; refine (memory_23 _).mono ?_; rintro e w1 ⟨rfl, p1, rfl⟩))
  go_returns
  exact Gives.mk rfl (by repeat (first | exact Below.refl _ _ | refine below_mo ?_ _ | refine below_al ?_ _))
theorem jump_24 (w : World) : Calls Try.prog 49 #[.int .i64 24] w (Gives w (.agg #[.int .u32 134282240, .string ⟨#[100, 97, 115, 109]⟩])) := by
  go_enter Try.func49, Try.ntmps49
  go_wp2_with (first | (go_at_call 51; refine (memory_24 _).mono ?_; rintro e w1 ⟨rfl, p1, rfl⟩))
  go_returns
  exact Gives.mk rfl (by repeat (first | exact Below.refl _ _ | refine below_mo ?_ _ | refine below_al ?_ _))
theorem jump_25 (w : World) : Calls Try.prog 49 #[.int .i64 25] w (Gives w (.agg #[.int .u32 3363766272, .string ⟨#[100, 97, 101]⟩])) := by
  go_enter Try.func49, Try.ntmps49
  go_wp2_with (first | (go_at_call 51; refine (memory_25 _).mono ?_; rintro e w1 ⟨rfl, p1, rfl⟩))
  go_returns
  exact Gives.mk rfl (by repeat (first | exact Below.refl _ _ | refine below_mo ?_ _ | refine below_al ?_ _))
theorem jump_26 (w : World) : Calls Try.prog 49 #[.int .i64 26] w (Gives w (.agg #[.int .u32 3363799040, .string ⟨#[100, 97, 101]⟩])) := by
  go_enter Try.func49, Try.ntmps49
  go_wp2_with (first | (go_at_call 51; refine (memory_26 _).mono ?_; rintro e w1 ⟨rfl, p1, rfl⟩))
  go_returns
  exact Gives.mk rfl (by repeat (first | exact Below.refl _ _ | refine below_mo ?_ _ | refine below_al ?_ _))
theorem jump_27 (w : World) : Calls Try.prog 49 #[.int .i64 27] w (Gives w (.agg #[.int .u32 3357540352, .string ⟨#[100, 97, 101, 109]⟩])) := by
  go_enter Try.func49, Try.ntmps49
  go_wp2_with (first | (go_at_call 51; refine (memory_27 _).mono ?_; rintro e w1 ⟨rfl, p1, rfl⟩))
  go_returns
  exact Gives.mk rfl (by repeat (first | exact Below.refl _ _ | refine below_mo ?_ _ | refine below_al ?_ _))
theorem jump_28 (w : World) : Calls Try.prog 49 #[.int .i64 28] w (Gives w (.agg #[.int .u32 3357573120, .string ⟨#[100, 97, 101, 109]⟩])) := by
  go_enter Try.func49, Try.ntmps49
  go_wp2_with (first | (go_at_call 51; refine (memory_28 _).mono ?_; rintro e w1 ⟨rfl, p1, rfl⟩))
  go_returns
  exact Gives.mk rfl (by repeat (first | exact Below.refl _ _ | refine below_mo ?_ _ | refine below_al ?_ _))
theorem jump_none (op : Int) (h : ¬ (1 ≤ op ∧ op ≤ 32)) (w : World) : Calls Try.prog 49 #[.int .i64 op] w (Gives w (.agg #[.int .u32 0, .string ⟨#[]⟩])) := by
  have h13 : (op == 13) = false := by simp; omega
  have h14 : (op == 14) = false := by simp; omega
  have h15 : (op == 15) = false := by simp; omega
  have h16 : (op == 16) = false := by simp; omega
  have h29 : (op == 29) = false := by simp; omega
  have h30 : (op == 30) = false := by simp; omega
  have h31 : (op == 31) = false := by simp; omega
  have h32 : (op == 32) = false := by simp; omega
  have H := Lib.hid h
  clear h
  go_enter Try.func49, Try.ntmps49
  go_wp2_with (first | (go_at_call 51; refine (memory_none op H.out _).mono ?_; rintro e w1 ⟨rfl, p1, rfl⟩))
  go_returns
  exact Gives.mk rfl (by repeat (first | exact Below.refl _ _ | refine below_mo ?_ _ | refine below_al ?_ _))
theorem of_1 (w : World) : Calls Try.prog 42 #[.int .i64 1] w (Gives w (.agg #[.int .u32 3531603968, .string ⟨#[100, 105, 113]⟩])) := by
  go_enter Try.func42, Try.ntmps42
  go_wp2
  go_returns
  exact Gives.mk rfl (by repeat (first | exact Below.refl _ _ | refine below_mo ?_ _ | refine below_al ?_ _))
theorem of_2 (w : World) : Calls Try.prog 42 #[.int .i64 2] w (Gives w (.agg #[.int .u32 4068474880, .string ⟨#[100, 105, 113]⟩])) := by
  go_enter Try.func42, Try.ntmps42
  go_wp2
  go_returns
  exact Gives.mk rfl (by repeat (first | exact Below.refl _ _ | refine below_mo ?_ _ | refine below_al ?_ _))
theorem of_3 (w : World) : Calls Try.prog 42 #[.int .i64 3] w (Gives w (.agg #[.int .u32 2332033024, .string ⟨#[100, 110, 109]⟩])) := by
  go_enter Try.func42, Try.ntmps42
  go_wp2
  go_returns
  exact Gives.mk rfl (by repeat (first | exact Below.refl _ _ | refine below_mo ?_ _ | refine below_al ?_ _))
theorem of_4 (w : World) : Calls Try.prog 42 #[.int .i64 4] w (Gives w (.agg #[.int .u32 3405774848, .string ⟨#[100, 110, 109]⟩])) := by
  go_enter Try.func42, Try.ntmps42
  go_wp2
  go_returns
  exact Gives.mk rfl (by repeat (first | exact Below.refl _ _ | refine below_mo ?_ _ | refine below_al ?_ _))
theorem of_5 (w : World) : Calls Try.prog 42 #[.int .i64 5] w (Gives w (.agg #[.int .u32 3942645760, .string ⟨#[100, 110, 109]⟩])) := by
  go_enter Try.func42, Try.ntmps42
  go_wp2
  go_returns
  exact Gives.mk rfl (by repeat (first | exact Below.refl _ _ | refine below_mo ?_ _ | refine below_al ?_ _))
theorem of_6 (w : World) : Calls Try.prog 42 #[.int .i64 6] w (Gives w (.agg #[.int .u32 2315255808, .string ⟨#[100, 110, 109]⟩])) := by
  go_enter Try.func42, Try.ntmps42
  go_wp2
  go_returns
  exact Gives.mk rfl (by repeat (first | exact Below.refl _ _ | refine below_mo ?_ _ | refine below_al ?_ _))
theorem of_7 (w : World) : Calls Try.prog 42 #[.int .i64 7] w (Gives w (.agg #[.int .u32 2852126720, .string ⟨#[100, 110, 109]⟩])) := by
  go_enter Try.func42, Try.ntmps42
  go_wp2
  go_returns
  exact Gives.mk rfl (by repeat (first | exact Below.refl _ _ | refine below_mo ?_ _ | refine below_al ?_ _))
theorem of_8 (w : World) : Calls Try.prog 42 #[.int .i64 8] w (Gives w (.agg #[.int .u32 3388997632, .string ⟨#[100, 110, 109]⟩])) := by
  go_enter Try.func42, Try.ntmps42
  go_wp2
  go_returns
  exact Gives.mk rfl (by repeat (first | exact Below.refl _ _ | refine below_mo ?_ _ | refine below_al ?_ _))
theorem of_9 (w : World) : Calls Try.prog 42 #[.int .i64 9] w (Gives w (.agg #[.int .u32 2600500224, .string ⟨#[100, 110, 109]⟩])) := by
  go_enter Try.func42, Try.ntmps42
  go_wp2
  go_returns
  exact Gives.mk rfl (by repeat (first | exact Below.refl _ _ | refine below_mo ?_ _ | refine below_al ?_ _))
theorem of_10 (w : World) : Calls Try.prog 42 #[.int .i64 10] w (Gives w (.agg #[.int .u32 2596282368, .string ⟨#[100, 110, 109]⟩])) := by
  go_enter Try.func42, Try.ntmps42
  go_wp2
  go_returns
  exact Gives.mk rfl (by repeat (first | exact Below.refl _ _ | refine below_mo ?_ _ | refine below_al ?_ _))
theorem of_11 (w : World) : Calls Try.prog 42 #[.int .i64 11] w (Gives w (.agg #[.int .u32 2596283392, .string ⟨#[100, 110, 109]⟩])) := by
  go_enter Try.func42, Try.ntmps42
  go_wp2
  go_returns
  exact Gives.mk rfl (by repeat (first | exact Below.refl _ _ | refine below_mo ?_ _ | refine below_al ?_ _))
theorem of_12 (w : World) : Calls Try.prog 42 #[.int .i64 12] w (Gives w (.agg #[.int .u32 2594113504, .string ⟨#[100, 107]⟩])) := by
  go_enter Try.func42, Try.ntmps42
  go_wp2
  go_returns
  exact Gives.mk rfl (by repeat (first | exact Below.refl _ _ | refine below_mo ?_ _ | refine below_al ?_ _))
theorem of_13 (w : World) : Calls Try.prog 42 #[.int .i64 13] w (Gives w (.agg #[.int .u32 335544320, .string ⟨#[98]⟩])) := by
  go_enter Try.func42, Try.ntmps42
  go_wp2_with (first | (go_at_call 49; refine (jump_13 _).mono ?_; rintro e w1 ⟨rfl, p1, rfl⟩))
  go_returns
  exact Gives.mk rfl (by repeat (first | exact Below.refl _ _ | refine below_mo ?_ _ | refine below_al ?_ _))
theorem of_14 (w : World) : Calls Try.prog 42 #[.int .i64 14] w (Gives w (.agg #[.int .u32 1409286144, .string ⟨#[120, 99]⟩])) := by
  go_enter Try.func42, Try.ntmps42
  go_wp2_with (first | (go_at_call 49; refine (jump_14 _).mono ?_; rintro e w1 ⟨rfl, p1, rfl⟩))
  go_returns
  exact Gives.mk rfl (by repeat (first | exact Below.refl _ _ | refine below_mo ?_ _ | refine below_al ?_ _))
theorem of_15 (w : World) : Calls Try.prog 42 #[.int .i64 15] w (Gives w (.agg #[.int .u32 3019898880, .string ⟨#[100, 120]⟩])) := by
  go_enter Try.func42, Try.ntmps42
  go_wp2_with (first | (go_at_call 49; refine (jump_15 _).mono ?_; rintro e w1 ⟨rfl, p1, rfl⟩))
  go_returns
  exact Gives.mk rfl (by repeat (first | exact Below.refl _ _ | refine below_mo ?_ _ | refine below_al ?_ _))
theorem of_16 (w : World) : Calls Try.prog 42 #[.int .i64 16] w (Gives w (.agg #[.int .u32 3036676096, .string ⟨#[100, 120]⟩])) := by
  go_enter Try.func42, Try.ntmps42
  go_wp2_with (first | (go_at_call 49; refine (jump_16 _).mono ?_; rintro e w1 ⟨rfl, p1, rfl⟩))
  go_returns
  exact Gives.mk rfl (by repeat (first | exact Below.refl _ _ | refine below_mo ?_ _ | refine below_al ?_ _))
theorem of_29 (w : World) : Calls Try.prog 42 #[.int .i64 29] w (Gives w (.agg #[.int .u32 3573756095, .string ⟨#[102]⟩])) := by
  go_enter Try.func42, Try.ntmps42
  go_wp2_with (first | (go_at_call 49; refine (jump_29 _).mono ?_; rintro e w1 ⟨rfl, p1, rfl⟩))
  go_returns
  exact Gives.mk rfl (by repeat (first | exact Below.refl _ _ | refine below_mo ?_ _ | refine below_al ?_ _))
theorem of_30 (w : World) : Calls Try.prog 42 #[.int .i64 30] w (Gives w (.agg #[.int .u32 3573759839, .string ⟨#[122]⟩])) := by
  go_enter Try.func42, Try.ntmps42
  go_wp2_with (first | (go_at_call 49; refine (jump_30 _).mono ?_; rintro e w1 ⟨rfl, p1, rfl⟩))
  go_returns
  exact Gives.mk rfl (by repeat (first | exact Below.refl _ _ | refine below_mo ?_ _ | refine below_al ?_ _))
theorem of_31 (w : World) : Calls Try.prog 42 #[.int .i64 31] w (Gives w (.agg #[.int .u32 3556769793, .string ⟨#[105]⟩])) := by
  go_enter Try.func42, Try.ntmps42
  go_wp2_with (first | (go_at_call 49; refine (jump_31 _).mono ?_; rintro e w1 ⟨rfl, p1, rfl⟩))
  go_returns
  exact Gives.mk rfl (by repeat (first | exact Below.refl _ _ | refine below_mo ?_ _ | refine below_al ?_ _))
theorem of_32 (w : World) : Calls Try.prog 42 #[.int .i64 32] w (Gives w (.agg #[.int .u32 3558866944, .string ⟨#[105]⟩])) := by
  go_enter Try.func42, Try.ntmps42
  go_wp2_with (first | (go_at_call 49; refine (jump_32 _).mono ?_; rintro e w1 ⟨rfl, p1, rfl⟩))
  go_returns
  exact Gives.mk rfl (by repeat (first | exact Below.refl _ _ | refine below_mo ?_ _ | refine below_al ?_ _))
theorem of_17 (w : World) : Calls Try.prog 42 #[.int .i64 17] w (Gives w (.agg #[.int .u32 960495616, .string ⟨#[100, 97, 111, 115]⟩])) := by
  go_enter Try.func42, Try.ntmps42
  go_wp2_with (first | (go_at_call 49; refine (jump_17 _).mono ?_; rintro e w1 ⟨rfl, p1, rfl⟩))
  go_returns
  exact Gives.mk rfl (by repeat (first | exact Below.refl _ _ | refine below_mo ?_ _ | refine below_al ?_ _))
theorem of_18 (w : World) : Calls Try.prog 42 #[.int .i64 18] w (Gives w (.agg #[.int .u32 956301312, .string ⟨#[100, 97, 111, 115]⟩])) := by
  go_enter Try.func42, Try.ntmps42
  go_wp2_with (first | (go_at_call 49; refine (jump_18 _).mono ?_; rintro e w1 ⟨rfl, p1, rfl⟩))
  go_returns
  exact Gives.mk rfl (by repeat (first | exact Below.refl _ _ | refine below_mo ?_ _ | refine below_al ?_ _))
theorem of_19 (w : World) : Calls Try.prog 42 #[.int .i64 19] w (Gives w (.agg #[.int .u32 148896768, .string ⟨#[100, 97, 115]⟩])) := by
  go_enter Try.func42, Try.ntmps42
  go_wp2_with (first | (go_at_call 49; refine (jump_19 _).mono ?_; rintro e w1 ⟨rfl, p1, rfl⟩))
  go_returns
  exact Gives.mk rfl (by repeat (first | exact Below.refl _ _ | refine below_mo ?_ _ | refine below_al ?_ _))
theorem of_20 (w : World) : Calls Try.prog 42 #[.int .i64 20] w (Gives w (.agg #[.int .u32 144702464, .string ⟨#[100, 97, 115]⟩])) := by
  go_enter Try.func42, Try.ntmps42
  go_wp2_with (first | (go_at_call 49; refine (jump_20 _).mono ?_; rintro e w1 ⟨rfl, p1, rfl⟩))
  go_returns
  exact Gives.mk rfl (by repeat (first | exact Below.refl _ _ | refine below_mo ?_ _ | refine below_al ?_ _))
theorem of_21 (w : World) : Calls Try.prog 42 #[.int .i64 21] w (Gives w (.agg #[.int .u32 140475392, .string ⟨#[100, 97, 115]⟩])) := by
  go_enter Try.func42, Try.ntmps42
  go_wp2_with (first | (go_at_call 49; refine (jump_21 _).mono ?_; rintro e w1 ⟨rfl, p1, rfl⟩))
  go_returns
  exact Gives.mk rfl (by repeat (first | exact Below.refl _ _ | refine below_mo ?_ _ | refine below_al ?_ _))
theorem of_22 (w : World) : Calls Try.prog 42 #[.int .i64 22] w (Gives w (.agg #[.int .u32 140508160, .string ⟨#[100, 97, 115]⟩])) := by
  go_enter Try.func42, Try.ntmps42
  go_wp2_with (first | (go_at_call 49; refine (jump_22 _).mono ?_; rintro e w1 ⟨rfl, p1, rfl⟩))
  go_returns
  exact Gives.mk rfl (by repeat (first | exact Below.refl _ _ | refine below_mo ?_ _ | refine below_al ?_ _))
theorem of_23 (w : World) : Calls Try.prog 42 #[.int .i64 23] w (Gives w (.agg #[.int .u32 134249472, .string ⟨#[100, 97, 115, 109]⟩])) := by
  go_enter Try.func42, Try.ntmps42
  go_wp2_with (first | (go_at_call 49; refine (jump_23 _).mono ?_; rintro e w1 ⟨rfl, p1, rfl⟩))
  go_returns
  exact Gives.mk rfl (by repeat (first | exact Below.refl _ _ | refine below_mo ?_ _ | refine below_al ?_ _))
theorem of_24 (w : World) : Calls Try.prog 42 #[.int .i64 24] w (Gives w (.agg #[.int .u32 134282240, .string ⟨#[100, 97, 115, 109]⟩])) := by
  go_enter Try.func42, Try.ntmps42
  go_wp2_with (first | (go_at_call 49; refine (jump_24 _).mono ?_; rintro e w1 ⟨rfl, p1, rfl⟩))
  go_returns
  exact Gives.mk rfl (by repeat (first | exact Below.refl _ _ | refine below_mo ?_ _ | refine below_al ?_ _))
theorem of_25 (w : World) : Calls Try.prog 42 #[.int .i64 25] w (Gives w (.agg #[.int .u32 3363766272, .string ⟨#[100, 97, 101]⟩])) := by
  go_enter Try.func42, Try.ntmps42
  go_wp2_with (first | (go_at_call 49; refine (jump_25 _).mono ?_; rintro e w1 ⟨rfl, p1, rfl⟩))
  go_returns
  exact Gives.mk rfl (by repeat (first | exact Below.refl _ _ | refine below_mo ?_ _ | refine below_al ?_ _))
theorem of_26 (w : World) : Calls Try.prog 42 #[.int .i64 26] w (Gives w (.agg #[.int .u32 3363799040, .string ⟨#[100, 97, 101]⟩])) := by
  go_enter Try.func42, Try.ntmps42
  go_wp2_with (first | (go_at_call 49; refine (jump_26 _).mono ?_; rintro e w1 ⟨rfl, p1, rfl⟩))
  go_returns
  exact Gives.mk rfl (by repeat (first | exact Below.refl _ _ | refine below_mo ?_ _ | refine below_al ?_ _))
theorem of_27 (w : World) : Calls Try.prog 42 #[.int .i64 27] w (Gives w (.agg #[.int .u32 3357540352, .string ⟨#[100, 97, 101, 109]⟩])) := by
  go_enter Try.func42, Try.ntmps42
  go_wp2_with (first | (go_at_call 49; refine (jump_27 _).mono ?_; rintro e w1 ⟨rfl, p1, rfl⟩))
  go_returns
  exact Gives.mk rfl (by repeat (first | exact Below.refl _ _ | refine below_mo ?_ _ | refine below_al ?_ _))
theorem of_28 (w : World) : Calls Try.prog 42 #[.int .i64 28] w (Gives w (.agg #[.int .u32 3357573120, .string ⟨#[100, 97, 101, 109]⟩])) := by
  go_enter Try.func42, Try.ntmps42
  go_wp2_with (first | (go_at_call 49; refine (jump_28 _).mono ?_; rintro e w1 ⟨rfl, p1, rfl⟩))
  go_returns
  exact Gives.mk rfl (by repeat (first | exact Below.refl _ _ | refine below_mo ?_ _ | refine below_al ?_ _))
theorem of_none (op : Int) (h : ¬ (1 ≤ op ∧ op ≤ 32)) (w : World) : Calls Try.prog 42 #[.int .i64 op] w (Gives w (.agg #[.int .u32 0, .string ⟨#[]⟩])) := by
  have h1 : (op == 1) = false := by simp; omega
  have h2 : (op == 2) = false := by simp; omega
  have h3 : (op == 3) = false := by simp; omega
  have h4 : (op == 4) = false := by simp; omega
  have h5 : (op == 5) = false := by simp; omega
  have h6 : (op == 6) = false := by simp; omega
  have h7 : (op == 7) = false := by simp; omega
  have h8 : (op == 8) = false := by simp; omega
  have h9 : (op == 9) = false := by simp; omega
  have h10 : (op == 10) = false := by simp; omega
  have h11 : (op == 11) = false := by simp; omega
  have h12 : (op == 12) = false := by simp; omega
  have H := Lib.hid h
  clear h
  go_enter Try.func42, Try.ntmps42
  go_wp2_with (first | (go_at_call 49; refine (jump_none op H.out _).mono ?_; rintro e w1 ⟨rfl, p1, rfl⟩))
  go_returns
  exact Gives.mk rfl (by repeat (first | exact Below.refl _ _ | refine below_mo ?_ _ | refine below_al ?_ _))
theorem of_any (op : Int) (w : World) : Calls Try.prog 42 #[.int .i64 op] w (Gives w (.agg #[.int .u32 (baseN op), .string (strB (lets op))])) := by
  by_cases h : 1 ≤ op ∧ op ≤ 32
  · obtain ⟨k, rfl⟩ : ∃ k : Nat, op = k := ⟨op.toNat, by omega⟩
    have hk : k ≤ 32 := by omega
    have hk0 : 1 ≤ k := by omega
    match k, hk, hk0 with
    | 1, _, _ => exact of_1 w
    | 2, _, _ => exact of_2 w
    | 3, _, _ => exact of_3 w
    | 4, _, _ => exact of_4 w
    | 5, _, _ => exact of_5 w
    | 6, _, _ => exact of_6 w
    | 7, _, _ => exact of_7 w
    | 8, _, _ => exact of_8 w
    | 9, _, _ => exact of_9 w
    | 10, _, _ => exact of_10 w
    | 11, _, _ => exact of_11 w
    | 12, _, _ => exact of_12 w
    | 13, _, _ => exact of_13 w
    | 14, _, _ => exact of_14 w
    | 15, _, _ => exact of_15 w
    | 16, _, _ => exact of_16 w
    | 17, _, _ => exact of_17 w
    | 18, _, _ => exact of_18 w
    | 19, _, _ => exact of_19 w
    | 20, _, _ => exact of_20 w
    | 21, _, _ => exact of_21 w
    | 22, _, _ => exact of_22 w
    | 23, _, _ => exact of_23 w
    | 24, _, _ => exact of_24 w
    | 25, _, _ => exact of_25 w
    | 26, _, _ => exact of_26 w
    | 27, _, _ => exact of_27 w
    | 28, _, _ => exact of_28 w
    | 29, _, _ => exact of_29 w
    | 30, _, _ => exact of_30 w
    | 31, _, _ => exact of_31 w
    | 32, _, _ => exact of_32 w
  · have e : baseN op = 0 ∧ lets op = [] := by
      by_cases h1 : lets op = []
      · refine ⟨?_, h1⟩
        unfold baseN
        split
        · rcases Nat.eq_zero_or_pos op.toNat with e | e
          · rw [e]; rfl
          · rw [shp_out _ (by omega)]
        · rfl
      · exact absurd (lets_in h1) h
    rw [e.1, e.2]
    exact of_none op h w
end Go.Proofs.Ytfijppclaahkmaa
