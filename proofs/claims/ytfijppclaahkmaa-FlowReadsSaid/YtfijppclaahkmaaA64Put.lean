/- Walks: a number as a field's bits. No condition. -/
import Derived.Test.YtfijppclaahkmaaA64Field
namespace Go.Proofs.Ytfijppclaahkmaa
open Go.RowKit Go.Sort
set_option linter.unusedVariables false
set_option linter.unusedSimpArgs false

theorem barrier_any (w : World) : Calls Try.prog 50 #[] w (Gives w (.agg #[.int .u32 11, .int .u32 9, .int .u32 10])) := by
  go_enter Try.func50, Try.ntmps50
  go_wp2
  go_returns
  exact Gives.mk rfl (by repeat (first | exact Below.refl _ _ | refine below_mo ?_ _ | refine below_al ?_ _))
theorem put_d (x : Int) (hx : fitF ⟨0, 5, 1, 0, 31⟩ x = true) (w : World) : Calls Try.prog 47 #[.agg #[.int .i64 0, .int .i64 5, .bool false, .int .u32 0, .int .i64 31], .int .u8 100, .int .i64 x] w (Gives w (.int .u32 ((putF ⟨0, 5, 1, 0, 31⟩ x * 2 ^ 0 : Nat) : Int))) := by
  have K := Lib.hid mask_d
  obtain ⟨a, ha⟩ : ∃ a : Nat, IntKind.u32.wrap x = a ∧ a < 4294967296 ∧ a % 32 = putF ⟨0, 5, 1, 0, 31⟩ x := by
    simp [fitF] at hx
    refine ⟨x.toNat, ?_, by omega, by simp [putF]; omega⟩
    simp [IntKind.wrap, IntKind.bits, IntKind.signed]; omega
  obtain ⟨h1, h2, h3⟩ := ha
  have hr : bits .and .u32 (bits .xor .u32 (a : Int) 0 % 4294967296) 31 = ((putF ⟨0, 5, 1, 0, 31⟩ x * 2 ^ 0 : Nat) : Int) := by
    have h5 := put_bits (fl_ok 100 ⟨0, 5, 1, 0, 31⟩ rfl) a 1 rfl
    rw [xor_zero32 a h2, ← h3]
    rw [Int.mul_one] at h5
    exact h5
  have hr2 : bits .and .u32 (bits .xor .u32 (a : Int) 0) 31 = ((putF ⟨0, 5, 1, 0, 31⟩ x * 2 ^ 0 : Nat) : Int) := by
    rw [xor_zero32 a h2]
    rw [xor_zero32 a h2] at hr
    rw [(show (a : Int) % 4294967296 = a by omega)] at hr
    exact hr
  have HR := Lib.hid hr
  clear hr h2 h3 hx hr2
  go_enter Try.func47, Try.ntmps47
  go_wp2
  refine wp_quiet_more (by kernel_rfl) (by kernel_rfl) ?_
  repeat (go_big_quiet_step (first | (go_at_call 46; exact quiet_more (K.out _))))
  refine wpQuiet_nil ?_
  intro p
  go_wp2
  go_ret
  exact Gives.mk (ret_intA (by first | exact HR.out | (have h := HR.out; rw [Nat.pow_zero, Nat.mul_one] at h; exact h))) (by repeat (first | exact Below.refl _ _ | refine below_mo ?_ _ | refine below_al ?_ _))
theorem put_n (x : Int) (hx : fitF ⟨5, 5, 2, 0, 31⟩ x = true) (w : World) : Calls Try.prog 47 #[.agg #[.int .i64 5, .int .i64 5, .bool false, .int .u32 0, .int .i64 31], .int .u8 110, .int .i64 x] w (Gives w (.int .u32 ((putF ⟨5, 5, 2, 0, 31⟩ x * 2 ^ 5 : Nat) : Int))) := by
  have K := Lib.hid mask_n
  obtain ⟨a, ha⟩ : ∃ a : Nat, IntKind.u32.wrap x = a ∧ a < 4294967296 ∧ a % 32 = putF ⟨5, 5, 2, 0, 31⟩ x := by
    simp [fitF] at hx
    refine ⟨x.toNat, ?_, by omega, by simp [putF]; omega⟩
    simp [IntKind.wrap, IntKind.bits, IntKind.signed]; omega
  obtain ⟨h1, h2, h3⟩ := ha
  have hr : bits .and .u32 (bits .xor .u32 (a : Int) 0 * 32 % 4294967296) 992 = ((putF ⟨5, 5, 2, 0, 31⟩ x * 2 ^ 5 : Nat) : Int) := by
    rw [xor_zero32 a h2, ← h3]
    exact put_bits (fl_ok 110 ⟨5, 5, 2, 0, 31⟩ rfl) a 32 rfl
  have HR := Lib.hid hr
  clear hr h2 h3 hx
  go_enter Try.func47, Try.ntmps47
  go_wp2
  refine wp_quiet_more (by kernel_rfl) (by kernel_rfl) ?_
  repeat (go_big_quiet_step (first | (go_at_call 46; exact quiet_more (K.out _))))
  refine wpQuiet_nil ?_
  intro p
  go_wp2
  go_ret
  exact Gives.mk (ret_intA (by first | exact HR.out | (have h := HR.out; rw [Nat.pow_zero, Nat.mul_one] at h; exact h))) (by repeat (first | exact Below.refl _ _ | refine below_mo ?_ _ | refine below_al ?_ _))
theorem put_a (x : Int) (hx : fitF ⟨5, 5, 2, 0, 30⟩ x = true) (w : World) : Calls Try.prog 47 #[.agg #[.int .i64 5, .int .i64 5, .bool false, .int .u32 0, .int .i64 30], .int .u8 97, .int .i64 x] w (Gives w (.int .u32 ((putF ⟨5, 5, 2, 0, 30⟩ x * 2 ^ 5 : Nat) : Int))) := by
  have K := Lib.hid mask_a
  obtain ⟨a, ha⟩ : ∃ a : Nat, IntKind.u32.wrap x = a ∧ a < 4294967296 ∧ a % 32 = putF ⟨5, 5, 2, 0, 30⟩ x := by
    simp [fitF] at hx
    refine ⟨x.toNat, ?_, by omega, by simp [putF]; omega⟩
    simp [IntKind.wrap, IntKind.bits, IntKind.signed]; omega
  obtain ⟨h1, h2, h3⟩ := ha
  have hr : bits .and .u32 (bits .xor .u32 (a : Int) 0 * 32 % 4294967296) 992 = ((putF ⟨5, 5, 2, 0, 30⟩ x * 2 ^ 5 : Nat) : Int) := by
    rw [xor_zero32 a h2, ← h3]
    exact put_bits (fl_ok 97 ⟨5, 5, 2, 0, 30⟩ rfl) a 32 rfl
  have HR := Lib.hid hr
  clear hr h2 h3 hx
  go_enter Try.func47, Try.ntmps47
  go_wp2
  refine wp_quiet_more (by kernel_rfl) (by kernel_rfl) ?_
  repeat (go_big_quiet_step (first | (go_at_call 46; exact quiet_more (K.out _))))
  refine wpQuiet_nil ?_
  intro p
  go_wp2
  go_ret
  exact Gives.mk (ret_intA (by first | exact HR.out | (have h := HR.out; rw [Nat.pow_zero, Nat.mul_one] at h; exact h))) (by repeat (first | exact Below.refl _ _ | refine below_mo ?_ _ | refine below_al ?_ _))
theorem put_m (x : Int) (hx : fitF ⟨16, 5, 3, 0, 31⟩ x = true) (w : World) : Calls Try.prog 47 #[.agg #[.int .i64 16, .int .i64 5, .bool false, .int .u32 0, .int .i64 31], .int .u8 109, .int .i64 x] w (Gives w (.int .u32 ((putF ⟨16, 5, 3, 0, 31⟩ x * 2 ^ 16 : Nat) : Int))) := by
  have K := Lib.hid mask_m
  obtain ⟨a, ha⟩ : ∃ a : Nat, IntKind.u32.wrap x = a ∧ a < 4294967296 ∧ a % 32 = putF ⟨16, 5, 3, 0, 31⟩ x := by
    simp [fitF] at hx
    refine ⟨x.toNat, ?_, by omega, by simp [putF]; omega⟩
    simp [IntKind.wrap, IntKind.bits, IntKind.signed]; omega
  obtain ⟨h1, h2, h3⟩ := ha
  have hr : bits .and .u32 (bits .xor .u32 (a : Int) 0 * 65536 % 4294967296) 2031616 = ((putF ⟨16, 5, 3, 0, 31⟩ x * 2 ^ 16 : Nat) : Int) := by
    rw [xor_zero32 a h2, ← h3]
    exact put_bits (fl_ok 109 ⟨16, 5, 3, 0, 31⟩ rfl) a 65536 rfl
  have HR := Lib.hid hr
  clear hr h2 h3 hx
  go_enter Try.func47, Try.ntmps47
  go_wp2
  refine wp_quiet_more (by kernel_rfl) (by kernel_rfl) ?_
  repeat (go_big_quiet_step (first | (go_at_call 46; exact quiet_more (K.out _))))
  refine wpQuiet_nil ?_
  intro p
  go_wp2
  go_ret
  exact Gives.mk (ret_intA (by first | exact HR.out | (have h := HR.out; rw [Nat.pow_zero, Nat.mul_one] at h; exact h))) (by repeat (first | exact Below.refl _ _ | refine below_mo ?_ _ | refine below_al ?_ _))
theorem put_e (x : Int) (hx : fitF ⟨10, 5, 4, 0, 31⟩ x = true) (w : World) : Calls Try.prog 47 #[.agg #[.int .i64 10, .int .i64 5, .bool false, .int .u32 0, .int .i64 31], .int .u8 101, .int .i64 x] w (Gives w (.int .u32 ((putF ⟨10, 5, 4, 0, 31⟩ x * 2 ^ 10 : Nat) : Int))) := by
  have K := Lib.hid mask_e
  obtain ⟨a, ha⟩ : ∃ a : Nat, IntKind.u32.wrap x = a ∧ a < 4294967296 ∧ a % 32 = putF ⟨10, 5, 4, 0, 31⟩ x := by
    simp [fitF] at hx
    refine ⟨x.toNat, ?_, by omega, by simp [putF]; omega⟩
    simp [IntKind.wrap, IntKind.bits, IntKind.signed]; omega
  obtain ⟨h1, h2, h3⟩ := ha
  have hr : bits .and .u32 (bits .xor .u32 (a : Int) 0 * 1024 % 4294967296) 31744 = ((putF ⟨10, 5, 4, 0, 31⟩ x * 2 ^ 10 : Nat) : Int) := by
    rw [xor_zero32 a h2, ← h3]
    exact put_bits (fl_ok 101 ⟨10, 5, 4, 0, 31⟩ rfl) a 1024 rfl
  have HR := Lib.hid hr
  clear hr h2 h3 hx
  go_enter Try.func47, Try.ntmps47
  go_wp2
  refine wp_quiet_more (by kernel_rfl) (by kernel_rfl) ?_
  repeat (go_big_quiet_step (first | (go_at_call 46; exact quiet_more (K.out _))))
  refine wpQuiet_nil ?_
  intro p
  go_wp2
  go_ret
  exact Gives.mk (ret_intA (by first | exact HR.out | (have h := HR.out; rw [Nat.pow_zero, Nat.mul_one] at h; exact h))) (by repeat (first | exact Below.refl _ _ | refine below_mo ?_ _ | refine below_al ?_ _))
theorem put_q (x : Int) (hx : fitF ⟨21, 2, 4, 0, 3⟩ x = true) (w : World) : Calls Try.prog 47 #[.agg #[.int .i64 21, .int .i64 2, .bool false, .int .u32 0, .int .i64 3], .int .u8 113, .int .i64 x] w (Gives w (.int .u32 ((putF ⟨21, 2, 4, 0, 3⟩ x * 2 ^ 21 : Nat) : Int))) := by
  have K := Lib.hid mask_q
  obtain ⟨a, ha⟩ : ∃ a : Nat, IntKind.u32.wrap x = a ∧ a < 4294967296 ∧ a % 4 = putF ⟨21, 2, 4, 0, 3⟩ x := by
    simp [fitF] at hx
    refine ⟨x.toNat, ?_, by omega, by simp [putF]; omega⟩
    simp [IntKind.wrap, IntKind.bits, IntKind.signed]; omega
  obtain ⟨h1, h2, h3⟩ := ha
  have hr : bits .and .u32 (bits .xor .u32 (a : Int) 0 * 2097152 % 4294967296) 6291456 = ((putF ⟨21, 2, 4, 0, 3⟩ x * 2 ^ 21 : Nat) : Int) := by
    rw [xor_zero32 a h2, ← h3]
    exact put_bits (fl_ok 113 ⟨21, 2, 4, 0, 3⟩ rfl) a 2097152 rfl
  have HR := Lib.hid hr
  clear hr h2 h3 hx
  go_enter Try.func47, Try.ntmps47
  go_wp2
  refine wp_quiet_more (by kernel_rfl) (by kernel_rfl) ?_
  repeat (go_big_quiet_step (first | (go_at_call 46; exact quiet_more (K.out _))))
  refine wpQuiet_nil ?_
  intro p
  go_wp2
  go_ret
  exact Gives.mk (ret_intA (by first | exact HR.out | (have h := HR.out; rw [Nat.pow_zero, Nat.mul_one] at h; exact h))) (by repeat (first | exact Below.refl _ _ | refine below_mo ?_ _ | refine below_al ?_ _))
theorem put_c (x : Int) (hx : fitF ⟨0, 2, 4, 0, 3⟩ x = true) (w : World) : Calls Try.prog 47 #[.agg #[.int .i64 0, .int .i64 2, .bool false, .int .u32 0, .int .i64 3], .int .u8 99, .int .i64 x] w (Gives w (.int .u32 ((putF ⟨0, 2, 4, 0, 3⟩ x * 2 ^ 0 : Nat) : Int))) := by
  have K := Lib.hid mask_c
  obtain ⟨a, ha⟩ : ∃ a : Nat, IntKind.u32.wrap x = a ∧ a < 4294967296 ∧ a % 4 = putF ⟨0, 2, 4, 0, 3⟩ x := by
    simp [fitF] at hx
    refine ⟨x.toNat, ?_, by omega, by simp [putF]; omega⟩
    simp [IntKind.wrap, IntKind.bits, IntKind.signed]; omega
  obtain ⟨h1, h2, h3⟩ := ha
  have hr : bits .and .u32 (bits .xor .u32 (a : Int) 0 % 4294967296) 3 = ((putF ⟨0, 2, 4, 0, 3⟩ x * 2 ^ 0 : Nat) : Int) := by
    have h5 := put_bits (fl_ok 99 ⟨0, 2, 4, 0, 3⟩ rfl) a 1 rfl
    rw [xor_zero32 a h2, ← h3]
    rw [Int.mul_one] at h5
    exact h5
  have hr2 : bits .and .u32 (bits .xor .u32 (a : Int) 0) 3 = ((putF ⟨0, 2, 4, 0, 3⟩ x * 2 ^ 0 : Nat) : Int) := by
    rw [xor_zero32 a h2]
    rw [xor_zero32 a h2] at hr
    rw [(show (a : Int) % 4294967296 = a by omega)] at hr
    exact hr
  have HR := Lib.hid hr
  clear hr h2 h3 hx hr2
  go_enter Try.func47, Try.ntmps47
  go_wp2
  refine wp_quiet_more (by kernel_rfl) (by kernel_rfl) ?_
  repeat (go_big_quiet_step (first | (go_at_call 46; exact quiet_more (K.out _))))
  refine wpQuiet_nil ?_
  intro p
  go_wp2
  go_ret
  exact Gives.mk (ret_intA (by first | exact HR.out | (have h := HR.out; rw [Nat.pow_zero, Nat.mul_one] at h; exact h))) (by repeat (first | exact Below.refl _ _ | refine below_mo ?_ _ | refine below_al ?_ _))
theorem put_k (x : Int) (hx : fitF ⟨12, 2, 4, 2, 3⟩ x = true) (w : World) : Calls Try.prog 47 #[.agg #[.int .i64 12, .int .i64 2, .bool false, .int .u32 1, .int .i64 3], .int .u8 107, .int .i64 x] w (Gives w (.int .u32 ((putF ⟨12, 2, 4, 2, 3⟩ x * 2 ^ 12 : Nat) : Int))) := by
  have K := Lib.hid mask_k
  obtain ⟨a, ha⟩ : ∃ a : Nat, IntKind.u32.wrap x = a ∧ a < 4294967296 ∧ a < 4 ∧ turnN a = putF ⟨12, 2, 4, 2, 3⟩ x := by
    simp [fitF] at hx
    refine ⟨x.toNat, ?_, by omega, by omega, by simp [putF]⟩
    simp [IntKind.wrap, IntKind.bits, IntKind.signed]; omega
  obtain ⟨h1, h2, h4, h3⟩ := ha
  have hr : bits .and .u32 (bits .xor .u32 (a : Int) 1 * 4096 % 4294967296) 12288 = ((putF ⟨12, 2, 4, 2, 3⟩ x * 2 ^ 12 : Nat) : Int) := by
    rw [← h3]
    have : a = 0 ∨ a = 1 ∨ a = 2 ∨ a = 3 := by omega
    rcases this with rfl | rfl | rfl | rfl <;> decide
  have HR := Lib.hid hr
  clear hr h2 h3 hx h4
  go_enter Try.func47, Try.ntmps47
  go_wp2
  refine wp_quiet_more (by kernel_rfl) (by kernel_rfl) ?_
  repeat (go_big_quiet_step (first | (go_at_call 46; exact quiet_more (K.out _))))
  refine wpQuiet_nil ?_
  intro p
  go_wp2
  go_ret
  exact Gives.mk (ret_intA (by first | exact HR.out | (have h := HR.out; rw [Nat.pow_zero, Nat.mul_one] at h; exact h))) (by repeat (first | exact Below.refl _ _ | refine below_mo ?_ _ | refine below_al ?_ _))
theorem put_s (x : Int) (hx : fitF ⟨30, 2, 5, 0, 3⟩ x = true) (w : World) : Calls Try.prog 47 #[.agg #[.int .i64 30, .int .i64 2, .bool false, .int .u32 0, .int .i64 3], .int .u8 115, .int .i64 x] w (Gives w (.int .u32 ((putF ⟨30, 2, 5, 0, 3⟩ x * 2 ^ 30 : Nat) : Int))) := by
  have K := Lib.hid mask_s
  obtain ⟨a, ha⟩ : ∃ a : Nat, IntKind.u32.wrap x = a ∧ a < 4294967296 ∧ a % 4 = putF ⟨30, 2, 5, 0, 3⟩ x := by
    simp [fitF] at hx
    refine ⟨x.toNat, ?_, by omega, by simp [putF]; omega⟩
    simp [IntKind.wrap, IntKind.bits, IntKind.signed]; omega
  obtain ⟨h1, h2, h3⟩ := ha
  have hr : bits .and .u32 (bits .xor .u32 (a : Int) 0 * 1073741824 % 4294967296) 3221225472 = ((putF ⟨30, 2, 5, 0, 3⟩ x * 2 ^ 30 : Nat) : Int) := by
    rw [xor_zero32 a h2, ← h3]
    exact put_bits (fl_ok 115 ⟨30, 2, 5, 0, 3⟩ rfl) a 1073741824 rfl
  have HR := Lib.hid hr
  clear hr h2 h3 hx
  go_enter Try.func47, Try.ntmps47
  go_wp2
  refine wp_quiet_more (by kernel_rfl) (by kernel_rfl) ?_
  repeat (go_big_quiet_step (first | (go_at_call 46; exact quiet_more (K.out _))))
  refine wpQuiet_nil ?_
  intro p
  go_wp2
  go_ret
  exact Gives.mk (ret_intA (by first | exact HR.out | (have h := HR.out; rw [Nat.pow_zero, Nat.mul_one] at h; exact h))) (by repeat (first | exact Below.refl _ _ | refine below_mo ?_ _ | refine below_al ?_ _))
theorem put_i (x : Int) (hx : fitF ⟨5, 16, 6, 0, 65535⟩ x = true) (w : World) : Calls Try.prog 47 #[.agg #[.int .i64 5, .int .i64 16, .bool false, .int .u32 0, .int .i64 65535], .int .u8 105, .int .i64 x] w (Gives w (.int .u32 ((putF ⟨5, 16, 6, 0, 65535⟩ x * 2 ^ 5 : Nat) : Int))) := by
  have K := Lib.hid mask_i
  obtain ⟨a, ha⟩ : ∃ a : Nat, IntKind.u32.wrap x = a ∧ a < 4294967296 ∧ a % 65536 = putF ⟨5, 16, 6, 0, 65535⟩ x := by
    simp [fitF] at hx
    refine ⟨x.toNat, ?_, by omega, by simp [putF]; omega⟩
    simp [IntKind.wrap, IntKind.bits, IntKind.signed]; omega
  obtain ⟨h1, h2, h3⟩ := ha
  have hr : bits .and .u32 (bits .xor .u32 (a : Int) 0 * 32 % 4294967296) 2097120 = ((putF ⟨5, 16, 6, 0, 65535⟩ x * 2 ^ 5 : Nat) : Int) := by
    rw [xor_zero32 a h2, ← h3]
    exact put_bits (fl_ok 105 ⟨5, 16, 6, 0, 65535⟩ rfl) a 32 rfl
  have HR := Lib.hid hr
  clear hr h2 h3 hx
  go_enter Try.func47, Try.ntmps47
  go_wp2
  refine wp_quiet_more (by kernel_rfl) (by kernel_rfl) ?_
  repeat (go_big_quiet_step (first | (go_at_call 46; exact quiet_more (K.out _))))
  refine wpQuiet_nil ?_
  intro p
  go_wp2
  go_ret
  exact Gives.mk (ret_intA (by first | exact HR.out | (have h := HR.out; rw [Nat.pow_zero, Nat.mul_one] at h; exact h))) (by repeat (first | exact Below.refl _ _ | refine below_mo ?_ _ | refine below_al ?_ _))
theorem put_o (x : Int) (hx : fitF ⟨10, 12, 6, 0, 4095⟩ x = true) (w : World) : Calls Try.prog 47 #[.agg #[.int .i64 10, .int .i64 12, .bool false, .int .u32 0, .int .i64 4095], .int .u8 111, .int .i64 x] w (Gives w (.int .u32 ((putF ⟨10, 12, 6, 0, 4095⟩ x * 2 ^ 10 : Nat) : Int))) := by
  have K := Lib.hid mask_o
  obtain ⟨a, ha⟩ : ∃ a : Nat, IntKind.u32.wrap x = a ∧ a < 4294967296 ∧ a % 4096 = putF ⟨10, 12, 6, 0, 4095⟩ x := by
    simp [fitF] at hx
    refine ⟨x.toNat, ?_, by omega, by simp [putF]; omega⟩
    simp [IntKind.wrap, IntKind.bits, IntKind.signed]; omega
  obtain ⟨h1, h2, h3⟩ := ha
  have hr : bits .and .u32 (bits .xor .u32 (a : Int) 0 * 1024 % 4294967296) 4193280 = ((putF ⟨10, 12, 6, 0, 4095⟩ x * 2 ^ 10 : Nat) : Int) := by
    rw [xor_zero32 a h2, ← h3]
    exact put_bits (fl_ok 111 ⟨10, 12, 6, 0, 4095⟩ rfl) a 1024 rfl
  have HR := Lib.hid hr
  clear hr h2 h3 hx
  go_enter Try.func47, Try.ntmps47
  go_wp2
  refine wp_quiet_more (by kernel_rfl) (by kernel_rfl) ?_
  repeat (go_big_quiet_step (first | (go_at_call 46; exact quiet_more (K.out _))))
  refine wpQuiet_nil ?_
  intro p
  go_wp2
  go_ret
  exact Gives.mk (ret_intA (by first | exact HR.out | (have h := HR.out; rw [Nat.pow_zero, Nat.mul_one] at h; exact h))) (by repeat (first | exact Below.refl _ _ | refine below_mo ?_ _ | refine below_al ?_ _))
theorem put_b (x : Int) (hx : fitF ⟨0, 26, 6, 1, 0⟩ x = true) (w : World) : Calls Try.prog 47 #[.agg #[.int .i64 0, .int .i64 26, .bool true, .int .u32 0, .int .i64 0], .int .u8 98, .int .i64 x] w (Gives w (.int .u32 ((putF ⟨0, 26, 6, 1, 0⟩ x * 2 ^ 0 : Nat) : Int))) := by
  have K := Lib.hid mask_b
  obtain ⟨a, ha⟩ : ∃ a : Nat, IntKind.u32.wrap x = a ∧ a < 4294967296 ∧ a % 67108864 = putF ⟨0, 26, 6, 1, 0⟩ x := by
    refine ⟨(x % 4294967296).toNat, ?_, ?_, ?_⟩
    · simp [IntKind.wrap, IntKind.bits, IntKind.signed]; omega
    · omega
    · simp [putF]; omega
  obtain ⟨h1, h2, h3⟩ := ha
  have hr : bits .and .u32 (bits .xor .u32 (a : Int) 0 % 4294967296) 67108863 = ((putF ⟨0, 26, 6, 1, 0⟩ x * 2 ^ 0 : Nat) : Int) := by
    have h5 := put_bits (fl_ok 98 ⟨0, 26, 6, 1, 0⟩ rfl) a 1 rfl
    rw [xor_zero32 a h2, ← h3]
    rw [Int.mul_one] at h5
    exact h5
  have hr2 : bits .and .u32 (bits .xor .u32 (a : Int) 0) 67108863 = ((putF ⟨0, 26, 6, 1, 0⟩ x * 2 ^ 0 : Nat) : Int) := by
    rw [xor_zero32 a h2]
    rw [xor_zero32 a h2] at hr
    rw [(show (a : Int) % 4294967296 = a by omega)] at hr
    exact hr
  have HR := Lib.hid hr
  clear hr h2 h3 hx hr2
  go_enter Try.func47, Try.ntmps47
  go_wp2
  refine wp_quiet_more (by kernel_rfl) (by kernel_rfl) ?_
  repeat (go_big_quiet_step (first | (go_at_call 46; exact quiet_more (K.out _))))
  refine wpQuiet_nil ?_
  intro p
  go_wp2
  go_ret
  exact Gives.mk (ret_intA (by first | exact HR.out | (have h := HR.out; rw [Nat.pow_zero, Nat.mul_one] at h; exact h))) (by repeat (first | exact Below.refl _ _ | refine below_mo ?_ _ | refine below_al ?_ _))
theorem put_x (x : Int) (hx : fitF ⟨5, 19, 6, 1, 0⟩ x = true) (w : World) : Calls Try.prog 47 #[.agg #[.int .i64 5, .int .i64 19, .bool true, .int .u32 0, .int .i64 0], .int .u8 120, .int .i64 x] w (Gives w (.int .u32 ((putF ⟨5, 19, 6, 1, 0⟩ x * 2 ^ 5 : Nat) : Int))) := by
  have K := Lib.hid mask_x
  obtain ⟨a, ha⟩ : ∃ a : Nat, IntKind.u32.wrap x = a ∧ a < 4294967296 ∧ a % 524288 = putF ⟨5, 19, 6, 1, 0⟩ x := by
    refine ⟨(x % 4294967296).toNat, ?_, ?_, ?_⟩
    · simp [IntKind.wrap, IntKind.bits, IntKind.signed]; omega
    · omega
    · simp [putF]; omega
  obtain ⟨h1, h2, h3⟩ := ha
  have hr : bits .and .u32 (bits .xor .u32 (a : Int) 0 * 32 % 4294967296) 16777184 = ((putF ⟨5, 19, 6, 1, 0⟩ x * 2 ^ 5 : Nat) : Int) := by
    rw [xor_zero32 a h2, ← h3]
    exact put_bits (fl_ok 120 ⟨5, 19, 6, 1, 0⟩ rfl) a 32 rfl
  have HR := Lib.hid hr
  clear hr h2 h3 hx
  go_enter Try.func47, Try.ntmps47
  go_wp2
  refine wp_quiet_more (by kernel_rfl) (by kernel_rfl) ?_
  repeat (go_big_quiet_step (first | (go_at_call 46; exact quiet_more (K.out _))))
  refine wpQuiet_nil ?_
  intro p
  go_wp2
  go_ret
  exact Gives.mk (ret_intA (by first | exact HR.out | (have h := HR.out; rw [Nat.pow_zero, Nat.mul_one] at h; exact h))) (by repeat (first | exact Below.refl _ _ | refine below_mo ?_ _ | refine below_al ?_ _))
theorem put_f (x : Int) (hx : fitF ⟨8, 4, 6, 3, 2⟩ x = true) (w : World) : Calls Try.prog 47 #[.agg #[.int .i64 8, .int .i64 4, .bool false, .int .u32 0, .int .i64 2], .int .u8 102, .int .i64 x] w (Gives w (.int .u32 ((putF ⟨8, 4, 6, 3, 2⟩ x * 2 ^ 8 : Nat) : Int))) := by
  have K := Lib.hid mask_f
  have h : x = 0 ∨ x = 1 ∨ x = 2 := by simp [fitF] at hx; omega
  clear hx
  rcases h with rfl | rfl | rfl
  · have hix : ∀ W, (Instr.index 88 (.agg #[.int .u32 11, .int .u32 9, .int .u32 10]) (.int .i64 0)).run Try.prog W = .ok (.int .u32 11) W := fun _ => by kernel_rfl
    go_enter Try.func47, Try.ntmps47
    go_wp2_with (first | (go_at_call 50; refine (barrier_any _).mono ?_; rintro e w1 ⟨rfl, p1, rfl⟩))
    refine wp_quiet_more (by kernel_rfl) (by kernel_rfl) ?_
    repeat (go_big_quiet_step (first | (go_at_call 46; exact quiet_more (K.out _))))
    refine wpQuiet_nil ?_
    intro p
    go_wp2
    go_ret
    exact Gives.mk (ret_intA (by decide)) (by repeat (first | exact Below.refl _ _ | refine below_mo ?_ _ | refine below_al ?_ _))
  · have hix : ∀ W, (Instr.index 88 (.agg #[.int .u32 11, .int .u32 9, .int .u32 10]) (.int .i64 1)).run Try.prog W = .ok (.int .u32 9) W := fun _ => by kernel_rfl
    go_enter Try.func47, Try.ntmps47
    go_wp2_with (first | (go_at_call 50; refine (barrier_any _).mono ?_; rintro e w1 ⟨rfl, p1, rfl⟩))
    refine wp_quiet_more (by kernel_rfl) (by kernel_rfl) ?_
    repeat (go_big_quiet_step (first | (go_at_call 46; exact quiet_more (K.out _))))
    refine wpQuiet_nil ?_
    intro p
    go_wp2
    go_ret
    exact Gives.mk (ret_intA (by decide)) (by repeat (first | exact Below.refl _ _ | refine below_mo ?_ _ | refine below_al ?_ _))
  · have hix : ∀ W, (Instr.index 88 (.agg #[.int .u32 11, .int .u32 9, .int .u32 10]) (.int .i64 2)).run Try.prog W = .ok (.int .u32 10) W := fun _ => by kernel_rfl
    go_enter Try.func47, Try.ntmps47
    go_wp2_with (first | (go_at_call 50; refine (barrier_any _).mono ?_; rintro e w1 ⟨rfl, p1, rfl⟩))
    refine wp_quiet_more (by kernel_rfl) (by kernel_rfl) ?_
    repeat (go_big_quiet_step (first | (go_at_call 46; exact quiet_more (K.out _))))
    refine wpQuiet_nil ?_
    intro p
    go_wp2
    go_ret
    exact Gives.mk (ret_intA (by decide)) (by repeat (first | exact Below.refl _ _ | refine below_mo ?_ _ | refine below_al ?_ _))
theorem put_any (c : Nat) (f : Fl) (h : fl c = some f) (x : Int) (hx : fitF f x = true) (w : World) : Calls Try.prog 47 #[.agg #[.int .i64 f.lo, .int .i64 f.n, .bool (f.kd == 1), .int .u32 (if f.kd = 2 then 1 else 0), .int .i64 f.most], .int .u8 c, .int .i64 x] w (Gives w (.int .u32 ((putF f x * 2 ^ f.lo : Nat) : Int))) := by
  unfold fl at h
  by_cases h100 : c = 100
  · rw [if_pos h100] at h
    cases h
    subst h100
    exact put_d x hx w
  rw [if_neg h100] at h
  by_cases h110 : c = 110
  · rw [if_pos h110] at h
    cases h
    subst h110
    exact put_n x hx w
  rw [if_neg h110] at h
  by_cases h97 : c = 97
  · rw [if_pos h97] at h
    cases h
    subst h97
    exact put_a x hx w
  rw [if_neg h97] at h
  by_cases h109 : c = 109
  · rw [if_pos h109] at h
    cases h
    subst h109
    exact put_m x hx w
  rw [if_neg h109] at h
  by_cases h101 : c = 101
  · rw [if_pos h101] at h
    cases h
    subst h101
    exact put_e x hx w
  rw [if_neg h101] at h
  by_cases h113 : c = 113
  · rw [if_pos h113] at h
    cases h
    subst h113
    exact put_q x hx w
  rw [if_neg h113] at h
  by_cases h99 : c = 99
  · rw [if_pos h99] at h
    cases h
    subst h99
    exact put_c x hx w
  rw [if_neg h99] at h
  by_cases h107 : c = 107
  · rw [if_pos h107] at h
    cases h
    subst h107
    exact put_k x hx w
  rw [if_neg h107] at h
  by_cases h115 : c = 115
  · rw [if_pos h115] at h
    cases h
    subst h115
    exact put_s x hx w
  rw [if_neg h115] at h
  by_cases h105 : c = 105
  · rw [if_pos h105] at h
    cases h
    subst h105
    exact put_i x hx w
  rw [if_neg h105] at h
  by_cases h111 : c = 111
  · rw [if_pos h111] at h
    cases h
    subst h111
    exact put_o x hx w
  rw [if_neg h111] at h
  by_cases h98 : c = 98
  · rw [if_pos h98] at h
    cases h
    subst h98
    exact put_b x hx w
  rw [if_neg h98] at h
  by_cases h120 : c = 120
  · rw [if_pos h120] at h
    cases h
    subst h120
    exact put_x x hx w
  rw [if_neg h120] at h
  by_cases h102 : c = 102
  · rw [if_pos h102] at h
    cases h
    subst h102
    exact put_f x hx w
  rw [if_neg h102] at h
  cases h
end Go.Proofs.Ytfijppclaahkmaa
