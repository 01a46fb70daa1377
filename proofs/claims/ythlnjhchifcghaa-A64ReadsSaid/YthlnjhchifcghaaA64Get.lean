/- Walks: the number of a field's bits. No condition. -/
import Derived.Test.YthlnjhchifcghaaA64Put
namespace Go.Proofs.Ythlnjhchifcghaa
open Go.RowKit Go.Sort
set_option linter.unusedVariables false
set_option linter.unusedSimpArgs false

def gyF (f : Fl) (v : Nat) : Int := (getF f v).getD (if f.kd = 3 then 0 else v)
def gbF (f : Fl) (v : Nat) : Bool := (getF f v).isSome
theorem ret_pairA {k : IntKind} {a b : Int} {c d : Bool} (h : a = b) (h2 : c = d) : Ending.returned (.tuple #[.int k a, .bool c]) = .returned (.tuple #[.int k b, .bool d]) := by rw [h, h2]
theorem get_d (w : Nat) (hw : w < 4294967296) (W : World) : Calls Try.prog 25 #[.agg #[.int .i64 0, .int .i64 5, .bool false, .int .u32 0, .int .i64 31], .int .u8 100, .int .u32 w] W (Gives W (.tuple #[.int .i64 (gyF ⟨0, 5, 1, 0, 31⟩ (w / 2 ^ 0 % 2 ^ 5)), .bool (gbF ⟨0, 5, 1, 0, 31⟩ (w / 2 ^ 0 % 2 ^ 5))])) := by
  have K := Lib.hid mask_d
  have S := Lib.hid fits_d
  have hv : bits .and .u32 (w : Int) 31 = ((w / 2 ^ 0 % 2 ^ 5 : Nat) : Int) := by
    have h := get_bits (fl_ok 100 ⟨0, 5, 1, 0, 31⟩ rfl) w hw 1 rfl
    rw [Int.ediv_one] at h
    exact h
  have hl : w / 2 ^ 0 % 2 ^ 5 < 32 := Nat.mod_lt _ (by decide)
  generalize w / 2 ^ 0 % 2 ^ 5 = v at hv hl ⊢
  have hx : bits .xor .u32 (v : Int) 0 = (v : Int) := xor_zero32 v (by omega)
  have G : Hid (fitF ⟨0, 5, 1, 0, 31⟩ (v : Int) = gbF ⟨0, 5, 1, 0, 31⟩ v ∧ (v : Int) = gyF ⟨0, 5, 1, 0, 31⟩ v) := Lib.hid (by unfold gbF gyF getF fitF; simp; split <;> simp <;> omega)
  go_enter Try.func25, Try.ntmps25
  go_wp2
  refine wp_quiet_more (by kernel_rfl) (by kernel_rfl) ?_
  repeat (go_big_quiet_step (first | (go_at_call 15; exact quiet_more (K.out _))))
  refine wpQuiet_nil ?_
  intro p
  go_wp2_with (first | (go_at_call 14; refine (S.out _ (by omega) _).mono ?_; rintro e w1 ⟨rfl, p2, rfl⟩))
  go_ret2
  exact Gives.mk (ret_pairA G.out.2 G.out.1) (by repeat (first | exact Below.refl _ _ | refine below_mo ?_ _ | refine below_al ?_ _))
theorem get_n (w : Nat) (hw : w < 4294967296) (W : World) : Calls Try.prog 25 #[.agg #[.int .i64 5, .int .i64 5, .bool false, .int .u32 0, .int .i64 31], .int .u8 110, .int .u32 w] W (Gives W (.tuple #[.int .i64 (gyF ⟨5, 5, 2, 0, 31⟩ (w / 2 ^ 5 % 2 ^ 5)), .bool (gbF ⟨5, 5, 2, 0, 31⟩ (w / 2 ^ 5 % 2 ^ 5))])) := by
  have K := Lib.hid mask_n
  have S := Lib.hid fits_n
  have hv : bits .and .u32 (w : Int) 992 / 32 = ((w / 2 ^ 5 % 2 ^ 5 : Nat) : Int) := get_bits (fl_ok 110 ⟨5, 5, 2, 0, 31⟩ rfl) w hw 32 rfl
  have hl : w / 2 ^ 5 % 2 ^ 5 < 32 := Nat.mod_lt _ (by decide)
  generalize w / 2 ^ 5 % 2 ^ 5 = v at hv hl ⊢
  have hx : bits .xor .u32 (v : Int) 0 = (v : Int) := xor_zero32 v (by omega)
  have G : Hid (fitF ⟨5, 5, 2, 0, 31⟩ (v : Int) = gbF ⟨5, 5, 2, 0, 31⟩ v ∧ (v : Int) = gyF ⟨5, 5, 2, 0, 31⟩ v) := Lib.hid (by unfold gbF gyF getF fitF; simp; split <;> simp <;> omega)
  go_enter Try.func25, Try.ntmps25
  go_wp2
  refine wp_quiet_more (by kernel_rfl) (by kernel_rfl) ?_
  repeat (go_big_quiet_step (first | (go_at_call 15; exact quiet_more (K.out _))))
  refine wpQuiet_nil ?_
  intro p
  go_wp2_with (first | (go_at_call 14; refine (S.out _ (by omega) _).mono ?_; rintro e w1 ⟨rfl, p2, rfl⟩))
  go_ret2
  exact Gives.mk (ret_pairA G.out.2 G.out.1) (by repeat (first | exact Below.refl _ _ | refine below_mo ?_ _ | refine below_al ?_ _))
theorem get_a (w : Nat) (hw : w < 4294967296) (W : World) : Calls Try.prog 25 #[.agg #[.int .i64 5, .int .i64 5, .bool false, .int .u32 0, .int .i64 30], .int .u8 97, .int .u32 w] W (Gives W (.tuple #[.int .i64 (gyF ⟨5, 5, 2, 0, 30⟩ (w / 2 ^ 5 % 2 ^ 5)), .bool (gbF ⟨5, 5, 2, 0, 30⟩ (w / 2 ^ 5 % 2 ^ 5))])) := by
  have K := Lib.hid mask_a
  have S := Lib.hid fits_a
  have hv : bits .and .u32 (w : Int) 992 / 32 = ((w / 2 ^ 5 % 2 ^ 5 : Nat) : Int) := get_bits (fl_ok 97 ⟨5, 5, 2, 0, 30⟩ rfl) w hw 32 rfl
  have hl : w / 2 ^ 5 % 2 ^ 5 < 32 := Nat.mod_lt _ (by decide)
  generalize w / 2 ^ 5 % 2 ^ 5 = v at hv hl ⊢
  have hx : bits .xor .u32 (v : Int) 0 = (v : Int) := xor_zero32 v (by omega)
  have G : Hid (fitF ⟨5, 5, 2, 0, 30⟩ (v : Int) = gbF ⟨5, 5, 2, 0, 30⟩ v ∧ (v : Int) = gyF ⟨5, 5, 2, 0, 30⟩ v) := Lib.hid (by unfold gbF gyF getF fitF; simp; split <;> simp <;> omega)
  go_enter Try.func25, Try.ntmps25
  go_wp2
  refine wp_quiet_more (by kernel_rfl) (by kernel_rfl) ?_
  repeat (go_big_quiet_step (first | (go_at_call 15; exact quiet_more (K.out _))))
  refine wpQuiet_nil ?_
  intro p
  go_wp2_with (first | (go_at_call 14; refine (S.out _ (by omega) _).mono ?_; rintro e w1 ⟨rfl, p2, rfl⟩))
  go_ret2
  exact Gives.mk (ret_pairA G.out.2 G.out.1) (by repeat (first | exact Below.refl _ _ | refine below_mo ?_ _ | refine below_al ?_ _))
theorem get_m (w : Nat) (hw : w < 4294967296) (W : World) : Calls Try.prog 25 #[.agg #[.int .i64 16, .int .i64 5, .bool false, .int .u32 0, .int .i64 31], .int .u8 109, .int .u32 w] W (Gives W (.tuple #[.int .i64 (gyF ⟨16, 5, 3, 0, 31⟩ (w / 2 ^ 16 % 2 ^ 5)), .bool (gbF ⟨16, 5, 3, 0, 31⟩ (w / 2 ^ 16 % 2 ^ 5))])) := by
  have K := Lib.hid mask_m
  have S := Lib.hid fits_m
  have hv : bits .and .u32 (w : Int) 2031616 / 65536 = ((w / 2 ^ 16 % 2 ^ 5 : Nat) : Int) := get_bits (fl_ok 109 ⟨16, 5, 3, 0, 31⟩ rfl) w hw 65536 rfl
  have hl : w / 2 ^ 16 % 2 ^ 5 < 32 := Nat.mod_lt _ (by decide)
  generalize w / 2 ^ 16 % 2 ^ 5 = v at hv hl ⊢
  have hx : bits .xor .u32 (v : Int) 0 = (v : Int) := xor_zero32 v (by omega)
  have G : Hid (fitF ⟨16, 5, 3, 0, 31⟩ (v : Int) = gbF ⟨16, 5, 3, 0, 31⟩ v ∧ (v : Int) = gyF ⟨16, 5, 3, 0, 31⟩ v) := Lib.hid (by unfold gbF gyF getF fitF; simp; split <;> simp <;> omega)
  go_enter Try.func25, Try.ntmps25
  go_wp2
  refine wp_quiet_more (by kernel_rfl) (by kernel_rfl) ?_
  repeat (go_big_quiet_step (first | (go_at_call 15; exact quiet_more (K.out _))))
  refine wpQuiet_nil ?_
  intro p
  go_wp2_with (first | (go_at_call 14; refine (S.out _ (by omega) _).mono ?_; rintro e w1 ⟨rfl, p2, rfl⟩))
  go_ret2
  exact Gives.mk (ret_pairA G.out.2 G.out.1) (by repeat (first | exact Below.refl _ _ | refine below_mo ?_ _ | refine below_al ?_ _))
theorem get_e (w : Nat) (hw : w < 4294967296) (W : World) : Calls Try.prog 25 #[.agg #[.int .i64 10, .int .i64 5, .bool false, .int .u32 0, .int .i64 31], .int .u8 101, .int .u32 w] W (Gives W (.tuple #[.int .i64 (gyF ⟨10, 5, 4, 0, 31⟩ (w / 2 ^ 10 % 2 ^ 5)), .bool (gbF ⟨10, 5, 4, 0, 31⟩ (w / 2 ^ 10 % 2 ^ 5))])) := by
  have K := Lib.hid mask_e
  have S := Lib.hid fits_e
  have hv : bits .and .u32 (w : Int) 31744 / 1024 = ((w / 2 ^ 10 % 2 ^ 5 : Nat) : Int) := get_bits (fl_ok 101 ⟨10, 5, 4, 0, 31⟩ rfl) w hw 1024 rfl
  have hl : w / 2 ^ 10 % 2 ^ 5 < 32 := Nat.mod_lt _ (by decide)
  generalize w / 2 ^ 10 % 2 ^ 5 = v at hv hl ⊢
  have hx : bits .xor .u32 (v : Int) 0 = (v : Int) := xor_zero32 v (by omega)
  have G : Hid (fitF ⟨10, 5, 4, 0, 31⟩ (v : Int) = gbF ⟨10, 5, 4, 0, 31⟩ v ∧ (v : Int) = gyF ⟨10, 5, 4, 0, 31⟩ v) := Lib.hid (by unfold gbF gyF getF fitF; simp; split <;> simp <;> omega)
  go_enter Try.func25, Try.ntmps25
  go_wp2
  refine wp_quiet_more (by kernel_rfl) (by kernel_rfl) ?_
  repeat (go_big_quiet_step (first | (go_at_call 15; exact quiet_more (K.out _))))
  refine wpQuiet_nil ?_
  intro p
  go_wp2_with (first | (go_at_call 14; refine (S.out _ (by omega) _).mono ?_; rintro e w1 ⟨rfl, p2, rfl⟩))
  go_ret2
  exact Gives.mk (ret_pairA G.out.2 G.out.1) (by repeat (first | exact Below.refl _ _ | refine below_mo ?_ _ | refine below_al ?_ _))
theorem get_q (w : Nat) (hw : w < 4294967296) (W : World) : Calls Try.prog 25 #[.agg #[.int .i64 21, .int .i64 2, .bool false, .int .u32 0, .int .i64 3], .int .u8 113, .int .u32 w] W (Gives W (.tuple #[.int .i64 (gyF ⟨21, 2, 4, 0, 3⟩ (w / 2 ^ 21 % 2 ^ 2)), .bool (gbF ⟨21, 2, 4, 0, 3⟩ (w / 2 ^ 21 % 2 ^ 2))])) := by
  have K := Lib.hid mask_q
  have S := Lib.hid fits_q
  have hv : bits .and .u32 (w : Int) 6291456 / 2097152 = ((w / 2 ^ 21 % 2 ^ 2 : Nat) : Int) := get_bits (fl_ok 113 ⟨21, 2, 4, 0, 3⟩ rfl) w hw 2097152 rfl
  have hl : w / 2 ^ 21 % 2 ^ 2 < 4 := Nat.mod_lt _ (by decide)
  generalize w / 2 ^ 21 % 2 ^ 2 = v at hv hl ⊢
  have hx : bits .xor .u32 (v : Int) 0 = (v : Int) := xor_zero32 v (by omega)
  have G : Hid (fitF ⟨21, 2, 4, 0, 3⟩ (v : Int) = gbF ⟨21, 2, 4, 0, 3⟩ v ∧ (v : Int) = gyF ⟨21, 2, 4, 0, 3⟩ v) := Lib.hid (by unfold gbF gyF getF fitF; simp; split <;> simp <;> omega)
  go_enter Try.func25, Try.ntmps25
  go_wp2
  refine wp_quiet_more (by kernel_rfl) (by kernel_rfl) ?_
  repeat (go_big_quiet_step (first | (go_at_call 15; exact quiet_more (K.out _))))
  refine wpQuiet_nil ?_
  intro p
  go_wp2_with (first | (go_at_call 14; refine (S.out _ (by omega) _).mono ?_; rintro e w1 ⟨rfl, p2, rfl⟩))
  go_ret2
  exact Gives.mk (ret_pairA G.out.2 G.out.1) (by repeat (first | exact Below.refl _ _ | refine below_mo ?_ _ | refine below_al ?_ _))
theorem get_c (w : Nat) (hw : w < 4294967296) (W : World) : Calls Try.prog 25 #[.agg #[.int .i64 0, .int .i64 2, .bool false, .int .u32 0, .int .i64 3], .int .u8 99, .int .u32 w] W (Gives W (.tuple #[.int .i64 (gyF ⟨0, 2, 4, 0, 3⟩ (w / 2 ^ 0 % 2 ^ 2)), .bool (gbF ⟨0, 2, 4, 0, 3⟩ (w / 2 ^ 0 % 2 ^ 2))])) := by
  have K := Lib.hid mask_c
  have S := Lib.hid fits_c
  have hv : bits .and .u32 (w : Int) 3 = ((w / 2 ^ 0 % 2 ^ 2 : Nat) : Int) := by
    have h := get_bits (fl_ok 99 ⟨0, 2, 4, 0, 3⟩ rfl) w hw 1 rfl
    rw [Int.ediv_one] at h
    exact h
  have hl : w / 2 ^ 0 % 2 ^ 2 < 4 := Nat.mod_lt _ (by decide)
  generalize w / 2 ^ 0 % 2 ^ 2 = v at hv hl ⊢
  have hx : bits .xor .u32 (v : Int) 0 = (v : Int) := xor_zero32 v (by omega)
  have G : Hid (fitF ⟨0, 2, 4, 0, 3⟩ (v : Int) = gbF ⟨0, 2, 4, 0, 3⟩ v ∧ (v : Int) = gyF ⟨0, 2, 4, 0, 3⟩ v) := Lib.hid (by unfold gbF gyF getF fitF; simp; split <;> simp <;> omega)
  go_enter Try.func25, Try.ntmps25
  go_wp2
  refine wp_quiet_more (by kernel_rfl) (by kernel_rfl) ?_
  repeat (go_big_quiet_step (first | (go_at_call 15; exact quiet_more (K.out _))))
  refine wpQuiet_nil ?_
  intro p
  go_wp2_with (first | (go_at_call 14; refine (S.out _ (by omega) _).mono ?_; rintro e w1 ⟨rfl, p2, rfl⟩))
  go_ret2
  exact Gives.mk (ret_pairA G.out.2 G.out.1) (by repeat (first | exact Below.refl _ _ | refine below_mo ?_ _ | refine below_al ?_ _))
theorem get_k (w : Nat) (hw : w < 4294967296) (W : World) : Calls Try.prog 25 #[.agg #[.int .i64 12, .int .i64 2, .bool false, .int .u32 1, .int .i64 3], .int .u8 107, .int .u32 w] W (Gives W (.tuple #[.int .i64 (gyF ⟨12, 2, 4, 2, 3⟩ (w / 2 ^ 12 % 2 ^ 2)), .bool (gbF ⟨12, 2, 4, 2, 3⟩ (w / 2 ^ 12 % 2 ^ 2))])) := by
  have K := Lib.hid mask_k
  have S := Lib.hid fits_k
  have hv : bits .and .u32 (w : Int) 12288 / 4096 = ((w / 2 ^ 12 % 2 ^ 2 : Nat) : Int) := get_bits (fl_ok 107 ⟨12, 2, 4, 2, 3⟩ rfl) w hw 4096 rfl
  have hl : w / 2 ^ 12 % 2 ^ 2 < 4 := Nat.mod_lt _ (by decide)
  generalize w / 2 ^ 12 % 2 ^ 2 = v at hv hl ⊢
  have hx : bits .xor .u32 (v : Int) 1 = ((turnN v : Nat) : Int) ∧ turnN v < 4 := by
    have : v = 0 ∨ v = 1 ∨ v = 2 ∨ v = 3 := by omega
    rcases this with rfl | rfl | rfl | rfl <;> decide
  obtain ⟨hx, ht⟩ := hx
  have G : Hid (fitF ⟨12, 2, 4, 2, 3⟩ ((turnN v : Nat) : Int) = gbF ⟨12, 2, 4, 2, 3⟩ v ∧ ((turnN v : Nat) : Int) = gyF ⟨12, 2, 4, 2, 3⟩ v) := Lib.hid (by unfold gbF gyF getF fitF; simp; omega)
  go_enter Try.func25, Try.ntmps25
  go_wp2
  refine wp_quiet_more (by kernel_rfl) (by kernel_rfl) ?_
  repeat (go_big_quiet_step (first | (go_at_call 15; exact quiet_more (K.out _))))
  refine wpQuiet_nil ?_
  intro p
  go_wp2_with (first | (go_at_call 14; refine (S.out _ (by omega) _).mono ?_; rintro e w1 ⟨rfl, p2, rfl⟩))
  go_ret2
  exact Gives.mk (ret_pairA G.out.2 G.out.1) (by repeat (first | exact Below.refl _ _ | refine below_mo ?_ _ | refine below_al ?_ _))
theorem get_s (w : Nat) (hw : w < 4294967296) (W : World) : Calls Try.prog 25 #[.agg #[.int .i64 30, .int .i64 2, .bool false, .int .u32 0, .int .i64 3], .int .u8 115, .int .u32 w] W (Gives W (.tuple #[.int .i64 (gyF ⟨30, 2, 5, 0, 3⟩ (w / 2 ^ 30 % 2 ^ 2)), .bool (gbF ⟨30, 2, 5, 0, 3⟩ (w / 2 ^ 30 % 2 ^ 2))])) := by
  have K := Lib.hid mask_s
  have S := Lib.hid fits_s
  have hv : bits .and .u32 (w : Int) 3221225472 / 1073741824 = ((w / 2 ^ 30 % 2 ^ 2 : Nat) : Int) := get_bits (fl_ok 115 ⟨30, 2, 5, 0, 3⟩ rfl) w hw 1073741824 rfl
  have hl : w / 2 ^ 30 % 2 ^ 2 < 4 := Nat.mod_lt _ (by decide)
  generalize w / 2 ^ 30 % 2 ^ 2 = v at hv hl ⊢
  have hx : bits .xor .u32 (v : Int) 0 = (v : Int) := xor_zero32 v (by omega)
  have G : Hid (fitF ⟨30, 2, 5, 0, 3⟩ (v : Int) = gbF ⟨30, 2, 5, 0, 3⟩ v ∧ (v : Int) = gyF ⟨30, 2, 5, 0, 3⟩ v) := Lib.hid (by unfold gbF gyF getF fitF; simp; split <;> simp <;> omega)
  go_enter Try.func25, Try.ntmps25
  go_wp2
  refine wp_quiet_more (by kernel_rfl) (by kernel_rfl) ?_
  repeat (go_big_quiet_step (first | (go_at_call 15; exact quiet_more (K.out _))))
  refine wpQuiet_nil ?_
  intro p
  go_wp2_with (first | (go_at_call 14; refine (S.out _ (by omega) _).mono ?_; rintro e w1 ⟨rfl, p2, rfl⟩))
  go_ret2
  exact Gives.mk (ret_pairA G.out.2 G.out.1) (by repeat (first | exact Below.refl _ _ | refine below_mo ?_ _ | refine below_al ?_ _))
theorem get_i (w : Nat) (hw : w < 4294967296) (W : World) : Calls Try.prog 25 #[.agg #[.int .i64 5, .int .i64 16, .bool false, .int .u32 0, .int .i64 65535], .int .u8 105, .int .u32 w] W (Gives W (.tuple #[.int .i64 (gyF ⟨5, 16, 6, 0, 65535⟩ (w / 2 ^ 5 % 2 ^ 16)), .bool (gbF ⟨5, 16, 6, 0, 65535⟩ (w / 2 ^ 5 % 2 ^ 16))])) := by
  have K := Lib.hid mask_i
  have S := Lib.hid fits_i
  have hv : bits .and .u32 (w : Int) 2097120 / 32 = ((w / 2 ^ 5 % 2 ^ 16 : Nat) : Int) := get_bits (fl_ok 105 ⟨5, 16, 6, 0, 65535⟩ rfl) w hw 32 rfl
  have hl : w / 2 ^ 5 % 2 ^ 16 < 65536 := Nat.mod_lt _ (by decide)
  generalize w / 2 ^ 5 % 2 ^ 16 = v at hv hl ⊢
  have hx : bits .xor .u32 (v : Int) 0 = (v : Int) := xor_zero32 v (by omega)
  have G : Hid (fitF ⟨5, 16, 6, 0, 65535⟩ (v : Int) = gbF ⟨5, 16, 6, 0, 65535⟩ v ∧ (v : Int) = gyF ⟨5, 16, 6, 0, 65535⟩ v) := Lib.hid (by unfold gbF gyF getF fitF; simp; split <;> simp <;> omega)
  go_enter Try.func25, Try.ntmps25
  go_wp2
  refine wp_quiet_more (by kernel_rfl) (by kernel_rfl) ?_
  repeat (go_big_quiet_step (first | (go_at_call 15; exact quiet_more (K.out _))))
  refine wpQuiet_nil ?_
  intro p
  go_wp2_with (first | (go_at_call 14; refine (S.out _ (by omega) _).mono ?_; rintro e w1 ⟨rfl, p2, rfl⟩))
  go_ret2
  exact Gives.mk (ret_pairA G.out.2 G.out.1) (by repeat (first | exact Below.refl _ _ | refine below_mo ?_ _ | refine below_al ?_ _))
theorem get_o (w : Nat) (hw : w < 4294967296) (W : World) : Calls Try.prog 25 #[.agg #[.int .i64 10, .int .i64 12, .bool false, .int .u32 0, .int .i64 4095], .int .u8 111, .int .u32 w] W (Gives W (.tuple #[.int .i64 (gyF ⟨10, 12, 6, 0, 4095⟩ (w / 2 ^ 10 % 2 ^ 12)), .bool (gbF ⟨10, 12, 6, 0, 4095⟩ (w / 2 ^ 10 % 2 ^ 12))])) := by
  have K := Lib.hid mask_o
  have S := Lib.hid fits_o
  have hv : bits .and .u32 (w : Int) 4193280 / 1024 = ((w / 2 ^ 10 % 2 ^ 12 : Nat) : Int) := get_bits (fl_ok 111 ⟨10, 12, 6, 0, 4095⟩ rfl) w hw 1024 rfl
  have hl : w / 2 ^ 10 % 2 ^ 12 < 4096 := Nat.mod_lt _ (by decide)
  generalize w / 2 ^ 10 % 2 ^ 12 = v at hv hl ⊢
  have hx : bits .xor .u32 (v : Int) 0 = (v : Int) := xor_zero32 v (by omega)
  have G : Hid (fitF ⟨10, 12, 6, 0, 4095⟩ (v : Int) = gbF ⟨10, 12, 6, 0, 4095⟩ v ∧ (v : Int) = gyF ⟨10, 12, 6, 0, 4095⟩ v) := Lib.hid (by unfold gbF gyF getF fitF; simp; split <;> simp <;> omega)
  go_enter Try.func25, Try.ntmps25
  go_wp2
  refine wp_quiet_more (by kernel_rfl) (by kernel_rfl) ?_
  repeat (go_big_quiet_step (first | (go_at_call 15; exact quiet_more (K.out _))))
  refine wpQuiet_nil ?_
  intro p
  go_wp2_with (first | (go_at_call 14; refine (S.out _ (by omega) _).mono ?_; rintro e w1 ⟨rfl, p2, rfl⟩))
  go_ret2
  exact Gives.mk (ret_pairA G.out.2 G.out.1) (by repeat (first | exact Below.refl _ _ | refine below_mo ?_ _ | refine below_al ?_ _))
theorem get_b (w : Nat) (hw : w < 4294967296) (W : World) : Calls Try.prog 25 #[.agg #[.int .i64 0, .int .i64 26, .bool true, .int .u32 0, .int .i64 0], .int .u8 98, .int .u32 w] W (Gives W (.tuple #[.int .i64 (gyF ⟨0, 26, 6, 1, 0⟩ (w / 2 ^ 0 % 2 ^ 26)), .bool (gbF ⟨0, 26, 6, 1, 0⟩ (w / 2 ^ 0 % 2 ^ 26))])) := by
  have K := Lib.hid mask_b
  have S := Lib.hid fits_b
  have hv : bits .and .u32 (w : Int) 67108863 = ((w / 2 ^ 0 % 2 ^ 26 : Nat) : Int) := by
    have h := get_bits (fl_ok 98 ⟨0, 26, 6, 1, 0⟩ rfl) w hw 1 rfl
    rw [Int.ediv_one] at h
    exact h
  have hl : w / 2 ^ 0 % 2 ^ 26 < 67108864 := Nat.mod_lt _ (by decide)
  generalize w / 2 ^ 0 % 2 ^ 26 = v at hv hl ⊢
  have hx : bits .xor .u32 (v : Int) 0 = (v : Int) := xor_zero32 v (by omega)
  go_enter Try.func25, Try.ntmps25
  go_wp2
  refine wp_quiet_more (by kernel_rfl) (by kernel_rfl) ?_
  repeat (go_big_quiet_step (first | (go_at_call 15; exact quiet_more (K.out _))))
  refine wpQuiet_nil ?_
  intro p
  by_cases h : (33554432 : Int) ≤ v
  · have G : Hid (fitF ⟨0, 26, 6, 1, 0⟩ ((v : Int) - 67108864) = gbF ⟨0, 26, 6, 1, 0⟩ v ∧ ((v : Int) - 67108864) = gyF ⟨0, 26, 6, 1, 0⟩ v) := Lib.hid (by unfold gbF gyF getF fitF; simp; omega)
    go_wp2_with (first | (go_at_call 14; refine (S.out _ (by omega) _).mono ?_; rintro e w1 ⟨rfl, p2, rfl⟩))
    go_ret2
    exact Gives.mk (ret_pairA G.out.2 G.out.1) (by repeat (first | exact Below.refl _ _ | refine below_mo ?_ _ | refine below_al ?_ _))
  · have G : Hid (fitF ⟨0, 26, 6, 1, 0⟩ (v : Int) = gbF ⟨0, 26, 6, 1, 0⟩ v ∧ (v : Int) = gyF ⟨0, 26, 6, 1, 0⟩ v) := Lib.hid (by unfold gbF gyF getF fitF; simp; omega)
    go_wp2_with (first | (go_at_call 14; refine (S.out _ (by omega) _).mono ?_; rintro e w1 ⟨rfl, p2, rfl⟩))
    go_ret2
    exact Gives.mk (ret_pairA G.out.2 G.out.1) (by repeat (first | exact Below.refl _ _ | refine below_mo ?_ _ | refine below_al ?_ _))
theorem get_x (w : Nat) (hw : w < 4294967296) (W : World) : Calls Try.prog 25 #[.agg #[.int .i64 5, .int .i64 19, .bool true, .int .u32 0, .int .i64 0], .int .u8 120, .int .u32 w] W (Gives W (.tuple #[.int .i64 (gyF ⟨5, 19, 6, 1, 0⟩ (w / 2 ^ 5 % 2 ^ 19)), .bool (gbF ⟨5, 19, 6, 1, 0⟩ (w / 2 ^ 5 % 2 ^ 19))])) := by
  have K := Lib.hid mask_x
  have S := Lib.hid fits_x
  have hv : bits .and .u32 (w : Int) 16777184 / 32 = ((w / 2 ^ 5 % 2 ^ 19 : Nat) : Int) := get_bits (fl_ok 120 ⟨5, 19, 6, 1, 0⟩ rfl) w hw 32 rfl
  have hl : w / 2 ^ 5 % 2 ^ 19 < 524288 := Nat.mod_lt _ (by decide)
  generalize w / 2 ^ 5 % 2 ^ 19 = v at hv hl ⊢
  have hx : bits .xor .u32 (v : Int) 0 = (v : Int) := xor_zero32 v (by omega)
  go_enter Try.func25, Try.ntmps25
  go_wp2
  refine wp_quiet_more (by kernel_rfl) (by kernel_rfl) ?_
  repeat (go_big_quiet_step (first | (go_at_call 15; exact quiet_more (K.out _))))
  refine wpQuiet_nil ?_
  intro p
  by_cases h : (262144 : Int) ≤ v
  · have G : Hid (fitF ⟨5, 19, 6, 1, 0⟩ ((v : Int) - 524288) = gbF ⟨5, 19, 6, 1, 0⟩ v ∧ ((v : Int) - 524288) = gyF ⟨5, 19, 6, 1, 0⟩ v) := Lib.hid (by unfold gbF gyF getF fitF; simp; omega)
    go_wp2_with (first | (go_at_call 14; refine (S.out _ (by omega) _).mono ?_; rintro e w1 ⟨rfl, p2, rfl⟩))
    go_ret2
    exact Gives.mk (ret_pairA G.out.2 G.out.1) (by repeat (first | exact Below.refl _ _ | refine below_mo ?_ _ | refine below_al ?_ _))
  · have G : Hid (fitF ⟨5, 19, 6, 1, 0⟩ (v : Int) = gbF ⟨5, 19, 6, 1, 0⟩ v ∧ (v : Int) = gyF ⟨5, 19, 6, 1, 0⟩ v) := Lib.hid (by unfold gbF gyF getF fitF; simp; omega)
    go_wp2_with (first | (go_at_call 14; refine (S.out _ (by omega) _).mono ?_; rintro e w1 ⟨rfl, p2, rfl⟩))
    go_ret2
    exact Gives.mk (ret_pairA G.out.2 G.out.1) (by repeat (first | exact Below.refl _ _ | refine below_mo ?_ _ | refine below_al ?_ _))
theorem get_f (w : Nat) (hw : w < 4294967296) (W : World) : Calls Try.prog 25 #[.agg #[.int .i64 8, .int .i64 4, .bool false, .int .u32 0, .int .i64 2], .int .u8 102, .int .u32 w] W (Gives W (.tuple #[.int .i64 (gyF ⟨8, 4, 6, 3, 2⟩ (w / 2 ^ 8 % 2 ^ 4)), .bool (gbF ⟨8, 4, 6, 3, 2⟩ (w / 2 ^ 8 % 2 ^ 4))])) := by
  have K := Lib.hid mask_f
  have S := Lib.hid fits_f
  have hv : bits .and .u32 (w : Int) 3840 / 256 = ((w / 2 ^ 8 % 2 ^ 4 : Nat) : Int) := get_bits (fl_ok 102 ⟨8, 4, 6, 3, 2⟩ rfl) w hw 256 rfl
  have hl : w / 2 ^ 8 % 2 ^ 4 < 16 := Nat.mod_lt _ (by decide)
  generalize w / 2 ^ 8 % 2 ^ 4 = v at hv hl ⊢
  go_enter Try.func25, Try.ntmps25
  go_wp2
  refine wp_quiet_more (by kernel_rfl) (by kernel_rfl) ?_
  repeat (go_big_quiet_step (first | (go_at_call 15; exact quiet_more (K.out _))))
  refine wpQuiet_nil ?_
  intro p
  go_wp2_with (first | (go_at_call 22; refine (barrier_any _).mono ?_; rintro e w1 ⟨rfl, p1, rfl⟩))
  go_loopw [22] (fun i wr => ∃ k : Nat, k ≤ 3 ∧ i = .int .i64 k ∧ (0 < k → v ≠ 11) ∧ (1 < k → v ≠ 9) ∧ (2 < k → v ≠ 10) ∧ ∃ p : Regrown, wr = more (W.alloc (.cells #[.int .i64 8, .int .i64 4, .bool false, .int .u32 0, .int .i64 2] 43)) p) (fun i _ => 3 - (intOf i).toNat)
  case atStart => exact ⟨0, by omega, rfl, by omega, by omega, by omega, more_of_below (by repeat (first | exact Below.refl _ _ | refine below_mo ?_ _ | refine below_al ?_ _))⟩
  case round =>
    obtain ⟨k, hk, rfl, n0, n1, n2, p3, rfl⟩ := hrel
    match k, hk, n0, n1, n2 with
    | 0, hk, n0, n1, n2 =>
      have hix : ∀ W, (Instr.index 56 (.agg #[.int .u32 11, .int .u32 9, .int .u32 10]) (.int .i64 0)).run Try.prog W = .ok (.int .u32 11) W := fun _ => by kernel_rfl
      by_cases h : v = 11
      · subst h
        go_wp2_with fail
        go_ret2
        exact Gives.mk rfl (by repeat (first | exact Below.refl _ _ | refine below_mo ?_ _ | refine below_al ?_ _))
      · have h2 : ((11 : Int) == (v : Int)) = false := by simp; omega
        go_wp2_with fail
        go_roundw
        case rel => exact ⟨1, by omega, rfl, by omega, by omega, by omega, more_of_below (by repeat (first | exact Below.refl _ _ | refine below_mo ?_ _ | refine below_al ?_ _))⟩
        case measure => simp [intOf]
    | 1, hk, n0, n1, n2 =>
      have hix : ∀ W, (Instr.index 56 (.agg #[.int .u32 11, .int .u32 9, .int .u32 10]) (.int .i64 1)).run Try.prog W = .ok (.int .u32 9) W := fun _ => by kernel_rfl
      by_cases h : v = 9
      · subst h
        go_wp2_with fail
        go_ret2
        exact Gives.mk rfl (by repeat (first | exact Below.refl _ _ | refine below_mo ?_ _ | refine below_al ?_ _))
      · have h2 : ((9 : Int) == (v : Int)) = false := by simp; omega
        go_wp2_with fail
        go_roundw
        case rel => exact ⟨2, by omega, rfl, by omega, by omega, by omega, more_of_below (by repeat (first | exact Below.refl _ _ | refine below_mo ?_ _ | refine below_al ?_ _))⟩
        case measure => simp [intOf]
    | 2, hk, n0, n1, n2 =>
      have hix : ∀ W, (Instr.index 56 (.agg #[.int .u32 11, .int .u32 9, .int .u32 10]) (.int .i64 2)).run Try.prog W = .ok (.int .u32 10) W := fun _ => by kernel_rfl
      by_cases h : v = 10
      · subst h
        go_wp2_with fail
        go_ret2
        exact Gives.mk rfl (by repeat (first | exact Below.refl _ _ | refine below_mo ?_ _ | refine below_al ?_ _))
      · have h2 : ((10 : Int) == (v : Int)) = false := by simp; omega
        go_wp2_with fail
        go_roundw
        case rel => exact ⟨3, by omega, rfl, by omega, by omega, by omega, more_of_below (by repeat (first | exact Below.refl _ _ | refine below_mo ?_ _ | refine below_al ?_ _))⟩
        case measure => simp [intOf]
    | 3, hk, n0, n1, n2 =>
      have G : Hid ((0 : Int) = gyF ⟨8, 4, 6, 3, 2⟩ v ∧ false = gbF ⟨8, 4, 6, 3, 2⟩ v) := Lib.hid (by have := n0 (by omega); have := n1 (by omega); have := n2 (by omega); unfold gbF gyF getF; simp [*])
      go_wp2_with fail
      go_ret2
      exact Gives.mk (ret_pairA G.out.1 G.out.2) (by repeat (first | exact Below.refl _ _ | refine below_mo ?_ _ | refine below_al ?_ _))
theorem get_any (c : Nat) (f : Fl) (h : fl c = some f) (w : Nat) (hw : w < 4294967296) (W : World) : Calls Try.prog 25 #[.agg #[.int .i64 f.lo, .int .i64 f.n, .bool (f.kd == 1), .int .u32 (if f.kd = 2 then 1 else 0), .int .i64 f.most], .int .u8 c, .int .u32 w] W (Gives W (.tuple #[.int .i64 (gyF f (w / 2 ^ f.lo % 2 ^ f.n)), .bool (gbF f (w / 2 ^ f.lo % 2 ^ f.n))])) := by
  unfold fl at h
  by_cases h100 : c = 100
  · rw [if_pos h100] at h
    cases h
    subst h100
    exact get_d w hw W
  rw [if_neg h100] at h
  by_cases h110 : c = 110
  · rw [if_pos h110] at h
    cases h
    subst h110
    exact get_n w hw W
  rw [if_neg h110] at h
  by_cases h97 : c = 97
  · rw [if_pos h97] at h
    cases h
    subst h97
    exact get_a w hw W
  rw [if_neg h97] at h
  by_cases h109 : c = 109
  · rw [if_pos h109] at h
    cases h
    subst h109
    exact get_m w hw W
  rw [if_neg h109] at h
  by_cases h101 : c = 101
  · rw [if_pos h101] at h
    cases h
    subst h101
    exact get_e w hw W
  rw [if_neg h101] at h
  by_cases h113 : c = 113
  · rw [if_pos h113] at h
    cases h
    subst h113
    exact get_q w hw W
  rw [if_neg h113] at h
  by_cases h99 : c = 99
  · rw [if_pos h99] at h
    cases h
    subst h99
    exact get_c w hw W
  rw [if_neg h99] at h
  by_cases h107 : c = 107
  · rw [if_pos h107] at h
    cases h
    subst h107
    exact get_k w hw W
  rw [if_neg h107] at h
  by_cases h115 : c = 115
  · rw [if_pos h115] at h
    cases h
    subst h115
    exact get_s w hw W
  rw [if_neg h115] at h
  by_cases h105 : c = 105
  · rw [if_pos h105] at h
    cases h
    subst h105
    exact get_i w hw W
  rw [if_neg h105] at h
  by_cases h111 : c = 111
  · rw [if_pos h111] at h
    cases h
    subst h111
    exact get_o w hw W
  rw [if_neg h111] at h
  by_cases h98 : c = 98
  · rw [if_pos h98] at h
    cases h
    subst h98
    exact get_b w hw W
  rw [if_neg h98] at h
  by_cases h120 : c = 120
  · rw [if_pos h120] at h
    cases h
    subst h120
    exact get_x w hw W
  rw [if_neg h120] at h
  by_cases h102 : c = 102
  · rw [if_pos h102] at h
    cases h
    subst h102
    exact get_f w hw W
  rw [if_neg h102] at h
  cases h
end Go.Proofs.Ythlnjhchifcghaa
