/- Walks: what the document's Get and Put compute. Conditions: numbers fit their kinds. -/
import Derived.Test.YtigbdndjlkmemaaBitsWalks
namespace Go.Proofs.Ytigbdndjlkmemaa
open Go.RowKit
theorem wrap_shl (b k : Nat) : IntKind.u64.wrap ((b : Int) * 2 ^ k) = ((b * 2 ^ k % 18446744073709551616 : Nat) : Int) := by
  rw [mul_nat, wrap_nat]
/-- the first k bits. -/
def lowN (y k : Nat) : Nat := y % 2 ^ k
theorem getr_eq (x p k : Nat) (hx : x < 18446744073709551616) (hk : k < 64) :
    bits BinOp.or IntKind.u64 (lowN (x / 2 ^ p) k : Int) (IntKind.u64.wrap ((bitN x ((p : Int) + (k : Int)) : Int) * 2 ^ k)) = (lowN (x / 2 ^ p) (k + 1) : Int) := by
  unfold lowN
  rw [wrap_shl, u64_or_nat _ _ (Nat.lt_of_le_of_lt (Nat.mod_le _ _) (Nat.lt_of_le_of_lt (Nat.div_le_self _ _) hx)) (Nat.mod_lt _ (by decide)), get_round x p k hx hk]
theorem refget_no (x : Nat) (p n : Int) (w : World) (h : p < 0 ∨ 63 < p) :
    Calls Try.prog 14 #[.int .u64 x, .int .i64 p, .int .i64 n] w fun e w' => e = .returned (.int .u64 0) ∧ w = w' := by
  rcases Int.lt_or_le p 0 with h1 | h1
  · clear h
    go_enter Try.func14, Try.ntmps14
    go_wp2
    go_ret
    exact ⟨rfl, rfl⟩
  · have h2 : 63 < p := by omega
    clear h
    go_enter Try.func14, Try.ntmps14
    go_wp2
    go_ret
    exact ⟨rfl, rfl⟩
set_option maxHeartbeats 400000 in
theorem refget_yes (x p : Nat) (n : Int) (hx : x < 2 ^ 64) (h0 : -9223372036854775808 ≤ n) (h1 : n ≤ 9223372036854775807) (h3 : p ≤ 63) (w : World) :
    Calls Try.prog 14 #[.int .u64 x, .int .i64 p, .int .i64 n] w fun e w' => e = .returned (.int .u64 (lowN (x / 2 ^ p) (cap64 n))) ∧ w = w' := by
  have HX := Lib.hid hx
  clear hx
  have H0 : Hid ((0 : Int) = lowN (x / 2 ^ p) 0) := by unfold lowN; rw [Nat.pow_zero, Nat.mod_one]; exact Lib.hid rfl
  go_enter Try.func14, Try.ntmps14
  go_wp2
  go_loop [7, 8] (fun o i => ∃ k : Nat, k ≤ 64 ∧ (k = 0 ∨ (k : Int) ≤ n) ∧ i = .int .i64 k ∧ o = .int .u64 (lowN (x / 2 ^ p) k)) (fun _ i => 64 - (intOf i).toNat)
  case atStart => exact ⟨0, by omega, .inl rfl, rfl, by rw [← H0.out]⟩
  case round =>
    obtain ⟨k, hk, hkn, rfl, rfl⟩ := hrel
    have HKN := Lib.hid hkn
    clear hkn
    by_cases hn : (k : Int) < n
    · by_cases h64 : (k : Int) < 64
      · have H := Lib.hid (getr_eq x p k HX.out (by omega))
        go_wp2_with (go_at_call 30; refine (bit_any _ _ _).mono ?_; rintro e w' ⟨rfl, rfl⟩)
        go_round
        case rel => exact ⟨k + 1, by omega, .inr (by omega), by go_num, by rw [← H.out]⟩
        case measure => simp [intOf]; omega
      · have H : Hid (cap64 n = k) := by unfold cap64; exact Lib.hid (by omega)
        go_wp2
        go_ret
        exact ⟨ret_int (by rw [H.out]), rfl⟩
    · have H : Hid (cap64 n = k) := by have := HKN.out; unfold cap64; exact Lib.hid (by omega)
      go_wp2
      go_ret
      exact ⟨ret_int (by rw [H.out]), rfl⟩
theorem refget_any (x : Nat) (p n : Int) (hx : x < 2 ^ 64) (h0 : -9223372036854775808 ≤ n) (h1 : n ≤ 9223372036854775807) (w : World) :
    Calls Try.prog 14 #[.int .u64 x, .int .i64 p, .int .i64 n] w fun e w' => e = .returned (.int .u64 (getN x p n)) ∧ w = w' := by
  by_cases h : p < 0 ∨ 63 < p
  · have H : getN x p n = 0 := by unfold getN; rw [if_neg (by omega)]
    rw [H]
    exact refget_no x p n w h
  · obtain ⟨q, rfl⟩ := Int.eq_ofNat_of_zero_le (show 0 ≤ p by omega)
    rw [getN_mod x q n (by omega), Int.toNat_natCast]
    exact refget_yes x q n hx h0 h1 (by omega) w
theorem putr_eq (x v : Nat) (p n : Int) (k : Nat) (b : Nat) (hb : b = putBit x p n v k) (hx : x < 18446744073709551616) (hv : v < 18446744073709551616) (h : 0 ≤ p ∧ p < 64) (hk : k < 64) :
    bits BinOp.or IntKind.u64 (lowN (putN x p n v) k : Int) (IntKind.u64.wrap ((b : Int) * 2 ^ k)) = (lowN (putN x p n v) (k + 1) : Int) := by
  unfold lowN
  rw [hb, wrap_shl, u64_or_nat _ _ (Nat.lt_of_le_of_lt (Nat.mod_le _ _) (putN_lt x p n v hx)) (Nat.mod_lt _ (by decide)), put_round x p n v k hx hv h hk]
set_option maxHeartbeats 800000 in
theorem refput_yes (x v : Nat) (p n : Int) (hx : x < 2 ^ 64) (hv : v < 2 ^ 64) (h0 : -9223372036854775808 ≤ n) (h1 : n ≤ 9223372036854775807) (h2 : 0 ≤ p) (h3 : p ≤ 63) (w : World) :
    Calls Try.prog 17 #[.int .u64 x, .int .i64 p, .int .i64 n, .int .u64 v] w fun e w' => e = .returned (.int .u64 (putN x p n v)) ∧ w = w' := by
  have HX := Lib.hid hx
  have HV := Lib.hid hv
  clear hx hv
  have HF : Hid (lowN (putN x p n v) 64 = putN x p n v) := Lib.hid (putN_mod x p n v HX.out)
  have H0 : Hid ((0 : Int) = lowN (putN x p n v) 0) := by unfold lowN; rw [Nat.pow_zero, Nat.mod_one]; exact Lib.hid rfl
  go_enter Try.func17, Try.ntmps17
  go_wp2
  go_loop [9, 10, 11] (fun o i _ => ∃ k : Nat, k ≤ 64 ∧ i = .int .i64 k ∧ o = .int .u64 (lowN (putN x p n v) k)) (fun _ i _ => 64 - (intOf i).toNat)
  case atStart => exact ⟨0, by omega, rfl, by rw [← H0.out]⟩
  case round =>
    obtain ⟨k, hk, rfl, rfl⟩ := hrel
    by_cases h64 : (k : Int) < 64
    · by_cases hc : p ≤ k
      · by_cases hn : (k : Int) - p < n
        · have H := Lib.hid (putr_eq x v p n k (bitN v ((k : Int) - p)) (by unfold putBit; rw [if_pos (by omega)]) HX.out HV.out (by omega) (by omega))
          go_wp2_with (go_at_call 30; refine (bit_any _ _ _).mono ?_; rintro e w' ⟨rfl, rfl⟩)
          go_round
          case rel => exact ⟨k + 1, by omega, by go_num, by rw [← H.out]⟩
          case measure => simp [intOf]; omega
        · have H := Lib.hid (putr_eq x v p n k (bitN x k) (by unfold putBit; rw [if_neg (by omega)]) HX.out HV.out (by omega) (by omega))
          go_wp2_with (go_at_call 30; refine (bit_any _ _ _).mono ?_; rintro e w' ⟨rfl, rfl⟩)
          go_round
          case rel => exact ⟨k + 1, by omega, by go_num, by rw [← H.out]⟩
          case measure => simp [intOf]; omega
      · have H := Lib.hid (putr_eq x v p n k (bitN x k) (by unfold putBit; rw [if_neg (by omega)]) HX.out HV.out (by omega) (by omega))
        go_wp2_with (go_at_call 30; refine (bit_any _ _ _).mono ?_; rintro e w' ⟨rfl, rfl⟩)
        go_round
        case rel => exact ⟨k + 1, by omega, by go_num, by rw [← H.out]⟩
        case measure => simp [intOf]; omega
    · obtain rfl : k = 64 := by omega
      go_wp2
      go_ret
      exact ⟨ret_int (by rw [HF.out]), rfl⟩
end Go.Proofs.Ytigbdndjlkmemaa
