/- Walks: bits' functions that steps use. Conditions: numbers fit their kinds. -/
import Derived.Test.YtfijppclaahkmaaProg
import Derived.Test.YtfijppclaahkmaaMore
import Derived.Test.YtfijppclaahkmaaBitsMath
namespace Go.Proofs.Ytfijppclaahkmaa
open Go.RowKit
theorem mask_small (n : Int) (h : n < 1) : mask n = 0 := by
  unfold mask cap64
  rw [show n.toNat = 0 by omega]
  rfl
theorem mask_great (n : Int) (h : 64 ≤ n) : mask n = 18446744073709551615 := by
  unfold mask cap64
  rw [show min n.toNat 64 = 64 by omega]
theorem mask_mid (n : Int) (h : 1 ≤ n) (h2 : n < 64) : IntKind.u64.wrap (IntKind.u64.wrap (2 ^ n.toNat) - 1) = (mask n : Int) := by
  have h3 : 2 ^ n.toNat ≤ 2 ^ 63 := Nat.pow_le_pow_right (by decide) (by omega)
  have h4 : 0 < 2 ^ n.toNat := Nat.two_pow_pos _
  have e : ((2 : Int) ^ n.toNat) = ((2 ^ n.toNat : Nat) : Int) := by simp
  unfold mask cap64
  rw [show min n.toNat 64 = n.toNat by omega, IntKind.wrap_u64, IntKind.wrap_u64, e]
  generalize 2 ^ n.toNat = t at *
  omega
theorem ret_intB {k : IntKind} {a b : Int} (h : a = b) : Ending.returned (.int k a) = .returned (.int k b) := by rw [h]
set_option maxHeartbeats 400000 in
theorem bmask_any (n : Int) (h0 : -9223372036854775808 ≤ n) (h1 : n ≤ 9223372036854775807) (w : World) :
    Calls Try.prog 27 #[.int .i64 n] w fun e w' => e = .returned (.int .u64 (mask n)) ∧ w = w' := by
  by_cases hn : n < 1
  · have H := Lib.hid (mask_small n hn)
    go_enter Try.func27, Try.ntmps27
    go_wp2
    go_ret
    exact ⟨ret_intB (by rw [H.out]; rfl), rfl⟩
  by_cases hm : 64 ≤ n
  · have H := Lib.hid (mask_great n hm)
    go_enter Try.func27, Try.ntmps27
    go_wp2
    go_ret
    exact ⟨ret_intB (by rw [H.out]; rfl), rfl⟩
  · have H := Lib.hid (mask_mid n (by omega) (by omega))
    go_enter Try.func27, Try.ntmps27
    go_wp2
    go_ret
    exact ⟨ret_intB H.out, rfl⟩
theorem in_yes (p : Int) (w : World) (h : 0 ≤ p) (h2 : p < 64) :
    Calls Try.prog 48 #[.int .i64 p] w fun e w' => e = .returned (.bool true) ∧ w = w' := by
  go_enter Try.func48, Try.ntmps48
  go_wp2
  go_ret
  exact ⟨rfl, rfl⟩
theorem in_no (p : Int) (w : World) (h : p < 0 ∨ 64 ≤ p) :
    Calls Try.prog 48 #[.int .i64 p] w fun e w' => e = .returned (.bool false) ∧ w = w' := by
  rcases Int.lt_or_le p 0 with h1 | h1
  · clear h
    go_enter Try.func48, Try.ntmps48
    go_wp2
    go_ret
    exact ⟨rfl, rfl⟩
  · have h2 : ¬ p < 64 := by omega
    clear h
    go_enter Try.func48, Try.ntmps48
    go_wp2
    go_ret
    exact ⟨rfl, rfl⟩
theorem mul_nat (x p : Nat) : (x : Int) * 2 ^ p = ((x * 2 ^ p : Nat) : Int) := by
  rw [Int.natCast_mul]; simp
theorem wrap_nat (x : Nat) : IntKind.u64.wrap (x : Int) = ((x % 18446744073709551616 : Nat) : Int) := by
  rw [IntKind.wrap_u64]; omega
theorem put_eq (x v : Nat) (p n : Int) (hx : x < 18446744073709551616) (hv : v < 18446744073709551616) (h2 : 0 ≤ p) (h3 : p < 64) :
    bits BinOp.or IntKind.u64 (bits BinOp.andNot IntKind.u64 (↑x) (IntKind.u64.wrap (↑(mask n) * 2 ^ p.toNat))) (IntKind.u64.wrap (bits BinOp.and IntKind.u64 ↑v ↑(mask n) * 2 ^ p.toNat)) = (putN x p n v : Int) := by
  have hm : ∀ y : Nat, y % 18446744073709551616 < 18446744073709551616 := fun y => Nat.mod_lt _ (by decide)
  rw [u64_and_nat _ _ hv (mask_lt n), mul_nat, mul_nat, wrap_nat, wrap_nat, u64_andNot_nat _ _ hx (hm _), u64_or_nat _ _ (Nat.lt_of_le_of_lt Nat.and_le_left hx) (hm _)]
  unfold putN
  rw [if_pos ⟨h2, h3⟩]
set_option maxHeartbeats 400000 in
theorem bput_any (x v : Nat) (p n : Int) (hx : x < 2 ^ 64) (hv : v < 2 ^ 64) (h0 : -9223372036854775808 ≤ n) (h1 : n ≤ 9223372036854775807) (w : World) :
    Calls Try.prog 41 #[.int .u64 x, .int .i64 p, .int .i64 n, .int .u64 v] w fun e w' => e = .returned (.int .u64 (putN x p n v)) ∧ Drew w w' := by
  by_cases hp : 0 ≤ p ∧ p < 64
  · have H := Lib.hid (put_eq x v p n hx hv hp.1 hp.2)
    obtain ⟨h2, h3⟩ := hp
    clear hx hv
    go_enter Try.func41, Try.ntmps41
    go_wp2_with (go_at_call 48; refine (in_yes _ _ (by omega) (by omega)).mono ?_; rintro e w' ⟨rfl, rfl⟩)
    go_quiet ((go_at_call 27; exact quiet_left (bmask_any _ (by omega) (by omega) _)))
    go_wp2
    go_ret
    exact ⟨ret_intB H.out, Drew.mk_ _ _⟩
  · have H : Hid (putN x p n v = x) := by unfold putN; rw [if_neg hp]; exact Lib.hid rfl
    have h4 : p < 0 ∨ 64 ≤ p := by omega
    have H4 := Lib.hid h4
    clear hp h4 hx hv
    go_enter Try.func41, Try.ntmps41
    go_wp2_with (go_at_call 48; refine (in_no _ _ H4.out).mono ?_; rintro e w' ⟨rfl, rfl⟩)
    go_ret
    exact ⟨ret_intB (by rw [H.out]), Drew.refl _⟩
end Go.Proofs.Ytfijppclaahkmaa
