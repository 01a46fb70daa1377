/- Walks: the statements on bits of numbers return true. Conditions: numbers fit their kinds. -/
import Derived.Test.YtigbdndjlkmemaaBitsAwake
import Derived.Test.YtigbdndjlkmemaaBitsMath2
namespace Go.Proofs.Ytigbdndjlkmemaa
open Go.RowKit
set_option linter.unusedVariables false
theorem and_nat (a b : Nat) (ha : a < 2 ^ 64) (hb : b < 2 ^ 64) : bits .and .u64 (a : Int) (b : Int) = ((a &&& b : Nat) : Int) := u64_and_nat a b ha hb
theorem u64_max : IntKind.u64.max = ((18446744073709551615 : Nat) : Int) := by decide
theorem xor_ones (y : Nat) (hy : y < 18446744073709551616) : 18446744073709551615 ^^^ y = 18446744073709551615 - y := by
  apply Nat.eq_of_testBit_eq
  intro i
  rw [Nat.testBit_xor, tb_not y i hy, show (18446744073709551615 : Nat) = 2 ^ 64 - 1 from rfl, Nat.testBit_two_pow_sub_one]
  by_cases h : i < 64
  · simp [h]
  · rw [tb_lt y i hy (by omega)]; simp [h]
theorem rest_eq (a n : Nat) : bits BinOp.xor IntKind.u64 IntKind.u64.max (IntKind.u64.wrap ((mask ((n : Int) % 64) : Int) * 2 ^ (a % 64))) = (restN (a % 64) (n % 64) : Int) := by
  rw [wrap_shl, u64_max, u64_xor_nat _ _ (by decide) (Nat.mod_lt _ (by decide)), xor_ones _ (Nat.mod_lt _ (by decide)), show (n : Int) % 64 = ((n % 64 : Nat) : Int) by omega]
  rfl
theorem back1 (x v a n : Nat) (hx : x < 2 ^ 64) (hv : v < 2 ^ 64) :
    (getN (putN x ((a : Int) % 64) ((n : Int) % 64) v) ((a : Int) % 64) ((n : Int) % 64) : Int) = bits BinOp.and IntKind.u64 (bits BinOp.and IntKind.u64 (v : Int) (mask ((n : Int) % 64) : Int)) (mask (64 - (a : Int) % 64) : Int) := by
  rw [u64_and_nat _ _ hv (mask_lt _), u64_and_nat _ _ (Nat.lt_of_le_of_lt Nat.and_le_left hv) (mask_lt _), show (n : Int) % 64 = ((n % 64 : Nat) : Int) by omega, show (a : Int) % 64 = ((a % 64 : Nat) : Int) by omega,
    back_get x v (a % 64) (n % 64) hx (by omega) (by omega)]
theorem back2 (x v a n : Nat) (hx : x < 2 ^ 64) :
    (bits BinOp.and IntKind.u64 (putN x ((a : Int) % 64) ((n : Int) % 64) v : Int) (bits BinOp.xor IntKind.u64 IntKind.u64.max (IntKind.u64.wrap ((mask ((n : Int) % 64) : Int) * 2 ^ (a % 64)))) ==
      bits BinOp.and IntKind.u64 (x : Int) (bits BinOp.xor IntKind.u64 IntKind.u64.max (IntKind.u64.wrap ((mask ((n : Int) % 64) : Int) * 2 ^ (a % 64))))) = true := by
  rw [rest_eq, u64_and_nat _ _ (putN_lt _ _ _ _ hx) (restN_lt _ _), u64_and_nat _ _ hx (restN_lt _ _), show (n : Int) % 64 = ((n % 64 : Nat) : Int) by omega, show (a : Int) % 64 = ((a % 64 : Nat) : Int) by omega,
    back_rest x v (a % 64) (n % 64) hx (by omega) (by omega)]
  exact beq_self_eq_true _
theorem back3 (x v a n : Nat) (hx : x < 2 ^ 64) :
    putN (putN x ((a : Int) % 64) ((n : Int) % 64) v) ((a : Int) % 64) ((n : Int) % 64) (getN x ((a : Int) % 64) ((n : Int) % 64)) = x := by
  rw [show (n : Int) % 64 = ((n % 64 : Nat) : Int) by omega, show (a : Int) % 64 = ((a % 64 : Nat) : Int) by omega, back_put x v (a % 64) (n % 64) hx (by omega) (by omega)]
theorem number_back (x : Nat) (hx : x < 2 ^ 64) (b : Nat) (w : World) (h : w.rowIs b 5 8 (byteV x)) :
    Calls Try.prog 20 #[.slice (some ⟨b, 0, none⟩) 8 8] w fun e w' => e = .returned (.int .u64 x) ∧ w = w' := by
  have := number_any b 0 8 8 (bytesL x 8) (bytesL_small x 8) (by simp [bytesL]) (by omega) (by omega) w (fun k hk => by
    rw [Nat.zero_add, h.cell hk]
    unfold byteV byteC
    rw [bytesL_getD x 8 k hk])
  rw [num_back x hx] at this
  exact this
set_option maxHeartbeats 800000 in
theorem bitsBack_walk (x v a n : Nat) (hx : x < 2 ^ 64) (hv : v < 2 ^ 64) (ha : a < 256) (hn : n < 256) (w : World) :
    Calls Try.prog 6 #[.int .u64 x, .int .u8 a, .int .u8 n, .int .u64 v] w fun e w' => e = .returned (.bool true) ∧ Below w.heap.size w w' := by
  have a1 := put_any x v ((a : Int) % 64) ((n : Int) % 64) hx hv (by omega) (by omega)
  have a2 := get_any (putN x ((a : Int) % 64) ((n : Int) % 64) v) ((a : Int) % 64) ((n : Int) % 64) (putN_lt _ _ _ _ hx) (by omega) (by omega)
  rw [back1 x v a n hx hv] at a2
  have a3 := get_any x ((a : Int) % 64) ((n : Int) % 64) hx (by omega) (by omega)
  have a4 := put_any (putN x ((a : Int) % 64) ((n : Int) % 64) v) (getN x ((a : Int) % 64) ((n : Int) % 64)) ((a : Int) % 64) ((n : Int) % 64) (putN_lt _ _ _ _ hx) (getN_lt _ _ _) (by omega) (by omega)
  rw [back3 x v a n hx] at a4
  have a5 := number_back x hx
  have a6 := bytes_any x 8
  have A1 := Lib.hid a1
  have A2 := Lib.hid a2
  have A3 := Lib.hid a3
  have A4 := Lib.hid a4
  have A5 := Lib.hid a5
  have A6 := Lib.hid a6
  have B2 := Lib.hid (back2 x v a n hx)
  clear a1 a2 a3 a4 a5 a6 hx hv
  go_enter Try.func6, Try.ntmps6
  go_wp2_with fail
  refine (A1.out _).mono ?_
  rintro e w1 ⟨rfl, h1⟩
  have H1 := Lib.hid (Drew.below h1)
  clear h1
  go_wp2_with fail
  refine (mask_any _ (by omega) (by omega) _).mono ?_
  rintro e w' ⟨rfl, rfl⟩
  go_wp2_with fail
  refine (awake_any _).mono ?_
  rintro e w2 ⟨rfl, h2⟩
  have H2 := Lib.hid (below_next H1.out h2)
  clear h2
  go_wp2_with fail
  refine (A2.out _).mono ?_
  rintro e w3 ⟨rfl, h3⟩
  have H3 := Lib.hid (below_next H2.out (Drew.below h3))
  clear h3
  go_wp2_with fail
  refine (mask_any _ (by omega) (by omega) _).mono ?_
  rintro e w' ⟨rfl, rfl⟩
  go_wp2_with fail
  refine (mask_any _ (by omega) (by omega) _).mono ?_
  rintro e w' ⟨rfl, rfl⟩
  have b2 := B2.out
  go_wp2_with fail
  clear b2
  refine (A3.out _).mono ?_
  rintro e w4 ⟨rfl, h4⟩
  have H4 := Lib.hid (below_next H3.out (Drew.below h4))
  clear h4
  go_wp2_with fail
  refine (A4.out _).mono ?_
  rintro e w5 ⟨rfl, h5⟩
  have H5 := Lib.hid (below_next H4.out (Drew.below h5))
  clear h5
  go_wp2_with fail
  refine (A6.out _).mono ?_
  rintro e w6 ⟨rfl, hr, h6⟩
  have H6 := Lib.hid (below_next H5.out h6)
  have HR := Lib.hid hr
  clear h6 hr
  go_wp2_with fail
  refine (A5.out _ _ HR.out).mono ?_
  rintro e w7 ⟨rfl, rfl⟩
  go_wp2_with fail
  go_ret
  exact ⟨rfl, H6.out⟩
theorem ap1 (x v u p k : Nat) (hx : x < 2 ^ 64) : putN (putN x ((p : Int) % 64) ((k : Int) % 20) v) ((p : Int) % 64) ((k : Int) % 20) u = putN x ((p : Int) % 64) ((k : Int) % 20) u := by
  rw [show (k : Int) % 20 = ((k % 20 : Nat) : Int) by omega, show (p : Int) % 64 = ((p % 64 : Nat) : Int) by omega, apart_same x v u (p % 64) (k % 20) hx (by omega) (by omega)]
theorem ap2 (x v u p k q j : Nat) (hx : x < 2 ^ 64) (hd : (p : Int) % 64 + (k : Int) % 20 ≤ (q : Int) % 64 ∨ (q : Int) % 64 + (j : Int) % 20 ≤ (p : Int) % 64) :
    putN (putN x ((p : Int) % 64) ((k : Int) % 20) v) ((q : Int) % 64) ((j : Int) % 20) u = putN (putN x ((q : Int) % 64) ((j : Int) % 20) u) ((p : Int) % 64) ((k : Int) % 20) v := by
  rw [show (k : Int) % 20 = ((k % 20 : Nat) : Int) by omega, show (p : Int) % 64 = ((p % 64 : Nat) : Int) by omega, show (j : Int) % 20 = ((j % 20 : Nat) : Int) by omega, show (q : Int) % 64 = ((q % 64 : Nat) : Int) by omega,
    apart_swap x v u (p % 64) (k % 20) (q % 64) (j % 20) hx (by omega) (by omega) (by omega) (by omega) (by omega)]
set_option maxHeartbeats 800000 in
theorem bitsApart_yes (x v u p k q j : Nat) (hx : x < 2 ^ 64) (hv : v < 2 ^ 64) (hu : u < 2 ^ 64) (h1 : p < 256) (h2 : k < 256) (h3 : q < 256) (h4 : j < 256)
    (g1 : (q : Int) % 64 < (p : Int) % 64 + (k : Int) % 20) (g2 : (p : Int) % 64 < (q : Int) % 64 + (j : Int) % 20) (w : World) :
    Calls Try.prog 7 #[.int .u64 x, .int .u8 p, .int .u8 k, .int .u8 q, .int .u8 j, .int .u64 v, .int .u64 u] w fun e w' => e = .returned (.bool true) ∧ Below w.heap.size w w' := by
  have a1 := put_any x v ((p : Int) % 64) ((k : Int) % 20) hx hv (by omega) (by omega)
  have a2 := put_any (putN x ((p : Int) % 64) ((k : Int) % 20) v) u ((p : Int) % 64) ((k : Int) % 20) (putN_lt _ _ _ _ hx) hu (by omega) (by omega)
  rw [ap1 x v u p k hx] at a2
  have a3 := put_any x u ((p : Int) % 64) ((k : Int) % 20) hx hu (by omega) (by omega)
  have A1 := Lib.hid a1
  have A2 := Lib.hid a2
  have A3 := Lib.hid a3
  clear a1 a2 a3 hx hv hu
  go_enter Try.func7, Try.ntmps7
  go_wp2_with fail
  refine (awake_any _).mono ?_
  rintro e w1 ⟨rfl, h1⟩
  have H1 := Lib.hid h1
  clear h1
  go_wp2_with fail
  refine (A1.out _).mono ?_
  rintro e w2 ⟨rfl, h2⟩
  have H2 := Lib.hid (below_next H1.out (Drew.below h2))
  clear h2
  go_wp2_with fail
  refine (A2.out _).mono ?_
  rintro e w3 ⟨rfl, h3⟩
  have H3 := Lib.hid (below_next H2.out (Drew.below h3))
  clear h3
  go_wp2_with fail
  refine (A3.out _).mono ?_
  rintro e w4 ⟨rfl, h4⟩
  have H4 := Lib.hid (below_next H3.out (Drew.below h4))
  clear h4
  go_wp2_with fail
  go_ret
  exact ⟨rfl, H4.out⟩
set_option maxHeartbeats 800000 in
theorem bitsApart_no (x v u p k q j : Nat) (hx : x < 2 ^ 64) (hv : v < 2 ^ 64) (hu : u < 2 ^ 64) (h1 : p < 256) (h2 : k < 256) (h3 : q < 256) (h4 : j < 256)
    (hd : (p : Int) % 64 + (k : Int) % 20 ≤ (q : Int) % 64 ∨ (q : Int) % 64 + (j : Int) % 20 ≤ (p : Int) % 64) (w : World) :
    Calls Try.prog 7 #[.int .u64 x, .int .u8 p, .int .u8 k, .int .u8 q, .int .u8 j, .int .u64 v, .int .u64 u] w fun e w' => e = .returned (.bool true) ∧ Below w.heap.size w w' := by
  have a1 := put_any x v ((p : Int) % 64) ((k : Int) % 20) hx hv (by omega) (by omega)
  have a2 := put_any (putN x ((p : Int) % 64) ((k : Int) % 20) v) u ((q : Int) % 64) ((j : Int) % 20) (putN_lt _ _ _ _ hx) hu (by omega) (by omega)
  rw [ap2 x v u p k q j hx hd] at a2
  have a3 := put_any x u ((q : Int) % 64) ((j : Int) % 20) hx hu (by omega) (by omega)
  have a4 := put_any (putN x ((q : Int) % 64) ((j : Int) % 20) u) v ((p : Int) % 64) ((k : Int) % 20) (putN_lt _ _ _ _ hx) hv (by omega) (by omega)
  have A1 := Lib.hid a1
  have A2 := Lib.hid a2
  have A3 := Lib.hid a3
  have A4 := Lib.hid a4
  clear a1 a2 a3 a4 hx hv hu
  by_cases g1 : (q : Int) % 64 < (p : Int) % 64 + (k : Int) % 20
  · have g2 : ¬ (p : Int) % 64 < (q : Int) % 64 + (j : Int) % 20 := by omega
    clear hd
    go_enter Try.func7, Try.ntmps7
    go_wp2_with fail
    refine (A1.out _).mono ?_
    rintro e w2 ⟨rfl, h2⟩
    have H2 := Lib.hid (Drew.below h2)
    clear h2
    go_wp2_with fail
    refine (A2.out _).mono ?_
    rintro e w3 ⟨rfl, h3⟩
    have H3 := Lib.hid (below_next H2.out (Drew.below h3))
    clear h3
    go_wp2_with fail
    refine (awake_any _).mono ?_
    rintro e w1 ⟨rfl, h1⟩
    have H1 := Lib.hid (below_next H3.out h1)
    clear h1
    go_wp2_with fail
    refine (A3.out _).mono ?_
    rintro e w4 ⟨rfl, h4⟩
    have H4 := Lib.hid (below_next H1.out (Drew.below h4))
    clear h4
    go_wp2_with fail
    refine (A4.out _).mono ?_
    rintro e w5 ⟨rfl, h5⟩
    have H5 := Lib.hid (below_next H4.out (Drew.below h5))
    clear h5
    go_wp2_with fail
    go_ret
    exact ⟨rfl, H5.out⟩
  · clear hd
    go_enter Try.func7, Try.ntmps7
    go_wp2_with fail
    refine (A1.out _).mono ?_
    rintro e w2 ⟨rfl, h2⟩
    have H2 := Lib.hid (Drew.below h2)
    clear h2
    go_wp2_with fail
    refine (A2.out _).mono ?_
    rintro e w3 ⟨rfl, h3⟩
    have H3 := Lib.hid (below_next H2.out (Drew.below h3))
    clear h3
    go_wp2_with fail
    refine (awake_any _).mono ?_
    rintro e w1 ⟨rfl, h1⟩
    have H1 := Lib.hid (below_next H3.out h1)
    clear h1
    go_wp2_with fail
    refine (A3.out _).mono ?_
    rintro e w4 ⟨rfl, h4⟩
    have H4 := Lib.hid (below_next H1.out (Drew.below h4))
    clear h4
    go_wp2_with fail
    refine (A4.out _).mono ?_
    rintro e w5 ⟨rfl, h5⟩
    have H5 := Lib.hid (below_next H4.out (Drew.below h5))
    clear h5
    go_wp2_with fail
    go_ret
    exact ⟨rfl, H5.out⟩
theorem bitsApart_walk (x v u p k q j : Nat) (hx : x < 2 ^ 64) (hv : v < 2 ^ 64) (hu : u < 2 ^ 64) (h1 : p < 256) (h2 : k < 256) (h3 : q < 256) (h4 : j < 256) (w : World) :
    Calls Try.prog 7 #[.int .u64 x, .int .u8 p, .int .u8 k, .int .u8 q, .int .u8 j, .int .u64 v, .int .u64 u] w fun e w' => e = .returned (.bool true) ∧ Below w.heap.size w w' := by
  by_cases g : (q : Int) % 64 < (p : Int) % 64 + (k : Int) % 20 ∧ (p : Int) % 64 < (q : Int) % 64 + (j : Int) % 20
  · exact bitsApart_yes x v u p k q j hx hv hu h1 h2 h3 h4 g.1 g.2 w
  · exact bitsApart_no x v u p k q j hx hv hu h1 h2 h3 h4 (by omega) w
theorem masks_eq (n : Nat) : IntKind.u64.wrap (IntKind.u64.wrap (2 * (mask ((n : Int) % 64) : Int)) + 1) = (mask ((n : Int) % 64 + 1) : Int) := by
  have h := mask_succ (n % 64) (by omega)
  have h2 := mask_lt (((n % 64 : Nat) : Int) + 1)
  rw [show (n : Int) % 64 = ((n % 64 : Nat) : Int) by omega, show 2 * (mask ((n % 64 : Nat) : Int) : Int) = ((2 * mask ((n % 64 : Nat) : Int) : Nat) : Int) by omega, wrap_nat,
    show ((2 * mask ((n % 64 : Nat) : Int) % 18446744073709551616 : Nat) : Int) + 1 = ((2 * mask ((n % 64 : Nat) : Int) % 18446744073709551616 + 1 : Nat) : Int) by omega, wrap_nat, ← h]
  omega
set_option maxHeartbeats 800000 in
theorem bitsMasks_walk (x n : Nat) (hx : x < 2 ^ 64) (h1 : n < 256) (w : World) :
    Calls Try.prog 8 #[.int .u8 n, .int .u64 x] w fun e w' => e = .returned (.bool true) ∧ Below w.heap.size w w' := by
  have A1 := Lib.hid (bytes_any x 8)
  have A2 := Lib.hid (fun (i : Nat) => get_any x (8 * (i : Int)) 8 hx (by omega) (by omega))
  clear hx
  have a4 := mask_any ((n : Int) % 64 + 1) (by omega) (by omega)
  rw [← masks_eq n] at a4
  have A4 := Lib.hid a4
  clear a4
  go_enter Try.func8, Try.ntmps8
  go_wp2_with fail
  refine (A1.out _).mono ?_
  rintro e w1 ⟨rfl, hr, hb⟩
  have HR := Lib.hid hr
  have HB := Lib.hid hb
  clear hr hb
  go_wp2_with fail
  go_loopw [7] (fun i wr => ∃ k : Nat, k ≤ 8 ∧ i = .int .i64 k ∧ Below w.heap.size w wr ∧ wr.rowIs w.heap.size 5 8 (byteV x)) (fun i _ => 8 - (intOf i).toNat)
  case atStart => exact ⟨0, by omega, rfl, HB.out, HR.out⟩
  case round =>
    obtain ⟨k, hk, rfl, hb, hrow⟩ := hrel
    by_cases hlt : (k : Int) < 8
    · have hc := hrow.cell (i := k) (by omega)
      have e1 := get_byte x k (by omega)
      have a2 := A2.out k
      have hs : byteN x k < 256 := Nat.mod_lt _ (by decide)
      unfold byteV at hc
      rw [e1] at a2
      have HB' := Lib.hid hb
      have HR' := Lib.hid hrow
      clear hb hrow e1
      generalize byteN x k = c at hc a2 hs
      have A2' := Lib.hid a2
      clear a2
      go_wp2_with fail
      go_quiet ((go_at_call 13; exact quiet_drew (A2'.out _)))
      go_wp2
      go_roundw
      case rel => exact ⟨k + 1, by omega, by go_num, below_drewN HB'.out _, HR'.out⟩
      case measure => simp [intOf]; omega
    · obtain rfl : k = 8 := by omega
      have HB' := Lib.hid hb
      clear hb hrow
      go_wp2_with fail
      refine (awake_any _).mono ?_
      rintro e w2 ⟨rfl, h2⟩
      have H2 := Lib.hid (below_next HB'.out h2)
      clear h2
      go_wp2_with fail
      refine (A4.out _).mono ?_
      rintro e w' ⟨rfl, rfl⟩
      go_wp2_with fail
      refine (mask_any _ (by omega) (by omega) _).mono ?_
      rintro e w' ⟨rfl, rfl⟩
      go_wp2_with fail
      go_ret
      exact ⟨rfl, H2.out⟩
end Go.Proofs.Ytigbdndjlkmemaa
