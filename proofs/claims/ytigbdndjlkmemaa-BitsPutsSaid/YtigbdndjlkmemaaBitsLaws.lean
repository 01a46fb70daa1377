/- Walks: the statements on bits of numbers return true. Conditions: numbers fit their kinds. -/
import Derived.Test.YtigbdndjlkmemaaBitsAwake
namespace Go.Proofs.Ytigbdndjlkmemaa
open Go.RowKit
set_option maxHeartbeats 400000 in
theorem bitsGets_walk (x : Nat) (p n : Int) (hx : x < 2 ^ 64) (h0 : -9223372036854775808 ≤ n) (h1 : n ≤ 9223372036854775807) (w : World) :
    Calls Try.prog 3 #[.int .u64 x, .int .i64 p, .int .i64 n] w fun e w' => e = .returned (.bool true) ∧ Below w.heap.size w w' := by
  have a1 := get_any x p n hx h0 h1
  have a2 := refget_any x p n hx h0 h1
  have a3 := mask_any n h0 h1
  have a4 := refget_any 18446744073709551615 0 n (by decide) h0 h1
  rw [get_all] at a4
  have A1 := Lib.hid a1
  have A2 := Lib.hid a2
  have A3 := Lib.hid a3
  have A4 := Lib.hid a4
  clear a1 a2 a3 a4 hx h0 h1
  go_enter Try.func3, Try.ntmps3
  go_wp2_with fail
  refine (awake_any _).mono ?_
  rintro e w1 ⟨rfl, h1⟩
  have H1 := Lib.hid h1
  clear h1
  go_wp2_with fail
  refine (A1.out _).mono ?_
  rintro e w2 ⟨rfl, h2⟩
  have H2 := Lib.hid (below_next H1.out (Drew.below h2))
  clear h2
  go_wp2_with fail
  refine (A2.out _).mono ?_
  rintro e w3 ⟨rfl, rfl⟩
  go_wp2_with fail
  refine (A3.out _).mono ?_
  rintro e w4 ⟨rfl, rfl⟩
  go_wp2_with fail
  refine (A4.out _).mono ?_
  rintro e w4 ⟨rfl, rfl⟩
  go_wp2_with fail
  go_ret
  exact ⟨rfl, H2.out⟩
theorem put_out (x : Nat) (p n : Int) (v : Nat) (h : p < 0 ∨ 63 < p) : putN x p n v = x := by unfold putN; rw [if_neg (by omega)]
set_option maxHeartbeats 400000 in
theorem bitsPuts_walk (x v : Nat) (p n : Int) (hx : x < 2 ^ 64) (hv : v < 2 ^ 64) (h0 : -9223372036854775808 ≤ n) (h1 : n ≤ 9223372036854775807) (w : World) :
    Calls Try.prog 4 #[.int .u64 x, .int .i64 p, .int .i64 n, .int .u64 v] w fun e w' => e = .returned (.bool true) ∧ Below w.heap.size w w' := by
  have a1 := put_any x v p n hx hv h0 h1
  by_cases hp : p < 0 ∨ 63 < p
  · rw [put_out x p n v hp] at a1
    have A1 := Lib.hid a1
    clear a1 hx hv h0 h1
    rcases Int.lt_or_le p 0 with h | h
    · clear hp
      go_enter Try.func4, Try.ntmps4
      go_wp2_with fail
      refine (awake_any _).mono ?_
      rintro e w1 ⟨rfl, h1⟩
      have H1 := Lib.hid h1
      clear h1
      go_wp2_with fail
      refine (A1.out _).mono ?_
      rintro e w2 ⟨rfl, h2⟩
      have H2 := Lib.hid (below_next H1.out (Drew.below h2))
      clear h2
      go_wp2_with fail
      go_ret
      exact ⟨rfl, H2.out⟩
    · have h3 : 63 < p := by omega
      clear hp
      go_enter Try.func4, Try.ntmps4
      go_wp2_with fail
      refine (awake_any _).mono ?_
      rintro e w1 ⟨rfl, h1⟩
      have H1 := Lib.hid h1
      clear h1
      go_wp2_with fail
      refine (A1.out _).mono ?_
      rintro e w2 ⟨rfl, h2⟩
      have H2 := Lib.hid (below_next H1.out (Drew.below h2))
      clear h2
      go_wp2_with fail
      go_ret
      exact ⟨rfl, H2.out⟩
  · have h3 : 0 ≤ p := by omega
    have h4 : p ≤ 63 := by omega
    have a2 := refput_yes x v p n hx hv h0 h1 h3 h4
    have A1 := Lib.hid a1
    have A2 := Lib.hid a2
    clear a1 a2 hx hv h0 h1 hp
    go_enter Try.func4, Try.ntmps4
    go_wp2_with fail
    refine (awake_any _).mono ?_
    rintro e w1 ⟨rfl, h1⟩
    have H1 := Lib.hid h1
    clear h1
    go_wp2_with fail
    refine (A1.out _).mono ?_
    rintro e w2 ⟨rfl, h2⟩
    have H2 := Lib.hid (below_next H1.out (Drew.below h2))
    clear h2
    go_wp2_with fail
    refine (A2.out _).mono ?_
    rintro e w3 ⟨rfl, rfl⟩
    go_wp2_with fail
    go_ret
    exact ⟨rfl, H2.out⟩
end Go.Proofs.Ytigbdndjlkmemaa
