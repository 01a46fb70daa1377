/- Walk: the document's bytes of a number. Conditions: numbers fit their kinds. -/
import Derived.Test.YtigbdndjlkmemaaBitsBytes
namespace Go.Proofs.Ytigbdndjlkmemaa
open Go.RowKit
def bytesV (x k : Nat) : List Value := (List.range k).map (byteV x)
theorem bytesV_succ (x k : Nat) : bytesV x (k + 1) = bytesV x k ++ [byteV x k] := by unfold bytesV; rw [List.range_succ, List.map_append]; rfl
theorem bytesV_zero (x : Nat) : bytesV x 0 = [] := rfl
def shiftN (x k : Nat) : Nat := x / 2 ^ (8 * k)
theorem shiftN_succ (x k : Nat) : (shiftN x k : Int).tdiv 256 = (shiftN x (k + 1) : Int) := by
  unfold shiftN
  rw [Int.tdiv_eq_ediv_of_nonneg (Int.natCast_nonneg _), show 8 * (k + 1) = 8 * k + 8 by omega, Nat.pow_add, ← Nat.div_div_eq_div_mul]
  omega
theorem byte_eq2 (x k : Nat) : Value.int .u8 ((shiftN x k : Int) % 256) = byteV x k := by
  unfold byteV byteN shiftN
  congr 1
theorem shiftN_succ' (x k : Nat) : (shiftN x k : Int) / 256 = (shiftN x (k + 1) : Int) := by
  rw [← shiftN_succ, Int.tdiv_eq_ediv_of_nonneg (Int.natCast_nonneg _)]
theorem shiftN_wrap (x k : Nat) (hx : x < 18446744073709551616) : IntKind.u64.wrap (shiftN x k : Int) = (shiftN x k : Int) := by
  rw [wrap_nat, Nat.mod_eq_of_lt (Nat.lt_of_le_of_lt (show shiftN x k ≤ x from Nat.div_le_self _ _) hx)]
set_option maxHeartbeats 400000 in
theorem refbytes_any (x : Nat) (hx : x < 2 ^ 64) (n : Int) (h0 : -9223372036854775808 ≤ n) (h1 : n ≤ 9223372036854775807) (w : World) :
    Calls Try.prog 19 #[.int .u64 x, .int .i64 n] w fun e w' => ∃ v, e = .returned v ∧ w'.ownsRow w.heap.size 5 1 v (min n.toNat 8) (bytesV x (min n.toNat 8)) ∧ Below w.heap.size w w' := by
  have HW := Lib.hid (fun k => shiftN_wrap x k hx)
  clear hx
  obtain ⟨i0, hi, hz0, hz1, hz2⟩ := info_parts u8_info
  have HX : Hid ((x : Int) = shiftN x 0) := by unfold shiftN; rw [Nat.mul_zero, Nat.pow_zero, Nat.div_one]; exact Lib.hid rfl
  go_enter Try.func19, Try.ntmps19
  go_wp2
  go_loopw [0, 5, 6] (fun y v i wr => ∃ k : Nat, k ≤ 8 ∧ (k = 0 ∨ (k : Int) ≤ n) ∧ i = .int .i64 k ∧ y = .int .u64 (shiftN x k) ∧ wr.ownsRow w.heap.size 5 1 v k (bytesV x k) ∧ Below w.heap.size w wr) (fun _ _ i _ => 8 - (intOf i).toNat)
  case atStart => exact ⟨0, by omega, .inl rfl, rfl, by rw [← HX.out], World.ownsRow_lit w #[] 0 (Nat.le_refl _) (by decide) rfl, (Below.refl _ _).alloc (Nat.le_refl _) _⟩
  case round =>
    obtain ⟨k, hk, hkn, rfl, rfl, hown, hb⟩ := hrel
    have HKN := Lib.hid hkn
    clear hkn
    have HO := Lib.hid hown
    have HB := Lib.hid hb
    clear hown hb
    by_cases hn : (k : Int) < n
    · by_cases h64 : (k : Int) < 8
      · have H := Lib.hid (byte_eq2 x k)
        have HS := Lib.hid (shiftN_succ' x k)
        go_wp2_with (at_builtin; refine wpList_append_own _ rfl _ _ 29 rfl w.heap.size 5 i0 (.int .u8 0) 1 1 Try.underlying29 hi hz0 hz1 hz2 rfl (by decide) _ _ _ rfl (HO.out.alloc _) ⟨wr.heap.size, 0, none⟩ 1 1 [.int .u8 ((shiftN x k : Int) % 256)] rfl rfl ?c1 ?c2 ?c3 ?c4 ?c5 ?_)
        case c1 =>
          intro j u hj
          match j, hj with
          | 0, hj => simp at hj; subst hj; simp [Addr.add]
        case c2 => intro u hu; simp at hu; subst hu; rfl
        case c3 => unfold maxLen; omega
        case c4 => omega
        case c5 => have := HB.out.size; simp; omega
        intro v' w1 hown' hgrow _
        rw [H.out, ← bytesV_succ] at hown'
        have HO' := Lib.hid hown'
        have hb1 := (HB.out.alloc HB.out.size _).grown hgrow (by have := HB.out.size; simp; omega) (fun g hg => (HO.out.lt g hg).1)
        have HB' := Lib.hid hb1
        clear hown' hgrow hb1
        go_wp2
        go_roundw
        case rel => exact ⟨k + 1, by omega, .inr (by omega), by go_num, by rw [HS.out, HW.out], HO'.out, HB'.out⟩
        case measure => simp [intOf]; omega
      · obtain rfl : k = 8 := by omega
        have H : Hid (min n.toNat 8 = 8) := Lib.hid (by omega)
        go_wp2
        go_ret
        exact ⟨_, rfl, by rw [H.out]; exact HO.out, HB.out⟩
    · have H : Hid (min n.toNat 8 = k) := by have := HKN.out; exact Lib.hid (by omega)
      go_wp2
      go_ret
      exact ⟨_, rfl, by rw [H.out]; exact HO.out, HB.out⟩
end Go.Proofs.Ytigbdndjlkmemaa
