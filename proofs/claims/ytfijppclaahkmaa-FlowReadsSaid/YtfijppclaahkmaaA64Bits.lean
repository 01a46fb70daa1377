/- Bits of words of 32, on plain numbers. No condition. -/
import Derived.Test.YtfijppclaahkmaaA64Math
import Derived.Laws.BitsAllLaws
namespace Go.Proofs.Ytfijppclaahkmaa
set_option linter.unusedVariables false
set_option linter.unusedSimpArgs false
theorem mask_bit (lo n j : Nat) : ((2 ^ n - 1) * 2 ^ lo).testBit j = (decide (lo ≤ j) && decide (j < lo + n)) := by
  rw [← Nat.shiftLeft_eq, Nat.testBit_shiftLeft, Nat.testBit_two_pow_sub_one]
  by_cases h : lo ≤ j
  · simp [h]
    omega
  · simp [h]
theorem up_bit (a lo j : Nat) : (a * 2 ^ lo).testBit j = (decide (lo ≤ j) && a.testBit (j - lo)) := by
  rw [← Nat.shiftLeft_eq, Nat.testBit_shiftLeft]
theorem put_nat (a lo n : Nat) (h : lo + n ≤ 32) : (a * 2 ^ lo % 4294967296) &&& ((2 ^ n - 1) * 2 ^ lo) = a % 2 ^ n * 2 ^ lo := by
  apply Nat.eq_of_testBit_eq
  intro j
  rw [Nat.testBit_and, mask_bit, (show 4294967296 = 2 ^ 32 by rfl), Nat.testBit_mod_two_pow, up_bit, up_bit, Nat.testBit_mod_two_pow]
  by_cases h1 : lo ≤ j
  · by_cases h2 : j < lo + n
    · simp [h1, h2, (show j < 32 by omega), (show j - lo < n by omega)]
    · simp [h1, h2, (show ¬ j - lo < n by omega)]
  · simp [h1]
theorem get_nat (w lo n : Nat) : (w &&& ((2 ^ n - 1) * 2 ^ lo)) / 2 ^ lo = w / 2 ^ lo % 2 ^ n := by
  apply Nat.eq_of_testBit_eq
  intro j
  rw [Nat.testBit_div_two_pow, Nat.testBit_and, mask_bit, fld_bit]
  by_cases h1 : j < n
  · simp [h1, (show j + lo < lo + n by omega), Nat.add_comm]
  · simp [h1, (show ¬ j + lo < lo + n by omega)]
theorem over_nat (w lo n v : Nat) (hw : w < 4294967296) (hv : v < 2 ^ n) (h : lo + n ≤ 32) : (w &&& (4294967295 - (2 ^ n - 1) * 2 ^ lo)) ||| (v * 2 ^ lo) = ovr w lo n v := by
  have hm : (2 ^ n - 1) * 2 ^ lo < 2 ^ 32 := by
    refine Nat.lt_pow_two_of_testBit _ fun j hj => ?_
    rw [mask_bit, decide_eq_false (show ¬ j < lo + n by omega), Bool.and_false]
  apply Nat.eq_of_testBit_eq
  intro j
  rw [Nat.testBit_or, Nat.testBit_and, up_bit, ovr_bit _ _ _ _ _ hv, (show 4294967295 - (2 ^ n - 1) * 2 ^ lo = 2 ^ 32 - ((2 ^ n - 1) * 2 ^ lo + 1) by omega), Nat.testBit_two_pow_sub_succ hm, mask_bit]
  by_cases h1 : lo ≤ j
  · by_cases h2 : j < lo + n
    · simp [h1, h2]
    · have : v.testBit (j - lo) = false := Nat.testBit_lt_two_pow (Nat.lt_of_lt_of_le hv (Nat.pow_le_pow_right (by omega) (by omega)))
      rw [this, if_neg (by omega)]
      by_cases h3 : j < 32
      · simp [h1, h2, h3]
      · have : w.testBit j = false := Nat.testBit_lt_two_pow (Nat.lt_of_lt_of_le (show w < 2 ^ 32 by omega) (Nat.pow_le_pow_right (by omega) (by omega)))
        simp [this]
  · rw [if_neg (by omega)]
    by_cases h3 : j < 32
    · simp [h1, h3]
    · have : w.testBit j = false := Nat.testBit_lt_two_pow (Nat.lt_of_lt_of_le (show w < 2 ^ 32 by omega) (Nat.pow_le_pow_right (by omega) (by omega)))
      simp [h1, this]
theorem ovr_lt {w lo n v : Nat} (hw : w < 4294967296) (hv : v < 2 ^ n) (h : lo + n ≤ 32) : ovr w lo n v < 4294967296 := by
  refine Nat.lt_pow_two_of_testBit (n := 32) _ fun j hj => ?_
  rw [ovr_bit _ _ _ _ _ hv, if_neg (by omega)]
  exact Nat.testBit_lt_two_pow (Nat.lt_of_lt_of_le (show w < 2 ^ 32 by omega) (Nat.pow_le_pow_right (by omega) hj))
def mskN (f : Fl) : Nat := (2 ^ f.n - 1) * 2 ^ f.lo
theorem msk_lt {f : Fl} (h : FlOk f) : mskN f < 4294967296 := by
  refine Nat.lt_pow_two_of_testBit (n := 32) _ fun j hj => ?_
  unfold mskN
  have := h.hi
  rw [mask_bit, decide_eq_false (show ¬ j < f.lo + f.n by omega), Bool.and_false]
theorem up_lt {f : Fl} (h : FlOk f) {v : Nat} (hv : v < 2 ^ f.n) : v * 2 ^ f.lo < 4294967296 := by
  have h1 : v * 2 ^ f.lo < 2 ^ f.n * 2 ^ f.lo := Nat.mul_lt_mul_of_pos_right hv (Nat.two_pow_pos _)
  rw [← Nat.pow_add] at h1
  exact Nat.lt_of_lt_of_le h1 (show 2 ^ (f.n + f.lo) ≤ 2 ^ 32 from Nat.pow_le_pow_right (n := 2) (by omega) (by have := h.hi; omega))
/-- a field, written anew, in the words of the machine. -/
theorem over_bits {f : Fl} (h : FlOk f) {w v : Nat} (hw : w < 4294967296) (hv : v < 2 ^ f.n) :
    bits .or .u32 (bits .andNot .u32 (w : Int) ((mskN f : Nat) : Int)) ((v * 2 ^ f.lo : Nat) : Int) = ((ovr w f.lo f.n v : Nat) : Int) := by
  rw [u32_andNot_nat _ _ hw (msk_lt h), u32_or_nat _ _ (Nat.lt_of_le_of_lt Nat.and_le_left hw) (up_lt h hv)]
  unfold mskN
  rw [over_nat _ _ _ _ hw hv h.hi]
theorem over_base {f : Fl} (h : FlOk f) {w s : Nat} (hw : w < 4294967296) (hs : s < 4294967296) :
    bits .or .u32 (bits .andNot .u32 (w : Int) ((mskN f : Nat) : Int)) (bits .and .u32 (s : Int) ((mskN f : Nat) : Int)) = ((ovr w f.lo f.n (s / 2 ^ f.lo % 2 ^ f.n) : Nat) : Int) := by
  have e : s &&& mskN f = s / 2 ^ f.lo % 2 ^ f.n * 2 ^ f.lo := by
    have h1 := get_nat s f.lo f.n
    unfold mskN
    rw [← h1]
    apply Nat.eq_of_testBit_eq
    intro j
    rw [up_bit, Nat.testBit_div_two_pow, Nat.testBit_and, Nat.testBit_and, mask_bit, mask_bit]
    by_cases h2 : f.lo ≤ j
    · simp [h2]
    · simp [h2]
  rw [u32_and_nat _ _ hs (msk_lt h), e, over_bits h hw (Nat.mod_lt _ (Nat.two_pow_pos _))]
/-- a plain number, as a field's bits. -/
theorem put_bits {f : Fl} (h : FlOk f) (a : Nat) (P : Int) (hP : P = ((2 ^ f.lo : Nat) : Int)) : bits .and .u32 ((a : Int) * P % 4294967296) ((mskN f : Nat) : Int) = ((a % 2 ^ f.n * 2 ^ f.lo : Nat) : Int) := by
  subst hP
  rw [← Int.natCast_mul, (show ((a * 2 ^ f.lo : Nat) : Int) % 4294967296 = ((a * 2 ^ f.lo % 4294967296 : Nat) : Int) by omega), u32_and_nat _ _ (Nat.mod_lt _ (by omega)) (msk_lt h)]
  unfold mskN
  rw [put_nat _ _ _ h.hi]
theorem get_bits {f : Fl} (h : FlOk f) (w : Nat) (hw : w < 4294967296) (P : Int) (hP : P = ((2 ^ f.lo : Nat) : Int)) : bits .and .u32 (w : Int) ((mskN f : Nat) : Int) / P = ((w / 2 ^ f.lo % 2 ^ f.n : Nat) : Int) := by
  subst hP
  rw [u32_and_nat _ _ hw (msk_lt h), ← Int.natCast_ediv]
  unfold mskN
  rw [get_nat]
theorem xor_zero32 (a : Nat) (h : a < 4294967296) : bits .xor .u32 (a : Int) 0 = (a : Int) := by
  have := u32_xor_nat a 0 h (by omega)
  rw [Nat.xor_zero] at this
  exact this
end Go.Proofs.Ytfijppclaahkmaa
