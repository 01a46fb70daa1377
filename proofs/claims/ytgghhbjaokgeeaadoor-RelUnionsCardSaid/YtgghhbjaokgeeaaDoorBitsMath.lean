/- Plain laws on the bits of natural numbers below 2^64: masks, some bits, other bits there, bytes. No program in sight; no condition. -/
import Derived.Laws.BitsAllLaws
namespace Go.Proofs.YtgghhbjaokgeeaaDoor
def cap64 (n : Int) : Nat := min n.toNat 64
def mask (n : Int) : Nat := 2 ^ cap64 n - 1
theorem cap64_le (n : Int) : cap64 n ≤ 64 := Nat.min_le_right _ _
theorem mask_lt (n : Int) : mask n < 18446744073709551616 := by
  have h : 2 ^ cap64 n ≤ 2 ^ 64 := Nat.pow_le_pow_right (by decide) (cap64_le n)
  have h0 : 0 < 2 ^ cap64 n := Nat.two_pow_pos _
  unfold mask
  omega
theorem mask_testBit (n : Int) (i : Nat) : (mask n).testBit i = decide (i < cap64 n) := by
  unfold mask; rw [Nat.testBit_two_pow_sub_one]
def getN (x : Nat) (p n : Int) : Nat := if 0 ≤ p ∧ p < 64 then (x / 2 ^ p.toNat) &&& mask n else 0
def putN (x : Nat) (p n : Int) (v : Nat) : Nat :=
  if 0 ≤ p ∧ p < 64 then (x &&& (18446744073709551615 - mask n * 2 ^ p.toNat % 18446744073709551616)) ||| ((v &&& mask n) * 2 ^ p.toNat % 18446744073709551616) else x
theorem tb_shl (m k i : Nat) : (m * 2 ^ k % 18446744073709551616).testBit i = (decide (i < 64) && (decide (k ≤ i) && m.testBit (i - k))) := by
  rw [show (18446744073709551616 : Nat) = 2 ^ 64 from rfl, Nat.testBit_mod_two_pow, ← Nat.shiftLeft_eq, Nat.testBit_shiftLeft]
theorem tb_not (y i : Nat) (h : y < 18446744073709551616) : (18446744073709551615 - y).testBit i = (decide (i < 64) && !y.testBit i) := by
  have := Nat.testBit_two_pow_sub_succ (n := 64) (x := y) h i
  rw [← this]
  congr 1
  omega
theorem tb_lt (x i : Nat) (h : x < 18446744073709551616) (hi : 64 ≤ i) : x.testBit i = false :=
  Nat.testBit_lt_two_pow (Nat.lt_of_lt_of_le h (by rw [show (18446744073709551616 : Nat) = 2 ^ 64 from rfl]; exact Nat.pow_le_pow_right (by decide) hi))
theorem lt_of_tb (x : Nat) (h : ∀ i, 64 ≤ i → x.testBit i = false) : x < 18446744073709551616 := by
  rw [show (18446744073709551616 : Nat) = 2 ^ 64 from rfl]
  exact Nat.lt_pow_two_of_testBit _ h
theorem getN_tb (x : Nat) (p n : Int) (h : 0 ≤ p ∧ p < 64) (i : Nat) : (getN x p n).testBit i = (x.testBit (p.toNat + i) && decide (i < cap64 n)) := by
  unfold getN
  rw [if_pos h, Nat.testBit_and, mask_testBit, Nat.testBit_div_two_pow, Nat.add_comm]
theorem putN_tb (x : Nat) (p n : Int) (v : Nat) (hx : x < 18446744073709551616) (h : 0 ≤ p ∧ p < 64) (i : Nat) :
    (putN x p n v).testBit i = if p.toNat ≤ i ∧ i - p.toNat < cap64 n ∧ i < 64 then v.testBit (i - p.toNat) else x.testBit i := by
  unfold putN
  rw [if_pos h, Nat.testBit_or, Nat.testBit_and, tb_shl, tb_not _ _ (Nat.mod_lt _ (by decide)), tb_shl, Nat.testBit_and, mask_testBit]
  by_cases h64 : i < 64
  · by_cases h1 : p.toNat ≤ i <;> by_cases h2 : i - p.toNat < cap64 n <;> simp [h64, h1, h2]
  · rw [tb_lt x i hx (by omega)]
    simp [h64]
theorem getN_lt (x : Nat) (p n : Int) : getN x p n < 18446744073709551616 := by
  unfold getN
  split
  · exact Nat.lt_of_le_of_lt Nat.and_le_right (mask_lt n)
  · decide
theorem putN_lt (x : Nat) (p n : Int) (v : Nat) (hx : x < 18446744073709551616) : putN x p n v < 18446744073709551616 := by
  by_cases h : 0 ≤ p ∧ p < 64
  · refine lt_of_tb _ fun i hi => ?_
    rw [putN_tb x p n v hx h, if_neg (by omega)]
    exact tb_lt x i hx hi
  · unfold putN; rw [if_neg h]; exact hx
/-! the document's bits -/
def bitN (x : Nat) (n : Int) : Nat := if n < 0 ∨ 63 < n then 0 else x / 2 ^ n.toNat % 2
theorem bitN_le (x : Nat) (n : Int) : bitN x n < 2 := by
  unfold bitN
  split
  · decide
  · exact Nat.mod_lt _ (by decide)
theorem bitN_tb (x : Nat) (hx : x < 18446744073709551616) (k : Nat) : bitN x k = (x.testBit k).toNat := by
  unfold bitN
  rw [Nat.testBit_eq_decide_div_mod_eq]
  split
  · have : x / 2 ^ k = 0 := Nat.div_eq_of_lt (Nat.lt_of_lt_of_le hx (by
      rw [show (18446744073709551616 : Nat) = 2 ^ 64 from rfl]; exact Nat.pow_le_pow_right (by decide) (by omega)))
    rw [this]; rfl
  · rw [Int.toNat_natCast]
    have := Nat.mod_two_eq_zero_or_one (x / 2 ^ k)
    rcases this with h | h <;> rw [h] <;> rfl
theorem bool_tb (b : Bool) (i : Nat) : b.toNat.testBit i = (decide (i = 0) && b) := by
  cases b
  · simp
  · cases i with
    | zero => rfl
    | succ i => simp [Nat.testBit_succ]
/-- out ||| bit k at k, where out is the first k bits of y and the bit is y's. -/
theorem or_bit (y k : Nat) (b : Bool) (hk : k < 64) (hb : b = y.testBit k) : (y % 2 ^ k ||| (b.toNat * 2 ^ k % 18446744073709551616)) = y % 2 ^ (k + 1) := by
  apply Nat.eq_of_testBit_eq
  intro i
  rw [Nat.testBit_or, Nat.testBit_mod_two_pow, Nat.testBit_mod_two_pow, tb_shl, bool_tb, hb]
  by_cases h : i = k
  · subst h; simp [hk]
  · by_cases h1 : i < k
    · simp [h1, show ¬ k ≤ i by omega, show i < k + 1 by omega]
    · simp [h1, show ¬ i < k + 1 by omega, show ¬ i - k = 0 by omega]
theorem getN_mod (x : Nat) (p n : Int) (h : 0 ≤ p ∧ p < 64) : getN x p n = x / 2 ^ p.toNat % 2 ^ cap64 n := by
  unfold getN mask
  rw [if_pos h, Nat.and_two_pow_sub_one_eq_mod]
/-- a round of the document's Get. -/
theorem get_round (x : Nat) (p k : Nat) (hx : x < 18446744073709551616) (hk : k < 64) :
    (x / 2 ^ p % 2 ^ k ||| (bitN x ((p : Int) + (k : Int)) * 2 ^ k % 18446744073709551616)) = x / 2 ^ p % 2 ^ (k + 1) := by
  rw [show (p : Int) + (k : Int) = ((p + k : Nat) : Int) by omega, bitN_tb x hx]
  exact or_bit _ _ _ hk (by rw [Nat.testBit_div_two_pow, Nat.add_comm])
/-- the bit that the document's Put takes in round k. -/
def putBit (x : Nat) (p n : Int) (v : Nat) (k : Nat) : Nat := if 0 ≤ p ∧ p ≤ k ∧ (k : Int) - p < n then bitN v ((k : Int) - p) else bitN x k
theorem putBit_lt (x : Nat) (p n : Int) (v k : Nat) : putBit x p n v k < 2 := by
  unfold putBit; split <;> exact bitN_le _ _
theorem put_round (x : Nat) (p n : Int) (v k : Nat) (hx : x < 18446744073709551616) (hv : v < 18446744073709551616) (h : 0 ≤ p ∧ p < 64) (hk : k < 64) :
    (putN x p n v % 2 ^ k ||| (putBit x p n v k * 2 ^ k % 18446744073709551616)) = putN x p n v % 2 ^ (k + 1) := by
  have hb : putBit x p n v k = ((putN x p n v).testBit k).toNat := by
    rw [putN_tb x p n v hx h]
    unfold putBit
    by_cases hc : 0 ≤ p ∧ p ≤ k ∧ (k : Int) - p < n
    · have hc' : p.toNat ≤ k ∧ k - p.toNat < cap64 n ∧ k < 64 := by unfold cap64; omega
      rw [if_pos hc, if_pos hc', ← bitN_tb v hv, show ((k - p.toNat : Nat) : Int) = (k : Int) - p by omega]
    · have hc' : ¬ (p.toNat ≤ k ∧ k - p.toNat < cap64 n ∧ k < 64) := by unfold cap64; omega
      rw [if_neg hc, if_neg hc', bitN_tb x hx]
  rw [hb]
  exact or_bit _ _ _ hk rfl
theorem putN_mod (x : Nat) (p n : Int) (v : Nat) (hx : x < 18446744073709551616) : putN x p n v % 2 ^ 64 = putN x p n v :=
  Nat.mod_eq_of_lt (putN_lt x p n v hx)
theorem get_all (n : Int) : getN 18446744073709551615 0 n = mask n := by
  apply Nat.eq_of_testBit_eq
  intro i
  rw [getN_tb _ _ _ (by decide), mask_testBit, show (18446744073709551615 : Nat) = 2 ^ 64 - 1 from rfl, Nat.testBit_two_pow_sub_one]
  have := cap64_le n
  by_cases h : i < cap64 n
  · have h2 : i < 64 := by omega
    simp [h, h2]
  · simp [h]
/-! bytes -/
def byteN (x i : Nat) : Nat := x / 2 ^ (8 * i) % 256
def bytesN (x : Nat) (n : Int) : List Nat := (List.range (min n.toNat 8)).map (byteN x)
/-- the number of some bytes: the first 8. -/
def numN : List Nat → Nat
  | [] => 0
  | b :: l => b + 256 * numN l
end Go.Proofs.YtgghhbjaokgeeaaDoor
