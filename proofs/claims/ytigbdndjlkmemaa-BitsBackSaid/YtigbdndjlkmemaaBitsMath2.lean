/- Plain laws: what was put is there; bits put apart; masks; bytes are the number again. No program in sight. -/
import Derived.Test.YtigbdndjlkmemaaBitsNumMath
namespace Go.Proofs.Ytigbdndjlkmemaa
set_option linter.unusedVariables false
theorem back_get (x v a k : Nat) (hx : x < 18446744073709551616) (ha : a < 64) (hk : k < 64) :
    getN (putN x a k v) a k = v &&& mask k &&& mask (64 - (a : Int)) := by
  apply Nat.eq_of_testBit_eq
  intro i
  have h : 0 ≤ (a : Int) ∧ (a : Int) < 64 := by omega
  rw [getN_tb _ _ _ h, putN_tb x _ _ v hx h, Nat.testBit_and, Nat.testBit_and, mask_testBit, mask_testBit, Int.toNat_natCast]
  have e1 : cap64 (k : Int) = k := by unfold cap64; omega
  have e2 : cap64 (64 - (a : Int)) = 64 - a := by unfold cap64; omega
  rw [e1, e2, show a + i - a = i by omega]
  by_cases h1 : i < k
  · by_cases h2 : i < 64 - a
    · rw [if_pos ⟨by omega, h1, by omega⟩]; simp [h1, h2]
    · rw [if_neg (by omega), tb_lt x _ hx (by omega)]; simp [h2]
  · simp [h1]
/-- all other bits. -/
def restN (a k : Nat) : Nat := 18446744073709551615 - mask k * 2 ^ a % 18446744073709551616
theorem restN_lt (a k : Nat) : restN a k < 18446744073709551616 := by unfold restN; omega
theorem restN_tb (a k i : Nat) (hk : k < 64) : (restN a k).testBit i = (decide (i < 64) && !(decide (a ≤ i) && decide (i - a < k))) := by
  unfold restN
  have e1 : cap64 (k : Int) = k := by unfold cap64; omega
  rw [tb_not _ _ (Nat.mod_lt _ (by decide)), tb_shl, mask_testBit, e1]
  by_cases h : i < 64 <;> simp [h]
theorem back_rest (x v a k : Nat) (hx : x < 18446744073709551616) (ha : a < 64) (hk : k < 64) : putN x a k v &&& restN a k = x &&& restN a k := by
  apply Nat.eq_of_testBit_eq
  intro i
  have h : 0 ≤ (a : Int) ∧ (a : Int) < 64 := by omega
  have e1 : cap64 (k : Int) = k := by unfold cap64; omega
  rw [Nat.testBit_and, Nat.testBit_and, putN_tb x _ _ v hx h, restN_tb a k i hk, Int.toNat_natCast, e1]
  by_cases h1 : a ≤ i ∧ i - a < k ∧ i < 64
  · rw [if_pos h1]; simp [h1.1, h1.2.1]
  · rw [if_neg h1]
theorem back_put (x v a k : Nat) (hx : x < 18446744073709551616) (ha : a < 64) (hk : k < 64) : putN (putN x a k v) a k (getN x a k) = x := by
  apply Nat.eq_of_testBit_eq
  intro i
  have h : 0 ≤ (a : Int) ∧ (a : Int) < 64 := by omega
  have e1 : cap64 (k : Int) = k := by unfold cap64; omega
  rw [putN_tb _ _ _ _ (putN_lt x _ _ v hx) h, putN_tb x _ _ v hx h, getN_tb _ _ _ h, Int.toNat_natCast, e1]
  by_cases h1 : a ≤ i ∧ i - a < k ∧ i < 64
  · rw [if_pos h1, show a + (i - a) = i by omega]; simp [h1.2.1]
  · rw [if_neg h1, if_neg h1]
def bytesL (x n : Nat) : List Nat := (List.range n).map (byteN x)
theorem bytesL_getD (x n k : Nat) (h : k < n) : (bytesL x n).getD k 0 = byteN x k := by simp [bytesL, List.getD, h]
theorem bytesL_small (x n : Nat) : Small (bytesL x n) := by
  intro k
  by_cases h : k < n
  · rw [bytesL_getD x n k h]; exact Nat.mod_lt _ (by decide)
  · rw [getD_past _ _ (by simp [bytesL]; omega)]; decide
theorem num_bytes (x : Nat) : ∀ k, k ≤ 8 → numK (bytesL x 8) k = x % 256 ^ k
  | 0, _ => by simp [numK, Nat.mod_one]
  | k + 1, h => by
    show numK (bytesL x 8) k + (bytesL x 8).getD k 0 * 256 ^ k = _
    rw [num_bytes x k (by omega), bytesL_getD x 8 k (by omega), Nat.mod_pow_succ]
    unfold byteN
    rw [← pow256, Nat.mul_comm]
theorem num_back (x : Nat) (hx : x < 18446744073709551616) : numK (bytesL x 8) 8 = x := by
  rw [num_bytes x 8 (by omega)]
  exact Nat.mod_eq_of_lt hx
theorem apart_same (x v w p k : Nat) (hx : x < 18446744073709551616) (hp : p < 64) (hk : k < 20) : putN (putN x p k v) p k w = putN x p k w := by
  apply Nat.eq_of_testBit_eq
  intro i
  have h : 0 ≤ (p : Int) ∧ (p : Int) < 64 := by omega
  rw [putN_tb _ _ _ _ (putN_lt x _ _ v hx) h, putN_tb x _ _ v hx h, putN_tb x _ _ w hx h]
  split <;> rfl
theorem apart_swap (x v w p k q j : Nat) (hx : x < 18446744073709551616) (hp : p < 64) (hk : k < 20) (hq : q < 64) (hj : j < 20) (hd : p + k ≤ q ∨ q + j ≤ p) :
    putN (putN x p k v) q j w = putN (putN x q j w) p k v := by
  apply Nat.eq_of_testBit_eq
  intro i
  have h : 0 ≤ (p : Int) ∧ (p : Int) < 64 := by omega
  have h' : 0 ≤ (q : Int) ∧ (q : Int) < 64 := by omega
  have e1 : cap64 (k : Int) = k := by unfold cap64; omega
  have e2 : cap64 (j : Int) = j := by unfold cap64; omega
  rw [putN_tb _ _ _ _ (putN_lt x _ _ v hx) h', putN_tb x _ _ v hx h, putN_tb _ _ _ _ (putN_lt x _ _ w hx) h, putN_tb x _ _ w hx h']
  simp only [Int.toNat_natCast, e1, e2]
  by_cases c1 : q ≤ i ∧ i - q < j ∧ i < 64
  · rw [if_pos c1, if_neg (by omega), if_pos c1]
  · rw [if_neg c1, if_neg c1]
theorem mask_succ (k : Nat) (hk : k < 64) : 2 * mask k + 1 = mask ((k : Int) + 1) := by
  have e1 : cap64 (k : Int) = k := by unfold cap64; omega
  have e2 : cap64 ((k : Int) + 1) = k + 1 := by unfold cap64; omega
  unfold mask
  rw [e1, e2, Nat.pow_succ]
  have := Nat.two_pow_pos k
  omega
theorem get_byte (x i : Nat) (hi : i < 8) : getN x (8 * (i : Int)) 8 = byteN x i := by
  have h : 0 ≤ 8 * (i : Int) ∧ 8 * (i : Int) < 64 := by omega
  rw [getN_mod x _ 8 h, show (8 * (i : Int)).toNat = 8 * i by omega]
  rfl
end Go.Proofs.Ytigbdndjlkmemaa
