/- Plain laws on the number that some bytes are, from below and from above. No program in sight. -/
import Derived.Test.YtigbdndjlkmemaaBitsMath
namespace Go.Proofs.Ytigbdndjlkmemaa
/-- of the first k bytes. -/
def numK (l : List Nat) : Nat → Nat
  | 0 => 0
  | k + 1 => numK l k + l.getD k 0 * 256 ^ k
/-- of the bytes 8 - d, .., 7. -/
def numH (l : List Nat) : Nat → Nat
  | 0 => 0
  | d + 1 => numH l d * 256 + l.getD (7 - d) 0
def Small (l : List Nat) : Prop := ∀ k : Nat, l.getD k 0 < 256
theorem numK_lt (l : List Nat) (h : Small l) : ∀ k, numK l k < 256 ^ k
  | 0 => by simp [numK]
  | k + 1 => by
    have h1 := numK_lt l h k
    have h2 := h k
    have h3 : l.getD k 0 * 256 ^ k ≤ 255 * 256 ^ k := Nat.mul_le_mul_right _ (by omega)
    unfold numK
    rw [Nat.pow_succ]
    omega
theorem numH_lt (l : List Nat) (h : Small l) : ∀ k, numH l k < 256 ^ k
  | 0 => by simp [numH]
  | k + 1 => by
    have h1 := numH_lt l h k
    have h2 := h (7 - k)
    unfold numH
    rw [Nat.pow_succ]
    omega
theorem numK_eq_numH (l : List Nat) : numK l 8 = numH l 8 := by
  simp only [numK, numH, Nat.sub_zero, Nat.sub_self, show 7 - 1 = 6 from rfl, show 7 - 2 = 5 from rfl, show 7 - 3 = 4 from rfl, show 7 - 4 = 3 from rfl, show 7 - 5 = 2 from rfl, show 7 - 6 = 1 from rfl]
  omega
theorem getD_past (l : List Nat) (k : Nat) (h : l.length ≤ k) : l.getD k 0 = 0 := by simp [List.getD, List.getElem?_eq_none h]
theorem numK_past (l : List Nat) (k : Nat) (h : l.length ≤ k) : numK l (k + 1) = numK l k := by
  show numK l k + l.getD k 0 * 256 ^ k = numK l k
  rw [getD_past l k h, Nat.zero_mul, Nat.add_zero]
theorem numK_end (l : List Nat) (h : l.length ≤ 8) : numK l l.length = numK l 8 := by
  have key : ∀ d, numK l (l.length + d) = numK l l.length := by
    intro d
    induction d with
    | zero => rfl
    | succ d ih => rw [← Nat.add_assoc, numK_past l _ (by omega), ih]
  have := key (8 - l.length)
  rw [← this]
  congr 1
  omega
theorem numH_past (l : List Nat) : ∀ d, l.length ≤ 8 - d → numH l d = 0
  | 0, _ => rfl
  | d + 1, h => by
    unfold numH
    rw [numH_past l d (by omega), getD_past l _ (by omega)]
theorem pow256 (k : Nat) : 256 ^ k = 2 ^ (8 * k) := by rw [Nat.pow_mul]
theorem num_or (l : List Nat) (hl : Small l) (k : Nat) (hk : k < 8) : (numK l k ||| (l.getD k 0 * 2 ^ (8 * k) % 18446744073709551616)) = numK l (k + 1) := by
  have h1 := numK_lt l hl k
  have h2 := numK_lt l hl (k + 1)
  have h3 : 256 ^ (k + 1) ≤ 256 ^ 8 := Nat.pow_le_pow_right (by decide) (by omega)
  have h4 : numK l (k + 1) = numK l k + l.getD k 0 * 2 ^ (8 * k) := by rw [← pow256]; rfl
  rw [Nat.mod_eq_of_lt (by omega), Nat.or_comm, nat_join (8 * k) _ _ (Nat.mul_mod_left _ _) (by rw [← pow256]; exact h1), h4, Nat.add_comm]
theorem numK8_lt (l : List Nat) (hl : Small l) (k : Nat) (hk : k ≤ 8) : numK l k < 18446744073709551616 := by
  have h1 := numK_lt l hl k
  have h3 : 256 ^ k ≤ 256 ^ 8 := Nat.pow_le_pow_right (by decide) (by omega)
  omega
theorem num_up (l : List Nat) (hl : Small l) (d : Nat) (hd : d < 8) : (numH l d * 256 % 18446744073709551616 + l.getD (7 - d) 0) % 18446744073709551616 = numH l (d + 1) := by
  have h2 := numH_lt l hl (d + 1)
  have h3 : 256 ^ (d + 1) ≤ 256 ^ 8 := Nat.pow_le_pow_right (by decide) (by omega)
  have h4 : numH l (d + 1) = numH l d * 256 + l.getD (7 - d) 0 := rfl
  rw [Nat.mod_eq_of_lt (a := numH l d * 256) (by omega), ← h4, Nat.mod_eq_of_lt (by omega)]
theorem numH8_lt (l : List Nat) (hl : Small l) (k : Nat) (hk : k ≤ 8) : numH l k < 18446744073709551616 := by
  have h1 := numH_lt l hl k
  have h3 : 256 ^ k ≤ 256 ^ 8 := Nat.pow_le_pow_right (by decide) (by omega)
  omega
end Go.Proofs.Ytigbdndjlkmemaa
