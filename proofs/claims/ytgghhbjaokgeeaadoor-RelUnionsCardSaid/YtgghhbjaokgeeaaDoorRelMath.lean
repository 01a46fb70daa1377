/- Relations of at most 64 things as rows of bits (plain). No condition. -/
import Derived.Test.YtgghhbjaokgeeaaDoorBitsMath
import Derived.Lib.TrailingZeros
namespace Go.Proofs.YtgghhbjaokgeeaaDoor
def rowN : Nat → (Nat → Bool) → Nat
  | 0, _ => 0
  | n + 1, f => if f n = true then rowN n f ||| 2 ^ n else rowN n f
theorem rowN_tb : ∀ (n : Nat) (f : Nat → Bool) (k : Nat), (rowN n f).testBit k = (decide (k < n) && f k)
  | 0, f, k => by simp [rowN]
  | n + 1, f, k => by
    have ih := rowN_tb n f k
    unfold rowN
    split
    · rename_i h
      rw [Nat.testBit_or, ih, Nat.testBit_two_pow]
      by_cases e : k = n
      · subst e; simp [h]
      · simp [show ¬ n = k from fun h => e h.symm, show (k < n + 1) = (k < n) by simp; omega]
    · rename_i h
      rw [ih]
      by_cases e : k = n
      · subst e; simp [h]
      · simp [show (k < n + 1) = (k < n) by simp; omega]
theorem rowN_lt (n : Nat) (f : Nat → Bool) : rowN n f < 2 ^ n := by
  refine Nat.lt_pow_two_of_testBit _ fun i hi => ?_
  rw [rowN_tb]
  simp; omega
theorem rowN_64 {n : Nat} (h : n ≤ 64) (f : Nat → Bool) : rowN n f < 18446744073709551616 :=
  Nat.lt_of_lt_of_le (rowN_lt n f) (by rw [show (18446744073709551616 : Nat) = 2 ^ 64 from rfl]; exact Nat.pow_le_pow_right (by decide) h)
/-- a number is a row just if its bits are the row's. -/
theorem row_eq {n x : Nat} {f : Nat → Bool} (h : ∀ k, x.testBit k = (decide (k < n) && f k)) : x = rowN n f := by
  apply Nat.eq_of_testBit_eq
  intro k
  rw [h, rowN_tb]
theorem rowN_congr {n : Nat} {f g : Nat → Bool} (h : ∀ k, k < n → f k = g k) : rowN n f = rowN n g := by
  refine row_eq fun k => ?_
  rw [rowN_tb]
  by_cases hk : k < n
  · simp [hk, h k hk]
  · simp [hk]
theorem rowN_inj {n : Nat} {f g : Nat → Bool} (h : rowN n f = rowN n g) : ∀ k, k < n → f k = g k := fun k hk => by
  have := congrArg (fun x => x.testBit k) h
  simp only [rowN_tb, hk, decide_true, Bool.true_and] at this
  exact this
def sz (len : Nat) : Nat := min len 64
theorem sz_le (len : Nat) : sz len ≤ 64 := Nat.min_le_right _ _
theorem sz_len (len : Nat) : sz len ≤ len := Nat.min_le_left _ _
/-- which pairs rows of bits have. -/
def onF (len : Nat) (r : Nat → Nat) (i k : Nat) : Bool := decide (i < sz len) && (decide (k < sz len) && (r i).testBit k)
theorem onF_rows {n : Nat} (hn : n ≤ 64) (f : Nat → Nat → Bool) (i k : Nat) : onF n (fun i => rowN n (f i)) i k = (decide (i < n) && (decide (k < n) && f i k)) := by
  unfold onF
  rw [show sz n = n by unfold sz; omega, rowN_tb]
  by_cases h : k < n <;> simp [h]
theorem onF_out {len : Nat} {r : Nat → Nat} {i k : Nat} (h : sz len ≤ i ∨ sz len ≤ k) : onF len r i k = false := by
  unfold onF
  rcases h with h | h
  · simp [show ¬ i < sz len by omega]
  · simp [show ¬ k < sz len by omega]
theorem tb_64 {x k : Nat} (h : x < 18446744073709551616) (hk : 64 ≤ k) : x.testBit k = false := tb_lt x k h hk
/-- a row without what counts for nothing. -/
theorem clean_row (len : Nat) (r : Nat → Nat) (n i : Nat) (hn : sz len ≤ n) (hi : i < sz len) : (r i) &&& (2 ^ sz len - 1) = rowN n (onF len r i) := by
  refine row_eq fun k => ?_
  rw [Nat.testBit_and, Nat.testBit_two_pow_sub_one]
  unfold onF
  by_cases hk : k < sz len
  · simp [hk, hi, show k < n by omega]
  · simp [hk]
theorem clean_none (len : Nat) (r : Nat → Nat) (n i : Nat) (hi : sz len ≤ i) : rowN n (onF len r i) = 0 := by
  refine (row_eq fun k => ?_).symm
  rw [onF_out (.inl hi)]
  simp
/-! the lowest bit -/
theorem low_split {x : Nat} (h0 : x ≠ 0) (h : x < 2 ^ 64) : ∃ m, x = 2 ^ Lib.ctz 64 x * (2 * m + 1) ∧ Lib.ctz 64 x < 64 := by
  obtain ⟨m, hm, hk⟩ := Lib.ctzFrom_spec 64 x (by omega) h
  have e : Lib.ctz 64 x = Lib.ctzFrom 64 x := by simp [Lib.ctz, h0]
  rw [e]
  exact ⟨m, hm, hk⟩
theorem low_bit {x : Nat} (h0 : x ≠ 0) (h : x < 2 ^ 64) : x.testBit (Lib.ctz 64 x) = true := by
  obtain ⟨m, hm, _⟩ := low_split h0 h
  generalize Lib.ctz 64 x = k at *
  rw [hm, Nat.mul_comm, Nat.testBit_mul_two_pow]
  simp [Nat.testBit_zero]
theorem low_less {x : Nat} (h0 : x ≠ 0) (h : x < 2 ^ 64) (j : Nat) : (x &&& (x - 1)).testBit j = (x.testBit j && !decide (j = Lib.ctz 64 x)) := by
  obtain ⟨m, hm, _⟩ := low_split h0 h
  generalize Lib.ctz 64 x = k at *
  have hp : 0 < 2 ^ k := Nat.two_pow_pos k
  have e1 : x - 1 = 2 ^ k * (2 * m) + (2 ^ k - 1) := by
    rw [hm, Nat.mul_add, Nat.mul_one]
    omega
  rw [Nat.testBit_and, e1, Nat.testBit_two_pow_mul_add _ (by omega)]
  rw [hm, Nat.mul_comm, Nat.testBit_mul_two_pow]
  by_cases hj : j < k
  · simp [show ¬ k ≤ j by omega]
  · rw [if_neg hj]
    by_cases e : j = k
    · subst e
      simp [Nat.testBit_zero]
    · obtain ⟨t, rfl⟩ : ∃ t, j = k + (t + 1) := ⟨j - k - 1, by omega⟩
      have e3 : k + (t + 1) - k = t + 1 := by omega
      rw [e3, Nat.testBit_succ, Nat.testBit_succ, show (2 * m + 1) / 2 = m by omega, show 2 * m / 2 = m by omega]
      simp
theorem low_down {x : Nat} (h0 : x ≠ 0) : x &&& (x - 1) < x := Nat.lt_of_le_of_lt Nat.and_le_right (by omega)
/-! what the operations make -/
def pairF (f : Nat → Nat → Bool) (a b : Int) (n : Nat) (i k : Nat) : Bool := f i k || (decide (0 ≤ a ∧ a < n ∧ 0 ≤ b ∧ b < n) && (decide ((i : Int) = a) && decide ((k : Int) = b)))
def thenF (n : Nat) (f g : Nat → Nat → Bool) (i k : Nat) : Bool := (List.range n).any fun j => f i j && g j k
def backF (f : Nat → Nat → Bool) (i k : Nat) : Bool := f k i
def onlyF (f : Nat → Nat → Bool) (s t : Nat) (i k : Nat) : Bool := f i k && (s.testBit i && t.testBit k)
def warStep (f : Nat → Nat → Bool) (k : Nat) (i j : Nat) : Bool := f i j || (f i k && f k j)
def war (f : Nat → Nat → Bool) : Nat → Nat → Nat → Bool
  | 0 => f
  | k + 1 => warStep (war f k) k
end Go.Proofs.YtgghhbjaokgeeaaDoor
