/- The document's word, bit by bit, is the program's word. No condition. -/
import Derived.Test.YtfijppclaahkmaaA64PatT
namespace Go.Proofs.Ytfijppclaahkmaa
set_option linter.unusedVariables false
set_option linter.unusedSimpArgs false
/-- what a letter's field has. -/
def numR (i : Ins) (c : Nat) : Int :=
  if c = 100 then i.d else if c = 110 ∨ c = 97 then i.n else if c = 109 then i.m else if c = 101 ∨ c = 113 then i.e else if c = 107 then i.e.tdiv 2 * 2 + 1 - i.e.tmod 2
  else if c = 115 then i.sz else if c = 98 then (barN i.imm : Nat) else i.imm
/-- the number of bits of a letter behind a place. -/
def leftR (q : List Nat) (j : Nat) : Nat := (q.take j).count (q.getD j 0)
/-- a bit. -/
def bitR (i : Ins) (q : List Nat) (j : Nat) : Nat :=
  if q.getD j 0 = 48 then 0 else if q.getD j 0 = 49 then 1 else (numR i (q.getD j 0) / 2 ^ leftR q j % 2).toNat
/-- the bits behind a place, as a number. -/
def wordR (i : Ins) (q : List Nat) : Nat → Nat
  | 0 => 0
  | j + 1 => wordR i q j + bitR i q j * 2 ^ j
theorem bitR_lt (i : Ins) (q : List Nat) (j : Nat) : bitR i q j < 2 := by
  unfold bitR
  split
  · omega
  · split <;> omega
theorem wordR_lt (i : Ins) (q : List Nat) : ∀ j, wordR i q j < 2 ^ j
  | 0 => by simp [wordR]
  | j + 1 => by
    unfold wordR
    have h1 := wordR_lt i q j
    have h2 := bitR_lt i q j
    rw [Nat.pow_succ]
    rcases (show bitR i q j = 0 ∨ bitR i q j = 1 by omega) with h | h <;> rw [h] <;> omega
theorem wordR_bit (i : Ins) (q : List Nat) (k : Nat) : ∀ j, (wordR i q j).testBit k = (decide (k < j) && decide (bitR i q k = 1))
  | 0 => by simp [wordR]
  | j + 1 => by
    unfold wordR
    rw [Nat.add_comm, Nat.mul_comm, Nat.testBit_two_pow_mul_add _ (wordR_lt i q j)]
    by_cases h : k < j
    · rw [if_pos h, wordR_bit i q k j, decide_eq_true h, decide_eq_true (show k < j + 1 by omega)]
    · rw [if_neg h]
      by_cases e : k = j
      · subst e
        have h2 := bitR_lt i q k
        rw [Nat.sub_self, decide_eq_true (show k < k + 1 by omega), Bool.true_and]
        rcases (show bitR i q k = 0 ∨ bitR i q k = 1 by omega) with h | h <;> rw [h] <;> simp
      · have h2 := bitR_lt i q j
        rw [decide_eq_false (show ¬ k < j + 1 by omega), Bool.false_and]
        exact Nat.testBit_lt_two_pow (Nat.lt_of_lt_of_le h2 (by
          have : 2 ^ 1 ≤ 2 ^ (k - j) := Nat.pow_le_pow_right (by omega) (by omega)
          simpa using this))
def lcB (c : Nat) (f : Fl) : Bool :=
  if c = 100 then f.idx == 1 && f.kd == 0 else if c = 110 ∨ c = 97 then f.idx == 2 && f.kd == 0 else if c = 109 then f.idx == 3 && f.kd == 0 else if c = 101 ∨ c = 113 then f.idx == 4 && f.kd == 0 else if c = 107 then f.idx == 4 && f.kd == 2 && f.most == 3 && f.n == 2
  else if c = 115 then f.idx == 5 && f.kd == 0 else if c = 98 then f.idx == 6 && f.kd == 3 else c == 105 && (f.idx == 6 && (f.kd == 0 || f.kd == 1))
def chkB (op : Int) (j : Nat) : Bool :=
  let q := (patI op).reverse
  let c := q.getD j 0
  if c = 48 then freeB op j && !(baseN op).testBit j else if c = 49 then freeB op j && (baseN op).testBit j
  else (fls op).any (fun f => f.lo + leftR q j == j && decide (leftR q j < f.n) && lcB c f)
theorem chk_all : (List.range 33).all (fun op => op == 0 || (List.range 32).all (fun j => chkB op j)) = true := by decide +kernel
theorem bit_mod (x : Int) (n m : Nat) (h : m < n) : x % (2 ^ n : Nat) / (2 ^ m : Nat) % 2 = x / (2 ^ m : Nat) % 2 := by
  obtain ⟨d, rfl⟩ : ∃ d, n = m + 1 + d := ⟨n - m - 1, by omega⟩
  have e : ((2 ^ (m + 1 + d) : Nat) : Int) = ((2 ^ m : Nat) : Int) * (2 * ((2 ^ d : Nat) : Int)) := by
    rw [Nat.pow_add, Nat.pow_succ, Nat.mul_assoc]
    simp
  rw [e]
  have hA : ((2 ^ m : Nat) : Int) ≠ 0 := by have := Nat.two_pow_pos m; omega
  generalize ((2 ^ m : Nat) : Int) = A at *
  generalize ((2 ^ d : Nat) : Int) = D at *
  have h1 := Int.emod_add_mul_ediv x (A * (2 * D))
  generalize x / (A * (2 * D)) = q at h1
  generalize x % (A * (2 * D)) = r at h1 ⊢
  rw [← h1, Int.mul_assoc, Int.add_mul_ediv_left _ _ hA, Int.mul_assoc]
  omega
theorem nat_bit (y m : Nat) : y.testBit m = decide (((y : Int) / 2 ^ m % 2).toNat = 1) := by
  rw [Nat.testBit_eq_decide_div_mod_eq]
  have e : ((y : Int) / 2 ^ m % 2).toNat = y / 2 ^ m % 2 := by
    rw [(show (2 : Int) ^ m = ((2 ^ m : Nat) : Int) by simp), ← Int.natCast_ediv]
    omega
  rw [e]
theorem lc_num {i : Ins} {c : Nat} {f : Fl} (hl : lcB c f = true) : ((f.kd = 0 ∨ f.kd = 1) ∧ numR i c = i.get f.idx) ∨ (f.kd = 2 ∧ f.n = 2 ∧ f.most = 3 ∧ numR i c = (i.get f.idx).tdiv 2 * 2 + 1 - (i.get f.idx).tmod 2) ∨ (f.kd = 3 ∧ numR i c = (barN (i.get f.idx) : Nat)) := by
  unfold lcB at hl
  unfold numR
  by_cases h1 : c = 100
  · simp [h1] at hl ⊢
    simp [hl, Ins.get]
  by_cases h2 : c = 110 ∨ c = 97
  · simp [h1, h2] at hl ⊢
    simp [hl, Ins.get]
  by_cases h3 : c = 109
  · simp [h3] at hl ⊢
    simp [hl, Ins.get]
  by_cases h4 : c = 101 ∨ c = 113
  · simp [h1, h2, h3, h4] at hl ⊢
    simp [hl, Ins.get]
  by_cases h5 : c = 107
  · simp [h5] at hl ⊢
    simp [hl, Ins.get]
  by_cases h6 : c = 115
  · simp [h6] at hl ⊢
    simp [hl, Ins.get]
  by_cases h7 : c = 98
  · simp [h7] at hl ⊢
    simp [hl, Ins.get]
  · simp [h1, h2, h3, h4, h5, h6, h7] at hl ⊢
    obtain ⟨rfl, h8, h9⟩ := hl
    left
    exact ⟨h9, by simp [h8, Ins.get]⟩
theorem num_bit {i : Ins} {c : Nat} {f : Fl} (hl : lcB c f = true) (hf : fitF f (i.get f.idx) = true) (m : Nat) (hm : m < f.n) : (putF f (i.get f.idx)).testBit m = decide ((numR i c / 2 ^ m % 2).toNat = 1) := by
  rcases lc_num (i := i) hl with ⟨hk, hn⟩ | ⟨hk, hn2, hm3, hn⟩ | ⟨hk, hn⟩
  · rw [hn]
    generalize i.get f.idx = x at *
    rcases hk with hk | hk
    · have h0 : 0 ≤ x := by simp [fitF, hk] at hf; omega
      obtain ⟨y, rfl⟩ : ∃ y : Nat, x = y := ⟨x.toNat, by omega⟩
      have e : putF f (y : Int) = y := by simp [putF, hk]
      rw [e]
      exact nat_bit y m
    · have e : putF f x = (x % (2 ^ f.n : Nat)).toNat := by simp [putF, hk]
      rw [e, nat_bit]
      have h0 : 0 ≤ x % ((2 ^ f.n : Nat) : Int) := Int.emod_nonneg _ (by have := Nat.two_pow_pos f.n; omega)
      have e2 : (((x % ((2 ^ f.n : Nat) : Int)).toNat : Nat) : Int) = x % ((2 ^ f.n : Nat) : Int) := by omega
      have h1 := bit_mod x f.n m hm
      rw [e2, (show (2 : Int) ^ m = ((2 ^ m : Nat) : Int) by simp), h1]
  · rw [hn]
    rw [hn2] at hm
    have hx : 0 ≤ i.get f.idx ∧ i.get f.idx ≤ 3 := by simp [fitF, hk, hm3] at hf; omega
    generalize i.get f.idx = x at *
    have e : putF f x = turnN x.toNat := by simp [putF, hk]
    rw [e]
    have hxx : x = 0 ∨ x = 1 ∨ x = 2 ∨ x = 3 := by omega
    have hmm : m = 0 ∨ m = 1 := by omega
    rcases hxx with rfl | rfl | rfl | rfl <;> rcases hmm with rfl | rfl <;> decide
  · have e : putF f (i.get f.idx) = barN (i.get f.idx) := by simp [putF, hk]
    rw [hn, e]
    exact nat_bit _ m
/-- THE LAW: the document's word is the program's. -/
theorem ref_word {i : Ins} {w : Nat} (h : enc i = some w) : wordR i (patI i.op).reverse 32 = w := by
  have hw := enc_lt h
  obtain ⟨hls, h2⟩ := (enc_some i w).1 h
  have hop := lets_in hls
  rw [encL_some _ _ _ (fls_ok _) (fls_pair _)] at h2
  obtain ⟨hfit, hww, _⟩ := h2
  have hlt : ∀ f ∈ fls i.op, putF f (i.get f.idx) < 2 ^ f.n := fun f hf => (fls_ok _ f hf).lt _ (hfit f hf)
  apply Nat.eq_of_testBit_eq
  intro j
  rw [wordR_bit]
  by_cases hj : j < 32
  · rw [decide_eq_true hj, Bool.true_and]
    have hc := List.all_eq_true.1 chk_all i.op.toNat (List.mem_range.2 (by omega))
    have e : (i.op.toNat : Int) = i.op := by omega
    rw [e] at hc
    simp only [Bool.or_eq_true, beq_iff_eq] at hc
    have hc2 := List.all_eq_true.1 (hc.resolve_left (by omega)) j (List.mem_range.2 hj)
    unfold chkB at hc2
    simp only at hc2
    unfold bitR
    have free : ∀ (hfr : freeB i.op j = true), w.testBit j = (baseN i.op).testBit j := fun hfr => by
      rw [hww, ovrL_out _ j _ _ hlt (fun f hf hcv => ?_)]
      have := List.all_eq_true.1 hfr f hf
      unfold Covers at hcv
      simp at this
      omega
    by_cases h48 : (patI i.op).reverse.getD j 0 = 48
    · rw [if_pos h48] at hc2 ⊢
      simp only [Bool.and_eq_true, Bool.not_eq_true'] at hc2
      rw [free hc2.1, hc2.2]
      rfl
    · rw [if_neg h48] at hc2 ⊢
      by_cases h49 : (patI i.op).reverse.getD j 0 = 49
      · rw [if_pos h49] at hc2 ⊢
        simp only [Bool.and_eq_true] at hc2
        rw [free hc2.1, hc2.2]
        rfl
      · rw [if_neg h49] at hc2 ⊢
        obtain ⟨f, hf, hq⟩ := List.any_eq_true.1 hc2
        simp only [Bool.and_eq_true, beq_iff_eq, decide_eq_true_eq] at hq
        obtain ⟨⟨q1, q2⟩, q3⟩ := hq
        rw [hww, ovrL_in _ j _ _ hlt (fls_pair _) f hf (by unfold Covers; omega)]
        have := num_bit (i := i) q3 (hfit f hf) (leftR (patI i.op).reverse j) q2
        rw [(show j - f.lo = leftR (patI i.op).reverse j by omega), this]
  · rw [decide_eq_false hj, Bool.false_and]
    exact (Nat.testBit_lt_two_pow (Nat.lt_of_lt_of_le hw (Nat.pow_le_pow_right (n := 2) (by omega) (show 32 ≤ j by omega)))).symm
end Go.Proofs.Ytfijppclaahkmaa
