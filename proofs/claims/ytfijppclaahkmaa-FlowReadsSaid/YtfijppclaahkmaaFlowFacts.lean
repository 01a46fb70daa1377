/- What an instruction's numbers are where it has a word. No condition. -/
import Derived.Test.YtfijppclaahkmaaA64Ops
namespace Go.Proofs.Ytfijppclaahkmaa
set_option linter.unusedVariables false
set_option linter.unusedSimpArgs false
/-- what a field that stands in an instruction may be. -/
def capB (op : Int) (f : Fl) : Bool :=
  if f.idx = 6 then (if f.kd = 1 then decide (f.n ≤ 26) && decide (13 ≤ op ∧ op ≤ 16) else decide (f.most ≤ 65535) && (!decide (op = 17 ∨ op = 18) || decide (f.most ≤ 4095)))
  else !(f.kd == 1) && decide (f.most ≤ 31) && (!(f.idx == 5) || decide (f.most ≤ 3)) && (!(f.idx == 4) || !decide (op = 1 ∨ op = 2 ∨ op = 12 ∨ op = 14) || decide (f.most ≤ 3))
theorem cap_all : (List.range 33).all (fun k => (fls k).all (fun f => capB k f)) = true := by decide +kernel
theorem cap_ok {op : Int} (h : 1 ≤ op ∧ op ≤ 32) : ∀ f ∈ fls op, capB op f = true := by
  have := List.all_eq_true.1 cap_all op.toNat (List.mem_range.2 (by omega))
  rw [(show ((op.toNat : Nat) : Int) = op by omega)] at this
  exact List.all_eq_true.1 this
structure Facts (i : Ins) : Prop where
  op : 1 ≤ i.op ∧ i.op ≤ 32
  d : 0 ≤ i.d ∧ i.d ≤ 31
  n : 0 ≤ i.n ∧ i.n ≤ 31
  m : 0 ≤ i.m ∧ i.m ≤ 31
  e : 0 ≤ i.e ∧ i.e ≤ 31
  sz : 0 ≤ i.sz ∧ i.sz ≤ 3
  imm : -33554432 ≤ i.imm ∧ i.imm < 33554432
  small : ¬ (13 ≤ i.op ∧ i.op ≤ 16) → 0 ≤ i.imm ∧ i.imm ≤ 65535
  page : i.op = 17 ∨ i.op = 18 → i.imm ≤ 4095
  four : i.op = 1 ∨ i.op = 2 ∨ i.op = 12 ∨ i.op = 14 → i.e ≤ 3
theorem enc_facts {i : Ins} {w : Nat} (h : enc i = some w) : Facts i := by
  obtain ⟨hl, h2⟩ := (enc_some i w).1 h
  have hop := lets_in hl
  rw [encL_some _ _ _ (fls_ok _) (fls_pair _)] at h2
  obtain ⟨h3, _, h5⟩ := h2
  have key : ∀ k, k < 7 → 0 < k → i.get k = 0 ∨ ∃ f ∈ fls i.op, f.idx = k ∧ fitF f (i.get k) = true ∧ capB i.op f = true := by
    intro k hk h0
    by_cases hx : ∃ f ∈ fls i.op, f.idx = k
    · obtain ⟨f, hf, rfl⟩ := hx
      exact Or.inr ⟨f, hf, rfl, h3 f hf, cap_ok hop f hf⟩
    · have := h5 k hk
      rw [if_neg hx, Ins.zero_get _ _ hk, if_neg (by omega)] at this
      exact Or.inl this.symm
  have reg : ∀ k, k < 6 → 0 < k → 0 ≤ i.get k ∧ i.get k ≤ 31 ∧ (k = 5 → i.get k ≤ 3) ∧ (k = 4 → (i.op = 1 ∨ i.op = 2 ∨ i.op = 12 ∨ i.op = 14) → i.get k ≤ 3) := by
    intro k hk h0
    rcases key k (by omega) h0 with hz | ⟨f, hf, e, h6, h7⟩
    · rw [hz]; omega
    · unfold capB at h7
      rw [if_neg (by omega)] at h7
      unfold fitF at h6
      simp only [Bool.and_eq_true, Bool.or_eq_true, Bool.not_eq_true', decide_eq_true_eq, decide_eq_false_iff_not, beq_iff_eq, beq_eq_false_iff_ne] at h7
      rw [if_neg h7.1.1.1] at h6
      simp only [Bool.and_eq_true, decide_eq_true_eq] at h6
      omega
  have hi : (-33554432 ≤ i.imm ∧ i.imm < 33554432) ∧ (¬ (13 ≤ i.op ∧ i.op ≤ 16) → 0 ≤ i.imm ∧ i.imm ≤ 65535) ∧ (i.op = 17 ∨ i.op = 18 → i.imm ≤ 4095) := by
    rcases key 6 (by omega) (by omega) with hz | ⟨f, hf, e, h6, h7⟩
    · have hz : i.imm = 0 := hz
      omega
    · have h6 : fitF f i.imm = true := h6
      unfold capB at h7
      rw [if_pos e] at h7
      unfold fitF at h6
      by_cases hk : f.kd = 1
      · rw [if_pos hk] at h6 h7
        simp only [Bool.and_eq_true, decide_eq_true_eq] at h6 h7
        have h8 : 2 ^ (f.n - 1) ≤ 2 ^ 25 := Nat.pow_le_pow_right (by omega) (by omega)
        omega
      · rw [if_neg hk] at h6 h7
        simp only [Bool.and_eq_true, Bool.or_eq_true, Bool.not_eq_true', decide_eq_true_eq, decide_eq_false_iff_not] at h6 h7
        omega
  exact ⟨hop, ⟨(reg 1 (by omega) (by omega)).1, (reg 1 (by omega) (by omega)).2.1⟩, ⟨(reg 2 (by omega) (by omega)).1, (reg 2 (by omega) (by omega)).2.1⟩, ⟨(reg 3 (by omega) (by omega)).1, (reg 3 (by omega) (by omega)).2.1⟩,
    ⟨(reg 4 (by omega) (by omega)).1, (reg 4 (by omega) (by omega)).2.1⟩, ⟨(reg 5 (by omega) (by omega)).1, (reg 5 (by omega) (by omega)).2.2.1 rfl⟩, hi.1, hi.2.1, hi.2.2, (reg 4 (by omega) (by omega)).2.2.2 rfl⟩
end Go.Proofs.Ytfijppclaahkmaa
