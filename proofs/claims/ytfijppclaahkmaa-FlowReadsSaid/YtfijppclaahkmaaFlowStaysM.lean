/- What a step leaves as it was. No condition. -/
import Derived.Test.YtfijppclaahkmaaFlowNextA
namespace Go.Proofs.Ytfijppclaahkmaa
open Go.RowKit Go.Sort
set_option linter.unusedVariables false
set_option linter.unusedSimpArgs false
theorem setX_z (s : St) (n : Int) (v : Nat) : (setX s n v).z = s.z := by unfold setX; split <;> rfl
theorem setX_c (s : St) (n : Int) (v : Nat) : (setX s n v).c = s.c := by unfold setX; split <;> rfl
theorem setX_wa (s : St) (n : Int) (v : Nat) : (setX s n v).wa = s.wa := by unfold setX; split <;> rfl
theorem setX_wl (s : St) (n : Int) (v : Nat) : (setX s n v).wl = s.wl := by unfold setX; split <;> rfl
theorem acc_flags (s : St) (i : Ins) (g0 g1 : Nat) (fits : Bool) : (accS s i g0 g1 fits).z = s.z ∧ (accS s i g0 g1 fits).c = s.c := by
  unfold accS
  repeat' split
  all_goals simp [setX_z, setX_c]
theorem acc_watch (s : St) (i : Ins) (g0 g1 : Nat) (fits : Bool) (h : exB i.op = false) (hp : paB i.op = false) : (accS s i g0 g1 fits).wa = s.wa ∧ (accS s i g0 g1 fits).wl = s.wl := by
  unfold accS
  rw [h, hp]
  repeat' split
  all_goals simp_all [setX_wa, setX_wl]
theorem next_flags (s : St) (i : Ins) (g0 g1 : Nat) (fits : Bool) (h : i.op ≠ 5) : (nextS s i g0 g1 fits).z = s.z ∧ (nextS s i g0 g1 fits).c = s.c := by
  unfold nextS bodyS
  simp only
  by_cases h1 : i.op = 30
  · simp [h1]
  · rw [if_neg h1]
    by_cases h2 : meB i.op = true
    · rw [if_pos h2]; exact acc_flags s i g0 g1 fits
    · rw [if_neg h2]
      by_cases h3 : numB i.op = true
      · rw [if_pos h3, if_neg h]
        exact ⟨setX_z _ _ _, setX_c _ _ _⟩
      · rw [if_neg h3]
        exact ⟨rfl, rfl⟩
theorem next_watch (s : St) (i : Ins) (g0 g1 : Nat) (fits : Bool) (h30 : i.op ≠ 30) (h : meB i.op = true → exB i.op = false) : (nextS s i g0 g1 fits).wa = s.wa ∧ (nextS s i g0 g1 fits).wl = s.wl := by
  unfold nextS bodyS
  simp only
  rw [if_neg h30]
  by_cases h2 : meB i.op = true
  · rw [if_pos h2]
    refine acc_watch s i g0 g1 fits (h h2) ?_
    have h3 := h h2
    unfold exB at h3
    unfold paB
    have h4 : ¬ (21 ≤ i.op ∧ i.op ≤ 28) := by simpa using h3
    simp
    omega
  · rw [if_neg h2]
    by_cases h3 : numB i.op = true
    · rw [if_pos h3]
      by_cases h5 : i.op = 5
      · rw [if_pos h5]; exact ⟨setX_wa _ _ _, setX_wl _ _ _⟩
      · rw [if_neg h5]; exact ⟨setX_wa _ _ _, setX_wl _ _ _⟩
    · rw [if_neg h3]
      exact ⟨rfl, rfl⟩
theorem next_pc (s : St) (i : Ins) (g0 g1 : Nat) (fits : Bool) (h : ¬ (13 ≤ i.op ∧ i.op ≤ 16)) : (nextS s i g0 g1 fits).pc = wrap64 (s.pc + 1) := by
  unfold nextS takB
  simp only
  rw [if_neg (show ¬ i.op = 13 by omega), if_neg (show ¬ i.op = 14 by omega), if_neg (show ¬ i.op = 15 by omega), if_neg (show ¬ i.op = 16 by omega)]
  rfl
end Go.Proofs.Ytfijppclaahkmaa
