/- Bit by bit or by division: where fields lie is the same. On plain data. No condition. -/
import Derived.Test.YtlbkloamabomcaaLayMath2
namespace Go.Proofs.Ytlbkloamabomcaa
open Go.RowKit
set_option linter.unusedVariables false
set_option linter.unusedSimpArgs false
theorem upF_le {n s b : Int} (hs : 0 < s) (h1 : n ≤ b) (h3 : b % s = 0) : upF n s ≤ b := by
  rcases Int.lt_or_le b (upF n s) with h | h
  · have := upF_least hs h1 (by omega) h3
    omega
  · exact h
theorem up_two {n a : Int} (h0 : 0 ≤ n) (ha : 0 < a) : 8 * upF (upF n 8 / 8) a = upF n (8 * a) := by
  have h1 := upF_ge (n := n) (s := 8) (by omega)
  have h2 := upF_mod (n := n) (s := 8)
  have h3 := upF_ge (n := upF n 8 / 8) ha
  have h4 := upF_mod (n := upF n 8 / 8) (s := a)
  have h5 := upF_ge (n := n) (s := 8 * a) (by omega)
  have h6 := upF_mod (n := n) (s := 8 * a)
  have h7 : upF n (8 * a) % 8 = 0 := Int.emod_eq_zero_of_dvd (Int.dvd_trans (Int.dvd_mul_right 8 a) (Int.dvd_of_emod_eq_zero h6))
  have h8 : upF n 8 ≤ upF n (8 * a) := upF_le (by omega) h5.1 h7
  have h9 : upF n (8 * a) / 8 % a = 0 := by
    obtain ⟨q, hq⟩ := Int.dvd_of_emod_eq_zero h6
    rw [hq, Int.mul_assoc, Int.mul_ediv_cancel_left _ (by omega)]
    exact Int.mul_emod_right a q
  have h10 : upF (upF n 8 / 8) a ≤ upF n (8 * a) / 8 := upF_le ha (Int.ediv_le_ediv (by omega) h8) h9
  refine upF_least (by omega) (by omega) (by omega) ?_
  obtain ⟨q, hq⟩ := Int.dvd_of_emod_eq_zero h4
  rw [hq, ← Int.mul_assoc]
  exact Int.mul_emod_right _ q
theorem cross_iff {p u w : Int} (h0 : 0 ≤ p) (hu : 0 < u) (hw : 0 < w) (hw2 : w ≤ u) : (u < p % u + w) ↔ ¬ p / u = (p + w - 1) / u := by
  have h1 := Int.mul_ediv_add_emod p u
  have h2 := Int.emod_nonneg p (by omega : u ≠ 0)
  have h3 := Int.emod_lt_of_pos p hu
  have e : p + w - 1 = (p % u + w - 1) + u * (p / u) := by omega
  rw [e, Int.add_mul_ediv_left _ _ (by omega : u ≠ 0)]
  constructor
  · intro h h4
    have : 1 ≤ (p % u + w - 1) / u := Int.le_ediv_of_mul_le hu (by omega)
    omega
  · intro h
    rcases Int.lt_or_le u (p % u + w) with hh | hh
    · exact hh
    · exfalso
      apply h
      have hz : (p % u + w - 1) / u = 0 := Int.ediv_eq_zero_of_lt (by omega) (by omega)
      omega
theorem upF_one (n : Int) : upF n 1 = n := upF_same (by omega) (Int.emod_one n)
theorem bitAt_step {p u w : Int} (h0 : 0 ≤ p) (hu : 0 < u) (hw : 0 ≤ w) (hw2 : w ≤ u) : bitAt p u w = upF p (if (decide (w = 0) || decide (u < p % u + w)) = true then u else 1) := by
  unfold bitAt
  by_cases h : w = 0
  · simp [h]
  · by_cases hc : u < p % u + w
    · have := (cross_iff h0 hu (by omega) hw2).1 hc
      simp [h, hc, this]
    · have := mt (cross_iff h0 hu (by omega) hw2).2 hc
      simp at this
      simp [h, hc, this, upF_one]
/-- size, reckoned by bits. -/
theorem size_step {en bit sz : Int} (h : sz = upF en 8 / 8) : max sz (upF bit 8 / 8) = upF (max en bit) 8 / 8 := by
  subst h
  rcases Int.le_total en bit with hh | hh
  · have := upF_mono (s := 8) (by omega) hh
    rw [Int.max_eq_right hh, Int.max_eq_right (Int.ediv_le_ediv (by omega) this)]
  · have := upF_mono (s := 8) (by omega) hh
    rw [Int.max_eq_left hh, Int.max_eq_left (Int.ediv_le_ediv (by omega) this)]
theorem size_end {en a sz : Int} (h0 : 0 ≤ en) (ha : 0 < a) (h : sz = upF en 8 / 8) : upF sz a = upF en (8 * a) / 8 := by
  subst h
  have := up_two h0 ha
  omega
section
variable {α : Type}
/-- where the first k fields begin, and how many bits they have. -/
def fbK (G : α → Option (Int × Int)) (Z : α → Int) (t : TyF α) : Nat → List (Int × Int)
  | 0 => []
  | k + 1 => fbK G Z t k ++ (((plK G Z t k).bind fun p => (t.fields[k]?).bind fun f => (G f.type).map fun g => (begF t.packed (t.kind == 4) f (Z f.type) g p, numF f g)).toList)
theorem fbK_succ (G : α → Option (Int × Int)) (Z : α → Int) (t : TyF α) (k : Nat) {p : Pl} {f : FdF α} {g : Int × Int} (hp : plK G Z t k = some p) (hf : t.fields[k]? = some f) (hg : G f.type = some g) :
    fbK G Z t (k + 1) = fbK G Z t k ++ [(begF t.packed (t.kind == 4) f (Z f.type) g p, numF f g)] := by
  show fbK G Z t k ++ _ = _
  rw [hp, hf]
  simp [hg]
theorem fbK_len (G : α → Option (Int × Int)) (Z : α → Int) (t : TyF α) : ∀ k p, plK G Z t k = some p → (fbK G Z t k).length = k
  | 0, _, _ => rfl
  | k + 1, p', h => by
    obtain ⟨p, f, g, hp, hf, hg, rfl⟩ := plK_inv G Z t k h
    rw [fbK_succ G Z t k hp hf hg, List.length_append, fbK_len G Z t k p hp]
    rfl
end


end Go.Proofs.Ytlbkloamabomcaa
