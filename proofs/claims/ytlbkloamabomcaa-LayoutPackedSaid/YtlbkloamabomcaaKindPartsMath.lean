/- The types in a type that may be may be, too. No condition. -/
import Derived.Test.YtlbkloamabomcaaKindDeepMath
namespace Go.Proofs.Ytlbkloamabomcaa
open Go.RowKit Go.Sort
set_option linter.unusedVariables false
set_option linter.unusedSimpArgs false
theorem fieldE_zero {p : Bool} {s : ByteArray} {tw : Bool} {e : Int} {bt : Bool} {wd qk qs : Int} (h : fieldE p s tw e bt wd qk qs = 0) : e = 0 ∧ (!s.toList.isEmpty && tw) = false := by
  unfold fieldE at h
  split at h
  · omega
  · split at h
    · omega
    · rename_i h2
      refine ⟨?_, by simpa using h2⟩
      split at h
      · omega
      · simpa using ‹¬ e ≠ 0›
theorem onlyB_parts {k s : Int} {p : Bool} {fl : Nat} {c : Int} {el : Nat} (h : onlyB k s p fl c el = true) : (k = 3 ∨ k = 4 ∨ fl = 0) ∧ (k = 5 ∨ el = 0) ∧ (k = 5 → el = 1) ∧ (k = 1 ∨ k = 2 ∨ k = 3 ∨ k = 4 ∨ k = 5) := by
  simp only [onlyB, Bool.and_eq_true, Bool.or_eq_true, beq_iff_eq, Bool.not_eq_true'] at h
  obtain ⟨⟨⟨⟨h1, h2⟩, h3⟩, h4⟩, h5⟩ := h
  refine ⟨?_, ?_, fun h6 => ?_, ?_⟩
  · rcases h3 with (h | h) | h
    · exact .inl h
    · exact .inr (.inl h)
    · exact .inr (.inr h.2)
  · rcases h4 with h | h
    · exact .inl h
    · exact .inr h.2
  · rcases h5 with h | h
    · simp [h6] at h
    · exact h
  · omega
theorem sound_parts {n : Nat} {t : TyF (Ty n)} (h : soundF (n + 1) t = 0) : (∀ (i : Nat) (f : FdF (Ty n)), t.fields[i]? = some f → soundF n f.type = 0) ∧ (∀ (i : Nat) (e : Ty n), t.elem[i]? = some e → soundF n e = 0) := by
  rw [soundF_succ] at h
  unfold oneE at h
  split at h
  · omega
  · rename_i ho
    obtain ⟨a, b, c, d⟩ := onlyB_parts (by simpa using ho)
    have nof : t.fields.length = 0 → ∀ (i : Nat) (f : FdF (Ty n)), t.fields[i]? = some f → soundF n f.type = 0 := fun h0 i f hf => by
      rw [List.eq_nil_of_length_eq_zero h0] at hf; simp at hf
    have noe : t.elem.length = 0 → ∀ (i : Nat) (e : Ty n), t.elem[i]? = some e → soundF n e = 0 := fun h0 i f hf => by
      rw [List.eq_nil_of_length_eq_zero h0] at hf; simp at hf
    split at h
    · exact ⟨nof (by omega), noe (by omega)⟩
    · split at h
      · exact ⟨nof (by omega), noe (by omega)⟩
      · split at h
        · rename_i k5
          split at h
          · omega
          · refine ⟨nof (by omega), fun i e he => ?_⟩
            have hl := c k5
            cases hc : t.elem with
            | nil => rw [hc] at hl; simp at hl
            | cons x l =>
              rw [hc] at hl he h
              have : l = [] := List.eq_nil_of_length_eq_zero (by simpa using hl)
              subst this
              match i, he with
              | 0, he => simp at he; subst he; exact h
              | i + 1, he => simp at he
        · refine ⟨fun i f hf => ?_, noe (by omega)⟩
          unfold groupE at h
          split at h
          · omega
          · have hi : i < t.fields.length := by
              rcases Nat.lt_or_ge i t.fields.length with hh | hh
              · exact hh
              · rw [List.getElem?_eq_none hh] at hf; cases hf
            have := firstE_eq _ _ h i hi
            rw [fieldOf_some _ _ _ _ i f hf] at this
            exact (fieldE_zero this).1
theorem foldl_ge {α : Type} (g : α → Int) : ∀ (l : List α) (o : Int), o ≤ l.foldl (fun o x => max o (g x)) o ∧ ∀ (i : Nat) (x : α), l[i]? = some x → g x ≤ l.foldl (fun o x => max o (g x)) o
  | [], o => ⟨by simp, fun i x h => by simp at h⟩
  | y :: l, o => by
    have ih := foldl_ge g l (max o (g y))
    refine ⟨by simp only [List.foldl_cons]; omega, fun i x h => ?_⟩
    simp only [List.foldl_cons]
    match i, h with
    | 0, h => simp at h; subst h; omega
    | i + 1, h => exact ih.2 i x (by simpa using h)
theorem depth_part {n : Nat} {u : Ty n} {d : Int} (h : d ≤ 64) (h2 : depthF n u 64 + 1 ≤ d) : depthF n u 65 ≤ 64 := by
  rw [depth_min n u 64 65 (by omega) (by omega)] at h2
  omega
/-- the parts of what may be may be. -/
theorem Sound_parts {n : Nat} {t : TyF (Ty n)} (h : SoundF (n + 1) t = 0) : (∀ (i : Nat) (f : FdF (Ty n)), t.fields[i]? = some f → SoundF n f.type = 0) ∧ (∀ (i : Nat) (e : Ty n), t.elem[i]? = some e → SoundF n e = 0) := by
  unfold SoundF at h
  split at h
  · omega
  · rename_i hd
    obtain ⟨p1, p2⟩ := sound_parts h
    have hd2 : depthF (n + 1) t 65 ≤ 64 := by omega
    have e := depthF_succ n t 65
    rw [if_pos (by omega)] at e
    have a := foldl_ge (fun e : Ty n => depthF n e (65 - 1)) t.elem (t.fields.foldl (fun o f => max o (depthF n f.type (65 - 1))) 0)
    have b := foldl_ge (fun f : FdF (Ty n) => depthF n f.type (65 - 1)) t.fields 0
    refine ⟨fun i f hf => ?_, fun i x hx => ?_⟩
    · have := b.2 i f hf
      have a1 := a.1
      have hq := depth_part (u := f.type) hd2 (by rw [e]; exact Int.add_le_add_right (Int.le_trans this a1) 1)
      unfold SoundF
      rw [if_neg (by omega)]
      exact p1 i f hf
    · have := a.2 i x hx
      have hq := depth_part (u := x) hd2 (by rw [e]; exact Int.add_le_add_right this 1)
      unfold SoundF
      rw [if_neg (by omega)]
      exact p2 i x hx
end Go.Proofs.Ytlbkloamabomcaa
