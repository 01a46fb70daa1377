/- Types within types: how deep they are, whether they may be. No condition. The types in a type that may be may be, too. No condition. -/
import Derived.Test.YtlbkloamabomcaaKindSound3
namespace Go.Proofs.Ytlbkloamabomcaa
open Go.RowKit Go.Sort
set_option linter.unusedVariables false
set_option linter.unusedSimpArgs false
def wrapG {n : Nat} (t : Ty n) : Ty (n + 1) := (⟨3, 0, false, [⟨⟨#[120]⟩, t, false, 0⟩], 0, []⟩ : TyF (Ty n))
def wrapA {n : Nat} (t : Ty n) : Ty (n + 1) := (⟨5, 0, false, [], 1, [t]⟩ : TyF (Ty n))
theorem depthF_wrapG {n : Nat} (t : Ty n) (most : Int) : depthF (n + 1) (wrapG t) most = if 1 < most then max 0 (depthF n t (most - 1)) + 1 else 1 := by
  unfold wrapG; rw [depthF_succ]; split <;> simp
theorem depthF_wrapA {n : Nat} (t : Ty n) (most : Int) : depthF (n + 1) (wrapA t) most = if 1 < most then max 0 (depthF n t (most - 1)) + 1 else 1 := by
  unfold wrapA; rw [depthF_succ]; split <;> simp
theorem foldl_min {α : Type} (c : Int) (g h : α → Int) : ∀ (l : List α), (∀ x ∈ l, h x = min c (g x)) → ∀ o, l.foldl (fun o x => max o (h x)) (min c o) = min c (l.foldl (fun o x => max o (g x)) o)
  | [], _, o => rfl
  | x :: l, hx, o => by
    simp only [List.foldl_cons]
    rw [hx x (by simp), show max (min c o) (min c (g x)) = min c (max o (g x)) by omega]
    exact foldl_min c g h l (fun y hy => hx y (by simp [hy])) _
theorem depth_min : ∀ (n : Nat) (t : Ty n) (a b : Int), 1 ≤ a → a ≤ b → depthF n t a = min a (depthF n t b)
  | 0, t, _, _, _, _ => nomatch t
  | n + 1, (t : TyF (Ty n)), a, b, h1, h2 => by
    by_cases ha : 1 < a
    · rw [depthF_succ n t a, depthF_succ n t b, if_pos ha, if_pos (by omega)]
      have e1 := foldl_min (a - 1) (fun f : FdF (Ty n) => depthF n f.type (b - 1)) (fun f : FdF (Ty n) => depthF n f.type (a - 1)) t.fields (fun f _ => depth_min n f.type (a - 1) (b - 1) (by omega) (by omega)) 0
      rw [show min (a - 1) (0 : Int) = 0 by omega] at e1
      rw [e1, foldl_min (a - 1) (fun e : Ty n => depthF n e (b - 1)) (fun e : Ty n => depthF n e (a - 1)) t.elem (fun e _ => depth_min n e (a - 1) (b - 1) (by omega) (by omega))]
      omega
    · have hr := (depthF_rng (n + 1) t b (by omega)).1
      rw [depthF_succ n t a, if_neg ha]
      omega
theorem name_x : nameB ⟨#[120]⟩ = true := by kernel_rfl
theorem soundF_wrapG {n : Nat} (t : Ty n) (h : soundF n t = 0) : soundF (n + 1) (wrapG t) = 0 := by
  unfold wrapG
  rw [soundF_succ]
  unfold oneE
  rw [if_neg (by simp [onlyB]), if_neg (by simp), if_neg (by simp), if_neg (by simp)]
  unfold groupE
  rw [if_neg (by simp)]
  simp only [List.length_cons, List.length_nil, Nat.zero_add]
  unfold firstE firstE
  rw [if_neg (by simp)]
  rw [fieldOf_some _ _ _ _ 0 ⟨⟨#[120]⟩, t, false, 0⟩ rfl]
  unfold fieldE
  simp [name_x, h, anyB]
theorem soundF_wrapA {n : Nat} (t : Ty n) (h : soundF n t = 0) : soundF (n + 1) (wrapA t) = 0 := by
  unfold wrapA
  rw [soundF_succ]
  unfold oneE
  rw [if_neg (by simp [onlyB]), if_neg (by simp), if_neg (by simp), if_pos rfl, if_neg (by simp)]
  exact h
/-- what so many types round one make. -/
def DeepBy (n : Nat) (t : Ty n) (m : Nat) (u : Ty m) (i : Int) : Prop :=
  soundF m u = 0 ∧ ∀ most, 1 ≤ most → most ≤ 65 → depthF m u most = if i < most then depthF n t (most - i) + i else most
theorem deep_0 {n : Nat} {t : Ty n} (h : soundF n t = 0) : DeepBy n t n t 0 := ⟨h, fun most h1 _ => by rw [if_pos (by omega), Int.sub_zero, Int.add_zero]⟩
theorem deep_step {n m : Nat} {t : Ty n} {u : Ty m} {v : Ty (m + 1)} {i : Int} (hi : 0 ≤ i) (hu : DeepBy n t m u i) (hs : soundF (m + 1) v = 0) (hd : ∀ most, depthF (m + 1) v most = if 1 < most then max 0 (depthF m u (most - 1)) + 1 else 1) : DeepBy n t (m + 1) v (i + 1) := by
  refine ⟨hs, fun most h1 h2 => ?_⟩
  rw [hd]
  by_cases hm : 1 < most
  · rw [if_pos hm, hu.2 (most - 1) (by omega) (by omega)]
    by_cases hk : i < most - 1
    · have := (depthF_rng n t (most - 1 - i) (by omega)).1
      rw [if_pos hk, if_pos (by omega), show most - (i + 1) = most - 1 - i by omega]
      omega
    · rw [if_neg hk, if_neg (by omega)]
      omega
  · rw [if_neg hm, if_neg (by omega)]
    omega
theorem deep_end {n m : Nat} {t : Ty n} {u : Ty m} {k : Int} (hk : 0 ≤ k) (hu : DeepBy n t m u k) (hd : depthF n t 65 ≤ 64) :
    (64 < depthF n t 65 + k → SoundF m u = 5) ∧ (depthF n t 65 + k ≤ 64 → SoundF m u = 0 ∧ depthF m u 65 = depthF n t 65 + k) := by
  have h := hu.2 65 (by omega) (by omega)
  have hr := (depthF_rng n t 65 (by omega)).1
  unfold SoundF
  by_cases h1 : k < 65
  · rw [if_pos h1, depth_min n t (65 - k) 65 (by omega) (by omega)] at h
    refine ⟨fun h2 => ?_, fun h2 => ?_⟩
    · rw [h, if_pos (by omega)]
    · rw [h, if_neg (by omega)]
      exact ⟨hu.1, by omega⟩
  · rw [if_neg h1] at h
    refine ⟨fun h2 => ?_, fun h2 => by omega⟩
    rw [h, if_pos (by omega)]
end Go.Proofs.Ytlbkloamabomcaa
namespace Go.Proofs.Ytlbkloamabomcaa
open Go.RowKit Go.Sort
set_option linter.unusedVariables false
set_option linter.unusedSimpArgs false
theorem fieldE_zero {p : Bool} {s : ByteArray} {tw : Bool} {e : Int} {bt : Bool} {wd qk qs : Int} (h : fieldE p s tw e bt wd qk qs = 0) : e = 0 ∧ (!s.toList.isEmpty && tw) = false := by
  unfold fieldE at h
  split at h
  · omega
  · split at h
    · omega
    · rename_i h2
      refine ⟨?_, by simpa using h2⟩
      split at h
      · omega
      · simpa using ‹¬ e ≠ 0›
theorem onlyB_parts {k s : Int} {p : Bool} {fl : Nat} {c : Int} {el : Nat} (h : onlyB k s p fl c el = true) : (k = 3 ∨ k = 4 ∨ fl = 0) ∧ (k = 5 ∨ el = 0) ∧ (k = 5 → el = 1) ∧ (k = 1 ∨ k = 2 ∨ k = 3 ∨ k = 4 ∨ k = 5) := by
  simp only [onlyB, Bool.and_eq_true, Bool.or_eq_true, beq_iff_eq, Bool.not_eq_true'] at h
  obtain ⟨⟨⟨⟨h1, h2⟩, h3⟩, h4⟩, h5⟩ := h
  refine ⟨?_, ?_, fun h6 => ?_, ?_⟩
  · rcases h3 with (h | h) | h
    · exact .inl h
    · exact .inr (.inl h)
    · exact .inr (.inr h.2)
  · rcases h4 with h | h
    · exact .inl h
    · exact .inr h.2
  · rcases h5 with h | h
    · simp [h6] at h
    · exact h
  · omega
theorem sound_parts {n : Nat} {t : TyF (Ty n)} (h : soundF (n + 1) t = 0) : (∀ (i : Nat) (f : FdF (Ty n)), t.fields[i]? = some f → soundF n f.type = 0) ∧ (∀ (i : Nat) (e : Ty n), t.elem[i]? = some e → soundF n e = 0) := by
  rw [soundF_succ] at h
  unfold oneE at h
  split at h
  · omega
  · rename_i ho
    obtain ⟨a, b, c, d⟩ := onlyB_parts (by simpa using ho)
    have nof : t.fields.length = 0 → ∀ (i : Nat) (f : FdF (Ty n)), t.fields[i]? = some f → soundF n f.type = 0 := fun h0 i f hf => by
      rw [List.eq_nil_of_length_eq_zero h0] at hf; simp at hf
    have noe : t.elem.length = 0 → ∀ (i : Nat) (e : Ty n), t.elem[i]? = some e → soundF n e = 0 := fun h0 i f hf => by
      rw [List.eq_nil_of_length_eq_zero h0] at hf; simp at hf
    split at h
    · exact ⟨nof (by omega), noe (by omega)⟩
    · split at h
      · exact ⟨nof (by omega), noe (by omega)⟩
      · split at h
        · rename_i k5
          split at h
          · omega
          · refine ⟨nof (by omega), fun i e he => ?_⟩
            have hl := c k5
            cases hc : t.elem with
            | nil => rw [hc] at hl; simp at hl
            | cons x l =>
              rw [hc] at hl he h
              have : l = [] := List.eq_nil_of_length_eq_zero (by simpa using hl)
              subst this
              match i, he with
              | 0, he => simp at he; subst he; exact h
              | i + 1, he => simp at he
        · refine ⟨fun i f hf => ?_, noe (by omega)⟩
          unfold groupE at h
          split at h
          · omega
          · have hi : i < t.fields.length := by
              rcases Nat.lt_or_ge i t.fields.length with hh | hh
              · exact hh
              · rw [List.getElem?_eq_none hh] at hf; cases hf
            have := firstE_eq _ _ h i hi
            rw [fieldOf_some _ _ _ _ i f hf] at this
            exact (fieldE_zero this).1
theorem foldl_ge {α : Type} (g : α → Int) : ∀ (l : List α) (o : Int), o ≤ l.foldl (fun o x => max o (g x)) o ∧ ∀ (i : Nat) (x : α), l[i]? = some x → g x ≤ l.foldl (fun o x => max o (g x)) o
  | [], o => ⟨by simp, fun i x h => by simp at h⟩
  | y :: l, o => by
    have ih := foldl_ge g l (max o (g y))
    refine ⟨by simp only [List.foldl_cons]; omega, fun i x h => ?_⟩
    simp only [List.foldl_cons]
    match i, h with
    | 0, h => simp at h; subst h; omega
    | i + 1, h => exact ih.2 i x (by simpa using h)
theorem depth_part {n : Nat} {u : Ty n} {d : Int} (h : d ≤ 64) (h2 : depthF n u 64 + 1 ≤ d) : depthF n u 65 ≤ 64 := by
  rw [depth_min n u 64 65 (by omega) (by omega)] at h2
  omega
/-- the parts of what may be may be. -/
theorem Sound_parts {n : Nat} {t : TyF (Ty n)} (h : SoundF (n + 1) t = 0) : (∀ (i : Nat) (f : FdF (Ty n)), t.fields[i]? = some f → SoundF n f.type = 0) ∧ (∀ (i : Nat) (e : Ty n), t.elem[i]? = some e → SoundF n e = 0) := by
  unfold SoundF at h
  split at h
  · omega
  · rename_i hd
    obtain ⟨p1, p2⟩ := sound_parts h
    have hd2 : depthF (n + 1) t 65 ≤ 64 := by omega
    have e := depthF_succ n t 65
    rw [if_pos (by omega)] at e
    have a := foldl_ge (fun e : Ty n => depthF n e (65 - 1)) t.elem (t.fields.foldl (fun o f => max o (depthF n f.type (65 - 1))) 0)
    have b := foldl_ge (fun f : FdF (Ty n) => depthF n f.type (65 - 1)) t.fields 0
    refine ⟨fun i f hf => ?_, fun i x hx => ?_⟩
    · have := b.2 i f hf
      have a1 := a.1
      have hq := depth_part (u := f.type) hd2 (by rw [e]; exact Int.add_le_add_right (Int.le_trans this a1) 1)
      unfold SoundF
      rw [if_neg (by omega)]
      exact p1 i f hf
    · have := a.2 i x hx
      have hq := depth_part (u := x) hd2 (by rw [e]; exact Int.add_le_add_right this 1)
      unfold SoundF
      rw [if_neg (by omega)]
      exact p2 i x hx
end Go.Proofs.Ytlbkloamabomcaa
