/- Walks along a relation (plain): what is come to; the invariant of the document's search. No condition. -/
import Derived.Test.YtgghhbjaokgeeaaDoorRelMath
namespace Go.Proofs.YtgghhbjaokgeeaaDoor
set_option linter.unusedVariables false
/-- come to by one pair or more. -/
inductive Rch (A : Nat → Nat → Bool) : Nat → Nat → Prop
  | one {i j : Nat} (h : A i j = true) : Rch A i j
  | step {i j k : Nat} (h : Rch A i j) (h2 : A j k = true) : Rch A i k
theorem Rch.trans {A : Nat → Nat → Bool} {i j k : Nat} (h : Rch A i j) (h2 : Rch A j k) : Rch A i k := by
  induction h2 with
  | one h' => exact .step h h'
  | step _ h' ih => exact .step ih h'
noncomputable def rchB (A : Nat → Nat → Bool) (i k : Nat) : Bool := @decide (Rch A i k) (Classical.propDecidable _)
theorem rchB_iff {A : Nat → Nat → Bool} {i k : Nat} : rchB A i k = true ↔ Rch A i k := by
  unfold rchB
  exact @decide_eq_true_iff _ (Classical.propDecidable _)
theorem rch_row {A : Nat → Nat → Bool} {x c : Nat} (h : Rch A x c) : ∃ t, A x t = true := by
  induction h with
  | one h => exact ⟨_, h⟩
  | step _ _ ih => exact ih
def uns (S : Nat → Bool) : Nat → Nat
  | 0 => 0
  | n + 1 => uns S n + if S n = true then 0 else 1
theorem uns_same {S T : Nat → Bool} : ∀ (n : Nat) (h : ∀ k, k < n → S k = T k), uns S n = uns T n
  | 0, _ => rfl
  | n + 1, h => by
    unfold uns
    rw [uns_same n (fun k hk => h k (by omega)), h n (by omega)]
theorem uns_set (S : Nat → Bool) (k : Nat) (hk : S k = false) : ∀ n, k < n → uns (fun c => if c = k then true else S c) n + 1 = uns S n
  | 0, h => by omega
  | n + 1, h => by
    unfold uns
    by_cases e : k = n
    · subst e
      rw [uns_same (S := fun c => if c = k then true else S c) (T := S) k (fun t ht => by simp [show ¬ t = k by omega])]
      simp [hk]
    · have ih := uns_set S k hk n (by omega)
      simp only [if_neg (show ¬ n = k from fun h => e h.symm)]
      omega
structure DI (A : Nat → Nat → Bool) (N i : Nat) (S : Nat → Bool) (L : List Nat) : Prop where
  sound : ∀ k, S k = true → Rch A i k
  rng : ∀ j ∈ L, j < N ∧ (j = i ∨ S j = true)
  done : ∀ x, (x = i ∨ S x = true) → x ∈ L ∨ ∀ k, k < N → A x k = true → S k = true
structure DJ (A : Nat → Nat → Bool) (N i j k : Nat) (S : Nat → Bool) (L : List Nat) : Prop where
  sound : ∀ k, S k = true → Rch A i k
  rng : ∀ j ∈ L, j < N ∧ (j = i ∨ S j = true)
  jr : j = i ∨ S j = true
  part : ∀ t, t < k → A j t = true → S t = true
  done : ∀ x, (x = i ∨ S x = true) → x = j ∨ x ∈ L ∨ ∀ k, k < N → A x k = true → S k = true
theorem DI.start (A : Nat → Nat → Bool) (N i : Nat) (hi : i < N) : DI A N i (fun _ => false) [i] :=
  ⟨fun k h => (by cases h), fun j hj => (by simp at hj; omega), fun x hx => (by
    rcases hx with rfl | h
    · exact .inl (by simp)
    · cases h)⟩
theorem DI.pop {A : Nat → Nat → Bool} {N i j : Nat} {S : Nat → Bool} {L : List Nat} (h : DI A N i S (L ++ [j])) : DJ A N i j 0 S L :=
  ⟨h.sound, fun x hx => h.rng x (by simp [hx]), (h.rng j (by simp)).2, fun t ht => by omega, fun x hx => by
    rcases h.done x hx with h1 | h1
    · rcases List.mem_append.1 h1 with h2 | h2
      · exact .inr (.inl h2)
      · exact .inl (by simpa using h2)
    · exact .inr (.inr h1)⟩
theorem DJ.push {A : Nat → Nat → Bool} {N i j k : Nat} {S : Nat → Bool} {L : List Nat} (h : DJ A N i j k S L) (hk : k < N) (hA : A j k = true) : DJ A N i j (k + 1) (fun c => if c = k then true else S c) (L ++ [k]) := by
  have up : ∀ {t}, S t = true → (if t = k then true else S t) = true := fun {t} ht => by split; rfl; exact ht
  refine ⟨fun t ht => ?_, fun x hx => ?_, h.jr.imp id up, fun t ht h1 => ?_, fun x hx => ?_⟩
  · by_cases e : t = k
    · subst e
      rcases h.jr with rfl | hj
      · exact .one hA
      · exact .step (h.sound j hj) hA
    · simp only [if_neg e] at ht
      exact h.sound t ht
  · rcases List.mem_append.1 hx with h1 | h1
    · obtain ⟨a, b⟩ := h.rng x h1
      exact ⟨a, b.imp id up⟩
    · simp at h1
      subst h1
      exact ⟨hk, .inr (by simp)⟩
  · by_cases e : t = k
    · simp [e]
    · exact up (h.part t (by omega) h1)
  · by_cases e : x = k
    · subst e; exact .inr (.inl (by simp))
    · have hx' : x = i ∨ S x = true := hx.imp id (fun h => by simpa [e] using h)
      rcases h.done x hx' with h1 | h1 | h1
      · exact .inl h1
      · exact .inr (.inl (by simp [h1]))
      · exact .inr (.inr fun t ht hA => up (h1 t ht hA))
theorem DJ.stay {A : Nat → Nat → Bool} {N i j k : Nat} {S : Nat → Bool} {L : List Nat} (h : DJ A N i j k S L) (hA : A j k = false ∨ S k = true) : DJ A N i j (k + 1) S L :=
  ⟨h.sound, h.rng, h.jr, fun t ht h1 => by
    by_cases e : t = k
    · subst e
      rcases hA with hA | hA
      · rw [hA] at h1; cases h1
      · exact hA
    · exact h.part t (by omega) h1, h.done⟩
theorem DJ.all {A : Nat → Nat → Bool} {N i j : Nat} {S : Nat → Bool} {L : List Nat} (h : DJ A N i j N S L) : DI A N i S L :=
  ⟨h.sound, h.rng, fun x hx => by
    rcases h.done x hx with rfl | h1 | h1
    · exact .inr h.part
    · exact .inl h1
    · exact .inr h1⟩
theorem DI.whole {A : Nat → Nat → Bool} {N i : Nat} {S : Nat → Bool} (h : DI A N i S []) (h0 : ∀ a c, N ≤ c → A a c = false) (k : Nat) : S k = rchB A i k := by
  rw [Bool.eq_iff_iff, rchB_iff]
  constructor
  · exact h.sound k
  · intro hr
    have inN : ∀ {a c}, A a c = true → c < N := fun {a c} h1 => by
      rcases Nat.lt_or_ge c N with h2 | h2
      · exact h2
      · rw [h0 a c h2] at h1; cases h1
    induction hr with
    | one h1 =>
      rcases h.done _ (.inl rfl) with h2 | h2
      · cases h2
      · exact h2 _ (inN h1) h1
    | step _ h1 ih =>
      rcases h.done _ (.inr ih) with h2 | h2
      · cases h2
      · exact h2 _ (inN h1) h1
end Go.Proofs.YtgghhbjaokgeeaaDoor
