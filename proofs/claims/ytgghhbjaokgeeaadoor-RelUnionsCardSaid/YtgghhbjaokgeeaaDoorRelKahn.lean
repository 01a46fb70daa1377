/- Taking away things that nothing leads to (plain); once or more by rounds is what is come to (plain). No condition. -/
import Derived.Test.YtgghhbjaokgeeaaDoorRelDfs
namespace Go.Proofs.YtgghhbjaokgeeaaDoor
set_option linter.unusedVariables false
def Free (A : Nat → Nat → Bool) (N : Nat) (gone : Nat → Bool) (k : Nat) : Prop := gone k = false ∧ ∀ i, i < N → gone i = true ∨ A i k = false
structure KI (A : Nat → Nat → Bool) (N t : Nat) (gone : Nat → Bool) : Prop where
  cnt : uns gone N + t = N
  pre : ∀ i k, gone k = true → A i k = true → gone i = true
  no : ∀ x, gone x = true → ¬ Rch A x x
theorem KI.start (A : Nat → Nat → Bool) (N : Nat) : KI A N 0 (fun _ => false) :=
  ⟨by
    have : ∀ n, uns (fun _ => false) n = n := fun n => by
      induction n with
      | zero => rfl
      | succ n ih => unfold uns; rw [ih]; simp
    rw [this]; rfl, fun _ _ h => (by cases h), fun _ h => (by cases h)⟩
theorem KI.back {A : Nat → Nat → Bool} {N t : Nat} {gone : Nat → Bool} (h : KI A N t gone) {x y : Nat} (hr : Rch A x y) (hy : gone y = true) : gone x = true := by
  induction hr with
  | one h1 => exact h.pre _ _ hy h1
  | step _ h1 ih => exact ih (h.pre _ _ hy h1)
theorem KI.take {A : Nat → Nat → Bool} {N t : Nat} {gone : Nat → Bool} (h : KI A N t gone) (h0 : ∀ a c, N ≤ a → A a c = false) {k : Nat} (hk : k < N) (hf : Free A N gone k) : KI A N (t + 1) (fun c => if c = k then true else gone c) := by
  have pre1 : ∀ i, A i k = true → gone i = true := fun i hi => by
    rcases Nat.lt_or_ge i N with h1 | h1
    · rcases hf.2 i h1 with h2 | h2
      · exact h2
      · rw [h2] at hi; cases hi
    · rw [h0 i k h1] at hi; cases hi
  refine ⟨?_, fun i c hc hA => ?_, fun x hx hr => ?_⟩
  · have := uns_set gone k hf.1 N hk
    have := h.cnt
    omega
  · have : gone i = true := by
      by_cases e : c = k
      · subst e; exact pre1 i hA
      · simp only [if_neg e] at hc
        exact h.pre i c hc hA
    simp [this]
  · by_cases e : x = k
    · subst e
      have key : gone x = true := by
        cases hr with
        | one h1 => exact pre1 x h1
        | step h1 h2 => exact h.back h1 (pre1 _ h2)
      rw [hf.1] at key
      cases key
    · simp only [if_neg e] at hx
      exact h.no x hx hr
theorem uns_zero {S : Nat → Bool} : ∀ {n : Nat}, uns S n = 0 → ∀ k, k < n → S k = true
  | 0, _, k, hk => by omega
  | n + 1, h, k, hk => by
    unfold uns at h
    by_cases e : k = n
    · subst e
      cases hs : S k with
      | true => rfl
      | false => rw [hs] at h; simp at h
    · exact uns_zero (n := n) (by omega) k (by omega)
theorem uns_pos {S : Nat → Bool} : ∀ {n : Nat}, 0 < uns S n → ∃ k, k < n ∧ S k = false
  | 0, h => by simp [uns] at h
  | n + 1, h => by
    unfold uns at h
    cases hs : S n with
    | false => exact ⟨n, by omega, hs⟩
    | true =>
      rw [hs] at h
      obtain ⟨k, hk, h2⟩ := uns_pos (n := n) (by simpa using h)
      exact ⟨k, by omega, h2⟩
theorem KI.whole {A : Nat → Nat → Bool} {N : Nat} {gone : Nat → Bool} (h : KI A N N gone) (h0 : ∀ a c, N ≤ a → A a c = false) (x : Nat) : ¬ Rch A x x := fun hr => by
  have hx : x < N := by
    rcases Nat.lt_or_ge x N with h1 | h1
    · exact h1
    · exfalso
      have := rch_row hr
      obtain ⟨t, ht⟩ := this
      rw [h0 x t h1] at ht
      cases ht
  have hc := h.cnt
  exact h.no x (uns_zero (n := N) (by omega) x hx) hr
/-- how many of the first n lead to k. -/
noncomputable def lead (A : Nat → Nat → Bool) (R : Nat → Bool) (k : Nat) (i : Nat) : Bool := !(R i && rchB A i k)
theorem uns_mono {S T : Nat → Bool} : ∀ (n : Nat) (h : ∀ k, k < n → T k = true → S k = true), uns S n ≤ uns T n
  | 0, _ => Nat.le_refl _
  | n + 1, h => by
    have ih := uns_mono n (fun k hk => h k (by omega))
    have hn := h n (by omega)
    unfold uns
    cases hT : T n with
    | true => rw [hn hT]; simpa using ih
    | false => cases S n <;> simp <;> omega
theorem uns_less {S T : Nat → Bool} : ∀ (n : Nat) (h : ∀ k, k < n → T k = true → S k = true) (k : Nat) (hk : k < n) (h1 : T k = false) (h2 : S k = true), uns S n < uns T n
  | 0, _, k, hk, _, _ => by omega
  | n + 1, h, k, hk, h1, h2 => by
    unfold uns
    by_cases e : k = n
    · subst e
      have := uns_mono (S := S) (T := T) k (fun j hj => h j (by omega))
      rw [h1, h2]
      simp
      omega
    · have ih := uns_less n (fun j hj => h j (by omega)) k (by omega) h1 h2
      have hn := h n (by omega)
      cases hT : T n with
      | true => rw [hn hT]; simpa using ih
      | false => cases S n <;> simp <;> omega
/-- where nothing comes back, something has nothing ahead of it. -/
theorem first_of {A : Nat → Nat → Bool} {N : Nat} {R : Nat → Bool} (hno : ∀ x, ¬ Rch A x x) (m : Nat) : ∀ k, k < N → R k = true → uns (lead A R k) N = m → ∃ k, k < N ∧ R k = true ∧ ∀ i, i < N → R i = true → A i k = false := by
  induction m using Nat.strongRecOn with
  | _ m ih =>
    intro k hk hR hm
    by_cases hp : ∃ i, i < N ∧ R i = true ∧ A i k = true
    · obtain ⟨i, hi, hRi, hA⟩ := hp
      refine ih (uns (lead A R i) N) ?_ i hi hRi rfl
      rw [← hm]
      refine uns_less N (fun j hj h => ?_) i hi ?_ ?_
      · unfold lead at h ⊢
        cases hRj : R j with
        | false => simp
        | true =>
          rw [hRj] at h
          simp only [Bool.true_and, Bool.not_eq_true'] at h ⊢
          rw [Bool.eq_false_iff] at h ⊢
          intro h2
          exact h (rchB_iff.2 (.step (rchB_iff.1 h2) hA))
      · unfold lead
        rw [hRi, rchB_iff.2 (.one hA)]
        rfl
      · unfold lead
        have : rchB A i i = false := by
          rw [Bool.eq_false_iff]
          exact fun h => hno i (rchB_iff.1 h)
        rw [this]
        simp
    · refine ⟨k, hk, hR, fun i hi hRi => ?_⟩
      cases hA : A i k with
      | false => rfl
      | true => exact absurd ⟨i, hi, hRi, hA⟩ hp
theorem KI.stuck {A : Nat → Nat → Bool} {N t : Nat} {gone : Nat → Bool} (h : KI A N t gone) (ht : t < N) (hs : ∀ k, k < N → ¬ Free A N gone k) : ¬ ∀ x, ¬ Rch A x x := fun hno => by
  have hc := h.cnt
  obtain ⟨k, hk, hg⟩ := uns_pos (S := gone) (n := N) (by omega)
  obtain ⟨k', h1, h2, h3⟩ := first_of (R := fun k => !gone k) hno _ k hk (by simp [hg]) rfl
  refine hs k' h1 ⟨by simpa using h2, fun i hi => ?_⟩
  cases hgi : gone i with
  | true => exact .inl rfl
  | false => exact .inr (h3 i hi (by simp [hgi]))
/-! once or more, by rounds -/
theorem war_rch {f : Nat → Nat → Bool} : ∀ (m i k : Nat), war f m i k = true → Rch f i k
  | 0, i, k, h => .one h
  | m + 1, i, k, h => by
    unfold war warStep at h
    rw [Bool.or_eq_true, Bool.and_eq_true] at h
    rcases h with h | ⟨h1, h2⟩
    · exact war_rch m i k h
    · exact (war_rch m i m h1).trans (war_rch m m k h2)
theorem war_up {f : Nat → Nat → Bool} : ∀ (m n i k : Nat), m ≤ n → war f m i k = true → war f n i k = true := fun m n i k hmn h => by
  induction n with
  | zero =>
    have e : m = 0 := by omega
    subst e
    exact h
  | succ n ih =>
    by_cases e : m = n + 1
    · subst e; exact h
    · unfold war warStep
      rw [ih (by omega)]
      rfl
/-- by ways through the first m things alone. -/
theorem war_step {f : Nat → Nat → Bool} : ∀ (m i j k : Nat), j < m → war f m i j = true → war f m j k = true → war f m i k = true
  | 0, _, j, _, hj, _, _ => by omega
  | m + 1, i, j, k, hj, h1, h2 => by
    unfold war warStep at h1 h2 ⊢
    simp only [Bool.or_eq_true, Bool.and_eq_true] at h1 h2 ⊢
    by_cases e : j = m
    · subst e
      rcases h1 with h1 | ⟨h1, h1'⟩ <;> rcases h2 with h2 | ⟨h2, h2'⟩
      · exact .inr ⟨h1, h2⟩
      · exact .inr ⟨h1, h2'⟩
      · exact .inr ⟨h1, h2⟩
      · exact .inr ⟨h1, h2'⟩
    · have ih := fun i k => war_step (f := f) m i j k (by omega)
      rcases h1 with h1 | ⟨h1, h1'⟩ <;> rcases h2 with h2 | ⟨h2, h2'⟩
      · exact .inl (ih i k h1 h2)
      · exact .inr ⟨ih i m h1 h2, h2'⟩
      · exact .inr ⟨h1, ih m k h1' h2⟩
      · exact .inr ⟨h1, h2'⟩
theorem rch_war {f : Nat → Nat → Bool} {n : Nat} (h0 : ∀ a c, n ≤ c → f a c = false) {i k : Nat} (h : Rch f i k) : war f n i k = true := by
  have inN : ∀ {a c}, f a c = true → c < n := fun {a c} h1 => by
    rcases Nat.lt_or_ge c n with h2 | h2
    · exact h2
    · rw [h0 a c h2] at h1; cases h1
  induction h with
  | one h1 => exact war_up 0 n _ _ (Nat.zero_le _) h1
  | @step j k hr h1 ih =>
    have hj : j < n := by
      cases hr with
      | one h => exact inN h
      | step _ h => exact inN h
    exact war_step n _ j _ hj ih (war_up 0 n _ _ (Nat.zero_le _) h1)
theorem war_iff {f : Nat → Nat → Bool} {n : Nat} (h0 : ∀ a c, n ≤ c → f a c = false) (i k : Nat) : war f n i k = rchB f i k := by
  rw [Bool.eq_iff_iff, rchB_iff]
  exact ⟨war_rch n i k, rch_war h0⟩
end Go.Proofs.YtgghhbjaokgeeaaDoor
