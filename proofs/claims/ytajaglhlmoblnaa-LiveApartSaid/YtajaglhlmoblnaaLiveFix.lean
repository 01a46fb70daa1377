/- Passes over loops until nothing moves (plain); rows that are owned, as intervals and as loops. No condition. -/
import Derived.Test.YtajaglhlmoblnaaLiveStr2
import Derived.Test.YtajaglhlmoblnaaLiveLoops
namespace Go.Proofs.Ytajaglhlmoblnaa
open Go.RowKit Go.Sort Go.Lib
set_option linter.unusedVariables false
set_option linter.unusedSimpArgs false
abbrev Tri : Type := Int × Int × Int
def pass (lps : List (Int × Int)) (l : List Tri) : List Tri := lps.foldl (fun l x => l.map (st1 x.1 x.2)) l
def anyM : List (Int × Int) → List Tri → Bool
  | [], _ => false
  | x :: r, l => l.any (cond1 x.1 x.2) || anyM r (l.map (st1 x.1 x.2))
/-- from l on, as long as something moves, r is come to. -/
inductive Stops (lps : List (Int × Int)) : List Tri → List Tri → Prop
  | stop {l : List Tri} (h : anyM lps l = false) : Stops lps l l
  | go {l r : List Tri} (h : anyM lps l = true) (k : Stops lps (pass lps l) r) : Stops lps l r
theorem Stops.unique {lps : List (Int × Int)} {l r : List Tri} (h : Stops lps l r) : ∀ {r' : List Tri}, Stops lps l r' → r = r' := by
  induction h with
  | stop h =>
    intro r' h'
    cases h' with
    | stop _ => rfl
    | go h2 _ => rw [h] at h2; cases h2
  | go h _ ih =>
    intro r' h'
    cases h' with
    | stop h2 => rw [h] at h2; cases h2
    | go _ k => exact ih k
theorem map_still {lf lt : Int} {l : List Tri} (h : l.any (cond1 lf lt) = false) : l.map (st1 lf lt) = l := by
  induction l with
  | nil => rfl
  | cons x r ih =>
    rw [List.any_cons, Bool.or_eq_false_iff] at h
    rw [List.map_cons, ih h.2]
    congr 1
    unfold st1
    rw [if_neg (by rw [h.1]; decide)]
theorem pass_still : ∀ {lps : List (Int × Int)} {l : List Tri}, anyM lps l = false → pass lps l = l
  | [], _, _ => rfl
  | x :: r, l, h => by
    unfold anyM at h
    rw [Bool.or_eq_false_iff] at h
    have e := map_still h.1
    rw [e] at h
    show pass r (l.map (st1 x.1 x.2)) = l
    rw [e]
    exact pass_still h.2
theorem pass_take (lps : List (Int × Int)) (l : List Tri) (j : Nat) (x : Int × Int) (h : lps[j]? = some x) : pass (lps.take (j + 1)) l = (pass (lps.take j) l).map (st1 x.1 x.2) := by
  unfold pass
  rw [List.take_add_one, h, List.foldl_append]
  rfl
theorem anyM_append : ∀ (a b : List (Int × Int)) (l : List Tri), anyM (a ++ b) l = (anyM a l || anyM b (pass a l))
  | [], b, l => by simp [anyM, pass]
  | x :: r, b, l => by
    show (l.any _ || anyM (r ++ b) _) = _
    rw [anyM_append r b]
    show _ = ((l.any _ || anyM r _) || anyM b (pass r (l.map (st1 x.1 x.2))))
    rw [Bool.or_assoc]
theorem anyM_take (lps : List (Int × Int)) (l : List Tri) (j : Nat) (x : Int × Int) (h : lps[j]? = some x) : anyM (lps.take (j + 1)) l = (anyM (lps.take j) l || (pass (lps.take j) l).any (cond1 x.1 x.2)) := by
  rw [List.take_add_one, h]
  simp only [Option.toList]
  rw [anyM_append]
  simp [anyM]
theorem pass_len (lps : List (Int × Int)) (l : List Tri) : (pass lps l).length = l.length := by
  unfold pass
  induction lps generalizing l with
  | nil => rfl
  | cons x r ih => rw [List.foldl_cons, ih]; simp
/-- what is still to move. -/
def pot (l : List Tri) : Nat := (l.map fun x => (1000 - x.2.2).toNat).sum
theorem st1_pot (lf lt : Int) (ht : lt ≤ 1000) (l : List Tri) : pot (l.map (st1 lf lt)) ≤ pot l ∧ (l.any (cond1 lf lt) = true → pot (l.map (st1 lf lt)) < pot l) := by
  induction l with
  | nil => exact ⟨Nat.le_refl _, fun h => by simp at h⟩
  | cons x r ih =>
    obtain ⟨h1, h2⟩ := ih
    unfold pot at *
    simp only [List.map_cons, List.sum_cons, List.any_cons]
    cases hc : cond1 lf lt x with
    | true =>
      have h3 : x.2.1 < lf ∧ lf ≤ x.2.2 ∧ x.2.2 < lt := by
        unfold cond1 at hc
        exact of_decide_eq_true hc
      have e : st1 lf lt x = (x.1, x.2.1, lt) := by unfold st1; rw [if_pos hc]
      rw [e]
      simp only
      refine ⟨by omega, fun _ => by omega⟩
    | false =>
      have e : st1 lf lt x = x := by unfold st1; rw [if_neg (by rw [hc]; decide)]
      rw [e]
      refine ⟨by omega, fun h => ?_⟩
      have := h2 (by simpa using h)
      omega
theorem pass_pot : ∀ (lps : List (Int × Int)) (l : List Tri), (∀ x ∈ lps, x.2 ≤ 1000) → pot (pass lps l) ≤ pot l ∧ (anyM lps l = true → pot (pass lps l) < pot l)
  | [], l, _ => ⟨Nat.le_refl _, fun h => by cases h⟩
  | x :: r, l, h => by
    have h1 := st1_pot x.1 x.2 (h x (by simp)) l
    have h2 := pass_pot r (l.map (st1 x.1 x.2)) (fun y hy => h y (by simp [hy]))
    show pot (pass r (l.map (st1 x.1 x.2))) ≤ _ ∧ ((l.any _ || anyM r _) = true → pot (pass r (l.map (st1 x.1 x.2))) < _)
    refine ⟨Nat.le_trans h2.1 h1.1, fun hm => ?_⟩
    rw [Bool.or_eq_true] at hm
    rcases hm with hm | hm
    · exact Nat.lt_of_le_of_lt h2.1 (h1.2 hm)
    · exact Nat.lt_of_lt_of_le (h2.2 hm) h1.1
theorem lpN_le (ops : Nat → LOp) : ∀ k, ∀ x ∈ lpN ops k, x.2 ≤ (k : Int)
  | 0, x, hx => by cases hx
  | k + 1, x, hx => by
    rw [lpN_succ] at hx
    rcases List.mem_append.1 hx with hx | hx
    · have := lpN_le ops k x hx
      omega
    · split at hx
      · split at hx
        · simp at hx
          subst hx
          simp only
          omega
        · cases hx
      · cases hx
theorem stops_all (lps : List (Int × Int)) (h : ∀ x ∈ lps, x.2 ≤ 1000) : ∀ (n : Nat) (l : List Tri), pot l ≤ n → ∃ r, Stops lps l r
  | 0, l, hn => by
    cases hm : anyM lps l with
    | false => exact ⟨l, .stop hm⟩
    | true => have := (pass_pot lps l h).2 hm; omega
  | n + 1, l, hn => by
    cases hm : anyM lps l with
    | false => exact ⟨l, .stop hm⟩
    | true =>
      have := (pass_pot lps l h).2 hm
      obtain ⟨r, hr⟩ := stops_all lps h n (pass lps l) (by omega)
      exact ⟨r, .go hm hr⟩
end Go.Proofs.Ytajaglhlmoblnaa
