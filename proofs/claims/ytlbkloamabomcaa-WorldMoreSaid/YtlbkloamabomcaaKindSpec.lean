/- What the program and the document say of types, on plain data. -/
import Derived.Test.YtlbkloamabomcaaKindTwice
import Derived.Test.YtlbkloamabomcaaKindOnly2
import Derived.Test.YtlbkloamabomcaaKindName
namespace Go.Proofs.Ytlbkloamabomcaa
open Go.RowKit
set_option linter.unusedVariables false
def fieldE (packed : Bool) (s : ByteArray) (tw : Bool) (e : Int) (bt : Bool) (wd qk qs : Int) : Int :=
  if (!nameB s && (!s.toList.isEmpty || !bt)) = true then 6 else if (!s.toList.isEmpty && tw) = true then 7 else if e ≠ 0 then e
  else if ((!bt && wd != 0) || (bt && (qk != 1 || packed))) = true then 8 else if (bt && (decide (wd < 0) || decide (8 * qs < wd) || (wd == 0 && !s.toList.isEmpty))) = true then 9 else 0
/-- the first that is no 0. -/
def firstE (g : Nat → Int) : Nat → Int
  | 0 => 0
  | k + 1 => if firstE g k ≠ 0 then firstE g k else g k
theorem firstE_zero (g : Nat → Int) : ∀ k, (∀ i, i < k → g i = 0) → firstE g k = 0
  | 0, _ => rfl
  | k + 1, h => by
    have := firstE_zero g k (fun i hi => h i (by omega))
    unfold firstE
    rw [this, if_neg (by simp), h k (by omega)]
theorem firstE_hit (g : Nat → Int) (k : Nat) (h0 : ∀ i, i < k → g i = 0) (h : g k ≠ 0) : ∀ m, k < m → firstE g m = g k
  | 0, hm => by omega
  | m + 1, hm => by
    unfold firstE
    by_cases e : k = m
    · subst e
      rw [firstE_zero g k h0, if_neg (by simp)]
    · rw [firstE_hit g k h0 h m (by omega), if_pos h]
theorem firstE_eq (g : Nat → Int) : ∀ m, firstE g m = 0 → ∀ i, i < m → g i = 0
  | 0, _, i, hi => by omega
  | m + 1, h, i, hi => by
    unfold firstE at h
    by_cases e : firstE g m = 0
    · rw [if_neg (by simpa using e)] at h
      rcases Nat.lt_or_ge i m with h1 | h1
      · exact firstE_eq g m e i h1
      · obtain rfl : i = m := by omega
        exact h
    · rw [if_pos e] at h
      exact absurd h e
def tkind : (n : Nat) → Ty n → Int
  | 0, t => nomatch t
  | n + 1, (t : TyF (Ty n)) => t.kind
def tsize : (n : Nat) → Ty n → Int
  | 0, t => nomatch t
  | n + 1, (t : TyF (Ty n)) => t.size
def nameAt {α : Type} (fs : List (FdF α)) (j : Nat) : ByteArray := (fs[j]?.map (·.name)).getD ByteArray.empty
theorem nameAt_eq {α : Type} (fs : List (FdF α)) (j : Nat) (f : FdF α) (h : fs[j]? = some f) : nameAt fs j = f.name := by unfold nameAt; rw [h]; rfl
def fieldOf {α : Type} (S K Z : α → Int) (t : TyF α) (i : Nat) : Int := match t.fields[i]? with
  | none => 0
  | some f => fieldE t.packed f.name (anyB (nameAt t.fields) f.name i) (S f.type) f.isBits f.width (K f.type) (Z f.type)
theorem fieldOf_some {α : Type} (S K Z : α → Int) (t : TyF α) (i : Nat) (f : FdF α) (h : t.fields[i]? = some f) :
    fieldOf S K Z t i = fieldE t.packed f.name (anyB (nameAt t.fields) f.name i) (S f.type) f.isBits f.width (K f.type) (Z f.type) := by unfold fieldOf; rw [h]
def groupE {α : Type} (S K Z : α → Int) (t : TyF α) : Int := if t.fields.length < 1 ∨ 32 < t.fields.length then 12 else firstE (fieldOf S K Z t) t.fields.length
def headE {α : Type} (S : α → Int) (l : List α) : Int := match l with
  | [] => 0
  | e :: _ => S e
def oneE {α : Type} (S K Z : α → Int) (t : TyF α) : Int :=
  if onlyB t.kind t.size t.packed t.fields.length t.count t.elem.length = false then 8
  else if t.kind = 1 then (if powN t.size 8 = true then 0 else 9)
  else if t.kind = 2 then (if powN t.size 16 = true then 0 else 9)
  else if t.kind = 5 then (if t.count < 1 ∨ 65536 < t.count then 9 else headE S t.elem)
  else groupE S K Z t
def soundF : (n : Nat) → Ty n → Int
  | 0, t => nomatch t
  | n + 1, (t : TyF (Ty n)) => oneE (soundF n) (tkind n) (tsize n) t
theorem soundF_succ (n : Nat) (t : TyF (Ty n)) : soundF (n + 1) t = oneE (soundF n) (tkind n) (tsize n) t := rfl
theorem powN_rng {n m : Int} (h : powN n m = true) : 1 ≤ n ∧ n ≤ 16 ∧ (m = 8 → n ≤ 8) := by
  simp only [powN, Bool.or_eq_true, beq_iff_eq, Bool.and_eq_true] at h
  omega
theorem soundF_int : ∀ (n : Nat) (t : Ty n), soundF n t = 0 → tkind n t = 1 → 1 ≤ tsize n t ∧ tsize n t ≤ 8
  | 0, t, _, _ => nomatch t
  | n + 1, (t : TyF (Ty n)), h, hk => by
    have hk' : t.kind = 1 := hk
    rw [soundF_succ] at h
    unfold oneE at h
    split at h
    · omega
    · split at h
      · have := powN_rng ‹_›
        show 1 ≤ t.size ∧ t.size ≤ 8
        omega
      · omega
theorem fieldE_rng (p : Bool) (s : ByteArray) (tw : Bool) (e : Int) (bt : Bool) (wd qk qs : Int) (h : 0 ≤ e ∧ e ≤ 16) : 0 ≤ fieldE p s tw e bt wd qk qs ∧ fieldE p s tw e bt wd qk qs ≤ 16 := by
  unfold fieldE
  repeat' split
  all_goals omega
theorem firstE_rng (g : Nat → Int) (h : ∀ i, 0 ≤ g i ∧ g i ≤ 16) : ∀ m, 0 ≤ firstE g m ∧ firstE g m ≤ 16
  | 0 => by simp [firstE]
  | m + 1 => by
    unfold firstE
    split
    · exact firstE_rng g h m
    · exact h m
theorem soundF_rng : ∀ (n : Nat) (t : Ty n), 0 ≤ soundF n t ∧ soundF n t ≤ 16
  | 0, t => nomatch t
  | n + 1, (t : TyF (Ty n)) => by
    rw [soundF_succ]
    unfold oneE
    split
    · omega
    split
    · split <;> omega
    split
    · split <;> omega
    split
    · split
      · omega
      · unfold headE
        split
        · omega
        · exact soundF_rng n _
    · unfold groupE
      split
      · omega
      · refine firstE_rng _ (fun i => ?_) _
        unfold fieldOf
        split
        · omega
        · exact fieldE_rng _ _ _ _ _ _ _ _ (soundF_rng n _)
theorem empty_name {s : ByteArray} (h : nameB s = true) : s.toList.isEmpty = false := by
  have h1 : 1 ≤ s.size := by
    unfold nameB at h
    simp only [Bool.and_eq_true, decide_eq_true_eq] at h
    exact h.1.1
  cases e : s.toList with
  | nil =>
    have : s.data.toList.length = s.size := by simp
    rw [ByteArray.toList_eq] at e
    rw [e] at this
    simp at this
    omega
  | cons a l => rfl
end Go.Proofs.Ytlbkloamabomcaa
