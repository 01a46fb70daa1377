/- What an instruction reads and sets, as bits; what does not hang on what it does not read. No condition. -/
import Derived.Test.YtfijppclaahkmaaFlowStaysM
namespace Go.Proofs.Ytfijppclaahkmaa
open Go.RowKit Go.Sort
set_option linter.unusedVariables false
set_option linter.unusedSimpArgs false
def bitI (n : Int) : Nat := if n = 31 then 0 else 2 ^ n.toNat
def readsN (i : Ins) : Nat :=
  if i.op = 2 ∨ i.op = 15 ∨ i.op = 16 then bitI i.d
  else if 3 ≤ i.op ∧ i.op ≤ 11 then bitI i.n ||| bitI i.m
  else if meB i.op then (if wrB i.op then (if paB i.op then bitI i.n ||| bitI i.d ||| bitI i.e else bitI i.n ||| bitI i.d) else bitI i.n)
  else 0
def setsN (i : Ins) : Nat :=
  if 1 ≤ i.op ∧ i.op ≤ 12 then bitI i.d
  else if meB i.op then (if wrB i.op then (if exB i.op then bitI i.m else 0) else (if paB i.op then bitI i.d ||| bitI i.e else bitI i.d))
  else 0
theorem bitI_tb (n : Int) (hn : 0 ≤ n ∧ n ≤ 31) (k : Nat) (hk : k < 31) : (bitI n).testBit k = decide (n = (k : Int)) := by
  unfold bitI
  by_cases h : n = 31
  · rw [if_pos h]
    simp
    omega
  · rw [if_neg h, Nat.testBit_two_pow]
    congr 1
    apply propext
    omega
theorem bitI_lt (n : Int) (hn : 0 ≤ n ∧ n ≤ 31) : bitI n < 2 ^ 31 := by
  unfold bitI
  by_cases h : n = 31
  · rw [if_pos h]; decide
  · rw [if_neg h]
    exact Nat.pow_lt_pow_right (by decide) (by omega)
theorem reads_lt (i : Ins) (hf : Facts i) : readsN i < 2 ^ 31 := by
  have d := bitI_lt i.d hf.d
  have n := bitI_lt i.n hf.n
  have m := bitI_lt i.m hf.m
  have e := bitI_lt i.e hf.e
  unfold readsN
  repeat' split
  all_goals first
    | assumption
    | exact Nat.or_lt_two_pow (by assumption) (by assumption)
    | exact Nat.or_lt_two_pow (Nat.or_lt_two_pow (by assumption) (by assumption)) (by assumption)
    | decide
theorem sets_lt (i : Ins) (hf : Facts i) : setsN i < 2 ^ 31 := by
  have d := bitI_lt i.d hf.d
  have n := bitI_lt i.n hf.n
  have m := bitI_lt i.m hf.m
  have e := bitI_lt i.e hf.e
  unfold setsN
  repeat' split
  all_goals first
    | assumption
    | exact Nat.or_lt_two_pow (by assumption) (by assumption)
    | decide
theorem setX_at (s : St) (n : Int) (v k : Nat) (h : n ≠ (k : Int)) : (setX s n v).x k = s.x k := by
  unfold setX
  split
  · rfl
  · simp only
    rw [if_neg (fun e => h e.symm)]
theorem getX_set (s : St) (k : Nat) (x : Nat) (n : Int) (hn : 0 ≤ n) (h : n ≠ (k : Int)) : getX (setX s k x) n = getX s n := by
  unfold getX
  by_cases h31 : n = 31
  · rw [if_pos h31, if_pos h31]
  · rw [if_neg h31, if_neg h31, setX_at s k x n.toNat (by omega)]
/-- the registers that it sets are all that change. -/
theorem next_keeps (s : St) (i : Ins) (hf : Facts i) (g0 g1 : Nat) (fits : Bool) (k : Nat) (hk : k < 31) (h : (setsN i).testBit k = false) : (nextS s i g0 g1 fits).x k = s.x k := by
  have bd := bitI_tb i.d hf.d k hk
  have bm := bitI_tb i.m hf.m k hk
  have be := bitI_tb i.e hf.e k hk
  unfold nextS bodyS accS
  simp only
  unfold setsN at h
  by_cases h1 : 1 ≤ i.op ∧ i.op ≤ 12
  · have h2 : meB i.op = false := by simp [meB]; omega
    have h3 : numB i.op = true := by simp [numB]; omega
    rw [if_pos h1, bd] at h
    have h4 : i.d ≠ (k : Int) := by simpa using h
    rw [if_neg (show ¬ i.op = 30 by omega), h2, h3]
    simp only [Bool.false_eq_true, if_false, if_true]
    by_cases h5 : i.op = 5
    · rw [if_pos h5, setX_at _ _ _ _ h4]
    · rw [if_neg h5, setX_at _ _ _ _ h4]
  · rw [if_neg h1] at h
    by_cases h30 : i.op = 30
    · rw [if_pos h30]
    · rw [if_neg h30]
      cases hm : meB i.op with
      | false =>
        have h3 : numB i.op = false := by simp [numB]; omega
        rw [h3]
        simp
      | true =>
        rw [hm] at h
        simp only [if_true] at h ⊢
        cases hw : wrB i.op with
        | true =>
          rw [hw] at h
          simp only [if_true] at h ⊢
          cases hx : exB i.op with
          | true =>
            rw [hx] at h
            simp only [if_true] at h ⊢
            rw [bm] at h
            exact setX_at _ _ _ _ (by simpa using h)
          | false => simp
        | false =>
          rw [hw] at h
          simp only [Bool.false_eq_true, if_false] at h ⊢
          cases hp : paB i.op with
          | true =>
            rw [hp] at h
            simp only [if_true] at h ⊢
            rw [Nat.testBit_or, bd, be] at h
            have h5 : i.d ≠ (k : Int) ∧ i.e ≠ (k : Int) := by simpa using h
            rw [setX_at _ _ _ _ h5.2, setX_at _ _ _ _ h5.1]
          | false =>
            rw [hp] at h
            simp only [Bool.false_eq_true, if_false] at h ⊢
            rw [bd] at h
            have h5 : i.d ≠ (k : Int) := by simpa using h
            split
            · exact setX_at _ _ _ _ h5
            · exact setX_at _ _ _ _ h5
/-- alike but for one register. -/
structure Alike (k : Nat) (u t : St) : Prop where
  pc : u.pc = t.pc
  z : u.z = t.z
  c : u.c = t.c
  wa : u.wa = t.wa
  wl : u.wl = t.wl
  x : ∀ j, j ≠ k → u.x j = t.x j
theorem alike_start (s : St) (k x : Nat) : Alike k (setX s k x) s := by
  unfold setX
  split
  · exact ⟨rfl, rfl, rfl, rfl, rfl, fun _ _ => rfl⟩
  · refine ⟨rfl, rfl, rfl, rfl, rfl, fun j hj => ?_⟩
    simp only
    rw [if_neg (by omega)]
theorem Alike.set {k : Nat} {u t : St} (h : Alike k u t) (n : Int) (v : Nat) : Alike k (setX u n v) (setX t n v) := by
  unfold setX
  split
  · exact h
  · refine ⟨h.pc, h.z, h.c, h.wa, h.wl, fun j hj => ?_⟩
    simp only
    split
    · rfl
    · exact h.x j hj
theorem setX_hit (u t : St) (n : Int) (v k : Nat) (hk : k < 31) (h : n = (k : Int)) : (setX u n v).x k = (setX t n v).x k := by
  subst h
  unfold setX
  rw [if_neg (by omega), if_neg (by omega)]
  simp
theorem setX_hit2 (u t : St) (n : Int) (v k : Nat) (h : u.x k = t.x k) : (setX u n v).x k = (setX t n v).x k := by
  unfold setX
  split
  · exact h
  · simp only
    split
    · rfl
    · exact h
section
variable (s : St) (i : Ins) (hf : Facts i) (k x : Nat) (hk : k < 31) (h : (readsN i).testBit k = false)
include hf hk h
theorem takB_other : takB (setX s k x) i = takB s i := by
  have a := alike_start s k x
  have bd := bitI_tb i.d hf.d k hk
  unfold takB hoB
  rw [a.z, a.c]
  by_cases h1 : i.op = 15 ∨ i.op = 16
  · unfold readsN at h
    rw [if_pos (by omega), bd] at h
    rw [getX_set s k x i.d hf.d.1 (by simpa using h)]
  · rw [if_neg (show ¬ i.op = 15 by omega), if_neg (show ¬ i.op = 16 by omega), if_neg (show ¬ i.op = 15 by omega), if_neg (show ¬ i.op = 16 by omega)]
theorem reads_nm (h1 : 3 ≤ i.op ∧ i.op ≤ 11) : getX (setX s k x) i.n = getX s i.n ∧ getX (setX s k x) i.m = getX s i.m := by
  have bn := bitI_tb i.n hf.n k hk
  have bm := bitI_tb i.m hf.m k hk
  unfold readsN at h
  rw [if_neg (by omega), if_pos h1, Nat.testBit_or, bn, bm] at h
  have h2 : i.n ≠ (k : Int) ∧ i.m ≠ (k : Int) := by simpa using h
  exact ⟨getX_set s k x i.n hf.n.1 h2.1, getX_set s k x i.m hf.m.1 h2.2⟩
theorem numI_other : numI (setX s k x) i = numI s i := by
  have a := alike_start s k x
  have bd := bitI_tb i.d hf.d k hk
  unfold numI hoB
  rw [a.z, a.c]
  by_cases h1 : 3 ≤ i.op ∧ i.op ≤ 11
  · have h2 := reads_nm s i hf k x hk h h1
    rw [if_neg (show ¬ i.op = 1 by omega), if_neg (show ¬ i.op = 2 by omega), if_neg (show ¬ i.op = 1 by omega), if_neg (show ¬ i.op = 2 by omega), h2.1, h2.2]
  · by_cases h2 : i.op = 2
    · unfold readsN at h
      rw [if_pos (by omega), bd] at h
      rw [getX_set s k x i.d hf.d.1 (by simpa using h), if_neg (show ¬ i.op = 1 by omega), if_pos h2, if_neg (show ¬ i.op = 1 by omega), if_pos h2]
    · repeat rw [if_neg h2]
      repeat rw [if_neg (show ¬ i.op = 3 by omega)]
      repeat rw [if_neg (show ¬ (i.op = 4 ∨ i.op = 5) by omega)]
      repeat rw [if_neg (show ¬ i.op = 6 by omega)]
      repeat rw [if_neg (show ¬ i.op = 7 by omega)]
      repeat rw [if_neg (show ¬ i.op = 8 by omega)]
      repeat rw [if_neg (show ¬ i.op = 9 by omega)]
      repeat rw [if_neg (show ¬ i.op = 10 by omega)]
      repeat rw [if_neg (show ¬ i.op = 11 by omega)]
theorem reads_n (hm : meB i.op = true) : getX (setX s k x) i.n = getX s i.n := by
  have bn := bitI_tb i.n hf.n k hk
  have h1 : 17 ≤ i.op ∧ i.op ≤ 28 := by simpa [meB] using hm
  unfold readsN at h
  rw [if_neg (by omega), if_neg (by omega), hm] at h
  simp only [if_true] at h
  have h2 : i.n ≠ (k : Int) := by
    revert h
    split
    · split
      · rw [Nat.testBit_or, Nat.testBit_or, bn]; intro h; simp at h; exact h.1.1
      · rw [Nat.testBit_or, bn]; intro h; simp at h; exact h.1
    · rw [bn]; intro h; simpa using h
  exact getX_set s k x i.n hf.n.1 h2
theorem spanA_other (hm : meB i.op = true) : spanA (setX s k x) i = spanA s i := by
  unfold spanA atN
  rw [reads_n s i hf k x hk h hm]
theorem ask_other (hm : meB i.op = true) : ask0 (setX s k x) i = ask0 s i ∧ ask1 (setX s k x) i = ask1 s i := by
  have bd := bitI_tb i.d hf.d k hk
  have be := bitI_tb i.e hf.e k hk
  have h1 : 17 ≤ i.op ∧ i.op ≤ 28 := by simpa [meB] using hm
  unfold ask0 ask1
  unfold readsN at h
  rw [if_neg (by omega), if_neg (by omega), hm] at h
  simp only [if_true] at h
  cases hw : wrB i.op with
  | false => simp
  | true =>
    rw [hw] at h
    simp only [if_true] at h
    cases hp : paB i.op with
    | true =>
      rw [hp] at h
      simp only [if_true] at h
      rw [Nat.testBit_or, Nat.testBit_or, bd, be] at h
      simp at h
      rw [getX_set s k x i.d hf.d.1 h.1.2, getX_set s k x i.e hf.e.1 h.2]
      simp
    | false =>
      rw [hp] at h
      simp only [Bool.false_eq_true, if_false] at h
      rw [Nat.testBit_or, bd] at h
      simp at h
      rw [getX_set s k x i.d hf.d.1 h.2]
      simp
theorem body_other (g0 g1 : Nat) (fits : Bool) : Alike k (bodyS (setX s k x) i g0 g1 fits) (bodyS s i g0 g1 fits) := by
  have a := alike_start s k x
  unfold bodyS
  by_cases h30 : i.op = 30
  · rw [if_pos h30, if_pos h30]
    exact ⟨a.pc, a.z, a.c, rfl, rfl, a.x⟩
  · rw [if_neg h30, if_neg h30]
    cases hm : meB i.op with
    | true =>
      have hs := spanA_other s i hf k x hk h hm
      simp only [if_true]
      unfold accS
      rw [hs]
      split
      · split
        · have b := a.set i.m (if fits = true then 0 else 1)
          exact ⟨b.pc, b.z, b.c, rfl, rfl, b.x⟩
        · exact a
      · split
        · have b := (a.set i.d g0).set i.e g1
          exact ⟨b.pc, b.z, b.c, rfl, rfl, b.x⟩
        · split
          · have b := a.set i.d (g0 &&& mask (8 * lenI i))
            exact ⟨b.pc, b.z, b.c, rfl, rfl, b.x⟩
          · exact a.set i.d _
    | false =>
      simp only [Bool.false_eq_true, if_false]
      cases hn : numB i.op with
      | false => simpa using a
      | true =>
        simp only [if_true]
        have hnu := numI_other s i hf k x hk h
        rw [hnu]
        by_cases h5 : i.op = 5
        · have h2 := reads_nm s i hf k x hk h (by omega)
          rw [if_pos h5, if_pos h5, h2.1, h2.2]
          refine Alike.set ?_ _ _
          exact ⟨a.pc, rfl, rfl, a.wa, a.wl, a.x⟩
        · rw [if_neg h5, if_neg h5]
          exact a.set _ _
/-- what it reads is all that matters. -/
theorem next_other (g0 g1 : Nat) (fits : Bool) : Alike k (nextS (setX s k x) i g0 g1 fits) (nextS s i g0 g1 fits) := by
  have b := body_other s i hf k x hk h g0 g1 fits
  have a := alike_start s k x
  have t := takB_other s i hf k x hk h
  unfold nextS
  rw [t, a.pc]
  exact ⟨rfl, b.z, b.c, b.wa, b.wl, b.x⟩
theorem next_sets (g0 g1 : Nat) (fits : Bool) (hs : (setsN i).testBit k = true) : (nextS (setX s k x) i g0 g1 fits).x k = (nextS s i g0 g1 fits).x k := by
  have bd := bitI_tb i.d hf.d k hk
  have bm := bitI_tb i.m hf.m k hk
  have be := bitI_tb i.e hf.e k hk
  have hnu := numI_other s i hf k x hk h
  unfold nextS bodyS accS
  simp only
  rw [hnu]
  unfold setsN at hs
  by_cases h1 : 1 ≤ i.op ∧ i.op ≤ 12
  · have h2 : meB i.op = false := by simp [meB]; omega
    have h3 : numB i.op = true := by simp [numB]; omega
    rw [if_pos h1, bd] at hs
    rw [if_neg (show ¬ i.op = 30 by omega), if_neg (show ¬ i.op = 30 by omega), h2, h3]
    simp only [Bool.false_eq_true, if_false, if_true]
    exact setX_hit _ _ _ _ _ hk (by simpa using hs)
  · rw [if_neg h1] at hs
    by_cases h30 : i.op = 30
    · have h2 : meB i.op = false := by simp [meB]; omega
      rw [h2] at hs
      simp at hs
    · rw [if_neg h30, if_neg h30]
      cases hm : meB i.op with
      | false =>
        rw [hm] at hs
        simp at hs
      | true =>
        rw [hm] at hs
        simp only [if_true] at hs ⊢
        cases hw : wrB i.op with
        | true =>
          rw [hw] at hs
          simp only [if_true] at hs ⊢
          cases hx : exB i.op with
          | true =>
            rw [hx] at hs
            simp only [if_true] at hs ⊢
            rw [bm] at hs
            exact setX_hit _ _ _ _ _ hk (by simpa using hs)
          | false =>
            rw [hx] at hs
            simp at hs
        | false =>
          rw [hw] at hs
          simp only [Bool.false_eq_true, if_false] at hs ⊢
          cases hp : paB i.op with
          | true =>
            rw [hp] at hs
            simp only [if_true] at hs ⊢
            rw [Nat.testBit_or, bd, be] at hs
            by_cases h5 : i.e = (k : Int)
            · exact setX_hit _ _ _ _ _ hk h5
            · have h6 : i.d = (k : Int) := by simpa [h5] using hs
              exact setX_hit2 _ _ _ _ _ (setX_hit _ _ _ _ _ hk h6)
          | false =>
            rw [hp] at hs
            simp only [Bool.false_eq_true, if_false] at hs ⊢
            rw [bd] at hs
            have h5 : i.d = (k : Int) := by simpa using hs
            split
            · exact setX_hit _ _ _ _ _ hk h5
            · exact setX_hit _ _ _ _ _ hk h5
end
end Go.Proofs.Ytfijppclaahkmaa
