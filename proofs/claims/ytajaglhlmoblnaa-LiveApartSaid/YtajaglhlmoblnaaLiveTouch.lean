/- What the law reckons, as the program does (plain): touches, tops of loops. No condition. -/
import Derived.Test.YtajaglhlmoblnaaLiveRows
import Derived.Test.YtajaglhlmoblnaaLiveInt0
namespace Go.Proofs.Ytajaglhlmoblnaa
open Go.RowKit Go.Sort Go.Lib
set_option linter.unusedVariables false
set_option linter.unusedSimpArgs false
theorem wp_letter {P : Program} {c : Code} {Q : Exit → Act → World → Prop} {a : Act} {wx : World} (R : World → Prop) (h : R wx) (k : ∀ wy, R wy → c.wp P Q a wy) : c.wp P Q a wx := k wx h
def touB (o : LOp) (r : Int) : Bool := decide (o.a = r ∨ o.b = r ∨ o.c = r ∨ o.d = r ∨ o.d2 = r)
theorem mem_three (x y z r : Int) (hr : 0 ≤ r) : r ∈ kept (three x y z) 3 ↔ (x = r ∨ y = r ∨ z = r) := by
  unfold kept
  simp [List.range_succ, three, List.mem_filter]
  omega
theorem mem_two (x y r : Int) (hr : 0 ≤ r) : r ∈ kept (three x y 0) 2 ↔ (x = r ∨ y = r) := by
  unfold kept
  simp [List.range_succ, three, List.mem_filter]
  omega
theorem mem_regs (o : LOp) (r : Int) (hr : 0 ≤ r) : r ∈ regsL o ↔ touB o r = true := by
  unfold regsL touB usesL setsL
  rw [List.mem_append, mem_three _ _ _ _ hr, mem_two _ _ _ hr, decide_eq_true_iff]
  omega
def touch (i : Int) (x : Option (Int × Int)) : Option (Int × Int) := match x with | none => some (i, i) | some (f, _) => some (f, i)
theorem touch_touch (i : Int) (x : Option (Int × Int)) : touch i (touch i x) = touch i x := by
  cases x <;> rfl
theorem ev_touch (R i : Int) (S : Iv) (q r : Int) (h : ¬ R ≤ q) : ev R i S q r = if r = q then touch i (S r) else S r := by
  unfold ev
  rw [if_neg h]
  by_cases e : r = q
  · subst e
    simp only [if_true]
    cases S r <;> rfl
  · simp only [if_neg e]
theorem evs_at (R i : Int) (r : Int) (hr : ¬ R ≤ r) : ∀ (l : List Int) (S : Iv), evs R i S l r = if r ∈ l then touch i (S r) else S r
  | [], S => by simp [evs]
  | q :: l, S => by
    have ih := evs_at R i r hr l (ev R i S q)
    have e : evs R i S (q :: l) r = evs R i (ev R i S q) l r := rfl
    rw [e, ih]
    by_cases hq : R ≤ q
    · rw [ev_skip _ _ _ _ hq]
      have : r ≠ q := fun e => hr (by omega)
      simp [this]
    · rw [ev_touch _ _ _ _ _ hq]
      by_cases hrq : r = q
      · subst hrq
        simp only [if_true, List.mem_cons, true_or]
        split
        · exact touch_touch _ _
        · rfl
      · simp [hrq]
theorem ivs_at (R : Int) (ops : Nat → LOp) (k : Nat) (r : Int) (h0 : 0 ≤ r) (hr : r < R) : ivsN R ops (k + 1) r = if touB (ops k) r = true then touch k (ivsN R ops k r) else ivsN R ops k r := by
  show evs R k (ivsN R ops k) (regsL (ops k)) r = _
  rw [evs_at R k r (by omega)]
  simp only [mem_regs _ _ h0]
/-- an interval that is there lies so. -/
theorem ivs_rng (R : Int) (ops : Nat → LOp) (r : Int) (h0 : 0 ≤ r) (hr : r < R) : ∀ (k : Nat) (f t : Int), ivsN R ops k r = some (f, t) → 0 ≤ f ∧ f ≤ t ∧ t < k
  | 0, f, t, h => by cases h
  | k + 1, f, t, h => by
    rw [ivs_at R ops k r h0 hr] at h
    have ih := ivs_rng R ops r h0 hr k
    split at h
    · cases hs : ivsN R ops k r with
      | none =>
        rw [hs] at h
        simp [touch] at h
        omega
      | some p =>
        obtain ⟨f', t'⟩ := p
        rw [hs] at h
        simp [touch] at h
        have := ih f' t' hs
        omega
    · have := ih f t h
      omega
def fl (x : Option (Int × Int)) : Int × Int := match x with | none => (-1, 0) | some p => p
def topI (x : Option Int) : Int := match x with | none => -1 | some t => t
theorem at_rng (ops : Nat → LOp) (q : Int) : ∀ (k : Nat) (t : Int), atN ops k q = some t → 0 ≤ t ∧ t < k
  | 0, t, h => by cases h
  | k + 1, t, h => by
    rw [atN_succ] at h
    have ih := at_rng ops q k t
    split at h
    · simp only at h
      split at h
      · simp at h; omega
      · have := ih h; omega
    · have := ih h; omega
theorem top_rng (ops : Nat → LOp) (q : Int) (k : Nat) : -1 ≤ topI (atN ops k q) ∧ topI (atN ops k q) < max k 1 := by
  cases h : atN ops k q with
  | none => simp [topI]; omega
  | some t => have := at_rng ops q k t h; simp [topI]; omega
theorem top_yes (ops : Nat → LOp) (q : Int) (k : Nat) (h1 : (ops k).k = 14) (h2 : (ops k).tgt = q) : topI (atN ops (k + 1) q) = k := by
  rw [atN_succ, if_pos h1]
  simp [h2, topI]
theorem top_no (ops : Nat → LOp) (q : Int) (k : Nat) (h : ¬ (ops k).k = 14 ∨ ¬ (ops k).tgt = q) : topI (atN ops (k + 1) q) = topI (atN ops k q) := by
  rw [atN_succ]
  split
  · have h2 : ¬ q = (ops k).tgt := fun e => by rcases h with h | h; exact h ‹_›; exact h e.symm
    simp [h2]
  · rfl
def isJ (o : LOp) : Bool := decide (o.k = 15 ∨ o.k = 16)
theorem lp_skip (ops : Nat → LOp) (k : Nat) (h : isJ (ops k) = false) : lpN ops (k + 1) = lpN ops k := by
  have h' : ¬ ((ops k).k = 15 ∨ (ops k).k = 16) := of_decide_eq_false h
  rw [lpN_succ, if_neg h', List.append_nil]
theorem lp_none (ops : Nat → LOp) (k : Nat) (h : topI (atN ops k (ops k).tgt) < 0) : lpN ops (k + 1) = lpN ops k := by
  rw [lpN_succ]
  cases ht : atN ops k (ops k).tgt with
  | none => simp
  | some t => rw [ht] at h; have := at_rng ops _ k t ht; simp [topI] at h; omega
theorem lp_some (ops : Nat → LOp) (k : Nat) (hj : isJ (ops k) = true) (h : 0 ≤ topI (atN ops k (ops k).tgt)) : lpN ops (k + 1) = lpN ops k ++ [(topI (atN ops k (ops k).tgt), (k : Int))] := by
  rw [lpN_succ, if_pos (of_decide_eq_true hj)]
  cases ht : atN ops k (ops k).tgt with
  | none => rw [ht] at h; simp [topI] at h
  | some t => simp [topI]
theorem pass_app (a : List (Int × Int)) (x : Int × Int) (l : List Tri) : pass (a ++ [x]) l = (pass a l).map (st1 x.1 x.2) := by
  unfold pass
  rw [List.foldl_append]
  rfl
theorem anyM_app (a : List (Int × Int)) (x : Int × Int) (l : List Tri) : anyM (a ++ [x]) l = (anyM a l || (pass a l).any (cond1 x.1 x.2)) := by
  rw [anyM_append]
  simp [anyM]
theorem owns_later {w w' : World} {base e size n : Nat} {v : Value} {xs : List Value} (h : w.ownsRow base e size v n xs) (hb : Below w.heap.size w w') : w'.ownsRow base e size v n xs := by
  obtain ⟨h1, h2⟩ := h
  refine ⟨h1, ?_⟩
  rcases h2 with h2 | ⟨b, cap, cur, e1, e2, e3, e4, e5, e6, e7⟩
  · exact .inl h2
  · refine .inr ⟨b, cap, cur, e1, e2, ?_, e4, e5, e6, e7⟩
    rw [← e3]
    exact hb.block b (Array.getElem?_eq_some_iff.1 e3).1
theorem RowAt.onto {w w' : World} {g B : Nat} {l : List Tri} (h : RowAt w g l) (ho : Onto B w w') (hne : g ≠ B) : RowAt w' g l := fun j x hj => by
  obtain ⟨c0, c1, c2, z⟩ := h j x hj
  exact ⟨(ho.cell (cell_lt2 c0) hne).trans c0, (ho.cell (cell_lt2 c1) hne).trans c1, (ho.cell (cell_lt2 c2) hne).trans c2, (ho.frozen (cell_lt2 c2)).trans z⟩
theorem OAt.onto {w w' : World} {X p B : Nat} {o : LOp} (h : OAt w X p o) (ho : Onto B w w') (hne : X ≠ B) : OAt w' X p o := by
  obtain ⟨c0, c1, c2, c3, c4, c5, c6, c7, c8, c9, c10, c11, c12⟩ := h
  have K : ∀ {k v}, w.cell? ⟨X, k, none⟩ = some v → w'.cell? ⟨X, k, none⟩ = some v := fun c => (ho.cell (cell_lt2 c) hne).trans c
  exact ⟨K c0, K c1, K c2, K c3, K c4, K c5, K c6, K c7, K c8, K c9, K c10, K c11, K c12⟩
end Go.Proofs.Ytajaglhlmoblnaa
