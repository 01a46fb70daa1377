/- Intervals behind all passes (plain): which, in which order, how far; the registers of a step lie in them. No condition. -/
import Derived.Test.YtajaglhlmoblnaaLiveTouch
namespace Go.Proofs.Ytajaglhlmoblnaa
open Go.RowKit Go.Sort Go.Lib
set_option linter.unusedVariables false
set_option linter.unusedSimpArgs false
theorem outN_get (S : Iv) : ∀ (M j : Nat) (x : Tri), (outN S M)[j]? = some x → ∃ (q : Nat) (f t : Int), q < M ∧ x = ((q : Int), f, t) ∧ S (q : Int) = some (f, t)
  | 0, j, x, h => by simp [outN] at h
  | M + 1, j, x, h => by
    cases hs : S (M : Int) with
    | none =>
      rw [outN_none hs] at h
      obtain ⟨q, f, t, h1, h2, h3⟩ := outN_get S M j x h
      exact ⟨q, f, t, by omega, h2, h3⟩
    | some p =>
      obtain ⟨f, t⟩ := p
      rw [outN_some hs, List.getElem?_append] at h
      split at h
      · obtain ⟨q, f', t', h1, h2, h3⟩ := outN_get S M j x h
        exact ⟨q, f', t', by omega, h2, h3⟩
      · have hj : j - (outN S M).length = 0 := by
          have := (List.getElem?_eq_some_iff.1 h).1
          simpa using this
        rw [hj] at h
        simp at h
        exact ⟨M, f, t, by omega, h.symm, hs⟩
theorem outN_mem (S : Iv) (q : Nat) (f t : Int) (hs : S (q : Int) = some (f, t)) : ∀ (M : Nat), q < M → ∃ j : Nat, (outN S M)[j]? = some ((q : Int), f, t)
  | 0, h => by omega
  | M + 1, h => by
    by_cases hq : q = M
    · subst hq
      exact ⟨(outN S q).length, by rw [outN_some hs]; simp⟩
    · obtain ⟨j, hj⟩ := outN_mem S q f t hs M (by omega)
      refine ⟨j, ?_⟩
      show (outN S M ++ _)[j]? = _
      rw [List.getElem?_append_left (List.getElem?_eq_some_iff.1 hj).1]
      exact hj
theorem outN_up (S : Iv) : ∀ (M j : Nat) (x y : Tri), (outN S M)[j]? = some x → (outN S M)[j + 1]? = some y → x.1 < y.1
  | 0, j, x, y, h, _ => by simp [outN] at h
  | M + 1, j, x, y, h, k => by
    cases hs : S (M : Int) with
    | none =>
      rw [outN_none hs] at h k
      exact outN_up S M j x y h k
    | some p =>
      obtain ⟨f, t⟩ := p
      rw [outN_some hs] at h k
      rw [List.getElem?_append] at h k
      split at k
      · rename_i hk
        rw [if_pos (by omega)] at h
        exact outN_up S M j x y h k
      · have hj : j + 1 - (outN S M).length = 0 := by
          have := (List.getElem?_eq_some_iff.1 k).1
          simpa using this
        rw [hj] at k
        simp at k
        rw [if_pos (by omega)] at h
        obtain ⟨q, f', t', h1, rfl, h3⟩ := outN_get S M j x h
        subst k
        simp
        omega
/-- the same interval, it may end later. -/
def Later (N : Int) (x y : Tri) : Prop := y.1 = x.1 ∧ y.2.1 = x.2.1 ∧ x.2.2 ≤ y.2.2 ∧ (x.2.2 < N → y.2.2 < N)
structure LR (N : Int) (l l' : List Tri) : Prop where
  len : l'.length = l.length
  at_ : ∀ (j : Nat) (x y : Tri), l[j]? = some x → l'[j]? = some y → Later N x y
theorem LR.refl (N : Int) (l : List Tri) : LR N l l := ⟨rfl, fun j x y h k => by rw [h] at k; cases k; exact ⟨rfl, rfl, Int.le_refl _, id⟩⟩
theorem LR.trans {N : Int} {a b c : List Tri} (h : LR N a b) (k : LR N b c) : LR N a c := by
  refine ⟨k.len.trans h.len, fun j x y hx hy => ?_⟩
  have hjl := (List.getElem?_eq_some_iff.1 hx).1
  have hz : b[j]? = some (b[j]'(by rw [h.len]; exact hjl)) := List.getElem?_eq_getElem _
  obtain ⟨a1, a2, a3, a4⟩ := h.at_ j x _ hx hz
  obtain ⟨b1, b2, b3, b4⟩ := k.at_ j _ y hz hy
  exact ⟨b1.trans a1, b2.trans a2, Int.le_trans a3 b3, fun h => b4 (a4 h)⟩
theorem LR.step (N lf lt : Int) (ht : lt < N) (l : List Tri) : LR N l (l.map (st1 lf lt)) := by
  refine ⟨by simp, fun j x y hx hy => ?_⟩
  rw [List.getElem?_map, hx] at hy
  simp at hy
  subst hy
  unfold st1 cond1
  split
  · rename_i h
    have := of_decide_eq_true h
    exact ⟨rfl, rfl, by simp; omega, fun _ => by simpa using ht⟩
  · exact ⟨rfl, rfl, Int.le_refl _, id⟩
theorem LR.pass (N : Int) : ∀ (lps : List (Int × Int)) (h : ∀ x ∈ lps, x.2 < N) (l : List Tri), LR N l (pass lps l)
  | [], _, l => LR.refl N l
  | x :: r, h, l => (LR.step N x.1 x.2 (h x (by simp)) l).trans (LR.pass N r (fun y hy => h y (by simp [hy])) _)
theorem LR.stops {N : Int} {lps : List (Int × Int)} (h : ∀ x ∈ lps, x.2 < N) {l r : List Tri} (k : Stops lps l r) : LR N l r := by
  induction k with
  | stop _ => exact LR.refl _ _
  | go _ _ ih => exact (LR.pass N lps h _).trans ih
theorem lpN_lt (ops : Nat → LOp) : ∀ k, ∀ x ∈ lpN ops k, x.2 < (k : Int)
  | 0, x, hx => by cases hx
  | k + 1, x, hx => by
    rw [lpN_succ] at hx
    rcases List.mem_append.1 hx with hx | hx
    · have := lpN_lt ops k x hx
      omega
    · split at hx
      · split at hx
        · simp at hx; subst hx; simp; omega
        · cases hx
      · cases hx
theorem kept_pos (L : Nat → Int) (n : Nat) : ∀ x ∈ kept L n, 0 ≤ x := fun x hx => by
  unfold kept at hx
  simpa using (List.mem_filter.1 hx).2
theorem regs_pos (o : LOp) : ∀ x ∈ regsL o, 0 ≤ x := fun x hx => by
  rcases List.mem_append.1 hx with h | h
  · exact kept_pos _ _ x h
  · exact kept_pos _ _ x h
/-- a register that a step uses has an interval, and the step lies in it. -/
theorem ivs_in (R : Int) (ops : Nat → LOp) (r : Int) (h0 : 0 ≤ r) (hr : r < R) (i : Nat) (hi : r ∈ regsL (ops i)) : ∀ (k : Nat), i < k → ∃ f t, ivsN R ops k r = some (f, t) ∧ f ≤ i ∧ i ≤ t
  | 0, h => by omega
  | k + 1, h => by
    rw [ivs_at R ops k r h0 hr]
    by_cases hik : i = k
    · subst hik
      rw [if_pos ((mem_regs _ _ h0).1 hi)]
      have hg := ivs_rng R ops r h0 hr i
      cases hs : ivsN R ops i r with
      | none => exact ⟨i, i, rfl, Int.le_refl _, Int.le_refl _⟩
      | some p =>
        obtain ⟨f, t⟩ := p
        have := hg f t hs
        exact ⟨f, i, rfl, by omega, Int.le_refl _⟩
    · obtain ⟨f, t, h1, h2, h3⟩ := ivs_in R ops r h0 hr i hi k (by omega)
      split
      · exact ⟨f, k, by rw [h1]; rfl, h2, by omega⟩
      · exact ⟨f, t, h1, h2, h3⟩
/-- what the intervals are like. -/
structure RowOk (R : Int) (N : Nat) (ops : Nat → LOp) (rr : List Tri) : Prop where
  len : rr.length ≤ 300
  rng : ∀ (j : Nat) (x : Tri), rr[j]? = some x → 0 ≤ x.1 ∧ x.1 < 300 ∧ 0 ≤ x.2.1 ∧ x.2.1 ≤ x.2.2 ∧ x.2.2 < N
  up : ∀ (j : Nat) (x y : Tri), rr[j]? = some x → rr[j + 1]? = some y → x.1 < y.1
  has : ∀ (i : Nat) (r : Int), i < N → r ∈ regsL (ops i) → r < R → ∃ (k : Nat) (x : Tri), rr[k]? = some x ∧ x.1 = r ∧ x.2.1 ≤ i ∧ (i : Int) ≤ x.2.2
theorem rowOk {R : Int} {N : Nat} {ops : Nat → LOp} {rr : List Tri} (hR : R ≤ 300) (h : Stops (lpN ops N) (outN (ivsN R ops N) R.toNat) rr) : RowOk R N ops rr := by
  have hl := LR.stops (N := N) (lpN_lt ops N) h
  have hle := outN_len (ivsN R ops N) R.toNat
  have back : ∀ (j : Nat) (y : Tri), rr[j]? = some y → ∃ x, (outN (ivsN R ops N) R.toNat)[j]? = some x ∧ Later N x y := fun j y hy => by
    have hj := (List.getElem?_eq_some_iff.1 hy).1
    have hx : (outN (ivsN R ops N) R.toNat)[j]? = some ((outN (ivsN R ops N) R.toNat)[j]'(by rw [← hl.len]; exact hj)) := List.getElem?_eq_getElem _
    exact ⟨_, hx, hl.at_ j _ y hx hy⟩
  refine ⟨by have := hl.len; omega, fun j y hy => ?_, fun j x y hx hy => ?_, fun i r hi hm hr => ?_⟩
  · obtain ⟨x, hx, l1, l2, l3, l4⟩ := back j y hy
    obtain ⟨q, f, t, h1, rfl, h3⟩ := outN_get _ _ _ _ hx
    have := ivs_rng R ops q (by omega) (by omega) N f t h3
    simp only at l1 l2 l3 l4
    have := l4 this.2.2
    omega
  · obtain ⟨x', hx', l1, _⟩ := back j x hx
    obtain ⟨y', hy', m1, _⟩ := back (j + 1) y hy
    have := outN_up _ _ _ _ _ hx' hy'
    omega
  · have h0 := regs_pos _ r hm
    obtain ⟨f, t, h1, h2, h3⟩ := ivs_in R ops r h0 hr i hm N hi
    obtain ⟨q, rfl⟩ : ∃ q : Nat, r = q := ⟨r.toNat, by omega⟩
    obtain ⟨j, hj⟩ := outN_mem _ q f t h1 R.toNat (by omega)
    have hjl := (List.getElem?_eq_some_iff.1 hj).1
    have hy : rr[j]? = some (rr[j]'(by rw [hl.len]; exact hjl)) := List.getElem?_eq_getElem _
    obtain ⟨l1, l2, l3, _⟩ := hl.at_ j _ _ hj hy
    simp only at l1 l2 l3
    exact ⟨j, _, hy, l1, by omega, by omega⟩
end Go.Proofs.Ytajaglhlmoblnaa
