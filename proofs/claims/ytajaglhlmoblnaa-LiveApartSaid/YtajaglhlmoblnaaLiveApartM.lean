/- A label put ahead of all steps moves all by one (plain). No condition. -/
import Derived.Test.YtajaglhlmoblnaaLiveTouch
import Derived.Test.YtajaglhlmoblnaaLiveInt
import Derived.Deep.AppendSrc
import Derived.Deep.Upon
namespace Go.Proofs.Ytajaglhlmoblnaa
open Go.RowKit Go.Sort Go.Lib
set_option linter.unusedVariables false
set_option linter.unusedSimpArgs false
def lab (f : Int) : LOp := ⟨14, -1, -1, -1, -1, -1, 0, 0, 0, 0, f, 0, 0⟩
def put1 (l : LOp) (ops : Nat → LOp) : Nat → LOp
  | 0 => l
  | k + 1 => ops k
def upT (x : Tri) : Tri := (x.1, x.2.1 + 1, x.2.2 + 1)
def upL (x : Int × Int) : Int × Int := (x.1 + 1, x.2 + 1)
theorem touch_up (i : Int) (x : Option (Int × Int)) : touch (i + 1) (x.map upL) = (touch i x).map upL := by
  cases x <;> rfl
theorem ivs_up (R : Int) (ops : Nat → LOp) (f : Int) (r : Int) (h0 : 0 ≤ r) (hr : r < R) : ∀ k, ivsN R (put1 (lab f) ops) (k + 1) r = (ivsN R ops k r).map upL
  | 0 => by
    rw [ivs_at R _ 0 r h0 hr]
    have : touB (put1 (lab f) ops 0) r = false := by
      unfold touB put1 lab
      simp
      omega
    rw [if_neg (by rw [this]; decide)]
    rfl
  | k + 1 => by
    rw [ivs_at R _ (k + 1) r h0 hr, ivs_at R ops k r h0 hr, ivs_up R ops f r h0 hr k]
    show (if touB (ops k) r = true then _ else _) = _
    split
    · rw [← touch_up]
      congr 1
    · rfl
theorem outN_upT {S S' : Iv} : ∀ (M : Nat) (h : ∀ q : Nat, q < M → S' (q : Int) = (S (q : Int)).map upL), outN S' M = (outN S M).map upT
  | 0, _ => rfl
  | M + 1, h => by
    have ih := outN_upT M (fun q hq => h q (by omega))
    have hM := h M (by omega)
    cases hs : S (M : Int) with
    | none => rw [hs] at hM; rw [outN_none hs, outN_none hM, ih]
    | some p =>
      obtain ⟨f, t⟩ := p
      rw [hs] at hM
      rw [outN_some hs, outN_some (f := f + 1) (t := t + 1) (by rw [hM]; rfl), ih, List.map_append]
      rfl
theorem atN_up (ops : Nat → LOp) (f q : Int) (hq : q ≠ f) : ∀ k, atN (put1 (lab f) ops) (k + 1) q = (atN ops k q).map (· + 1)
  | 0 => by
    rw [atN_succ, if_pos (show (put1 (lab f) ops 0).k = 14 from rfl)]
    show (if q = f then some ((0 : Nat) : Int) else none) = none
    rw [if_neg hq]
  | k + 1 => by
    have ih := atN_up ops f q hq k
    rw [atN_succ _ (k + 1), atN_succ ops k]
    by_cases h14 : (ops k).k = 14
    · rw [if_pos h14, if_pos (show (put1 (lab f) ops (k + 1)).k = 14 from h14)]
      show (if q = (ops k).tgt then some ((k + 1 : Nat) : Int) else atN (put1 (lab f) ops) (k + 1) q) = Option.map _ (if q = (ops k).tgt then some (k : Int) else atN ops k q)
      split
      · simp
      · exact ih
    · rw [if_neg h14, if_neg (show ¬ (put1 (lab f) ops (k + 1)).k = 14 from h14)]
      exact ih
theorem lpN_up (ops : Nat → LOp) (f : Int) : ∀ (k : Nat) (h : ∀ j, j < k → (ops j).tgt ≠ f), lpN (put1 (lab f) ops) (k + 1) = (lpN ops k).map upL
  | 0, _ => by
    rw [lpN_succ]
    show lpN _ 0 ++ (if (14 : Int) = 15 ∨ (14 : Int) = 16 then _ else _) = _
    rw [if_neg (by decide)]
    rfl
  | k + 1, h => by
    have ih := lpN_up ops f k (fun j hj => h j (by omega))
    rw [lpN_succ _ (k + 1), lpN_succ ops k, ih, List.map_append]
    congr 1
    show (if (ops k).k = 15 ∨ (ops k).k = 16 then (match atN (put1 (lab f) ops) (k + 1) (ops k).tgt with | some q => [(q, ((k + 1 : Nat) : Int))] | none => []) else []) = _
    rw [atN_up ops f _ (h k (by omega)) k]
    split
    · cases atN ops k (ops k).tgt with
      | none => rfl
      | some q => rfl
    · rfl
theorem cond_up (a b : Int) (x : Tri) : cond1 (a + 1) (b + 1) (upT x) = cond1 a b x := by
  unfold cond1 upT
  simp
theorem st_up (a b : Int) (x : Tri) : st1 (a + 1) (b + 1) (upT x) = upT (st1 a b x) := by
  unfold st1
  rw [cond_up]
  split <;> rfl
theorem map_up (a b : Int) (l : List Tri) : (l.map upT).map (st1 (a + 1) (b + 1)) = (l.map (st1 a b)).map upT := by
  rw [List.map_map, List.map_map]
  exact List.map_congr_left fun x _ => st_up a b x
theorem pass_up : ∀ (lps : List (Int × Int)) (l : List Tri), pass (lps.map upL) (l.map upT) = (pass lps l).map upT
  | [], l => rfl
  | x :: r, l => by
    show pass (r.map upL) ((l.map upT).map (st1 (x.1 + 1) (x.2 + 1))) = _
    rw [map_up]
    exact pass_up r _
theorem anyM_up : ∀ (lps : List (Int × Int)) (l : List Tri), anyM (lps.map upL) (l.map upT) = anyM lps l
  | [], l => rfl
  | x :: r, l => by
    show ((l.map upT).any (cond1 (x.1 + 1) (x.2 + 1)) || anyM (r.map upL) ((l.map upT).map (st1 (x.1 + 1) (x.2 + 1)))) = (l.any (cond1 x.1 x.2) || anyM r (l.map (st1 x.1 x.2)))
    rw [map_up, anyM_up r, List.any_map]
    congr 1
    congr 1
    funext y
    exact cond_up x.1 x.2 y
theorem stops_up {lps : List (Int × Int)} {l r : List Tri} (h : Stops lps l r) : Stops (lps.map upL) (l.map upT) (r.map upT) := by
  induction h with
  | stop h => exact .stop (by rw [anyM_up]; exact h)
  | go h _ ih =>
    refine .go (by rw [anyM_up]; exact h) ?_
    rw [pass_up]
    exact ih
/-- the whole. -/
theorem apart_rows {R : Int} {N : Nat} {ops : Nat → LOp} {f : Int} (h : ∀ j, j < N → (ops j).tgt ≠ f) {r r' : List Tri}
    (h1 : Stops (lpN ops N) (outN (ivsN R ops N) R.toNat) r) (h2 : Stops (lpN (put1 (lab f) ops) (N + 1)) (outN (ivsN R (put1 (lab f) ops) (N + 1)) R.toNat) r') : r' = r.map upT := by
  rw [lpN_up ops f N h, outN_upT (S := ivsN R ops N) R.toNat (fun q hq => ivs_up R ops f q (by omega) (by omega) N)] at h2
  exact h2.unique (stops_up h1)
theorem info_op : (Try.prog.info? 24).map (fun i => (i.zero, i.size, i.bytes)) = some (some (.agg #[.int .i64 0, .int .i64 0, .int .i64 0, .int .i64 0, .int .i64 0, .int .i64 0, .int .u64 0, .int .i64 0, .int .i64 0, .int .i64 0, .int .i64 0, .int .i64 0, .int .i64 0]), 13, 104) := by kernel_rfl
theorem cs_one (o : LOp) : ∀ u ∈ o.cs.toList, u.oneCell' = true := fun u hu => by
  unfold LOp.cs at hu
  simp at hu
  rcases hu with rfl | rfl | rfl | rfl | rfl | rfl | rfl | rfl | rfl | rfl | rfl | rfl | rfl <;> rfl
theorem oat_cells {w : World} {X p : Nat} {o : LOp} (h : ∀ t v, o.cs.toList[t]? = some v → w.cell? ⟨X, p + t, none⟩ = some v) : OAt w X p o := by
  unfold OAt
  exact ⟨h 0 _ rfl, h 1 _ rfl, h 2 _ rfl, h 3 _ rfl, h 4 _ rfl, h 5 _ rfl, h 6 _ rfl, h 7 _ rfl, h 8 _ rfl, h 9 _ rfl, h 10 _ rfl, h 11 _ rfl, h 12 _ rfl⟩
theorem cells_oat {w : World} {X p : Nat} {o : LOp} (h : OAt w X p o) : ∀ t v, o.cs.toList[t]? = some v → w.cell? ⟨X, p + t, none⟩ = some v := fun t v hv => by
  obtain ⟨c0, c1, c2, c3, c4, c5, c6, c7, c8, c9, c10, c11, c12⟩ := h
  match t, hv with
  | 0, hv => cases hv; exact c0
  | 1, hv => cases hv; exact c1
  | 2, hv => cases hv; exact c2
  | 3, hv => cases hv; exact c3
  | 4, hv => cases hv; exact c4
  | 5, hv => cases hv; exact c5
  | 6, hv => cases hv; exact c6
  | 7, hv => cases hv; exact c7
  | 8, hv => cases hv; exact c8
  | 9, hv => cases hv; exact c9
  | 10, hv => cases hv; exact c10
  | 11, hv => cases hv; exact c11
  | 12, hv => cases hv; exact c12
  | t + 13, hv => simp [LOp.cs] at hv
def opsC (ops : Nat → LOp) (N : Nat) : List Value := (List.range N).flatMap fun k => (ops k).cs.toList
theorem opsC_succ (ops : Nat → LOp) (N : Nat) : opsC ops (N + 1) = opsC ops N ++ (ops N).cs.toList := by
  unfold opsC
  rw [List.range_succ, List.flatMap_append]
  simp
theorem cs_len (o : LOp) : o.cs.toList.length = 13 := rfl
theorem opsC_len (ops : Nat → LOp) : ∀ N, (opsC ops N).length = N * 13
  | 0 => rfl
  | N + 1 => by rw [opsC_succ, List.length_append, opsC_len ops N, cs_len]; omega
theorem opsC_at (ops : Nat → LOp) : ∀ (N k t : Nat), k < N → t < 13 → (opsC ops N)[k * 13 + t]? = (ops k).cs.toList[t]?
  | 0, k, t, h, _ => by omega
  | N + 1, k, t, h, ht => by
    rw [opsC_succ]
    by_cases hk : k = N
    · subst hk
      rw [List.getElem?_append_right (by rw [opsC_len]; omega), opsC_len]
      congr 1
      omega
    · rw [List.getElem?_append_left (by rw [opsC_len]; omega)]
      exact opsC_at ops N k t (by omega) ht
theorem opsC_one (ops : Nat → LOp) (N : Nat) : ∀ u ∈ opsC ops N, u.oneCell' = true := fun u hu => by
  unfold opsC at hu
  obtain ⟨k, _, hk⟩ := List.mem_flatMap.1 hu
  exact cs_one _ u hk
theorem opsC_all {w : World} {X p N : Nat} {ops : Nat → LOp} (h : ∀ k, k < N → OAt w X (p + k * 13) (ops k)) : ∀ j u, (opsC ops N)[j]? = some u → w.cell? ((⟨X, p, none⟩ : Addr).add j) = some u := fun j u hj => by
  have hl := (List.getElem?_eq_some_iff.1 hj).1
  rw [opsC_len] at hl
  have e : j = j / 13 * 13 + j % 13 := by omega
  rw [e, opsC_at ops N _ _ (by omega) (by omega)] at hj
  rw [Addr.add_lit]
  have := cells_oat (h (j / 13) (by omega)) _ _ hj
  rw [← this]
  congr 2
  omega
/-- one step, the others behind it. -/
theorem app_ops (A : Option Addr) (X off N cap : Nat) (ops : Nat → LOp) (l : LOp) (hA : 0 < N → A = some ⟨X, off, none⟩) (hN : N ≤ 60) (w : World) (hO : ∀ k, k < N → OAt w X (off + k * 13) (ops k)) (ty : TypeId) :
    ∃ g c w', (Builtin.append_ #[31, 31] ty #[.slice (some ⟨w.heap.size, 0, none⟩) 1 1, .slice A N cap]).run Try.prog (w.alloc (.cells l.cs 24)) = .ok (.slice (some ⟨g, 0, none⟩) (N + 1) c) w' ∧ Below w.heap.size w w' ∧ (∀ k, k < N + 1 → OAt w' g (0 + k * 13) (put1 l ops k)) ∧ N + 1 ≤ c ∧ c ≤ 9223372036854775807 := by
  obtain ⟨i0, hi, hz0, hz1, hz2⟩ := info_parts info_op
  have hB := below_al (Below.refl _ w) (.cells l.cs 24)
  have hown : (w.alloc (.cells l.cs 24)).ownsRow w.heap.size 24 13 (.slice (some ⟨w.heap.size, 0, none⟩) 1 1) 1 l.cs.toList := World.ownsRow_lit w l.cs 1 (Nat.le_refl _) (by unfold maxLen; omega) rfl
  cases A with
  | none =>
    obtain rfl : N = 0 := by
      rcases Nat.eq_zero_or_pos N with h | h
      · exact h
      · have := hA h; cases this
    have hrun := run_append_nothing (P := Try.prog) (w.alloc (.cells l.cs 24)) 31 31 ty 24 i0 Try.underlying31 hi (some ⟨w.heap.size, 0, none⟩) 1 1 (Nat.le_refl _) (.slice none 0 cap) (Src.ofNil _ Try.underlying31 cap)
    refine ⟨w.heap.size, 1, _, hrun, hB, fun k hk => ?_, by omega, by omega⟩
    obtain rfl : k = 0 := by omega
    refine oat_cells fun t v hv => ?_
    have ht := (List.getElem?_eq_some_iff.1 hv).1
    rw [cs_len] at ht
    rw [show 0 + 0 * 13 + t = t by omega, hown.cellAt t (by omega)]
    exact hv
  | some a =>
    obtain ⟨v', w', hrun, r1, r2, _⟩ := run_append_own (P := Try.prog) (w.alloc (.cells l.cs 24)) w.heap.size 31 ty 24 i0 _ 13 104 Try.underlying31 hi hz0 hz1 hz2 rfl (by decide) _ 1 _ hown a N cap (opsC ops N) (opsC_len ops N) (fun j u hj => by
      have hpos : 0 < N := by
        have := (List.getElem?_eq_some_iff.1 hj).1
        rw [opsC_len] at this
        omega
      cases hA hpos
      exact opsC_all (fun k hk => (hO k hk).below hB) j u hj) (opsC_one ops N) (by unfold maxLen; omega) (by omega) (by simp)
    obtain ⟨g, cap', rfl, hcap, hcm⟩ : ∃ g cap', v' = .slice (some ⟨g, 0, none⟩) (1 + N) cap' ∧ 1 + N ≤ cap' ∧ cap' ≤ 9223372036854775807 := by
      rcases r1.2 with ⟨_, h0⟩ | ⟨g, cap', _, e, _, _, e2, e3, _⟩
      · omega
      · exact ⟨g, cap', e, e2, e3⟩
    rw [Nat.add_comm 1 N] at hrun hcap
    refine ⟨g, cap', w', hrun, own_below hB hown r2 (Nat.le_refl _), fun k hk => ?_, hcap, hcm⟩
    refine oat_cells fun t v hv => ?_
    have ht := (List.getElem?_eq_some_iff.1 hv).1
    rw [cs_len] at ht
    rw [r1.cellAt (0 + k * 13 + t) (by omega)]
    cases k with
    | zero =>
      rw [List.getElem?_append_left (by rw [cs_len]; omega), show 0 + 0 * 13 + t = t by omega]
      exact hv
    | succ k =>
      rw [List.getElem?_append_right (by rw [cs_len]; omega), cs_len, show 0 + (k + 1) * 13 + t - 13 = k * 13 + t by omega, opsC_at ops N k t (by omega) ht]
      exact hv
end Go.Proofs.Ytajaglhlmoblnaa
