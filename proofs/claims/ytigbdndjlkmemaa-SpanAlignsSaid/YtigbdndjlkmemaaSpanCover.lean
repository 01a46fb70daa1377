/- Walk: the least span with all of some. Conditions: the slice's cells hold spans. -/
import Derived.Test.YtigbdndjlkmemaaSpanWalks
import Derived.Test.YtigbdndjlkmemaaMore
namespace Go.Proofs.Ytigbdndjlkmemaa
open Go.RowKit Go.Sort
set_option linter.unusedVariables false
set_option linter.unusedSimpArgs false
/-- the span so far, from and to, after the first k of some spans. -/
def covK (A L : Nat → Int) : Nat → Int × Int
  | 0 => (0, 0)
  | k + 1 =>
    let p := covK A L k
    let f := loI (A k) (L k)
    let t := hiI (A k) (L k)
    if f = t then p else if p.1 = p.2 then (f, t) else (min p.1 f, max p.2 t)
theorem lohi (a l : Int) : (loI a l = 0 ∧ hiI a l = 0) ∨ (0 ≤ loI a l ∧ loI a l ≤ hiI a l ∧ hiI a l ≤ 1099512676352) := by
  unfold loI hiI
  cases h : sndB a l
  · exact .inl ⟨rfl, rfl⟩
  · have := sndB_yes h
    right
    simp only [if_true]
    omega
theorem covK_rng (A L : Nat → Int) : ∀ k, 0 ≤ (covK A L k).1 ∧ (covK A L k).1 ≤ (covK A L k).2 ∧ (covK A L k).2 ≤ 1099512676352
  | 0 => by simp [covK]
  | k + 1 => by
    have h := covK_rng A L k
    have h2 := lohi (A k) (L k)
    simp only [covK]
    split
    · exact h
    · split
      · simp only; omega
      · simp only; omega
theorem covK_zero (A L : Nat → Int) : ∀ k, (covK A L k).1 = (covK A L k).2 → (covK A L k).1 = 0
  | 0 => by simp [covK]
  | k + 1 => by
    have h := covK_zero A L k
    have hr := covK_rng A L k
    have h2 := lohi (A k) (L k)
    simp only [covK]
    split
    · exact h
    · split
      · simp only; omega
      · simp only; omega
theorem covK_next (A L : Nat → Int) (k : Nat) (a l f t : Int) (hA : A k = a) (hL : L k = l) (hp : covK A L k = (f, t)) :
    covK A L (k + 1) = if loI a l = hiI a l then (f, t) else if f = t then (loI a l, hiI a l) else (min f (loI a l), max t (hiI a l)) := by
  show (if loI (A k) (L k) = hiI (A k) (L k) then _ else _) = _
  rw [hA, hL, hp]
theorem of_g (a l : Int) (w : World) : Calls Try.prog 32 #[.agg #[.int .i64 a, .int .i64 l]] w (Gives w (.agg #[.int .i64 (loI a l), .int .i64 (hiI a l)])) := gives_below (of_any a l w)
theorem both_g (f t g u : Int) (w : World) : Calls Try.prog 33 #[.agg #[.int .i64 f, .int .i64 t], .agg #[.int .i64 g, .int .i64 u]] w (Gives w (.agg #[.int .i64 (bLo f t g u), .int .i64 (bHi f t g u)])) := gives_below (both_any f t g u w)
theorem empty_g (f t : Int) (w : World) : Calls Try.prog 34 #[.agg #[.int .i64 f, .int .i64 t]] w (Gives w (.bool (f == t))) := gives_below (empty_any f t w)
set_option maxHeartbeats 800000 in
theorem cover_t (A L : Nat → Int) (b n cap : Nat) (hn : n ≤ cap) (hm : cap ≤ 9223372036854775807) (w : World) (hbw : b < w.heap.size)
    (hc : ∀ k, k < n → w.cell? ⟨b, k * 2, none⟩ = some (.int .i64 (A k)) ∧ w.cell? ⟨b, k * 2 + 1, none⟩ = some (.int .i64 (L k))) :
    Calls Try.prog 28 #[.slice (some ⟨b, 0, none⟩) n cap] w (Gives w (.agg #[.int .i64 (covK A L n).1, .int .i64 ((covK A L n).2 - (covK A L n).1)])) := by
  have HC := Lib.hid hc
  have HR := Lib.hid (covK_rng A L)
  clear hc
  go_enter Try.func28, Try.ntmps28
  go_wp2_with fail
  go_loopw [10] (fun i wr => ∃ k : Nat, k ≤ n ∧ i = .int .i64 k ∧ wr.cell? ⟨w.heap.size, 0, none⟩ = some (.int .i64 0) ∧ wr.cell? ⟨w.heap.size, 1, none⟩ = some (.int .i64 0) ∧ (∀ o, wr.frozen? ⟨w.heap.size, o, none⟩ = false) ∧
      wr.cell? ⟨w.heap.size + 1, 0, none⟩ = some (.int .i64 (covK A L k).1) ∧ wr.cell? ⟨w.heap.size + 1, 1, none⟩ = some (.int .i64 (covK A L k).2) ∧ (∀ o, wr.frozen? ⟨w.heap.size + 1, o, none⟩ = false) ∧
      Below w.heap.size w wr ∧ w.heap.size + 1 < wr.heap.size) (fun i _ => n - (intOf i).toNat)
  case atStart => exact ⟨0, by omega, rfl, by simp [go_sem], by simp [go_sem], by simp [go_sem], by simp [go_sem, covK], by simp [go_sem, covK], by simp [go_sem], below_al (below_al (Below.refl _ _) _) _, by simp⟩
  case round =>
    obtain ⟨k, hk, rfl, z0, z1, zf, c0, c1, cf, hb, hz⟩ := hrel
    by_cases hlt : (k : Int) < n
    · have e0 := (bcell hb).1 b (k * 2) hbw
      have e1 := (bcell hb).1 b (k * 2 + 1) hbw
      rw [(HC.out k (by omega)).1] at e0
      rw [(HC.out k (by omega)).2] at e1
      have HB := Lib.hid hb
      have hr := HR.out k
      have hl := lohi (A k) (L k)
      clear hb
      have hn2 : ∀ f t : Int, covK A L k = (f, t) → covK A L (k + 1) = if loI (A k) (L k) = hiI (A k) (L k) then (f, t) else if f = t then (loI (A k) (L k), hiI (A k) (L k)) else (min f (loI (A k) (L k)), max t (hiI (A k) (L k))) := fun f t h => covK_next A L k _ _ f t rfl rfl h
      generalize A k = a at *
      generalize L k = l at *
      generalize hp : covK A L k = p at *
      obtain ⟨f, t⟩ := p
      simp only at hr c0 c1
      have hn2 := hn2 f t rfl
      clear hp
      by_cases g1 : loI a l = hiI a l
      · have b1 : (loI a l == hiI a l) = true := by simpa using g1
        rw [if_pos g1] at hn2
        have G1 := Lib.hid g1
        clear g1
        have HS : Hid (covK A L (k + 1) = (f, t)) := Lib.hid hn2
        clear hn2
        go_wp2_with (first | (go_at_call 32; refine (of_g _ _ _).mono ?_; rintro e w1 ⟨rfl, p, rfl⟩) | (go_at_call 34; refine (empty_g _ _ _).mono ?_; rintro e w1 ⟨rfl, p, rfl⟩))
        go_roundw
        case rel =>
          exact ⟨k + 1, by omega, by go_num, by simp [go_sem, ↓IntWalk.iteOmega, z0], by simp [go_sem, ↓IntWalk.iteOmega, z1], by intro o; simp [go_sem, ↓IntWalk.iteOmega, zf] <;> (intros; omega), by simp [go_sem, ↓IntWalk.iteOmega, c0, HS.out], by simp [go_sem, ↓IntWalk.iteOmega, c1, HS.out], by intro o; simp [go_sem, ↓IntWalk.iteOmega, cf] <;> (intros; omega),
            (by repeat (first | exact HB.out | refine below_mo ?_ _ | refine below_al ?_ _ | refine below_st ?_ (by simp) _)), by simp [go_sem]; omega⟩
        case measure => simp [intOf]; omega
      · have b1 : (loI a l == hiI a l) = false := by simpa using g1
        rw [if_neg g1] at hn2
        by_cases g2 : f = t
        · have b2 : (f == t) = true := by simpa using g2
          rw [if_pos g2] at hn2
          have G2 := Lib.hid g2
          clear g1 g2
          have HS : Hid (covK A L (k + 1) = (loI a l, hiI a l)) := Lib.hid hn2
          clear hn2
          go_wp2_with (first | (go_at_call 32; refine (of_g _ _ _).mono ?_; rintro e w1 ⟨rfl, p, rfl⟩) | (go_at_call 34; refine (empty_g _ _ _).mono ?_; rintro e w1 ⟨rfl, p, rfl⟩))
          go_roundw
          case rel =>
            exact ⟨k + 1, by omega, by go_num, by simp [go_sem, ↓IntWalk.iteOmega, z0], by simp [go_sem, ↓IntWalk.iteOmega, z1], by intro o; simp [go_sem, ↓IntWalk.iteOmega, zf] <;> (intros; omega), by simp [go_sem, ↓IntWalk.iteOmega, c0, HS.out], by simp [go_sem, ↓IntWalk.iteOmega, c1, HS.out], by intro o; simp [go_sem, ↓IntWalk.iteOmega, cf] <;> (intros; omega),
              (by repeat (first | exact HB.out | refine below_mo ?_ _ | refine below_al ?_ _ | refine below_st ?_ (by simp) _)), by simp [go_sem]; omega⟩
          case measure => simp [intOf]; omega
        · have b2 : (f == t) = false := by simpa using g2
          rw [if_neg g2] at hn2
          clear g1 g2
          rcases Int.lt_or_le (loI a l) f with g3 | g3
          · rcases Int.lt_or_le t (hiI a l) with g4 | g4
            · rw [show min f (loI a l) = loI a l by omega, show max t (hiI a l) = hiI a l by omega] at hn2
              have HS : Hid (covK A L (k + 1) = (loI a l, hiI a l)) := Lib.hid hn2
              clear hn2
              go_wp2_with (first | (go_at_call 32; refine (of_g _ _ _).mono ?_; rintro e w1 ⟨rfl, p, rfl⟩) | (go_at_call 34; refine (empty_g _ _ _).mono ?_; rintro e w1 ⟨rfl, p, rfl⟩))
              go_roundw
              case rel =>
                exact ⟨k + 1, by omega, by go_num, by simp [go_sem, ↓IntWalk.iteOmega, z0], by simp [go_sem, ↓IntWalk.iteOmega, z1], by intro o; simp [go_sem, ↓IntWalk.iteOmega, zf] <;> (intros; omega), by simp [go_sem, ↓IntWalk.iteOmega, c0, HS.out], by simp [go_sem, ↓IntWalk.iteOmega, c1, HS.out], by intro o; simp [go_sem, ↓IntWalk.iteOmega, cf] <;> (intros; omega),
                  (by repeat (first | exact HB.out | refine below_mo ?_ _ | refine below_al ?_ _ | refine below_st ?_ (by simp) _)), by simp [go_sem]; omega⟩
              case measure => simp [intOf]; omega
            · rw [show min f (loI a l) = loI a l by omega, show max t (hiI a l) = t by omega] at hn2
              have HS : Hid (covK A L (k + 1) = (loI a l, t)) := Lib.hid hn2
              clear hn2
              go_wp2_with (first | (go_at_call 32; refine (of_g _ _ _).mono ?_; rintro e w1 ⟨rfl, p, rfl⟩) | (go_at_call 34; refine (empty_g _ _ _).mono ?_; rintro e w1 ⟨rfl, p, rfl⟩))
              go_roundw
              case rel =>
                exact ⟨k + 1, by omega, by go_num, by simp [go_sem, ↓IntWalk.iteOmega, z0], by simp [go_sem, ↓IntWalk.iteOmega, z1], by intro o; simp [go_sem, ↓IntWalk.iteOmega, zf] <;> (intros; omega), by simp [go_sem, ↓IntWalk.iteOmega, c0, HS.out], by simp [go_sem, ↓IntWalk.iteOmega, c1, HS.out], by intro o; simp [go_sem, ↓IntWalk.iteOmega, cf] <;> (intros; omega),
                  (by repeat (first | exact HB.out | refine below_mo ?_ _ | refine below_al ?_ _ | refine below_st ?_ (by simp) _)), by simp [go_sem]; omega⟩
              case measure => simp [intOf]; omega
          · rcases Int.lt_or_le t (hiI a l) with g4 | g4
            · rw [show min f (loI a l) = f by omega, show max t (hiI a l) = hiI a l by omega] at hn2
              have HS : Hid (covK A L (k + 1) = (f, hiI a l)) := Lib.hid hn2
              clear hn2
              go_wp2_with (first | (go_at_call 32; refine (of_g _ _ _).mono ?_; rintro e w1 ⟨rfl, p, rfl⟩) | (go_at_call 34; refine (empty_g _ _ _).mono ?_; rintro e w1 ⟨rfl, p, rfl⟩))
              go_roundw
              case rel =>
                exact ⟨k + 1, by omega, by go_num, by simp [go_sem, ↓IntWalk.iteOmega, z0], by simp [go_sem, ↓IntWalk.iteOmega, z1], by intro o; simp [go_sem, ↓IntWalk.iteOmega, zf] <;> (intros; omega), by simp [go_sem, ↓IntWalk.iteOmega, c0, HS.out], by simp [go_sem, ↓IntWalk.iteOmega, c1, HS.out], by intro o; simp [go_sem, ↓IntWalk.iteOmega, cf] <;> (intros; omega),
                  (by repeat (first | exact HB.out | refine below_mo ?_ _ | refine below_al ?_ _ | refine below_st ?_ (by simp) _)), by simp [go_sem]; omega⟩
              case measure => simp [intOf]; omega
            · rw [show min f (loI a l) = f by omega, show max t (hiI a l) = t by omega] at hn2
              have HS : Hid (covK A L (k + 1) = (f, t)) := Lib.hid hn2
              clear hn2
              go_wp2_with (first | (go_at_call 32; refine (of_g _ _ _).mono ?_; rintro e w1 ⟨rfl, p, rfl⟩) | (go_at_call 34; refine (empty_g _ _ _).mono ?_; rintro e w1 ⟨rfl, p, rfl⟩))
              go_roundw
              case rel =>
                exact ⟨k + 1, by omega, by go_num, by simp [go_sem, ↓IntWalk.iteOmega, z0], by simp [go_sem, ↓IntWalk.iteOmega, z1], by intro o; simp [go_sem, ↓IntWalk.iteOmega, zf] <;> (intros; omega), by simp [go_sem, ↓IntWalk.iteOmega, c0, HS.out], by simp [go_sem, ↓IntWalk.iteOmega, c1, HS.out], by intro o; simp [go_sem, ↓IntWalk.iteOmega, cf] <;> (intros; omega),
                  (by repeat (first | exact HB.out | refine below_mo ?_ _ | refine below_al ?_ _ | refine below_st ?_ (by simp) _)), by simp [go_sem]; omega⟩
              case measure => simp [intOf]; omega
    · obtain rfl : k = n := by omega
      have HB := Lib.hid hb
      have hr := HR.out k
      have h0 := covK_zero A L k
      clear hb
      generalize hp : covK A L k = p at *
      obtain ⟨f, t⟩ := p
      simp only at hr c0 c1 h0 ⊢
      clear hp
      by_cases g2 : f = t
      · have b2 : (f == t) = true := by simpa using g2
        have G2 := Lib.hid (⟨h0 g2, g2⟩ : f = 0 ∧ f = t)
        clear g2 h0
        go_wp2_with (first | (go_at_call 34; refine (empty_g _ _ _).mono ?_; rintro e w1 ⟨rfl, p, rfl⟩))
        refine bodyPost_ret (v := .agg #[.int .i64 0, .int .i64 0]) (by simp [results, Try.results28, go_sem, ↓IntWalk.iteOmega, z0, z1]) rfl ?_
        exact Gives.mk (by obtain ⟨x, y⟩ := G2.out; rw [← y, x]; rfl) (by repeat (first | exact HB.out | refine below_mo ?_ _ | refine below_al ?_ _ | refine below_st ?_ (by simp) _))
      · have b2 : (f == t) = false := by simpa using g2
        clear g2 h0
        go_wp2_with (first | (go_at_call 34; refine (empty_g _ _ _).mono ?_; rintro e w1 ⟨rfl, p, rfl⟩))
        refine bodyPost_ret (v := .agg #[.int .i64 f, .int .i64 (t - f)]) (by simp [results, Try.results28, go_sem, ↓IntWalk.iteOmega, z0, z1]) rfl ?_
        exact Gives.mk rfl (by repeat (first | exact HB.out | refine below_mo ?_ _ | refine below_al ?_ _ | refine below_st ?_ (by simp) _))
end Go.Proofs.Ytigbdndjlkmemaa
