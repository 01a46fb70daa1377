/- Walk: the statement on the least span of three returns true. Conditions: numbers fit their kinds. -/
import Derived.Test.YtigbdndjlkmemaaSpanMath
namespace Go.Proofs.Ytigbdndjlkmemaa
open Go.RowKit Go.Sort
set_option linter.unusedVariables false
set_option linter.unusedSimpArgs false
theorem guard_span : Try.prog.eqGuardType Try.prog.depth 38 = false := by kernel_rfl
theorem stood_span : Try.prog.stoodInHeld 38 = false := by kernel_rfl
theorem eql_span (a b c d : Int) (w : World) : (binOp .eql 38 (.agg #[.int .i64 a, .int .i64 b]) (.agg #[.int .i64 c, .int .i64 d])).run Try.prog w = .ok (.bool (a == c && b == d)) w := by
  have h1 := stood_span
  by_cases h : a = c <;> by_cases k : b = d <;> simp [go_sem, h1, h, k]
set_option maxHeartbeats 800000 in
theorem cover_nil (w : World) : Calls Try.prog 28 #[.slice none 0 0] w (Gives w (.agg #[.int .i64 0, .int .i64 0])) := by
  have e1 := empty_g 0 0
  have E1 := Lib.hid e1
  clear e1
  go_enter Try.func28, Try.ntmps28
  go_wp2_with fail
  refine wp_loop_rounds 1 ?_; rw [rounds_succ]
  go_wp2_with (go_at_call 34; refine (E1.out _).mono ?_; rintro e w1 ⟨rfl, p, rfl⟩)
  refine bodyPost_ret (v := .agg #[.int .i64 0, .int .i64 0]) (by simp [results, Try.results28, go_sem, ↓IntWalk.iteOmega]) rfl ?_
  exact Gives.mk rfl (by repeat (first | exact Below.refl _ _ | refine below_mo ?_ _ | refine below_al ?_ _ | refine below_st ?_ (by simp) _))
def three (x y z : Int) (k : Nat) : Int := if k = 0 then x else if k = 1 then y else z
theorem cov_skip (A L : Nat → Int) (k : Nat) (h : loI (A k) (L k) = hiI (A k) (L k)) : covK A L (k + 1) = covK A L k := by
  show (if loI (A k) (L k) = hiI (A k) (L k) then _ else _) = _
  rw [if_pos h]
theorem cov_take (A L : Nat → Int) (k : Nat) (h : ¬ loI (A k) (L k) = hiI (A k) (L k)) :
    covK A L (k + 1) = if (covK A L k).1 = (covK A L k).2 then (loI (A k) (L k), hiI (A k) (L k)) else (min (covK A L k).1 (loI (A k) (L k)), max (covK A L k).2 (hiI (A k) (L k))) := by
  show (if loI (A k) (L k) = hiI (A k) (L k) then _ else _) = _
  rw [if_neg h]
set_option maxHeartbeats 2000000 in
theorem spanCovers_walk (a l b m c n : Int) (w : World) :
    Calls Try.prog 11 #[.agg #[.int .i64 a, .int .i64 l], .agg #[.int .i64 b, .int .i64 m], .agg #[.int .i64 c, .int .i64 n]] w (Gives w (.bool true)) := by
  have hq := eql_span
  have hg := guard_span
  go_enter Try.func11, Try.ntmps11
  go_wp2_with fail
  refine (cover_t (three a b c) (three l m n) (w.heap.size + 3) 3 3 (by omega) (by omega) _ (by simp) (fun k hk => by
    rcases (show k = 0 ∨ k = 1 ∨ k = 2 by omega) with rfl | rfl | rfl <;> simp [go_sem, three])).mono ?_
  rintro e w1 ⟨rfl, p, rfl⟩
  have HR := Lib.hid (covK_rng (three a b c) (three l m n))
  have HZ := Lib.hid (covK_zero (three a b c) (three l m n))
  have HT := Lib.hid (cov_take (three a b c) (three l m n))
  have HK := Lib.hid (cov_skip (three a b c) (three l m n))
  generalize hF : (covK (three a b c) (three l m n) 3).1 = F
  generalize hT : (covK (three a b c) (three l m n) 3).2 = T
  have HF := Lib.hid (⟨hF, hT⟩ : (covK (three a b c) (three l m n) 3).1 = F ∧ (covK (three a b c) (three l m n) 3).2 = T)
  clear hF hT
  go_wp2_with fail
  go_loopw [9, 10, 11, 12] (fun lo hi an i wr => ∃ k : Nat, k ≤ 3 ∧ i = .int .i64 k ∧ lo = .int .i64 (covK (three a b c) (three l m n) k).1 ∧ hi = .int .i64 (covK (three a b c) (three l m n) k).2 ∧
      an = .bool (!((covK (three a b c) (three l m n) k).1 == (covK (three a b c) (three l m n) k).2)) ∧
      wr.cell? ⟨(w.heap.size + 1 + 1 + 1 + 1 + p.os.size), 0, none⟩ = some (.int .i64 F) ∧ wr.cell? ⟨(w.heap.size + 1 + 1 + 1 + 1 + p.os.size), 1, none⟩ = some (.int .i64 (T - F)) ∧
      wr.cell? ⟨(w.heap.size + 1 + 1 + 1 + 1 + p.os.size) + 1, 0, none⟩ = some (.int .i64 a) ∧ wr.cell? ⟨(w.heap.size + 1 + 1 + 1 + 1 + p.os.size) + 1, 1, none⟩ = some (.int .i64 l) ∧ wr.cell? ⟨(w.heap.size + 1 + 1 + 1 + 1 + p.os.size) + 1, 2, none⟩ = some (.int .i64 b) ∧ wr.cell? ⟨(w.heap.size + 1 + 1 + 1 + 1 + p.os.size) + 1, 3, none⟩ = some (.int .i64 m) ∧ wr.cell? ⟨(w.heap.size + 1 + 1 + 1 + 1 + p.os.size) + 1, 4, none⟩ = some (.int .i64 c) ∧ wr.cell? ⟨(w.heap.size + 1 + 1 + 1 + 1 + p.os.size) + 1, 5, none⟩ = some (.int .i64 n) ∧
      Below w.heap.size w wr ∧ (w.heap.size + 1 + 1 + 1 + 1 + p.os.size) + 1 < wr.heap.size) (fun _ _ _ i _ => 3 - (intOf i).toNat)
  case atStart =>
    exact ⟨0, by omega, rfl, rfl, rfl, rfl, by simp [go_sem, ↓IntWalk.iteOmega], by simp [go_sem, ↓IntWalk.iteOmega], by simp [go_sem, ↓IntWalk.iteOmega], by simp [go_sem, ↓IntWalk.iteOmega], by simp [go_sem, ↓IntWalk.iteOmega], by simp [go_sem, ↓IntWalk.iteOmega], by simp [go_sem, ↓IntWalk.iteOmega], by simp [go_sem, ↓IntWalk.iteOmega], (by repeat (first | exact Below.refl _ _ | exact HB.out | refine below_mo ?_ _ | refine below_al ?_ _ | refine below_st ?_ (by simp) _)), by simp [go_sem]⟩
  case round =>
    obtain ⟨k, hk, rfl, rfl, rfl, rfl, c0, c1, d0, d1, d2, d3, d4, d5, hb, hz⟩ := hrel
    have HB := Lib.hid hb
    by_cases hlt : (k : Int) < 3
    · have hr := HR.out k
      have h0 := HZ.out k
      have hsk := HK.out k
      have htk := HT.out k
      have e0 : wr.cell? ⟨(w.heap.size + 1 + 1 + 1 + 1 + p.os.size) + 1, k * 2, none⟩ = some (.int .i64 (three a b c k)) := by
        rcases (show k = 0 ∨ k = 1 ∨ k = 2 by omega) with rfl | rfl | rfl
        · exact d0
        · exact d2
        · exact d4
      have e1 : wr.cell? ⟨(w.heap.size + 1 + 1 + 1 + 1 + p.os.size) + 1, k * 2 + 1, none⟩ = some (.int .i64 (three l m n k)) := by
        rcases (show k = 0 ∨ k = 1 ∨ k = 2 by omega) with rfl | rfl | rfl
        · exact d1
        · exact d3
        · exact d5
      generalize three a b c k = x at *
      generalize three l m n k = y at *
      generalize hp : covK (three a b c) (three l m n) k = q at *
      obtain ⟨f, t⟩ := q
      simp only at hr h0 htk ⊢
      have HP := Lib.hid hp
      clear hp
      have q1 := lsound_g x y
      cases hs : sndB x y
      · rw [hs] at q1
        have Q1 := Lib.hid q1
        replace htk := hsk (by unfold loI hiI; rw [hs]; rfl)
        clear q1 hs hsk hb
        cases b2 : (f == t)
        · have HS := Lib.hid htk
          clear htk
          go_wp2_with (first | (go_at_call 23; refine (Q1.out _).mono ?_; rintro e w1 ⟨rfl, p, rfl⟩))
          go_roundw
          case rel =>
            exact ⟨k + 1, by omega, by go_num, by rw [HS.out], by rw [HS.out], by rw [HS.out]; first | rfl | (simp [b2]; done) | (congr 1; simp; omega), by simp [go_sem, ↓IntWalk.iteOmega, c0], by simp [go_sem, ↓IntWalk.iteOmega, c1], by simp [go_sem, ↓IntWalk.iteOmega, d0], by simp [go_sem, ↓IntWalk.iteOmega, d1], by simp [go_sem, ↓IntWalk.iteOmega, d2], by simp [go_sem, ↓IntWalk.iteOmega, d3], by simp [go_sem, ↓IntWalk.iteOmega, d4], by simp [go_sem, ↓IntWalk.iteOmega, d5], (by repeat (first | exact Below.refl _ _ | exact HB.out | refine below_mo ?_ _ | refine below_al ?_ _ | refine below_st ?_ (by simp) _)), by simp [go_sem]; omega⟩
          case measure => simp [intOf]; omega
        · have HS := Lib.hid htk
          clear htk
          go_wp2_with (first | (go_at_call 23; refine (Q1.out _).mono ?_; rintro e w1 ⟨rfl, p, rfl⟩))
          go_roundw
          case rel =>
            exact ⟨k + 1, by omega, by go_num, by rw [HS.out], by rw [HS.out], by rw [HS.out]; first | rfl | (simp [b2]; done) | (congr 1; simp; omega), by simp [go_sem, ↓IntWalk.iteOmega, c0], by simp [go_sem, ↓IntWalk.iteOmega, c1], by simp [go_sem, ↓IntWalk.iteOmega, d0], by simp [go_sem, ↓IntWalk.iteOmega, d1], by simp [go_sem, ↓IntWalk.iteOmega, d2], by simp [go_sem, ↓IntWalk.iteOmega, d3], by simp [go_sem, ↓IntWalk.iteOmega, d4], by simp [go_sem, ↓IntWalk.iteOmega, d5], (by repeat (first | exact Below.refl _ _ | exact HB.out | refine below_mo ?_ _ | refine below_al ?_ _ | refine below_st ?_ (by simp) _)), by simp [go_sem]; omega⟩
          case measure => simp [intOf]; omega
      · have hs2 := sndB_yes hs
        rw [hs] at q1
        have Q1 := Lib.hid q1
        have hlo : loI x y = x := by unfold loI; rw [hs]; rfl
        have hhi : hiI x y = x + y := by unfold hiI; rw [hs]; rfl
        rw [hlo, hhi] at hsk htk
        clear q1 hs hlo hhi
        by_cases hy : y = 0
        · subst hy
          replace htk := hsk (by omega)
          clear hsk hb
          cases b2 : (f == t)
          · have HS := Lib.hid htk
            clear htk
            go_wp2_with (first | (go_at_call 23; refine (Q1.out _).mono ?_; rintro e w1 ⟨rfl, p, rfl⟩))
            go_roundw
            case rel =>
              exact ⟨k + 1, by omega, by go_num, by rw [HS.out], by rw [HS.out], by rw [HS.out]; first | rfl | (simp [b2]; done) | (congr 1; simp; omega), by simp [go_sem, ↓IntWalk.iteOmega, c0], by simp [go_sem, ↓IntWalk.iteOmega, c1], by simp [go_sem, ↓IntWalk.iteOmega, d0], by simp [go_sem, ↓IntWalk.iteOmega, d1], by simp [go_sem, ↓IntWalk.iteOmega, d2], by simp [go_sem, ↓IntWalk.iteOmega, d3], by simp [go_sem, ↓IntWalk.iteOmega, d4], by simp [go_sem, ↓IntWalk.iteOmega, d5], (by repeat (first | exact Below.refl _ _ | exact HB.out | refine below_mo ?_ _ | refine below_al ?_ _ | refine below_st ?_ (by simp) _)), by simp [go_sem]; omega⟩
            case measure => simp [intOf]; omega
          · have HS := Lib.hid htk
            clear htk
            go_wp2_with (first | (go_at_call 23; refine (Q1.out _).mono ?_; rintro e w1 ⟨rfl, p, rfl⟩))
            go_roundw
            case rel =>
              exact ⟨k + 1, by omega, by go_num, by rw [HS.out], by rw [HS.out], by rw [HS.out]; first | rfl | (simp [b2]; done) | (congr 1; simp; omega), by simp [go_sem, ↓IntWalk.iteOmega, c0], by simp [go_sem, ↓IntWalk.iteOmega, c1], by simp [go_sem, ↓IntWalk.iteOmega, d0], by simp [go_sem, ↓IntWalk.iteOmega, d1], by simp [go_sem, ↓IntWalk.iteOmega, d2], by simp [go_sem, ↓IntWalk.iteOmega, d3], by simp [go_sem, ↓IntWalk.iteOmega, d4], by simp [go_sem, ↓IntWalk.iteOmega, d5], (by repeat (first | exact Below.refl _ _ | exact HB.out | refine below_mo ?_ _ | refine below_al ?_ _ | refine below_st ?_ (by simp) _)), by simp [go_sem]; omega⟩
            case measure => simp [intOf]; omega
        · replace htk := htk (by omega)
          clear hb
          have b3 : (y == 0) = false := by simpa using hy
          clear hsk
          by_cases hft : f = t
          · rw [if_pos hft] at htk
            have b2 : (f == t) = true := by simpa using hft
            have HFT := Lib.hid hft
            clear hft
            have HS := Lib.hid htk
            clear htk
            go_wp2_with (first | (go_at_call 23; refine (Q1.out _).mono ?_; rintro e w1 ⟨rfl, p, rfl⟩))
            go_roundw
            case rel =>
              exact ⟨k + 1, by omega, by go_num, by rw [HS.out], by rw [HS.out], by rw [HS.out]; first | rfl | (simp [b2]; done) | (congr 1; simp; omega), by simp [go_sem, ↓IntWalk.iteOmega, c0], by simp [go_sem, ↓IntWalk.iteOmega, c1], by simp [go_sem, ↓IntWalk.iteOmega, d0], by simp [go_sem, ↓IntWalk.iteOmega, d1], by simp [go_sem, ↓IntWalk.iteOmega, d2], by simp [go_sem, ↓IntWalk.iteOmega, d3], by simp [go_sem, ↓IntWalk.iteOmega, d4], by simp [go_sem, ↓IntWalk.iteOmega, d5], (by repeat (first | exact Below.refl _ _ | exact HB.out | refine below_mo ?_ _ | refine below_al ?_ _ | refine below_st ?_ (by simp) _)), by simp [go_sem]; omega⟩
            case measure => simp [intOf]; omega
          · rw [if_neg hft] at htk
            have b2 : (f == t) = false := by simpa using hft
            rcases Int.lt_or_le x f with g3 | g3
            · rcases Int.lt_or_le t (x + y) with g4 | g4
              · rw [show min f x = x by omega, show max t (x + y) = x + y by omega] at htk
                have HS := Lib.hid htk
                clear htk
                go_wp2_with (first | (go_at_call 23; refine (Q1.out _).mono ?_; rintro e w1 ⟨rfl, p, rfl⟩))
                go_roundw
                case rel =>
                  exact ⟨k + 1, by omega, by go_num, by rw [HS.out], by rw [HS.out], by rw [HS.out]; first | rfl | (simp [b2]; done) | (congr 1; simp; omega), by simp [go_sem, ↓IntWalk.iteOmega, c0], by simp [go_sem, ↓IntWalk.iteOmega, c1], by simp [go_sem, ↓IntWalk.iteOmega, d0], by simp [go_sem, ↓IntWalk.iteOmega, d1], by simp [go_sem, ↓IntWalk.iteOmega, d2], by simp [go_sem, ↓IntWalk.iteOmega, d3], by simp [go_sem, ↓IntWalk.iteOmega, d4], by simp [go_sem, ↓IntWalk.iteOmega, d5], (by repeat (first | exact Below.refl _ _ | exact HB.out | refine below_mo ?_ _ | refine below_al ?_ _ | refine below_st ?_ (by simp) _)), by simp [go_sem]; omega⟩
                case measure => simp [intOf]; omega
              · rw [show min f x = x by omega, show max t (x + y) = t by omega] at htk
                have HS := Lib.hid htk
                clear htk
                go_wp2_with (first | (go_at_call 23; refine (Q1.out _).mono ?_; rintro e w1 ⟨rfl, p, rfl⟩))
                go_roundw
                case rel =>
                  exact ⟨k + 1, by omega, by go_num, by rw [HS.out], by rw [HS.out], by rw [HS.out]; first | rfl | (simp [b2]; done) | (congr 1; simp; omega), by simp [go_sem, ↓IntWalk.iteOmega, c0], by simp [go_sem, ↓IntWalk.iteOmega, c1], by simp [go_sem, ↓IntWalk.iteOmega, d0], by simp [go_sem, ↓IntWalk.iteOmega, d1], by simp [go_sem, ↓IntWalk.iteOmega, d2], by simp [go_sem, ↓IntWalk.iteOmega, d3], by simp [go_sem, ↓IntWalk.iteOmega, d4], by simp [go_sem, ↓IntWalk.iteOmega, d5], (by repeat (first | exact Below.refl _ _ | exact HB.out | refine below_mo ?_ _ | refine below_al ?_ _ | refine below_st ?_ (by simp) _)), by simp [go_sem]; omega⟩
                case measure => simp [intOf]; omega
            · rcases Int.lt_or_le t (x + y) with g4 | g4
              · rw [show min f x = f by omega, show max t (x + y) = x + y by omega] at htk
                have HS := Lib.hid htk
                clear htk
                go_wp2_with (first | (go_at_call 23; refine (Q1.out _).mono ?_; rintro e w1 ⟨rfl, p, rfl⟩))
                go_roundw
                case rel =>
                  exact ⟨k + 1, by omega, by go_num, by rw [HS.out], by rw [HS.out], by rw [HS.out]; first | rfl | (simp [b2]; done) | (congr 1; simp; omega), by simp [go_sem, ↓IntWalk.iteOmega, c0], by simp [go_sem, ↓IntWalk.iteOmega, c1], by simp [go_sem, ↓IntWalk.iteOmega, d0], by simp [go_sem, ↓IntWalk.iteOmega, d1], by simp [go_sem, ↓IntWalk.iteOmega, d2], by simp [go_sem, ↓IntWalk.iteOmega, d3], by simp [go_sem, ↓IntWalk.iteOmega, d4], by simp [go_sem, ↓IntWalk.iteOmega, d5], (by repeat (first | exact Below.refl _ _ | exact HB.out | refine below_mo ?_ _ | refine below_al ?_ _ | refine below_st ?_ (by simp) _)), by simp [go_sem]; omega⟩
                case measure => simp [intOf]; omega
              · rw [show min f x = f by omega, show max t (x + y) = t by omega] at htk
                have HS := Lib.hid htk
                clear htk
                go_wp2_with (first | (go_at_call 23; refine (Q1.out _).mono ?_; rintro e w1 ⟨rfl, p, rfl⟩))
                go_roundw
                case rel =>
                  exact ⟨k + 1, by omega, by go_num, by rw [HS.out], by rw [HS.out], by rw [HS.out]; first | rfl | (simp [b2]; done) | (congr 1; simp; omega), by simp [go_sem, ↓IntWalk.iteOmega, c0], by simp [go_sem, ↓IntWalk.iteOmega, c1], by simp [go_sem, ↓IntWalk.iteOmega, d0], by simp [go_sem, ↓IntWalk.iteOmega, d1], by simp [go_sem, ↓IntWalk.iteOmega, d2], by simp [go_sem, ↓IntWalk.iteOmega, d3], by simp [go_sem, ↓IntWalk.iteOmega, d4], by simp [go_sem, ↓IntWalk.iteOmega, d5], (by repeat (first | exact Below.refl _ _ | exact HB.out | refine below_mo ?_ _ | refine below_al ?_ _ | refine below_st ?_ (by simp) _)), by simp [go_sem]; omega⟩
                case measure => simp [intOf]; omega
    · obtain rfl : k = 3 := by omega
      have HB := Lib.hid hb
      clear hb
      rw [HF.out.1, HF.out.2]
      have hr := HR.out 3
      rw [HF.out.1, HF.out.2] at hr
      go_wp2_with (first | (go_at_call 24; refine (sawake_any _).mono ?_; rintro e w1 ⟨rfl, p, rfl⟩) | (go_at_call 28; refine (cover_nil _).mono ?_; rintro e w1 ⟨rfl, p, rfl⟩))
      go_ret
      exact Gives.mk rfl (by repeat (first | exact HB.out | refine below_mo ?_ _ | refine below_al ?_ _))
end Go.Proofs.Ytigbdndjlkmemaa
