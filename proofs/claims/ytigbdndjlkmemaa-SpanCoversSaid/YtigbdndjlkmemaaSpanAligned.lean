/- Walks: what Aligned and the law's has compute. Conditions: numbers fit their kinds. -/
import Derived.Test.YtigbdndjlkmemaaSpanMeets
namespace Go.Proofs.Ytigbdndjlkmemaa
open Go.RowKit
set_option linter.unusedVariables false
def powB (l : Int) : Bool := l == 1 || l == 2 || l == 4 || l == 8 || l == 16
def algB (a l : Int) : Bool := sndB a l && powB l && a % l == 0

theorem aligned_no (a l : Int) (w : World) (h : sndB a l = false) : Calls Try.prog 27 #[.agg #[.int .i64 a, .int .i64 l]] w fun e w' => e = .returned (.bool (algB a l)) ∧ Below w.heap.size w w' := by
    have a1 := sound_any a l
    rw [h] at a1
    have A1 := Lib.hid a1
    have H : Hid (algB a l = false) := by unfold algB; rw [h]; exact Lib.hid rfl
    clear a1 h
    go_enter Try.func27, Try.ntmps27
    go_wp2_with fail
    refine (A1.out _).mono ?_
    rintro e w1 ⟨rfl, hb⟩
    have d0 := hb.cell (p := ⟨w.heap.size, 0, none⟩) (by simp)
    have d1 := hb.cell (p := ⟨w.heap.size, 1, none⟩) (by simp)
    simp at d0 d1
    have HB := Lib.hid (below_a hb)
    clear hb
    go_wp2_with fail
    go_ret
    exact ⟨ret_bool (by rw [H.out]), HB.out⟩
theorem aligned_low (a l : Int) (w : World) (h : sndB a l = true) (h2 : l < 1) : Calls Try.prog 27 #[.agg #[.int .i64 a, .int .i64 l]] w fun e w' => e = .returned (.bool (algB a l)) ∧ Below w.heap.size w w' := by
    have a1 := sound_any a l
    rw [h] at a1
    have A1 := Lib.hid a1
    have H : Hid (algB a l = false) := by
      have hp : powB l = false := by simp [powB]; omega
      unfold algB; rw [hp, Bool.and_false]; exact Lib.hid rfl
    clear a1 h
    go_enter Try.func27, Try.ntmps27
    go_wp2_with fail
    refine (A1.out _).mono ?_
    rintro e w1 ⟨rfl, hb⟩
    have d0 := hb.cell (p := ⟨w.heap.size, 0, none⟩) (by simp)
    have d1 := hb.cell (p := ⟨w.heap.size, 1, none⟩) (by simp)
    simp at d0 d1
    have HB := Lib.hid (below_a hb)
    clear hb
    go_wp2_with fail
    go_ret
    exact ⟨ret_bool (by rw [H.out]), HB.out⟩
theorem aligned_high (a l : Int) (w : World) (h : sndB a l = true) (h2 : 16 < l) : Calls Try.prog 27 #[.agg #[.int .i64 a, .int .i64 l]] w fun e w' => e = .returned (.bool (algB a l)) ∧ Below w.heap.size w w' := by
    have a1 := sound_any a l
    rw [h] at a1
    have A1 := Lib.hid a1
    have H : Hid (algB a l = false) := by
      have hp : powB l = false := by simp [powB]; omega
      unfold algB; rw [hp, Bool.and_false]; exact Lib.hid rfl
    clear a1 h
    go_enter Try.func27, Try.ntmps27
    go_wp2_with fail
    refine (A1.out _).mono ?_
    rintro e w1 ⟨rfl, hb⟩
    have d0 := hb.cell (p := ⟨w.heap.size, 0, none⟩) (by simp)
    have d1 := hb.cell (p := ⟨w.heap.size, 1, none⟩) (by simp)
    simp at d0 d1
    have HB := Lib.hid (below_a hb)
    clear hb
    go_wp2_with fail
    go_ret
    exact ⟨ret_bool (by rw [H.out]), HB.out⟩
theorem aligned_1y (a : Int) (w : World) (h : sndB a 1 = true) (hm : (a % 1 == 0) = true) : Calls Try.prog 27 #[.agg #[.int .i64 a, .int .i64 1]] w fun e w' => e = .returned (.bool (algB a 1)) ∧ Below w.heap.size w w' := by
    have a1 := sound_any a 1
    rw [h] at a1
    have A1 := Lib.hid a1
    have hs := (sndB_yes h).1
    have H : Hid (algB a 1 = true) := by unfold algB; rw [h, hm]; exact Lib.hid rfl
    clear a1 h
    go_enter Try.func27, Try.ntmps27
    go_wp2_with fail
    refine (A1.out _).mono ?_
    rintro e w1 ⟨rfl, hb⟩
    have d0 := hb.cell (p := ⟨w.heap.size, 0, none⟩) (by simp)
    have d1 := hb.cell (p := ⟨w.heap.size, 1, none⟩) (by simp)
    simp at d0 d1
    have HB := Lib.hid (below_a hb)
    clear hb
    go_wp2_with fail
    go_ret
    exact ⟨ret_bool (by rw [H.out]), HB.out⟩
theorem aligned_2y (a : Int) (w : World) (h : sndB a 2 = true) (hm : (a % 2 == 0) = true) : Calls Try.prog 27 #[.agg #[.int .i64 a, .int .i64 2]] w fun e w' => e = .returned (.bool (algB a 2)) ∧ Below w.heap.size w w' := by
    have a1 := sound_any a 2
    rw [h] at a1
    have A1 := Lib.hid a1
    have hs := (sndB_yes h).1
    have H : Hid (algB a 2 = true) := by unfold algB; rw [h, hm]; exact Lib.hid rfl
    clear a1 h
    go_enter Try.func27, Try.ntmps27
    go_wp2_with fail
    refine (A1.out _).mono ?_
    rintro e w1 ⟨rfl, hb⟩
    have d0 := hb.cell (p := ⟨w.heap.size, 0, none⟩) (by simp)
    have d1 := hb.cell (p := ⟨w.heap.size, 1, none⟩) (by simp)
    simp at d0 d1
    have HB := Lib.hid (below_a hb)
    clear hb
    go_wp2_with fail
    go_ret
    exact ⟨ret_bool (by rw [H.out]), HB.out⟩
theorem aligned_2n (a : Int) (w : World) (h : sndB a 2 = true) (hm : (a % 2 == 0) = false) : Calls Try.prog 27 #[.agg #[.int .i64 a, .int .i64 2]] w fun e w' => e = .returned (.bool (algB a 2)) ∧ Below w.heap.size w w' := by
    have a1 := sound_any a 2
    rw [h] at a1
    have A1 := Lib.hid a1
    have hs := (sndB_yes h).1
    have H : Hid (algB a 2 = false) := by unfold algB; rw [h, hm]; exact Lib.hid rfl
    clear a1 h
    go_enter Try.func27, Try.ntmps27
    go_wp2_with fail
    refine (A1.out _).mono ?_
    rintro e w1 ⟨rfl, hb⟩
    have d0 := hb.cell (p := ⟨w.heap.size, 0, none⟩) (by simp)
    have d1 := hb.cell (p := ⟨w.heap.size, 1, none⟩) (by simp)
    simp at d0 d1
    have HB := Lib.hid (below_a hb)
    clear hb
    go_wp2_with fail
    go_ret
    exact ⟨ret_bool (by rw [H.out]), HB.out⟩
theorem aligned_3 (a : Int) (w : World) (h : sndB a 3 = true) : Calls Try.prog 27 #[.agg #[.int .i64 a, .int .i64 3]] w fun e w' => e = .returned (.bool (algB a 3)) ∧ Below w.heap.size w w' := by
    have a1 := sound_any a 3
    rw [h] at a1
    have A1 := Lib.hid a1
    have H : Hid (algB a 3 = false) := by unfold algB; rw [h]; exact Lib.hid rfl
    clear a1 h
    go_enter Try.func27, Try.ntmps27
    go_wp2_with fail
    refine (A1.out _).mono ?_
    rintro e w1 ⟨rfl, hb⟩
    have d0 := hb.cell (p := ⟨w.heap.size, 0, none⟩) (by simp)
    have d1 := hb.cell (p := ⟨w.heap.size, 1, none⟩) (by simp)
    simp at d0 d1
    have HB := Lib.hid (below_a hb)
    clear hb
    go_wp2_with fail
    go_ret
    exact ⟨ret_bool (by rw [H.out]), HB.out⟩
theorem aligned_4y (a : Int) (w : World) (h : sndB a 4 = true) (hm : (a % 4 == 0) = true) : Calls Try.prog 27 #[.agg #[.int .i64 a, .int .i64 4]] w fun e w' => e = .returned (.bool (algB a 4)) ∧ Below w.heap.size w w' := by
    have a1 := sound_any a 4
    rw [h] at a1
    have A1 := Lib.hid a1
    have hs := (sndB_yes h).1
    have H : Hid (algB a 4 = true) := by unfold algB; rw [h, hm]; exact Lib.hid rfl
    clear a1 h
    go_enter Try.func27, Try.ntmps27
    go_wp2_with fail
    refine (A1.out _).mono ?_
    rintro e w1 ⟨rfl, hb⟩
    have d0 := hb.cell (p := ⟨w.heap.size, 0, none⟩) (by simp)
    have d1 := hb.cell (p := ⟨w.heap.size, 1, none⟩) (by simp)
    simp at d0 d1
    have HB := Lib.hid (below_a hb)
    clear hb
    go_wp2_with fail
    go_ret
    exact ⟨ret_bool (by rw [H.out]), HB.out⟩
theorem aligned_4n (a : Int) (w : World) (h : sndB a 4 = true) (hm : (a % 4 == 0) = false) : Calls Try.prog 27 #[.agg #[.int .i64 a, .int .i64 4]] w fun e w' => e = .returned (.bool (algB a 4)) ∧ Below w.heap.size w w' := by
    have a1 := sound_any a 4
    rw [h] at a1
    have A1 := Lib.hid a1
    have hs := (sndB_yes h).1
    have H : Hid (algB a 4 = false) := by unfold algB; rw [h, hm]; exact Lib.hid rfl
    clear a1 h
    go_enter Try.func27, Try.ntmps27
    go_wp2_with fail
    refine (A1.out _).mono ?_
    rintro e w1 ⟨rfl, hb⟩
    have d0 := hb.cell (p := ⟨w.heap.size, 0, none⟩) (by simp)
    have d1 := hb.cell (p := ⟨w.heap.size, 1, none⟩) (by simp)
    simp at d0 d1
    have HB := Lib.hid (below_a hb)
    clear hb
    go_wp2_with fail
    go_ret
    exact ⟨ret_bool (by rw [H.out]), HB.out⟩
theorem aligned_5 (a : Int) (w : World) (h : sndB a 5 = true) : Calls Try.prog 27 #[.agg #[.int .i64 a, .int .i64 5]] w fun e w' => e = .returned (.bool (algB a 5)) ∧ Below w.heap.size w w' := by
    have a1 := sound_any a 5
    rw [h] at a1
    have A1 := Lib.hid a1
    have H : Hid (algB a 5 = false) := by unfold algB; rw [h]; exact Lib.hid rfl
    clear a1 h
    go_enter Try.func27, Try.ntmps27
    go_wp2_with fail
    refine (A1.out _).mono ?_
    rintro e w1 ⟨rfl, hb⟩
    have d0 := hb.cell (p := ⟨w.heap.size, 0, none⟩) (by simp)
    have d1 := hb.cell (p := ⟨w.heap.size, 1, none⟩) (by simp)
    simp at d0 d1
    have HB := Lib.hid (below_a hb)
    clear hb
    go_wp2_with fail
    go_ret
    exact ⟨ret_bool (by rw [H.out]), HB.out⟩
theorem aligned_6 (a : Int) (w : World) (h : sndB a 6 = true) : Calls Try.prog 27 #[.agg #[.int .i64 a, .int .i64 6]] w fun e w' => e = .returned (.bool (algB a 6)) ∧ Below w.heap.size w w' := by
    have a1 := sound_any a 6
    rw [h] at a1
    have A1 := Lib.hid a1
    have H : Hid (algB a 6 = false) := by unfold algB; rw [h]; exact Lib.hid rfl
    clear a1 h
    go_enter Try.func27, Try.ntmps27
    go_wp2_with fail
    refine (A1.out _).mono ?_
    rintro e w1 ⟨rfl, hb⟩
    have d0 := hb.cell (p := ⟨w.heap.size, 0, none⟩) (by simp)
    have d1 := hb.cell (p := ⟨w.heap.size, 1, none⟩) (by simp)
    simp at d0 d1
    have HB := Lib.hid (below_a hb)
    clear hb
    go_wp2_with fail
    go_ret
    exact ⟨ret_bool (by rw [H.out]), HB.out⟩
theorem aligned_7 (a : Int) (w : World) (h : sndB a 7 = true) : Calls Try.prog 27 #[.agg #[.int .i64 a, .int .i64 7]] w fun e w' => e = .returned (.bool (algB a 7)) ∧ Below w.heap.size w w' := by
    have a1 := sound_any a 7
    rw [h] at a1
    have A1 := Lib.hid a1
    have H : Hid (algB a 7 = false) := by unfold algB; rw [h]; exact Lib.hid rfl
    clear a1 h
    go_enter Try.func27, Try.ntmps27
    go_wp2_with fail
    refine (A1.out _).mono ?_
    rintro e w1 ⟨rfl, hb⟩
    have d0 := hb.cell (p := ⟨w.heap.size, 0, none⟩) (by simp)
    have d1 := hb.cell (p := ⟨w.heap.size, 1, none⟩) (by simp)
    simp at d0 d1
    have HB := Lib.hid (below_a hb)
    clear hb
    go_wp2_with fail
    go_ret
    exact ⟨ret_bool (by rw [H.out]), HB.out⟩
theorem aligned_8y (a : Int) (w : World) (h : sndB a 8 = true) (hm : (a % 8 == 0) = true) : Calls Try.prog 27 #[.agg #[.int .i64 a, .int .i64 8]] w fun e w' => e = .returned (.bool (algB a 8)) ∧ Below w.heap.size w w' := by
    have a1 := sound_any a 8
    rw [h] at a1
    have A1 := Lib.hid a1
    have hs := (sndB_yes h).1
    have H : Hid (algB a 8 = true) := by unfold algB; rw [h, hm]; exact Lib.hid rfl
    clear a1 h
    go_enter Try.func27, Try.ntmps27
    go_wp2_with fail
    refine (A1.out _).mono ?_
    rintro e w1 ⟨rfl, hb⟩
    have d0 := hb.cell (p := ⟨w.heap.size, 0, none⟩) (by simp)
    have d1 := hb.cell (p := ⟨w.heap.size, 1, none⟩) (by simp)
    simp at d0 d1
    have HB := Lib.hid (below_a hb)
    clear hb
    go_wp2_with fail
    go_ret
    exact ⟨ret_bool (by rw [H.out]), HB.out⟩
theorem aligned_8n (a : Int) (w : World) (h : sndB a 8 = true) (hm : (a % 8 == 0) = false) : Calls Try.prog 27 #[.agg #[.int .i64 a, .int .i64 8]] w fun e w' => e = .returned (.bool (algB a 8)) ∧ Below w.heap.size w w' := by
    have a1 := sound_any a 8
    rw [h] at a1
    have A1 := Lib.hid a1
    have hs := (sndB_yes h).1
    have H : Hid (algB a 8 = false) := by unfold algB; rw [h, hm]; exact Lib.hid rfl
    clear a1 h
    go_enter Try.func27, Try.ntmps27
    go_wp2_with fail
    refine (A1.out _).mono ?_
    rintro e w1 ⟨rfl, hb⟩
    have d0 := hb.cell (p := ⟨w.heap.size, 0, none⟩) (by simp)
    have d1 := hb.cell (p := ⟨w.heap.size, 1, none⟩) (by simp)
    simp at d0 d1
    have HB := Lib.hid (below_a hb)
    clear hb
    go_wp2_with fail
    go_ret
    exact ⟨ret_bool (by rw [H.out]), HB.out⟩
theorem aligned_9 (a : Int) (w : World) (h : sndB a 9 = true) : Calls Try.prog 27 #[.agg #[.int .i64 a, .int .i64 9]] w fun e w' => e = .returned (.bool (algB a 9)) ∧ Below w.heap.size w w' := by
    have a1 := sound_any a 9
    rw [h] at a1
    have A1 := Lib.hid a1
    have H : Hid (algB a 9 = false) := by unfold algB; rw [h]; exact Lib.hid rfl
    clear a1 h
    go_enter Try.func27, Try.ntmps27
    go_wp2_with fail
    refine (A1.out _).mono ?_
    rintro e w1 ⟨rfl, hb⟩
    have d0 := hb.cell (p := ⟨w.heap.size, 0, none⟩) (by simp)
    have d1 := hb.cell (p := ⟨w.heap.size, 1, none⟩) (by simp)
    simp at d0 d1
    have HB := Lib.hid (below_a hb)
    clear hb
    go_wp2_with fail
    go_ret
    exact ⟨ret_bool (by rw [H.out]), HB.out⟩
theorem aligned_10 (a : Int) (w : World) (h : sndB a 10 = true) : Calls Try.prog 27 #[.agg #[.int .i64 a, .int .i64 10]] w fun e w' => e = .returned (.bool (algB a 10)) ∧ Below w.heap.size w w' := by
    have a1 := sound_any a 10
    rw [h] at a1
    have A1 := Lib.hid a1
    have H : Hid (algB a 10 = false) := by unfold algB; rw [h]; exact Lib.hid rfl
    clear a1 h
    go_enter Try.func27, Try.ntmps27
    go_wp2_with fail
    refine (A1.out _).mono ?_
    rintro e w1 ⟨rfl, hb⟩
    have d0 := hb.cell (p := ⟨w.heap.size, 0, none⟩) (by simp)
    have d1 := hb.cell (p := ⟨w.heap.size, 1, none⟩) (by simp)
    simp at d0 d1
    have HB := Lib.hid (below_a hb)
    clear hb
    go_wp2_with fail
    go_ret
    exact ⟨ret_bool (by rw [H.out]), HB.out⟩
theorem aligned_11 (a : Int) (w : World) (h : sndB a 11 = true) : Calls Try.prog 27 #[.agg #[.int .i64 a, .int .i64 11]] w fun e w' => e = .returned (.bool (algB a 11)) ∧ Below w.heap.size w w' := by
    have a1 := sound_any a 11
    rw [h] at a1
    have A1 := Lib.hid a1
    have H : Hid (algB a 11 = false) := by unfold algB; rw [h]; exact Lib.hid rfl
    clear a1 h
    go_enter Try.func27, Try.ntmps27
    go_wp2_with fail
    refine (A1.out _).mono ?_
    rintro e w1 ⟨rfl, hb⟩
    have d0 := hb.cell (p := ⟨w.heap.size, 0, none⟩) (by simp)
    have d1 := hb.cell (p := ⟨w.heap.size, 1, none⟩) (by simp)
    simp at d0 d1
    have HB := Lib.hid (below_a hb)
    clear hb
    go_wp2_with fail
    go_ret
    exact ⟨ret_bool (by rw [H.out]), HB.out⟩
theorem aligned_12 (a : Int) (w : World) (h : sndB a 12 = true) : Calls Try.prog 27 #[.agg #[.int .i64 a, .int .i64 12]] w fun e w' => e = .returned (.bool (algB a 12)) ∧ Below w.heap.size w w' := by
    have a1 := sound_any a 12
    rw [h] at a1
    have A1 := Lib.hid a1
    have H : Hid (algB a 12 = false) := by unfold algB; rw [h]; exact Lib.hid rfl
    clear a1 h
    go_enter Try.func27, Try.ntmps27
    go_wp2_with fail
    refine (A1.out _).mono ?_
    rintro e w1 ⟨rfl, hb⟩
    have d0 := hb.cell (p := ⟨w.heap.size, 0, none⟩) (by simp)
    have d1 := hb.cell (p := ⟨w.heap.size, 1, none⟩) (by simp)
    simp at d0 d1
    have HB := Lib.hid (below_a hb)
    clear hb
    go_wp2_with fail
    go_ret
    exact ⟨ret_bool (by rw [H.out]), HB.out⟩
theorem aligned_13 (a : Int) (w : World) (h : sndB a 13 = true) : Calls Try.prog 27 #[.agg #[.int .i64 a, .int .i64 13]] w fun e w' => e = .returned (.bool (algB a 13)) ∧ Below w.heap.size w w' := by
    have a1 := sound_any a 13
    rw [h] at a1
    have A1 := Lib.hid a1
    have H : Hid (algB a 13 = false) := by unfold algB; rw [h]; exact Lib.hid rfl
    clear a1 h
    go_enter Try.func27, Try.ntmps27
    go_wp2_with fail
    refine (A1.out _).mono ?_
    rintro e w1 ⟨rfl, hb⟩
    have d0 := hb.cell (p := ⟨w.heap.size, 0, none⟩) (by simp)
    have d1 := hb.cell (p := ⟨w.heap.size, 1, none⟩) (by simp)
    simp at d0 d1
    have HB := Lib.hid (below_a hb)
    clear hb
    go_wp2_with fail
    go_ret
    exact ⟨ret_bool (by rw [H.out]), HB.out⟩
theorem aligned_14 (a : Int) (w : World) (h : sndB a 14 = true) : Calls Try.prog 27 #[.agg #[.int .i64 a, .int .i64 14]] w fun e w' => e = .returned (.bool (algB a 14)) ∧ Below w.heap.size w w' := by
    have a1 := sound_any a 14
    rw [h] at a1
    have A1 := Lib.hid a1
    have H : Hid (algB a 14 = false) := by unfold algB; rw [h]; exact Lib.hid rfl
    clear a1 h
    go_enter Try.func27, Try.ntmps27
    go_wp2_with fail
    refine (A1.out _).mono ?_
    rintro e w1 ⟨rfl, hb⟩
    have d0 := hb.cell (p := ⟨w.heap.size, 0, none⟩) (by simp)
    have d1 := hb.cell (p := ⟨w.heap.size, 1, none⟩) (by simp)
    simp at d0 d1
    have HB := Lib.hid (below_a hb)
    clear hb
    go_wp2_with fail
    go_ret
    exact ⟨ret_bool (by rw [H.out]), HB.out⟩
theorem aligned_15 (a : Int) (w : World) (h : sndB a 15 = true) : Calls Try.prog 27 #[.agg #[.int .i64 a, .int .i64 15]] w fun e w' => e = .returned (.bool (algB a 15)) ∧ Below w.heap.size w w' := by
    have a1 := sound_any a 15
    rw [h] at a1
    have A1 := Lib.hid a1
    have H : Hid (algB a 15 = false) := by unfold algB; rw [h]; exact Lib.hid rfl
    clear a1 h
    go_enter Try.func27, Try.ntmps27
    go_wp2_with fail
    refine (A1.out _).mono ?_
    rintro e w1 ⟨rfl, hb⟩
    have d0 := hb.cell (p := ⟨w.heap.size, 0, none⟩) (by simp)
    have d1 := hb.cell (p := ⟨w.heap.size, 1, none⟩) (by simp)
    simp at d0 d1
    have HB := Lib.hid (below_a hb)
    clear hb
    go_wp2_with fail
    go_ret
    exact ⟨ret_bool (by rw [H.out]), HB.out⟩
theorem aligned_16y (a : Int) (w : World) (h : sndB a 16 = true) (hm : (a % 16 == 0) = true) : Calls Try.prog 27 #[.agg #[.int .i64 a, .int .i64 16]] w fun e w' => e = .returned (.bool (algB a 16)) ∧ Below w.heap.size w w' := by
    have a1 := sound_any a 16
    rw [h] at a1
    have A1 := Lib.hid a1
    have hs := (sndB_yes h).1
    have H : Hid (algB a 16 = true) := by unfold algB; rw [h, hm]; exact Lib.hid rfl
    clear a1 h
    go_enter Try.func27, Try.ntmps27
    go_wp2_with fail
    refine (A1.out _).mono ?_
    rintro e w1 ⟨rfl, hb⟩
    have d0 := hb.cell (p := ⟨w.heap.size, 0, none⟩) (by simp)
    have d1 := hb.cell (p := ⟨w.heap.size, 1, none⟩) (by simp)
    simp at d0 d1
    have HB := Lib.hid (below_a hb)
    clear hb
    go_wp2_with fail
    go_ret
    exact ⟨ret_bool (by rw [H.out]), HB.out⟩
theorem aligned_16n (a : Int) (w : World) (h : sndB a 16 = true) (hm : (a % 16 == 0) = false) : Calls Try.prog 27 #[.agg #[.int .i64 a, .int .i64 16]] w fun e w' => e = .returned (.bool (algB a 16)) ∧ Below w.heap.size w w' := by
    have a1 := sound_any a 16
    rw [h] at a1
    have A1 := Lib.hid a1
    have hs := (sndB_yes h).1
    have H : Hid (algB a 16 = false) := by unfold algB; rw [h, hm]; exact Lib.hid rfl
    clear a1 h
    go_enter Try.func27, Try.ntmps27
    go_wp2_with fail
    refine (A1.out _).mono ?_
    rintro e w1 ⟨rfl, hb⟩
    have d0 := hb.cell (p := ⟨w.heap.size, 0, none⟩) (by simp)
    have d1 := hb.cell (p := ⟨w.heap.size, 1, none⟩) (by simp)
    simp at d0 d1
    have HB := Lib.hid (below_a hb)
    clear hb
    go_wp2_with fail
    go_ret
    exact ⟨ret_bool (by rw [H.out]), HB.out⟩
theorem aligned_any (a l : Int) (w : World) : Calls Try.prog 27 #[.agg #[.int .i64 a, .int .i64 l]] w fun e w' => e = .returned (.bool (algB a l)) ∧ Below w.heap.size w w' := by
  cases h : sndB a l
  · exact aligned_no a l w h
  · rcases Int.lt_or_le l 1 with h1 | h1
    · exact aligned_low a l w h h1
    rcases Int.lt_or_le 16 l with h2 | h2
    · exact aligned_high a l w h h2
    have h3 : l = 1 ∨ l = 2 ∨ l = 3 ∨ l = 4 ∨ l = 5 ∨ l = 6 ∨ l = 7 ∨ l = 8 ∨ l = 9 ∨ l = 10 ∨ l = 11 ∨ l = 12 ∨ l = 13 ∨ l = 14 ∨ l = 15 ∨ l = 16 := by omega
    rcases h3 with rfl | rfl | rfl | rfl | rfl | rfl | rfl | rfl | rfl | rfl | rfl | rfl | rfl | rfl | rfl | rfl
    · cases hm : (a % 1 == 0)
      · rw [Int.emod_one] at hm; cases hm
      · exact aligned_1y a w h hm
    · cases hm : (a % 2 == 0)
      · exact aligned_2n a w h hm
      · exact aligned_2y a w h hm
    · exact aligned_3 a w h
    · cases hm : (a % 4 == 0)
      · exact aligned_4n a w h hm
      · exact aligned_4y a w h hm
    · exact aligned_5 a w h
    · exact aligned_6 a w h
    · exact aligned_7 a w h
    · cases hm : (a % 8 == 0)
      · exact aligned_8n a w h hm
      · exact aligned_8y a w h hm
    · exact aligned_9 a w h
    · exact aligned_10 a w h
    · exact aligned_11 a w h
    · exact aligned_12 a w h
    · exact aligned_13 a w h
    · exact aligned_14 a w h
    · exact aligned_15 a w h
    · cases hm : (a % 16 == 0)
      · exact aligned_16n a w h hm
      · exact aligned_16y a w h hm
end Go.Proofs.Ytigbdndjlkmemaa
