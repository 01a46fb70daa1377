/- Walks: what Meets and Within compute. Conditions: numbers fit their kinds. -/
import Derived.Test.YtigbdndjlkmemaaSpanWalks
import Derived.Laws.StructEq
namespace Go.Proofs.Ytigbdndjlkmemaa
open Go.RowKit Go.Sort
set_option linter.unusedVariables false
def meetsB (a l b m : Int) : Bool := !(bLo (loI a l) (hiI a l) (loI b m) (hiI b m) == bHi (loI a l) (hiI a l) (loI b m) (hiI b m))
theorem below_regrow {W w : World} (h : Below W.heap.size W w) (d : Nat) (os : Array Obj) : Below W.heap.size W (grow (redrawn w d) os) := below_next h (below_regrown w d os)
theorem meets_any (a l b m : Int) (w : World) :
    Calls Try.prog 25 #[.agg #[.int .i64 a, .int .i64 l], .agg #[.int .i64 b, .int .i64 m]] w fun e w' => e = .returned (.bool (meetsB a l b m)) ∧ Below w.heap.size w w' := by
  go_enter Try.func25, Try.ntmps25
  go_wp2_with fail
  obtain ⟨w0, hw0⟩ : ∃ w0, w0 = (w.alloc (.cells #[.int .i64 a, .int .i64 l] 38)).alloc (.cells #[.int .i64 b, .int .i64 m] 38) := ⟨_, rfl⟩
  have k0 := cell_regrown (w := w0) (a := ⟨w.heap.size, 0, none⟩) (v := .int .i64 a) (by rw [hw0]; simp)
  have k1 := cell_regrown (w := w0) (a := ⟨w.heap.size, 1, none⟩) (v := .int .i64 l) (by rw [hw0]; simp)
  have k2 := cell_regrown (w := w0) (a := ⟨w.heap.size + 1, 0, none⟩) (v := .int .i64 b) (by rw [hw0]; simp)
  have k3 := cell_regrown (w := w0) (a := ⟨w.heap.size + 1, 1, none⟩) (v := .int .i64 m) (by rw [hw0]; simp)
  rw [← hw0]
  have HW := Lib.hid hw0
  clear hw0
  refine wp_region_quiet_below (by kernel_rfl) (by kernel_rfl) ?_
  repeat (go_big_quiet_step (first | (go_at_call 32; exact Calls.regrown_of (of_any _ _ _)) | (go_at_call 33; exact Calls.regrown_of (both_any _ _ _ _ _)) | (go_at_call 34; exact Calls.regrown_of (empty_any _ _ _))))
  refine wpQuiet_nil ?_
  intro _ hw'
  obtain ⟨⟨dq, osq⟩, hw''⟩ := hw'
  subst hw''
  go_wp2
  go_ret
  exact ⟨rfl, by rw [HW.out]; exact below_regrow (((Below.refl _ _).alloc (Nat.le_refl _) _).alloc (by simp) _) _ _⟩
theorem guard_bytes : Try.prog.eqGuardType Try.prog.depth 49 = false := by kernel_rfl
theorem stood_bytes : Try.prog.stoodInHeld 49 = false := by kernel_rfl
theorem eql_bytes (a b c d : Int) (w : World) : (binOp .eql 49 (.agg #[.int .i64 a, .int .i64 b]) (.agg #[.int .i64 c, .int .i64 d])).run Try.prog w = .ok (.bool (a == c && b == d)) w := by
  have h1 := stood_bytes
  by_cases h : a = c <;> by_cases k : b = d <;> simp [go_sem, h1, h, k]
def withinB (a l b m : Int) : Bool := loI a l == hiI a l || (bLo (loI a l) (hiI a l) (loI b m) (hiI b m) == loI a l && bHi (loI a l) (hiI a l) (loI b m) (hiI b m) == hiI a l)
theorem within_any (a l b m : Int) (w : World) :
    Calls Try.prog 26 #[.agg #[.int .i64 a, .int .i64 l], .agg #[.int .i64 b, .int .i64 m]] w fun e w' => e = .returned (.bool (withinB a l b m)) ∧ Below w.heap.size w w' := by
  have A1 := Lib.hid (of_any a l)
  cases he : (loI a l == hiI a l)
  · have H : Hid (withinB a l b m = (bLo (loI a l) (hiI a l) (loI b m) (hiI b m) == loI a l && bHi (loI a l) (hiI a l) (loI b m) (hiI b m) == hiI a l)) := by unfold withinB; rw [he]; exact Lib.hid rfl
    have e1 := empty_any (loI a l) (hiI a l)
    rw [he] at e1
    have E1 := Lib.hid e1
    clear e1
    go_enter Try.func26, Try.ntmps26
    go_wp2_with fail
    refine (A1.out _).mono ?_
    rintro e w1 ⟨rfl, hb⟩
    have d2 := hb.cell (p := ⟨w.heap.size + 1, 0, none⟩) (by simp)
    have d3 := hb.cell (p := ⟨w.heap.size + 1, 1, none⟩) (by simp)
    simp at d2 d3
    have hz : w.heap.size + 1 < w1.heap.size := by have := hb.size; simp at this; omega
    have HB := Lib.hid (below_a (below_a hb))
    clear hb
    go_wp2_with fail
    obtain ⟨w0, hw0⟩ : ∃ w0, w0 = w1.alloc (.cells #[.int .i64 (loI a l), .int .i64 (hiI a l)] 49) := ⟨_, rfl⟩
    have k0 := cell_regrown (w := w0) (a := ⟨w1.heap.size, 0, none⟩) (v := .int .i64 (loI a l)) (by rw [hw0]; simp)
    have k1 := cell_regrown (w := w0) (a := ⟨w1.heap.size, 1, none⟩) (v := .int .i64 (hiI a l)) (by rw [hw0]; simp)
    have k2 := cell_regrown (w := w0) (a := ⟨w.heap.size + 1, 0, none⟩) (v := .int .i64 b) (by rw [hw0, World.cell?_alloc_lt _ _ _ hz]; exact d2)
    have k3 := cell_regrown (w := w0) (a := ⟨w.heap.size + 1, 1, none⟩) (v := .int .i64 m) (by rw [hw0, World.cell?_alloc_lt _ _ _ hz]; exact d3)
    rw [← hw0]
    have HW := Lib.hid hw0
    clear hw0 d2 d3 hz
    have hq := eql_bytes
    have hg := guard_bytes
    refine wp_region_quiet_below (by kernel_rfl) (by kernel_rfl) ?_
    repeat (go_big_quiet_step (first | (go_at_call 32; exact Calls.regrown_of (of_any _ _ _)) | (go_at_call 33; exact Calls.regrown_of (both_any _ _ _ _ _)) | (go_at_call 34; exact Calls.regrown_of (E1.out _))))
    refine wpQuiet_nil ?_
    intro _ hw'
    obtain ⟨⟨dq, osq⟩, hw''⟩ := hw'
    subst hw''
    go_wp2
    go_ret
    exact ⟨ret_bool (by rw [H.out]), by rw [HW.out]; exact below_next (HB.out.alloc HB.out.size _) (below_regrown _ _ _)⟩
  · have H : Hid (withinB a l b m = true) := by unfold withinB; rw [he]; exact Lib.hid rfl
    have e1 := empty_any (loI a l) (hiI a l)
    rw [he] at e1
    have E1 := Lib.hid e1
    clear e1
    go_enter Try.func26, Try.ntmps26
    go_wp2_with fail
    refine (A1.out _).mono ?_
    rintro e w1 ⟨rfl, hb⟩
    have d2 := hb.cell (p := ⟨w.heap.size + 1, 0, none⟩) (by simp)
    have d3 := hb.cell (p := ⟨w.heap.size + 1, 1, none⟩) (by simp)
    simp at d2 d3
    have hz : w.heap.size + 1 < w1.heap.size := by have := hb.size; simp at this; omega
    have HB := Lib.hid (below_a (below_a hb))
    clear hb
    go_wp2_with fail
    obtain ⟨w0, hw0⟩ : ∃ w0, w0 = w1.alloc (.cells #[.int .i64 (loI a l), .int .i64 (hiI a l)] 49) := ⟨_, rfl⟩
    have k0 := cell_regrown (w := w0) (a := ⟨w1.heap.size, 0, none⟩) (v := .int .i64 (loI a l)) (by rw [hw0]; simp)
    have k1 := cell_regrown (w := w0) (a := ⟨w1.heap.size, 1, none⟩) (v := .int .i64 (hiI a l)) (by rw [hw0]; simp)
    have k2 := cell_regrown (w := w0) (a := ⟨w.heap.size + 1, 0, none⟩) (v := .int .i64 b) (by rw [hw0, World.cell?_alloc_lt _ _ _ hz]; exact d2)
    have k3 := cell_regrown (w := w0) (a := ⟨w.heap.size + 1, 1, none⟩) (v := .int .i64 m) (by rw [hw0, World.cell?_alloc_lt _ _ _ hz]; exact d3)
    rw [← hw0]
    have HW := Lib.hid hw0
    clear hw0 d2 d3 hz
    have hq := eql_bytes
    have hg := guard_bytes
    refine wp_region_quiet_below (by kernel_rfl) (by kernel_rfl) ?_
    repeat (go_big_quiet_step (first | (go_at_call 32; exact Calls.regrown_of (of_any _ _ _)) | (go_at_call 33; exact Calls.regrown_of (both_any _ _ _ _ _)) | (go_at_call 34; exact Calls.regrown_of (E1.out _))))
    refine wpQuiet_nil ?_
    intro _ hw'
    obtain ⟨⟨dq, osq⟩, hw''⟩ := hw'
    subst hw''
    go_wp2
    go_ret
    exact ⟨ret_bool (by rw [H.out]), by rw [HW.out]; exact below_next (HB.out.alloc HB.out.size _) (below_regrown _ _ _)⟩
end Go.Proofs.Ytigbdndjlkmemaa
