/- Walks: size, all, in, New, the lowest bit, clean. Conditions: numbers fit. -/
import Derived.Test.YtgghhbjaokgeeaaDoorRelKit
import Derived.Laws.BitsAllLaws
namespace Go.Proofs.YtgghhbjaokgeeaaDoor
open Go.RowKit Go.Sort Go.Lib
set_option linter.unusedVariables false
set_option linter.unusedSimpArgs false
theorem size_any (v : Value) (len : Nat) (r : Nat → Nat) (w : World) (h : Sl w v len r) :
    Calls Tryd.prog 31 #[v] w fun e w' => e = .returned (.int .i64 (sz len : Nat)) ∧ w = w' := by
  obtain ⟨A, X, off, cap, rfl, _, hc, hm, _, _⟩ := h
  by_cases hl : 64 < len
  · have e : sz len = 64 := by unfold sz; omega
    rw [e]
    go_enter Tryd.func31, Tryd.ntmps31
    go_wp2
    go_ret
    exact ⟨rfl, rfl⟩
  · have e : sz len = len := by unfold sz; omega
    rw [e]
    go_enter Tryd.func31, Tryd.ntmps31
    go_wp2
    go_ret
    exact ⟨rfl, rfl⟩
theorem ret_u64 {a b : Int} (h : a = b) : Ending.returned (.int .u64 a) = .returned (.int .u64 b) := by rw [h]
theorem all_eq (n : Nat) (h : n < 64) : IntKind.u64.wrap (IntKind.u64.wrap (2 ^ ((n : Int)).toNat) - 1) = ((2 ^ n - 1 : Nat) : Int) := by
  have h3 : 2 ^ n ≤ 2 ^ 63 := Nat.pow_le_pow_right (by decide) (by omega)
  have h4 : 0 < 2 ^ n := Nat.two_pow_pos _
  have e : ((2 : Int) ^ ((n : Int)).toNat) = ((2 ^ n : Nat) : Int) := by simp
  rw [IntKind.wrap_u64, IntKind.wrap_u64, e]
  generalize 2 ^ n = t at *
  omega
theorem all_any (n : Nat) (hn : n ≤ 64) (w : World) :
    Calls Tryd.prog 33 #[.int .i64 n] w fun e w' => e = .returned (.int .u64 (2 ^ n - 1 : Nat)) ∧ w = w' := by
  by_cases hl : 64 ≤ n
  · obtain rfl : n = 64 := by omega
    go_enter Tryd.func33, Tryd.ntmps33
    go_wp2
    go_ret
    exact ⟨rfl, rfl⟩
  · have H := Lib.hid (all_eq n (by omega))
    go_enter Tryd.func33, Tryd.ntmps33
    go_wp2
    go_ret
    exact ⟨ret_u64 (by rw [← H.out]; simp), rfl⟩
theorem in_any (v : Value) (len : Nat) (r : Nat → Nat) (a b : Int) (w : World) (h : Sl w v len r) :
    Calls Tryd.prog 29 #[v, .int .i64 a, .int .i64 b] w fun e w' => e = .returned (.bool (decide (0 ≤ a ∧ a < sz len ∧ 0 ≤ b ∧ b < sz len))) ∧ w = w' := by
  have SZ := Lib.hid (size_any v len r w h)
  clear h
  generalize sz len = n at *
  by_cases h1 : 0 ≤ a
  · by_cases h2 : a < n
    · by_cases h3 : 0 ≤ b
      · by_cases h4 : b < n
        · go_enter Tryd.func29, Tryd.ntmps29
          go_wp2_with (go_at_call 31; refine (SZ.out).mono ?_; rintro e w1 ⟨rfl, rfl⟩)
          go_ret
          exact ⟨by simp [h1, h2, h3, h4], rfl⟩
        · go_enter Tryd.func29, Tryd.ntmps29
          go_wp2_with (go_at_call 31; refine (SZ.out).mono ?_; rintro e w1 ⟨rfl, rfl⟩)
          go_ret
          exact ⟨by simp [h1, h2, h3, h4], rfl⟩
      · go_enter Tryd.func29, Tryd.ntmps29
        go_wp2_with (go_at_call 31; refine (SZ.out).mono ?_; rintro e w1 ⟨rfl, rfl⟩)
        go_ret
        exact ⟨by simp; omega, rfl⟩
    · go_enter Tryd.func29, Tryd.ntmps29
      go_wp2_with (go_at_call 31; refine (SZ.out).mono ?_; rintro e w1 ⟨rfl, rfl⟩)
      go_ret
      exact ⟨by simp; omega, rfl⟩
  · go_enter Tryd.func29, Tryd.ntmps29
    go_wp2_with (go_at_call 31; refine (SZ.out).mono ?_; rintro e w1 ⟨rfl, rfl⟩)
    go_ret
    exact ⟨by simp; omega, rfl⟩
def cap0 (n : Int) : Nat := min n.toNat 64
theorem new_any (n : Int) (h0 : -9223372036854775808 ≤ n) (h1 : n ≤ 9223372036854775807) (w : World) :
    Calls Tryd.prog 16 #[.int .i64 n] w (GivesRows w (cap0 n) (fun _ _ => false)) := by
  obtain ⟨m, hm⟩ : ∃ m : Nat, m = cap0 n := ⟨_, rfl⟩
  have hm64 : m ≤ 64 := by rw [hm]; exact Nat.min_le_right _ _
  have fin : GivesRows w m (fun _ _ => false) (.returned (.slice (some ⟨w.heap.size, 0, none⟩) m m)) (w.alloc (.cells (zrow m) 36)) :=
    ⟨w.heap.size, rfl, more_of_below (below_al (Below.refl _ _) _), Nat.le_refl _, by simp, rows_zero.congr fun i _ => (rowN_congr (f := fun _ => false) (g := fun _ => false) (fun _ _ => rfl)).symm ▸ (by refine (row_eq fun k => ?_); simp)⟩
  have F := Lib.hid fin
  rw [← hm]
  unfold cap0 at hm
  clear fin
  rcases Int.lt_or_le n 0 with h | h
  · obtain rfl : m = 0 := by omega
    clear hm hm64
    go_enter Tryd.func16, Tryd.ntmps16
    go_wp2_with ((with_reducible refine wpList_rows rfl _ _ rfl 0 (by decide) rfl rfl ?_))
    go_ret
    exact F.out
  · by_cases h2 : 64 < n
    · obtain rfl : m = 64 := by omega
      clear hm hm64
      go_enter Tryd.func16, Tryd.ntmps16
      go_wp2_with ((with_reducible refine wpList_rows rfl _ _ rfl 64 (by decide) rfl rfl ?_))
      go_ret
      exact F.out
    · obtain rfl : n = m := by omega
      clear hm
      go_enter Tryd.func16, Tryd.ntmps16
      go_wp2_with ((with_reducible refine wpList_rows rfl _ _ rfl m hm64 rfl rfl ?_))
      go_ret
      exact F.out
end Go.Proofs.YtgghhbjaokgeeaaDoor
