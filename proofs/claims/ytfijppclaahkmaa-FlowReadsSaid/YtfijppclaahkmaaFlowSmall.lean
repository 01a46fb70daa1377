/- Walks: the small functions of flow and of the document's answer. Conditions: numbers fit. -/
import Derived.Test.YtfijppclaahkmaaFlowState
import Derived.Test.YtfijppclaahkmaaFlowBits
import Derived.Test.YtfijppclaahkmaaFlowFacts
namespace Go.Proofs.Ytfijppclaahkmaa
open Go.RowKit Go.Sort
set_option linter.unusedVariables false
set_option linter.unusedSimpArgs false
def wrB (op : Int) : Bool := decide (op = 18 ∨ op = 20 ∨ op = 23 ∨ op = 24 ∨ op = 27 ∨ op = 28)
def meB (op : Int) : Bool := decide (17 ≤ op ∧ op ≤ 28)
def paB (op : Int) : Bool := decide (25 ≤ op ∧ op ≤ 28)
def exB (op : Int) : Bool := decide (21 ≤ op ∧ op ≤ 28)
def hoB (s : St) (c : Int) : Bool := if c = 0 then s.z else if c = 1 then !s.z else if c = 2 then s.c else !s.c
theorem between_any (op a b : Int) (w : World) : Calls Try.prog 36 #[.int .i64 op, .int .i64 a, .int .i64 b] w fun e w' => e = .returned (.bool (decide (a ≤ op ∧ op ≤ b))) ∧ w = w' := by
  by_cases h1 : a ≤ op
  · by_cases h2 : op ≤ b
    all_goals
      go_enter Try.func36, Try.ntmps36
      go_wp2
      go_ret
      exact ⟨by simp [h1, h2], rfl⟩
  · go_enter Try.func36, Try.ntmps36
    go_wp2
    go_ret
    exact ⟨by rw [show (decide (a ≤ op) && decide (op ≤ b)) = false by simp; omega]; rfl, rfl⟩
theorem memory_fl (op : Int) (w : World) : Calls Try.prog 21 #[.int .i64 op] w fun e w' => e = .returned (.bool (meB op)) ∧ w = w' := by
  have C := Lib.hid (between_any op 17 28)
  unfold meB
  generalize decide (17 ≤ op ∧ op ≤ 28) = b at C ⊢
  go_enter Try.func21, Try.ntmps21
  go_wp2_with (first | (go_at_call 36; refine (C.out _).mono ?_; rintro e w1 ⟨rfl, rfl⟩))
  go_ret
  exact ⟨rfl, rfl⟩
theorem pair_fl (op : Int) (w : World) : Calls Try.prog 26 #[.int .i64 op] w fun e w' => e = .returned (.bool (paB op)) ∧ w = w' := by
  have C := Lib.hid (between_any op 25 28)
  unfold paB
  generalize decide (25 ≤ op ∧ op ≤ 28) = b at C ⊢
  go_enter Try.func26, Try.ntmps26
  go_wp2_with (first | (go_at_call 36; refine (C.out _).mono ?_; rintro e w1 ⟨rfl, rfl⟩))
  go_ret
  exact ⟨rfl, rfl⟩
theorem excl_fl (op : Int) (w : World) : Calls Try.prog 24 #[.int .i64 op] w fun e w' => e = .returned (.bool (exB op)) ∧ w = w' := by
  have C := Lib.hid (between_any op 21 28)
  unfold exB
  generalize decide (21 ≤ op ∧ op ≤ 28) = b at C ⊢
  go_enter Try.func24, Try.ntmps24
  go_wp2_with (first | (go_at_call 36; refine (C.out _).mono ?_; rintro e w1 ⟨rfl, rfl⟩))
  go_ret
  exact ⟨rfl, rfl⟩
theorem writes_fl (op : Int) (w : World) : Calls Try.prog 22 #[.int .i64 op] w fun e w' => e = .returned (.bool (wrB op)) ∧ w = w' := by
  have e : Hid (wrB op = decide (op = 18 ∨ op = 20 ∨ op = 23 ∨ op = 24 ∨ op = 27 ∨ op = 28)) := Lib.hid rfl
  generalize wrB op = b at e ⊢
  by_cases hd : op = 18 ∨ op = 20 ∨ op = 23 ∨ op = 24 ∨ op = 27 ∨ op = 28
  · obtain rfl : b = true := by rw [e.out]; exact decide_eq_true hd
    clear e
    rcases hd with rfl | rfl | rfl | rfl | rfl | rfl
    all_goals
      go_enter Try.func22, Try.ntmps22
      go_wp2
      go_ret
      exact ⟨rfl, rfl⟩
  · obtain rfl : b = false := by rw [e.out]; exact decide_eq_false hd
    clear e
    obtain ⟨h1, h2, h3, h4, h5, h6⟩ : op ≠ 18 ∧ op ≠ 20 ∧ op ≠ 23 ∧ op ≠ 24 ∧ op ≠ 27 ∧ op ≠ 28 := by omega
    clear hd
    go_enter Try.func22, Try.ntmps22
    go_wp2
    go_ret
    exact ⟨by simp [*], rfl⟩
theorem rwrites_any (op : Int) (w : World) : Calls Try.prog 12 #[.int .i64 op] w fun e w' => e = .returned (.bool (wrB op)) ∧ w = w' := by
  have e : Hid (wrB op = decide (op = 18 ∨ op = 20 ∨ op = 23 ∨ op = 24 ∨ op = 27 ∨ op = 28)) := Lib.hid rfl
  generalize wrB op = b at e ⊢
  by_cases hd : op = 18 ∨ op = 20 ∨ op = 23 ∨ op = 24 ∨ op = 27 ∨ op = 28
  · obtain rfl : b = true := by rw [e.out]; exact decide_eq_true hd
    clear e
    rcases hd with rfl | rfl | rfl | rfl | rfl | rfl
    all_goals
      go_enter Try.func12, Try.ntmps12
      go_wp2
      go_ret
      exact ⟨rfl, rfl⟩
  · obtain rfl : b = false := by rw [e.out]; exact decide_eq_false hd
    clear e
    have hh : (op ≠ 18 ∧ op ≠ 20 ∧ ¬ 23 ≤ op ∧ op ≠ 27 ∧ op ≠ 28) ∨ (op ≠ 18 ∧ op ≠ 20 ∧ 23 ≤ op ∧ ¬ op ≤ 24 ∧ op ≠ 27 ∧ op ≠ 28) := by omega
    clear hd
    rcases hh with ⟨h1, h2, h3, h4, h5⟩ | ⟨h1, h2, h3, h4, h5, h6⟩
    all_goals
      go_enter Try.func12, Try.ntmps12
      go_wp2
      go_ret
      exact ⟨by simp [*], rfl⟩
theorem holds_fl (s : St) (c : Int) (B : Nat) (w : World) (hS : StAt w B s) : Calls Try.prog 40 #[.pointer (some ⟨B, 0, none⟩), .int .i64 c] w fun e w' => e = .returned (.bool (hoB s c)) ∧ w = w' := by
  have hz := (hS 32 (by omega)).1
  have hc := (hS 33 (by omega)).1
  rw [f_z] at hz
  rw [f_c] at hc
  have e : Hid (hoB s c = if c = 0 then s.z else if c = 1 then !s.z else if c = 2 then s.c else !s.c) := Lib.hid rfl
  generalize hoB s c = b at e ⊢
  generalize s.z = z at *
  generalize s.c = cc at *
  clear hS
  have hh : c = 0 ∨ c = 1 ∨ c = 2 ∨ (c ≠ 0 ∧ c ≠ 1 ∧ c ≠ 2) := by omega
  rcases hh with rfl | rfl | rfl | ⟨h0, h1, h2⟩
  all_goals
    have e1 := e.out
    simp [*] at e1
    subst e1
    clear e
    go_enter Try.func40, Try.ntmps40
    go_wp2
    go_ret
    exact ⟨by first | rfl | simp, rfl⟩
theorem rholds_any (s : St) (c : Int) (hc : 0 ≤ c ∧ c ≤ 3) (w : World) : Calls Try.prog 15 #[stV s, .int .i64 c] w (Gives w (.bool (hoB s c))) := by
  have hz := f_z s
  have hcc := f_c s
  have e : Hid (hoB s c = if c = 0 then s.z else if c = 1 then !s.z else if c = 2 then s.c else !s.c) := Lib.hid rfl
  unfold stV
  generalize hoB s c = b at e ⊢
  generalize s.z = z at *
  generalize s.c = cc at *
  generalize s.f = f at *
  have h4 : c = 0 ∨ c = 1 ∨ c = 2 ∨ c = 3 := by omega
  clear hc
  rcases h4 with rfl | rfl | rfl | rfl
  all_goals
    go_enter Try.func15, Try.ntmps15
    go_wp2
    go_ret
    exact Gives.mk (by rw [e.out]; simp) (by repeat (first | exact Below.refl _ _ | refine below_al ?_ _))
theorem fput_any (n : Int) (hn : 0 ≤ n ∧ n ≤ 31) (x : Nat) (B : Nat) (w : World) (hS : ∀ k, k < 36 → (∃ u, w.cell? ⟨B, k, none⟩ = some u) ∧ w.frozen? ⟨B, k, none⟩ = false) : Calls Try.prog 34 #[.pointer (some ⟨B, 0, none⟩), .int .i64 n, .int .u64 x] w
    fun e w' => e = .returned (.tuple #[]) ∧ w' = if n = 31 then w else w.setCell ⟨B, n.toNat, none⟩ (.int .u64 x) := by
  obtain ⟨k, rfl⟩ : ∃ k : Nat, n = k := ⟨n.toNat, by omega⟩
  by_cases h : k = 31
  · subst h
    go_enter Try.func34, Try.ntmps34
    go_wp2
    go_returns
    exact ⟨rfl, by simp⟩
  · have hk : k < 31 := by omega
    obtain ⟨⟨u, hc⟩, hf⟩ := hS k (by omega)
    clear hS
    rw [if_neg (by omega)]
    go_enter Try.func34, Try.ntmps34
    go_wp2
    go_returns
    exact ⟨rfl, by simp⟩
end Go.Proofs.Ytfijppclaahkmaa
