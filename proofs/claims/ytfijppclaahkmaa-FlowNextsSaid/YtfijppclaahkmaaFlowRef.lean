/- Walks: how many bytes (the document's answer), so many bytes of a number. Conditions: numbers fit. -/
import Derived.Test.YtfijppclaahkmaaFlowNextA
namespace Go.Proofs.Ytfijppclaahkmaa
open Go.RowKit Go.Sort
set_option linter.unusedVariables false
set_option linter.unusedSimpArgs false
theorem low_all (x : Nat) (hx : x < 18446744073709551616) (n : Int) (h : 8 ≤ n) : x &&& mask (8 * n) = x := by
  rw [mask_great (8 * n) (by omega)]
  rw [show (18446744073709551615 : Nat) = 2 ^ 64 - 1 by decide, Nat.and_two_pow_sub_one_eq_mod, Nat.mod_eq_of_lt (by omega)]
theorem low_some (x : Nat) (k : Nat) (hk : k < 8) : x &&& mask (8 * (k : Int)) = x % 2 ^ (8 * k) := by
  unfold mask cap64
  rw [show min (8 * (k : Int)).toNat 64 = 8 * k by omega, Nat.and_two_pow_sub_one_eq_mod]
theorem rlow_any (x : Nat) (n : Int) (hx : x < 18446744073709551616) (hn : n = 1 ∨ n = 2 ∨ n = 4 ∨ n = 8 ∨ n = 16) (w : World) : Calls Try.prog 13 #[.int .u64 x, .int .i64 n] w (Gives w (.int .u64 ((x &&& mask (8 * n) : Nat) : Int))) := by
  rcases hn with rfl | rfl | rfl | rfl | rfl
  · rw [show x &&& mask (8 * 1) = x % 256 from low_some x 1 (by omega)]
    go_enter Try.func13, Try.ntmps13
    go_wp2
    go_ret
    exact Gives.mk (by simp) (Below.refl _ _)
  · rw [show x &&& mask (8 * 2) = x % 65536 from low_some x 2 (by omega)]
    go_enter Try.func13, Try.ntmps13
    go_wp2
    go_ret
    exact Gives.mk (by simp) (Below.refl _ _)
  · rw [show x &&& mask (8 * 4) = x % 4294967296 from low_some x 4 (by omega)]
    go_enter Try.func13, Try.ntmps13
    go_wp2
    go_ret
    exact Gives.mk (by simp) (Below.refl _ _)
  · rw [low_all x hx 8 (by omega)]
    go_enter Try.func13, Try.ntmps13
    go_wp2
    go_ret
    exact Gives.mk rfl (Below.refl _ _)
  · rw [low_all x hx 16 (by omega)]
    go_enter Try.func13, Try.ntmps13
    go_wp2
    go_ret
    exact Gives.mk rfl (Below.refl _ _)
theorem lenI_five {i : Ins} (hf : Facts i) : lenI i = 1 ∨ lenI i = 2 ∨ lenI i = 4 ∨ lenI i = 8 ∨ lenI i = 16 := by
  unfold lenI
  have := hf.sz
  split
  · omega
  · have h : i.sz = 0 ∨ i.sz = 1 ∨ i.sz = 2 ∨ i.sz = 3 := by omega
    rcases h with h | h | h | h <;> rw [h] <;> simp
theorem len_pair {i : Ins} (hf : Facts i) : (paB i.op = true → lenI i = 16) ∧ (paB i.op = false → lenI i ≤ 8) := by
  unfold lenI paB
  have := hf.sz
  refine ⟨fun h => if_pos (by simpa using h), fun h => ?_⟩
  rw [if_neg (by simpa using h)]
  have h : i.sz = 0 ∨ i.sz = 1 ∨ i.sz = 2 ∨ i.sz = 3 := by omega
  rcases h with h | h | h | h <;> rw [h] <;> simp
theorem rsize_mem (i : Ins) (hf : Facts i) (hm : meB i.op = true) (w : World) : Calls Try.prog 9 #[insV i] w (Gives w (.int .i64 (lenI i))) := by
  have h1 : 17 ≤ i.op ∧ i.op ≤ 28 := by simpa [meB] using hm
  have e1 := Lib.hid (lenI.eq_1 i)
  have f3 := hf.sz
  generalize lenI i = L at e1 ⊢
  clear hf hm
  obtain ⟨op, d, n, m, e, sz, imm⟩ := i
  unfold insV
  simp only at *
  have hs : sz = 0 ∨ sz = 1 ∨ sz = 2 ∨ sz = 3 := by omega
  by_cases h2 : 25 ≤ op
  · have q := e1.out
    rw [if_pos ⟨h2, h1.2⟩] at q
    subst q
    have h3 := h1.2
    go_enter Try.func9, Try.ntmps9
    go_wp2
    go_ret
    exact Gives.mk rfl (below_al (Below.refl _ _) _)
  · have q := e1.out
    rw [if_neg (by omega)] at q
    have h3 := h1.1
    have h4 : op ≤ 24 := by omega
    rcases hs with rfl | rfl | rfl | rfl
    all_goals
      simp at q
      subst q
      go_enter Try.func9, Try.ntmps9
      go_wp2
      go_ret
      exact Gives.mk rfl (below_al (Below.refl _ _) _)
theorem rsize_no (i : Ins) (hm : meB i.op = false) (w : World) : Calls Try.prog 9 #[insV i] w (Gives w (.int .i64 0)) := by
  have h1 : ¬ (17 ≤ i.op ∧ i.op ≤ 28) := by simpa [meB] using hm
  clear hm
  obtain ⟨op, d, n, m, e, sz, imm⟩ := i
  unfold insV
  simp only at *
  have h2 : (¬ 17 ≤ op ∧ ¬ 25 ≤ op) ∨ (¬ op ≤ 28 ∧ ¬ op ≤ 24 ∧ 17 ≤ op ∧ 25 ≤ op) := by omega
  clear h1
  rcases h2 with ⟨h1, h2⟩ | ⟨h1, h2, h3, h4⟩
  all_goals
    go_enter Try.func9, Try.ntmps9
    go_wp2
    go_ret
    exact Gives.mk rfl (below_al (Below.refl _ _) _)
theorem rsize_any (i : Ins) (hi : i.rng) (w : World) : Calls Try.prog 9 #[insV i] w fun e w' => ∃ v : Int, e = .returned (.int .i64 v) ∧ ∃ p : Regrown, w' = more w p := by
  cases hm : meB i.op
  · exact (rsize_no i hm w).mono fun e w' h => ⟨0, h.1, h.2⟩
  · have h1 : 17 ≤ i.op ∧ i.op ≤ 28 := by simpa [meB] using hm
    have f3 := hi 5 (by omega)
    clear hm hi
    obtain ⟨op, d, n, m, e, sz, imm⟩ := i
    unfold insV
    unfold rngI at f3
    simp only [Ins.get] at *
    obtain ⟨h2, h3⟩ := h1
    by_cases h4 : 25 ≤ op
    · go_enter Try.func9, Try.ntmps9
      go_wp2
      go_ret
      first | exact ⟨_, rfl, more_of_below (below_al (Below.refl _ _) _)⟩ | exact more_of_below (below_al (Below.refl _ _) _) | (simp; exact more_of_below (below_al (Below.refl _ _) _))
    · have h5 : op ≤ 24 := by omega
      by_cases h6 : IntKind.u64.wrap sz < 64
      · go_enter Try.func9, Try.ntmps9
        go_wp2
        go_ret
        first | exact ⟨_, rfl, more_of_below (below_al (Below.refl _ _) _)⟩ | exact more_of_below (below_al (Below.refl _ _) _) | (simp; exact more_of_below (below_al (Below.refl _ _) _))
      · go_enter Try.func9, Try.ntmps9
        go_wp2
        go_ret
        first | exact ⟨_, rfl, more_of_below (below_al (Below.refl _ _) _)⟩ | exact more_of_below (below_al (Below.refl _ _) _) | (simp; exact more_of_below (below_al (Below.refl _ _) _))
end Go.Proofs.Ytfijppclaahkmaa
