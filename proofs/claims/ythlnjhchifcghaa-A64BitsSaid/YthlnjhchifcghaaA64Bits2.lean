/- Walk: no other word is read as an instruction that is written as this one. Condition: the numbers' bounds. -/
import Derived.Test.YthlnjhchifcghaaA64Laws
namespace Go.Proofs.Ythlnjhchifcghaa
open Go.RowKit Go.Sort
set_option linter.unusedVariables false
set_option linter.unusedSimpArgs false
theorem xor_bit (v x : Nat) (hv : v < 4294967296) : ∃ u : Nat, bits BinOp.xor IntKind.u32 (v : Int) (2 ^ (x % 32) % 4294967296) = (u : Int) ∧ u < 4294967296 ∧ u ≠ v := by
  have h1 : 2 ^ (x % 32) < 4294967296 := Nat.lt_of_lt_of_le (Nat.pow_lt_pow_right (by omega : 1 < 2) (show x % 32 < 32 by omega)) (by omega)
  refine ⟨v ^^^ 2 ^ (x % 32), ?_, Nat.xor_lt_two_pow (n := 32) hv h1, fun e => ?_⟩
  · have e : (2 : Int) ^ (x % 32) % 4294967296 = ((2 ^ (x % 32) : Nat) : Int) := by
      generalize x % 32 = y at *
      have e2 : ((2 ^ y : Nat) : Int) = (2 : Int) ^ y := Int.natCast_pow 2 y
      rw [← e2]
      exact Int.emod_eq_of_lt (Int.natCast_nonneg _) (Int.ofNat_lt.2 h1)
    rw [e, u32_xor_nat _ _ hv h1]
  · have := congrArg (fun y => y.testBit (x % 32)) e
    simp at this
set_option maxHeartbeats 1000000 in
theorem a64Bits_walk (i : Ins) (hi : i.rng) (x : Nat) (hx : x < 256) (w : World) : Calls Try.prog 5 #[insV i, .int .u8 x] w fun e w' => e = .returned (.bool true) ∧ Below w.heap.size w w' := by
  have A := Lib.hid awake_any
  have EI := Lib.hid (fun W => encode_any i hi W)
  cases h1 : enc i with
  | none =>
    rw [h1] at EI
    obtain ⟨i0, i1, i2, i3, i4, i5, i6⟩ := i
    clear h1
    simp [insV] at EI ⊢
    go_enter Try.func5, Try.ntmps5
    go_wp2_with (first
      | (go_at_call 9; refine (A.out _).mono ?_; rintro e w1 ⟨rfl, p1, rfl⟩)
      | (go_at_call 7; refine (EI.out _).mono ?_; rintro e w1 ⟨rfl, p2, rfl⟩))
    all_goals (go_ret; exact ⟨by simp, by repeat (first | exact Below.refl _ _ | refine below_mo ?_ _ | refine below_al ?_ _)⟩)
  | some v =>
    have hv := enc_lt h1
    rw [h1] at EI
    obtain ⟨i0, i1, i2, i3, i4, i5, i6⟩ := i
    have H1 := Lib.hid h1
    clear h1
    simp [insV] at EI ⊢
    obtain ⟨u, hxor, hu, hne⟩ := xor_bit v x hv
    have D := Lib.hid (fun W => decode_any u hu W)
    cases h2 : decF u with
    | none =>
      rw [h2] at D
      simp [insV, Ins.zero] at D
      go_enter Try.func5, Try.ntmps5
      go_wp2_with (first
        | (go_at_call 9; refine (A.out _).mono ?_; rintro e w1 ⟨rfl, p1, rfl⟩)
        | (go_at_call 10; refine (D.out _).mono ?_; rintro e w1 ⟨rfl, p3, rfl⟩)
        | (go_at_call 7; refine (EI.out _).mono ?_; rintro e w1 ⟨rfl, p2, rfl⟩))
      all_goals (go_ret; exact ⟨by simp, by repeat (first | exact Below.refl _ _ | refine below_mo ?_ _ | refine below_al ?_ _)⟩)
    | some j =>
      rw [h2] at D
      obtain ⟨j0, j1, j2, j3, j4, j5, j6⟩ := j
      have hz : ¬ (j0 = i0 ∧ j1 = i1 ∧ j2 = i2 ∧ j3 = i3 ∧ j4 = i4 ∧ j5 = i5 ∧ j6 = i6) := by
        rintro ⟨rfl, rfl, rfl, rfl, rfl, rfl, rfl⟩
        have := dec_some h2
        rw [H1.out] at this
        exact hne (Option.some.inj this).symm
      clear h2 H1
      simp [insV] at D
      go_enter Try.func5, Try.ntmps5
      go_wp2_with (first
        | (go_at_call 9; refine (A.out _).mono ?_; rintro e w1 ⟨rfl, p1, rfl⟩)
        | (go_at_call 10; refine (D.out _).mono ?_; rintro e w1 ⟨rfl, p3, rfl⟩)
        | (go_at_call 7; refine (EI.out _).mono ?_; rintro e w1 ⟨rfl, p2, rfl⟩))
      all_goals (go_ret; exact ⟨by simp, by repeat (first | exact Below.refl _ _ | refine below_mo ?_ _ | refine below_al ?_ _)⟩)
end Go.Proofs.Ythlnjhchifcghaa
