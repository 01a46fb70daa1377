/- Walks: the fixed fact; unlike instructions have unlike words; no other word is read as this instruction. Condition: the numbers' bounds. -/
import Derived.Test.YthlnjhchifcghaaA64Dec
namespace Go.Proofs.Ythlnjhchifcghaa
open Go.RowKit Go.Sort
set_option linter.unusedVariables false
set_option linter.unusedSimpArgs false
theorem aw1 : (enc ⟨3, 1, 2, 3, 0, 0, 0⟩ == some 2332229697) = true := by decide +kernel
theorem aw2 : (enc ⟨13, 0, 0, 0, 0, 0, 2⟩ == some 335544322) = true := by decide +kernel
theorem aw3 : (decF 0).isNone = true := by decide +kernel
theorem rng_small {r : Ins} (h : (List.range 7).all (fun k => decide (0 ≤ r.get k) && decide (r.get k ≤ 100)) = true) : r.rng := fun k hk => by
  have := List.all_eq_true.1 h k (List.mem_range.2 hk)
  simp at this
  unfold rngI
  omega
theorem awake_any (w : World) : Calls Try.prog 9 #[] w (Gives w (.bool true)) := by
  have E := Lib.hid (fun W => encode_any ⟨3, 1, 2, 3, 0, 0, 0⟩ (rng_small (by decide)) W)
  have D1 := Lib.hid (fun W => decode_any 335544322 (by omega) W)
  have D2 := Lib.hid (fun W => decode_any 0 (by omega) W)
  rw [(by simpa using aw1 : enc ⟨3, 1, 2, 3, 0, 0, 0⟩ = some 2332229697)] at E
  rw [dec_enc (by simpa using aw2 : enc ⟨13, 0, 0, 0, 0, 0, 2⟩ = some 335544322)] at D1
  rw [(by simpa using aw3 : decF 0 = none)] at D2
  simp [insV, Ins.zero] at E D1 D2
  go_enter Try.func9, Try.ntmps9
  go_wp2_with (first
    | (go_at_call_of 10 (Value.int .u32 0); refine (D2.out _).mono ?_; rintro e w1 ⟨rfl, p3, rfl⟩)
    | (go_at_call_of 10 (Value.int .u32 335544322); refine (D1.out _).mono ?_; rintro e w1 ⟨rfl, p2, rfl⟩)
    | (go_at_call 7; refine (E.out _).mono ?_; rintro e w1 ⟨rfl, p1, rfl⟩))
  go_ret
  exact Gives.mk rfl (by repeat (first | exact Below.refl _ _ | refine below_mo ?_ _ | refine below_al ?_ _))
set_option maxHeartbeats 1000000 in
theorem a64Apart_walk (i j : Ins) (hi : i.rng) (hj : j.rng) (w : World) : Calls Try.prog 6 #[insV i, insV j] w fun e w' => e = .returned (.bool true) ∧ Below w.heap.size w w' := by
  have A := Lib.hid awake_any
  have EI := Lib.hid (fun W => encode_any i hi W)
  have EJ := Lib.hid (fun W => encode_any j hj W)
  cases h1 : enc i with
  | none =>
    rw [h1] at EI
    generalize (enc j).getD 0 = v at EJ
    generalize (if (enc j).isSome = true then (0 : Int) else 2) = e2 at EJ
    obtain ⟨i0, i1, i2, i3, i4, i5, i6⟩ := i
    obtain ⟨j0, j1, j2, j3, j4, j5, j6⟩ := j
    clear h1
    simp [insV] at EI EJ ⊢
    go_enter Try.func6, Try.ntmps6
    go_wp2_with (first
      | (go_at_call 9; refine (A.out _).mono ?_; rintro e w1 ⟨rfl, p1, rfl⟩)
      | (go_at_call_of 7 (Value.agg #[.int .i64 i0, .int .i64 i1, .int .i64 i2, .int .i64 i3, .int .i64 i4, .int .i64 i5, .int .i64 i6]); refine (EI.out _).mono ?_; rintro e w1 ⟨rfl, p2, rfl⟩)
      | (go_at_call_of 7 (Value.agg #[.int .i64 j0, .int .i64 j1, .int .i64 j2, .int .i64 j3, .int .i64 j4, .int .i64 j5, .int .i64 j6]); refine (EJ.out _).mono ?_; rintro e w1 ⟨rfl, p3, rfl⟩))
    all_goals (go_ret; exact ⟨by simp, by repeat (first | exact Below.refl _ _ | refine below_mo ?_ _ | refine below_al ?_ _)⟩)
  | some v =>
    cases h2 : enc j with
    | none =>
      rw [h1] at EI
      rw [h2] at EJ
      obtain ⟨i0, i1, i2, i3, i4, i5, i6⟩ := i
      obtain ⟨j0, j1, j2, j3, j4, j5, j6⟩ := j
      clear h1 h2
      simp [insV] at EI EJ ⊢
      go_enter Try.func6, Try.ntmps6
      go_wp2_with (first
        | (go_at_call 9; refine (A.out _).mono ?_; rintro e w1 ⟨rfl, p1, rfl⟩)
        | (go_at_call_of 7 (Value.agg #[.int .i64 i0, .int .i64 i1, .int .i64 i2, .int .i64 i3, .int .i64 i4, .int .i64 i5, .int .i64 i6]); refine (EI.out _).mono ?_; rintro e w1 ⟨rfl, p2, rfl⟩)
        | (go_at_call_of 7 (Value.agg #[.int .i64 j0, .int .i64 j1, .int .i64 j2, .int .i64 j3, .int .i64 j4, .int .i64 j5, .int .i64 j6]); refine (EJ.out _).mono ?_; rintro e w1 ⟨rfl, p3, rfl⟩))
      all_goals (go_ret; exact ⟨by simp, by repeat (first | exact Below.refl _ _ | refine below_mo ?_ _ | refine below_al ?_ _)⟩)
    | some u =>
      rw [h1] at EI
      rw [h2] at EJ
      by_cases hij : i = j
      · subst hij
        obtain rfl : v = u := by rw [h1] at h2; exact Option.some.inj h2
        obtain ⟨i0, i1, i2, i3, i4, i5, i6⟩ := i
        clear h1 h2 EJ
        simp [insV] at EI ⊢
        go_enter Try.func6, Try.ntmps6
        go_wp2_with (first
          | (go_at_call 9; refine (A.out _).mono ?_; rintro e w1 ⟨rfl, p1, rfl⟩)
          | (go_at_call_of 7 (Value.agg #[.int .i64 i0, .int .i64 i1, .int .i64 i2, .int .i64 i3, .int .i64 i4, .int .i64 i5, .int .i64 i6]); refine (EI.out _).mono ?_; rintro e w1 ⟨rfl, p2, rfl⟩))
        all_goals (go_ret; exact ⟨by simp, by repeat (first | exact Below.refl _ _ | refine below_mo ?_ _ | refine below_al ?_ _)⟩)
      · have hne : ¬ v = u := fun e => hij (enc_inj h1 (by rw [e]; exact h2))
        have hq : ((v : Int) == (u : Int)) = false := by simp; omega
        obtain ⟨i0, i1, i2, i3, i4, i5, i6⟩ := i
        obtain ⟨j0, j1, j2, j3, j4, j5, j6⟩ := j
        have hz : ¬ (i0 = j0 ∧ i1 = j1 ∧ i2 = j2 ∧ i3 = j3 ∧ i4 = j4 ∧ i5 = j5 ∧ i6 = j6) := by
          rintro ⟨rfl, rfl, rfl, rfl, rfl, rfl, rfl⟩
          exact hij rfl
        clear h1 h2 hij hne
        simp [insV] at EI EJ ⊢
        go_enter Try.func6, Try.ntmps6
        go_wp2_with (first
          | (go_at_call 9; refine (A.out _).mono ?_; rintro e w1 ⟨rfl, p1, rfl⟩)
          | (go_at_call_of 7 (Value.agg #[.int .i64 i0, .int .i64 i1, .int .i64 i2, .int .i64 i3, .int .i64 i4, .int .i64 i5, .int .i64 i6]); refine (EI.out _).mono ?_; rintro e w1 ⟨rfl, p2, rfl⟩)
          | (go_at_call_of 7 (Value.agg #[.int .i64 j0, .int .i64 j1, .int .i64 j2, .int .i64 j3, .int .i64 j4, .int .i64 j5, .int .i64 j6]); refine (EJ.out _).mono ?_; rintro e w1 ⟨rfl, p3, rfl⟩))
        all_goals (go_ret; exact ⟨by simp, by repeat (first | exact Below.refl _ _ | refine below_mo ?_ _ | refine below_al ?_ _)⟩)
end Go.Proofs.Ythlnjhchifcghaa
