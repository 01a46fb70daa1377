/- Whether a type may be: groups, and whole types. Conditions: the type lies in memory. -/
import Derived.Test.YtlbkloamabomcaaKindSound
namespace Go.Proofs.Ytlbkloamabomcaa
open Go.RowKit Go.Sort
set_option linter.unusedVariables false
set_option linter.unusedSimpArgs false
set_option maxRecDepth 100000 in
set_option maxHeartbeats 2000000 in
theorem group_any (rk rs : Int) (rp : Bool) (fa : Option Addr) (fl fc : Nat) (rc : Int) (ea : Option Addr) (el ec : Nat) (g : Nat → Int) (w : World) (hfl : fl ≤ 9223372036854775807) (hg : ∀ i, 0 ≤ g i ∧ g i ≤ 16)
    (FC : ∀ (i : Nat) W, i < fl → Below w.heap.size w W → Calls Try.prog 89 #[.agg #[.int .i64 rk, .int .i64 rs, .bool rp, .slice fa fl fc, .int .i64 rc, .slice ea el ec], .int .i64 i] W (Gives W (.int .i64 (g i)))) :
    Calls Try.prog 76 #[.agg #[.int .i64 rk, .int .i64 rs, .bool rp, .slice fa fl fc, .int .i64 rc, .slice ea el ec]] w (Gives w (.int .i64 (if fl < 1 ∨ 32 < fl then 12 else firstE g fl))) := by
  have HF := Lib.hid FC
  have HZ := Lib.hid (firstE_zero g)
  have HH := Lib.hid (firstE_hit g)
  have HG := Lib.hid hg
  clear FC hg
  by_cases h1 : fl < 1
  · have H : Hid ((if fl < 1 ∨ 32 < fl then 12 else firstE g fl) = 12) := by rw [if_pos (.inl h1)]; exact Lib.hid rfl
    generalize (if fl < 1 ∨ 32 < fl then 12 else firstE g fl) = R at *
    go_enter Try.func76, Try.ntmps76
    go_wp2_with fail
    go_ret
    exact Gives.mk (ret_int (by rw [H.out])) (by repeat (first | exact Below.refl _ _ | refine below_mo ?_ _ | refine below_al ?_ _))
  by_cases h2 : 32 < fl
  · have H : Hid ((if fl < 1 ∨ 32 < fl then 12 else firstE g fl) = 12) := by rw [if_pos (.inr h2)]; exact Lib.hid rfl
    generalize (if fl < 1 ∨ 32 < fl then 12 else firstE g fl) = R at *
    go_enter Try.func76, Try.ntmps76
    go_wp2_with fail
    go_ret
    exact Gives.mk (ret_int (by rw [H.out])) (by repeat (first | exact Below.refl _ _ | refine below_mo ?_ _ | refine below_al ?_ _))
  rw [if_neg (by omega)]
  have h3 : ¬ (32 : Int) < fl := by omega
  go_enter Try.func76, Try.ntmps76
  go_wp2_with fail
  go_loopw [3, 4, 18] (fun _ _ i wr => ∃ k : Nat, k ≤ fl ∧ i = .int .i64 k ∧ (∀ j, j < k → g j = 0) ∧
      ∃ p : Regrown, wr = more (w.alloc (.cells #[.int .i64 rk, .int .i64 rs, .bool rp, .slice fa fl fc, .int .i64 rc, .slice ea el ec] 25)) p) (fun _ _ i _ => fl - (intOf i).toNat)
  case atStart => exact ⟨0, by omega, rfl, fun j hj => by omega, more_of_below (by repeat (first | exact Below.refl _ _ | refine below_mo ?_ _))⟩
  case round =>
    obtain ⟨k, hk, rfl, hall, p, rfl⟩ := hrel
    have HA := Lib.hid hall
    clear hall
    by_cases hlt : (k : Int) < fl
    · have hr := HG.out k
      have F := fun W => HF.out k W (by omega)
      by_cases hz : g k = 0
      · rw [hz] at F
        have HF2 := Lib.hid F
        have HA2 : Hid (∀ j, j < k + 1 → g j = 0) := Lib.hid (fun j hj => by
          rcases Nat.lt_or_ge j k with h | h
          · exact HA.out j h
          · obtain rfl : j = k := by omega
            exact hz)
        clear F hz hr
        go_wp2_with (go_at_call 89; refine (HF2.out _ (by repeat (first | exact Below.refl _ _ | refine below_mo ?_ _ | refine below_al ?_ _))).mono ?_; rintro e w1 ⟨rfl, p1, rfl⟩)
        go_roundw
        case rel => exact ⟨k + 1, by omega, by go_num, HA2.out, more_of_below (by repeat (first | exact Below.refl _ _ | refine below_mo ?_ _ | refine below_al ?_ _))⟩
        case measure => simp [intOf]; omega
      · have HI := Lib.hid (HH.out k HA.out hz fl (by omega))
        have HF2 := Lib.hid F
        have bz : (g k != 0) = true := by simpa using hz
        clear F hz
        generalize g k = G at *
        go_wp2_with (go_at_call 89; refine (HF2.out _ (by repeat (first | exact Below.refl _ _ | refine below_mo ?_ _ | refine below_al ?_ _))).mono ?_; rintro e w1 ⟨rfl, p1, rfl⟩)
        go_ret
        exact Gives.mk (ret_int (by rw [HI.out])) (by repeat (first | exact Below.refl _ _ | refine below_mo ?_ _ | refine below_al ?_ _))
    · obtain rfl : k = fl := by omega
      have HI := Lib.hid (HZ.out k HA.out)
      go_wp2_with fail
      go_ret
      exact Gives.mk (ret_int (by rw [HI.out])) (by repeat (first | exact Below.refl _ _ | refine below_mo ?_ _ | refine below_al ?_ _))
/-- one level: what a type's walk gives, its calls given. -/
theorem sound_one (k s : Int) (p : Bool) (fa : Option Addr) (fl fc : Nat) (c : Int) (ea : Option Addr) (el ec : Nat) (gE eE : Int) (w : World) (hf : fl ≤ 9223372036854775807) (he : el ≤ 9223372036854775807)
    (G : ∀ W, Below w.heap.size w W → Calls Try.prog 76 #[.agg #[.int .i64 k, .int .i64 s, .bool p, .slice fa fl fc, .int .i64 c, .slice ea el ec]] W (Gives W (.int .i64 gE)))
    (E : el = 1 → ∃ b off q0 q1 q2 q3 q4 q5 q6 q7 q8 q9, ea = some ⟨b, off, none⟩ ∧ b < w.heap.size ∧ w.cell? ⟨b, off, none⟩ = some (.int .i64 q0) ∧ w.cell? ⟨b, off + 1, none⟩ = some (.int .i64 q1) ∧ w.cell? ⟨b, off + 2, none⟩ = some (.bool q2) ∧
      w.cell? ⟨b, off + 3, none⟩ = some (.slice q3 q4 q5) ∧ w.cell? ⟨b, off + 4, none⟩ = some (.int .i64 q6) ∧ w.cell? ⟨b, off + 5, none⟩ = some (.slice q7 q8 q9) ∧
      ∀ W, Below w.heap.size w W → Calls Try.prog 61 #[.agg #[.int .i64 q0, .int .i64 q1, .bool q2, .slice q3 q4 q5, .int .i64 q6, .slice q7 q8 q9]] W (Gives W (.int .i64 eE))) :
    Calls Try.prog 61 #[.agg #[.int .i64 k, .int .i64 s, .bool p, .slice fa fl fc, .int .i64 c, .slice ea el ec]] w (Gives w (.int .i64 (
      if onlyB k s p fl c el = false then 8 else if k = 1 then (if powN s 8 = true then 0 else 9) else if k = 2 then (if powN s 16 = true then 0 else 9) else if k = 5 then (if c < 1 ∨ 65536 < c then 9 else eE) else gE))) := by
  have HG := Lib.hid G
  have HE := Lib.hid E
  clear G E
  have O := fun W => only_any k s p fa fl fc c ea el ec hf he W
  cases ho : onlyB k s p fl c el
  · rw [ho] at O
    have HO := Lib.hid O
    clear O ho
    rw [if_pos rfl]
    go_enter Try.func61, Try.ntmps61
    go_wp2_with (go_at_call 74; refine (HO.out _).mono ?_; rintro e w1 ⟨rfl, p1, rfl⟩)
    go_ret
    exact Gives.mk rfl (by repeat (first | exact Below.refl _ _ | refine below_mo ?_ _ | refine below_al ?_ _))
  rw [ho] at O
  have HO := Lib.hid O
  rw [if_neg (by simp)]
  by_cases k1 : k = 1
  · subst k1
    rw [if_pos rfl]
    clear O ho
    have PW := power_any s 8 (.inl rfl)
    cases hp : powN s 8
    all_goals
      rw [hp] at PW
      have HP := Lib.hid PW
      clear PW hp
      simp only [Bool.false_eq_true, if_false, if_true]
      go_enter Try.func61, Try.ntmps61
      go_wp2_with (first | (go_at_call 74; refine (HO.out _).mono ?_; rintro e w1 ⟨rfl, p1, rfl⟩) | (go_at_call 75; refine (HP.out _).mono ?_; rintro e w1 ⟨rfl, p1, rfl⟩))
      go_ret
      exact Gives.mk rfl (by repeat (first | exact Below.refl _ _ | refine below_mo ?_ _ | refine below_al ?_ _))
  rw [if_neg k1]
  by_cases k2 : k = 2
  · subst k2
    rw [if_pos rfl]
    clear O ho k1
    have PW := power_any s 16 (.inr rfl)
    cases hp : powN s 16
    all_goals
      rw [hp] at PW
      have HP := Lib.hid PW
      clear PW hp
      simp only [Bool.false_eq_true, if_false, if_true]
      go_enter Try.func61, Try.ntmps61
      go_wp2_with (first | (go_at_call 74; refine (HO.out _).mono ?_; rintro e w1 ⟨rfl, p1, rfl⟩) | (go_at_call 75; refine (HP.out _).mono ?_; rintro e w1 ⟨rfl, p1, rfl⟩))
      go_ret
      exact Gives.mk rfl (by repeat (first | exact Below.refl _ _ | refine below_mo ?_ _ | refine below_al ?_ _))
  rw [if_neg k2]
  by_cases k5 : k = 5
  · subst k5
    rw [if_pos rfl]
    have hel : el = 1 := by
      simp only [onlyB, Bool.and_eq_true, Bool.or_eq_true, beq_iff_eq] at ho
      obtain ⟨_, h⟩ := ho
      simpa using h
    obtain ⟨b, off, q0, q1, q2, q3, q4, q5, q6, q7, q8, q9, rfl, hb, c0, c1, c2, c3, c4, c5, SE⟩ := HE.out hel
    subst hel
    have HS := Lib.hid SE
    clear O ho k1 k2 SE
    rcases Int.lt_or_le c 1 with g1 | g1
    · rw [if_pos (.inl g1)]
      go_enter Try.func61, Try.ntmps61
      go_wp2_with (first | (go_at_call 74; refine (HO.out _).mono ?_; rintro e w1 ⟨rfl, p1, rfl⟩))
      go_ret
      exact Gives.mk rfl (by repeat (first | exact Below.refl _ _ | refine below_mo ?_ _ | refine below_al ?_ _))
    rcases Int.lt_or_le 65536 c with g2 | g2
    · rw [if_pos (.inr g2)]
      go_enter Try.func61, Try.ntmps61
      go_wp2_with (first | (go_at_call 74; refine (HO.out _).mono ?_; rintro e w1 ⟨rfl, p1, rfl⟩))
      go_ret
      exact Gives.mk rfl (by repeat (first | exact Below.refl _ _ | refine below_mo ?_ _ | refine below_al ?_ _))
    rw [if_neg (by omega)]
    go_enter Try.func61, Try.ntmps61
    go_wp2_with (first | (go_at_call 74; refine (HO.out _).mono ?_; rintro e w1 ⟨rfl, p1, rfl⟩) | (go_at_call 61; refine (HS.out _ (by repeat (first | exact Below.refl _ _ | refine below_mo ?_ _ | refine below_al ?_ _))).mono ?_; rintro e w1 ⟨rfl, p1, rfl⟩))
    go_ret
    exact Gives.mk rfl (by repeat (first | exact Below.refl _ _ | refine below_mo ?_ _ | refine below_al ?_ _))
  · rw [if_neg k5]
    have b1 : (k == 1) = false := by simpa using k1
    have b2 : (k == 2) = false := by simpa using k2
    have b5 : (k == 5) = false := by simpa using k5
    clear O ho k1 k2 k5
    go_enter Try.func61, Try.ntmps61
    go_wp2_with (first | (go_at_call 74; refine (HO.out _).mono ?_; rintro e w1 ⟨rfl, p1, rfl⟩) | (go_at_call 76; refine (HG.out _ (by repeat (first | exact Below.refl _ _ | refine below_mo ?_ _ | refine below_al ?_ _))).mono ?_; rintro e w1 ⟨rfl, p1, rfl⟩))
    go_ret
    exact Gives.mk rfl (by repeat (first | exact Below.refl _ _ | refine below_mo ?_ _ | refine below_al ?_ _))
end Go.Proofs.Ytlbkloamabomcaa
