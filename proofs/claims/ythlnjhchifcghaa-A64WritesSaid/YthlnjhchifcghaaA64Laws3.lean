/- Walks: any instruction as a word, and read again; the instruction that any word is. Condition: the numbers' bounds. -/
import Derived.Test.YthlnjhchifcghaaA64RefEnc
import Derived.Test.YthlnjhchifcghaaA64Laws
namespace Go.Proofs.Ythlnjhchifcghaa
open Go.RowKit Go.Sort
set_option linter.unusedVariables false
set_option linter.unusedSimpArgs false
theorem fit_rng (c : Nat) (f : Fl) (h : fl c = some f) (x : Int) (hx : fitF f x = true) : rngI x := by
  unfold fl at h
  unfold rngI
  by_cases h100 : c = 100
  · rw [if_pos h100] at h
    cases h
    simp [fitF] at hx
    omega
  rw [if_neg h100] at h
  by_cases h110 : c = 110
  · rw [if_pos h110] at h
    cases h
    simp [fitF] at hx
    omega
  rw [if_neg h110] at h
  by_cases h97 : c = 97
  · rw [if_pos h97] at h
    cases h
    simp [fitF] at hx
    omega
  rw [if_neg h97] at h
  by_cases h109 : c = 109
  · rw [if_pos h109] at h
    cases h
    simp [fitF] at hx
    omega
  rw [if_neg h109] at h
  by_cases h101 : c = 101
  · rw [if_pos h101] at h
    cases h
    simp [fitF] at hx
    omega
  rw [if_neg h101] at h
  by_cases h113 : c = 113
  · rw [if_pos h113] at h
    cases h
    simp [fitF] at hx
    omega
  rw [if_neg h113] at h
  by_cases h99 : c = 99
  · rw [if_pos h99] at h
    cases h
    simp [fitF] at hx
    omega
  rw [if_neg h99] at h
  by_cases h107 : c = 107
  · rw [if_pos h107] at h
    cases h
    simp [fitF] at hx
    omega
  rw [if_neg h107] at h
  by_cases h115 : c = 115
  · rw [if_pos h115] at h
    cases h
    simp [fitF] at hx
    omega
  rw [if_neg h115] at h
  by_cases h105 : c = 105
  · rw [if_pos h105] at h
    cases h
    simp [fitF] at hx
    omega
  rw [if_neg h105] at h
  by_cases h111 : c = 111
  · rw [if_pos h111] at h
    cases h
    simp [fitF] at hx
    omega
  rw [if_neg h111] at h
  by_cases h98 : c = 98
  · rw [if_pos h98] at h
    cases h
    simp [fitF] at hx
    omega
  rw [if_neg h98] at h
  by_cases h120 : c = 120
  · rw [if_pos h120] at h
    cases h
    simp [fitF] at hx
    omega
  rw [if_neg h120] at h
  by_cases h102 : c = 102
  · rw [if_pos h102] at h
    cases h
    simp [fitF] at hx
    omega
  rw [if_neg h102] at h
  cases h
theorem enc_rng {i : Ins} {w : Nat} (h : enc i = some w) : i.rng := by
  obtain ⟨hl, h2⟩ := (enc_some i w).1 h
  have hop := lets_in hl
  rw [encL_some _ _ _ (fls_ok _) (fls_pair _)] at h2
  obtain ⟨h3, _, h5⟩ := h2
  intro k hk
  by_cases hx : ∃ f ∈ fls i.op, f.idx = k
  · obtain ⟨f, hf, rfl⟩ := hx
    have hf2 := h3 f hf
    unfold fls at hf
    obtain ⟨c, _, hc⟩ := List.mem_filterMap.1 hf
    exact fit_rng c f hc _ hf2
  · have := h5 k hk
    rw [if_neg hx, Ins.zero_get _ _ hk] at this
    rw [← this]
    unfold rngI
    split <;> omega
set_option maxHeartbeats 1000000 in
theorem a64Writes_walk (i : Ins) (hi : i.rng) (w : World) : Calls Try.prog 3 #[insV i] w fun e w' => e = .returned (.bool true) ∧ Below w.heap.size w w' := by
  have A := Lib.hid awake_any
  have EI := Lib.hid (fun W => encode_any i hi W)
  have RI := Lib.hid (fun W => rencode_any i hi W)
  cases h1 : enc i with
  | none =>
    rw [h1] at EI RI
    obtain ⟨i0, i1, i2, i3, i4, i5, i6⟩ := i
    clear h1
    simp [insV] at EI RI ⊢
    go_enter Try.func3, Try.ntmps3
    go_wp2_with (first
      | (go_at_call 9; refine (A.out _).mono ?_; rintro e w1 ⟨rfl, p1, rfl⟩)
      | (go_at_call 8; refine (RI.out _).mono ?_; rintro e w1 ⟨rfl, p3, rfl⟩)
      | (go_at_call 7; refine (EI.out _).mono ?_; rintro e w1 ⟨rfl, p2, rfl⟩))
    all_goals (go_ret; exact ⟨by simp, by repeat (first | exact Below.refl _ _ | refine below_mo ?_ _ | refine below_al ?_ _)⟩)
  | some v =>
    have hv := enc_lt h1
    have D := Lib.hid (fun W => decode_any v hv W)
    rw [dec_enc h1] at D
    rw [h1] at EI RI
    obtain ⟨i0, i1, i2, i3, i4, i5, i6⟩ := i
    clear h1
    simp [insV] at EI RI D ⊢
    go_enter Try.func3, Try.ntmps3
    go_wp2_with (first
      | (go_at_call 9; refine (A.out _).mono ?_; rintro e w1 ⟨rfl, p1, rfl⟩)
      | (go_at_call 10; refine (D.out _).mono ?_; rintro e w1 ⟨rfl, p4, rfl⟩)
      | (go_at_call 8; refine (RI.out _).mono ?_; rintro e w1 ⟨rfl, p3, rfl⟩)
      | (go_at_call 7; refine (EI.out _).mono ?_; rintro e w1 ⟨rfl, p2, rfl⟩))
    all_goals (go_ret; exact ⟨by simp, by repeat (first | exact Below.refl _ _ | refine below_mo ?_ _ | refine below_al ?_ _)⟩)
set_option maxHeartbeats 1000000 in
theorem a64Reads_walk (v : Nat) (hv : v < 2 ^ 32) (w : World) : Calls Try.prog 4 #[.int .u32 v] w fun e w' => e = .returned (.bool true) ∧ Below w.heap.size w w' := by
  have A := Lib.hid awake_any
  have D := Lib.hid (fun W => decode_any v (by omega) W)
  cases h1 : decF v with
  | none =>
    rw [h1] at D
    clear h1
    simp [insV, Ins.zero] at D ⊢
    go_enter Try.func4, Try.ntmps4
    go_wp2_with (first
      | (go_at_call 9; refine (A.out _).mono ?_; rintro e w1 ⟨rfl, p1, rfl⟩)
      | (go_at_call 10; refine (D.out _).mono ?_; rintro e w1 ⟨rfl, p4, rfl⟩))
    all_goals (go_ret; exact ⟨by simp, by repeat (first | exact Below.refl _ _ | refine below_mo ?_ _ | refine below_al ?_ _)⟩)
  | some i =>
    have he := dec_some h1
    have RI := Lib.hid (fun W => rencode_any i (enc_rng he) W)
    rw [he] at RI
    rw [h1] at D
    obtain ⟨i0, i1, i2, i3, i4, i5, i6⟩ := i
    clear h1 he
    simp [insV] at RI D ⊢
    go_enter Try.func4, Try.ntmps4
    go_wp2_with (first
      | (go_at_call 9; refine (A.out _).mono ?_; rintro e w1 ⟨rfl, p1, rfl⟩)
      | (go_at_call 10; refine (D.out _).mono ?_; rintro e w1 ⟨rfl, p4, rfl⟩)
      | (go_at_call 8; refine (RI.out _).mono ?_; rintro e w1 ⟨rfl, p3, rfl⟩))
    all_goals (go_ret; exact ⟨by simp, by repeat (first | exact Below.refl _ _ | refine below_mo ?_ _ | refine below_al ?_ _)⟩)
end Go.Proofs.Ythlnjhchifcghaa
