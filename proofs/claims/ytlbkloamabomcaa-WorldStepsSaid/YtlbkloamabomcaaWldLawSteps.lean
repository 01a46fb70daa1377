/- Walk: the statement WorldSteps. No condition. -/
import Derived.Test.YtlbkloamabomcaaWldLawMaps
namespace Go.Proofs.Ytlbkloamabomcaa
open Go.RowKit Go.Sort
set_option linter.unusedVariables false
set_option linter.unusedSimpArgs false
def elS (s : Int) : Ty 1 := (⟨1, s, false, [], 0, []⟩ : TyF (Ty 0))
def arS (N s : Int) : Ty 2 := (⟨5, 0, false, [], N, [elS s]⟩ : TyF (Ty 1))
def wS (N s : Int) : List (Vr 2) := [⟨⟨#[97]⟩, wT1⟩, ⟨⟨#[98]⟩, arS N s⟩]
def chkS : Bool := (List.range 40).all fun n => ([1, 2, 4, 8] : List Int).all fun s => worldE (wS ((n : Int) + 1) s) == 0
theorem chkS_ok : chkS = true := by kernel_rfl
theorem wS_zero {N s : Int} (h1 : 1 ≤ N) (h2 : N ≤ 40) (hs : s = 1 ∨ s = 2 ∨ s = 4 ∨ s = 8) : worldE (wS N s) = 0 := by
  have h := List.all_eq_true.1 chkS_ok (N - 1).toNat (List.mem_range.2 (by omega))
  have h3 := List.all_eq_true.1 h s (by rcases hs with rfl | rfl | rfl | rfl <;> simp)
  rw [show (((N - 1).toNat : Nat) : Int) + 1 = N by omega] at h3
  simpa using h3
theorem elS_form {s : Int} (hs : s = 1 ∨ s = 2 ∨ s = 4 ∨ s = 8) : (formOf 1 (elS s)).1 = s := by
  rcases hs with rfl | rfl | rfl | rfl <;> kernel_rfl
theorem wS_find {N s : Int} (h1 : 1 ≤ N) (h2 : N ≤ 40) (hs : s = 1 ∨ s = 2 ∨ s = 4 ∨ s = 8) : ∃ A : Int, 0 ≤ A ∧ A ≤ 200000 ∧ ∀ x : Nat, findE (wS N s) ⟨#[98]⟩ [⟨⟨#[]⟩, 1⟩] [x] = if N ≤ x then (14, zeroSp) else (0, ⟨A + x * s, s, 1, false, 0, 0⟩) := by
  have hE := wS_zero h1 h2 hs
  have hv : (wS N s)[1]? = some ⟨⟨#[98]⟩, arS N s⟩ := rfl
  obtain ⟨hc, hw⟩ := start_in hE hv
  refine ⟨_, hw.1, hw.2.1, fun x => ?_⟩
  have hix : ixK (fun v : Vr 2 => nmE v.name ⟨#[98]⟩) (wS N s) = 1 := by kernel_rfl
  have hS : SoundF 2 (arS N s) = 0 := SoundF_of hc
  have hP : placeE (wS N s) ⟨#[98]⟩ [⟨⟨#[]⟩, 1⟩] = (0, some ⟨1, elS s⟩) := by
    unfold placeE
    rw [hix, if_neg (by decide), show ((1 : Int)).toNat = 1 from rfl, hv]
    simp only
    rw [if_neg (by simp [hS])]
    kernel_rfl
  have hst : stepS (show TyF (Ty 1) from arS N s) (startS (wS N s) 1 ⟨⟨#[98]⟩, arS N s⟩) ⟨⟨#[]⟩, 1⟩ [x] = if N ≤ x then none else some (elS s, ⟨(startS (wS N s) 1 ⟨⟨#[98]⟩, arS N s⟩).at_ + x * (formOf 1 (elS s)).1, (formOf 1 (elS s)).1, 0, false, 0, 0⟩, []) := by
    unfold stepS
    rw [if_pos rfl]
    rfl
  unfold findE
  rw [if_neg (by simp [hE]), hP]
  simp only
  rw [if_neg (by rintro ⟨h, _⟩; exact h rfl), if_neg (by simp [cntP]), hix, show ((1 : Int)).toNat = 1 from rfl, hv]
  simp only
  rw [elS_form hs] at hst
  by_cases hx : N ≤ x
  · rw [if_pos hx] at hst ⊢
    rw [findP_none hst]
  · rw [if_neg hx] at hst ⊢
    rw [findP_some hst, findP_nil]
    rfl
theorem wS_at {w : World} {b b2 : Nat} (N s : Int) (hN : rng N) (hs : rng s) (h0 : VrN w b 0 ⟨#[97]⟩ 1 1 0 none 0 0) (h1 : VrN w b 7 ⟨#[98]⟩ 5 0 N (some ⟨b2, 0, none⟩) 1 1) (h2 : TyN w b2 1 s) : VrsAt w (wS N s) (some ⟨b, 0, none⟩) 2 :=
  ⟨by simp [wS], by simp, fun _ => ⟨b, 0, rfl, cell_lt2 h0.1, fun i v hi => by
    match i, hi with
    | 0, hi =>
      cases hi
      obtain ⟨c0, c1, c2, c3, c4, c5, c6⟩ := h0
      exact ⟨⟨1, 1, false, none, 0, 0, 0, none, 0, 0⟩, tNum_at w 1 1 1 (by unfold rng; decide) (by unfold rng; decide), by decide, c0, c1, c2, c3, c4, c5, c6⟩
    | 1, hi =>
      cases hi
      obtain ⟨c0, c1, c2, c3, c4, c5, c6⟩ := h1
      exact ⟨⟨5, 0, false, none, 0, 0, N, some ⟨b2, 0, none⟩, 1, 1⟩, tArr_at N 1 s hN (by unfold rng; decide) hs h2, (by decide : (⟨#[98]⟩ : ByteArray).size ≤ 9223372036854775807), c0, c1, c2, c3, c4, c5, c6⟩
    | i + 2, hi => simp [wS] at hi⟩⟩
set_option maxRecDepth 100000 in
set_option maxHeartbeats 6400000 in
theorem worldSteps_walk (cn sz i j : Nat) (hcn : cn < 256) (hsz : sz < 256) (hi : i < 256) (hj : j < 256) (w : World) : Calls Try.prog 12 #[.int .u8 cn, .int .u8 sz, .int .u8 i, .int .u8 j] w (Gives w (.bool true)) := by
  have AW := Lib.hid awakeW_any
  obtain ⟨N, hN⟩ : ∃ N : Nat, N = cn % 40 + 1 := ⟨_, rfl⟩
  have hs4 : sz % 4 = 0 ∨ sz % 4 = 1 ∨ sz % 4 = 2 ∨ sz % 4 = 3 := by omega
  have hNN : 1 ≤ (N : Int) ∧ (N : Int) ≤ 40 := by omega
  go_enter Try.func12, Try.ntmps12
  go_upto_region 2 with fail
  rw [show ((cn : Int) % 40 + 1) = (N : Int) by omega]
  clear hN
  obtain ⟨s, hs, hz⟩ : ∃ s : Int, (s = 1 ∨ s = 2 ∨ s = 4 ∨ s = 8) ∧ (((sz : Int) % 4 = 0 ∧ s = 1) ∨ ((sz : Int) % 4 = 1 ∧ s = 2) ∨ ((sz : Int) % 4 = 2 ∧ s = 4) ∨ ((sz : Int) % 4 = 3 ∧ s = 8)) := by
    rcases hs4 with h | h | h | h
    · exact ⟨1, .inl rfl, .inl ⟨by omega, rfl⟩⟩
    · exact ⟨2, .inr (.inl rfl), .inr (.inl ⟨by omega, rfl⟩)⟩
    · exact ⟨4, .inr (.inr (.inl rfl)), .inr (.inr (.inl ⟨by omega, rfl⟩))⟩
    · exact ⟨8, .inr (.inr (.inr rfl)), .inr (.inr (.inr ⟨by omega, rfl⟩))⟩
  obtain ⟨A, hA0, hA1, hF⟩ := wS_find hNN.1 hNN.2 hs
  have HF := Lib.hid hF
  have HZ := Lib.hid (wS_zero hNN.1 hNN.2 hs)
  clear hF hs4
  rcases hz with ⟨hm, rfl⟩ | ⟨hm, rfl⟩ | ⟨hm, rfl⟩ | ⟨hm, rfl⟩
  · have hw : wrap64 (2 ^ (sz % 4)) = 1 := by rw [show sz % 4 = 0 by omega]; kernel_rfl
    clear hs hm
    go_upto_region 3 with fail
    rw [hw]
    go_upto_region 5 with fail
    refine wp_letter (R := fun W => VrsAt W (wS N 1) (some ⟨w.heap.size + 1, 0, none⟩) 2 ∧ PtsAt W [⟨⟨#[]⟩, 1⟩] (some ⟨w.heap.size + 1 + 1 + 1, 0, none⟩) 1 ∧ W.cell? ⟨w.heap.size + 1 + 1 + 1 + 1, 0, none⟩ = some (.string ⟨#[98]⟩) ∧ W.cell? ⟨w.heap.size + 1 + 1 + 1 + 1, 1, none⟩ = some (.slice (some ⟨w.heap.size + 1 + 1 + 1, 0, none⟩) 1 1) ∧ Below w.heap.size w W) ?letA ?_
    case letA =>
      refine ⟨wS_at (b2 := w.heap.size) _ _ (by unfold rng; omega) (by unfold rng; decide) ?_ ?_ ?_, pts_one (ia := some ⟨w.heap.size + 1 + 1, 0, none⟩) ?_ ?_, ?_, ?_, ?_⟩
      · unfold VrN; simp [go_sem, ↓IntWalk.iteOmega]
      · unfold VrN; simp [go_sem, ↓IntWalk.iteOmega]
      · unfold TyN; simp [go_sem, ↓IntWalk.iteOmega]
      · simp [go_sem, ↓IntWalk.iteOmega]
      · simp [go_sem, ↓IntWalk.iteOmega]
      · simp [go_sem, ↓IntWalk.iteOmega]
      · simp [go_sem, ↓IntWalk.iteOmega]
      · repeat (first | with_reducible exact Below.refl _ _ | with_reducible refine below_mo ?_ _ | with_reducible refine below_al ?_ _)
    rintro wA ⟨hV, hP, b0, b1, hB⟩
    have HB := Lib.hid hB
    have hbs := hB.size
    have hlB := cell_lt2 b0
    generalize w.heap.size + 1 + 1 + 1 + 1 = PB at *
    generalize w.heap.size + 1 + 1 + 1 = PP at *
    have FD : Hid (∀ W, Below wA.heap.size wA W → ∀ (x Y : Nat), x < 256 → W.cell? ⟨Y, 0, none⟩ = some (.int .u64 x) → Calls Try.prog 24 #[.slice (some ⟨w.heap.size + 1, 0, none⟩) 2 2, .agg #[.string ⟨#[98]⟩, .slice (some ⟨PP, 0, none⟩) 1 1], .slice (some ⟨Y, 0, none⟩) 1 1] W (Gives W (.tuple #[.agg #[.int .i64 (if (N : Int) ≤ x then 0 else A + x * 1), .int .i64 (if (N : Int) ≤ x then 0 else 1), .int .i64 (if (N : Int) ≤ x then 0 else 1), .bool false, .int .i64 0, .int .i64 0], .int .i64 (if (N : Int) ≤ x then 14 else 0)]))) := Lib.hid (fun W hW x Y hx h2 => by
      have := Find_any (wS N 1) (some ⟨w.heap.size + 1, 0, none⟩) 2 W (hV.below hW) (by simp [wS]) ⟨#[98]⟩ [⟨⟨#[]⟩, 1⟩] (some ⟨PP, 0, none⟩) 1 (hP.below hW) [x] (some ⟨Y, 0, none⟩) 1 (ix_one (by omega) h2)
      rw [HF.out x] at this
      by_cases hx : (N : Int) ≤ x
      · simp only [if_pos hx] at this ⊢
        exact this
      · simp only [if_neg hx] at this ⊢
        exact this)
    clear hV hP hB HF HZ
    generalize w.heap.size + 1 = VB at *
    rcases Int.lt_or_le (i : Int) N with hiN | hiN
    all_goals rcases Int.lt_or_le (j : Int) N with hjN | hjN
    all_goals
      have FI := Lib.hid (fun W hW Y hY => FD.out W hW i Y hi hY)
      have FJ := Lib.hid (fun W hW Y hY => FD.out W hW j Y hj hY)
      first | simp only [if_pos hiN] at FI | simp only [if_neg (show ¬ (N : Int) ≤ i by omega)] at FI
      first | simp only [if_pos hjN] at FJ | simp only [if_neg (show ¬ (N : Int) ≤ j by omega)] at FJ
      go_upto_region 6 with (go_at_call 24; refine (FI.out _ (by repeat (first | with_reducible exact Below.refl _ _ | with_reducible refine below_al ?_ _ | with_reducible refine below_mo ?_ _)) _ (by simp [go_sem, ↓IntWalk.iteOmega])).mono ?_; rintro e w2 ⟨rfl, p2, rfl⟩)
      go_wp2_with (first
        | (go_at_call 24; refine (FJ.out _ (by repeat (first | with_reducible exact Below.refl _ _ | with_reducible refine below_al ?_ _ | with_reducible refine below_mo ?_ _)) _ (by simp [go_sem, ↓IntWalk.iteOmega])).mono ?_; rintro e w2 ⟨rfl, p3, rfl⟩)
        | (go_at_call 23; refine (AW.out _).mono ?_; rintro e w1 ⟨rfl, p4, rfl⟩))
      go_ret
      exact Gives.mk (by first | rfl | (simp; done) | (simp; omega)) (by repeat (first | with_reducible exact HB.out | with_reducible refine below_mo ?_ _ | with_reducible refine below_al ?_ _))
  · have hw : wrap64 (2 ^ (sz % 4)) = 2 := by rw [show sz % 4 = 1 by omega]; kernel_rfl
    clear hs hm
    go_upto_region 3 with fail
    rw [hw]
    go_upto_region 5 with fail
    refine wp_letter (R := fun W => VrsAt W (wS N 2) (some ⟨w.heap.size + 1, 0, none⟩) 2 ∧ PtsAt W [⟨⟨#[]⟩, 1⟩] (some ⟨w.heap.size + 1 + 1 + 1, 0, none⟩) 1 ∧ W.cell? ⟨w.heap.size + 1 + 1 + 1 + 1, 0, none⟩ = some (.string ⟨#[98]⟩) ∧ W.cell? ⟨w.heap.size + 1 + 1 + 1 + 1, 1, none⟩ = some (.slice (some ⟨w.heap.size + 1 + 1 + 1, 0, none⟩) 1 1) ∧ Below w.heap.size w W) ?letA ?_
    case letA =>
      refine ⟨wS_at (b2 := w.heap.size) _ _ (by unfold rng; omega) (by unfold rng; decide) ?_ ?_ ?_, pts_one (ia := some ⟨w.heap.size + 1 + 1, 0, none⟩) ?_ ?_, ?_, ?_, ?_⟩
      · unfold VrN; simp [go_sem, ↓IntWalk.iteOmega]
      · unfold VrN; simp [go_sem, ↓IntWalk.iteOmega]
      · unfold TyN; simp [go_sem, ↓IntWalk.iteOmega]
      · simp [go_sem, ↓IntWalk.iteOmega]
      · simp [go_sem, ↓IntWalk.iteOmega]
      · simp [go_sem, ↓IntWalk.iteOmega]
      · simp [go_sem, ↓IntWalk.iteOmega]
      · repeat (first | with_reducible exact Below.refl _ _ | with_reducible refine below_mo ?_ _ | with_reducible refine below_al ?_ _)
    rintro wA ⟨hV, hP, b0, b1, hB⟩
    have HB := Lib.hid hB
    have hbs := hB.size
    have hlB := cell_lt2 b0
    generalize w.heap.size + 1 + 1 + 1 + 1 = PB at *
    generalize w.heap.size + 1 + 1 + 1 = PP at *
    have FD : Hid (∀ W, Below wA.heap.size wA W → ∀ (x Y : Nat), x < 256 → W.cell? ⟨Y, 0, none⟩ = some (.int .u64 x) → Calls Try.prog 24 #[.slice (some ⟨w.heap.size + 1, 0, none⟩) 2 2, .agg #[.string ⟨#[98]⟩, .slice (some ⟨PP, 0, none⟩) 1 1], .slice (some ⟨Y, 0, none⟩) 1 1] W (Gives W (.tuple #[.agg #[.int .i64 (if (N : Int) ≤ x then 0 else A + x * 2), .int .i64 (if (N : Int) ≤ x then 0 else 2), .int .i64 (if (N : Int) ≤ x then 0 else 1), .bool false, .int .i64 0, .int .i64 0], .int .i64 (if (N : Int) ≤ x then 14 else 0)]))) := Lib.hid (fun W hW x Y hx h2 => by
      have := Find_any (wS N 2) (some ⟨w.heap.size + 1, 0, none⟩) 2 W (hV.below hW) (by simp [wS]) ⟨#[98]⟩ [⟨⟨#[]⟩, 1⟩] (some ⟨PP, 0, none⟩) 1 (hP.below hW) [x] (some ⟨Y, 0, none⟩) 1 (ix_one (by omega) h2)
      rw [HF.out x] at this
      by_cases hx : (N : Int) ≤ x
      · simp only [if_pos hx] at this ⊢
        exact this
      · simp only [if_neg hx] at this ⊢
        exact this)
    clear hV hP hB HF HZ
    generalize w.heap.size + 1 = VB at *
    rcases Int.lt_or_le (i : Int) N with hiN | hiN
    all_goals rcases Int.lt_or_le (j : Int) N with hjN | hjN
    all_goals
      have FI := Lib.hid (fun W hW Y hY => FD.out W hW i Y hi hY)
      have FJ := Lib.hid (fun W hW Y hY => FD.out W hW j Y hj hY)
      first | simp only [if_pos hiN] at FI | simp only [if_neg (show ¬ (N : Int) ≤ i by omega)] at FI
      first | simp only [if_pos hjN] at FJ | simp only [if_neg (show ¬ (N : Int) ≤ j by omega)] at FJ
      go_upto_region 6 with (go_at_call 24; refine (FI.out _ (by repeat (first | with_reducible exact Below.refl _ _ | with_reducible refine below_al ?_ _ | with_reducible refine below_mo ?_ _)) _ (by simp [go_sem, ↓IntWalk.iteOmega])).mono ?_; rintro e w2 ⟨rfl, p2, rfl⟩)
      go_wp2_with (first
        | (go_at_call 24; refine (FJ.out _ (by repeat (first | with_reducible exact Below.refl _ _ | with_reducible refine below_al ?_ _ | with_reducible refine below_mo ?_ _)) _ (by simp [go_sem, ↓IntWalk.iteOmega])).mono ?_; rintro e w2 ⟨rfl, p3, rfl⟩)
        | (go_at_call 23; refine (AW.out _).mono ?_; rintro e w1 ⟨rfl, p4, rfl⟩))
      go_ret
      exact Gives.mk (by first | rfl | (simp; done) | (simp; omega)) (by repeat (first | with_reducible exact HB.out | with_reducible refine below_mo ?_ _ | with_reducible refine below_al ?_ _))
  · have hw : wrap64 (2 ^ (sz % 4)) = 4 := by rw [show sz % 4 = 2 by omega]; kernel_rfl
    clear hs hm
    go_upto_region 3 with fail
    rw [hw]
    go_upto_region 5 with fail
    refine wp_letter (R := fun W => VrsAt W (wS N 4) (some ⟨w.heap.size + 1, 0, none⟩) 2 ∧ PtsAt W [⟨⟨#[]⟩, 1⟩] (some ⟨w.heap.size + 1 + 1 + 1, 0, none⟩) 1 ∧ W.cell? ⟨w.heap.size + 1 + 1 + 1 + 1, 0, none⟩ = some (.string ⟨#[98]⟩) ∧ W.cell? ⟨w.heap.size + 1 + 1 + 1 + 1, 1, none⟩ = some (.slice (some ⟨w.heap.size + 1 + 1 + 1, 0, none⟩) 1 1) ∧ Below w.heap.size w W) ?letA ?_
    case letA =>
      refine ⟨wS_at (b2 := w.heap.size) _ _ (by unfold rng; omega) (by unfold rng; decide) ?_ ?_ ?_, pts_one (ia := some ⟨w.heap.size + 1 + 1, 0, none⟩) ?_ ?_, ?_, ?_, ?_⟩
      · unfold VrN; simp [go_sem, ↓IntWalk.iteOmega]
      · unfold VrN; simp [go_sem, ↓IntWalk.iteOmega]
      · unfold TyN; simp [go_sem, ↓IntWalk.iteOmega]
      · simp [go_sem, ↓IntWalk.iteOmega]
      · simp [go_sem, ↓IntWalk.iteOmega]
      · simp [go_sem, ↓IntWalk.iteOmega]
      · simp [go_sem, ↓IntWalk.iteOmega]
      · repeat (first | with_reducible exact Below.refl _ _ | with_reducible refine below_mo ?_ _ | with_reducible refine below_al ?_ _)
    rintro wA ⟨hV, hP, b0, b1, hB⟩
    have HB := Lib.hid hB
    have hbs := hB.size
    have hlB := cell_lt2 b0
    generalize w.heap.size + 1 + 1 + 1 + 1 = PB at *
    generalize w.heap.size + 1 + 1 + 1 = PP at *
    have FD : Hid (∀ W, Below wA.heap.size wA W → ∀ (x Y : Nat), x < 256 → W.cell? ⟨Y, 0, none⟩ = some (.int .u64 x) → Calls Try.prog 24 #[.slice (some ⟨w.heap.size + 1, 0, none⟩) 2 2, .agg #[.string ⟨#[98]⟩, .slice (some ⟨PP, 0, none⟩) 1 1], .slice (some ⟨Y, 0, none⟩) 1 1] W (Gives W (.tuple #[.agg #[.int .i64 (if (N : Int) ≤ x then 0 else A + x * 4), .int .i64 (if (N : Int) ≤ x then 0 else 4), .int .i64 (if (N : Int) ≤ x then 0 else 1), .bool false, .int .i64 0, .int .i64 0], .int .i64 (if (N : Int) ≤ x then 14 else 0)]))) := Lib.hid (fun W hW x Y hx h2 => by
      have := Find_any (wS N 4) (some ⟨w.heap.size + 1, 0, none⟩) 2 W (hV.below hW) (by simp [wS]) ⟨#[98]⟩ [⟨⟨#[]⟩, 1⟩] (some ⟨PP, 0, none⟩) 1 (hP.below hW) [x] (some ⟨Y, 0, none⟩) 1 (ix_one (by omega) h2)
      rw [HF.out x] at this
      by_cases hx : (N : Int) ≤ x
      · simp only [if_pos hx] at this ⊢
        exact this
      · simp only [if_neg hx] at this ⊢
        exact this)
    clear hV hP hB HF HZ
    generalize w.heap.size + 1 = VB at *
    rcases Int.lt_or_le (i : Int) N with hiN | hiN
    all_goals rcases Int.lt_or_le (j : Int) N with hjN | hjN
    all_goals
      have FI := Lib.hid (fun W hW Y hY => FD.out W hW i Y hi hY)
      have FJ := Lib.hid (fun W hW Y hY => FD.out W hW j Y hj hY)
      first | simp only [if_pos hiN] at FI | simp only [if_neg (show ¬ (N : Int) ≤ i by omega)] at FI
      first | simp only [if_pos hjN] at FJ | simp only [if_neg (show ¬ (N : Int) ≤ j by omega)] at FJ
      go_upto_region 6 with (go_at_call 24; refine (FI.out _ (by repeat (first | with_reducible exact Below.refl _ _ | with_reducible refine below_al ?_ _ | with_reducible refine below_mo ?_ _)) _ (by simp [go_sem, ↓IntWalk.iteOmega])).mono ?_; rintro e w2 ⟨rfl, p2, rfl⟩)
      go_wp2_with (first
        | (go_at_call 24; refine (FJ.out _ (by repeat (first | with_reducible exact Below.refl _ _ | with_reducible refine below_al ?_ _ | with_reducible refine below_mo ?_ _)) _ (by simp [go_sem, ↓IntWalk.iteOmega])).mono ?_; rintro e w2 ⟨rfl, p3, rfl⟩)
        | (go_at_call 23; refine (AW.out _).mono ?_; rintro e w1 ⟨rfl, p4, rfl⟩))
      go_ret
      exact Gives.mk (by first | rfl | (simp; done) | (simp; omega)) (by repeat (first | with_reducible exact HB.out | with_reducible refine below_mo ?_ _ | with_reducible refine below_al ?_ _))
  · have hw : wrap64 (2 ^ (sz % 4)) = 8 := by rw [show sz % 4 = 3 by omega]; kernel_rfl
    clear hs hm
    go_upto_region 3 with fail
    rw [hw]
    go_upto_region 5 with fail
    refine wp_letter (R := fun W => VrsAt W (wS N 8) (some ⟨w.heap.size + 1, 0, none⟩) 2 ∧ PtsAt W [⟨⟨#[]⟩, 1⟩] (some ⟨w.heap.size + 1 + 1 + 1, 0, none⟩) 1 ∧ W.cell? ⟨w.heap.size + 1 + 1 + 1 + 1, 0, none⟩ = some (.string ⟨#[98]⟩) ∧ W.cell? ⟨w.heap.size + 1 + 1 + 1 + 1, 1, none⟩ = some (.slice (some ⟨w.heap.size + 1 + 1 + 1, 0, none⟩) 1 1) ∧ Below w.heap.size w W) ?letA ?_
    case letA =>
      refine ⟨wS_at (b2 := w.heap.size) _ _ (by unfold rng; omega) (by unfold rng; decide) ?_ ?_ ?_, pts_one (ia := some ⟨w.heap.size + 1 + 1, 0, none⟩) ?_ ?_, ?_, ?_, ?_⟩
      · unfold VrN; simp [go_sem, ↓IntWalk.iteOmega]
      · unfold VrN; simp [go_sem, ↓IntWalk.iteOmega]
      · unfold TyN; simp [go_sem, ↓IntWalk.iteOmega]
      · simp [go_sem, ↓IntWalk.iteOmega]
      · simp [go_sem, ↓IntWalk.iteOmega]
      · simp [go_sem, ↓IntWalk.iteOmega]
      · simp [go_sem, ↓IntWalk.iteOmega]
      · repeat (first | with_reducible exact Below.refl _ _ | with_reducible refine below_mo ?_ _ | with_reducible refine below_al ?_ _)
    rintro wA ⟨hV, hP, b0, b1, hB⟩
    have HB := Lib.hid hB
    have hbs := hB.size
    have hlB := cell_lt2 b0
    generalize w.heap.size + 1 + 1 + 1 + 1 = PB at *
    generalize w.heap.size + 1 + 1 + 1 = PP at *
    have FD : Hid (∀ W, Below wA.heap.size wA W → ∀ (x Y : Nat), x < 256 → W.cell? ⟨Y, 0, none⟩ = some (.int .u64 x) → Calls Try.prog 24 #[.slice (some ⟨w.heap.size + 1, 0, none⟩) 2 2, .agg #[.string ⟨#[98]⟩, .slice (some ⟨PP, 0, none⟩) 1 1], .slice (some ⟨Y, 0, none⟩) 1 1] W (Gives W (.tuple #[.agg #[.int .i64 (if (N : Int) ≤ x then 0 else A + x * 8), .int .i64 (if (N : Int) ≤ x then 0 else 8), .int .i64 (if (N : Int) ≤ x then 0 else 1), .bool false, .int .i64 0, .int .i64 0], .int .i64 (if (N : Int) ≤ x then 14 else 0)]))) := Lib.hid (fun W hW x Y hx h2 => by
      have := Find_any (wS N 8) (some ⟨w.heap.size + 1, 0, none⟩) 2 W (hV.below hW) (by simp [wS]) ⟨#[98]⟩ [⟨⟨#[]⟩, 1⟩] (some ⟨PP, 0, none⟩) 1 (hP.below hW) [x] (some ⟨Y, 0, none⟩) 1 (ix_one (by omega) h2)
      rw [HF.out x] at this
      by_cases hx : (N : Int) ≤ x
      · simp only [if_pos hx] at this ⊢
        exact this
      · simp only [if_neg hx] at this ⊢
        exact this)
    clear hV hP hB HF HZ
    generalize w.heap.size + 1 = VB at *
    rcases Int.lt_or_le (i : Int) N with hiN | hiN
    all_goals rcases Int.lt_or_le (j : Int) N with hjN | hjN
    all_goals
      have FI := Lib.hid (fun W hW Y hY => FD.out W hW i Y hi hY)
      have FJ := Lib.hid (fun W hW Y hY => FD.out W hW j Y hj hY)
      first | simp only [if_pos hiN] at FI | simp only [if_neg (show ¬ (N : Int) ≤ i by omega)] at FI
      first | simp only [if_pos hjN] at FJ | simp only [if_neg (show ¬ (N : Int) ≤ j by omega)] at FJ
      go_upto_region 6 with (go_at_call 24; refine (FI.out _ (by repeat (first | with_reducible exact Below.refl _ _ | with_reducible refine below_al ?_ _ | with_reducible refine below_mo ?_ _)) _ (by simp [go_sem, ↓IntWalk.iteOmega])).mono ?_; rintro e w2 ⟨rfl, p2, rfl⟩)
      go_wp2_with (first
        | (go_at_call 24; refine (FJ.out _ (by repeat (first | with_reducible exact Below.refl _ _ | with_reducible refine below_al ?_ _ | with_reducible refine below_mo ?_ _)) _ (by simp [go_sem, ↓IntWalk.iteOmega])).mono ?_; rintro e w2 ⟨rfl, p3, rfl⟩)
        | (go_at_call 23; refine (AW.out _).mono ?_; rintro e w1 ⟨rfl, p4, rfl⟩))
      go_ret
      exact Gives.mk (by first | rfl | (simp; done) | (simp; omega)) (by repeat (first | with_reducible exact HB.out | with_reducible refine below_mo ?_ _ | with_reducible refine below_al ?_ _))
end Go.Proofs.Ytlbkloamabomcaa
