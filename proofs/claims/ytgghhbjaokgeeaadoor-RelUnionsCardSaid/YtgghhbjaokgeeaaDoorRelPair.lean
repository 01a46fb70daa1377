/- Walks: whether a pair is in it; one pair more. Conditions: numbers fit. -/
import Derived.Test.YtgghhbjaokgeeaaDoorRelClean
import Derived.Test.YtgghhbjaokgeeaaDoorQuietTail
namespace Go.Proofs.YtgghhbjaokgeeaaDoor
open Go.RowKit Go.Sort Go.Lib
set_option linter.unusedVariables false
set_option linter.unusedSimpArgs false
def hasB (len : Nat) (r : Nat → Nat) (a b : Int) : Bool := decide (0 ≤ a ∧ 0 ≤ b) && onF len r a.toNat b.toNat
theorem bit_key (x k : Nat) (hx : x < 18446744073709551616) : bits .and .u64 ((x : Int) / 2 ^ k) 1 = (((x.testBit k).toNat : Nat) : Int) := by
  have e : (x : Int) / 2 ^ k = ((x / 2 ^ k : Nat) : Int) := by rw [Int.natCast_ediv]; simp
  have h := u64_and_nat (x / 2 ^ k) 1 (Nat.lt_of_le_of_lt (Nat.div_le_self _ _) hx) (by decide)
  rw [e]
  refine h.trans ?_
  congr 1
  rw [Nat.and_one_is_mod, Nat.testBit_eq_decide_div_mod_eq]
  have := Nat.mod_two_eq_zero_or_one (x / 2 ^ k)
  rcases this with h | h <;> rw [h] <;> rfl
theorem bit_one {x k : Nat} (hx : x < 18446744073709551616) (h : x.testBit k = true) : bits .and .u64 ((x : Int) / 2 ^ k) 1 = 1 := by rw [bit_key x k hx, h]; rfl
theorem bit_zero {x k : Nat} (hx : x < 18446744073709551616) (h : x.testBit k = false) : bits .and .u64 ((x : Int) / 2 ^ k) 1 = 0 := by rw [bit_key x k hx, h]; rfl
theorem has_any (v : Value) (len : Nat) (r : Nat → Nat) (a b : Int) (w : World) (h : Sl w v len r) :
    Calls Tryd.prog 12 #[v, .int .i64 a, .int .i64 b] w fun e w' => e = .returned (.bool (hasB len r a b)) ∧ w = w' := by
  have IN := Lib.hid (in_any v len r a b w h)
  obtain ⟨A, X, off, cap, rfl, hA, hc, hm, hcell, hr⟩ := h
  by_cases hin : 0 ≤ a ∧ a < sz len ∧ 0 ≤ b ∧ b < sz len
  · rw [decide_eq_true hin] at IN
    obtain ⟨h1, h2, h3, h4⟩ := hin
    obtain ⟨i, rfl⟩ := Int.eq_ofNat_of_zero_le h1
    obtain ⟨k, rfl⟩ := Int.eq_ofNat_of_zero_le h3
    have hl := sz_len len
    have h64 := sz_le len
    obtain rfl := hA (by omega)
    have c1 := hcell i (by omega)
    have e1 : hasB len r i k = (r i).testBit k := by
      unfold hasB onF
      simp [h1, h3, show i < sz len by omega, show k < sz len by omega]
    rw [e1]
    have hXs := cell_lt2 c1
    have hk64 : k < 64 := by omega
    have hil : i < len := by omega
    have K1 := @bit_one (r i) k (hr i)
    have K0 := @bit_zero (r i) k (hr i)
    clear hcell hA h2 h4 e1 hr
    generalize r i = x at *
    cases hb : x.testBit k with
    | true =>
      have key := K1 hb
      clear K1 K0 hb
      go_enter Tryd.func12, Tryd.ntmps12
      go_wp2_with (first | (go_at_call 29; refine (IN.out).mono ?_; rintro e w1 ⟨rfl, rfl⟩) | (simp only [key]))
      go_ret
      exact ⟨rfl, rfl⟩
    | false =>
      have key := K0 hb
      clear K1 K0 hb
      go_enter Tryd.func12, Tryd.ntmps12
      go_wp2_with (first | (go_at_call 29; refine (IN.out).mono ?_; rintro e w1 ⟨rfl, rfl⟩) | (simp only [key]))
      go_ret
      exact ⟨rfl, rfl⟩
  · rw [decide_eq_false hin] at IN
    have e1 : hasB len r a b = false := by
      unfold hasB onF
      by_cases h0 : 0 ≤ a ∧ 0 ≤ b
      · simp [h0]
        intro h5 h6
        exact absurd ⟨h0.1, by omega, h0.2, by omega⟩ hin
      · simp [h0]
    rw [e1]
    clear hin e1
    go_enter Tryd.func12, Tryd.ntmps12
    go_wp2_with (go_at_call 29; refine (IN.out).mono ?_; rintro e w1 ⟨rfl, rfl⟩)
    go_ret
    exact ⟨rfl, rfl⟩
theorem or_key (x k : Nat) (hx : x < 18446744073709551616) (hk : k < 64) : bits .or .u64 (x : Int) (IntKind.u64.wrap (2 ^ k)) = ((x ||| 2 ^ k : Nat) : Int) := by
  have h3 : 2 ^ k ≤ 2 ^ 63 := Nat.pow_le_pow_right (by decide) (by omega)
  have e : IntKind.u64.wrap (2 ^ k) = ((2 ^ k : Nat) : Int) := by
    rw [IntKind.wrap_u64]
    have : ((2 : Int) ^ k) = ((2 ^ k : Nat) : Int) := by simp
    rw [this]
    generalize 2 ^ k = t at *
    omega
  rw [e]
  exact u64_or_nat _ _ hx (by omega)
set_option maxHeartbeats 1000000 in
theorem pair_any (v : Value) (len : Nat) (r : Nat → Nat) (a b : Int) (w : World) (h : Sl w v len r) :
    Calls Tryd.prog 17 #[v, .int .i64 a, .int .i64 b] w (GivesRows w (sz len) (pairF (onF len r) a b (sz len))) := by
  have IN := Lib.hid (fun W (hb : Below w.heap.size w W) => in_any v len r a b W (h.below hb))
  have SZ := Lib.hid (fun W (hb : Below w.heap.size w W) => size_any v len r W (h.below hb))
  have CL := Lib.hid (fun W (hb : Below w.heap.size w W) => clean_any v len r (sz len) (Nat.le_refl _) (sz_le len) W (h.below hb))
  have h64 := sz_le len
  have hon := fun i k h => @onF_out len r i k h
  clear h
  generalize onF len r = f at *
  generalize sz len = n at *
  by_cases hin : 0 ≤ a ∧ a < n ∧ 0 ≤ b ∧ b < n
  · rw [decide_eq_true hin] at IN
    obtain ⟨h1, h2, h3, h4⟩ := hin
    obtain ⟨i, rfl⟩ := Int.eq_ofNat_of_zero_le h1
    obtain ⟨k, rfl⟩ := Int.eq_ofNat_of_zero_le h3
    have hk64 : k < 64 := by omega
    have key := Lib.hid (or_key (rowN n (f i)) k (rowN_64 h64 _) hk64)
    have HV : Hid (∀ j, j < n → (if j = i then rowN n (f i) ||| 2 ^ k else rowN n (f j)) = rowN n (pairF f i k n j)) := Lib.hid (fun j hj => by
      by_cases e : j = i
      · subst e
        rw [if_pos rfl]
        refine row_eq fun t => ?_
        rw [Nat.testBit_or, rowN_tb, Nat.testBit_two_pow]
        unfold pairF
        by_cases e2 : k = t
        · subst e2
          simp [show k < n by omega, h1, h3, show j < n by omega]
        · simp [e2, show ¬ (t : Int) = k by omega]
      · rw [if_neg e]
        refine rowN_congr fun t _ => ?_
        unfold pairF
        simp [show ¬ (j : Int) = i by omega])
    go_enter Tryd.func17, Tryd.ntmps17
    go_upto_region 3 with (first
      | (go_at_call 31; refine (SZ.out _ (Below.refl _ _)).mono ?_; rintro e w1 ⟨rfl, rfl⟩)
      | (go_at_call 30; refine (CL.out _ (Below.refl _ _)).mono ?_; rintro e w1 ⟨g, rfl, ⟨p1, rfl⟩, hg1, hg2, hrow⟩)
      | (go_at_call 29; refine (IN.out _ (more_below _ _)).mono ?_; rintro e w1 ⟨rfl, rfl⟩))
    have HR := Lib.hid hrow
    obtain ⟨d1, d2⟩ := hrow i (by omega)
    have HB := Lib.hid (more_below w p1)
    generalize more w p1 = wA at *
    have hk2 := key.out
    clear hrow
    refine wp_tail_more 8 (by kernel_rfl) (by kernel_rfl) ?_
    simp only [List.take_succ_cons, List.take_zero, List.drop_succ_cons, List.drop_zero]
    repeat (go_big_quiet_step (fail))
    refine wpQuiet_nil ?_
    intro p
    go_wp2_with (simp only [hk2])
    go_ret
    refine ⟨g, rfl, more_of_below (below_mo (below_st HB.out (p := ⟨g, i, none⟩) hg1 _) p), hg1, ?_, ?_⟩
    · rw [more_size]
      simp
      omega
    · refine ((HR.out.set i (by omega) _).more p).congr fun j hj => ?_
      exact HV.out j hj
  · rw [decide_eq_false hin] at IN
    have HV : Hid (∀ j, j < n → rowN n (f j) = rowN n (pairF f a b n j)) := Lib.hid (fun j hj => rowN_congr fun t _ => by
      unfold pairF
      rw [decide_eq_false hin]
      simp)
    clear hin
    go_enter Tryd.func17, Tryd.ntmps17
    go_wp2_with (first
      | (go_at_call 31; refine (SZ.out _ (Below.refl _ _)).mono ?_; rintro e w1 ⟨rfl, rfl⟩)
      | (go_at_call 30; refine (CL.out _ (Below.refl _ _)).mono ?_; rintro e w1 ⟨g, rfl, ⟨p1, rfl⟩, hg1, hg2, hrow⟩)
      | (go_at_call 29; refine (IN.out _ (more_below _ _)).mono ?_; rintro e w1 ⟨rfl, rfl⟩))
    go_ret
    exact ⟨g, rfl, ⟨p1, rfl⟩, hg1, hg2, hrow.congr HV.out⟩
end Go.Proofs.YtgghhbjaokgeeaaDoor
