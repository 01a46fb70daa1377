/- Walk: whether it orders some things. Conditions: numbers fit; the library's table is laid. -/
import Derived.Test.YtgghhbjaokgeeaaDoorRelPlus
import Derived.Test.YtgghhbjaokgeeaaDoorRelThen
namespace Go.Proofs.YtgghhbjaokgeeaaDoor
open Go.RowKit Go.Sort Go.Lib
set_option linter.unusedVariables false
set_option linter.unusedSimpArgs false
/-- it tells whether P. -/
def GivesB (w : World) (P : Prop) (e : Ending) (w' : World) : Prop := ∃ b : Bool, e = .returned (.bool b) ∧ (b = true ↔ P) ∧ ∃ p : Regrown, w' = more w p
theorem GivesB.yes {w w' : World} {P : Prop} (h : P) (hb : Below w.heap.size w w') : GivesB w P (.returned (.bool true)) w' := ⟨true, rfl, by simp [h], more_of_below hb⟩
theorem GivesB.no {w w' : World} {P : Prop} (h : ¬ P) (hb : Below w.heap.size w w') : GivesB w P (.returned (.bool false)) w' := ⟨false, rfl, by simp [h], more_of_below hb⟩
def LineP (n : Nat) (q : Nat → Nat → Bool) (s : Nat → Bool) : Prop :=
  (∀ i, i < n → s i = true → ∀ k, k ≤ i → s k = true → (i = k → q i i = false) ∧ (i ≠ k → q i k ≠ q k i)) ∧ ∀ i, i < n → ∀ k, k < n → thenF n q q i k = true → q i k = true
theorem hasB_rows {n : Nat} (hn : n ≤ 64) (q : Nat → Nat → Bool) (i k : Nat) (hi : i < n) (hk : k < n) : hasB n (fun i => rowN n (q i)) i k = q i k := by
  unfold hasB
  rw [Int.toNat_natCast, Int.toNat_natCast, onF_rows hn]
  simp [hi, hk]
theorem not_key (n : Nat) (hn : n ≤ 64) (a b : Nat → Bool) : ∃ y : Nat, bits .andNot .u64 ((rowN n a : Nat) : Int) ((rowN n b : Nat) : Int) = (y : Int) ∧ (y = 0 ↔ ∀ k, k < n → a k = true → b k = true) := by
  refine ⟨_, u64_andNot_nat _ _ (rowN_64 hn _) (rowN_64 hn _), ?_⟩
  constructor
  · intro h k hk ha
    have := congrArg (fun x => x.testBit k) h
    simp only [Nat.testBit_and, tb_not _ _ (rowN_64 hn b), rowN_tb, hk, ha, Nat.zero_testBit, decide_true, Bool.true_and, show decide (k < 64) = true by simp; omega] at this
    cases hb : b k with
    | true => rfl
    | false => rw [hb] at this; cases this
  · intro h
    apply Nat.eq_of_testBit_eq
    intro k
    simp only [Nat.testBit_and, tb_not _ _ (rowN_64 hn b), rowN_tb, Nat.zero_testBit]
    by_cases hk : k < n
    · cases ha : a k with
      | false => simp
      | true => rw [h k hk ha]; simp [hk]
    · simp [hk]
set_option maxHeartbeats 1000000 in
theorem line_any (v : Value) (len : Nat) (r : Nat → Nat) (st : Nat) (hst : st < 18446744073709551616) (w : World) (h : Sl w v len r) (hT : Tab w) :
    Calls Tryd.prog 27 #[v, .int .u64 st] w (GivesB w (LineP (sz len) (onlyF (onF len r) (st &&& (2 ^ sz len - 1)) (st &&& (2 ^ sz len - 1))) (fun i => decide (i < sz len) && st.testBit i))) := by
  have h64 := sz_le len
  have h2 : 2 ^ sz len ≤ 2 ^ 64 := Nat.pow_le_pow_right (by decide) h64
  have h3 : 0 < 2 ^ sz len := Nat.two_pow_pos _
  obtain ⟨s2, hs2⟩ : ∃ s2, s2 = st &&& (2 ^ sz len - 1) := ⟨_, rfl⟩
  have hs64 : s2 < 18446744073709551616 := by rw [hs2]; exact Nat.lt_of_le_of_lt Nat.and_le_left hst
  have hsb : ∀ i, s2.testBit i = (decide (i < sz len) && st.testBit i) := fun i => by
    rw [hs2, Nat.testBit_and, Nat.testBit_two_pow_sub_one, Bool.and_comm]
  have hfun : (fun i => decide (i < sz len) && st.testBit i) = fun i => s2.testBit i := by funext i; rw [hsb]
  rw [hfun, ← hs2]
  have SZ := Lib.hid (size_any v len r w h)
  have ON := Lib.hid (only_any v len r s2 s2 hs64 hs64 w h)
  have AL := Lib.hid (all_any (sz len) h64 w)
  have KM : bits .and .u64 (st : Int) ((2 ^ sz len - 1 : Nat) : Int) = (s2 : Int) := by rw [u64_and_nat _ _ hst (by omega), hs2]
  have HT := Lib.hid hT
  clear h hT hs2 hsb hfun h2 h3
  generalize onlyF (onF len r) s2 s2 = q at *
  generalize sz len = n at *
  have B1 := Lib.hid (fun k => @bit_one s2 k hs64)
  have B0 := Lib.hid (fun k => @bit_zero s2 k hs64)
  generalize hsf : (fun i => s2.testBit i) = s at *
  have hsf2 : ∀ i, s2.testBit i = s i := fun i => by rw [← hsf]
  replace hsf2 := Lib.hid hsf2
  clear hsf
  go_enter Tryd.func27, Tryd.ntmps27
  go_upto_region 3 with (first
    | (go_at_call 31; refine (SZ.out).mono ?_; rintro e w1 ⟨rfl, rfl⟩)
    | (go_at_call 33; refine (AL.out).mono ?_; rintro e w1 ⟨rfl, rfl⟩; simp only [KM])
    | (go_at_call 20; refine (ON.out).mono ?_; rintro e w1 ⟨g, rfl, ⟨p1, rfl⟩, hg1, hg2, hrow⟩))
  have HR := Lib.hid hrow
  have HB := Lib.hid (more_below w p1)
  have HTA := Lib.hid (HT.out.below HB.out)
  have HSL := Lib.hid (hrow.sl h64)
  clear hrow SZ ON AL KM HT
  generalize more w p1 = wA at *
  have HH := Lib.hid (fun (i k : Nat) (hi : i < n) (hk : k < n) => (show Calls Tryd.prog 12 #[.slice (some ⟨g, 0, none⟩) n n, .int .i64 i, .int .i64 k] wA fun e w' => e = .returned (.bool (q i k)) ∧ wA = w' from by
    have := has_any _ n _ i k wA HSL.out
    rw [hasB_rows h64 q i k hi hk] at this
    exact this))
  go_wp2_with fail
  go_loopw [21] (fun v21 wr => ∃ i : Nat, i ≤ n ∧ v21 = .int .i64 i ∧ wA = wr ∧ ∀ j, j < i → s j = true → ∀ k, k ≤ j → s k = true → (j = k → q j j = false) ∧ (j ≠ k → q j k ≠ q k j)) (fun v21 _ => n - (intOf v21).toNat)
  case atStart => exact ⟨0, by omega, rfl, rfl, fun j hj => by omega⟩
  case round =>
    obtain ⟨i, hi, rfl, rfl, hq⟩ := hrel
    have HQ := Lib.hid hq
    clear hq
    by_cases hlt : (i : Int) < n
    · have hi64 : i < 64 := by omega
      cases hb : s i with
      | false =>
        have key := B0.out i (by rw [hsf2.out]; exact hb)
        have HS : Hid (∀ j, j < i + 1 → s j = true → ∀ k, k ≤ j → s k = true → (j = k → q j j = false) ∧ (j ≠ k → q j k ≠ q k j)) := Lib.hid (fun j hj h1 => by
          by_cases e : j = i
          · subst e; rw [hb] at h1; cases h1
          · exact HQ.out j (by omega) h1)
        clear hb
        go_wp2_with (first | simp only [key])
        go_roundw
        case rel => exact ⟨i + 1, by omega, by go_num, trivial, HS.out⟩
        case measure => simp [intOf]; omega
      | true =>
        have key := B1.out i (by rw [hsf2.out]; exact hb)
        have hsi := Lib.hid hb
        clear hb
        go_wp2_with (first | simp only [key])
        go_loopw [34] (fun v34 wr => ∃ k : Nat, k ≤ i + 1 ∧ v34 = .int .i64 k ∧ wA = wr ∧ ∀ t, t < k → s t = true → (i = t → q i i = false) ∧ (i ≠ t → q i t ≠ q t i)) (fun v34 _ => i + 1 - (intOf v34).toNat)
        case atStart => exact ⟨0, by omega, rfl, rfl, fun j hj => by omega⟩
        case round =>
          obtain ⟨k, hk, rfl, rfl, hq⟩ := hrel
          have HQ2 := Lib.hid hq
          clear hq
          by_cases hlt2 : (k : Int) < i + 1
          · have hk64 : k < 64 := by omega
            cases hb2 : s k with
            | false =>
              have key2 := B0.out k (by rw [hsf2.out]; exact hb2)
              have HS : Hid (∀ t, t < k + 1 → s t = true → (i = t → q i i = false) ∧ (i ≠ t → q i t ≠ q t i)) := Lib.hid (fun j hj h1 => by
                by_cases e : j = k
                · subst e; rw [hb2] at h1; cases h1
                · exact HQ2.out j (by omega) h1)
              clear hb2 key
              go_wp2_with (first | simp only [key2])
              go_roundw
              case rel => exact ⟨k + 1, by omega, by go_num, trivial, HS.out⟩
              case measure => simp [intOf]; omega
            | true =>
              have key2 := B1.out k (by rw [hsf2.out]; exact hb2)
              have hsk := Lib.hid hb2
              clear hb2 key
              by_cases hik : i = k
              · subst hik
                have H1 := Lib.hid (HH.out i i (by omega) (by omega))
                cases hq1 : q i i with
                | true =>
                  rw [hq1] at H1
                  have HN : Hid (¬ LineP n q s) := Lib.hid (fun hp => by
                    have := (hp.1 i (by omega) hsi.out i (Nat.le_refl _) hsi.out).1 rfl
                    rw [hq1] at this
                    cases this)
                  clear hq1
                  go_wp2_with (first | (go_at_call 12; refine (H1.out).mono ?_; rintro e w1 ⟨rfl, rfl⟩) | simp only [key2])
                  go_ret
                  exact GivesB.no HN.out HB.out
                | false =>
                  rw [hq1] at H1
                  have HS : Hid (∀ t, t < i + 1 → s t = true → (i = t → q i i = false) ∧ (i ≠ t → q i t ≠ q t i)) := Lib.hid (fun j hj h1 => by
                    by_cases e : j = i
                    · subst e; exact ⟨fun _ => hq1, fun h => absurd rfl h⟩
                    · exact HQ2.out j (by omega) h1)
                  clear hq1
                  go_wp2_with (first | (go_at_call 12; refine (H1.out).mono ?_; rintro e w1 ⟨rfl, rfl⟩) | simp only [key2])
                  go_roundw
                  case rel => exact ⟨i + 1, by omega, by go_num, trivial, fun t ht h1 => ⟨fun _ => trivial, (HS.out t ht h1).2⟩⟩
                  case measure => simp [intOf] <;> omega
              · have H1 := Lib.hid (HH.out i k (by omega) (by omega))
                have H2 := Lib.hid (HH.out k i (by omega) (by omega))
                have n1 : ¬ (i : Int) = k := by omega
                have n2 : ((i : Int) == k) = false := by simpa using n1
                have n3 : ((i : Int) != k) = true := by simpa using n1
                by_cases hq1 : q i k = q k i
                · have HN : Hid (¬ LineP n q s) := Lib.hid (fun hp => (hp.1 i (by omega) hsi.out k (by omega) hsk.out).2 hik hq1)
                  rw [hq1] at H1
                  clear hq1
                  generalize q k i = b at *
                  cases b with
                  | true =>
                    go_wp2_with (first
                      | (go_at_call 12; (with_reducible refine (H1.out).mono ?_); rintro e w1 ⟨rfl, rfl⟩)
                      | (go_at_call 12; (with_reducible refine (H2.out).mono ?_); rintro e w1 ⟨rfl, rfl⟩) | simp only [key2])
                    go_ret
                    exact GivesB.no HN.out HB.out
                  | false =>
                    go_wp2_with (first
                      | (go_at_call 12; (with_reducible refine (H1.out).mono ?_); rintro e w1 ⟨rfl, rfl⟩)
                      | (go_at_call 12; (with_reducible refine (H2.out).mono ?_); rintro e w1 ⟨rfl, rfl⟩) | simp only [key2])
                    go_ret
                    exact GivesB.no HN.out HB.out
                · have HS : Hid (∀ t, t < k + 1 → s t = true → (i = t → q i i = false) ∧ (i ≠ t → q i t ≠ q t i)) := Lib.hid (fun j hj h1 => by
                    by_cases e : j = k
                    · subst e; exact ⟨fun h => absurd h hik, fun _ => hq1⟩
                    · exact HQ2.out j (by omega) h1)
                  generalize q i k = b at *
                  generalize q k i = b' at *
                  cases b with
                  | true =>
                    cases b' with
                    | true => exact absurd rfl hq1
                    | false =>
                      clear hq1
                      go_wp2_with (first
                        | (go_at_call 12; (with_reducible refine (H1.out).mono ?_); rintro e w1 ⟨rfl, rfl⟩)
                        | (go_at_call 12; (with_reducible refine (H2.out).mono ?_); rintro e w1 ⟨rfl, rfl⟩) | simp only [key2])
                      go_roundw
                      case rel => exact ⟨k + 1, by omega, by go_num, trivial, HS.out⟩
                      case measure => simp [intOf]; omega
                  | false =>
                    cases b' with
                    | false => exact absurd rfl hq1
                    | true =>
                      clear hq1
                      go_wp2_with (first
                        | (go_at_call 12; (with_reducible refine (H1.out).mono ?_); rintro e w1 ⟨rfl, rfl⟩)
                        | (go_at_call 12; (with_reducible refine (H2.out).mono ?_); rintro e w1 ⟨rfl, rfl⟩) | simp only [key2])
                      go_roundw
                      case rel => exact ⟨k + 1, by omega, by go_num, trivial, HS.out⟩
                      case measure => simp [intOf]; omega
          · obtain rfl : k = i + 1 := by omega
            have HS : Hid (∀ j, j < i + 1 → s j = true → ∀ k, k ≤ j → s k = true → (j = k → q j j = false) ∧ (j ≠ k → q j k ≠ q k j)) := Lib.hid (fun j hj h1 k hk h2 => by
              by_cases e : j = i
              · subst e; exact HQ2.out k (by omega) h2
              · exact HQ.out j (by omega) h1 k hk h2)
            go_wp2_with fail
            go_roundw
            case rel => exact ⟨i + 1, by omega, by go_num, trivial, HS.out⟩
            case measure => simp [intOf]; omega
    · obtain rfl : i = n := by omega
      obtain ⟨n, rfl⟩ : ∃ n : Nat, n = i := ⟨_, rfl⟩
      have TH := Lib.hid (then_any _ _ n n _ _ wA HSL.out HSL.out HTA.out)
      have hsn : sz n = n := by unfold sz; omega
      rw [hsn, Nat.max_self] at TH
      have HTF : Hid (thenF n (onF n fun i => rowN n (q i)) (onF n fun i => rowN n (q i)) = fun i k => decide (i < n) && (decide (k < n) && thenF n q q i k)) := Lib.hid (by
        funext i k
        unfold thenF
        rw [Bool.eq_iff_iff]
        simp only [List.any_eq_true, List.mem_range, Bool.and_eq_true, decide_eq_true_eq, onF_rows h64]
        constructor
        · rintro ⟨j, h1, ⟨h2, _, h3⟩, _, h4, h5⟩
          exact ⟨h2, h4, j, h1, h3, h5⟩
        · rintro ⟨h2, h4, j, h1, h3, h5⟩
          exact ⟨j, h1, ⟨h2, h1, h3⟩, h1, h4, h5⟩)
      rw [HTF.out] at TH
      clear HTF hsn
      go_wp2_with (go_at_call 22; refine (TH.out).mono ?_; rintro e w1 ⟨g2, rfl, ⟨p2, rfl⟩, hg3, hg4, hrow2⟩)
      have HR2 := Lib.hid hrow2
      have HR1 := Lib.hid (HR.out.more p2)
      have HB2 := Lib.hid (below_mo HB.out p2)
      have hgl : g < (more wA p2).heap.size := by rw [more_size]; omega
      clear hrow2 HH TH B1 B0 HTA HSL HR
      generalize more wA p2 = wC at *
      go_loopw [73] (fun v73 wr => ∃ i : Nat, i ≤ n ∧ v73 = .int .i64 i ∧ wC = wr ∧ ∀ j, j < i → ∀ k, k < n → thenF n q q j k = true → q j k = true) (fun v73 _ => n - (intOf v73).toNat)
      case atStart => exact ⟨0, by omega, rfl, rfl, fun j hj => by omega⟩
      case round =>
        obtain ⟨i, hi, rfl, rfl, hq⟩ := hrel
        have HQ2 := Lib.hid hq
        clear hq
        by_cases hlt2 : (i : Int) < n
        · obtain ⟨c1, _⟩ := HR2.out i (by omega)
          obtain ⟨c2, _⟩ := HR1.out i (by omega)
          obtain ⟨y, hy, hy0⟩ := not_key n h64 (fun k => decide (i < n) && (decide (k < n) && thenF n q q i k)) (q i)
          by_cases h0 : y = 0
          · subst h0
            have HS : Hid (∀ j, j < i + 1 → ∀ k, k < n → thenF n q q j k = true → q j k = true) := Lib.hid (fun j hj k hk h1 => by
              by_cases e : j = i
              · subst e; exact hy0.1 rfl k hk (by simp [hk, h1, show j < n by omega])
              · exact HQ2.out j (by omega) k hk h1)
            clear hy0
            go_wp2_with (first | simp only [hy])
            go_roundw
            case rel => exact ⟨i + 1, by omega, by go_num, trivial, HS.out⟩
            case measure => simp [intOf]; omega
          · have HN : Hid (¬ LineP n q s) := Lib.hid (fun hp => h0 (hy0.2 (fun k hk h1 => hp.2 i (by omega) k hk (by simp at h1; exact h1.2.2))))
            have b1 : ((y : Int) != 0) = true := by simpa using h0
            clear hy0
            go_wp2_with (first | simp only [hy])
            go_ret
            exact GivesB.no HN.out HB2.out
        · have HY : Hid (LineP n q s) := Lib.hid ⟨fun i hi h1 k hk h2 => HQ.out i hi h1 k hk h2, fun i' hi' k hk h1 => HQ2.out i' (by omega) k hk h1⟩
          go_wp2_with fail
          go_ret
          exact GivesB.yes HY.out HB2.out
end Go.Proofs.YtgghhbjaokgeeaaDoor
