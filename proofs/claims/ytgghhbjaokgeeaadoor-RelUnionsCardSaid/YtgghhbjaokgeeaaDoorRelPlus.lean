/- Walks: once or more; whether it comes back. Conditions: numbers fit. -/
import Derived.Test.YtgghhbjaokgeeaaDoorRelOnly
namespace Go.Proofs.YtgghhbjaokgeeaaDoor
open Go.RowKit Go.Sort Go.Lib
set_option linter.unusedVariables false
set_option linter.unusedSimpArgs false
theorem war_or (n k : Nat) (f : Nat → Nat → Bool) (i : Nat) (h : f i k = true) : rowN n (f i) ||| rowN n (f k) = rowN n (warStep f k i) := row_eq fun j => by
  rw [Nat.testBit_or, rowN_tb, rowN_tb]
  unfold warStep
  rw [h]
  cases decide (j < n) <;> simp
theorem war_not (n k : Nat) (f : Nat → Nat → Bool) (i : Nat) (h : f i k = false) : rowN n (f i) = rowN n (warStep f k i) := rowN_congr fun j _ => by
  unfold warStep
  rw [h]
  simp
theorem war_same (n k : Nat) (f : Nat → Nat → Bool) : rowN n (warStep f k k) = rowN n (f k) := rowN_congr fun j _ => by
  unfold warStep
  cases f k k <;> cases f k j <;> rfl
set_option maxHeartbeats 1000000 in
theorem plus_any (v : Value) (len : Nat) (r : Nat → Nat) (w : World) (h : Sl w v len r) :
    Calls Tryd.prog 24 #[v] w (GivesRows w (sz len) (war (onF len r) (sz len))) := by
  have SZ := Lib.hid (fun W (hb : Below w.heap.size w W) => size_any v len r W (h.below hb))
  have CL := Lib.hid (fun W (hb : Below w.heap.size w W) => clean_any v len r (sz len) (Nat.le_refl _) (sz_le len) W (h.below hb))
  have h64 := sz_le len
  clear h
  generalize onF len r = f at *
  generalize sz len = n at *
  go_enter Tryd.func24, Tryd.ntmps24
  go_wp2_with (first
      | (go_at_call 31; refine (SZ.out _ (Below.refl _ _)).mono ?_; rintro e w1 ⟨rfl, rfl⟩)
      | (go_at_call 30; refine (CL.out _ (Below.refl _ _)).mono ?_; rintro e w1 ⟨g, rfl, ⟨p1, rfl⟩, hg1, hg2, hrow⟩))
  have HR := Lib.hid hrow
  have HB := Lib.hid (more_below w p1)
  clear hrow SZ CL
  generalize more w p1 = wA at *
  go_loopw [12] (fun v12 wr => ∃ k : Nat, k ≤ n ∧ v12 = .int .i64 k ∧ Onto g wA wr ∧ RowsU wr g n (fun j => rowN n (war f k j))) (fun v12 _ => n - (intOf v12).toNat)
  case atStart => exact ⟨0, by omega, rfl, Onto.refl, HR.out⟩
  case round =>
    obtain ⟨k, hk, rfl, ho, hw⟩ := hrel
    have HO := Lib.hid ho
    have HW := Lib.hid hw
    obtain ⟨w1, rfl⟩ : ∃ w1 : World, w1 = wr := ⟨_, rfl⟩
    by_cases hlt : (k : Int) < n
    · have hk64 : k < 64 := by omega
      have HS : Hid (warStep (war f k) k = war f (k + 1)) := Lib.hid rfl
      have HSK := Lib.hid (war_same n k (war f k))
      clear ho hw
      generalize war f k = q at *
      go_wp2_with fail
      go_loopw [17] (fun v17 wr => ∃ i : Nat, i ≤ n ∧ v17 = .int .i64 i ∧ Onto g wA wr ∧ RowsU wr g n (fun j => if j < i then rowN n (warStep q k j) else rowN n (q j))) (fun v17 _ => n - (intOf v17).toNat)
      case atStart => exact ⟨0, by omega, rfl, HO.out, HW.out.congr fun j _ => by simp⟩
      case round =>
        obtain ⟨i, hi, rfl, ho2, hw2⟩ := hrel
        have HO2 := Lib.hid ho2
        have HW2 := Lib.hid hw2
        have hsz : g < wr.heap.size := Nat.lt_of_lt_of_le hg2 ho2.size
        by_cases hlt2 : (i : Int) < n
        · obtain ⟨d1, d2⟩ := hw2 i (by omega)
          obtain ⟨d3, _⟩ := hw2 k (by omega)
          simp only [Nat.lt_irrefl, if_false] at d1
          rw [show ((fun j => if j < i then rowN n (warStep q k j) else rowN n (q j)) k) = rowN n (q k) by simp only []; split; exact HSK.out; rfl] at d3
          have hbit : (rowN n (q i)).testBit k = q i k := by rw [rowN_tb]; simp; omega
          have hx := rowN_64 h64 (q i)
          have hy := rowN_64 h64 (q k)
          have B1 := @bit_one (rowN n (q i)) k hx
          have B0 := @bit_zero (rowN n (q i)) k hx
          rw [hbit] at B1 B0
          have K1 := Lib.hid (war_or n k q i)
          have K0 := Lib.hid (war_not n k q i)
          have KO := u64_or_nat _ _ hx hy
          have HN : Hid (∀ x : Nat, x = rowN n (warStep q k i) → ∀ w', RowsU w' g n (fun j => if j = i then x else if j < i then rowN n (warStep q k j) else rowN n (q j)) → RowsU w' g n (fun j => if j < i + 1 then rowN n (warStep q k j) else rowN n (q j))) := Lib.hid (fun x hx w' h => h.congr fun j hj => by
            by_cases e : j = i
            · subst e; simp [hx]
            · simp [e, show (j < i + 1) = (j < i) by simp; omega])
          clear ho2 hw2 hbit
          cases hb : q i k with
          | true =>
            have key := B1 hb
            rw [K1.out hb] at KO
            clear B1 B0 K0 K1 hb
            go_upto_region 9 with (first | simp only [key])
            refine wp_tail_more 10 (by kernel_rfl) (by kernel_rfl) ?_
            simp only [List.take_succ_cons, List.take_zero, List.drop_succ_cons, List.drop_zero]
            repeat (go_big_quiet_step (fail))
            refine wpQuiet_nil ?_
            intro p
            go_wp2_with (first | simp only [KO])
            go_roundw
            case rel => exact ⟨i + 1, by omega, by go_num, (HO2.out.set i _).more p, (HN.out _ rfl _ (HW2.out.set i (by omega) _)).more p⟩
            case measure => simp [intOf]; omega
          | false =>
            have key := B0 hb
            have HK := Lib.hid (K0.out hb)
            clear B1 B0 K0 K1 KO hb
            go_wp2_with (first | simp only [key])
            go_roundw
            case rel => exact ⟨i + 1, by omega, by go_num, HO2.out, HW2.out.congr fun j _ => by
              by_cases e : j = i
              · subst e; simp [HK.out]
              · simp [e, show (j < i + 1) = (j < i) by simp; omega]⟩
            case measure => simp [intOf]; omega
        · obtain rfl : i = n := by omega
          clear ho2 hw2
          go_wp2_with fail
          go_roundw
          case rel => exact ⟨k + 1, by omega, by go_num, HO2.out, HW2.out.congr fun j hj => by rw [← HS.out]; simp [hj]⟩
          case measure => simp [intOf]; omega
    · obtain rfl : k = n := by omega
      have hsz := ho.size
      clear ho hw
      go_wp2_with fail
      go_ret
      exact ⟨g, rfl, more_of_below (HO.out.under HB.out hg1), hg1, by omega, HW.out⟩
/-- whether it comes back nowhere. -/
def acyB (n : Nat) (f : Nat → Nat → Bool) : Bool := (List.range n).all fun i => !war f n i i
theorem acyclic_any (v : Value) (len : Nat) (r : Nat → Nat) (w : World) (h : Sl w v len r) :
    Calls Tryd.prog 25 #[v] w (Gives w (.bool (acyB (sz len) (onF len r)))) := by
  have PL := Lib.hid (plus_any v len r w h)
  have h64 := sz_le len
  unfold acyB
  generalize war (onF len r) (sz len) = q at *
  generalize sz len = n at *
  go_enter Tryd.func25, Tryd.ntmps25
  go_wp2_with (go_at_call 24; refine (PL.out).mono ?_; rintro e w1 ⟨g, rfl, ⟨p1, rfl⟩, hg1, hg2, hrow⟩)
  have HR := Lib.hid hrow
  have HB := Lib.hid (more_below w p1)
  clear hrow PL
  generalize more w p1 = wA at *
  go_loopw [8] (fun v8 wr => ∃ i : Nat, i ≤ n ∧ v8 = .int .i64 i ∧ wA = wr ∧ ∀ j, j < i → q j j = false) (fun v8 _ => n - (intOf v8).toNat)
  case atStart => exact ⟨0, by omega, rfl, rfl, fun j hj => by omega⟩
  case round =>
    obtain ⟨i, hi, rfl, rfl, hq⟩ := hrel
    have HQ := Lib.hid hq
    clear hq
    by_cases hlt : (i : Int) < n
    · have hi64 : i < 64 := by omega
      obtain ⟨d1, _⟩ := HR.out i (by omega)
      have hbit : (rowN n (q i)).testBit i = q i i := by rw [rowN_tb]; simp; omega
      have hx := rowN_64 h64 (q i)
      have B1 := @bit_one (rowN n (q i)) i hx
      have B0 := @bit_zero (rowN n (q i)) i hx
      rw [hbit] at B1 B0
      cases hb : q i i with
      | true =>
        have key := B1 hb
        have HE : Hid (((List.range n).all fun i => !q i i) = false) := Lib.hid (by rw [List.all_eq_false]; exact ⟨i, by simp; omega, by simp [hb]⟩)
        clear B1 B0 hb hbit
        go_wp2_with (first | simp only [key])
        go_ret
        exact Gives.mk (by rw [HE.out]; rfl) HB.out
      | false =>
        have key := B0 hb
        have HS : Hid (∀ j, j < i + 1 → q j j = false) := Lib.hid (fun j hj => by
          by_cases e : j = i
          · rw [e]; exact hb
          · exact HQ.out j (by omega))
        clear B1 B0 hb hbit
        go_wp2_with (first | simp only [key])
        go_roundw
        case rel => exact ⟨i + 1, by omega, by go_num, trivial, HS.out⟩
        case measure => simp [intOf]; omega
    · have HE : Hid (((List.range n).all fun i => !q i i) = true) := Lib.hid (by
        rw [List.all_eq_true]
        intro j hj
        rw [List.mem_range] at hj
        rw [HQ.out j (by omega)]
        rfl)
      go_wp2_with fail
      go_ret
      exact Gives.mk (by rw [HE.out]; rfl) HB.out
end Go.Proofs.YtgghhbjaokgeeaaDoor
