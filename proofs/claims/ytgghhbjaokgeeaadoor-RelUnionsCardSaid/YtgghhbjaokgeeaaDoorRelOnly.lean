/- Walks: parts; once or more; whether it comes back. Conditions: numbers fit. -/
import Derived.Test.YtgghhbjaokgeeaaDoorRelPair
namespace Go.Proofs.YtgghhbjaokgeeaaDoor
open Go.RowKit Go.Sort Go.Lib
set_option linter.unusedVariables false
set_option linter.unusedSimpArgs false
theorem and_row (n : Nat) (hn : n ≤ 64) (f : Nat → Bool) (t : Nat) (ht : t < 18446744073709551616) : bits .and .u64 ((rowN n f : Nat) : Int) (t : Int) = ((rowN n (fun k => f k && t.testBit k) : Nat) : Int) := by
  rw [u64_and_nat _ _ (rowN_64 hn _) ht]
  congr 1
  refine row_eq fun k => ?_
  rw [Nat.testBit_and, rowN_tb]
  cases decide (k < n) <;> simp
theorem and_none (t : Nat) (ht : t < 18446744073709551616) : bits .and .u64 0 (t : Int) = 0 := by
  have h := u64_and_nat 0 t (by decide) ht
  simpa using h
set_option maxHeartbeats 1000000 in
theorem only_any (v : Value) (len : Nat) (r : Nat → Nat) (s t : Nat) (hs : s < 18446744073709551616) (ht : t < 18446744073709551616) (w : World) (h : Sl w v len r) :
    Calls Tryd.prog 20 #[v, .int .u64 s, .int .u64 t] w (GivesRows w (sz len) (onlyF (onF len r) s t)) := by
  have SZ := Lib.hid (fun W (hb : Below w.heap.size w W) => size_any v len r W (h.below hb))
  have CL := Lib.hid (fun W (hb : Below w.heap.size w W) => clean_any v len r (sz len) (Nat.le_refl _) (sz_le len) W (h.below hb))
  have h64 := sz_le len
  clear h
  generalize onF len r = f at *
  generalize sz len = n at *
  have AN := and_none t ht
  have AR := Lib.hid (fun i => and_row n h64 (f i) t ht)
  have B1 := Lib.hid (fun k => @bit_one s k hs)
  have B0 := Lib.hid (fun k => @bit_zero s k hs)
  go_enter Tryd.func20, Tryd.ntmps20
  go_wp2_with (first
      | (go_at_call 31; refine (SZ.out _ (Below.refl _ _)).mono ?_; rintro e w1 ⟨rfl, rfl⟩)
      | (go_at_call 30; refine (CL.out _ (Below.refl _ _)).mono ?_; rintro e w1 ⟨g, rfl, ⟨p1, rfl⟩, hg1, hg2, hrow⟩))
  have HR := Lib.hid hrow
  have HB := Lib.hid (more_below w p1)
  clear hrow SZ CL
  generalize more w p1 = wA at *
  go_loopw [15] (fun v15 wr => ∃ i : Nat, i ≤ n ∧ v15 = .int .i64 i ∧ Onto g wA wr ∧ RowsU wr g n (fun j => if j < i then rowN n (onlyF f s t j) else rowN n (f j))) (fun v15 _ => n - (intOf v15).toNat)
  case atStart => exact ⟨0, by omega, rfl, Onto.refl, HR.out.congr fun j _ => by simp⟩
  case round =>
    obtain ⟨i, hi, rfl, ho, hw⟩ := hrel
    have HO := Lib.hid ho
    have HW := Lib.hid hw
    have hsz : g < wr.heap.size := Nat.lt_of_lt_of_le hg2 ho.size
    by_cases hlt : (i : Int) < n
    · have hi64 : i < 64 := by omega
      obtain ⟨d1, d2⟩ := hw i (by omega)
      simp only [Nat.lt_irrefl, if_false] at d1
      have ka := AR.out i
      have HN : Hid (∀ x : Nat, x = rowN n (onlyF f s t i) → ∀ w', RowsU w' g n (fun j => if j = i then x else if j < i then rowN n (onlyF f s t j) else rowN n (f j)) → RowsU w' g n (fun j => if j < i + 1 then rowN n (onlyF f s t j) else rowN n (f j))) := Lib.hid (fun x hx w' h => h.congr fun j hj => by
        by_cases e : j = i
        · subst e; simp [hx]
        · simp [e, show (j < i + 1) = (j < i) by simp; omega])
      clear ho hw
      cases hb : s.testBit i with
      | true =>
        have key := B1.out i hb
        have HE : Hid (rowN n (fun k => f i k && t.testBit k) = rowN n (onlyF f s t i)) := Lib.hid (rowN_congr fun k _ => by unfold onlyF; simp [hb])
        clear AN hb
        go_wp2_with (first | simp only [key] | simp only [ka])
        go_roundw
        case rel => exact ⟨i + 1, by omega, by go_num, HO.out.set i _, HN.out _ HE.out _ (HW.out.set i (by omega) _)⟩
        case measure => simp [intOf]; omega
      | false =>
        have key := B0.out i hb
        have HE : Hid (0 = rowN n (onlyF f s t i)) := Lib.hid (row_eq fun k => by unfold onlyF; simp [hb])
        clear hb ka
        go_wp2_with (first | simp only [key] | simp only [AN])
        go_roundw
        case rel => exact ⟨i + 1, by omega, by go_num, (HO.out.set i _).set i _, HN.out 0 HE.out _ (((HW.out.set i (by omega) 0).set i (by omega) 0).congr fun j _ => by by_cases e : j = i <;> simp [e])⟩
        case measure => simp [intOf]; omega
    · obtain rfl : i = n := by omega
      have HF : Hid (RowsU wr g i (fun j => rowN i (onlyF f s t j))) := Lib.hid (hw.congr fun j hj => by simp [hj])
      clear ho hw
      go_wp2_with fail
      go_ret
      exact ⟨g, rfl, more_of_below (HO.out.under HB.out hg1), hg1, by omega, HF.out⟩
end Go.Proofs.YtgghhbjaokgeeaaDoor
