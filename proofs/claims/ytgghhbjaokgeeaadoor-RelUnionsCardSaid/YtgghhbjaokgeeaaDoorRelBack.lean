/- Walk: the other way round. Conditions: numbers fit; the library's table is laid. -/
import Derived.Test.YtgghhbjaokgeeaaDoorRelPair
import Derived.Test.YtgghhbjaokgeeaaDoorRelTz
namespace Go.Proofs.YtgghhbjaokgeeaaDoor
open Go.RowKit Go.Sort Go.Lib
set_option linter.unusedVariables false
set_option linter.unusedSimpArgs false
theorem less_key (x : Nat) (hx : x < 18446744073709551616) (h0 : x ≠ 0) : bits .and .u64 (x : Int) ((x : Int) - 1) = ((x &&& (x - 1) : Nat) : Int) := by
  have e : (x : Int) - 1 = ((x - 1 : Nat) : Int) := by omega
  rw [e]
  exact u64_and_nat _ _ hx (by omega)
theorem tz_quiet (x : Nat) (hx : x < 18446744073709551616) (h0 : x ≠ 0) (w : World) (hT : Tab w) (p : Regrown) :
    Calls Tryd.prog 32 #[.int .u64 x] (more w p) fun e w'' => e = .returned (.int .i64 (Lib.ctz 64 x : Nat)) ∧ ∃ r : Regrown, w'' = more w r :=
  (tz_any x hx h0 (more w p) (hT.more p)).mono fun e w' ⟨h1, h2⟩ => ⟨h1, p, h2.symm⟩
/-- what has been turned: the rows ahead of i, and of row i what is left no more. -/
def bkF (f : Nat → Nat → Bool) (i x : Nat) (j t : Nat) : Bool := f t j && (decide (t < i) || (decide (t = i) && !x.testBit j))
theorem bk_start (n : Nat) (f : Nat → Nat → Bool) (i j : Nat) (hj : j < n) : rowN n (fun t => f t j && decide (t < i)) = rowN n (bkF f i (rowN n (f i)) j) := rowN_congr fun t _ => by
  unfold bkF
  rw [rowN_tb]
  by_cases e : t = i
  · subst e
    simp [hj]
  · simp [e]
theorem bk_end (n : Nat) (f : Nat → Nat → Bool) (i j : Nat) : rowN n (bkF f i 0 j) = rowN n (fun t => f t j && decide (t < i + 1)) := rowN_congr fun t _ => by
  unfold bkF
  by_cases e : t = i
  · subst e; simp
  · simp [e, show (t < i + 1) = (t < i) by simp; omega]
theorem bk_step (n : Nat) (f : Nat → Nat → Bool) (i x : Nat) (hx : x < 2 ^ 64) (h0 : x ≠ 0) (hi : i < n) (hf : f i (Lib.ctz 64 x) = true) (j : Nat) :
    (if j = Lib.ctz 64 x then rowN n (bkF f i x (Lib.ctz 64 x)) ||| 2 ^ i else rowN n (bkF f i x j)) = rowN n (bkF f i (x &&& (x - 1)) j) := by
  have hl := low_bit h0 hx
  have hd := fun j => low_less h0 hx j
  generalize Lib.ctz 64 x = c at *
  split
  · rename_i e
    subst e
    refine row_eq fun t => ?_
    rw [Nat.testBit_or, rowN_tb, Nat.testBit_two_pow]
    unfold bkF
    rw [hd, hl]
    by_cases e2 : t = i
    · subst e2; simp [hi, hf]
    · simp [e2, Ne.symm e2, show ¬ i = t from fun h => e2 h.symm]
  · rename_i e
    refine rowN_congr fun t _ => ?_
    unfold bkF
    rw [hd]
    simp [e]
set_option maxHeartbeats 1000000 in
theorem back_any (v : Value) (len : Nat) (r : Nat → Nat) (w : World) (h : Sl w v len r) (hT : Tab w) :
    Calls Tryd.prog 19 #[v] w (GivesRows w (sz len) (backF (onF len r))) := by
  have SZ := Lib.hid (fun W (hb : Below w.heap.size w W) => size_any v len r W (h.below hb))
  have CL := Lib.hid (fun W (hb : Below w.heap.size w W) => clean_any v len r (sz len) (Nat.le_refl _) (sz_le len) W (h.below hb))
  have h64 := sz_le len
  have hon := fun i k h => @onF_out len r i k h
  have HT := Lib.hid hT
  have hpos := hT.pos
  clear h hT
  generalize onF len r = f at *
  generalize sz len = n at *
  have HZR := Lib.hid (rows_zero (w := w) (n := n))
  go_enter Tryd.func19, Tryd.ntmps19
  go_wp2_with (first
      | (go_at_call 31; refine (SZ.out _ ?_).mono ?_; (first | exact Below.refl _ _ | exact below_al (Below.refl _ _) _); rintro e w1 ⟨rfl, rfl⟩)
      | (go_at_call 30; refine (CL.out _ (below_al (Below.refl _ _) _)).mono ?_; rintro e w1 ⟨g, rfl, ⟨p1, rfl⟩, hg1, hg2, hrow⟩)
      | (with_reducible refine wpList_rows rfl _ _ rfl n h64 rfl rfl ?_))
  simp at hg1
  have HR := Lib.hid hrow
  have HZ := Lib.hid (HZR.out.below (more_below _ p1))
  have HB := Lib.hid (below_mo (below_al (Below.refl _ w) (.cells (zrow n) 36)) p1)
  have HTA := Lib.hid (HT.out.below HB.out)
  have hzA : w.heap.size < (more (w.alloc (.cells (zrow n) 36)) p1).heap.size := by omega
  clear hrow HZR SZ CL HT
  generalize more (w.alloc (.cells (zrow n) 36)) p1 = wA at *
  go_loopw [14] (fun v14 wr => ∃ i : Nat, i ≤ n ∧ v14 = .int .i64 i ∧ Onto w.heap.size wA wr ∧ RowsU wr w.heap.size n (fun j => rowN n (fun t => f t j && decide (t < i)))) (fun v14 _ => n - (intOf v14).toNat)
  case atStart => exact ⟨0, by omega, rfl, Onto.refl, HZ.out.congr fun j _ => row_eq fun k => by simp⟩
  case round =>
    obtain ⟨i, hi, rfl, ho, hw⟩ := hrel
    have HO := Lib.hid ho
    have HW := Lib.hid hw
    have hsz := ho.size
    obtain ⟨w1, rfl⟩ : ∃ w1 : World, w1 = wr := ⟨_, rfl⟩
    by_cases hlt : (i : Int) < n
    · have c1 := ((HR.out.onto ho (by omega)) i (by omega)).1
      have hgl := cell_lt2 c1
      clear ho hw
      go_wp2_with fail
      go_loopg [5] (rowN n (f i)) (fun gg v5 w2 => ∃ x : Nat, v5 = .int .u64 x ∧ x ≤ gg ∧ (∀ j, x.testBit j = true → j < n ∧ f i j = true) ∧ x < 2 ^ 64 ∧ Onto w.heap.size wA w2 ∧ RowsU w2 w.heap.size n (fun j => rowN n (bkF f i x j)))
      case atStart => exact ⟨rowN n (f i), rfl, Nat.le_refl _, fun j hj => by rw [rowN_tb] at hj; simpa using hj, rowN_64 h64 _, HO.out, HW.out.congr fun j hj => bk_start n f i j hj⟩
      case round =>
        obtain ⟨x, rfl, hgg, hsub, hx64, ho2, hw2⟩ := hrel
        have HO2 := Lib.hid ho2
        have HW2 := Lib.hid hw2
        by_cases h0 : x = 0
        · subst h0
          clear ho2 hw2 hsub
          go_wp2_with fail
          go_roundw
          case rel => exact ⟨i + 1, by omega, by go_num, HO2.out, HW2.out.congr fun j _ => bk_end n f i j⟩
          case measure => simp [intOf]; omega
        · have b1 : ((x : Int) != 0) = true := by simpa using h0
          have hb := hsub _ (low_bit h0 hx64)
          have hstep := Lib.hid (fun j => bk_step n f i x hx64 h0 (by omega) hb.2 j)
          have TZ := Lib.hid (fun p => tz_quiet x hx64 h0 wr ((HTA.out).onto ho2 (by omega)) p)
          have KL := less_key x hx64 h0
          have hd := low_down h0
          have hsub2 : Hid (∀ j, (x &&& (x - 1)).testBit j = true → j < n ∧ f i j = true) := Lib.hid (fun j hj => by
            rw [low_less h0 hx64] at hj
            exact hsub j (by simp at hj; exact hj.1))
          obtain ⟨hcn, _⟩ := hb
          have ck := hw2 _ hcn
          generalize Lib.ctz 64 x = c at *
          obtain ⟨d1, d2⟩ := ck
          have KO := or_key (rowN n (bkF f i x c)) i (rowN_64 h64 _) (by omega)
          have hsz2 : w.heap.size < wr.heap.size := Nat.lt_of_lt_of_le hzA ho2.size
          clear ho2 hw2 hsub
          go_upto_region 7 with fail
          refine wp_tail_more 9 (by kernel_rfl) (by kernel_rfl) ?_
          simp only [List.take_succ_cons, List.take_zero, List.drop_succ_cons, List.drop_zero]
          repeat (go_big_quiet_step (first | (go_at_call 32; exact TZ.out _)))
          refine wpQuiet_nil ?_
          intro p
          go_wp2_with (first | simp only [KO] | simp only [KL])
          go_roundg (x &&& (x - 1))
          case measure => omega
          case rel =>
            refine ⟨x &&& (x - 1), rfl, Nat.le_refl _, hsub2.out, by omega, (HO2.out.set c _).more p, ?_⟩
            exact ((HW2.out.set c hcn _).more p).congr fun j hj => hstep.out j
    · obtain rfl : i = n := by omega
      have HF : Hid (RowsU w1 w.heap.size i (fun j => rowN i (backF f j))) := Lib.hid (hw.congr fun j hj => rowN_congr fun t ht => by unfold backF; simp [ht])
      clear ho hw
      go_wp2_with fail
      go_ret
      exact ⟨w.heap.size, rfl, more_of_below (HO.out.under HB.out (Nat.le_refl _)), Nat.le_refl _, by omega, HF.out⟩
end Go.Proofs.YtgghhbjaokgeeaaDoor
