/- Walk: rows without what counts for nothing. Conditions: numbers fit. -/
import Derived.Test.YtgghhbjaokgeeaaDoorRelSmall
namespace Go.Proofs.YtgghhbjaokgeeaaDoor
open Go.RowKit Go.Sort Go.Lib
set_option linter.unusedVariables false
set_option linter.unusedSimpArgs false
theorem and_mask (x n : Nat) (hx : x < 18446744073709551616) (hn : n ≤ 64) : bits .and .u64 (x : Int) ((2 ^ n - 1 : Nat) : Int) = ((x &&& (2 ^ n - 1) : Nat) : Int) := by
  have h2 : 2 ^ n ≤ 2 ^ 64 := Nat.pow_le_pow_right (by decide) hn
  have h3 : 0 < 2 ^ n := Nat.two_pow_pos n
  exact u64_and_nat _ _ hx (by omega)
set_option maxHeartbeats 1000000 in
theorem clean_any (v : Value) (len : Nat) (r : Nat → Nat) (n : Nat) (hn : sz len ≤ n) (hn2 : n ≤ 64) (w : World) (h : Sl w v len r) :
    Calls Tryd.prog 30 #[v, .int .i64 n] w (GivesRows w n (onF len r)) := by
  obtain ⟨A, X, off, cap, rfl, hA, hc, hm, hcell, hr⟩ := h
  obtain ⟨m, hm0⟩ : ∃ m : Nat, m = sz len := ⟨_, rfl⟩
  have AL := Lib.hid (fun W => all_any m (by rw [hm0]; exact sz_le _) W)
  have HC := Lib.hid (fun i (hi : i < len) => show w.cell? ⟨X, off + i, none⟩ = _ ∧ X < w.heap.size from ⟨hcell i hi, cell_lt2 (hcell i hi)⟩)
  have HA := Lib.hid (fun i (hi : i < m) => and_mask (r i) m (hr i) (by rw [hm0]; exact sz_le _))
  have HR := Lib.hid (fun i (hi : i < m) => clean_row len r n i hn (by omega))
  have HZ := Lib.hid (fun i (hi : m ≤ i) => clean_none len r n i (by omega))
  rw [← hm0] at HR hn
  have hml : m ≤ len := by rw [hm0]; exact sz_len _
  have hm64 : m ≤ 64 := by rw [hm0]; exact sz_le _
  have HM : Hid ((64 < len → m = 64) ∧ (len ≤ 64 → m = len)) := Lib.hid (by rw [hm0]; unfold sz; omega)
  clear hcell hm0
  go_enter Tryd.func30, Tryd.ntmps30
  go_upto_region 2 with ((with_reducible refine wpList_rows rfl _ _ rfl n hn2 rfl rfl ?_))
  go_cut [6] from 11 to 13 (fun t6 W => t6 = .int .i64 m ∧ W = w.alloc (.cells (zrow n) 36))
  case first =>
    by_cases hl : 64 < len
    · obtain rfl := HM.out.1 hl
      go_wp2_with fail
      go_meet
      exact ⟨rfl, rfl⟩
    · obtain rfl := HM.out.2 (by omega)
      go_wp2_with fail
      go_meet
      exact ⟨rfl, rfl⟩
  case rest =>
  obtain ⟨rfl, rfl⟩ := hcut
  clear HM
  have HZR := Lib.hid (rows_zero (w := w) (n := n))
  by_cases hpos : 0 < m
  · obtain rfl := hA (by omega)
    clear hA
    go_wp2_with fail
    go_loopw [20] (fun v20 wr => ∃ k : Nat, k ≤ m ∧ v20 = .int .i64 k ∧ Onto w.heap.size (w.alloc (.cells (zrow n) 36)) wr ∧ RowsU wr w.heap.size n (fun i => if i < k then rowN n (onF len r i) else 0)) (fun v20 _ => m - (intOf v20).toNat)
    case atStart => exact ⟨0, by omega, rfl, Onto.refl, HZR.out.congr fun i _ => by simp⟩
    case round =>
      obtain ⟨k, hk, rfl, ho, hw⟩ := hrel
      have HO := Lib.hid ho
      have HW := Lib.hid hw
      have hsz := ho.size
      simp at hsz
      by_cases hlt : (k : Int) < m
      · obtain ⟨ck, hX⟩ := HC.out k (by omega)
        have c1 : wr.cell? ⟨X, off + k, none⟩ = some (.int .u64 (r k)) := by
          rw [ho.cell (by simp; omega) (by omega), alloc_cell, if_pos hX]
          exact ck
        obtain ⟨d1, d2⟩ := hw k (by omega)
        have key := HA.out k (by omega)
        rw [HR.out k (by omega)] at key
        have hX2 : X < wr.heap.size := by omega
        have HS : Hid (RowsU (wr.setCell ⟨w.heap.size, k, none⟩ (.int .u64 (rowN n (onF len r k) : Nat))) w.heap.size n (fun i => if i < k + 1 then rowN n (onF len r i) else 0)) := Lib.hid ((hw.set k (by omega) _).congr fun i hi => by
          by_cases e : i = k
          · subst e; simp
          · by_cases e2 : i < k
            · simp [e, e2, show i < k + 1 by omega]
            · simp [e, e2, show ¬ i < k + 1 by omega])
        clear ho hw ck
        go_wp2_with (first
          | (go_at_call 33; refine (AL.out _).mono ?_; rintro e w1 ⟨rfl, rfl⟩)
          | (simp only [key]))
        go_roundw
        case rel => exact ⟨k + 1, by omega, by go_num, HO.out.set _ _, HS.out⟩
        case measure => simp [intOf]; omega
      · obtain rfl : k = m := by omega
        have HF : Hid (RowsU wr w.heap.size n (fun i => rowN n (onF len r i))) := Lib.hid (hw.congr fun i hi => by
          by_cases e : i < k
          · simp [e]
          · simp [e, HZ.out i (by omega)])
        clear ho hw
        go_wp2_with fail
        go_ret
        exact ⟨w.heap.size, rfl, more_of_below (HO.out.under (below_al (Below.refl _ _) _) (Nat.le_refl _)), Nat.le_refl _, by omega, HF.out⟩
  · obtain rfl : m = 0 := by omega
    have HF : Hid (RowsU (w.alloc (.cells (zrow n) 36)) w.heap.size n (fun i => rowN n (onF len r i))) := Lib.hid (HZR.out.congr fun i hi => by rw [HZ.out i (by omega)])
    go_wp2_with fail
    all_goals
      refine wp_loop_rounds 1 ?_
      rw [rounds_succ]
      go_wp2_with fail
      go_ret
      exact ⟨w.heap.size, rfl, more_of_below (below_al (Below.refl _ _) _), Nat.le_refl _, by simp, HF.out⟩
end Go.Proofs.YtgghhbjaokgeeaaDoor
