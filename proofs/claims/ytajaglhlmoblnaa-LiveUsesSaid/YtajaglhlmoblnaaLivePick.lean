/- Walk: those that are not below 0 (the law's own). Conditions: they are few. -/
import Derived.Test.YtajaglhlmoblnaaLiveInt0
namespace Go.Proofs.Ytajaglhlmoblnaa
open Go.RowKit Go.Sort Go.Lib
set_option linter.unusedVariables false
set_option linter.unusedSimpArgs false
set_option maxHeartbeats 1000000 in
theorem pick_any (L : Nat → Int) (n b cap : Nat) (hn : n ≤ 3) (w : World) (hb : b < w.heap.size) (hc : ∀ j, j < n → w.cell? ⟨b, j, none⟩ = some (.int .i64 (L j))) :
    Calls Try.prog 10 #[.slice (some ⟨b, 0, none⟩) n cap] w fun e w' => ∃ v, e = .returned v ∧ (∃ p : Regrown, w' = more w p) ∧ w'.ownsRow w.heap.size 3 1 v (kept L n).length ((kept L n).map (Value.int .i64)) := by
  have HC := Lib.hid hc
  obtain ⟨i0, hi, hz0, hz1, hz2⟩ := info_parts info_int
  clear hc
  go_enter Try.func10, Try.ntmps10
  go_wp2_with fail
  go_loopw [3, 4] (fun v3 v4 wr => ∃ k : Nat, k ≤ n ∧ v4 = .int .i64 k ∧ Below w.heap.size w wr ∧ wr.ownsRow w.heap.size 3 1 v3 (kept L k).length ((kept L k).map (Value.int .i64))) (fun _ v4 _ => n - (intOf v4).toNat)
  case atStart => exact ⟨0, by omega, rfl, below_al (Below.refl _ _) _, World.ownsRow_lit w #[] 0 (Nat.le_refl _) (by unfold maxLen; omega) rfl⟩
  case round =>
    obtain ⟨k, hk, rfl, hbl, how⟩ := hrel
    have HOW := Lib.hid how
    have HBL := Lib.hid hbl
    have hsz := hbl.size
    have hkl := kept_len L k
    by_cases hlt : (k : Int) < n
    · have hck := cell_below (HC.out k (by omega)) hbl
      have HK := Lib.hid (kept_succ L k)
      clear how hbl
      by_cases h0 : 0 ≤ L k
      · have hkk := HK.out
        rw [if_pos h0] at hkk
        have HE : Hid ((kept L (k + 1)).length = (kept L k).length + 1 ∧ (kept L (k + 1)).map (Value.int .i64) = (kept L k).map (Value.int .i64) ++ [.int .i64 (L k)]) := Lib.hid (by rw [hkk]; simp)
        clear hkk HK
        generalize L k = x at hck h0 HE
        generalize (kept L k).length = m at *
        generalize (kept L k).map (Value.int .i64) = cs at *
        go_wp2_with (at_builtin; refine wpList_append_own _ rfl _ _ 27 rfl w.heap.size 3 i0 (.int .i64 0) 1 8 Try.underlying27 hi hz0 hz1 hz2 rfl (by decide) _ _ _ rfl (HOW.out.alloc _) ⟨wr.heap.size, 0, none⟩ 1 1 [.int .i64 x] rfl rfl (cell_one_new _ _ _) (ints_oneCell .i64 [x]) (by unfold maxLen; omega) (by omega) (by simp; omega) ?_; intro v' w' own grow hnil; go_frame)
        have HB2 := Lib.hid (own_below (below_al HBL.out _) (HOW.out.alloc _) grow (Nat.le_refl _))
        clear grow hnil
        go_roundw
        case rel => exact ⟨k + 1, by omega, by go_num, HB2.out, by rw [HE.out.1, HE.out.2]; exact own⟩
        case measure => simp [intOf]; omega
      · have hkk := HK.out
        rw [if_neg h0] at hkk
        replace HK := Lib.hid hkk
        clear hkk
        go_wp2_with fail
        go_roundw
        case rel => exact ⟨k + 1, by omega, by go_num, HBL.out, by rw [HK.out]; exact HOW.out⟩
        case measure => simp [intOf]; omega
    · obtain rfl : k = n := by omega
      go_wp2_with fail
      go_ret
      exact ⟨_, rfl, more_of_below HBL.out, HOW.out⟩
end Go.Proofs.Ytajaglhlmoblnaa
