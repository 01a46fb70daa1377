/- Walks: the statements on spans return true. Conditions: numbers fit their kinds. -/
import Derived.Test.YtigbdndjlkmemaaSpanAligned
import Derived.Test.YtigbdndjlkmemaaSpanCover
import Derived.Test.YtigbdndjlkmemaaSpanPieces
import Derived.Deep.RegionWith
namespace Go.Proofs.Ytigbdndjlkmemaa
open Go.RowKit Go.Sort
set_option linter.unusedVariables false
set_option linter.unusedSimpArgs false
theorem lsound_g (a l : Int) (w : World) : Calls Try.prog 23 #[.agg #[.int .i64 a, .int .i64 l]] w (Gives w (.bool (sndB a l))) := gives_below (lsound_any a l w)
theorem meets_g (a l b m : Int) (w : World) : Calls Try.prog 25 #[.agg #[.int .i64 a, .int .i64 l], .agg #[.int .i64 b, .int .i64 m]] w (Gives w (.bool (meetsB a l b m))) := gives_below (meets_any a l b m w)
theorem within_g (a l b m : Int) (w : World) : Calls Try.prog 26 #[.agg #[.int .i64 a, .int .i64 l], .agg #[.int .i64 b, .int .i64 m]] w (Gives w (.bool (withinB a l b m))) := gives_below (within_any a l b m w)
theorem aligned_g (a l : Int) (w : World) : Calls Try.prog 27 #[.agg #[.int .i64 a, .int .i64 l]] w (Gives w (.bool (algB a l))) := gives_below (aligned_any a l w)
def hasB (a l x : Int) : Bool := sndB a l && decide (a ≤ x) && decide (x - a < l)
theorem has_g (a l x : Int) (h0 : -9223372036854775808 ≤ x) (h1 : x ≤ 9223372036854775807) (w : World) : Calls Try.prog 22 #[.agg #[.int .i64 a, .int .i64 l], .int .i64 x] w (Gives w (.bool (hasB a l x))) := by
  have a1 := lsound_g a l
  cases h : sndB a l
  · have H : Hid (hasB a l x = false) := by unfold hasB; rw [h]; exact Lib.hid rfl
    rw [h] at a1
    have A1 := Lib.hid a1
    clear a1 h
    go_enter Try.func22, Try.ntmps22
    go_wp2_with (go_at_call 23; refine (A1.out _).mono ?_; rintro e w1 ⟨rfl, p, rfl⟩)
    go_ret
    exact Gives.mk (ret_bool (by rw [H.out])) (by repeat (first | exact Below.refl _ _ | refine below_mo ?_ _ | refine below_al ?_ _))
  · have hs := sndB_yes h
    have H : Hid (hasB a l x = (decide (a ≤ x) && decide (x - a < l))) := by unfold hasB; rw [h]; exact Lib.hid rfl
    rw [h] at a1
    have A1 := Lib.hid a1
    clear a1 h
    by_cases g1 : a ≤ x
    · by_cases g2 : x - a < l
      · have H' : Hid (hasB a l x = true) := by rw [H.out, decide_eq_true g1, decide_eq_true g2]; exact Lib.hid rfl
        go_enter Try.func22, Try.ntmps22
        go_wp2_with (go_at_call 23; refine (A1.out _).mono ?_; rintro e w1 ⟨rfl, p, rfl⟩)
        go_ret
        exact Gives.mk (ret_bool (by rw [H'.out] <;> simp <;> omega)) (by repeat (first | exact Below.refl _ _ | refine below_mo ?_ _ | refine below_al ?_ _))
      · have H' : Hid (hasB a l x = false) := by rw [H.out, decide_eq_true g1, decide_eq_false g2]; exact Lib.hid rfl
        go_enter Try.func22, Try.ntmps22
        go_wp2_with (go_at_call 23; refine (A1.out _).mono ?_; rintro e w1 ⟨rfl, p, rfl⟩)
        go_ret
        exact Gives.mk (ret_bool (by rw [H'.out] <;> simp <;> omega)) (by repeat (first | exact Below.refl _ _ | refine below_mo ?_ _ | refine below_al ?_ _))
    · have H' : Hid (hasB a l x = false) := by rw [H.out, decide_eq_false g1]; exact Lib.hid rfl
      go_enter Try.func22, Try.ntmps22
      go_wp2_with (go_at_call 23; refine (A1.out _).mono ?_; rintro e w1 ⟨rfl, p, rfl⟩)
      go_ret
      exact Gives.mk (ret_bool (by rw [H'.out] <;> simp <;> omega)) (by repeat (first | exact Below.refl _ _ | refine below_mo ?_ _ | refine below_al ?_ _))
theorem field_span1 (a b : Int) (w : World) : (Instr.field 38 (.agg #[.int .i64 a, .int .i64 b]) 1).run Try.prog w = .ok (.int .i64 b) w := by kernel_rfl
def exA : Nat → Int
  | 0 => 3
  | 1 => 4
  | 2 => 8
  | _ => 12
def exL : Nat → Int
  | 0 => 1
  | 1 => 4
  | 2 => 4
  | _ => 1
set_option maxHeartbeats 1000000 in
theorem sawake_any (w : World) : Calls Try.prog 24 #[] w (Gives w (.bool true)) := by
  have m1 := meets_g 3 1 0 4
  rw [show meetsB 3 1 0 4 = true by decide] at m1
  have m2 := meets_g 3 1 4 4
  rw [show meetsB 3 1 4 4 = false by decide] at m2
  have m3 := within_g 4 4 4 4
  rw [show withinB 4 4 4 4 = true by decide] at m3
  have m4 := aligned_g 8 4
  rw [show algB 8 4 = true by decide] at m4
  have M1 := Lib.hid m1
  have M2 := Lib.hid m2
  have M3 := Lib.hid m3
  have M4 := Lib.hid m4
  clear m1 m2 m3 m4
  go_enter Try.func24, Try.ntmps24
  go_wp2_with fail
  refine (pieces_310 _).mono ?_
  rintro e w1 ⟨v, rfl, hown, hb⟩
  obtain ⟨g, cap, rfl, hB, hg⟩ := hown.form (by omega)
  have e0 := hown.cellAt 0 (by omega)
  have e1 := hown.cellAt 1 (by omega)
  have e2 := hown.cellAt 2 (by omega)
  have e3 := hown.cellAt 3 (by omega)
  have e4 := hown.cellAt 4 (by omega)
  have e5 := hown.cellAt 5 (by omega)
  have e6 := hown.cellAt 6 (by omega)
  have e7 := hown.cellAt 7 (by omega)
  have hcap : 4 ≤ cap ∧ cap ≤ maxLen := by
    rcases hown.2 with ⟨h, _⟩ | ⟨g', cap', cur, hv, _, _, h1, h2, _⟩
    · cases h
    · injection hv with _ _ h3; subst h3; exact ⟨h1, h2⟩
  unfold maxLen at hcap
  simp [pieceC, pieceA, pieceN] at e0 e1 e2 e3 e4 e5 e6 e7
  have HB := Lib.hid hb
  have CV : ∀ p : Regrown, Calls Try.prog 28 #[.slice (some ⟨g, 0, none⟩) 4 cap] (more w1 p) (Gives (more w1 p) (.agg #[.int .i64 3, .int .i64 10])) := by
    intro p
    have hcell : ∀ o, (more w1 p).cell? ⟨g, o, none⟩ = w1.cell? ⟨g, o, none⟩ := fun o => (more_below w1 p).cell hg
    have := cover_t exA exL g 4 cap hcap.1 (by omega) (more w1 p) (by rw [more_size]; omega) (fun k hk => by
      rcases (show k = 0 ∨ k = 1 ∨ k = 2 ∨ k = 3 by omega) with rfl | rfl | rfl | rfl
      · exact ⟨(hcell _).trans e0, (hcell _).trans e1⟩
      · exact ⟨(hcell _).trans e2, (hcell _).trans e3⟩
      · exact ⟨(hcell _).trans e4, (hcell _).trans e5⟩
      · exact ⟨(hcell _).trans e6, (hcell _).trans e7⟩)
    rw [show covK exA exL 4 = (3, 13) by decide] at this
    exact this
  have HV := Lib.hid CV
  clear hb hown hB CV
  go_wp2_with fail
  have hfs := field_span1
  refine wp_quiet_more (by kernel_rfl) (by kernel_rfl) ?_
  repeat (go_big_quiet_step (first | (go_at_call_of 25 (Value.agg #[.int .i64 0, .int .i64 4]); exact quiet_more (M1.out _)) | (go_at_call_of 25 (Value.agg #[.int .i64 4, .int .i64 4]); exact quiet_more (M2.out _)) | (go_at_call 26; exact quiet_more (M3.out _)) | (go_at_call 27; exact quiet_more (M4.out _)) | (go_at_call 28; exact quiet_more (HV.out _))))
  refine wpQuiet_nil ?_
  intro p
  go_wp2
  go_ret
  exact Gives.mk rfl (below_mo HB.out _)
end Go.Proofs.Ytigbdndjlkmemaa
