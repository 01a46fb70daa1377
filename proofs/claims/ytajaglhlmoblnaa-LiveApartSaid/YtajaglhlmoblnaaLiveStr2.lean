/- Walk: stretch. Conditions: numbers fit. -/
import Derived.Test.YtajaglhlmoblnaaLiveStr
namespace Go.Proofs.Ytajaglhlmoblnaa
open Go.RowKit Go.Sort Go.Lib
set_option linter.unusedVariables false
set_option linter.unusedSimpArgs false
theorem RowAt.onto_new {w : World} {g : Nat} {l : List (Int × Int × Int)} (h : RowAt w g l) (o : Obj) : RowAt (w.alloc o) g l := h.below (below_al (Below.refl _ _) o)
theorem RowAt.mo {w : World} {g : Nat} {l : List (Int × Int × Int)} (h : RowAt w g l) (p : Regrown) : RowAt (more w p) g l := h.below (more_below w p)
set_option maxHeartbeats 2000000 in
theorem stretch_any (A : Option Addr) (g cap : Nat) (l : List (Int × Int × Int)) (lf lt : Int) (hA : 0 < l.length → A = some ⟨g, 0, none⟩) (hl : l.length ≤ 300) (hcap : l.length ≤ cap) (hcm : cap ≤ 9223372036854775807) (w : World) (hg : 0 < l.length → g < w.heap.size) (hR : RowAt w g l) :
    Calls Try.prog 16 #[.slice A l.length cap, .agg #[.int .i64 lf, .int .i64 lt]] w fun e w' => e = .returned (.bool (l.any (cond1 lf lt))) ∧ Onto g w w' ∧ RowAt w' g (l.map (st1 lf lt)) := by
  obtain ⟨n, hn⟩ : ∃ n, n = l.length := ⟨_, rfl⟩
  rw [← hn] at hA hl hcap hg ⊢
  replace hn := Lib.hid hn
  have HR := Lib.hid hR
  clear hR
  go_enter Try.func16, Try.ntmps16
  go_wp2_with fail
  go_loopw [5, 6, 7, 10] (fun v5 _ _ v10 wr => ∃ j : Nat, j ≤ n ∧ v10 = .int .i64 j ∧ v5 = .bool ((l.take j).any (cond1 lf lt)) ∧ Onto g (w.alloc (.cells #[.int .i64 lf, .int .i64 lt] 43)) wr ∧ RowAt wr g ((l.take j).map (st1 lf lt) ++ l.drop j)) (fun _ _ _ v10 _ => n - (intOf v10).toNat)
  case atStart => exact ⟨0, by omega, rfl, rfl, Onto.refl, by simpa using HR.out.onto_new _⟩
  case round =>
    obtain ⟨j, hj, rfl, rfl, ho, hr⟩ := hrel
    have HO := Lib.hid ho
    have HW := Lib.hid hr
    by_cases hlt : (j : Int) < n
    · obtain rfl := hA (by omega)
      have hgw := hg (by omega)
      obtain ⟨x, hx⟩ : ∃ x, l[j]? = some x := ⟨_, List.getElem?_eq_getElem (by have := hn.out; omega)⟩
      have hx0 : ((l.take j).map (st1 lf lt) ++ l.drop j)[j]? = some x := by
        have := hn.out
        rw [List.getElem?_append_right (by simp; omega), List.getElem?_drop]
        simp
        rw [show j + (j - min j l.length) = j by omega]
        exact hx
      obtain ⟨c0, c1, c2, z⟩ := hr j x hx0
      have k0 : wr.cell? ⟨w.heap.size, 0, none⟩ = some (.int .i64 lf) := (ho.cell (by simp) (by omega)).trans (by simp [alloc_cell])
      have k1 : wr.cell? ⟨w.heap.size, 1, none⟩ = some (.int .i64 lt) := (ho.cell (by simp) (by omega)).trans (by simp [alloc_cell])
      have HX := Lib.hid hx
      have HAN := Lib.hid (any_take l (cond1 lf lt) j x hx)
      have lw : w.heap.size < wr.heap.size := cell_lt2 k0
      have lg : g < wr.heap.size := cell_lt2 c0
      clear ho hr hx hx0
      obtain ⟨x0, xf, xt⟩ := x
      simp only at c0 c1 c2
      by_cases h1 : xf < lf ∧ lf ≤ xt ∧ xt < lt
      · have hc : cond1 lf lt (x0, xf, xt) = true := by unfold cond1; exact decide_eq_true h1
        have HS := Lib.hid (fun p => ((HW.out.step HX.out hc).mo p))
        rw [hc, Bool.or_true] at HAN
        obtain ⟨h1, h2, h3⟩ := h1
        go_upto_region 6 with fail
        refine wp_quiet_more (by kernel_rfl) (by kernel_rfl) ?_
        repeat (go_big_quiet_step (fail))
        refine wpQuiet_nil ?_
        intro p
        go_wp2_with fail
        go_roundw
        case rel => exact ⟨j + 1, by omega, by go_num, by rw [HAN.out], (HO.out.set _ _).more p, HS.out p⟩
        case measure => simp [intOf]; omega
      · have hc : cond1 lf lt (x0, xf, xt) = false := by unfold cond1; exact decide_eq_false h1
        have h4 : ¬ xf < lf ∨ (xf < lf ∧ ¬ lf ≤ xt) ∨ (xf < lf ∧ lf ≤ xt ∧ ¬ xt < lt) := by omega
        clear h1
        rcases h4 with h1 | ⟨h1, h2⟩ | ⟨h1, h2, h3⟩
        all_goals
          have HS := Lib.hid (fun p => ((HW.out.stay HX.out hc).mo p))
          rw [hc, Bool.or_false] at HAN
          go_upto_region 6 with fail
          refine wp_quiet_more (by kernel_rfl) (by kernel_rfl) ?_
          repeat (go_big_quiet_step (fail))
          refine wpQuiet_nil ?_
          intro p
          go_wp2_with fail
          go_roundw
          case rel => exact ⟨j + 1, by omega, by go_num, by rw [HAN.out], HO.out.more p, HS.out p⟩
          case measure => simp [intOf]; omega
    · obtain rfl : j = n := by omega
      go_wp2_with fail
      go_ret
      have e1 : l.take j = l := List.take_of_length_le (by have := hn.out; omega)
      have e2 : l.drop j = [] := List.drop_of_length_le (by have := hn.out; omega)
      rw [e1, e2, List.append_nil] at HW
      refine ⟨by rw [e1]; rfl, ?_, HW.out⟩
      exact Onto.trans (Onto.refl.alloc _) HO.out
end Go.Proofs.Ytajaglhlmoblnaa
