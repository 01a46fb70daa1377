/- Walk: the statement on a label that is put ahead of all steps. Condition: numbers fit. -/
import Derived.Test.YtajaglhlmoblnaaLiveApartM
import Derived.Test.YtajaglhlmoblnaaLiveMoreM
import Derived.Test.YtajaglhlmoblnaaLiveAwake
namespace Go.Proofs.Ytajaglhlmoblnaa
open Go.RowKit Go.Sort Go.Lib
set_option linter.unusedVariables false
set_option linter.unusedSimpArgs false
theorem neq_iv2 (a b c : Int) (w : World) : (binOp .neq 35 (.agg #[.int .i64 a, .int .i64 b, .int .i64 c]) (.agg #[.int .i64 a, .int .i64 b, .int .i64 c])).run Try.prog w = .ok (.bool false) w := by
  have h1 : Try.prog.stoodInHeld 35 = false := by kernel_rfl
  simp [go_sem, h1]
theorem put1_ok {l : LOp} {ops : Nat → LOp} (hl : l.ok) (h : ∀ k, (ops k).ok) : ∀ k, (put1 l ops k).ok
  | 0 => hl
  | k + 1 => h k
theorem wf_neg : wfI (-1) := by unfold wfI; decide
theorem lab_ok {f : Int} (h0 : 1 ≤ f) (h1 : f ≤ 100) : (lab f).ok := ⟨wf_neg, wf_neg, wf_neg, wf_neg, wf_neg, by
  have h2 : IntKind.i64.min = -9223372036854775808 := by decide
  have h3 : IntKind.i64.max = 9223372036854775807 := by decide
  unfold wfI lab
  simp only [Lit.wf, h2, h3, Bool.and_eq_true, decide_eq_true_eq]
  omega⟩
set_option maxRecDepth 100000 in
set_option maxHeartbeats 8000000 in
theorem liveApart_go (A : Option Addr) (X off N0 cap : Nat) (ops : Nat → LOp) (R0 : Int) (hA : 0 < N0 → A = some ⟨X, off, none⟩) (hcap0 : N0 ≤ cap) (hcm : cap ≤ 9223372036854775807) (hRr0 : -9223372036854775808 ≤ R0) (hRr1 : R0 ≤ 9223372036854775807) (hops : ∀ k, (ops k).ok) (w : World) (hO : ∀ k, k < N0 → OAt w X (off + k * 13) (ops k)) :
    Calls Try.prog 6 #[.slice A N0 cap, .int .i64 R0] w (Gives w (.bool true)) := by
  have AW := Lib.hid (fun W => awake_any W)
  have nq := neq_iv2
  obtain ⟨N, hN⟩ : ∃ N : Nat, N = min N0 60 := ⟨_, rfl⟩
  obtain ⟨R, hR⟩ : ∃ R : Int, R = min R0 300 := ⟨_, rfl⟩
  have hA' : 0 < N → A = some ⟨X, off, none⟩ := fun h => hA (by omega)
  have HO := Lib.hid (fun k (hk : k < N) => hO k (by omega))
  have IN := Lib.hid (fun W hO => intervals_any A X off N cap ops R hA' (by omega) (by omega) hcm (by omega) (by omega) (fun k _ => hops k) W hO)
  have IN2 := Lib.hid (fun g c f (hc : N + 1 ≤ c) (hm : c ≤ 9223372036854775807) (hf : (lab f).ok) W hO => intervals_any (some ⟨g, 0, none⟩) g 0 (N + 1) c (put1 (lab f) ops) R (fun _ => rfl) (by omega) hc hm (by omega) (by omega) (fun k _ => put1_ok hf hops k) W hO)
  have hN60 : N ≤ 60 := by omega
  have hNc : N ≤ cap := by omega
  have hR300 : R ≤ 300 := by omega
  have hR1 : -9223372036854775808 ≤ R := by omega
  replace hN := Lib.hid hN
  replace hR := Lib.hid hR
  clear hO hops
  go_enter Try.func6, Try.ntmps6
  go_upto_if 13 with fail
  go_cut [0] from 11 to 15 (fun t0 W => t0 = .slice A N cap ∧ W = w)
  case first =>
    by_cases h : 60 < N0
    · obtain rfl : N = 60 := by have := hN.out; omega
      obtain rfl := hA (by omega)
      go_wp2_with fail
      go_meet
      exact ⟨rfl, rfl⟩
    · obtain rfl : N = N0 := by have := hN.out; omega
      go_wp2_with fail
      go_meet
      exact ⟨rfl, rfl⟩
  case rest =>
  obtain ⟨rfl, hwc⟩ := hcut
  subst hwc
  go_upto_if 17 with fail
  go_cut [1] from 16 to 17 (fun t1 W => t1 = .int .i64 R ∧ W = wc)
  case first =>
    by_cases h : 300 < R0
    · obtain rfl : R = 300 := by have := hR.out; omega
      go_wp2_with fail
      go_meet
      exact ⟨rfl, rfl⟩
    · obtain rfl : R = R0 := by have := hR.out; omega
      go_wp2_with fail
      go_meet
      exact ⟨rfl, rfl⟩
  case rest =>
  obtain ⟨rfl, hwc⟩ := hcut
  subst hwc
  clear hN hR hA hcap0 hRr0 hRr1
  obtain ⟨w0, rfl⟩ : ∃ w0 : World, w0 = wc := ⟨_, rfl⟩
  go_wp2_with fail
  go_loopw [5, 6] (fun v5 v6 wr => ∃ (f i : Nat), 1 ≤ f ∧ f ≤ 100 ∧ i ≤ N ∧ v5 = .int .i64 f ∧ v6 = .int .i64 i ∧ w0 = wr ∧ ∀ k, k < i → (ops k).tgt ≠ f) (fun v5 v6 _ => (101 - (intOf v5).toNat) * 100 + (N - (intOf v6).toNat))
  case atStart => exact ⟨1, 0, by omega, by omega, by omega, rfl, rfl, rfl, fun k hk => by omega⟩
  case round =>
    obtain ⟨f, i, hf0, hf1, hi, rfl, rfl, rfl, hne⟩ := hrel
    have HNE := Lib.hid hne
    clear hne
    by_cases hiN : (i : Int) < N
    · obtain rfl := hA' (by omega)
      have hO := HO.out i (by omega)
      unfold OAt at hO
      obtain ⟨_, _, _, _, _, _, _, _, _, _, c10, _, _⟩ := hO
      by_cases ht : (ops i).tgt = f
      · rw [ht] at c10
        clear ht HNE IN IN2
        by_cases hf : f = 100
        · subst hf
          go_wp2_with (go_at_call 7; refine (AW.out _).mono ?_; rintro e w1 ⟨rfl, p2, rfl⟩)
          go_ret
          exact Gives.mk rfl (more_below _ _)
        · go_wp2_with fail
          go_roundw
          case rel => exact ⟨f + 1, 0, by omega, by omega, by omega, by go_num, by go_num, trivial, fun k hk => by omega⟩
          case measure => simp [intOf]; omega
      · have HS : Hid (∀ k, k < i + 1 → (ops k).tgt ≠ f) := Lib.hid (fun k hk => by
          by_cases e : k = i
          · rw [e]; exact ht
          · exact HNE.out k (by omega))
        have b1 : ((ops i).tgt == (f : Int)) = false := by simpa using ht
        generalize (ops i).tgt = tg at *
        clear HNE IN IN2
        go_wp2_with fail
        go_roundw
        case rel => exact ⟨f, i + 1, by omega, by omega, by omega, by go_num, by go_num, trivial, HS.out⟩
        case measure => simp [intOf]; omega
    · obtain rfl : i = N := by omega
      obtain ⟨g, cq, wB, hrun, hbB, hoB, hcq, hcqm⟩ := app_ops A X off i cap ops (lab f) hA' (by omega) w0 HO.out 31
      have HRUN := Lib.hid hrun
      have HBB := Lib.hid hbB
      have HOB := Lib.hid hoB
      clear hrun hbB hoB
      unfold lab LOp.cs at HRUN
      simp only at HRUN
      go_upto_region 15 with (at_builtin; refine Lib.wpList_append_run _ rfl _ _ _ _ rfl _ _ rfl rfl _ _ HRUN.out ?_)
      go_upto_region 16 with (first
        | (go_at_call 12; (with_reducible refine (IN.out _ ?_).mono ?_); (exact (fun k hk => (HO.out k hk).below HBB.out)); rintro e w1 ⟨A5, g5, c5, r1, rfl, ⟨p1, rfl⟩, hst1, h51, hg51, hc51, hm51, hrow1⟩; have HOB2 := Lib.hid (fun k hk => (HOB.out k hk).below (more_below wB p1)))
        | (go_at_call 12; (with_reducible refine (IN2.out _ _ (f : Int) hcq hcqm ?_ _ ?_).mono ?_); (exact lab_ok (by omega) (by omega)); (exact HOB2.out); rintro e w1 ⟨A6, g6, c6, r2, rfl, ⟨p2, rfl⟩, hst2, h52, hg52, hc52, hm52, hrow2⟩))
      have HK := Lib.hid (rowOk hR300 hst1)
      obtain rfl : r2 = r1.map upT := apart_rows HNE.out hst1 hst2
      have HR1 := Lib.hid (hrow1.below (more_below (more wB p1) p2))
      have HR2 := Lib.hid hrow2
      have HBW := Lib.hid (below_mo (below_mo HBB.out p1) p2)
      rw [List.length_map] at h52 hc52
      rw [List.length_map]
      have hrl := HK.out.len
      clear hst1 hst2 hrow1 hrow2 HNE HOB HOB2 HBB HRUN IN IN2 HO
      generalize more (more wB p1) p2 = wC at *
      go_wp2_with fail
      go_loopw [10] (fun v10 wr => ∃ j : Nat, j ≤ r1.length ∧ v10 = .int .i64 j ∧ Below wC.heap.size wC wr) (fun v10 _ => r1.length - (intOf v10).toNat)
      case atStart => exact ⟨0, by omega, rfl, Below.refl _ _⟩
      case round =>
        obtain ⟨j, hj, rfl, hb9⟩ := hrel
        have HB9 := Lib.hid hb9
        have hz9 := hb9.size
        by_cases hlt : (j : Int) < r1.length
        · obtain ⟨x, hx⟩ : ∃ x, r1[j]? = some x := ⟨_, List.getElem?_eq_getElem (by omega)⟩
          have hx2 : (r1.map upT)[j]? = some (upT x) := by rw [List.getElem?_map, hx]; rfl
          obtain ⟨rfl, _⟩ := h51 (by omega)
          obtain ⟨rfl, _⟩ := h52 (by omega)
          obtain ⟨a0, a1, a2, _⟩ := (HR1.out.below hb9) j x hx
          obtain ⟨d0, d1, d2, _⟩ := (HR2.out.below hb9) j _ hx2
          obtain ⟨g1', g2', g3', g4', g5'⟩ := HK.out.rng j x hx
          have s1 := cell_lt2 a0
          have s2 := cell_lt2 d0
          unfold upT at d0 d1 d2
          obtain ⟨xa, xb, xc⟩ := x
          simp only at a0 a1 a2 d0 d1 d2 g1' g2' g3' g4' g5'
          have w1 : IntKind.i64.wrap (xb + 1) = xb + 1 := by rw [IntKind.wrap_i64]; omega
          have w2 : IntKind.i64.wrap (xc + 1) = xc + 1 := by rw [IntKind.wrap_i64]; omega
          clear hb9 hx hx2
          go_upto_region 21 with fail
          refine wp_quiet_more (by kernel_rfl) (by kernel_rfl) ?_
          repeat (go_big_quiet_step (fail))
          refine wpQuiet_nil ?_
          intro p
          go_wp2_with fail
          go_roundw
          case rel => exact ⟨j + 1, by omega, by go_num, below_mo HB9.out p⟩
          case measure => simp [intOf]; omega
        · go_wp2_with (go_at_call 7; refine (AW.out _).mono ?_; rintro e w1 ⟨rfl, p3, rfl⟩)
          go_ret
          exact Gives.mk rfl (below_mo (below_next HBW.out HB9.out) _)
end Go.Proofs.Ytajaglhlmoblnaa
