/- Walk: the statement on where registers are needed. Condition: numbers fit. -/
import Derived.Test.YtajaglhlmoblnaaLiveTouch
import Derived.Test.YtajaglhlmoblnaaLiveAwake
namespace Go.Proofs.Ytajaglhlmoblnaa
open Go.RowKit Go.Sort Go.Lib
set_option linter.unusedVariables false
set_option linter.unusedSimpArgs false
theorem neq_iv (a b c : Int) (w : World) : (binOp .neq 35 (.agg #[.int .i64 a, .int .i64 b, .int .i64 c]) (.agg #[.int .i64 a, .int .i64 b, .int .i64 c])).run Try.prog w = .ok (.bool false) w := by
  have h1 : Try.prog.stoodInHeld 35 = false := by kernel_rfl
  simp [go_sem, h1]
theorem tou_yes {o : LOp} {r : Int} (h : touB o r = true) : o.a = r ∨ ¬ o.a = r ∧ (o.b = r ∨ ¬ o.b = r ∧ (o.c = r ∨ ¬ o.c = r ∧ (o.d = r ∨ ¬ o.d = r ∧ o.d2 = r))) := by
  unfold touB at h
  have := of_decide_eq_true h
  omega
theorem tou_no {o : LOp} {r : Int} (h : touB o r = false) : ¬ o.a = r ∧ ¬ o.b = r ∧ ¬ o.c = r ∧ ¬ o.d = r ∧ ¬ o.d2 = r := by
  unfold touB at h
  have := of_decide_eq_false h
  omega
/-- the interval of one register, while it is reckoned. -/
structure XW (w wr : World) (g : Nat) (r : Int) (p : Int × Int) : Prop where
  below : Below w.heap.size w wr
  c0 : wr.cell? ⟨g, 0, none⟩ = some (.int .i64 r)
  c1 : wr.cell? ⟨g, 1, none⟩ = some (.int .i64 p.1)
  c2 : wr.cell? ⟨g, 2, none⟩ = some (.int .i64 p.2)
  z : ∀ k, wr.frozen? ⟨g, k, none⟩ = false
theorem XW.next {w wr wy : World} {g : Nat} {r : Int} {p : Int × Int} (h : XW w wr g r p) (hb : Below wr.heap.size wr wy) : XW w wy g r p :=
  ⟨below_next h.below hb, cell_below h.c0 hb, cell_below h.c1 hb, cell_below h.c2 hb, fun k => by rw [hb.frozen (p := ⟨g, k, none⟩) (cell_lt2 h.c0)]; exact h.z k⟩
theorem XW.set1 {w wr : World} {g : Nat} {r : Int} {p : Int × Int} (h : XW w wr g r p) (hg : w.heap.size ≤ g) (x : Int) : XW w (wr.setCell ⟨g, 1, none⟩ (.int .i64 x)) g r (x, p.2) :=
  ⟨below_st h.below hg _, by rw [World.cell?_setCell_other _ _ _ _ (by simp)]; exact h.c0, World.cell?_setCell_same _ _ _ h.c1, by rw [World.cell?_setCell_other _ _ _ _ (by simp)]; exact h.c2, fun k => by rw [World.frozen?_setCell]; exact h.z k⟩
theorem XW.set2 {w wr : World} {g : Nat} {r : Int} {p : Int × Int} (h : XW w wr g r p) (hg : w.heap.size ≤ g) (x : Int) : XW w (wr.setCell ⟨g, 2, none⟩ (.int .i64 x)) g r (p.1, x) :=
  ⟨below_st h.below hg _, by rw [World.cell?_setCell_other _ _ _ _ (by simp)]; exact h.c0, by rw [World.cell?_setCell_other _ _ _ _ (by simp)]; exact h.c1, World.cell?_setCell_same _ _ _ h.c2, fun k => by rw [World.frozen?_setCell]; exact h.z k⟩
set_option maxRecDepth 100000 in
set_option maxHeartbeats 8000000 in
theorem liveIntervals_go (A : Option Addr) (X off N0 cap : Nat) (ops : Nat → LOp) (R0 : Int) (hA : 0 < N0 → A = some ⟨X, off, none⟩) (hcap0 : N0 ≤ cap) (hcm : cap ≤ 9223372036854775807) (hRr0 : -9223372036854775808 ≤ R0) (hRr1 : R0 ≤ 9223372036854775807) (hops : ∀ k, (ops k).ok) (w : World) (hO : ∀ k, k < N0 → OAt w X (off + k * 13) (ops k)) :
    Calls Try.prog 4 #[.slice A N0 cap, .int .i64 R0] w (Gives w (.bool true)) := by
  have AW := Lib.hid (fun W => awake_any W)
  have HOK := Lib.hid hops
  have nq := neq_iv
  obtain ⟨N, hN⟩ : ∃ N : Nat, N = min N0 60 := ⟨_, rfl⟩
  obtain ⟨R, hR⟩ : ∃ R : Int, R = min R0 300 := ⟨_, rfl⟩
  have hA' : 0 < N → A = some ⟨X, off, none⟩ := fun h => hA (by omega)
  have HO := Lib.hid (fun k (hk : k < N) => hO k (by omega))
  have IN := Lib.hid (fun W hO => intervals_any A X off N cap ops R hA' (by omega) (by omega) hcm (by omega) (by omega) (fun k _ => hops k) W hO)
  have hN60 : N ≤ 60 := by omega
  have hNc : N ≤ cap := by omega
  have hR300 : R ≤ 300 := by omega
  have hR1 : -9223372036854775808 ≤ R := by omega
  replace hN := Lib.hid hN
  replace hR := Lib.hid hR
  clear hO hops
  go_enter Try.func4, Try.ntmps4
  go_upto_if 19 with fail
  go_cut [0] from 17 to 21 (fun t0 W => t0 = .slice A N cap ∧ W = w)
  case first =>
    by_cases h : 60 < N0
    · obtain rfl : N = 60 := by have := hN.out; omega
      obtain rfl := hA (by omega)
      go_wp2_with fail
      go_meet
      exact ⟨rfl, rfl⟩
    · obtain rfl : N = N0 := by have := hN.out; omega
      go_wp2_with fail
      go_meet
      exact ⟨rfl, rfl⟩
  case rest =>
  obtain ⟨rfl, hwc⟩ := hcut
  subst hwc
  go_upto_if 23 with fail
  go_cut [1] from 22 to 23 (fun t1 W => t1 = .int .i64 R ∧ W = wc)
  case first =>
    by_cases h : 300 < R0
    · obtain rfl : R = 300 := by have := hR.out; omega
      go_wp2_with fail
      go_meet
      exact ⟨rfl, rfl⟩
    · obtain rfl : R = R0 := by have := hR.out; omega
      go_wp2_with fail
      go_meet
      exact ⟨rfl, rfl⟩
  case rest =>
  obtain ⟨rfl, hwc⟩ := hcut
  subst hwc
  clear hN hR hA hcap0 hRr0 hRr1
  go_upto_region 6 with (go_at_call 12; refine (IN.out _ HO.out).mono ?_; rintro e w1 ⟨A5, g5, c5, rr, rfl, ⟨p1, rfl⟩, hst, h5, hg5, hc5, hcm5, hrow⟩)
  have HST := Lib.hid hst
  have HOA := Lib.hid (fun k hk => (HO.out k hk).below (more_below wc p1))
  have HBA := Lib.hid (more_below wc p1)
  have HRR := Lib.hid hrow
  have hXw : 0 < N → X < wc.heap.size := fun h => cell_lt2 (HO.out 0 h).1
  have hzA : wc.heap.size ≤ (more wc p1).heap.size := (more_below wc p1).size
  generalize more wc p1 = wA at *
  clear hst hrow HO IN
  obtain ⟨M, hM⟩ : ∃ M : Nat, M = R.toNat := ⟨_, rfl⟩
  have HL : Hid (Stops (lpN ops N) (outN (ivsN R ops N) M) rr) := Lib.hid (by rw [hM]; exact HST.out)
  clear HST
  obtain ⟨i0, hi, hz0, hz1, hz2⟩ := info_parts info_iv
  go_wp2_with fail
  go_loopw [6, 7] (fun v6 v7 wr => ∃ q : Nat, q ≤ M ∧ v7 = .int .i64 q ∧ Below wA.heap.size wA wr ∧ wr.ownsRow wA.heap.size 35 3 v6 (outN (ivsN R ops N) q).length ((outN (ivsN R ops N) q).flatMap ivC)) (fun _ v7 _ => M - (intOf v7).toNat)
  case atStart => exact ⟨0, by omega, rfl, below_al (Below.refl _ _) _, World.ownsRow_lit wA #[] 0 (Nat.le_refl _) (by unfold maxLen; omega) rfl⟩
  case round =>
    obtain ⟨q, hq, rfl, hb, how⟩ := hrel
    have HB := Lib.hid hb
    have HOW := Lib.hid how
    have hzr := hb.size
    clear hb how
    obtain ⟨wo, rfl⟩ : ∃ wo : World, wo = wr := ⟨_, rfl⟩
    by_cases hqR : (q : Int) < R
    · have HIV := Lib.hid (fun k => ivs_at R ops k q (by omega) hqR)
      have HRG := Lib.hid (ivs_rng R ops q (by omega) hqR N)
      have HOR := Lib.hid (fun k hk => (HOA.out k hk).below HB.out)
      go_wp2_with fail
      go_loopw [9] (fun v9 w3 => ∃ k : Nat, k ≤ N ∧ v9 = .int .i64 k ∧ XW wo w3 wo.heap.size q (fl (ivsN R ops k q))) (fun v9 _ => N - (intOf v9).toNat)
      case atStart => exact ⟨0, by omega, rfl, below_al (Below.refl _ _) _, by simp [go_sem], by simp [go_sem, ivsN, fl], by simp [go_sem, ivsN, fl], fun k => by simp [go_sem]⟩
      case round =>
        obtain ⟨k, hk, rfl, hx⟩ := hrel
        have HX := Lib.hid hx
        clear hx
        by_cases hlt : (k : Int) < N
        · obtain rfl := hA' (by omega)
          have hO := (HOR.out k (by omega)).below HX.out.below
          unfold OAt at hO
          obtain ⟨c0, c1, c2, c3, c4, c5', c6, c7, c8, c9, c10, c11, c12⟩ := hO
          have hT1 := Lib.hid (HIV.out k)
          obtain ⟨o, ho⟩ : ∃ o, o = ops k := ⟨_, rfl⟩
          rw [← ho] at c0 c1 c2 c3 c4 c5' c6 c7 c8 c9 c10 c11 c12 hT1
          clear ho
          go_upto_region 15 with fail
          refine wp_letter (R := fun W => ∃ g, XW wo W wo.heap.size q (fl (ivsN R ops k q)) ∧ g = wr.heap.size ∧ W.cell? ⟨g, 1, none⟩ = some (.int .i64 o.d) ∧ W.cell? ⟨g, 2, none⟩ = some (.int .i64 o.d2) ∧ W.cell? ⟨g, 3, none⟩ = some (.int .i64 o.a) ∧ W.cell? ⟨g, 4, none⟩ = some (.int .i64 o.b) ∧ W.cell? ⟨g, 5, none⟩ = some (.int .i64 o.c)) ⟨_, HX.out.next (below_al (Below.refl _ _) _), rfl, by simp [go_sem], by simp [go_sem], by simp [go_sem], by simp [go_sem], by simp [go_sem]⟩ ?_
          clear c0 c1 c2 c3 c4 c5' c6 c7 c8 c9 c10 c11 c12
          rintro w4 ⟨g, hx4, rfl, e1, e2, e3, e4, e5⟩
          have HX4 := Lib.hid hx4
          clear hx4
          go_cut [72] from 45 to 72 (fun t72 W => t72 = .bool (!touB o q) ∧ W = w4)
          case first =>
            cases ht : touB o q with
            | true =>
              rcases tou_yes ht with h | ⟨h, h2 | ⟨h2, h3 | ⟨h3, h4 | ⟨h4, h6⟩⟩⟩⟩
              · rw [h] at e3
                clear h
                go_wp2_with fail
                go_meet
                exact ⟨by rw [ht]; rfl, rfl⟩
              · rw [h2] at e4
                clear h2
                have b1 : (o.a != (q : Int)) = true := by simpa using h
                go_wp2_with fail
                go_meet
                exact ⟨by rw [ht]; rfl, rfl⟩
              · rw [h3] at e5
                clear h3
                have b1 : (o.a != (q : Int)) = true := by simpa using h
                have b2 : (o.b != (q : Int)) = true := by simpa using h2
                go_wp2_with fail
                go_meet
                exact ⟨by rw [ht]; rfl, rfl⟩
              · rw [h4] at e1
                clear h4
                have b1 : (o.a != (q : Int)) = true := by simpa using h
                have b2 : (o.b != (q : Int)) = true := by simpa using h2
                have b3 : (o.c != (q : Int)) = true := by simpa using h3
                go_wp2_with fail
                go_meet
                exact ⟨by rw [ht]; rfl, rfl⟩
              · rw [h6] at e2
                clear h6
                have b1 : (o.a != (q : Int)) = true := by simpa using h
                have b2 : (o.b != (q : Int)) = true := by simpa using h2
                have b3 : (o.c != (q : Int)) = true := by simpa using h3
                have b4 : (o.d != (q : Int)) = true := by simpa using h4
                go_wp2_with fail
                go_meet
                exact ⟨by rw [ht]; rfl, rfl⟩
            | false =>
              obtain ⟨h, h2, h3, h4, h6⟩ := tou_no ht
              have b1 : (o.a != (q : Int)) = true := by simpa using h
              have b2 : (o.b != (q : Int)) = true := by simpa using h2
              have b3 : (o.c != (q : Int)) = true := by simpa using h3
              have b4 : (o.d != (q : Int)) = true := by simpa using h4
              have b6 : (o.d2 != (q : Int)) = true := by simpa using h6
              go_wp2_with fail
              go_meet
              exact ⟨by rw [ht]; rfl, rfl⟩
          case rest =>
          obtain ⟨rfl, hwc⟩ := hcut
          subst hwc
          clear e1 e2 e3 e4 e5
          have x0 := HX4.out.c0
          have x1 := HX4.out.c1
          have x2 := HX4.out.c2
          have xz := HX4.out.z
          have xlt := cell_lt2 x0
          cases ht : touB o q with
          | false =>
            rw [ht] at hT1
            have hT2 := hT1.out
            rw [if_neg (by decide)] at hT2
            replace hT1 := Lib.hid hT2
            clear hT2
            go_wp2_with fail
            go_roundw
            case rel => exact ⟨k + 1, by omega, by go_num, by rw [hT1.out]; exact HX4.out⟩
            case measure => simp [intOf]; omega
          | true =>
            rw [ht] at hT1
            have hT2 := hT1.out
            rw [if_pos rfl] at hT2
            replace hT1 := Lib.hid hT2
            clear hT2
            cases hs : ivsN R ops k q with
            | none =>
              rw [hs] at hT1 x1 x2 HX4
              have HX5 := Lib.hid ((HX4.out.set1 (Nat.le_refl _) k).set2 (Nat.le_refl _) k)
              unfold fl at x1 x2
              simp only at x1 x2
              go_wp2_with fail
              go_roundw
              case rel => exact ⟨k + 1, by omega, by go_num, by rw [hT1.out]; exact HX5.out⟩
              case measure => simp [intOf]; omega
            | some ft =>
              obtain ⟨f, t⟩ := ft
              rw [hs] at hT1 x1 x2 HX4
              have HX5 := Lib.hid (HX4.out.set2 (Nat.le_refl _) k)
              unfold fl at x1 x2
              simp only at x1 x2
              have hf0 := (ivs_rng R ops q (by omega) hqR k f t hs).1
              go_wp2_with fail
              go_roundw
              case rel => exact ⟨k + 1, by omega, by go_num, by rw [hT1.out]; exact HX5.out⟩
              case measure => simp [intOf]; omega
        · obtain rfl : k = N := by omega
          have x0 := HX.out.c0
          have x1 := HX.out.c1
          have x2 := HX.out.c2
          have xz := HX.out.z
          have xlt := cell_lt2 x0
          have HB3 := Lib.hid (below_next HB.out HX.out.below)
          have HOW3 := Lib.hid (owns_later HOW.out HX.out.below)
          cases hs : ivsN R ops k q with
          | none =>
            have HS := Lib.hid (outN_none hs)
            rw [hs] at x1 x2
            unfold fl at x1 x2
            simp only at x1 x2
            go_wp2_with fail
            go_roundw
            case rel => exact ⟨q + 1, by omega, by go_num, HB3.out, by rw [HS.out]; exact HOW3.out⟩
            case measure => simp [intOf]; omega
          | some ft =>
            obtain ⟨f, t⟩ := ft
            have HS := Lib.hid (outN_some hs)
            rw [hs] at x1 x2
            unfold fl at x1 x2
            simp only at x1 x2
            have hf0 := (HRG.out f t hs).1
            have hlen := outN_len (ivsN R ops k) q
            clear HOW
            have HE : Hid ((outN (ivsN R ops k) (q + 1)).length = (outN (ivsN R ops k) q).length + 1 ∧ (outN (ivsN R ops k) (q + 1)).flatMap ivC = (outN (ivsN R ops k) q).flatMap ivC ++ [.int .i64 q, .int .i64 f, .int .i64 t]) := Lib.hid (by
              rw [HS.out, List.flatMap_append]
              exact ⟨by simp, rfl⟩)
            generalize (outN (ivsN R ops k) q).length = nl at *
            generalize (outN (ivsN R ops k) q).flatMap ivC = cs at *
            clear HS hs
            have hszw : wA.heap.size ≤ wr.heap.size := HB3.out.size
            go_wp2_with (at_builtin; refine wpList_append_own _ rfl _ _ 32 rfl wA.heap.size 35 i0 (.agg #[.int .i64 0, .int .i64 0, .int .i64 0]) 3 24 Try.underlying32 hi hz0 hz1 hz2 rfl (by decide) _ _ _ rfl (HOW3.out.alloc _) ⟨wr.heap.size, 0, none⟩ 1 1 [.int .i64 q, .int .i64 f, .int .i64 t] rfl rfl ?a1 ?a2 ?a3 ?a4 ?a5 ?_)
            case a2 => exact ⟨rfl, rfl, rfl⟩
            case a3 => unfold maxLen; omega
            case a4 => omega
            case a5 => omega
            intro v' w' own grow hnil
            have HB2 := Lib.hid (own_below (below_al HB3.out _) (HOW3.out.alloc _) grow (Nat.le_refl _))
            clear grow hnil
            go_wp2_with fail
            go_roundw
            case rel => exact ⟨q + 1, by omega, by go_num, HB2.out, by rw [HE.out.1, HE.out.2]; exact own⟩
            case measure => simp [intOf]; omega
    · have hqm : q = M := by omega
      subst hqm
      have HOB := Lib.hid (fun k hk => (HOA.out k hk).below HB.out)
      have HRB := Lib.hid (HRR.out.below HB.out)
      have HBW := Lib.hid (below_next HBA.out HB.out)
      obtain ⟨A1, g1, c1, rfl, hA1, hg1, hg2, hc1, hcm1, hrow1⟩ := owns_rowAt HOW.out hzr
      have HR1 := Lib.hid hrow1
      have hL0 := outN_len (ivsN R ops N) q
      have HATI := Lib.hid (fun k t => top_rng ops t k)
      have hlle := lpN_le ops
      have HLE := Lib.hid (fun x hx => Int.le_trans (hlle N x hx) (show (N : Int) ≤ 1000 by omega))
      have hne5 : 0 < rr.length → g5 ≠ g1 := fun h => by have := (h5 h).2; omega
      have hneX : 0 < N → X ≠ g1 := fun h => by have := hXw h; omega
      clear hlle hrow1 HOW HRR HOA HBA hi hz0 hz1 hz2 hXw hg5
      generalize outN (ivsN R ops N) q = L0 at *
      have hcmA : c1 ≤ 9223372036854775807 := hcm1
      go_wp2_with fail
      go_loopg [11] (pot L0 + 1) (fun gg v11 w5 => ∃ (l : List Tri) (b : Bool), v11 = .bool b ∧ l.length = L0.length ∧ (pot l + (if b then 1 else 0)) ≤ gg ∧ Onto g1 wo w5 ∧ RowAt w5 g1 l ∧ (∀ r, Stops (lpN ops N) l r → Stops (lpN ops N) L0 r) ∧ (b = false → anyM (lpN ops N) l = false))
      case atStart => exact ⟨L0, true, rfl, rfl, by simp, Onto.refl, HR1.out, fun r h => h, fun h => by cases h⟩
      case round =>
        obtain ⟨l, b, rfl, hln, hgg, ho, hr, hst, hbf⟩ := hrel
        have HO5 := Lib.hid ho
        have HR5 := Lib.hid hr
        have HST := Lib.hid hst
        have HBF := Lib.hid hbf
        have hs5 := ho.size
        clear ho hr hst hbf HR1
        cases b with
        | false =>
          have hrr : rr = l := HL.out.unique (HST.out l (.stop (HBF.out rfl)))
          subst hrr
          clear HL HST HBF
          go_wp2_with fail
          go_loopw [16] (fun v16 w9 => ∃ j : Nat, j ≤ rr.length ∧ v16 = .int .i64 j ∧ Below wr.heap.size wr w9) (fun v16 _ => rr.length - (intOf v16).toNat)
          case atStart => exact ⟨0, by omega, rfl, Below.refl _ _⟩
          case round =>
            obtain ⟨j, hj, rfl, hb9⟩ := hrel
            have HB9 := Lib.hid hb9
            by_cases hlt : (j : Int) < rr.length
            · obtain ⟨x, hx⟩ : ∃ x, rr[j]? = some x := ⟨_, List.getElem?_eq_getElem (by omega)⟩
              obtain ⟨rfl, _⟩ := h5 (by omega)
              obtain ⟨rfl, _⟩ := hA1 (by omega)
              obtain ⟨a0, a1, a2, _⟩ := ((HRB.out.onto HO5.out (hne5 (by omega))).below hb9) j x hx
              obtain ⟨d0, d1, d2, _⟩ := (HR5.out.below hb9) j x hx
              have s1 := cell_lt2 a0
              have s2 := cell_lt2 d0
              obtain ⟨xa, xb, xc⟩ := x
              simp only at a0 a1 a2 d0 d1 d2
              clear hb9 hx
              go_upto_region 45 with fail
              refine wp_quiet_more (by kernel_rfl) (by kernel_rfl) ?_
              repeat (go_big_quiet_step (fail))
              refine wpQuiet_nil ?_
              intro p
              go_wp2_with fail
              go_roundw
              case rel => exact ⟨j + 1, by omega, by go_num, below_mo HB9.out p⟩
              case measure => simp [intOf]; omega
            · go_wp2_with (go_at_call 7; refine (AW.out _).mono ?_; rintro e w1 ⟨rfl, p2, rfl⟩)
              go_ret
              exact Gives.mk rfl (below_mo (below_next (HO5.out.under HBW.out (by omega)) HB9.out) _)
        | true =>
          go_wp2_with fail
          go_loopw [11, 12] (fun v11 v12 w6 => ∃ i : Nat, i ≤ N ∧ v12 = .int .i64 i ∧ v11 = .bool (anyM (lpN ops i) l) ∧ Onto g1 wo w6 ∧ RowAt w6 g1 (pass (lpN ops i) l)) (fun _ v12 _ => N - (intOf v12).toNat)
          case atStart => exact ⟨0, by omega, rfl, rfl, HO5.out, by simpa [pass, lpN] using HR5.out⟩
          case round =>
            obtain ⟨i, hi', rfl, rfl, ho, hr⟩ := hrel
            have HO6 := Lib.hid ho
            have HR6 := Lib.hid hr
            have hs6 := ho.size
            clear ho hr HO5 HR5
            by_cases hlt : (i : Int) < N
            · obtain rfl := hA' (by omega)
              obtain ⟨wi, rfl⟩ : ∃ wi : World, wi = wr := ⟨_, rfl⟩
              have HOI := Lib.hid (fun k hk => (HOB.out k hk).onto HO6.out (hneX (by omega)))
              have hO := HOI.out i (by omega)
              unfold OAt at hO
              obtain ⟨c0, _, _, _, _, _, _, _, _, _, c10, _, _⟩ := hO
              have hX2 := cell_lt2 c0
              have hT := Lib.hid (HATI.out i (ops i).tgt)
              have E1 := Lib.hid (lp_skip ops i)
              have E2 := Lib.hid (lp_none ops i)
              have E3 := Lib.hid (lp_some ops i)
              have HTY := Lib.hid (fun k h1 h2 => top_yes ops (ops i).tgt k h1 h2)
              have HTN := Lib.hid (fun k h1 => top_no ops (ops i).tgt k h1)
              have hpl := pass_len (lpN ops i) l
              generalize hpL : pass (lpN ops i) l = pl at *
              generalize haM : anyM (lpN ops i) l = am at *
              replace hpL := Lib.hid hpL
              replace haM := Lib.hid haM
              obtain ⟨kd, hkd⟩ : ∃ kd, kd = (ops i).k := ⟨_, rfl⟩
              obtain ⟨tg, htg⟩ : ∃ tg, tg = (ops i).tgt := ⟨_, rfl⟩
              rw [← hkd] at c0
              rw [← htg] at c10 hT E2 E3 HTY HTN
              have hJ : isJ (ops i) = decide (kd = 15 ∨ kd = 16) := by rw [hkd]; rfl
              rw [hJ] at E1 E3
              clear hkd htg hJ
              go_upto_region 27 with fail
              go_cut [107] from 94 to 107 (fun t107 W => t107 = .bool (!decide (kd = 15 ∨ kd = 16)) ∧ W = wi)
              case first =>
                by_cases h15 : kd = 15
                · subst h15
                  go_wp2_with fail
                  go_meet
                  exact ⟨by simp, rfl⟩
                · by_cases h16 : kd = 16
                  · subst h16
                    go_wp2_with fail
                    go_meet
                    exact ⟨by simp, rfl⟩
                  · have b15 : (kd != 15) = true := by simpa using h15
                    have b16 : (kd != 16) = true := by simpa using h16
                    go_wp2_with fail
                    go_meet
                    exact ⟨by simp [h15, h16], rfl⟩
              case rest =>
              obtain ⟨rfl, hwc⟩ := hcut
              subst hwc
              clear c0
              generalize decide (kd = 15 ∨ kd = 16) = jj at *
              cases jj with
              | false =>
                have e1 := E1.out rfl
                go_wp2_with fail
                go_roundw
                case rel => exact ⟨i + 1, by omega, by go_num, by rw [e1, haM.out], HO6.out, by rw [e1, hpL.out]; exact HR6.out⟩
                case measure => simp [intOf]; omega
              | true =>
                clear E1
                go_wp2_with fail
                go_loopw [13, 14] (fun v13 v14 w7 => ∃ k : Nat, k ≤ i ∧ v14 = .int .i64 k ∧ v13 = .int .i64 (topI (atN ops k tg)) ∧ Below wc.heap.size wc w7 ∧ Onto g1 wo w7) (fun _ v14 _ => i - (intOf v14).toNat)
                case atStart => exact ⟨0, by omega, rfl, rfl, Below.refl _ _, HO6.out⟩
                case round =>
                  obtain ⟨k, hk, rfl, rfl, hb7, ho7⟩ := hrel
                  have HB7 := Lib.hid hb7
                  have HO7 := Lib.hid ho7
                  clear ho7
                  by_cases hlt2 : (k : Int) < i
                  · have hO2 := (HOI.out k (by omega)).below hb7
                    have f10 := cell_below c10 hb7
                    unfold OAt at hO2
                    obtain ⟨d0, _, _, _, _, _, _, _, _, _, d10, _, _⟩ := hO2
                    have hX3 := cell_lt2 d0
                    have HY := Lib.hid (HTY.out k)
                    have HNo := Lib.hid (HTN.out k)
                    clear HTY HTN hb7 c10 HL HRB HOB HOI HATI
                    generalize (ops k).k = kd2 at *
                    generalize (ops k).tgt = tg2 at *
                    by_cases h14 : kd2 = 14
                    · by_cases htt : tg2 = tg
                      · have e := HY.out h14 htt
                        rw [h14] at d0
                        rw [htt] at d10
                        clear h14 htt HY HNo
                        go_upto_region 32 with fail
                        refine wp_quiet_more (by kernel_rfl) (by kernel_rfl) ?_
                        repeat (go_big_quiet_step (fail))
                        refine wpQuiet_nil ?_
                        intro p
                        go_wp2_with fail
                        go_roundw
                        case rel => exact ⟨k + 1, by omega, by go_num, by rw [e], below_mo HB7.out p, HO7.out.more p⟩
                        case measure => simp [intOf]; omega
                      · have e := HNo.out (.inr htt)
                        rw [h14] at d0
                        clear h14 HY HNo
                        have b1 : (tg2 == tg) = false := by simpa using htt
                        go_upto_region 32 with fail
                        refine wp_quiet_more (by kernel_rfl) (by kernel_rfl) ?_
                        repeat (go_big_quiet_step (fail))
                        refine wpQuiet_nil ?_
                        intro p
                        go_wp2_with fail
                        go_roundw
                        case rel => exact ⟨k + 1, by omega, by go_num, by rw [e], below_mo HB7.out p, HO7.out.more p⟩
                        case measure => simp [intOf]; omega
                    · have e := HNo.out (.inl h14)
                      clear HY HNo
                      have b1 : (kd2 == 14) = false := by simpa using h14
                      go_upto_region 32 with fail
                      refine wp_quiet_more (by kernel_rfl) (by kernel_rfl) ?_
                      repeat (go_big_quiet_step (fail))
                      refine wpQuiet_nil ?_
                      intro p
                      go_wp2_with fail
                      go_roundw
                      case rel => exact ⟨k + 1, by omega, by go_num, by rw [e], below_mo HB7.out p, HO7.out.more p⟩
                      case measure => simp [intOf]; omega
                  · obtain rfl : k = i := by omega
                    have HR7 := Lib.hid (HR6.out.below hb7)
                    clear HTY HTN hb7 HL HRB HOB HOI HATI HB7 HR6 HO6 c10
                    generalize topI (atN ops k tg) = tp at *
                    have hT0 := hT.out
                    have hTm : tp ≤ 60 := by omega
                    have hTl : -1 ≤ tp := hT0.1
                    clear hT0 hT
                    have hpL2 : pl.length = L0.length := by omega
                    obtain ⟨wk, rfl⟩ : ∃ wk : World, wk = wr := ⟨_, rfl⟩
                    go_wp2_with fail
                    go_loopw [11, 15] (fun v11 v15 w8 => ∃ j : Nat, j ≤ L0.length ∧ v15 = .int .i64 j ∧ v11 = .bool (am || (pl.take j).any (cond1 tp k)) ∧ Onto g1 wo w8 ∧ RowAt w8 g1 ((pl.take j).map (st1 tp k) ++ pl.drop j) ∧ (tp < 0 → j = 0)) (fun _ v15 _ => L0.length - (intOf v15).toNat)
                    case atStart => exact ⟨0, by omega, rfl, by simp, HO7.out, by simpa using HR7.out, fun _ => rfl⟩
                    case round =>
                      obtain ⟨j, hj, rfl, rfl, ho8, hr8, hj0⟩ := hrel
                      have HO8 := Lib.hid ho8
                      have HW := Lib.hid hr8
                      clear HO7 HR7
                      by_cases hjl : (j : Int) < L0.length
                      · by_cases htp : 0 ≤ tp
                        · obtain ⟨rfl, _⟩ := hA1 (by omega)
                          obtain ⟨x, hx⟩ : ∃ x, pl[j]? = some x := ⟨_, List.getElem?_eq_getElem (by omega)⟩
                          have hx0 : ((pl.take j).map (st1 tp k) ++ pl.drop j)[j]? = some x := by
                            rw [List.getElem?_append_right (by simp; omega), List.getElem?_drop]
                            simp
                            rw [show j + (j - min j pl.length) = j by omega]
                            exact hx
                          obtain ⟨a0, a1, a2, z⟩ := hr8 j x hx0
                          have HX := Lib.hid hx
                          have HAN := Lib.hid (any_take pl (cond1 tp k) j x hx)
                          have lg : g1 < wr.heap.size := cell_lt2 a0
                          clear ho8 hr8 hx hx0 hj0
                          obtain ⟨x0, xf, xt⟩ := x
                          simp only at a0 a1 a2
                          by_cases h1 : xf < tp ∧ tp ≤ xt ∧ xt < k
                          · have hc : cond1 tp k (x0, xf, xt) = true := by unfold cond1; exact decide_eq_true h1
                            have HS := Lib.hid (HW.out.step HX.out hc)
                            rw [hc, Bool.or_true] at HAN
                            obtain ⟨h1, h2, h3⟩ := h1
                            go_wp2_with fail
                            go_roundw
                            case rel => exact ⟨j + 1, by omega, by go_num, by rw [HAN.out, Bool.or_true], HO8.out.set _ _, HS.out, fun h => by omega⟩
                            case measure => simp [intOf]; omega
                          · have hc : cond1 tp k (x0, xf, xt) = false := by unfold cond1; exact decide_eq_false h1
                            have h4 : ¬ xf < tp ∨ (xf < tp ∧ ¬ tp ≤ xt) ∨ (xf < tp ∧ tp ≤ xt ∧ ¬ xt < k) := by omega
                            clear h1
                            rcases h4 with h1 | ⟨h1, h2⟩ | ⟨h1, h2, h3⟩
                            all_goals
                              have HS := Lib.hid (HW.out.stay HX.out hc)
                              rw [hc, Bool.or_false] at HAN
                              go_wp2_with fail
                              go_roundw
                              case rel => exact ⟨j + 1, by omega, by go_num, by rw [HAN.out], HO8.out, HS.out, fun h => by omega⟩
                              case measure => simp [intOf]; omega
                        · have hj1 := hj0 (by omega)
                          subst hj1
                          have e2 := E2.out (by omega)
                          clear ho8 hr8 hj0
                          go_wp2_with fail
                          go_roundw
                          case rel => exact ⟨k + 1, by omega, by go_num, by rw [e2, haM.out], HO8.out, by rw [e2, hpL.out]; simpa using HW.out⟩
                          case measure => simp [intOf]; omega
                      · by_cases htp : 0 ≤ tp
                        · have e3 := E3.out (by trivial) htp
                          have e1 : pl.take j = pl := List.take_of_length_le (by omega)
                          have e2 : pl.drop j = [] := List.drop_of_length_le (by omega)
                          rw [e1, e2, List.append_nil] at HW
                          rw [e1]
                          clear ho8 hr8 hj0
                          go_wp2_with fail
                          go_roundw
                          case rel => exact ⟨k + 1, by omega, by go_num, by rw [e3, anyM_app, haM.out, hpL.out], HO8.out, by rw [e3, pass_app, hpL.out]; exact HW.out⟩
                          case measure => simp [intOf]; omega
                        · have hj1 := hj0 (by omega)
                          subst hj1
                          have e2 := E2.out (by omega)
                          clear ho8 hr8 hj0
                          go_wp2_with fail
                          go_roundw
                          case rel => exact ⟨k + 1, by omega, by go_num, by rw [e2, haM.out], HO8.out, by rw [e2, hpL.out]; simpa using HW.out⟩
                          case measure => simp [intOf]; omega
            · obtain rfl : i = N := by omega
              have hpp := pass_pot (lpN ops i) l HLE.out
              have hpl := pass_len (lpN ops i) l
              go_wp2_with fail
              go_roundg (pot (pass (lpN ops i) l) + (if anyM (lpN ops i) l then 1 else 0))
              case measure =>
                cases hm : anyM (lpN ops i) l with
                | true => have := hpp.2 hm; simp at hgg ⊢; omega
                | false => simp at hgg ⊢; omega
              case rel =>
                refine ⟨pass (lpN ops i) l, anyM (lpN ops i) l, rfl, by omega, Nat.le_refl _, HO6.out, HR6.out, fun r h => ?_, fun h => ?_⟩
                · cases hm : anyM (lpN ops i) l with
                  | true => exact HST.out r (.go hm h)
                  | false => rw [pass_still hm] at h; exact HST.out r h
                · rw [pass_still h]; exact h
end Go.Proofs.Ytajaglhlmoblnaa
