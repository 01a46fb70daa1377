/- Walks: the statements that go without the document's answer. Condition: the library's table is laid. -/
import Derived.Test.YtgghhbjaokgeeaaDoorRelSame
namespace Go.Proofs.YtgghhbjaokgeeaaDoor
open Go.RowKit Go.Sort Go.Lib
set_option linter.unusedVariables false
set_option linter.unusedSimpArgs false
set_option maxHeartbeats 4000000 in
theorem relParts_go (va vb vc : Value) (la lb lc : Nat) (ra0 rb0 rc0 : Nat → Nat) (W : World) (sa : Sl W va la ra0) (sb : Sl W vb lb rb0) (sc : Sl W vc lc rc0) (hT : Tab W) : Calls Tryd.prog 8 #[va, vb, vc] W (Gives W (.bool true)) := by
  obtain ⟨Aa, qa, rfl⟩ := sl_form sa
  obtain ⟨Ab, qb, rfl⟩ := sl_form sb
  obtain ⟨Ac, qc, rfl⟩ := sl_form sc
  have ra := RV.of sa
  have rb := RV.of sb
  have rc := RV.of sc
  clear sa sb sc
  have I1 := Lib.hid (or_turn (onF la ra0) (onF lb rb0) (onF lc rc0))
  have I2 := Lib.hid (then_assoc (max (sz la) (sz lb)) (max (max (sz la) (sz lb)) (sz lc)) (max (sz lb) (sz lc)) (max (sz la) (max (sz lb) (sz lc))) (onF la ra0) (onF lb rb0) (onF lc rc0) (fun i j h => ra.c_ i j (by omega)) (fun i j h => rb.c_ i j (by omega)) (fun i j h => ra.c_ i j (by omega)) (fun i j h => rb.c_ i j (by omega)))
  have I4 := Lib.hid (rch_rch (onF la ra0))
  have I5 := Lib.hid (rch_then (max (sz la) (sz la)) (onF la ra0) (fun i j h => ra.c_ i j (by omega)))
  generalize onF la ra0 = fa at *
  generalize onF lb rb0 = fb at *
  generalize onF lc rc0 = fc at *
  generalize sz la = na at *
  generalize sz lb = nb at *
  generalize sz lc = nc at *
  go_enter Tryd.func8, Tryd.ntmps8
  go_wp2_with (first
    | (go_at_call 24; (with_reducible refine (cplus (ra.below ?_)).mono ?_); (repeat (first | with_reducible exact Below.refl _ _ | with_reducible refine below_mo ?_ _ | with_reducible refine below_al ?_ _)); rintro e w1 ⟨Ap, lp, qp, rfl, ⟨pp, rfl⟩, cp⟩; have rp := cp.rv)
    | (go_at_call 14; (with_reducible refine (awake_any _ (hT.below ?_)).mono ?_); (repeat (first | with_reducible exact Below.refl _ _ | with_reducible refine below_mo ?_ _ | with_reducible refine below_al ?_ _)); rintro e w1 ⟨rfl, p0, rfl⟩)
    | (go_at_call 18; (with_reducible refine (cun3 ?_ (ra.below ?_) (rb.below ?_) (rc.below ?_)).mono ?_); (simp [go_sem]); (repeat (first | with_reducible exact Below.refl _ _ | with_reducible refine below_mo ?_ _ | with_reducible refine below_al ?_ _)); (repeat (first | with_reducible exact Below.refl _ _ | with_reducible refine below_mo ?_ _ | with_reducible refine below_al ?_ _)); (repeat (first | with_reducible exact Below.refl _ _ | with_reducible refine below_mo ?_ _ | with_reducible refine below_al ?_ _)); rintro e w1 ⟨A1, l1, q1, rfl, ⟨p1, rfl⟩, c1⟩; have r1 := c1.rv)
    | (go_at_call 18; (with_reducible refine (cun2 ?_ (rb.below ?_) (ra.below ?_)).mono ?_); (simp [go_sem]); (repeat (first | with_reducible exact Below.refl _ _ | with_reducible refine below_mo ?_ _ | with_reducible refine below_al ?_ _)); (repeat (first | with_reducible exact Below.refl _ _ | with_reducible refine below_mo ?_ _ | with_reducible refine below_al ?_ _)); rintro e w1 ⟨A2, l2, q2, rfl, ⟨p2, rfl⟩, c2⟩; have r2 := c2.rv)
    | (go_at_call 18; (with_reducible refine (cun2 ?_ (rc.below ?_) (r2.below ?_)).mono ?_); (simp [go_sem]); (repeat (first | with_reducible exact Below.refl _ _ | with_reducible refine below_mo ?_ _ | with_reducible refine below_al ?_ _)); (repeat (first | with_reducible exact Below.refl _ _ | with_reducible refine below_mo ?_ _ | with_reducible refine below_al ?_ _)); rintro e w1 ⟨A3, l3, q3, rfl, ⟨p3, rfl⟩, c3⟩; have r3 := c3.rv)
    | (go_at_call 28; (with_reducible refine (csame (c1.below ?_) (c3.below ?_) (by omega) I1.out).mono ?_); (repeat (first | with_reducible exact Below.refl _ _ | with_reducible refine below_mo ?_ _ | with_reducible refine below_al ?_ _)); (repeat (first | with_reducible exact Below.refl _ _ | with_reducible refine below_mo ?_ _ | with_reducible refine below_al ?_ _)); rintro e w1 ⟨rfl, px1, rfl⟩)
    | (go_at_call 22; (with_reducible refine (cthen (ra.below ?_) (rb.below ?_) (hT.below ?_)).mono ?_); (repeat (first | with_reducible exact Below.refl _ _ | with_reducible refine below_mo ?_ _ | with_reducible refine below_al ?_ _)); (repeat (first | with_reducible exact Below.refl _ _ | with_reducible refine below_mo ?_ _ | with_reducible refine below_al ?_ _)); (repeat (first | with_reducible exact Below.refl _ _ | with_reducible refine below_mo ?_ _ | with_reducible refine below_al ?_ _)); rintro e w1 ⟨A4, l4, q4, rfl, ⟨p4, rfl⟩, c4⟩; have r4 := c4.rv)
    | (go_at_call 22; (with_reducible refine (cthen (r4.below ?_) (rc.below ?_) (hT.below ?_)).mono ?_); (repeat (first | with_reducible exact Below.refl _ _ | with_reducible refine below_mo ?_ _ | with_reducible refine below_al ?_ _)); (repeat (first | with_reducible exact Below.refl _ _ | with_reducible refine below_mo ?_ _ | with_reducible refine below_al ?_ _)); (repeat (first | with_reducible exact Below.refl _ _ | with_reducible refine below_mo ?_ _ | with_reducible refine below_al ?_ _)); rintro e w1 ⟨A5, l5, q5, rfl, ⟨p5, rfl⟩, c5⟩; have r5 := c5.rv)
    | (go_at_call 22; (with_reducible refine (cthen (rb.below ?_) (rc.below ?_) (hT.below ?_)).mono ?_); (repeat (first | with_reducible exact Below.refl _ _ | with_reducible refine below_mo ?_ _ | with_reducible refine below_al ?_ _)); (repeat (first | with_reducible exact Below.refl _ _ | with_reducible refine below_mo ?_ _ | with_reducible refine below_al ?_ _)); (repeat (first | with_reducible exact Below.refl _ _ | with_reducible refine below_mo ?_ _ | with_reducible refine below_al ?_ _)); rintro e w1 ⟨A6, l6, q6, rfl, ⟨p6, rfl⟩, c6⟩; have r6 := c6.rv)
    | (go_at_call 22; (with_reducible refine (cthen (ra.below ?_) (r6.below ?_) (hT.below ?_)).mono ?_); (repeat (first | with_reducible exact Below.refl _ _ | with_reducible refine below_mo ?_ _ | with_reducible refine below_al ?_ _)); (repeat (first | with_reducible exact Below.refl _ _ | with_reducible refine below_mo ?_ _ | with_reducible refine below_al ?_ _)); (repeat (first | with_reducible exact Below.refl _ _ | with_reducible refine below_mo ?_ _ | with_reducible refine below_al ?_ _)); rintro e w1 ⟨A7, l7, q7, rfl, ⟨p7, rfl⟩, c7⟩; have r7 := c7.rv)
    | (go_at_call 28; (with_reducible refine (csame (c5.below ?_) (c7.below ?_) (by omega) I2.out).mono ?_); (repeat (first | with_reducible exact Below.refl _ _ | with_reducible refine below_mo ?_ _ | with_reducible refine below_al ?_ _)); (repeat (first | with_reducible exact Below.refl _ _ | with_reducible refine below_mo ?_ _ | with_reducible refine below_al ?_ _)); rintro e w1 ⟨rfl, px2, rfl⟩)
    | (go_at_call 19; (with_reducible refine (cback (ra.below ?_) (hT.below ?_)).mono ?_); (repeat (first | with_reducible exact Below.refl _ _ | with_reducible refine below_mo ?_ _ | with_reducible refine below_al ?_ _)); (repeat (first | with_reducible exact Below.refl _ _ | with_reducible refine below_mo ?_ _ | with_reducible refine below_al ?_ _)); rintro e w1 ⟨A8, l8, q8, rfl, ⟨p8, rfl⟩, c8⟩; have r8 := c8.rv)
    | (go_at_call 19; (with_reducible refine (cback (r8.below ?_) (hT.below ?_)).mono ?_); (repeat (first | with_reducible exact Below.refl _ _ | with_reducible refine below_mo ?_ _ | with_reducible refine below_al ?_ _)); (repeat (first | with_reducible exact Below.refl _ _ | with_reducible refine below_mo ?_ _ | with_reducible refine below_al ?_ _)); rintro e w1 ⟨A9, l9, q9, rfl, ⟨p9, rfl⟩, c9⟩; have r9 := c9.rv)
    | (go_at_call 18; (with_reducible refine (cun1 ?_ (ra.below ?_)).mono ?_); (simp [go_sem]); (repeat (first | with_reducible exact Below.refl _ _ | with_reducible refine below_mo ?_ _ | with_reducible refine below_al ?_ _)); rintro e w1 ⟨A10, l10, q10, rfl, ⟨p10, rfl⟩, c10⟩; have r10 := c10.rv)
    | (go_at_call 28; (with_reducible refine (csame (c9.below ?_) (c10.below ?_) rfl (fun _ _ => rfl)).mono ?_); (repeat (first | with_reducible exact Below.refl _ _ | with_reducible refine below_mo ?_ _ | with_reducible refine below_al ?_ _)); (repeat (first | with_reducible exact Below.refl _ _ | with_reducible refine below_mo ?_ _ | with_reducible refine below_al ?_ _)); rintro e w1 ⟨rfl, px3, rfl⟩)
    | (go_at_call 24; (with_reducible refine (cplus (rp.below ?_)).mono ?_); (repeat (first | with_reducible exact Below.refl _ _ | with_reducible refine below_mo ?_ _ | with_reducible refine below_al ?_ _)); rintro e w1 ⟨A11, l11, q11, rfl, ⟨p11, rfl⟩, c11⟩; have r11 := c11.rv)
    | (go_at_call 28; (with_reducible refine (csame (c11.below ?_) (cp.below ?_) rfl I4.out).mono ?_); (repeat (first | with_reducible exact Below.refl _ _ | with_reducible refine below_mo ?_ _ | with_reducible refine below_al ?_ _)); (repeat (first | with_reducible exact Below.refl _ _ | with_reducible refine below_mo ?_ _ | with_reducible refine below_al ?_ _)); rintro e w1 ⟨rfl, px4, rfl⟩)
    | (go_at_call 22; (with_reducible refine (cthen (ra.below ?_) (rp.below ?_) (hT.below ?_)).mono ?_); (repeat (first | with_reducible exact Below.refl _ _ | with_reducible refine below_mo ?_ _ | with_reducible refine below_al ?_ _)); (repeat (first | with_reducible exact Below.refl _ _ | with_reducible refine below_mo ?_ _ | with_reducible refine below_al ?_ _)); (repeat (first | with_reducible exact Below.refl _ _ | with_reducible refine below_mo ?_ _ | with_reducible refine below_al ?_ _)); rintro e w1 ⟨A12, l12, q12, rfl, ⟨p12, rfl⟩, c12⟩; have r12 := c12.rv)
    | (go_at_call 18; (with_reducible refine (cun2 ?_ (rp.below ?_) (r12.below ?_)).mono ?_); (simp [go_sem]); (repeat (first | with_reducible exact Below.refl _ _ | with_reducible refine below_mo ?_ _ | with_reducible refine below_al ?_ _)); (repeat (first | with_reducible exact Below.refl _ _ | with_reducible refine below_mo ?_ _ | with_reducible refine below_al ?_ _)); rintro e w1 ⟨A13, l13, q13, rfl, ⟨p13, rfl⟩, c13⟩; have r13 := c13.rv)
    | (go_at_call 28; (with_reducible refine (csame (c13.below ?_) (cp.below ?_) (by omega) I5.out).mono ?_); (repeat (first | with_reducible exact Below.refl _ _ | with_reducible refine below_mo ?_ _ | with_reducible refine below_al ?_ _)); (repeat (first | with_reducible exact Below.refl _ _ | with_reducible refine below_mo ?_ _ | with_reducible refine below_al ?_ _)); rintro e w1 ⟨rfl, px5, rfl⟩))
  go_ret
  exact Gives.mk rfl (by repeat (first | with_reducible exact Below.refl _ _ | with_reducible refine below_mo ?_ _ | with_reducible refine below_al ?_ _))
theorem xor_ones (y : Nat) (hy : y < 18446744073709551616) : 18446744073709551615 ^^^ y = 18446744073709551615 - y := by
  apply Nat.eq_of_testBit_eq
  intro i
  rw [Nat.testBit_xor, max_bits, tb_not _ _ hy]
  by_cases h : i < 64
  · simp [h]
  · simp [h, tb_lt y i hy (by omega)]
theorem not_key64 (s : Nat) (hs : s < 18446744073709551616) : bits .xor .u64 IntKind.u64.max (s : Int) = ((18446744073709551615 - s : Nat) : Int) := by
  have h1 : IntKind.u64.max = ((18446744073709551615 : Nat) : Int) := by decide
  rw [h1, u64_xor_nat _ _ (by decide) hs, xor_ones s hs]
set_option maxHeartbeats 4000000 in
theorem relTurned_go (va vb : Value) (la lb : Nat) (ra0 rb0 : Nat → Nat) (s : Nat) (hs : s < 18446744073709551616) (W : World) (sa : Sl W va la ra0) (sb : Sl W vb lb rb0) (hT : Tab W) : Calls Tryd.prog 9 #[va, vb, .int .u64 s] W (Gives W (.bool true)) := by
  obtain ⟨Aa, qa, rfl⟩ := sl_form sa
  obtain ⟨Ab, qb, rfl⟩ := sl_form sb
  have ra := RV.of sa
  have rb := RV.of sb
  clear sa sb
  have hls : ((18446744073709551615 : Nat) : Int) = 18446744073709551615 := rfl
  have hcm := not_key64 s hs
  by_cases hl : la = lb
  · subst hl
    have ha64 := ra.le
    have I1 := Lib.hid (then_back (max (sz la) (sz la)) (max (sz la) (sz la)) (onF la ra0) (onF la rb0) (fun i j h => ra.c_ i j (by omega)) (fun i j h => rb.r_ i j (by omega)))
    have I2 := Lib.hid (parts_all (sz la) ra.le (onF la ra0) ra.c_ ra.r_ s hs)
    have I3 := Lib.hid (only_back (onF la ra0) s 18446744073709551615)
    generalize onF la ra0 = fa at *
    generalize onF la rb0 = fb at *
    generalize sz la = na at *
    go_enter Tryd.func9, Tryd.ntmps9
    go_wp2_with (first
      | (go_at_call 22; (with_reducible refine (cthen (ra.below ?_) (rb.below ?_) (hT.below ?_)).mono ?_); (repeat (first | with_reducible exact Below.refl _ _ | with_reducible refine below_mo ?_ _ | with_reducible refine below_al ?_ _)); (repeat (first | with_reducible exact Below.refl _ _ | with_reducible refine below_mo ?_ _ | with_reducible refine below_al ?_ _)); (repeat (first | with_reducible exact Below.refl _ _ | with_reducible refine below_mo ?_ _ | with_reducible refine below_al ?_ _)); rintro e w1 ⟨A1, l1, q1, rfl, ⟨p1, rfl⟩, c1⟩; have r1 := c1.rv)
      | (go_at_call 19; (with_reducible refine (cback (r1.below ?_) (hT.below ?_)).mono ?_); (repeat (first | with_reducible exact Below.refl _ _ | with_reducible refine below_mo ?_ _ | with_reducible refine below_al ?_ _)); (repeat (first | with_reducible exact Below.refl _ _ | with_reducible refine below_mo ?_ _ | with_reducible refine below_al ?_ _)); rintro e w1 ⟨Ax, lx, qx, rfl, ⟨px, rfl⟩, cx⟩; have rx := cx.rv)
      | (go_at_call 19; (with_reducible refine (cback (rb.below ?_) (hT.below ?_)).mono ?_); (repeat (first | with_reducible exact Below.refl _ _ | with_reducible refine below_mo ?_ _ | with_reducible refine below_al ?_ _)); (repeat (first | with_reducible exact Below.refl _ _ | with_reducible refine below_mo ?_ _ | with_reducible refine below_al ?_ _)); rintro e w1 ⟨A2, l2, q2, rfl, ⟨p2, rfl⟩, c2⟩; have r2 := c2.rv)
      | (go_at_call 19; (with_reducible refine (cback (ra.below ?_) (hT.below ?_)).mono ?_); (repeat (first | with_reducible exact Below.refl _ _ | with_reducible refine below_mo ?_ _ | with_reducible refine below_al ?_ _)); (repeat (first | with_reducible exact Below.refl _ _ | with_reducible refine below_mo ?_ _ | with_reducible refine below_al ?_ _)); rintro e w1 ⟨A3, l3, q3, rfl, ⟨p3, rfl⟩, c3⟩; have r3 := c3.rv)
      | (go_at_call 22; (with_reducible refine (cthen (r2.below ?_) (r3.below ?_) (hT.below ?_)).mono ?_); (repeat (first | with_reducible exact Below.refl _ _ | with_reducible refine below_mo ?_ _ | with_reducible refine below_al ?_ _)); (repeat (first | with_reducible exact Below.refl _ _ | with_reducible refine below_mo ?_ _ | with_reducible refine below_al ?_ _)); (repeat (first | with_reducible exact Below.refl _ _ | with_reducible refine below_mo ?_ _ | with_reducible refine below_al ?_ _)); rintro e w1 ⟨Ay, ly, qy, rfl, ⟨py, rfl⟩, cy⟩; have ry := cy.rv)
      | (go_at_call 20; (with_reducible refine (conlyI (ra.below ?_) s 18446744073709551615 rfl hls.symm hs (by decide)).mono ?_); (repeat (first | with_reducible exact Below.refl _ _ | with_reducible refine below_mo ?_ _ | with_reducible refine below_al ?_ _)); rintro e w1 ⟨A4, l4, q4, rfl, ⟨p4, rfl⟩, c4⟩; have r4 := c4.rv)
      | (go_at_call 20; (with_reducible refine (conlyI (ra.below ?_) (18446744073709551615 - s) 18446744073709551615 rfl hls.symm (by omega) (by decide)).mono ?_); (repeat (first | with_reducible exact Below.refl _ _ | with_reducible refine below_mo ?_ _ | with_reducible refine below_al ?_ _)); rintro e w1 ⟨A5, l5, q5, rfl, ⟨p5, rfl⟩, c5⟩; have r5 := c5.rv)
      | (go_at_call 18; (with_reducible refine (cun2 ?_ (r4.below ?_) (r5.below ?_)).mono ?_); (simp [go_sem]); (repeat (first | with_reducible exact Below.refl _ _ | with_reducible refine below_mo ?_ _ | with_reducible refine below_al ?_ _)); (repeat (first | with_reducible exact Below.refl _ _ | with_reducible refine below_mo ?_ _ | with_reducible refine below_al ?_ _)); rintro e w1 ⟨A6, l6, q6, rfl, ⟨p6, rfl⟩, c6⟩; have r6 := c6.rv)
      | (go_at_call 14; (with_reducible refine (awake_any _ (hT.below ?_)).mono ?_); (repeat (first | with_reducible exact Below.refl _ _ | with_reducible refine below_mo ?_ _ | with_reducible refine below_al ?_ _)); rintro e w1 ⟨rfl, p0, rfl⟩)
      | (go_at_call 28; (with_reducible refine (csame (cx.below ?_) (cy.below ?_) (by omega) I1.out).mono ?_); (repeat (first | with_reducible exact Below.refl _ _ | with_reducible refine below_mo ?_ _ | with_reducible refine below_al ?_ _)); (repeat (first | with_reducible exact Below.refl _ _ | with_reducible refine below_mo ?_ _ | with_reducible refine below_al ?_ _)); rintro e w1 ⟨rfl, px1, rfl⟩)
      | (go_at_call 18; (with_reducible refine (cun1 ?_ (ra.below ?_)).mono ?_); (simp [go_sem]); (repeat (first | with_reducible exact Below.refl _ _ | with_reducible refine below_mo ?_ _ | with_reducible refine below_al ?_ _)); rintro e w1 ⟨A7, l7, q7, rfl, ⟨p7, rfl⟩, c7⟩; have r7 := c7.rv)
      | (go_at_call 28; (with_reducible refine (csame (c6.below ?_) (c7.below ?_) (by omega) I2.out).mono ?_); (repeat (first | with_reducible exact Below.refl _ _ | with_reducible refine below_mo ?_ _ | with_reducible refine below_al ?_ _)); (repeat (first | with_reducible exact Below.refl _ _ | with_reducible refine below_mo ?_ _ | with_reducible refine below_al ?_ _)); rintro e w1 ⟨rfl, px2, rfl⟩)
      | (go_at_call 19; (with_reducible refine (cback (r4.below ?_) (hT.below ?_)).mono ?_); (repeat (first | with_reducible exact Below.refl _ _ | with_reducible refine below_mo ?_ _ | with_reducible refine below_al ?_ _)); (repeat (first | with_reducible exact Below.refl _ _ | with_reducible refine below_mo ?_ _ | with_reducible refine below_al ?_ _)); rintro e w1 ⟨A9, l9, q9, rfl, ⟨p9, rfl⟩, c9⟩; have r9 := c9.rv)
      | (go_at_call 20; (with_reducible refine (conlyI (r3.below ?_) 18446744073709551615 s hls.symm rfl (by decide) hs).mono ?_); (repeat (first | with_reducible exact Below.refl _ _ | with_reducible refine below_mo ?_ _ | with_reducible refine below_al ?_ _)); rintro e w1 ⟨A11, l11, q11, rfl, ⟨p11, rfl⟩, c11⟩; have r11 := c11.rv)
      | (go_at_call 28; (with_reducible refine (csame (c9.below ?_) (c11.below ?_) rfl I3.out).mono ?_); (repeat (first | with_reducible exact Below.refl _ _ | with_reducible refine below_mo ?_ _ | with_reducible refine below_al ?_ _)); (repeat (first | with_reducible exact Below.refl _ _ | with_reducible refine below_mo ?_ _ | with_reducible refine below_al ?_ _)); rintro e w1 ⟨rfl, px3, rfl⟩))
    go_ret
    exact Gives.mk rfl (by repeat (first | with_reducible exact Below.refl _ _ | with_reducible refine below_mo ?_ _ | with_reducible refine below_al ?_ _))
  · have b1 : ((la : Int) != (lb : Int)) = true := by simp; omega
    go_enter Tryd.func9, Tryd.ntmps9
    go_wp2_with ((go_at_call 14; (with_reducible refine (awake_any _ (hT.below ?_)).mono ?_); (repeat (first | with_reducible exact Below.refl _ _ | with_reducible refine below_mo ?_ _ | with_reducible refine below_al ?_ _)); rintro e w1 ⟨rfl, p0, rfl⟩))
    go_ret
    exact Gives.mk rfl (by repeat (first | with_reducible exact Below.refl _ _ | with_reducible refine below_mo ?_ _ | with_reducible refine below_al ?_ _))
set_option maxHeartbeats 4000000 in
theorem relGrows_go (va : Value) (la : Nat) (ra0 : Nat → Nat) (a b : Int) (s : Nat) (hs : s < 18446744073709551616) (W : World) (sa : Sl W va la ra0) (hT : Tab W) : Calls Tryd.prog 10 #[va, .int .i64 a, .int .i64 b, .int .u64 s] W (Gives W (.bool true)) := by
  obtain ⟨A, X, off, cap, rfl, hA, hc, hm, hcell, hr⟩ := sa
  have sa : Sl W (.slice A la cap) la ra0 := ⟨A, X, off, cap, rfl, hA, hc, hm, hcell, hr⟩
  have ra := RV.of sa
  have sa2 : Sl W (.slice A (sz la) cap) (sz la) ra0 := ⟨A, X, off, cap, rfl, fun h => hA (by have := sz_len la; omega), by have := sz_len la; omega, hm, fun i hi => hcell i (by have := sz_len la; omega), hr⟩
  have rc := RV.of sa2
  rw [sz_sz, onF_sz] at rc
  have HM : Hid ((64 < la → sz la = 64) ∧ (la ≤ 64 → sz la = la)) := Lib.hid (by unfold sz; omega)
  have hAl : 0 < la → A = some ⟨X, off, none⟩ := hA
  have I1 : Hid (∀ i k, orF (pairF (onF la ra0) a b (sz la)) (onF la ra0) i k = pairF (onF la ra0) a b (sz la) i k) := Lib.hid (fun i k => by
    unfold orF pairF
    cases onF la ra0 i k <;> simp)
  obtain ⟨y1, hy1⟩ := yes_no (∀ x, ¬ Rch (pairF (onF la ra0) a b (sz la)) x x)
  obtain ⟨y2, hy2⟩ := yes_no (∀ x, ¬ Rch (onF la ra0) x x)
  obtain ⟨y3, hy3⟩ := yes_no (LineP (sz la) (onlyF (onF la ra0) (s &&& (2 ^ sz la - 1)) (s &&& (2 ^ sz la - 1))) (fun i => decide (i < sz la) && s.testBit i))
  obtain ⟨y4, hy4⟩ := yes_no (∀ x, ¬ Rch (onlyF (onF la ra0) s s) x x)
  have h12 : y1 = true → y2 = true := fun h => hy2.2 (fun x hx => hy1.1 h x (rch_mono (fun i k h => by unfold pairF; rw [h]; rfl) hx))
  have h34 : y3 = true → y4 = true := fun h => hy4.2 (by
    have hl := hy3.1 h
    rw [only_mask ra.c_ ra.r_] at hl
    exact line_acy (fun a c h => by unfold onlyF; rw [ra.c_ a c h]; rfl) (fun a c h => by unfold onlyF; rw [ra.r_ a c h]; rfl) (fun i k h => by
      have hn : i < sz la := by
        rcases Nat.lt_or_ge i (sz la) with h1 | h1
        · exact h1
        · unfold onlyF at h; rw [ra.r_ i k h1] at h; cases h
      unfold onlyF at h
      simp only [Bool.and_eq_true] at h
      simp [hn, h.2.1]) hl)
  have Y1 := Lib.hid (fun V v (h : RV V v (sz la) _) => cacyB h hy1)
  have Y2 := Lib.hid (fun V v (h : RV V v (sz la) _) => cacyB h hy2)
  have Y3 := Lib.hid (fun V v (h : RV V v (sz la) (onF la ra0)) (ht : Tab V) => clineB h ht s hs hy3)
  have Y4 := Lib.hid (fun V v (h : RV V v (sz la) _) => cacyB h hy4)
  clear sa sa2 hcell hr hy1 hy2 hy3 hy4 hA
  generalize onF la ra0 = fa at *
  generalize sz la = na at *
  go_enter Tryd.func10, Tryd.ntmps10
  go_upto_if 16 with (go_at_call 17; (with_reducible refine (cpair ra a b).mono ?_); rintro e w1 ⟨Ax, lx, qx, rfl, ⟨px, rfl⟩, cx⟩; have rx := cx.rv)
  go_cut [0] from 14 to 18 (fun t0 V => t0 = .slice A na cap ∧ V = more W px)
  case first =>
    by_cases h : 64 < la
    · obtain rfl := HM.out.1 h
      obtain rfl := hAl (by omega)
      go_wp2_with fail
      go_meet
      exact ⟨rfl, rfl⟩
    · obtain rfl := HM.out.2 (by omega)
      go_wp2_with fail
      go_meet
      exact ⟨rfl, rfl⟩
  case rest =>
  obtain ⟨rfl, hwc⟩ := hcut
  subst hwc
  clear HM hAl
  cases y1 with
  | false =>
    cases y3 with
    | false =>
      clear h12 h34
      go_wp2_with (first
        | (go_at_call 18; (with_reducible refine (cun2 ?_ (rx.below ?_) (rc.below ?_)).mono ?_); (simp [go_sem]); (repeat (first | with_reducible exact Below.refl _ _ | with_reducible refine below_mo ?_ _ | with_reducible refine below_al ?_ _)); (repeat (first | with_reducible exact Below.refl _ _ | with_reducible refine below_mo ?_ _ | with_reducible refine below_al ?_ _)); rintro e w1 ⟨A1, l1, q1, rfl, ⟨p1, rfl⟩, c1⟩; have r1 := c1.rv)
        | (go_at_call 28; (with_reducible refine (csame (c1.below ?_) (cx.below ?_) (by omega) I1.out).mono ?_); (repeat (first | with_reducible exact Below.refl _ _ | with_reducible refine below_mo ?_ _ | with_reducible refine below_al ?_ _)); (repeat (first | with_reducible exact Below.refl _ _ | with_reducible refine below_mo ?_ _ | with_reducible refine below_al ?_ _)); rintro e w1 ⟨rfl, px1, rfl⟩)
        | (go_at_call 25; (with_reducible refine (Y1.out _ _ (rx.below ?_)).mono ?_); (repeat (first | with_reducible exact Below.refl _ _ | with_reducible refine below_mo ?_ _ | with_reducible refine below_al ?_ _)); rintro e w1 ⟨rfl, pa1, rfl⟩)
        | (go_at_call 25; (with_reducible refine (Y2.out _ _ (rc.below ?_)).mono ?_); (repeat (first | with_reducible exact Below.refl _ _ | with_reducible refine below_mo ?_ _ | with_reducible refine below_al ?_ _)); rintro e w1 ⟨rfl, pa2, rfl⟩)
        | (go_at_call 14; (with_reducible refine (awake_any _ (hT.below ?_)).mono ?_); (repeat (first | with_reducible exact Below.refl _ _ | with_reducible refine below_mo ?_ _ | with_reducible refine below_al ?_ _)); rintro e w1 ⟨rfl, p0, rfl⟩)
        | (go_at_call 27; (with_reducible refine (Y3.out _ _ (rc.below ?_) (hT.below ?_)).mono ?_); (repeat (first | with_reducible exact Below.refl _ _ | with_reducible refine below_mo ?_ _ | with_reducible refine below_al ?_ _)); (repeat (first | with_reducible exact Below.refl _ _ | with_reducible refine below_mo ?_ _ | with_reducible refine below_al ?_ _)); rintro e w1 ⟨rfl, pl, rfl⟩)
        | (go_at_call 20; (with_reducible refine (conly (rc.below ?_) s s hs hs).mono ?_); (repeat (first | with_reducible exact Below.refl _ _ | with_reducible refine below_mo ?_ _ | with_reducible refine below_al ?_ _)); rintro e w1 ⟨A3, l3, q3, rfl, ⟨p3, rfl⟩, c3⟩; have r3 := c3.rv)
        | (go_at_call 25; (with_reducible refine (Y4.out _ _ (r3.below ?_)).mono ?_); (repeat (first | with_reducible exact Below.refl _ _ | with_reducible refine below_mo ?_ _ | with_reducible refine below_al ?_ _)); rintro e w1 ⟨rfl, pa3, rfl⟩))
      go_ret
      exact Gives.mk rfl (by repeat (first | with_reducible exact Below.refl _ _ | with_reducible refine below_mo ?_ _ | with_reducible refine below_al ?_ _))
    | true =>
      obtain rfl := h34 rfl
      clear h12 h34
      go_wp2_with (first
        | (go_at_call 18; (with_reducible refine (cun2 ?_ (rx.below ?_) (rc.below ?_)).mono ?_); (simp [go_sem]); (repeat (first | with_reducible exact Below.refl _ _ | with_reducible refine below_mo ?_ _ | with_reducible refine below_al ?_ _)); (repeat (first | with_reducible exact Below.refl _ _ | with_reducible refine below_mo ?_ _ | with_reducible refine below_al ?_ _)); rintro e w1 ⟨A1, l1, q1, rfl, ⟨p1, rfl⟩, c1⟩; have r1 := c1.rv)
        | (go_at_call 28; (with_reducible refine (csame (c1.below ?_) (cx.below ?_) (by omega) I1.out).mono ?_); (repeat (first | with_reducible exact Below.refl _ _ | with_reducible refine below_mo ?_ _ | with_reducible refine below_al ?_ _)); (repeat (first | with_reducible exact Below.refl _ _ | with_reducible refine below_mo ?_ _ | with_reducible refine below_al ?_ _)); rintro e w1 ⟨rfl, px1, rfl⟩)
        | (go_at_call 25; (with_reducible refine (Y1.out _ _ (rx.below ?_)).mono ?_); (repeat (first | with_reducible exact Below.refl _ _ | with_reducible refine below_mo ?_ _ | with_reducible refine below_al ?_ _)); rintro e w1 ⟨rfl, pa1, rfl⟩)
        | (go_at_call 25; (with_reducible refine (Y2.out _ _ (rc.below ?_)).mono ?_); (repeat (first | with_reducible exact Below.refl _ _ | with_reducible refine below_mo ?_ _ | with_reducible refine below_al ?_ _)); rintro e w1 ⟨rfl, pa2, rfl⟩)
        | (go_at_call 14; (with_reducible refine (awake_any _ (hT.below ?_)).mono ?_); (repeat (first | with_reducible exact Below.refl _ _ | with_reducible refine below_mo ?_ _ | with_reducible refine below_al ?_ _)); rintro e w1 ⟨rfl, p0, rfl⟩)
        | (go_at_call 27; (with_reducible refine (Y3.out _ _ (rc.below ?_) (hT.below ?_)).mono ?_); (repeat (first | with_reducible exact Below.refl _ _ | with_reducible refine below_mo ?_ _ | with_reducible refine below_al ?_ _)); (repeat (first | with_reducible exact Below.refl _ _ | with_reducible refine below_mo ?_ _ | with_reducible refine below_al ?_ _)); rintro e w1 ⟨rfl, pl, rfl⟩)
        | (go_at_call 20; (with_reducible refine (conly (rc.below ?_) s s hs hs).mono ?_); (repeat (first | with_reducible exact Below.refl _ _ | with_reducible refine below_mo ?_ _ | with_reducible refine below_al ?_ _)); rintro e w1 ⟨A3, l3, q3, rfl, ⟨p3, rfl⟩, c3⟩; have r3 := c3.rv)
        | (go_at_call 25; (with_reducible refine (Y4.out _ _ (r3.below ?_)).mono ?_); (repeat (first | with_reducible exact Below.refl _ _ | with_reducible refine below_mo ?_ _ | with_reducible refine below_al ?_ _)); rintro e w1 ⟨rfl, pa3, rfl⟩))
      go_ret
      exact Gives.mk rfl (by repeat (first | with_reducible exact Below.refl _ _ | with_reducible refine below_mo ?_ _ | with_reducible refine below_al ?_ _))
  | true =>
    obtain rfl := h12 rfl
    cases y3 with
    | false =>
      clear h12 h34
      go_wp2_with (first
        | (go_at_call 18; (with_reducible refine (cun2 ?_ (rx.below ?_) (rc.below ?_)).mono ?_); (simp [go_sem]); (repeat (first | with_reducible exact Below.refl _ _ | with_reducible refine below_mo ?_ _ | with_reducible refine below_al ?_ _)); (repeat (first | with_reducible exact Below.refl _ _ | with_reducible refine below_mo ?_ _ | with_reducible refine below_al ?_ _)); rintro e w1 ⟨A1, l1, q1, rfl, ⟨p1, rfl⟩, c1⟩; have r1 := c1.rv)
        | (go_at_call 28; (with_reducible refine (csame (c1.below ?_) (cx.below ?_) (by omega) I1.out).mono ?_); (repeat (first | with_reducible exact Below.refl _ _ | with_reducible refine below_mo ?_ _ | with_reducible refine below_al ?_ _)); (repeat (first | with_reducible exact Below.refl _ _ | with_reducible refine below_mo ?_ _ | with_reducible refine below_al ?_ _)); rintro e w1 ⟨rfl, px1, rfl⟩)
        | (go_at_call 25; (with_reducible refine (Y1.out _ _ (rx.below ?_)).mono ?_); (repeat (first | with_reducible exact Below.refl _ _ | with_reducible refine below_mo ?_ _ | with_reducible refine below_al ?_ _)); rintro e w1 ⟨rfl, pa1, rfl⟩)
        | (go_at_call 25; (with_reducible refine (Y2.out _ _ (rc.below ?_)).mono ?_); (repeat (first | with_reducible exact Below.refl _ _ | with_reducible refine below_mo ?_ _ | with_reducible refine below_al ?_ _)); rintro e w1 ⟨rfl, pa2, rfl⟩)
        | (go_at_call 14; (with_reducible refine (awake_any _ (hT.below ?_)).mono ?_); (repeat (first | with_reducible exact Below.refl _ _ | with_reducible refine below_mo ?_ _ | with_reducible refine below_al ?_ _)); rintro e w1 ⟨rfl, p0, rfl⟩)
        | (go_at_call 27; (with_reducible refine (Y3.out _ _ (rc.below ?_) (hT.below ?_)).mono ?_); (repeat (first | with_reducible exact Below.refl _ _ | with_reducible refine below_mo ?_ _ | with_reducible refine below_al ?_ _)); (repeat (first | with_reducible exact Below.refl _ _ | with_reducible refine below_mo ?_ _ | with_reducible refine below_al ?_ _)); rintro e w1 ⟨rfl, pl, rfl⟩)
        | (go_at_call 20; (with_reducible refine (conly (rc.below ?_) s s hs hs).mono ?_); (repeat (first | with_reducible exact Below.refl _ _ | with_reducible refine below_mo ?_ _ | with_reducible refine below_al ?_ _)); rintro e w1 ⟨A3, l3, q3, rfl, ⟨p3, rfl⟩, c3⟩; have r3 := c3.rv)
        | (go_at_call 25; (with_reducible refine (Y4.out _ _ (r3.below ?_)).mono ?_); (repeat (first | with_reducible exact Below.refl _ _ | with_reducible refine below_mo ?_ _ | with_reducible refine below_al ?_ _)); rintro e w1 ⟨rfl, pa3, rfl⟩))
      go_ret
      exact Gives.mk rfl (by repeat (first | with_reducible exact Below.refl _ _ | with_reducible refine below_mo ?_ _ | with_reducible refine below_al ?_ _))
    | true =>
      obtain rfl := h34 rfl
      clear h12 h34
      go_wp2_with (first
        | (go_at_call 18; (with_reducible refine (cun2 ?_ (rx.below ?_) (rc.below ?_)).mono ?_); (simp [go_sem]); (repeat (first | with_reducible exact Below.refl _ _ | with_reducible refine below_mo ?_ _ | with_reducible refine below_al ?_ _)); (repeat (first | with_reducible exact Below.refl _ _ | with_reducible refine below_mo ?_ _ | with_reducible refine below_al ?_ _)); rintro e w1 ⟨A1, l1, q1, rfl, ⟨p1, rfl⟩, c1⟩; have r1 := c1.rv)
        | (go_at_call 28; (with_reducible refine (csame (c1.below ?_) (cx.below ?_) (by omega) I1.out).mono ?_); (repeat (first | with_reducible exact Below.refl _ _ | with_reducible refine below_mo ?_ _ | with_reducible refine below_al ?_ _)); (repeat (first | with_reducible exact Below.refl _ _ | with_reducible refine below_mo ?_ _ | with_reducible refine below_al ?_ _)); rintro e w1 ⟨rfl, px1, rfl⟩)
        | (go_at_call 25; (with_reducible refine (Y1.out _ _ (rx.below ?_)).mono ?_); (repeat (first | with_reducible exact Below.refl _ _ | with_reducible refine below_mo ?_ _ | with_reducible refine below_al ?_ _)); rintro e w1 ⟨rfl, pa1, rfl⟩)
        | (go_at_call 25; (with_reducible refine (Y2.out _ _ (rc.below ?_)).mono ?_); (repeat (first | with_reducible exact Below.refl _ _ | with_reducible refine below_mo ?_ _ | with_reducible refine below_al ?_ _)); rintro e w1 ⟨rfl, pa2, rfl⟩)
        | (go_at_call 14; (with_reducible refine (awake_any _ (hT.below ?_)).mono ?_); (repeat (first | with_reducible exact Below.refl _ _ | with_reducible refine below_mo ?_ _ | with_reducible refine below_al ?_ _)); rintro e w1 ⟨rfl, p0, rfl⟩)
        | (go_at_call 27; (with_reducible refine (Y3.out _ _ (rc.below ?_) (hT.below ?_)).mono ?_); (repeat (first | with_reducible exact Below.refl _ _ | with_reducible refine below_mo ?_ _ | with_reducible refine below_al ?_ _)); (repeat (first | with_reducible exact Below.refl _ _ | with_reducible refine below_mo ?_ _ | with_reducible refine below_al ?_ _)); rintro e w1 ⟨rfl, pl, rfl⟩)
        | (go_at_call 20; (with_reducible refine (conly (rc.below ?_) s s hs hs).mono ?_); (repeat (first | with_reducible exact Below.refl _ _ | with_reducible refine below_mo ?_ _ | with_reducible refine below_al ?_ _)); rintro e w1 ⟨A3, l3, q3, rfl, ⟨p3, rfl⟩, c3⟩; have r3 := c3.rv)
        | (go_at_call 25; (with_reducible refine (Y4.out _ _ (r3.below ?_)).mono ?_); (repeat (first | with_reducible exact Below.refl _ _ | with_reducible refine below_mo ?_ _ | with_reducible refine below_al ?_ _)); rintro e w1 ⟨rfl, pa3, rfl⟩))
      go_ret
      exact Gives.mk rfl (by repeat (first | with_reducible exact Below.refl _ _ | with_reducible refine below_mo ?_ _ | with_reducible refine below_al ?_ _))
end Go.Proofs.YtgghhbjaokgeeaaDoor
