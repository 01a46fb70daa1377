/- Walks: the statements on one relation behind the other, on any pair more. Condition: the library's table is laid. -/
import Derived.Test.YtgghhbjaokgeeaaDoorRelLaws1
import Derived.BigFrame
namespace Go.Proofs.YtgghhbjaokgeeaaDoor
open Go.RowKit Go.Sort Go.Lib
set_option linter.unusedVariables false
set_option linter.unusedSimpArgs false
theorem is_yes {b n g : Nat} {f f' : Nat → Nat → Bool} {w : World} (hn : n ≤ 64) (hG : GridAt w b n f) (hr : RowsU w g n (fun i => rowN n (f' i))) (he : ∀ i k, i < n → k < n → f' i k = f i k) :
    Calls Tryd.prog 15 #[.pointer (some ⟨b, 0, none⟩), .slice (some ⟨g, 0, none⟩) n n] w (Gives w (.bool true)) :=
  (is_any b n f _ n _ hn w hG (hr.sl hn)).mono fun e w' ⟨y, h1, h2, h3⟩ => by
    have : y = true := h2.2 ⟨rfl, fun i hi => rowN_congr fun k hk => he i k hi hk⟩
    subst this
    exact ⟨h1, h3⟩
theorem then_zero {N na nb : Nat} {A B : Nat → Nat → Bool} (hN : N = max na nb) : ∀ i k, i < N → k < N → thenF N A B i k = (decide (i < N) && (decide (k < N) && thenF N A B i k)) := fun i k hi hk => by simp [hi, hk]
set_option maxHeartbeats 4000000 in
theorem relThens_go (va vb : Value) (la lb : Nat) (ra rb : Nat → Nat) (w : World) (ha : Sl w va la ra) (hb : Sl w vb lb rb) (hT : Tab w) : Calls Tryd.prog 5 #[va, vb] w (Gives w (.bool true)) := by
  have AW := Lib.hid (fun W (hB : Below w.heap.size w W) => awake_any W (hT.below hB))
  have OA := Lib.hid (of_any va la ra w ha)
  have OB := Lib.hid (fun p => of_any vb lb rb (more w p) (hb.more p))
  have TH := Lib.hid (fun W (hB : Below w.heap.size w W) => then_any va vb la lb ra rb W (ha.below hB) (hb.below hB) (hT.below hB))
  have PL := Lib.hid (fun W (hB : Below w.heap.size w W) => plus_any va la ra W (ha.below hB))
  have RT := Lib.hid (fun ba bb W h1 h2 => rthen_any ba bb (sz la) (sz lb) (onF la ra) (onF lb rb) (sz_le la) (sz_le lb) W h1 h2)
  have RP := Lib.hid (fun ba W h => rplus_any ba (sz la) (onF la ra) (sz_le la) onF_c onF_r W h)
  have HW := Lib.hid (fun i k => war_iff (n := sz la) (f := onF la ra) onF_c i k)
  have hla := sz_le la
  have hN : max (sz la) (sz lb) ≤ 64 := by have := sz_le lb; omega
  clear ha hb hT
  generalize onF la ra = f at *
  generalize onF lb rb = g at *
  generalize sz la = na at *
  generalize sz lb = nb at *
  have HZ := Lib.hid (@then_zero (max na nb) na nb f g rfl)
  generalize max na nb = N at *
  go_enter Tryd.func5, Tryd.ntmps5
  go_upto_region 2 with (first
    | (go_at_call_of 11 (va); refine (OA.out).mono ?_; rintro e w1 ⟨bx, rfl, ⟨p1, rfl⟩, _, hx⟩)
    | (go_at_call_of 11 (vb); refine (OB.out _).mono ?_; rintro e w1 ⟨byy, rfl, ⟨p2, rfl⟩, _, hy⟩))
  have HX := Lib.hid (hx.more p2)
  have HY := Lib.hid hy
  have HB := Lib.hid (below_mo (more_below w p1) p2)
  clear hx hy OA OB
  generalize more (more w p1) p2 = wA at *
  go_wp2_with (first
    | (go_at_call 14; refine (AW.out _ HB.out).mono ?_; rintro e w1 ⟨rfl, p3, rfl⟩)
    | (go_at_call 21; refine (RT.out _ _ _ (HX.out.more _) (HY.out.more _)).mono ?_; rintro e w1 ⟨b3, rfl, ⟨p4, rfl⟩, _, h3⟩)
    | (go_at_call 22; refine (TH.out _ (below_mo (below_mo HB.out _) _)).mono ?_; rintro e w1 ⟨g4, rfl, ⟨p5, rfl⟩, _, _, r4⟩)
    | (go_at_call 15; (with_reducible refine (is_yes hN (h3.more _) r4 HZ.out).mono ?_); rintro e w1 ⟨rfl, p6, rfl⟩)
    | (go_at_call 23; refine (RP.out _ _ ((((HX.out.more _).more _).more _).more _)).mono ?_; rintro e w1 ⟨b7, rfl, ⟨p7, rfl⟩, _, h7⟩)
    | (go_at_call 24; refine (PL.out _ (below_mo (below_mo (below_mo (below_mo (below_mo HB.out _) _) _) _) _)).mono ?_; rintro e w1 ⟨g8, rfl, ⟨p8, rfl⟩, _, _, r8⟩)
    | (go_at_call 15; (with_reducible refine (is_yes hla (h7.more _) r8 (fun i k _ _ => HW.out i k)).mono ?_); rintro e w1 ⟨rfl, p9, rfl⟩))
  go_ret
  exact Gives.mk rfl (below_mo (below_mo (below_mo (below_mo (below_mo (below_mo (below_mo HB.out p3) p4) p5) p6) p7) p8) p9)
theorem wpList_gridg {ops : Array Oper} {rest : List Oper} {o : Oper} {a : Act} {w : World} {Q : Exit → Act → World → Prop} (x : Operand) (ho : o.op = .build 28 #[(0, x)]) (n : Int) (hx : a.eval x = .int .i64 n) (hw : Region.wanted o (yielded ops a.tmps) = true)
    (h : wpList Tryd.prog ops Q rest (a.put o.dst (.agg (gridC n))) w) : wpList Tryd.prog ops Q (o :: rest) a w := by
  have e : Tryd.prog.built 28 ((#[(0, x)] : Array (Nat × Operand)).map fun (i, x) => (i, a.eval x)).toList = some (gridC n) := by
    have := built_grid n
    generalize gridC n = y at *
    simp [hx, this]
  refine BigFrame.wpList_want hw fun K hK => wp_build _ _ ho (by rw [e]; rfl) (hK _ _ ?_)
  rw [e]
  exact h
theorem wpList_boxgg {ops : Array Oper} {rest : List Oper} {o : Oper} {a : Act} {w : World} {Q : Exit → Act → World → Prop} (x : Operand) (ho : o.op = .box 28 x) (n : Int) (hx : a.eval x = .agg (gridC n)) (hw : Region.wanted o (yielded ops a.tmps) = true)
    (h : wpList Tryd.prog ops Q rest (a.put o.dst (.pointer (some ⟨w.heap.size, 0, none⟩))) (w.alloc (.cells (gridC n) 28))) : wpList Tryd.prog ops Q (o :: rest) a w := by
  refine BigFrame.wpList_want hw fun K hK => ?_
  unfold Oper.wp execOp
  simp only [ho, hx, Instr.box, newVar, Sem.run_bind, Sem.run_pure, Result.andThen_ok]
  exact hK _ _ h
theorem ghas_any (bx n : Nat) (f : Nat → Nat → Bool) (i k : Nat) (hi : i < 64) (hk : k < 64) (w : World) (hG : GridAt w bx n f) :
    Calls Tryd.prog 13 #[.pointer (some ⟨bx, 0, none⟩), .int .i64 i, .int .i64 k] w fun e w' => e = .returned (.bool (f i k)) ∧ w = w' := by
  have d1 := hG.on_ i k hi hk
  have hl := hG.lt
  clear hG
  go_enter Tryd.func13, Tryd.ntmps13
  go_wp2_with fail
  go_ret
  exact ⟨rfl, rfl⟩
set_option maxHeartbeats 4000000 in
theorem relPairs_go (n0 : Int) (v : Value) (len : Nat) (r : Nat → Nat) (a b : Int) (hn0 : -9223372036854775808 ≤ n0) (hn1 : n0 ≤ 9223372036854775807) (w : World) (h : Sl w v len r) (hT : Tab w) :
    Calls Tryd.prog 3 #[.int .i64 n0, v, .int .i64 a, .int .i64 b] w (Gives w (.bool true)) := by
  have AW := Lib.hid (fun W (hB : Below w.heap.size w W) => awake_any W (hT.below hB))
  have OF := Lib.hid (of_any v len r w h)
  have HA := Lib.hid (fun W (hB : Below w.heap.size w W) => has_any v len r a b W (h.below hB))
  have NE := Lib.hid (fun W => new_any n0 hn0 hn1 W)
  have PA := Lib.hid (fun W (hB : Below w.heap.size w W) => pair_any v len r a b W (h.below hB))
  have h64 := sz_le len
  obtain ⟨k0, hk0⟩ : ∃ k0, k0 = cap0 n0 := ⟨_, rfl⟩
  have hk64 : k0 ≤ 64 := by rw [hk0]; exact Nat.min_le_right _ _
  have HK : Hid ((n0 < 0 → k0 = 0) ∧ (64 < n0 → k0 = 64) ∧ (0 ≤ n0 → n0 ≤ 64 → n0 = k0)) := Lib.hid (by rw [hk0]; unfold cap0; omega)
  rw [← hk0] at NE
  have hhb : hasB len r a b = (decide (0 ≤ a ∧ a < sz len ∧ 0 ≤ b ∧ b < sz len) && onF len r a.toNat b.toNat) := by
    unfold hasB
    rw [Bool.eq_iff_iff]
    simp only [Bool.and_eq_true, decide_eq_true_eq]
    constructor
    · rintro ⟨⟨h1, h2⟩, h3⟩
      refine ⟨?_, h3⟩
      unfold onF at h3
      simp only [Bool.and_eq_true, decide_eq_true_eq] at h3
      omega
    · rintro ⟨h1, h3⟩
      exact ⟨⟨h1.1, h1.2.2.1⟩, h3⟩
  rw [hhb] at HA
  clear h hT hk0 hhb
  generalize onF len r = f at *
  generalize sz len = n at *
  go_enter Tryd.func3, Tryd.ntmps3
  go_upto_if 14 with fail
  go_cut [9] from 13 to 14 (fun t9 W => t9 = .int .i64 (max n0 0) ∧ W = w)
  case first =>
    by_cases h1 : n0 < 0
    · have e : max n0 0 = 0 := by omega
      go_wp2_with fail
      go_meet
      exact ⟨by rw [e], rfl⟩
    · have e : max n0 0 = n0 := by omega
      go_wp2_with fail
      go_meet
      exact ⟨by rw [e], rfl⟩
  case rest =>
  obtain ⟨rfl, hwc⟩ := hcut
  subst hwc
  have HK2 : Hid ((64 < max n0 0 → k0 = 64) ∧ (max n0 0 ≤ 64 → max n0 0 = k0)) := Lib.hid (by have := HK.out; omega)
  clear HK
  generalize max n0 0 = n1 at *
  go_upto_if 16 with fail
  go_cut [9] from 15 to 16 (fun t9 W => t9 = .int .i64 k0 ∧ W = wc)
  case first =>
    by_cases h1 : 64 < n1
    · obtain rfl := HK2.out.1 h1
      go_wp2_with fail
      go_meet
      exact ⟨rfl, rfl⟩
    · obtain rfl := HK2.out.2 (by omega)
      go_wp2_with fail
      go_meet
      exact ⟨rfl, rfl⟩
  case rest =>
  obtain ⟨rfl, hwc⟩ := hcut
  subst hwc
  clear HK2
  obtain ⟨w0, rfl⟩ : ∃ w0 : World, w0 = wc := ⟨_, rfl⟩
  go_upto_region 7 with (go_at_call 11; refine (OF.out).mono ?_; rintro e w1 ⟨bx, rfl, ⟨p1, rfl⟩, hbx, hx⟩)
  have HX := Lib.hid hx
  have HB := Lib.hid (more_below w0 p1)
  have hxn := hx.n_
  have hxl := hx.lt
  clear hx OF
  generalize more w0 p1 = wA at *
  go_cut [11] from 19 to 40 (fun t11 W => t11 = .bool (decide (0 ≤ a ∧ a < n ∧ 0 ≤ b ∧ b < n)) ∧ W = wA)
  case first =>
    by_cases h1 : 0 ≤ a
    · by_cases h2 : a < n
      · by_cases h3 : 0 ≤ b
        · by_cases h4 : b < n
          · have e : decide (0 ≤ a ∧ a < n ∧ 0 ≤ b ∧ b < n) = true := decide_eq_true ⟨h1, h2, h3, h4⟩
            go_wp2_with fail
            go_meet
            exact ⟨by rw [e], rfl⟩
          · have e : decide (0 ≤ a ∧ a < n ∧ 0 ≤ b ∧ b < n) = false := decide_eq_false (by omega)
            go_wp2_with fail
            go_meet
            exact ⟨by rw [e], rfl⟩
        · have e : decide (0 ≤ a ∧ a < n ∧ 0 ≤ b ∧ b < n) = false := decide_eq_false (by omega)
          go_wp2_with fail
          go_meet
          exact ⟨by rw [e], rfl⟩
      · have e : decide (0 ≤ a ∧ a < n ∧ 0 ≤ b ∧ b < n) = false := decide_eq_false (by omega)
        go_wp2_with fail
        go_meet
        exact ⟨by rw [e], rfl⟩
    · have e : decide (0 ≤ a ∧ a < n ∧ 0 ≤ b ∧ b < n) = false := decide_eq_false (by omega)
      go_wp2_with fail
      go_meet
      exact ⟨by rw [e], rfl⟩
  case rest =>
  obtain ⟨rfl, hwc⟩ := hcut
  subst hwc
  obtain ⟨wB, rfl⟩ : ∃ wB : World, wB = wc := ⟨_, rfl⟩
  go_upto_region 8 with fail
  go_cut [11, 52] from 41 to 52 (fun t11 t52 W => t11 = .bool (decide (0 ≤ a ∧ a < n ∧ 0 ≤ b ∧ b < n)) ∧ t52 = .bool false ∧ W = wB)
  case first =>
    by_cases hin : 0 ≤ a ∧ a < n ∧ 0 ≤ b ∧ b < n
    · have hd := Lib.hid (decide_eq_true hin)
      rw [decide_eq_true hin]
      rw [decide_eq_true hin, Bool.true_and] at HA
      obtain ⟨h1, h2, h3, h4⟩ := hin
      obtain ⟨i, rfl⟩ := Int.eq_ofNat_of_zero_le h1
      obtain ⟨k, rfl⟩ := Int.eq_ofNat_of_zero_le h3
      have GH := Lib.hid (ghas_any bx n f i k (by omega) (by omega) wB HX.out)
      rw [show f ((i : Int)).toNat ((k : Int)).toNat = f i k by simp] at HA
      generalize f i k = y at *
      cases y <;> (
        go_wp2_with (first
          | (go_at_call 12; refine (HA.out _ HB.out).mono ?_; rintro e w1 ⟨rfl, rfl⟩)
          | (go_at_call 13; refine (GH.out).mono ?_; rintro e w1 ⟨rfl, rfl⟩))
        go_meet
        exact ⟨by rw [hd.out], rfl, rfl⟩)
    · have hd := Lib.hid (decide_eq_false hin)
      rw [decide_eq_false hin]
      rw [decide_eq_false hin, Bool.false_and] at HA
      clear hin
      go_wp2_with (first
          | (go_at_call 12; refine (HA.out _ HB.out).mono ?_; rintro e w1 ⟨rfl, rfl⟩))
      go_meet
      exact ⟨by rw [hd.out], rfl, rfl⟩
  case rest =>
  obtain ⟨rfl, rfl, hwc⟩ := hcut
  subst hwc
  obtain ⟨wD, rfl⟩ : ∃ wD : World, wD = wc := ⟨_, rfl⟩
  clear HA
  go_upto_if 53 with fail
  go_cut [11, 53] from 54 to 60 (fun _ _ W => Below w0.heap.size w0 W ∧ GridAt W bx n (pairF f a b n))
  case first =>
    by_cases hin : 0 ≤ a ∧ a < n ∧ 0 ≤ b ∧ b < n
    · rw [decide_eq_true hin]
      obtain ⟨h1, h2, h3, h4⟩ := hin
      obtain ⟨i, rfl⟩ := Int.eq_ofNat_of_zero_le h1
      obtain ⟨k, rfl⟩ := Int.eq_ofNat_of_zero_le h3
      have hi64 : i < 64 := by omega
      have hk64' : k < 64 := by omega
      have d1 := HX.out.on_ i k hi64 hk64'
      have z1 := HX.out.z_ (1 + i * 64 + k)
      have HS := Lib.hid (HX.out.set i k hi64 hk64' true)
      have HE : Hid (∀ x c, (if x = i ∧ c = k then true else f x c) = pairF f i k n x c) := Lib.hid (fun x c => by
        unfold pairF
        rw [decide_eq_true (show 0 ≤ (i : Int) ∧ (i : Int) < n ∧ 0 ≤ (k : Int) ∧ (k : Int) < n from ⟨h1, h2, h3, h4⟩)]
        by_cases e : x = i ∧ c = k
        · obtain ⟨rfl, rfl⟩ := e; simp
        · rw [if_neg e]
          by_cases e1 : x = i
          · have e2 : ¬ c = k := fun h => e ⟨e1, h⟩
            simp [show ¬ (c : Int) = k by omega]
          · simp [show ¬ (x : Int) = i by omega])
      go_wp2_with fail
      go_meet
      exact ⟨below_st HB.out (p := ⟨bx, _, none⟩) hbx _, HS.out.congr fun x c _ _ => HE.out x c⟩
    · have hd := Lib.hid (decide_eq_false hin)
      rw [decide_eq_false hin]
      clear hin
      go_wp2_with fail
      go_meet
      exact ⟨HB.out, HX.out.congr fun x c _ _ => by unfold pairF; rw [hd.out]; simp⟩
  case rest =>
  obtain ⟨hbc, hgc⟩ := hcut
  have HBc := Lib.hid hbc
  have HG := Lib.hid hgc
  clear hbc hgc HB HX hxn
  obtain ⟨wE, rfl⟩ : ∃ wE : World, wE = wc := ⟨_, rfl⟩
  have HZ := Lib.hid (fun p => grid_new (more wE p) k0)
  go_wp2_with (first
    | (go_at_call 14; refine (AW.out _ HBc.out).mono ?_; rintro e w1 ⟨rfl, p3, rfl⟩)
    | ((with_reducible refine wpList_gridg _ rfl k0 rfl ?_ ?_); rfl)
    | ((with_reducible refine wpList_boxgg _ rfl k0 rfl ?_ ?_); rfl))
  have hz := Lib.hid (HZ.out p3)
  have HB2 := Lib.hid (below_al (below_mo HBc.out p3) (.cells (gridC k0) 28))
  have HG2 := Lib.hid (HG.out.below (below_al (below_mo (Below.refl _ _) p3) (.cells (gridC k0) 28)))
  rw [more_size] at hz
  clear HBc HG
  generalize (more wE p3).alloc (.cells (gridC k0) 28) = wF at *
  generalize wE.heap.size + p3.os.size = bz at *
  go_wp2_with (first
    | (go_at_call 16; refine (NE.out _).mono ?_; rintro e w1 ⟨g4, rfl, ⟨p4, rfl⟩, _, _, r4⟩)
    | (go_at_call 15; (with_reducible refine (is_yes hk64 (hz.out.more _) r4 (fun _ _ _ _ => rfl)).mono ?_); rintro e w1 ⟨rfl, p5, rfl⟩)
    | (go_at_call 17; refine (PA.out _ (below_mo (below_mo HB2.out _) _)).mono ?_; rintro e w1 ⟨g6, rfl, ⟨p6, rfl⟩, _, _, r6⟩)
    | (go_at_call 15; (with_reducible refine (is_yes h64 (((HG2.out.more _).more _).more _) r6 (fun _ _ _ _ => rfl)).mono ?_); rintro e w1 ⟨rfl, p7, rfl⟩))
  go_ret
  exact Gives.mk rfl (below_mo (below_mo (below_mo (below_mo HB2.out p4) p5) p6) p7)
end Go.Proofs.YtgghhbjaokgeeaaDoor
