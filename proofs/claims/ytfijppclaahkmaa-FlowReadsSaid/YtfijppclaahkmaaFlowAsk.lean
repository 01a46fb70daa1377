/- Walk: what an instruction asks of memory, where it asks. Conditions: numbers fit. -/
import Derived.Test.YtfijppclaahkmaaFlowAskA
namespace Go.Proofs.Ytfijppclaahkmaa
open Go.RowKit Go.Sort
set_option linter.unusedVariables false
set_option linter.unusedSimpArgs false
set_option maxHeartbeats 8000000 in
theorem ask_yes (s : St) (i : Ins) (hi : i.rng) (hs : s.ok) (v : Nat) (h : enc i = some v) (hm : meB i.op = true) (w : World) : Calls Try.prog 7 #[stV s, insV i] w
    (Gives w (.tuple #[accV (wrB i.op) (spanA s i) (lenI i) (exB i.op) (acqB i.op) (relB i.op) (ask0 s i) (ask1 s i), .bool true])) := by
  have hf := enc_facts h
  have SO := Lib.hid (fun W => sound_any i hi W)
  rw [h] at SO
  have ME := Lib.hid (fun W => gives_same (memory_fl i.op W))
  rw [hm] at ME
  have WR := Lib.hid (fun W => gives_same (writes_fl i.op W))
  have EX := Lib.hid (fun W => gives_same (excl_fl i.op W))
  have PA := Lib.hid (fun W => gives_same (pair_fl i.op W))
  have S0 := Lib.hid (st_new w s 27)
  have HS := Lib.hid (fun (W : World) (h : Below (w.alloc (.cells (stC s.f) 27)).heap.size (w.alloc (.cells (stC s.f) 27)) W) => StAt.below S0.out h)
  have WH := Lib.hid (fun W h => where_fl s i hf hs w.heap.size W h)
  have G := Lib.hid (fun n hn W h => fget_gives s n hn w.heap.size W h)
  have hl := lenI_in hf
  have MK := Lib.hid (fun W => gives_same (bmask_any (8 * lenI i) (by omega) (by omega) W))
  have hd := hf.d
  have he := hf.e
  have e0 := Lib.hid (ask0.eq_1 s i)
  have e1 := Lib.hid (ask1.eq_1 s i)
  have gd := getX_lt hs i.d
  have ge := getX_lt hs i.e
  generalize ask0 s i = A0 at e0 ⊢
  generalize ask1 s i = A1 at e1 ⊢
  unfold acqB relB
  generalize wrB i.op = w1 at *
  generalize paB i.op = p1 at *
  generalize exB i.op = x1 at *
  generalize spanA s i = SA at *
  generalize lenI i = L at *
  clear hi hs h hm hf S0
  obtain ⟨op, d, n, m, e, sz, imm⟩ := i
  unfold insV stV spV accV at *
  generalize mask (8 * L) = mk at *
  simp only at *
  cases w1
  · have q0 := e0.out
    have q1 := e1.out
    simp at q0 q1
    subst q0 q1
    clear e0 e1
    have K1 := Lib.hid (fun (W : World) (h : Below ((w.alloc (.cells (stC s.f) 27)).alloc (.cells #[.int .i64 op, .int .i64 d, .int .i64 n, .int .i64 m, .int .i64 e, .int .i64 sz, .int .i64 imm] 29)).heap.size ((w.alloc (.cells (stC s.f) 27)).alloc (.cells #[.int .i64 op, .int .i64 d, .int .i64 n, .int .i64 m, .int .i64 e, .int .i64 sz, .int .i64 imm] 29)) W) => IAt.below (i_new2 (w.alloc (.cells (stC s.f) 27)) ⟨op, d, n, m, e, sz, imm⟩ 29 (w.heap.size + 1) (by simp)) h)
    have K2 := Lib.hid (fun (W : World) (h : Below (((w.alloc (.cells (stC s.f) 27)).alloc (.cells #[.int .i64 op, .int .i64 d, .int .i64 n, .int .i64 m, .int .i64 e, .int .i64 sz, .int .i64 imm] 29)).alloc (.cells #[.bool false, .int .i64 0, .int .i64 0, .bool false, .bool false, .bool false, .int .u64 0, .int .u64 0] 32)).heap.size (((w.alloc (.cells (stC s.f) 27)).alloc (.cells #[.int .i64 op, .int .i64 d, .int .i64 n, .int .i64 m, .int .i64 e, .int .i64 sz, .int .i64 imm] 29)).alloc (.cells #[.bool false, .int .i64 0, .int .i64 0, .bool false, .bool false, .bool false, .int .u64 0, .int .u64 0] 32)) W) => Acc8.below (acc_new2 ((w.alloc (.cells (stC s.f) 27)).alloc (.cells #[.int .i64 op, .int .i64 d, .int .i64 n, .int .i64 m, .int .i64 e, .int .i64 sz, .int .i64 imm] 29)) false 0 0 false false false 0 0 32 (w.heap.size + 1 + 1) (by simp)) h)
    go_enter Try.func7, Try.ntmps7
    go_upto_region 3 with (first
      | (go_at_call 20; refine (SO.out _).mono ?_; rintro e w1 ⟨rfl, p, rfl⟩)
      | (go_at_call 21; refine (ME.out _).mono ?_; rintro e w1 ⟨rfl, p2, rfl⟩))
    go_cut [6] from 17 to 25 (fun t6 wx => ∃ b, t6 = .pointer (some ⟨b, 0, none⟩) ∧ AskW w wx s ⟨op, d, n, m, e, sz, imm⟩ b false SA L x1 false false 0 0)
    case first =>
      go_region_held3 (fun W => W.cell? ⟨w.heap.size + 1, 0, none⟩ = some (.int .i64 op) ∧ W.cell? ⟨w.heap.size + 1, 1, none⟩ = some (.int .i64 d) ∧ W.cell? ⟨w.heap.size + 1, 2, none⟩ = some (.int .i64 n) ∧ W.cell? ⟨w.heap.size + 1, 3, none⟩ = some (.int .i64 m) ∧ W.cell? ⟨w.heap.size + 1, 4, none⟩ = some (.int .i64 e) ∧ W.cell? ⟨w.heap.size + 1, 5, none⟩ = some (.int .i64 sz) ∧ W.cell? ⟨w.heap.size + 1, 6, none⟩ = some (.int .i64 imm)) (first | (simp [go_sem, ↓IntWalk.iteOmega]; done) | (simp [go_sem, ↓IntWalk.iteOmega]; omega)) (first
        | (go_at_call 22; refine (WR.out _).mono ?_; rintro e w1 ⟨rfl, p3, rfl⟩)
        | (go_at_call 24; refine (EX.out _).mono ?_; rintro e w1 ⟨rfl, p3, rfl⟩)
        | (go_at_call 23; refine (WH.out _ (HS.out _ (by repeat (first | exact Below.refl _ _ | refine below_mo ?_ _ | refine below_al ?_ _ | refine below_dr ?_)))).mono ?_; rintro e w1 ⟨rfl, p3, rfl⟩))
      all_goals
        go_wp2_with fail
        go_meet
        refine ⟨_, rfl, HS.out _ (by repeat (first | exact Below.refl _ _ | refine below_mo ?_ _ | refine below_al ?_ _ | refine below_dr ?_)), K1.out _ (by repeat (first | exact Below.refl _ _ | refine below_mo ?_ _ | refine below_al ?_ _ | refine below_dr ?_)), K2.out _ (by repeat (first | exact Below.refl _ _ | refine below_mo ?_ _ | refine below_al ?_ _ | refine below_dr ?_)), ?_, by omega, (by repeat (first | exact Below.refl _ _ | refine below_mo ?_ _ | refine below_al ?_ _ | refine below_dr ?_))⟩
        repeat refine acc_more ?_ _
        exact acc_new2 _ _ _ _ _ _ _ _ _ _ _ (by first | rfl | simp [go_sem])
    case rest =>
      clear HS K1 K2 WH SO ME WR EX
      obtain ⟨b, rfl, hA⟩ := hcut
      go_upto_region 4 with fail
      go_cut [] from 26 to 38 (fun wx => AskW w wx s ⟨op, d, n, m, e, sz, imm⟩ b false SA L x1 (op == 19 || op == 22 || op == 26) false 0 0)
      case first =>
        have HST := Lib.hid hA.st
        have h2 := hA.ins
        have h4 := hA.acc
        have h3 := hA.res
        have h5 := hA.lo
        have l1 : b < _ := cell_lt hA.acc.1.1
        have l2 : w.heap.size + 1 + 1 < _ := cell_lt hA.res.1.1
        have l3 : w.heap.size + 1 < _ := cell_lt hA.ins.1
        have l4 : w.heap.size < _ := hA.st.lt
        unfold IAt at h2
        unfold Acc8 at h3 h4
        obtain ⟨i0, i1, i2, i3, i4, i5, i6⟩ := h2
        obtain ⟨⟨r0, r1, r2, r3, r4, r5, r6, r7⟩, s0, s1, s2, s3, s4, s5, s6, s7⟩ := h3
        obtain ⟨⟨c0, c1, c2, c3, c4, c5, c6, c7⟩, z0, z1, z2, z3, z4, z5, z6, z7⟩ := h4
        have n1 : ¬ b = w.heap.size + 1 + 1 := by omega
        have n2 : ¬ w.heap.size + 1 + 1 = b := by omega
        have n3 : ¬ b = w.heap.size + 1 := by omega
        have n4 : ¬ w.heap.size + 1 = b := by omega
        have HA := Lib.hid hA
        clear hA
        go_wp2_with fail
        all_goals
          try subst_vars
          go_meet
          first
            | (refine ask4t HA.out ?_; omega)
            | (refine ask4f HA.out ?_; omega)
            | exact HA.out.set4 _
      case rest =>
        clear hA
        have hA := hcut
        clear hcut
        go_upto_region 5 with fail
        go_cut [] from 39 to 53 (fun wx => AskW w wx s ⟨op, d, n, m, e, sz, imm⟩ b false SA L x1 (op == 19 || op == 22 || op == 26) (op == 20 || op == 24 || op == 28) 0 0)
        case first =>
          have HST := Lib.hid hA.st
          have h2 := hA.ins
          have h4 := hA.acc
          have h3 := hA.res
          have h5 := hA.lo
          have l1 : b < _ := cell_lt hA.acc.1.1
          have l2 : w.heap.size + 1 + 1 < _ := cell_lt hA.res.1.1
          have l3 : w.heap.size + 1 < _ := cell_lt hA.ins.1
          have l4 : w.heap.size < _ := hA.st.lt
          unfold IAt at h2
          unfold Acc8 at h3 h4
          obtain ⟨i0, i1, i2, i3, i4, i5, i6⟩ := h2
          obtain ⟨⟨r0, r1, r2, r3, r4, r5, r6, r7⟩, s0, s1, s2, s3, s4, s5, s6, s7⟩ := h3
          obtain ⟨⟨c0, c1, c2, c3, c4, c5, c6, c7⟩, z0, z1, z2, z3, z4, z5, z6, z7⟩ := h4
          have n1 : ¬ b = w.heap.size + 1 + 1 := by omega
          have n2 : ¬ w.heap.size + 1 + 1 = b := by omega
          have n3 : ¬ b = w.heap.size + 1 := by omega
          have n4 : ¬ w.heap.size + 1 = b := by omega
          have HA := Lib.hid hA
          clear hA
          go_wp2_with fail
          all_goals
            try subst_vars
            go_meet
            first
              | (refine ask5t HA.out ?_; omega)
              | (refine ask5f HA.out ?_; omega)
              | exact HA.out.set5 _
        case rest =>
          clear hA
          have hA := hcut
          clear hcut
          have HST := Lib.hid hA.st
          have h2 := hA.ins
          have h4 := hA.acc
          have h3 := hA.res
          have h5 := hA.lo
          have l1 : b < _ := cell_lt hA.acc.1.1
          have l2 : w.heap.size + 1 + 1 < _ := cell_lt hA.res.1.1
          have l3 : w.heap.size + 1 < _ := cell_lt hA.ins.1
          have l4 : w.heap.size < _ := hA.st.lt
          unfold IAt at h2
          unfold Acc8 at h3 h4
          obtain ⟨i0, i1, i2, i3, i4, i5, i6⟩ := h2
          obtain ⟨⟨r0, r1, r2, r3, r4, r5, r6, r7⟩, s0, s1, s2, s3, s4, s5, s6, s7⟩ := h3
          obtain ⟨⟨c0, c1, c2, c3, c4, c5, c6, c7⟩, z0, z1, z2, z3, z4, z5, z6, z7⟩ := h4
          have n1 : ¬ b = w.heap.size + 1 + 1 := by omega
          have n2 : ¬ w.heap.size + 1 + 1 = b := by omega
          have n3 : ¬ b = w.heap.size + 1 := by omega
          have n4 : ¬ w.heap.size + 1 = b := by omega
          have HA := Lib.hid hA
          clear hA
          go_wp2_with fail
          all_goals
            refine bodyPost_ret (v := ?va) ?hres rfl ?post
            case hres =>
              refine ask_ret (q := true) ?ca ?cb ?cc
              case ca => exact HA.out.res.there
              case cb => rfl
              case cc => rfl
            case post => exact Gives.mk rfl (below8 HA.out.below (by omega))

  · cases p1
    · have q0 := e0.out
      have q1 := e1.out
      simp at q0 q1
      subst q1
      clear e0 e1
      have K1 := Lib.hid (fun (W : World) (h : Below ((w.alloc (.cells (stC s.f) 27)).alloc (.cells #[.int .i64 op, .int .i64 d, .int .i64 n, .int .i64 m, .int .i64 e, .int .i64 sz, .int .i64 imm] 29)).heap.size ((w.alloc (.cells (stC s.f) 27)).alloc (.cells #[.int .i64 op, .int .i64 d, .int .i64 n, .int .i64 m, .int .i64 e, .int .i64 sz, .int .i64 imm] 29)) W) => IAt.below (i_new2 (w.alloc (.cells (stC s.f) 27)) ⟨op, d, n, m, e, sz, imm⟩ 29 (w.heap.size + 1) (by simp)) h)
      have K2 := Lib.hid (fun (W : World) (h : Below (((w.alloc (.cells (stC s.f) 27)).alloc (.cells #[.int .i64 op, .int .i64 d, .int .i64 n, .int .i64 m, .int .i64 e, .int .i64 sz, .int .i64 imm] 29)).alloc (.cells #[.bool false, .int .i64 0, .int .i64 0, .bool false, .bool false, .bool false, .int .u64 0, .int .u64 0] 32)).heap.size (((w.alloc (.cells (stC s.f) 27)).alloc (.cells #[.int .i64 op, .int .i64 d, .int .i64 n, .int .i64 m, .int .i64 e, .int .i64 sz, .int .i64 imm] 29)).alloc (.cells #[.bool false, .int .i64 0, .int .i64 0, .bool false, .bool false, .bool false, .int .u64 0, .int .u64 0] 32)) W) => Acc8.below (acc_new2 ((w.alloc (.cells (stC s.f) 27)).alloc (.cells #[.int .i64 op, .int .i64 d, .int .i64 n, .int .i64 m, .int .i64 e, .int .i64 sz, .int .i64 imm] 29)) false 0 0 false false false 0 0 32 (w.heap.size + 1 + 1) (by simp)) h)
      go_enter Try.func7, Try.ntmps7
      go_upto_region 3 with (first
        | (go_at_call 20; refine (SO.out _).mono ?_; rintro e w1 ⟨rfl, p, rfl⟩)
        | (go_at_call 21; refine (ME.out _).mono ?_; rintro e w1 ⟨rfl, p2, rfl⟩))
      go_cut [6] from 17 to 25 (fun t6 wx => ∃ b, t6 = .pointer (some ⟨b, 0, none⟩) ∧ AskW w wx s ⟨op, d, n, m, e, sz, imm⟩ b true SA L x1 false false 0 0)
      case first =>
        go_region_held3 (fun W => W.cell? ⟨w.heap.size + 1, 0, none⟩ = some (.int .i64 op) ∧ W.cell? ⟨w.heap.size + 1, 1, none⟩ = some (.int .i64 d) ∧ W.cell? ⟨w.heap.size + 1, 2, none⟩ = some (.int .i64 n) ∧ W.cell? ⟨w.heap.size + 1, 3, none⟩ = some (.int .i64 m) ∧ W.cell? ⟨w.heap.size + 1, 4, none⟩ = some (.int .i64 e) ∧ W.cell? ⟨w.heap.size + 1, 5, none⟩ = some (.int .i64 sz) ∧ W.cell? ⟨w.heap.size + 1, 6, none⟩ = some (.int .i64 imm)) (first | (simp [go_sem, ↓IntWalk.iteOmega]; done) | (simp [go_sem, ↓IntWalk.iteOmega]; omega)) (first
          | (go_at_call 22; refine (WR.out _).mono ?_; rintro e w1 ⟨rfl, p3, rfl⟩)
          | (go_at_call 24; refine (EX.out _).mono ?_; rintro e w1 ⟨rfl, p3, rfl⟩)
          | (go_at_call 23; refine (WH.out _ (HS.out _ (by repeat (first | exact Below.refl _ _ | refine below_mo ?_ _ | refine below_al ?_ _ | refine below_dr ?_)))).mono ?_; rintro e w1 ⟨rfl, p3, rfl⟩))
        all_goals
          go_wp2_with fail
          go_meet
          refine ⟨_, rfl, HS.out _ (by repeat (first | exact Below.refl _ _ | refine below_mo ?_ _ | refine below_al ?_ _ | refine below_dr ?_)), K1.out _ (by repeat (first | exact Below.refl _ _ | refine below_mo ?_ _ | refine below_al ?_ _ | refine below_dr ?_)), K2.out _ (by repeat (first | exact Below.refl _ _ | refine below_mo ?_ _ | refine below_al ?_ _ | refine below_dr ?_)), ?_, by omega, (by repeat (first | exact Below.refl _ _ | refine below_mo ?_ _ | refine below_al ?_ _ | refine below_dr ?_))⟩
          repeat refine acc_more ?_ _
          exact acc_new2 _ _ _ _ _ _ _ _ _ _ _ (by first | rfl | simp [go_sem])
      case rest =>
        clear HS K1 K2 WH SO ME WR EX
        obtain ⟨b, rfl, hA⟩ := hcut
        go_upto_region 4 with fail
        go_cut [] from 26 to 38 (fun wx => AskW w wx s ⟨op, d, n, m, e, sz, imm⟩ b true SA L x1 (op == 19 || op == 22 || op == 26) false 0 0)
        case first =>
          have HST := Lib.hid hA.st
          have h2 := hA.ins
          have h4 := hA.acc
          have h3 := hA.res
          have h5 := hA.lo
          have l1 : b < _ := cell_lt hA.acc.1.1
          have l2 : w.heap.size + 1 + 1 < _ := cell_lt hA.res.1.1
          have l3 : w.heap.size + 1 < _ := cell_lt hA.ins.1
          have l4 : w.heap.size < _ := hA.st.lt
          unfold IAt at h2
          unfold Acc8 at h3 h4
          obtain ⟨i0, i1, i2, i3, i4, i5, i6⟩ := h2
          obtain ⟨⟨r0, r1, r2, r3, r4, r5, r6, r7⟩, s0, s1, s2, s3, s4, s5, s6, s7⟩ := h3
          obtain ⟨⟨c0, c1, c2, c3, c4, c5, c6, c7⟩, z0, z1, z2, z3, z4, z5, z6, z7⟩ := h4
          have n1 : ¬ b = w.heap.size + 1 + 1 := by omega
          have n2 : ¬ w.heap.size + 1 + 1 = b := by omega
          have n3 : ¬ b = w.heap.size + 1 := by omega
          have n4 : ¬ w.heap.size + 1 = b := by omega
          have HA := Lib.hid hA
          clear hA
          go_wp2_with fail
          all_goals
            try subst_vars
            go_meet
            first
              | (refine ask4t HA.out ?_; omega)
              | (refine ask4f HA.out ?_; omega)
              | exact HA.out.set4 _
        case rest =>
          clear hA
          have hA := hcut
          clear hcut
          go_upto_region 5 with fail
          go_cut [] from 39 to 53 (fun wx => AskW w wx s ⟨op, d, n, m, e, sz, imm⟩ b true SA L x1 (op == 19 || op == 22 || op == 26) (op == 20 || op == 24 || op == 28) 0 0)
          case first =>
            have HST := Lib.hid hA.st
            have h2 := hA.ins
            have h4 := hA.acc
            have h3 := hA.res
            have h5 := hA.lo
            have l1 : b < _ := cell_lt hA.acc.1.1
            have l2 : w.heap.size + 1 + 1 < _ := cell_lt hA.res.1.1
            have l3 : w.heap.size + 1 < _ := cell_lt hA.ins.1
            have l4 : w.heap.size < _ := hA.st.lt
            unfold IAt at h2
            unfold Acc8 at h3 h4
            obtain ⟨i0, i1, i2, i3, i4, i5, i6⟩ := h2
            obtain ⟨⟨r0, r1, r2, r3, r4, r5, r6, r7⟩, s0, s1, s2, s3, s4, s5, s6, s7⟩ := h3
            obtain ⟨⟨c0, c1, c2, c3, c4, c5, c6, c7⟩, z0, z1, z2, z3, z4, z5, z6, z7⟩ := h4
            have n1 : ¬ b = w.heap.size + 1 + 1 := by omega
            have n2 : ¬ w.heap.size + 1 + 1 = b := by omega
            have n3 : ¬ b = w.heap.size + 1 := by omega
            have n4 : ¬ w.heap.size + 1 = b := by omega
            have HA := Lib.hid hA
            clear hA
            go_wp2_with fail
            all_goals
              try subst_vars
              go_meet
              first
                | (refine ask5t HA.out ?_; omega)
                | (refine ask5f HA.out ?_; omega)
                | exact HA.out.set5 _
          case rest =>
            clear hA
            have hA := hcut
            clear hcut
            have HST := Lib.hid hA.st
            have h2 := hA.ins
            have h4 := hA.acc
            have h3 := hA.res
            have h5 := hA.lo
            have l1 : b < _ := cell_lt hA.acc.1.1
            have l2 : w.heap.size + 1 + 1 < _ := cell_lt hA.res.1.1
            have l3 : w.heap.size + 1 < _ := cell_lt hA.ins.1
            have l4 : w.heap.size < _ := hA.st.lt
            unfold IAt at h2
            unfold Acc8 at h3 h4
            obtain ⟨i0, i1, i2, i3, i4, i5, i6⟩ := h2
            obtain ⟨⟨r0, r1, r2, r3, r4, r5, r6, r7⟩, s0, s1, s2, s3, s4, s5, s6, s7⟩ := h3
            obtain ⟨⟨c0, c1, c2, c3, c4, c5, c6, c7⟩, z0, z1, z2, z3, z4, z5, z6, z7⟩ := h4
            have n1 : ¬ b = w.heap.size + 1 + 1 := by omega
            have n2 : ¬ w.heap.size + 1 + 1 = b := by omega
            have n3 : ¬ b = w.heap.size + 1 := by omega
            have n4 : ¬ w.heap.size + 1 = b := by omega
            have HA := Lib.hid hA
            clear hA
            go_upto_region 8 with (first
              | (go_at_call 25; refine (G.out _ (by omega) _ (by repeat (first | with_reducible exact HST.out | with_reducible refine stat_more ?_ _ | with_reducible refine stat_setc ?_ (by omega)))).mono ?_; rintro e w9 ⟨rfl, p9, rfl⟩)
              | (go_at_call 26; refine (PA.out _).mono ?_; rintro e w9 ⟨rfl, p8, rfl⟩))
            have hA := (HA.out.set6 ((getX s d : Nat) : Int)).more p9
            generalize (more (wc.setCell { block := b, off := 6 } (Value.int IntKind.u64 ((getX s d : Nat) : Int))) p9) = wd at hA ⊢
            clear HST HA i0 i1 i2 i3 i4 i5 i6 r0 r1 r2 r3 r4 r5 r6 r7 s0 s1 s2 s3 s4 s5 s6 s7 c0 c1 c2 c3 c4 c5 c6 c7 z0 z1 z2 z3 z4 z5 z6 z7 l1 l2 l3 l4 n1 n2 n3 n4 h5
            have HST := Lib.hid hA.st
            have h2 := hA.ins
            have h4 := hA.acc
            have h3 := hA.res
            have h5 := hA.lo
            have l1 : b < _ := cell_lt hA.acc.1.1
            have l2 : w.heap.size + 1 + 1 < _ := cell_lt hA.res.1.1
            have l3 : w.heap.size + 1 < _ := cell_lt hA.ins.1
            have l4 : w.heap.size < _ := hA.st.lt
            unfold IAt at h2
            unfold Acc8 at h3 h4
            obtain ⟨i0, i1, i2, i3, i4, i5, i6⟩ := h2
            obtain ⟨⟨r0, r1, r2, r3, r4, r5, r6, r7⟩, s0, s1, s2, s3, s4, s5, s6, s7⟩ := h3
            obtain ⟨⟨c0, c1, c2, c3, c4, c5, c6, c7⟩, z0, z1, z2, z3, z4, z5, z6, z7⟩ := h4
            have n1 : ¬ b = w.heap.size + 1 + 1 := by omega
            have n2 : ¬ w.heap.size + 1 + 1 = b := by omega
            have n3 : ¬ b = w.heap.size + 1 := by omega
            have n4 : ¬ w.heap.size + 1 = b := by omega
            have HA := Lib.hid hA
            clear hA
            go_upto_region 10 with (go_at_call 26; refine (PA.out _).mono ?_; rintro e w9 ⟨rfl, p8, rfl⟩)
            have hA := HA.out.more p8
            generalize (more wd p8) = wd at hA ⊢
            clear HST HA i0 i1 i2 i3 i4 i5 i6 r0 r1 r2 r3 r4 r5 r6 r7 s0 s1 s2 s3 s4 s5 s6 s7 c0 c1 c2 c3 c4 c5 c6 c7 z0 z1 z2 z3 z4 z5 z6 z7 l1 l2 l3 l4 n1 n2 n3 n4 h5
            have HST := Lib.hid hA.st
            have h2 := hA.ins
            have h4 := hA.acc
            have h3 := hA.res
            have h5 := hA.lo
            have l1 : b < _ := cell_lt hA.acc.1.1
            have l2 : w.heap.size + 1 + 1 < _ := cell_lt hA.res.1.1
            have l3 : w.heap.size + 1 < _ := cell_lt hA.ins.1
            have l4 : w.heap.size < _ := hA.st.lt
            unfold IAt at h2
            unfold Acc8 at h3 h4
            obtain ⟨i0, i1, i2, i3, i4, i5, i6⟩ := h2
            obtain ⟨⟨r0, r1, r2, r3, r4, r5, r6, r7⟩, s0, s1, s2, s3, s4, s5, s6, s7⟩ := h3
            obtain ⟨⟨c0, c1, c2, c3, c4, c5, c6, c7⟩, z0, z1, z2, z3, z4, z5, z6, z7⟩ := h4
            have n1 : ¬ b = w.heap.size + 1 + 1 := by omega
            have n2 : ¬ w.heap.size + 1 + 1 = b := by omega
            have n3 : ¬ b = w.heap.size + 1 := by omega
            have n4 : ¬ w.heap.size + 1 = b := by omega
            have HA := Lib.hid hA
            clear hA
            refine wp_tail_more 11 (by kernel_rfl) (by kernel_rfl) ?_
            simp only [List.take_succ_cons, List.take_zero, List.drop_succ_cons, List.drop_zero]
            repeat (go_big_quiet_step (first | (go_at_call 27; exact quiet_more (MK.out _))))
            refine wpQuiet_nil ?_
            intro p10
            go_upto_region 11 with fail
            have hA := (HA.out.set6 (bits .and .u64 ((getX s d : Nat) : Int) (mk : Nat))).more p10
            generalize (more (wd.setCell { block := b, off := 6 } (Value.int IntKind.u64 (bits .and .u64 ((getX s d : Nat) : Int) (mk : Nat)))) p10) = wd at hA ⊢
            clear HST HA i0 i1 i2 i3 i4 i5 i6 r0 r1 r2 r3 r4 r5 r6 r7 s0 s1 s2 s3 s4 s5 s6 s7 c0 c1 c2 c3 c4 c5 c6 c7 z0 z1 z2 z3 z4 z5 z6 z7 l1 l2 l3 l4 n1 n2 n3 n4 h5
            have HST := Lib.hid hA.st
            have h2 := hA.ins
            have h4 := hA.acc
            have h3 := hA.res
            have h5 := hA.lo
            have l1 : b < _ := cell_lt hA.acc.1.1
            have l2 : w.heap.size + 1 + 1 < _ := cell_lt hA.res.1.1
            have l3 : w.heap.size + 1 < _ := cell_lt hA.ins.1
            have l4 : w.heap.size < _ := hA.st.lt
            unfold IAt at h2
            unfold Acc8 at h3 h4
            obtain ⟨i0, i1, i2, i3, i4, i5, i6⟩ := h2
            obtain ⟨⟨r0, r1, r2, r3, r4, r5, r6, r7⟩, s0, s1, s2, s3, s4, s5, s6, s7⟩ := h3
            obtain ⟨⟨c0, c1, c2, c3, c4, c5, c6, c7⟩, z0, z1, z2, z3, z4, z5, z6, z7⟩ := h4
            have n1 : ¬ b = w.heap.size + 1 + 1 := by omega
            have n2 : ¬ w.heap.size + 1 + 1 = b := by omega
            have n3 : ¬ b = w.heap.size + 1 := by omega
            have n4 : ¬ w.heap.size + 1 = b := by omega
            have HA := Lib.hid hA
            clear hA
            rw [← q0] at HA c6
            go_wp2_with fail
            all_goals
              refine bodyPost_ret (v := ?vb) ?hres rfl ?post
              case hres =>
                refine ask_ret (q := true) ?ca ?cb ?cc
                case ca => exact HA.out.res.there
                case cb => rfl
                case cc => rfl
              case post => exact Gives.mk rfl (below8 HA.out.below (by omega))

    · have q0 := e0.out
      have q1 := e1.out
      simp at q0 q1
      subst q0 q1
      clear e0 e1
      have K1 := Lib.hid (fun (W : World) (h : Below ((w.alloc (.cells (stC s.f) 27)).alloc (.cells #[.int .i64 op, .int .i64 d, .int .i64 n, .int .i64 m, .int .i64 e, .int .i64 sz, .int .i64 imm] 29)).heap.size ((w.alloc (.cells (stC s.f) 27)).alloc (.cells #[.int .i64 op, .int .i64 d, .int .i64 n, .int .i64 m, .int .i64 e, .int .i64 sz, .int .i64 imm] 29)) W) => IAt.below (i_new2 (w.alloc (.cells (stC s.f) 27)) ⟨op, d, n, m, e, sz, imm⟩ 29 (w.heap.size + 1) (by simp)) h)
      have K2 := Lib.hid (fun (W : World) (h : Below (((w.alloc (.cells (stC s.f) 27)).alloc (.cells #[.int .i64 op, .int .i64 d, .int .i64 n, .int .i64 m, .int .i64 e, .int .i64 sz, .int .i64 imm] 29)).alloc (.cells #[.bool false, .int .i64 0, .int .i64 0, .bool false, .bool false, .bool false, .int .u64 0, .int .u64 0] 32)).heap.size (((w.alloc (.cells (stC s.f) 27)).alloc (.cells #[.int .i64 op, .int .i64 d, .int .i64 n, .int .i64 m, .int .i64 e, .int .i64 sz, .int .i64 imm] 29)).alloc (.cells #[.bool false, .int .i64 0, .int .i64 0, .bool false, .bool false, .bool false, .int .u64 0, .int .u64 0] 32)) W) => Acc8.below (acc_new2 ((w.alloc (.cells (stC s.f) 27)).alloc (.cells #[.int .i64 op, .int .i64 d, .int .i64 n, .int .i64 m, .int .i64 e, .int .i64 sz, .int .i64 imm] 29)) false 0 0 false false false 0 0 32 (w.heap.size + 1 + 1) (by simp)) h)
      go_enter Try.func7, Try.ntmps7
      go_upto_region 3 with (first
        | (go_at_call 20; refine (SO.out _).mono ?_; rintro e w1 ⟨rfl, p, rfl⟩)
        | (go_at_call 21; refine (ME.out _).mono ?_; rintro e w1 ⟨rfl, p2, rfl⟩))
      go_cut [6] from 17 to 25 (fun t6 wx => ∃ b, t6 = .pointer (some ⟨b, 0, none⟩) ∧ AskW w wx s ⟨op, d, n, m, e, sz, imm⟩ b true SA L x1 false false 0 0)
      case first =>
        go_region_held3 (fun W => W.cell? ⟨w.heap.size + 1, 0, none⟩ = some (.int .i64 op) ∧ W.cell? ⟨w.heap.size + 1, 1, none⟩ = some (.int .i64 d) ∧ W.cell? ⟨w.heap.size + 1, 2, none⟩ = some (.int .i64 n) ∧ W.cell? ⟨w.heap.size + 1, 3, none⟩ = some (.int .i64 m) ∧ W.cell? ⟨w.heap.size + 1, 4, none⟩ = some (.int .i64 e) ∧ W.cell? ⟨w.heap.size + 1, 5, none⟩ = some (.int .i64 sz) ∧ W.cell? ⟨w.heap.size + 1, 6, none⟩ = some (.int .i64 imm)) (first | (simp [go_sem, ↓IntWalk.iteOmega]; done) | (simp [go_sem, ↓IntWalk.iteOmega]; omega)) (first
          | (go_at_call 22; refine (WR.out _).mono ?_; rintro e w1 ⟨rfl, p3, rfl⟩)
          | (go_at_call 24; refine (EX.out _).mono ?_; rintro e w1 ⟨rfl, p3, rfl⟩)
          | (go_at_call 23; refine (WH.out _ (HS.out _ (by repeat (first | exact Below.refl _ _ | refine below_mo ?_ _ | refine below_al ?_ _ | refine below_dr ?_)))).mono ?_; rintro e w1 ⟨rfl, p3, rfl⟩))
        all_goals
          go_wp2_with fail
          go_meet
          refine ⟨_, rfl, HS.out _ (by repeat (first | exact Below.refl _ _ | refine below_mo ?_ _ | refine below_al ?_ _ | refine below_dr ?_)), K1.out _ (by repeat (first | exact Below.refl _ _ | refine below_mo ?_ _ | refine below_al ?_ _ | refine below_dr ?_)), K2.out _ (by repeat (first | exact Below.refl _ _ | refine below_mo ?_ _ | refine below_al ?_ _ | refine below_dr ?_)), ?_, by omega, (by repeat (first | exact Below.refl _ _ | refine below_mo ?_ _ | refine below_al ?_ _ | refine below_dr ?_))⟩
          repeat refine acc_more ?_ _
          exact acc_new2 _ _ _ _ _ _ _ _ _ _ _ (by first | rfl | simp [go_sem])
      case rest =>
        clear HS K1 K2 WH SO ME WR EX
        obtain ⟨b, rfl, hA⟩ := hcut
        go_upto_region 4 with fail
        go_cut [] from 26 to 38 (fun wx => AskW w wx s ⟨op, d, n, m, e, sz, imm⟩ b true SA L x1 (op == 19 || op == 22 || op == 26) false 0 0)
        case first =>
          have HST := Lib.hid hA.st
          have h2 := hA.ins
          have h4 := hA.acc
          have h3 := hA.res
          have h5 := hA.lo
          have l1 : b < _ := cell_lt hA.acc.1.1
          have l2 : w.heap.size + 1 + 1 < _ := cell_lt hA.res.1.1
          have l3 : w.heap.size + 1 < _ := cell_lt hA.ins.1
          have l4 : w.heap.size < _ := hA.st.lt
          unfold IAt at h2
          unfold Acc8 at h3 h4
          obtain ⟨i0, i1, i2, i3, i4, i5, i6⟩ := h2
          obtain ⟨⟨r0, r1, r2, r3, r4, r5, r6, r7⟩, s0, s1, s2, s3, s4, s5, s6, s7⟩ := h3
          obtain ⟨⟨c0, c1, c2, c3, c4, c5, c6, c7⟩, z0, z1, z2, z3, z4, z5, z6, z7⟩ := h4
          have n1 : ¬ b = w.heap.size + 1 + 1 := by omega
          have n2 : ¬ w.heap.size + 1 + 1 = b := by omega
          have n3 : ¬ b = w.heap.size + 1 := by omega
          have n4 : ¬ w.heap.size + 1 = b := by omega
          have HA := Lib.hid hA
          clear hA
          go_wp2_with fail
          all_goals
            try subst_vars
            go_meet
            first
              | (refine ask4t HA.out ?_; omega)
              | (refine ask4f HA.out ?_; omega)
              | exact HA.out.set4 _
        case rest =>
          clear hA
          have hA := hcut
          clear hcut
          go_upto_region 5 with fail
          go_cut [] from 39 to 53 (fun wx => AskW w wx s ⟨op, d, n, m, e, sz, imm⟩ b true SA L x1 (op == 19 || op == 22 || op == 26) (op == 20 || op == 24 || op == 28) 0 0)
          case first =>
            have HST := Lib.hid hA.st
            have h2 := hA.ins
            have h4 := hA.acc
            have h3 := hA.res
            have h5 := hA.lo
            have l1 : b < _ := cell_lt hA.acc.1.1
            have l2 : w.heap.size + 1 + 1 < _ := cell_lt hA.res.1.1
            have l3 : w.heap.size + 1 < _ := cell_lt hA.ins.1
            have l4 : w.heap.size < _ := hA.st.lt
            unfold IAt at h2
            unfold Acc8 at h3 h4
            obtain ⟨i0, i1, i2, i3, i4, i5, i6⟩ := h2
            obtain ⟨⟨r0, r1, r2, r3, r4, r5, r6, r7⟩, s0, s1, s2, s3, s4, s5, s6, s7⟩ := h3
            obtain ⟨⟨c0, c1, c2, c3, c4, c5, c6, c7⟩, z0, z1, z2, z3, z4, z5, z6, z7⟩ := h4
            have n1 : ¬ b = w.heap.size + 1 + 1 := by omega
            have n2 : ¬ w.heap.size + 1 + 1 = b := by omega
            have n3 : ¬ b = w.heap.size + 1 := by omega
            have n4 : ¬ w.heap.size + 1 = b := by omega
            have HA := Lib.hid hA
            clear hA
            go_wp2_with fail
            all_goals
              try subst_vars
              go_meet
              first
                | (refine ask5t HA.out ?_; omega)
                | (refine ask5f HA.out ?_; omega)
                | exact HA.out.set5 _
          case rest =>
            clear hA
            have hA := hcut
            clear hcut
            have HST := Lib.hid hA.st
            have h2 := hA.ins
            have h4 := hA.acc
            have h3 := hA.res
            have h5 := hA.lo
            have l1 : b < _ := cell_lt hA.acc.1.1
            have l2 : w.heap.size + 1 + 1 < _ := cell_lt hA.res.1.1
            have l3 : w.heap.size + 1 < _ := cell_lt hA.ins.1
            have l4 : w.heap.size < _ := hA.st.lt
            unfold IAt at h2
            unfold Acc8 at h3 h4
            obtain ⟨i0, i1, i2, i3, i4, i5, i6⟩ := h2
            obtain ⟨⟨r0, r1, r2, r3, r4, r5, r6, r7⟩, s0, s1, s2, s3, s4, s5, s6, s7⟩ := h3
            obtain ⟨⟨c0, c1, c2, c3, c4, c5, c6, c7⟩, z0, z1, z2, z3, z4, z5, z6, z7⟩ := h4
            have n1 : ¬ b = w.heap.size + 1 + 1 := by omega
            have n2 : ¬ w.heap.size + 1 + 1 = b := by omega
            have n3 : ¬ b = w.heap.size + 1 := by omega
            have n4 : ¬ w.heap.size + 1 = b := by omega
            have HA := Lib.hid hA
            clear hA
            go_upto_region 8 with (first
              | (go_at_call 25; refine (G.out _ (by omega) _ (by repeat (first | with_reducible exact HST.out | with_reducible refine stat_more ?_ _ | with_reducible refine stat_setc ?_ (by omega)))).mono ?_; rintro e w9 ⟨rfl, p9, rfl⟩)
              | (go_at_call 26; refine (PA.out _).mono ?_; rintro e w9 ⟨rfl, p8, rfl⟩))
            have hA := (HA.out.set6 ((getX s d : Nat) : Int)).more p9
            generalize (more (wc.setCell { block := b, off := 6 } (Value.int IntKind.u64 ((getX s d : Nat) : Int))) p9) = wd at hA ⊢
            clear HST HA i0 i1 i2 i3 i4 i5 i6 r0 r1 r2 r3 r4 r5 r6 r7 s0 s1 s2 s3 s4 s5 s6 s7 c0 c1 c2 c3 c4 c5 c6 c7 z0 z1 z2 z3 z4 z5 z6 z7 l1 l2 l3 l4 n1 n2 n3 n4 h5
            have HST := Lib.hid hA.st
            have h2 := hA.ins
            have h4 := hA.acc
            have h3 := hA.res
            have h5 := hA.lo
            have l1 : b < _ := cell_lt hA.acc.1.1
            have l2 : w.heap.size + 1 + 1 < _ := cell_lt hA.res.1.1
            have l3 : w.heap.size + 1 < _ := cell_lt hA.ins.1
            have l4 : w.heap.size < _ := hA.st.lt
            unfold IAt at h2
            unfold Acc8 at h3 h4
            obtain ⟨i0, i1, i2, i3, i4, i5, i6⟩ := h2
            obtain ⟨⟨r0, r1, r2, r3, r4, r5, r6, r7⟩, s0, s1, s2, s3, s4, s5, s6, s7⟩ := h3
            obtain ⟨⟨c0, c1, c2, c3, c4, c5, c6, c7⟩, z0, z1, z2, z3, z4, z5, z6, z7⟩ := h4
            have n1 : ¬ b = w.heap.size + 1 + 1 := by omega
            have n2 : ¬ w.heap.size + 1 + 1 = b := by omega
            have n3 : ¬ b = w.heap.size + 1 := by omega
            have n4 : ¬ w.heap.size + 1 = b := by omega
            have HA := Lib.hid hA
            clear hA
            go_upto_region 9 with (go_at_call 26; refine (PA.out _).mono ?_; rintro e w9 ⟨rfl, p8, rfl⟩)
            have hA := HA.out.more p8
            generalize (more wd p8) = wd at hA ⊢
            clear HST HA i0 i1 i2 i3 i4 i5 i6 r0 r1 r2 r3 r4 r5 r6 r7 s0 s1 s2 s3 s4 s5 s6 s7 c0 c1 c2 c3 c4 c5 c6 c7 z0 z1 z2 z3 z4 z5 z6 z7 l1 l2 l3 l4 n1 n2 n3 n4 h5
            have HST := Lib.hid hA.st
            have h2 := hA.ins
            have h4 := hA.acc
            have h3 := hA.res
            have h5 := hA.lo
            have l1 : b < _ := cell_lt hA.acc.1.1
            have l2 : w.heap.size + 1 + 1 < _ := cell_lt hA.res.1.1
            have l3 : w.heap.size + 1 < _ := cell_lt hA.ins.1
            have l4 : w.heap.size < _ := hA.st.lt
            unfold IAt at h2
            unfold Acc8 at h3 h4
            obtain ⟨i0, i1, i2, i3, i4, i5, i6⟩ := h2
            obtain ⟨⟨r0, r1, r2, r3, r4, r5, r6, r7⟩, s0, s1, s2, s3, s4, s5, s6, s7⟩ := h3
            obtain ⟨⟨c0, c1, c2, c3, c4, c5, c6, c7⟩, z0, z1, z2, z3, z4, z5, z6, z7⟩ := h4
            have n1 : ¬ b = w.heap.size + 1 + 1 := by omega
            have n2 : ¬ w.heap.size + 1 + 1 = b := by omega
            have n3 : ¬ b = w.heap.size + 1 := by omega
            have n4 : ¬ w.heap.size + 1 = b := by omega
            have HA := Lib.hid hA
            clear hA
            go_upto_region 11 with (first
              | (go_at_call 25; refine (G.out _ (by omega) _ (by repeat (first | with_reducible exact HST.out | with_reducible refine stat_more ?_ _ | with_reducible refine stat_setc ?_ (by omega)))).mono ?_; rintro e w9 ⟨rfl, p9, rfl⟩)
              | (go_at_call 26; refine (PA.out _).mono ?_; rintro e w9 ⟨rfl, p8, rfl⟩))
            have hA := (HA.out.set7 ((getX s e : Nat) : Int)).more p9
            generalize (more (wd.setCell { block := b, off := 7 } (Value.int IntKind.u64 ((getX s e : Nat) : Int))) p9) = wd at hA ⊢
            clear HST HA i0 i1 i2 i3 i4 i5 i6 r0 r1 r2 r3 r4 r5 r6 r7 s0 s1 s2 s3 s4 s5 s6 s7 c0 c1 c2 c3 c4 c5 c6 c7 z0 z1 z2 z3 z4 z5 z6 z7 l1 l2 l3 l4 n1 n2 n3 n4 h5
            have HST := Lib.hid hA.st
            have h2 := hA.ins
            have h4 := hA.acc
            have h3 := hA.res
            have h5 := hA.lo
            have l1 : b < _ := cell_lt hA.acc.1.1
            have l2 : w.heap.size + 1 + 1 < _ := cell_lt hA.res.1.1
            have l3 : w.heap.size + 1 < _ := cell_lt hA.ins.1
            have l4 : w.heap.size < _ := hA.st.lt
            unfold IAt at h2
            unfold Acc8 at h3 h4
            obtain ⟨i0, i1, i2, i3, i4, i5, i6⟩ := h2
            obtain ⟨⟨r0, r1, r2, r3, r4, r5, r6, r7⟩, s0, s1, s2, s3, s4, s5, s6, s7⟩ := h3
            obtain ⟨⟨c0, c1, c2, c3, c4, c5, c6, c7⟩, z0, z1, z2, z3, z4, z5, z6, z7⟩ := h4
            have n1 : ¬ b = w.heap.size + 1 + 1 := by omega
            have n2 : ¬ w.heap.size + 1 + 1 = b := by omega
            have n3 : ¬ b = w.heap.size + 1 := by omega
            have n4 : ¬ w.heap.size + 1 = b := by omega
            have HA := Lib.hid hA
            clear hA
            go_wp2_with fail
            all_goals
              refine bodyPost_ret (v := ?vc) ?hres rfl ?post
              case hres =>
                refine ask_ret (q := true) ?ca ?cb ?cc
                case ca => exact HA.out.res.there
                case cb => rfl
                case cc => rfl
              case post => exact Gives.mk rfl (below8 HA.out.below (by omega))

end Go.Proofs.Ytfijppclaahkmaa
