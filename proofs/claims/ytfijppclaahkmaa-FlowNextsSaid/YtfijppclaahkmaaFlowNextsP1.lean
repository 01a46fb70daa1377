/- Walk: FlowNexts, instructions that move nothing. Conditions: numbers fit. Walk: FlowNexts, instructions that set a register, but Subs. Conditions: numbers fit. Walk: FlowNexts, Subs. Conditions: numbers fit. Walk: FlowNexts, Clrex. Conditions: numbers fit. -/
import Derived.Test.YtfijppclaahkmaaFlowNextsKT
namespace Go.Proofs.Ytfijppclaahkmaa
open Go.RowKit Go.Sort
set_option linter.unusedVariables false
set_option linter.unusedSimpArgs false
set_option maxRecDepth 10000 in
set_option maxHeartbeats 2000000 in
theorem nexts_s (s : St) (i : Ins) (hi : i.rng) (hs : s.ok) (g0 g1 : Nat) (h0 : g0 < 18446744073709551616) (fits : Bool) (v : Nat) (h : enc i = some v) (hn0 : numB i.op = false) (hm : meB i.op = false) (h30 : i.op ≠ 30) (w : World) : Calls Try.prog 4 #[stV s, insV i, .agg #[.int .u64 (g0 : Nat), .int .u64 (g1 : Nat)], .bool fits] w fun e w' => e = .returned (.bool true) ∧ Below w.heap.size w w' := by
  have hf := enc_facts h
  have A := Lib.hid awake_fl
  have NX := Lib.hid (fun W => next_yes s i hi hs g0 g1 h0 fits v h W)
  have RE := Lib.hid (fun W => rencode_any i hi W)
  rw [h] at RE
  have VA := Lib.hid (fun W => value_any s i hf hs W)
  have ST := Lib.hid (fun W => st_new W s 27)
  have SS := Lib.hid (fun t p p2 => nx_start w s t i g0 g1 p p2)
  have LS := Lib.hid (fun (u : St) n hn v x hx W => lset_int u n hn v x hx W)
  have SZ := Lib.hid (fun W => rsize_no i hm W)
  have AK := Lib.hid (fun W => ask_no s i hi (Or.inr hm) W)
  have X := Lib.hid (fun k hk W => rX_any s k hk W)
  have HO := Lib.hid (fun hc W => rholds_any s i.e hc W)
  have WR := Lib.hid (fun W => gives_same (rwrites_any i.op W))
  have ET := Lib.hid (nexts_still s i g0 g1 fits hn0 hm h30)
  have HJ := Lib.hid (nxI.eq_1 s i)
  have HK := Lib.hid (takB.eq_1 s i)
  have hop := hf.op
  have hd := hf.d
  have hn := hf.n
  have hm31 := hf.m
  have he31 := hf.e
  have f3 := hf.four
  have gd := getX_lt hs i.d
  generalize nextS s i g0 g1 fits = T at *
  generalize nxI s i = nx at *
  generalize takB s i = tk at *
  clear hi hs hf h
  obtain ⟨op, d, n, m, e, sz, imm⟩ := i
  rw [show stV s = .agg (stC s.f) from rfl]
  generalize hv : stV s = V at NX VA AK X HO
  replace hv := Lib.hid hv
  unfold insV accV at *
  simp only [Option.getD_some, Option.isSome_some] at NX RE VA AK SZ HO WR HJ HK ET
  show Calls Try.prog _ #[.agg (stC s.f), .agg #[.int .i64 op, .int .i64 d, .int .i64 n, .int .i64 m, .int .i64 e, .int .i64 sz, .int .i64 imm], .agg #[.int .u64 (g0 : Nat), .int .u64 (g1 : Nat)], .bool fits] w _
  go_enter Try.func4, Try.ntmps4
  go_upto_region 1 with fail
  refine wp_region_lit ?_
  refine wpList_load_st (s := s) (b := w.heap.size) (.tmp 4) rfl rfl rfl (stat_alloc (stat_alloc (ST.out w) _) _) ?_
  rw [hv.out]
  go_frame
  go_upto_region 5 with (first
    | (refine wpList_alloc_st rfl rfl ?_; go_frame)
    | (refine wpList_store_new (s := T) (.tmp 9) (.tmp 26) rfl rfl rfl rfl ?_ ?_; (generalize stV _ = Z; rfl); go_frame)
    | (go_at_call 8; refine (RE.out _).mono ?_; rintro e w1 ⟨rfl, p2, rfl⟩)
    | (go_at_call 14; refine (NX.out _).mono ?_; rintro e w1 ⟨rfl, p1, rfl⟩))
  refine wp_region_lit ?_
  refine wpList_load_st (s := s) (b := w.heap.size) (.tmp 4) rfl rfl rfl ?_ ?_
  · (repeat (first | with_reducible exact ST.out _ | with_reducible refine stat_more ?_ _ | with_reducible refine stat_alloc ?_ _))
  go_frame
  go_upto_region 6 with (first
    | (refine wpList_alloc_st rfl rfl ?_; go_frame)
    | (refine wpList_store_new (s := s) (.tmp 13) (.tmp 45) rfl rfl rfl rfl ?_ ?_; (generalize stV _ = Z; rfl); go_frame))
  simp only [more_size, World.size_alloc]
  rw [hv.out]
  refine wp_letter (R := fun W => NxW w W s ⟨op, d, n, m, e, sz, imm⟩ g0 g1 (w.heap.size + 1 + 1 + 1 + p1.os.size) T (w.heap.size + 1 + 1 + 1 + p1.os.size + 1 + p2.os.size) s) (SS.out T p1 p2) ?_
  intro wx hN
  clear SS ST NX RE
  have lz : w.heap.size + 1 + 1 < _ := cell_lt hN.got.1
  have ll := hN.lb
  have hI := hN.ins
  unfold IAt at hI
  obtain ⟨i0, i1, i2, i3, i4, i5, i6⟩ := hI
  have hG := hN.got
  unfold Two at hG
  obtain ⟨k0, k1⟩ := hG
  have r31 := (hN.st 31 (by omega)).1
  rw [f_pc] at r31
  have c31 := (hN.want 31 (by omega)).1
  have c32 := (hN.want 32 (by omega)).1
  have c33 := (hN.want 33 (by omega)).1
  have c34 := (hN.want 34 (by omega)).1
  have c35 := (hN.want 35 (by omega)).1
  have z31 := (hN.want 31 (by omega)).2
  have z32 := (hN.want 32 (by omega)).2
  have z33 := (hN.want 33 (by omega)).2
  have z34 := (hN.want 34 (by omega)).2
  have z35 := (hN.want 35 (by omega)).2
  have HN := Lib.hid hN
  clear hN
  rw [hn0] at VA
  generalize numI s ⟨op, d, n, m, e, sz, imm⟩ = xv at VA
  go_cut [14] from 46 to 83 (fun t W => t = .bool tk ∧ NxW w W s ⟨op, d, n, m, e, sz, imm⟩ g0 g1 (w.heap.size + 1 + 1 + 1 + p1.os.size) T (w.heap.size + 1 + 1 + 1 + p1.os.size + 1 + p2.os.size) s)
  case first =>
    have qK := HK.out
    clear HK HJ ET
    have hc : op = 13 ∨ op = 14 ∨ op = 15 ∨ op = 16 ∨ (¬ op = 13 ∧ ¬ op = 14 ∧ ¬ op = 15 ∧ ¬ op = 16) := by omega
    rcases hc with rfl | rfl | rfl | rfl | ⟨j1, j2, j3, j4⟩
    · simp at qK
      subst qK
      go_wp2_with fail
      go_meet
      exact ⟨rfl, HN.out⟩
    · simp at qK
      generalize hoB s e = H at HO qK
      subst qK
      cases tk
      all_goals
        go_wp2_with (first | (go_at_call 15; refine (HO.out ⟨he31.1, f3 (by omega)⟩ _).mono ?_; rintro e w1 ⟨rfl, p3, rfl⟩) | ((with_reducible refine wpList_load_stg (s := s) (b := w.heap.size) (.tmp 4) rfl ?_ ?_ ?_ ?_); rfl; rfl; (repeat (first | with_reducible exact HN.out.st | with_reducible exact HN.out.want | with_reducible exact HN.out.nx | with_reducible refine stat_more ?_ _ | with_reducible refine stat_alloc ?_ _)); rw [hv.out]; go_frame))
        go_meet
        exact ⟨rfl, by repeat (first | with_reducible exact HN.out | with_reducible refine NxW.more ?_ _)⟩
    · simp at qK
      have X0 := Lib.hid (X.out d hd)
      generalize getX s d = xd at X0 qK gd
      clear X
      by_cases hx0 : xd = 0
      · subst hx0
        have qk : tk = true := by rw [qK]; rfl
        clear qK
        subst qk
        go_wp2_with (first | (go_at_call 11; refine (X0.out _).mono ?_; rintro e w1 ⟨rfl, p3, rfl⟩) | ((with_reducible refine wpList_load_stg (s := s) (b := w.heap.size) (.tmp 4) rfl ?_ ?_ ?_ ?_); rfl; rfl; (repeat (first | with_reducible exact HN.out.st | with_reducible exact HN.out.want | with_reducible exact HN.out.nx | with_reducible refine stat_more ?_ _ | with_reducible refine stat_alloc ?_ _)); rw [hv.out]; go_frame))
        go_meet
        exact ⟨rfl, by repeat (first | with_reducible exact HN.out | with_reducible refine NxW.more ?_ _)⟩
      · have hx1 : ((xd : Int) == 0) = false := by simp; omega
        have hx2 : ((xd : Int) != 0) = true := by simp; omega
        have qk : tk = false := by rw [qK]; first | exact hx1 | exact hx2
        clear qK
        subst qk
        go_wp2_with (first | (go_at_call 11; refine (X0.out _).mono ?_; rintro e w1 ⟨rfl, p3, rfl⟩) | ((with_reducible refine wpList_load_stg (s := s) (b := w.heap.size) (.tmp 4) rfl ?_ ?_ ?_ ?_); rfl; rfl; (repeat (first | with_reducible exact HN.out.st | with_reducible exact HN.out.want | with_reducible exact HN.out.nx | with_reducible refine stat_more ?_ _ | with_reducible refine stat_alloc ?_ _)); rw [hv.out]; go_frame))
        go_meet
        exact ⟨rfl, by repeat (first | with_reducible exact HN.out | with_reducible refine NxW.more ?_ _)⟩
    · simp at qK
      have X0 := Lib.hid (X.out d hd)
      generalize getX s d = xd at X0 qK gd
      clear X
      by_cases hx0 : xd = 0
      · subst hx0
        have qk : tk = false := by rw [qK]; rfl
        clear qK
        subst qk
        go_wp2_with (first | (go_at_call 11; refine (X0.out _).mono ?_; rintro e w1 ⟨rfl, p3, rfl⟩) | ((with_reducible refine wpList_load_stg (s := s) (b := w.heap.size) (.tmp 4) rfl ?_ ?_ ?_ ?_); rfl; rfl; (repeat (first | with_reducible exact HN.out.st | with_reducible exact HN.out.want | with_reducible exact HN.out.nx | with_reducible refine stat_more ?_ _ | with_reducible refine stat_alloc ?_ _)); rw [hv.out]; go_frame))
        go_meet
        exact ⟨rfl, by repeat (first | with_reducible exact HN.out | with_reducible refine NxW.more ?_ _)⟩
      · have hx1 : ((xd : Int) == 0) = false := by simp; omega
        have hx2 : ((xd : Int) != 0) = true := by simp; omega
        have qk : tk = true := by rw [qK]; first | exact hx1 | exact hx2
        clear qK
        subst qk
        go_wp2_with (first | (go_at_call 11; refine (X0.out _).mono ?_; rintro e w1 ⟨rfl, p3, rfl⟩) | ((with_reducible refine wpList_load_stg (s := s) (b := w.heap.size) (.tmp 4) rfl ?_ ?_ ?_ ?_); rfl; rfl; (repeat (first | with_reducible exact HN.out.st | with_reducible exact HN.out.want | with_reducible exact HN.out.nx | with_reducible refine stat_more ?_ _ | with_reducible refine stat_alloc ?_ _)); rw [hv.out]; go_frame))
        go_meet
        exact ⟨rfl, by repeat (first | with_reducible exact HN.out | with_reducible refine NxW.more ?_ _)⟩
    · rw [if_neg j1, if_neg j2, if_neg j3, if_neg j4] at qK
      subst qK
      have b13 : (op == 13) = false := by simpa using j1
      have b14 : (op == 14) = false := by simpa using j2
      have b15 : (op == 15) = false := by simpa using j3
      have b16 : (op == 16) = false := by simpa using j4
      go_wp2_with fail
      go_meet
      exact ⟨rfl, HN.out⟩
  case rest =>
    obtain ⟨rfl, hN⟩ := hcut
    clear HN lz ll i0 i1 i2 i3 i4 i5 i6 k0 k1 r31 c31 c32 c33 c34 c35 z31 z32 z33 z34 z35
    clear HK X HO
    have lz : w.heap.size + 1 + 1 < _ := cell_lt hN.got.1
    have ll := hN.lb
    have hI := hN.ins
    unfold IAt at hI
    obtain ⟨i0, i1, i2, i3, i4, i5, i6⟩ := hI
    have hG := hN.got
    unfold Two at hG
    obtain ⟨k0, k1⟩ := hG
    have r31 := (hN.st 31 (by omega)).1
    rw [f_pc] at r31
    have c31 := (hN.want 31 (by omega)).1
    have c32 := (hN.want 32 (by omega)).1
    have c33 := (hN.want 33 (by omega)).1
    have c34 := (hN.want 34 (by omega)).1
    have c35 := (hN.want 35 (by omega)).1
    have z31 := (hN.want 31 (by omega)).2
    have z32 := (hN.want 32 (by omega)).2
    have z33 := (hN.want 33 (by omega)).2
    have z34 := (hN.want 34 (by omega)).2
    have z35 := (hN.want 35 (by omega)).2
    have HN := Lib.hid hN
    clear hN
    go_upto_if 88 with fail
    go_cut [] from 88 to 94 (fun W => NxW w W s ⟨op, d, n, m, e, sz, imm⟩ g0 g1 (w.heap.size + 1 + 1 + 1 + p1.os.size) T (w.heap.size + 1 + 1 + 1 + p1.os.size + 1 + p2.os.size) T)
    case first =>
      have hj := HJ.out
      cases tk
      · simp only [Bool.false_eq_true, if_false] at hj
        go_wp2_with fail
        go_meet
        exact HN.out.pc (wrap64 (s.pc + 1)) (by rw [ET.out, hj])
      · simp only [if_true] at hj
        go_wp2_with fail
        go_meet
        exact (HN.out.pc (wrap64 (s.pc + 1)) (u' := { s with pc := wrap64 (s.pc + 1) }) rfl).pc (wrap64 (s.pc + imm)) (by rw [ET.out, hj])
    case rest =>
      have hN := hcut
      clear hcut
      clear HN lz ll i0 i1 i2 i3 i4 i5 i6 k0 k1 r31 c31 c32 c33 c34 c35 z31 z32 z33 z34 z35
      have lz : w.heap.size + 1 + 1 < _ := cell_lt hN.got.1
      have ll := hN.lb
      have hI := hN.ins
      unfold IAt at hI
      obtain ⟨i0, i1, i2, i3, i4, i5, i6⟩ := hI
      have hG := hN.got
      unfold Two at hG
      obtain ⟨k0, k1⟩ := hG
      have r31 := (hN.st 31 (by omega)).1
      rw [f_pc] at r31
      have c31 := (hN.want 31 (by omega)).1
      have c32 := (hN.want 32 (by omega)).1
      have c33 := (hN.want 33 (by omega)).1
      have c34 := (hN.want 34 (by omega)).1
      have c35 := (hN.want 35 (by omega)).1
      have z31 := (hN.want 31 (by omega)).2
      have z32 := (hN.want 32 (by omega)).2
      have z33 := (hN.want 33 (by omega)).2
      have z34 := (hN.want 34 (by omega)).2
      have z35 := (hN.want 35 (by omega)).2
      have HN := Lib.hid hN
      clear hN
      clear HJ ET
      have j5 : (op == 5) = false := by simp; intro e; subst e; simp [numB] at hn0
      have j30 : (op == 30) = false := by simpa using h30
      go_wp2_with (first
        | (go_at_call 16; refine (VA.out _).mono ?_; rintro e w1 ⟨rfl, q1, rfl⟩)
        | (go_at_call 9; refine (SZ.out _).mono ?_; rintro e w1 ⟨rfl, q2, rfl⟩)
        | (go_at_call 12; refine (WR.out _).mono ?_; rintro e w1 ⟨rfl, q5, rfl⟩)
        | (go_at_call 7; refine (AK.out _).mono ?_; rintro e w1 ⟨rfl, q3, rfl⟩)
        | (go_at_call 10; refine (A.out _).mono ?_; rintro e w1 ⟨rfl, q4, rfl⟩)
        | ((with_reducible refine wpList_load_stg (s := s) (b := w.heap.size) (.tmp 4) rfl ?_ ?_ ?_ ?_); rfl; rfl; (repeat (first | with_reducible exact HN.out.st | with_reducible exact HN.out.want | with_reducible exact HN.out.nx | with_reducible refine stat_more ?_ _ | with_reducible refine stat_alloc ?_ _)); rw [hv.out]; go_frame)
        | ((with_reducible refine wpList_load_stg (s := T) (b := (w.heap.size + 1 + 1 + 1 + p1.os.size)) (.tmp 9) rfl ?_ ?_ ?_ ?_); rfl; rfl; (repeat (first | with_reducible exact HN.out.st | with_reducible exact HN.out.want | with_reducible exact HN.out.nx | with_reducible refine stat_more ?_ _ | with_reducible refine stat_alloc ?_ _)); go_frame)
        | ((with_reducible refine wpList_load_stg (s := T) (b := (w.heap.size + 1 + 1 + 1 + p1.os.size + 1 + p2.os.size)) (.tmp 13) rfl ?_ ?_ ?_ ?_); rfl; rfl; (repeat (first | with_reducible exact HN.out.st | with_reducible exact HN.out.want | with_reducible exact HN.out.nx | with_reducible refine stat_more ?_ _ | with_reducible refine stat_alloc ?_ _)); go_frame)
        | ((with_reducible refine wpList_eql_st (s := T) (.tmp 207) (.tmp 208) rfl ?_ ?_ ?_ ?_); rfl; rfl; rfl; go_frame))
      all_goals (go_ret; exact ⟨rfl, by repeat (first | with_reducible exact HN.out.below | with_reducible refine below_mo ?_ _ | with_reducible refine below_al ?_ _)⟩)

end Go.Proofs.Ytfijppclaahkmaa
namespace Go.Proofs.Ytfijppclaahkmaa
open Go.RowKit Go.Sort
set_option linter.unusedVariables false
set_option linter.unusedSimpArgs false
set_option maxRecDepth 10000 in
set_option maxHeartbeats 2000000 in
theorem nexts_n (s : St) (i : Ins) (hi : i.rng) (hs : s.ok) (g0 g1 : Nat) (h0 : g0 < 18446744073709551616) (fits : Bool) (v : Nat) (h : enc i = some v) (hn0 : numB i.op = true) (h5 : i.op ≠ 5) (w : World) : Calls Try.prog 4 #[stV s, insV i, .agg #[.int .u64 (g0 : Nat), .int .u64 (g1 : Nat)], .bool fits] w fun e w' => e = .returned (.bool true) ∧ Below w.heap.size w w' := by
  have hf := enc_facts h
  have hm : meB i.op = false := by
    have hr : 1 ≤ i.op ∧ i.op ≤ 12 := by simpa [numB] using hn0
    simp [meB]
    omega
  have A := Lib.hid awake_fl
  have NX := Lib.hid (fun W => next_yes s i hi hs g0 g1 h0 fits v h W)
  have RE := Lib.hid (fun W => rencode_any i hi W)
  rw [h] at RE
  have VA := Lib.hid (fun W => value_any s i hf hs W)
  have ST := Lib.hid (fun W => st_new W s 27)
  have SS := Lib.hid (fun t p p2 => nx_start w s t i g0 g1 p p2)
  have LS := Lib.hid (fun (u : St) n hn v x hx W => lset_int u n hn v x hx W)
  have SZ := Lib.hid (fun W => rsize_no i hm W)
  have AK := Lib.hid (fun W => ask_no s i hi (Or.inr hm) W)
  have X := Lib.hid (fun k hk W => rX_any s k hk W)
  have HO := Lib.hid (fun hc W => rholds_any s i.e hc W)
  have WR := Lib.hid (fun W => gives_same (rwrites_any i.op W))
  have ET := Lib.hid (nexts_num s i g0 g1 fits hn0 h5)
  have HJ := Lib.hid (nxI.eq_1 s i)
  have HK := Lib.hid (takB.eq_1 s i)
  have hop := hf.op
  have hd := hf.d
  have hn := hf.n
  have hm31 := hf.m
  have he31 := hf.e
  have f3 := hf.four
  have gd := getX_lt hs i.d
  have hr : 1 ≤ i.op ∧ i.op ≤ 12 := by simpa [numB] using hn0
  have hnum := num_ok s i hf hs
  generalize hxn : (numI s i).toNat = xn at ET
  have hxv : numI s i = (xn : Int) := by omega
  generalize numI s i = xv at *
  generalize nextS s i g0 g1 fits = T at *
  generalize nxI s i = nx at *
  generalize takB s i = tk at *
  clear hi hs hf h
  obtain ⟨op, d, n, m, e, sz, imm⟩ := i
  rw [show stV s = .agg (stC s.f) from rfl]
  generalize hv : stV s = V at NX VA AK X HO
  replace hv := Lib.hid hv
  unfold insV accV at *
  simp only [Option.getD_some, Option.isSome_some] at NX RE VA AK SZ HO WR HJ HK ET
  show Calls Try.prog _ #[.agg (stC s.f), .agg #[.int .i64 op, .int .i64 d, .int .i64 n, .int .i64 m, .int .i64 e, .int .i64 sz, .int .i64 imm], .agg #[.int .u64 (g0 : Nat), .int .u64 (g1 : Nat)], .bool fits] w _
  go_enter Try.func4, Try.ntmps4
  go_upto_region 1 with fail
  refine wp_region_lit ?_
  refine wpList_load_st (s := s) (b := w.heap.size) (.tmp 4) rfl rfl rfl (stat_alloc (stat_alloc (ST.out w) _) _) ?_
  rw [hv.out]
  go_frame
  go_upto_region 5 with (first
    | (refine wpList_alloc_st rfl rfl ?_; go_frame)
    | (refine wpList_store_new (s := T) (.tmp 9) (.tmp 26) rfl rfl rfl rfl ?_ ?_; (generalize stV _ = Z; rfl); go_frame)
    | (go_at_call 8; refine (RE.out _).mono ?_; rintro e w1 ⟨rfl, p2, rfl⟩)
    | (go_at_call 14; refine (NX.out _).mono ?_; rintro e w1 ⟨rfl, p1, rfl⟩))
  refine wp_region_lit ?_
  refine wpList_load_st (s := s) (b := w.heap.size) (.tmp 4) rfl rfl rfl ?_ ?_
  · (repeat (first | with_reducible exact ST.out _ | with_reducible refine stat_more ?_ _ | with_reducible refine stat_alloc ?_ _))
  go_frame
  go_upto_region 6 with (first
    | (refine wpList_alloc_st rfl rfl ?_; go_frame)
    | (refine wpList_store_new (s := s) (.tmp 13) (.tmp 45) rfl rfl rfl rfl ?_ ?_; (generalize stV _ = Z; rfl); go_frame))
  simp only [more_size, World.size_alloc]
  rw [hv.out]
  refine wp_letter (R := fun W => NxW w W s ⟨op, d, n, m, e, sz, imm⟩ g0 g1 (w.heap.size + 1 + 1 + 1 + p1.os.size) T (w.heap.size + 1 + 1 + 1 + p1.os.size + 1 + p2.os.size) s) (SS.out T p1 p2) ?_
  intro wx hN
  clear SS ST NX RE
  have lz : w.heap.size + 1 + 1 < _ := cell_lt hN.got.1
  have ll := hN.lb
  have hI := hN.ins
  unfold IAt at hI
  obtain ⟨i0, i1, i2, i3, i4, i5, i6⟩ := hI
  have hG := hN.got
  unfold Two at hG
  obtain ⟨k0, k1⟩ := hG
  have r31 := (hN.st 31 (by omega)).1
  rw [f_pc] at r31
  have c31 := (hN.want 31 (by omega)).1
  have c32 := (hN.want 32 (by omega)).1
  have c33 := (hN.want 33 (by omega)).1
  have c34 := (hN.want 34 (by omega)).1
  have c35 := (hN.want 35 (by omega)).1
  have z31 := (hN.want 31 (by omega)).2
  have z32 := (hN.want 32 (by omega)).2
  have z33 := (hN.want 33 (by omega)).2
  have z34 := (hN.want 34 (by omega)).2
  have z35 := (hN.want 35 (by omega)).2
  have HN := Lib.hid hN
  clear hN
  rw [hn0] at VA
  have htk : tk = false := by rw [HK.out, if_neg (by omega), if_neg (by omega), if_neg (by omega), if_neg (by omega)]
  clear HK HO
  subst htk
  have hj := HJ.out
  simp only [Bool.false_eq_true, if_false] at hj
  clear HJ
  have b13 : (op == 13) = false := by simp; omega
  have b14 : (op == 14) = false := by simp; omega
  have b15 : (op == 15) = false := by simp; omega
  have b16 : (op == 16) = false := by simp; omega
  obtain ⟨u1, hu1⟩ : ∃ u1 : St, u1 = { s with pc := nx } := ⟨_, rfl⟩
  have et := ET.out
  rw [← hu1] at et
  replace ET := Lib.hid et
  clear et
  replace hu1 := Lib.hid hu1
  replace hj := Lib.hid hj
  go_upto_region 10 with fail
  refine wp_letter (R := fun W => NxW w W s ⟨op, d, n, m, e, sz, imm⟩ g0 g1 (w.heap.size + 1 + 1 + 1 + p1.os.size) T (w.heap.size + 1 + 1 + 1 + p1.os.size + 1 + p2.os.size) u1) (HN.out.pc (wrap64 (s.pc + 1)) (by rw [hu1.out, hj.out])) ?_
  intro wx hN
  clear HN lz ll i0 i1 i2 i3 i4 i5 i6 k0 k1 r31 c31 c32 c33 c34 c35 z31 z32 z33 z34 z35
  have lz : w.heap.size + 1 + 1 < _ := cell_lt hN.got.1
  have ll := hN.lb
  have hI := hN.ins
  unfold IAt at hI
  obtain ⟨i0, i1, i2, i3, i4, i5, i6⟩ := hI
  have hG := hN.got
  unfold Two at hG
  obtain ⟨k0, k1⟩ := hG
  have r31 := (hN.st 31 (by omega)).1
  rw [f_pc] at r31
  have c31 := (hN.want 31 (by omega)).1
  have c32 := (hN.want 32 (by omega)).1
  have c33 := (hN.want 33 (by omega)).1
  have c34 := (hN.want 34 (by omega)).1
  have c35 := (hN.want 35 (by omega)).1
  have z31 := (hN.want 31 (by omega)).2
  have z32 := (hN.want 32 (by omega)).2
  have z33 := (hN.want 33 (by omega)).2
  have z34 := (hN.want 34 (by omega)).2
  have z35 := (hN.want 35 (by omega)).2
  have HN := Lib.hid hN
  clear hN
  clear hj b13 b14 b15 b16
  have j5 : (op == 5) = false := by simpa using h5
  have j30 : (op == 30) = false := by simp; omega
  replace hxv := Lib.hid hxv
  go_upto_region 13 with (first
    | (go_at_call 17; refine (LS.out u1 d hd xn xv hxv.out _).mono ?_; rintro e w1 ⟨rfl, q6, rfl⟩; rw [← ET.out])
    | (go_at_call 16; refine (VA.out _).mono ?_; rintro e w1 ⟨rfl, q1, rfl⟩)
    | (go_at_call 9; refine (SZ.out _).mono ?_; rintro e w1 ⟨rfl, q2, rfl⟩)
    | (go_at_call 12; refine (WR.out _).mono ?_; rintro e w1 ⟨rfl, q5, rfl⟩)
    | (go_at_call 7; refine (AK.out _).mono ?_; rintro e w1 ⟨rfl, q3, rfl⟩)
    | (go_at_call 10; refine (A.out _).mono ?_; rintro e w1 ⟨rfl, q4, rfl⟩)
    | ((with_reducible refine wpList_load_stg (s := s) (b := w.heap.size) (.tmp 4) rfl ?_ ?_ ?_ ?_); rfl; rfl; (repeat (first | with_reducible exact HN.out.st | with_reducible exact HN.out.want | with_reducible exact HN.out.nx | with_reducible refine stat_more ?_ _ | with_reducible refine stat_alloc ?_ _)); rw [hv.out]; go_frame)
    | ((with_reducible refine wpList_load_stg (s := T) (b := (w.heap.size + 1 + 1 + 1 + p1.os.size)) (.tmp 9) rfl ?_ ?_ ?_ ?_); rfl; rfl; (repeat (first | with_reducible exact HN.out.st | with_reducible exact HN.out.want | with_reducible exact HN.out.nx | with_reducible refine stat_more ?_ _ | with_reducible refine stat_alloc ?_ _)); go_frame)
    | ((with_reducible refine wpList_load_stg (s := u1) (b := (w.heap.size + 1 + 1 + 1 + p1.os.size + 1 + p2.os.size)) (.tmp 13) rfl ?_ ?_ ?_ ?_); rfl; rfl; (repeat (first | with_reducible exact HN.out.st | with_reducible exact HN.out.want | with_reducible exact HN.out.nx | with_reducible refine stat_more ?_ _ | with_reducible refine stat_alloc ?_ _)); go_frame)
    | ((with_reducible refine wpList_eql_st (s := T) (.tmp 207) (.tmp 208) rfl ?_ ?_ ?_ ?_); rfl; rfl; rfl; go_frame)
    | ((with_reducible refine wpList_store_st (s := T) (b := (w.heap.size + 1 + 1 + 1 + p1.os.size + 1 + p2.os.size)) (.tmp 13) (.tmp 106) rfl rfl ?_ ?_ ?_ ?_); rfl; (generalize stV _ = Z; rfl); (refine st_there (s := u1) ?_; (repeat (first | with_reducible exact HN.out.st | with_reducible exact HN.out.want | with_reducible exact HN.out.nx | with_reducible refine stat_more ?_ _ | with_reducible refine stat_alloc ?_ _))); try go_frame))
  refine wp_letter (R := fun W => NxW w W s ⟨op, d, n, m, e, sz, imm⟩ g0 g1 (w.heap.size + 1 + 1 + 1 + p1.os.size) T (w.heap.size + 1 + 1 + 1 + p1.os.size + 1 + p2.os.size) T) (((HN.out.more q1).more q6).all T) ?_
  intro wx hN
  clear HN lz ll i0 i1 i2 i3 i4 i5 i6 k0 k1 r31 c31 c32 c33 c34 c35 z31 z32 z33 z34 z35
  have lz : w.heap.size + 1 + 1 < _ := cell_lt hN.got.1
  have ll := hN.lb
  have hI := hN.ins
  unfold IAt at hI
  obtain ⟨i0, i1, i2, i3, i4, i5, i6⟩ := hI
  have hG := hN.got
  unfold Two at hG
  obtain ⟨k0, k1⟩ := hG
  have r31 := (hN.st 31 (by omega)).1
  rw [f_pc] at r31
  have c31 := (hN.want 31 (by omega)).1
  have c32 := (hN.want 32 (by omega)).1
  have c33 := (hN.want 33 (by omega)).1
  have c34 := (hN.want 34 (by omega)).1
  have c35 := (hN.want 35 (by omega)).1
  have z31 := (hN.want 31 (by omega)).2
  have z32 := (hN.want 32 (by omega)).2
  have z33 := (hN.want 33 (by omega)).2
  have z34 := (hN.want 34 (by omega)).2
  have z35 := (hN.want 35 (by omega)).2
  have HN := Lib.hid hN
  clear hN
  clear ET VA LS
  go_wp2_with (first
    | (go_at_call 16; refine (VA.out _).mono ?_; rintro e w1 ⟨rfl, q1, rfl⟩)
    | (go_at_call 9; refine (SZ.out _).mono ?_; rintro e w1 ⟨rfl, q2, rfl⟩)
    | (go_at_call 12; refine (WR.out _).mono ?_; rintro e w1 ⟨rfl, q5, rfl⟩)
    | (go_at_call 7; refine (AK.out _).mono ?_; rintro e w1 ⟨rfl, q3, rfl⟩)
    | (go_at_call 10; refine (A.out _).mono ?_; rintro e w1 ⟨rfl, q4, rfl⟩)
    | ((with_reducible refine wpList_load_stg (s := s) (b := w.heap.size) (.tmp 4) rfl ?_ ?_ ?_ ?_); rfl; rfl; (repeat (first | with_reducible exact HN.out.st | with_reducible exact HN.out.want | with_reducible exact HN.out.nx | with_reducible refine stat_more ?_ _ | with_reducible refine stat_alloc ?_ _)); rw [hv.out]; go_frame)
    | ((with_reducible refine wpList_load_stg (s := T) (b := (w.heap.size + 1 + 1 + 1 + p1.os.size)) (.tmp 9) rfl ?_ ?_ ?_ ?_); rfl; rfl; (repeat (first | with_reducible exact HN.out.st | with_reducible exact HN.out.want | with_reducible exact HN.out.nx | with_reducible refine stat_more ?_ _ | with_reducible refine stat_alloc ?_ _)); go_frame)
    | ((with_reducible refine wpList_load_stg (s := T) (b := (w.heap.size + 1 + 1 + 1 + p1.os.size + 1 + p2.os.size)) (.tmp 13) rfl ?_ ?_ ?_ ?_); rfl; rfl; (repeat (first | with_reducible exact HN.out.st | with_reducible exact HN.out.want | with_reducible exact HN.out.nx | with_reducible refine stat_more ?_ _ | with_reducible refine stat_alloc ?_ _)); go_frame)
    | ((with_reducible refine wpList_eql_st (s := T) (.tmp 207) (.tmp 208) rfl ?_ ?_ ?_ ?_); rfl; rfl; rfl; go_frame))
  all_goals (go_ret; exact ⟨rfl, by repeat (first | with_reducible exact HN.out.below | with_reducible refine below_mo ?_ _ | with_reducible refine below_al ?_ _)⟩)

end Go.Proofs.Ytfijppclaahkmaa
namespace Go.Proofs.Ytfijppclaahkmaa
open Go.RowKit Go.Sort
set_option linter.unusedVariables false
set_option linter.unusedSimpArgs false
set_option maxRecDepth 10000 in
set_option maxHeartbeats 2000000 in
theorem nexts_f (s : St) (i : Ins) (hi : i.rng) (hs : s.ok) (g0 g1 : Nat) (h0 : g0 < 18446744073709551616) (fits : Bool) (v : Nat) (h : enc i = some v) (h5 : i.op = 5) (w : World) : Calls Try.prog 4 #[stV s, insV i, .agg #[.int .u64 (g0 : Nat), .int .u64 (g1 : Nat)], .bool fits] w fun e w' => e = .returned (.bool true) ∧ Below w.heap.size w w' := by
  have hf := enc_facts h
  have hm : meB i.op = false := by
    simp [meB]
    omega
  have hn0 : numB i.op = true := by
    simp [numB]
    omega
  have A := Lib.hid awake_fl
  have NX := Lib.hid (fun W => next_yes s i hi hs g0 g1 h0 fits v h W)
  have RE := Lib.hid (fun W => rencode_any i hi W)
  rw [h] at RE
  have VA := Lib.hid (fun W => value_any s i hf hs W)
  have ST := Lib.hid (fun W => st_new W s 27)
  have SS := Lib.hid (fun t p p2 => nx_start w s t i g0 g1 p p2)
  have LS := Lib.hid (fun (u : St) n hn v x hx W => lset_int u n hn v x hx W)
  have SZ := Lib.hid (fun W => rsize_no i hm W)
  have AK := Lib.hid (fun W => ask_no s i hi (Or.inr hm) W)
  have X := Lib.hid (fun k hk W => rX_any s k hk W)
  have HO := Lib.hid (fun hc W => rholds_any s i.e hc W)
  have WR := Lib.hid (fun W => gives_same (rwrites_any i.op W))
  have ET := Lib.hid (nexts_five s i g0 g1 fits h5)
  have HJ := Lib.hid (nxI.eq_1 s i)
  have HK := Lib.hid (takB.eq_1 s i)
  have hop := hf.op
  have hd := hf.d
  have hn := hf.n
  have hm31 := hf.m
  have he31 := hf.e
  have f3 := hf.four
  have gd := getX_lt hs i.d
  have gn := getX_lt hs i.n
  have gm := getX_lt hs i.m
  have hnum := num_ok s i hf hs
  generalize hxn : (numI s i).toNat = xn at ET
  have hxv : numI s i = (xn : Int) := by omega
  generalize numI s i = xv at *
  generalize nextS s i g0 g1 fits = T at *
  generalize nxI s i = nx at *
  generalize takB s i = tk at *
  clear hi hs hf h
  obtain ⟨op, d, n, m, e, sz, imm⟩ := i
  rw [show stV s = .agg (stC s.f) from rfl]
  generalize hv : stV s = V at NX VA AK X HO
  replace hv := Lib.hid hv
  simp only at h5
  subst h5
  unfold insV accV at *
  simp only [Option.getD_some, Option.isSome_some] at NX RE VA AK SZ HO WR HJ HK ET
  show Calls Try.prog _ #[.agg (stC s.f), .agg #[.int .i64 5, .int .i64 d, .int .i64 n, .int .i64 m, .int .i64 e, .int .i64 sz, .int .i64 imm], .agg #[.int .u64 (g0 : Nat), .int .u64 (g1 : Nat)], .bool fits] w _
  go_enter Try.func4, Try.ntmps4
  go_upto_region 1 with fail
  refine wp_region_lit ?_
  refine wpList_load_st (s := s) (b := w.heap.size) (.tmp 4) rfl rfl rfl (stat_alloc (stat_alloc (ST.out w) _) _) ?_
  rw [hv.out]
  go_frame
  go_upto_region 5 with (first
    | (refine wpList_alloc_st rfl rfl ?_; go_frame)
    | (refine wpList_store_new (s := T) (.tmp 9) (.tmp 26) rfl rfl rfl rfl ?_ ?_; (generalize stV _ = Z; rfl); go_frame)
    | (go_at_call 8; refine (RE.out _).mono ?_; rintro e w1 ⟨rfl, p2, rfl⟩)
    | (go_at_call 14; refine (NX.out _).mono ?_; rintro e w1 ⟨rfl, p1, rfl⟩))
  refine wp_region_lit ?_
  refine wpList_load_st (s := s) (b := w.heap.size) (.tmp 4) rfl rfl rfl ?_ ?_
  · (repeat (first | with_reducible exact ST.out _ | with_reducible refine stat_more ?_ _ | with_reducible refine stat_alloc ?_ _))
  go_frame
  go_upto_region 6 with (first
    | (refine wpList_alloc_st rfl rfl ?_; go_frame)
    | (refine wpList_store_new (s := s) (.tmp 13) (.tmp 45) rfl rfl rfl rfl ?_ ?_; (generalize stV _ = Z; rfl); go_frame))
  simp only [more_size, World.size_alloc]
  rw [hv.out]
  refine wp_letter (R := fun W => NxW w W s ⟨5, d, n, m, e, sz, imm⟩ g0 g1 (w.heap.size + 1 + 1 + 1 + p1.os.size) T (w.heap.size + 1 + 1 + 1 + p1.os.size + 1 + p2.os.size) s) (SS.out T p1 p2) ?_
  intro wx hN
  clear SS ST NX RE
  have lz : w.heap.size + 1 + 1 < _ := cell_lt hN.got.1
  have ll := hN.lb
  have hI := hN.ins
  unfold IAt at hI
  obtain ⟨i0, i1, i2, i3, i4, i5, i6⟩ := hI
  have hG := hN.got
  unfold Two at hG
  obtain ⟨k0, k1⟩ := hG
  have r31 := (hN.st 31 (by omega)).1
  rw [f_pc] at r31
  have c31 := (hN.want 31 (by omega)).1
  have c32 := (hN.want 32 (by omega)).1
  have c33 := (hN.want 33 (by omega)).1
  have c34 := (hN.want 34 (by omega)).1
  have c35 := (hN.want 35 (by omega)).1
  have z31 := (hN.want 31 (by omega)).2
  have z32 := (hN.want 32 (by omega)).2
  have z33 := (hN.want 33 (by omega)).2
  have z34 := (hN.want 34 (by omega)).2
  have z35 := (hN.want 35 (by omega)).2
  have HN := Lib.hid hN
  clear hN
  rw [hn0] at VA
  have htk : tk = false := by rw [HK.out, if_neg (by omega), if_neg (by omega), if_neg (by omega), if_neg (by omega)]
  clear HK HO
  subst htk
  have hj := HJ.out
  simp only [Bool.false_eq_true, if_false] at hj
  clear HJ
  obtain ⟨u1, hu1⟩ : ∃ u1 : St, u1 = { s with pc := nx } := ⟨_, rfl⟩
  have et : T = { { setX u1 d xn with z := xv == 0 } with c := decide (getX s m ≤ getX s n) } := by rw [ET.out, hu1]
  replace ET := Lib.hid et
  clear et
  replace hu1 := Lib.hid hu1
  replace hj := Lib.hid hj
  go_upto_region 10 with fail
  refine wp_letter (R := fun W => NxW w W s ⟨5, d, n, m, e, sz, imm⟩ g0 g1 (w.heap.size + 1 + 1 + 1 + p1.os.size) T (w.heap.size + 1 + 1 + 1 + p1.os.size + 1 + p2.os.size) u1) (HN.out.pc (wrap64 (s.pc + 1)) (by rw [hu1.out, hj.out])) ?_
  intro wx hN
  clear HN lz ll i0 i1 i2 i3 i4 i5 i6 k0 k1 r31 c31 c32 c33 c34 c35 z31 z32 z33 z34 z35
  have lz : w.heap.size + 1 + 1 < _ := cell_lt hN.got.1
  have ll := hN.lb
  have hI := hN.ins
  unfold IAt at hI
  obtain ⟨i0, i1, i2, i3, i4, i5, i6⟩ := hI
  have hG := hN.got
  unfold Two at hG
  obtain ⟨k0, k1⟩ := hG
  have r31 := (hN.st 31 (by omega)).1
  rw [f_pc] at r31
  have c31 := (hN.want 31 (by omega)).1
  have c32 := (hN.want 32 (by omega)).1
  have c33 := (hN.want 33 (by omega)).1
  have c34 := (hN.want 34 (by omega)).1
  have c35 := (hN.want 35 (by omega)).1
  have z31 := (hN.want 31 (by omega)).2
  have z32 := (hN.want 32 (by omega)).2
  have z33 := (hN.want 33 (by omega)).2
  have z34 := (hN.want 34 (by omega)).2
  have z35 := (hN.want 35 (by omega)).2
  have HN := Lib.hid hN
  clear hN
  clear hj
  obtain ⟨u2, hu2⟩ : ∃ u2 : St, u2 = setX u1 d xn := ⟨_, rfl⟩
  obtain ⟨u3, hu3⟩ : ∃ u3 : St, u3 = { u2 with z := xv == 0 } := ⟨_, rfl⟩
  have et : T = { u3 with c := decide (getX s m ≤ getX s n) } := by rw [ET.out, hu3, hu2]
  replace ET := Lib.hid et
  clear et
  replace hu2 := Lib.hid hu2
  replace hu3 := Lib.hid hu3
  replace hxv := Lib.hid hxv
  go_upto_region 13 with (first
    | (go_at_call 17; refine (LS.out u1 d hd xn xv hxv.out _).mono ?_; rintro e w1 ⟨rfl, q6, rfl⟩; rw [← hu2.out])
    | (go_at_call 16; refine (VA.out _).mono ?_; rintro e w1 ⟨rfl, q1, rfl⟩)
    | (go_at_call 9; refine (SZ.out _).mono ?_; rintro e w1 ⟨rfl, q2, rfl⟩)
    | (go_at_call 12; refine (WR.out _).mono ?_; rintro e w1 ⟨rfl, q5, rfl⟩)
    | (go_at_call 7; refine (AK.out _).mono ?_; rintro e w1 ⟨rfl, q3, rfl⟩)
    | (go_at_call 10; refine (A.out _).mono ?_; rintro e w1 ⟨rfl, q4, rfl⟩)
    | ((with_reducible refine wpList_load_stg (s := s) (b := w.heap.size) (.tmp 4) rfl ?_ ?_ ?_ ?_); rfl; rfl; (repeat (first | with_reducible exact HN.out.st | with_reducible exact HN.out.want | with_reducible exact HN.out.nx | with_reducible refine stat_more ?_ _ | with_reducible refine stat_alloc ?_ _)); rw [hv.out]; go_frame)
    | ((with_reducible refine wpList_load_stg (s := T) (b := (w.heap.size + 1 + 1 + 1 + p1.os.size)) (.tmp 9) rfl ?_ ?_ ?_ ?_); rfl; rfl; (repeat (first | with_reducible exact HN.out.st | with_reducible exact HN.out.want | with_reducible exact HN.out.nx | with_reducible refine stat_more ?_ _ | with_reducible refine stat_alloc ?_ _)); go_frame)
    | ((with_reducible refine wpList_load_stg (s := u1) (b := (w.heap.size + 1 + 1 + 1 + p1.os.size + 1 + p2.os.size)) (.tmp 13) rfl ?_ ?_ ?_ ?_); rfl; rfl; (repeat (first | with_reducible exact HN.out.st | with_reducible exact HN.out.want | with_reducible exact HN.out.nx | with_reducible refine stat_more ?_ _ | with_reducible refine stat_alloc ?_ _)); go_frame)
    | ((with_reducible refine wpList_eql_st (s := T) (.tmp 207) (.tmp 208) rfl ?_ ?_ ?_ ?_); rfl; rfl; rfl; go_frame)
    | ((with_reducible refine wpList_store_st (s := u2) (b := (w.heap.size + 1 + 1 + 1 + p1.os.size + 1 + p2.os.size)) (.tmp 13) (.tmp 106) rfl rfl ?_ ?_ ?_ ?_); rfl; (generalize stV _ = Z; rfl); (refine st_there (s := u1) ?_; (repeat (first | with_reducible exact HN.out.st | with_reducible exact HN.out.want | with_reducible exact HN.out.nx | with_reducible refine stat_more ?_ _ | with_reducible refine stat_alloc ?_ _))); try go_frame))
  refine wp_letter (R := fun W => NxW w W s ⟨5, d, n, m, e, sz, imm⟩ g0 g1 (w.heap.size + 1 + 1 + 1 + p1.os.size) T (w.heap.size + 1 + 1 + 1 + p1.os.size + 1 + p2.os.size) u2) (((HN.out.more q1).more q6).all u2) ?_
  intro wx hN
  clear HN lz ll i0 i1 i2 i3 i4 i5 i6 k0 k1 r31 c31 c32 c33 c34 c35 z31 z32 z33 z34 z35
  have lz : w.heap.size + 1 + 1 < _ := cell_lt hN.got.1
  have ll := hN.lb
  have hI := hN.ins
  unfold IAt at hI
  obtain ⟨i0, i1, i2, i3, i4, i5, i6⟩ := hI
  have hG := hN.got
  unfold Two at hG
  obtain ⟨k0, k1⟩ := hG
  have r31 := (hN.st 31 (by omega)).1
  rw [f_pc] at r31
  have c31 := (hN.want 31 (by omega)).1
  have c32 := (hN.want 32 (by omega)).1
  have c33 := (hN.want 33 (by omega)).1
  have c34 := (hN.want 34 (by omega)).1
  have c35 := (hN.want 35 (by omega)).1
  have z31 := (hN.want 31 (by omega)).2
  have z32 := (hN.want 32 (by omega)).2
  have z33 := (hN.want 33 (by omega)).2
  have z34 := (hN.want 34 (by omega)).2
  have z35 := (hN.want 35 (by omega)).2
  have HN := Lib.hid hN
  clear hN
  go_upto_region 15 with fail
  refine wp_letter (R := fun W => NxW w W s ⟨5, d, n, m, e, sz, imm⟩ g0 g1 (w.heap.size + 1 + 1 + 1 + p1.os.size) T (w.heap.size + 1 + 1 + 1 + p1.os.size + 1 + p2.os.size) u3) (HN.out.zer (xv == 0) hu3.out) ?_
  intro wx hN
  clear HN lz ll i0 i1 i2 i3 i4 i5 i6 k0 k1 r31 c31 c32 c33 c34 c35 z31 z32 z33 z34 z35
  have lz : w.heap.size + 1 + 1 < _ := cell_lt hN.got.1
  have ll := hN.lb
  have hI := hN.ins
  unfold IAt at hI
  obtain ⟨i0, i1, i2, i3, i4, i5, i6⟩ := hI
  have hG := hN.got
  unfold Two at hG
  obtain ⟨k0, k1⟩ := hG
  have r31 := (hN.st 31 (by omega)).1
  rw [f_pc] at r31
  have c31 := (hN.want 31 (by omega)).1
  have c32 := (hN.want 32 (by omega)).1
  have c33 := (hN.want 33 (by omega)).1
  have c34 := (hN.want 34 (by omega)).1
  have c35 := (hN.want 35 (by omega)).1
  have z31 := (hN.want 31 (by omega)).2
  have z32 := (hN.want 32 (by omega)).2
  have z33 := (hN.want 33 (by omega)).2
  have z34 := (hN.want 34 (by omega)).2
  have z35 := (hN.want 35 (by omega)).2
  have HN := Lib.hid hN
  clear hN
  refine wp_tail_more 10 (by kernel_rfl) (by kernel_rfl) ?_
  simp only [List.take_succ_cons, List.take_zero, List.drop_succ_cons, List.drop_zero]
  repeat (first
    | (refine wpQuiet_load_st (s := s) (b := w.heap.size) (.tmp 4) rfl rfl rfl (by rintro W ⟨p, rfl⟩; exact stat_more HN.out.st p) ?_; rw [hv.out]; go_frame)
    | go_big_quiet_step ((go_at_call 11; exact quiet_more (X.out _ (by omega) _))))
  refine wpQuiet_nil ?_
  intro q7
  go_upto_region 16 with fail
  refine wp_letter (R := fun W => NxW w W s ⟨5, d, n, m, e, sz, imm⟩ g0 g1 (w.heap.size + 1 + 1 + 1 + p1.os.size) T (w.heap.size + 1 + 1 + 1 + p1.os.size + 1 + p2.os.size) T) ((HN.out.car (decide (getX s m ≤ getX s n)) ET.out).more q7) ?_
  intro wx hN
  clear HN lz ll i0 i1 i2 i3 i4 i5 i6 k0 k1 r31 c31 c32 c33 c34 c35 z31 z32 z33 z34 z35
  have lz : w.heap.size + 1 + 1 < _ := cell_lt hN.got.1
  have ll := hN.lb
  have hI := hN.ins
  unfold IAt at hI
  obtain ⟨i0, i1, i2, i3, i4, i5, i6⟩ := hI
  have hG := hN.got
  unfold Two at hG
  obtain ⟨k0, k1⟩ := hG
  have r31 := (hN.st 31 (by omega)).1
  rw [f_pc] at r31
  have c31 := (hN.want 31 (by omega)).1
  have c32 := (hN.want 32 (by omega)).1
  have c33 := (hN.want 33 (by omega)).1
  have c34 := (hN.want 34 (by omega)).1
  have c35 := (hN.want 35 (by omega)).1
  have z31 := (hN.want 31 (by omega)).2
  have z32 := (hN.want 32 (by omega)).2
  have z33 := (hN.want 33 (by omega)).2
  have z34 := (hN.want 34 (by omega)).2
  have z35 := (hN.want 35 (by omega)).2
  have HN := Lib.hid hN
  clear hN
  clear ET VA LS X
  go_wp2_with (first
    | (go_at_call 16; refine (VA.out _).mono ?_; rintro e w1 ⟨rfl, q1, rfl⟩)
    | (go_at_call 9; refine (SZ.out _).mono ?_; rintro e w1 ⟨rfl, q2, rfl⟩)
    | (go_at_call 12; refine (WR.out _).mono ?_; rintro e w1 ⟨rfl, q5, rfl⟩)
    | (go_at_call 7; refine (AK.out _).mono ?_; rintro e w1 ⟨rfl, q3, rfl⟩)
    | (go_at_call 10; refine (A.out _).mono ?_; rintro e w1 ⟨rfl, q4, rfl⟩)
    | ((with_reducible refine wpList_load_stg (s := s) (b := w.heap.size) (.tmp 4) rfl ?_ ?_ ?_ ?_); rfl; rfl; (repeat (first | with_reducible exact HN.out.st | with_reducible exact HN.out.want | with_reducible exact HN.out.nx | with_reducible refine stat_more ?_ _ | with_reducible refine stat_alloc ?_ _)); rw [hv.out]; go_frame)
    | ((with_reducible refine wpList_load_stg (s := T) (b := (w.heap.size + 1 + 1 + 1 + p1.os.size)) (.tmp 9) rfl ?_ ?_ ?_ ?_); rfl; rfl; (repeat (first | with_reducible exact HN.out.st | with_reducible exact HN.out.want | with_reducible exact HN.out.nx | with_reducible refine stat_more ?_ _ | with_reducible refine stat_alloc ?_ _)); go_frame)
    | ((with_reducible refine wpList_load_stg (s := T) (b := (w.heap.size + 1 + 1 + 1 + p1.os.size + 1 + p2.os.size)) (.tmp 13) rfl ?_ ?_ ?_ ?_); rfl; rfl; (repeat (first | with_reducible exact HN.out.st | with_reducible exact HN.out.want | with_reducible exact HN.out.nx | with_reducible refine stat_more ?_ _ | with_reducible refine stat_alloc ?_ _)); go_frame)
    | ((with_reducible refine wpList_eql_st (s := T) (.tmp 207) (.tmp 208) rfl ?_ ?_ ?_ ?_); rfl; rfl; rfl; go_frame))
  all_goals (go_ret; exact ⟨rfl, by repeat (first | with_reducible exact HN.out.below | with_reducible refine below_mo ?_ _ | with_reducible refine below_al ?_ _)⟩)

end Go.Proofs.Ytfijppclaahkmaa
namespace Go.Proofs.Ytfijppclaahkmaa
open Go.RowKit Go.Sort
set_option linter.unusedVariables false
set_option linter.unusedSimpArgs false
set_option maxRecDepth 10000 in
set_option maxHeartbeats 2000000 in
theorem nexts_c (s : St) (i : Ins) (hi : i.rng) (hs : s.ok) (g0 g1 : Nat) (h0 : g0 < 18446744073709551616) (fits : Bool) (v : Nat) (h : enc i = some v) (h30 : i.op = 30) (w : World) : Calls Try.prog 4 #[stV s, insV i, .agg #[.int .u64 (g0 : Nat), .int .u64 (g1 : Nat)], .bool fits] w fun e w' => e = .returned (.bool true) ∧ Below w.heap.size w w' := by
  have hf := enc_facts h
  have hm : meB i.op = false := by
    simp [meB]
    omega
  have hn0 : numB i.op = false := by
    simp [numB]
    omega
  have A := Lib.hid awake_fl
  have NX := Lib.hid (fun W => next_yes s i hi hs g0 g1 h0 fits v h W)
  have RE := Lib.hid (fun W => rencode_any i hi W)
  rw [h] at RE
  have VA := Lib.hid (fun W => value_any s i hf hs W)
  have ST := Lib.hid (fun W => st_new W s 27)
  have SS := Lib.hid (fun t p p2 => nx_start w s t i g0 g1 p p2)
  have LS := Lib.hid (fun (u : St) n hn v x hx W => lset_int u n hn v x hx W)
  have SZ := Lib.hid (fun W => rsize_no i hm W)
  have AK := Lib.hid (fun W => ask_no s i hi (Or.inr hm) W)
  have X := Lib.hid (fun k hk W => rX_any s k hk W)
  have HO := Lib.hid (fun hc W => rholds_any s i.e hc W)
  have WR := Lib.hid (fun W => gives_same (rwrites_any i.op W))
  have ET := Lib.hid (nexts30 s i g0 g1 fits h30)
  have HJ := Lib.hid (nxI.eq_1 s i)
  have HK := Lib.hid (takB.eq_1 s i)
  have hop := hf.op
  have hd := hf.d
  have hn := hf.n
  have hm31 := hf.m
  have he31 := hf.e
  have f3 := hf.four
  have gd := getX_lt hs i.d
  generalize nextS s i g0 g1 fits = T at *
  generalize nxI s i = nx at *
  generalize takB s i = tk at *
  clear hi hs hf h
  obtain ⟨op, d, n, m, e, sz, imm⟩ := i
  rw [show stV s = .agg (stC s.f) from rfl]
  generalize hv : stV s = V at NX VA AK X HO
  replace hv := Lib.hid hv
  simp only at h30
  subst h30
  unfold insV accV at *
  simp only [Option.getD_some, Option.isSome_some] at NX RE VA AK SZ HO WR HJ HK ET
  show Calls Try.prog _ #[.agg (stC s.f), .agg #[.int .i64 30, .int .i64 d, .int .i64 n, .int .i64 m, .int .i64 e, .int .i64 sz, .int .i64 imm], .agg #[.int .u64 (g0 : Nat), .int .u64 (g1 : Nat)], .bool fits] w _
  go_enter Try.func4, Try.ntmps4
  go_upto_region 1 with fail
  refine wp_region_lit ?_
  refine wpList_load_st (s := s) (b := w.heap.size) (.tmp 4) rfl rfl rfl (stat_alloc (stat_alloc (ST.out w) _) _) ?_
  rw [hv.out]
  go_frame
  go_upto_region 5 with (first
    | (refine wpList_alloc_st rfl rfl ?_; go_frame)
    | (refine wpList_store_new (s := T) (.tmp 9) (.tmp 26) rfl rfl rfl rfl ?_ ?_; (generalize stV _ = Z; rfl); go_frame)
    | (go_at_call 8; refine (RE.out _).mono ?_; rintro e w1 ⟨rfl, p2, rfl⟩)
    | (go_at_call 14; refine (NX.out _).mono ?_; rintro e w1 ⟨rfl, p1, rfl⟩))
  refine wp_region_lit ?_
  refine wpList_load_st (s := s) (b := w.heap.size) (.tmp 4) rfl rfl rfl ?_ ?_
  · (repeat (first | with_reducible exact ST.out _ | with_reducible refine stat_more ?_ _ | with_reducible refine stat_alloc ?_ _))
  go_frame
  go_upto_region 6 with (first
    | (refine wpList_alloc_st rfl rfl ?_; go_frame)
    | (refine wpList_store_new (s := s) (.tmp 13) (.tmp 45) rfl rfl rfl rfl ?_ ?_; (generalize stV _ = Z; rfl); go_frame))
  simp only [more_size, World.size_alloc]
  rw [hv.out]
  refine wp_letter (R := fun W => NxW w W s ⟨30, d, n, m, e, sz, imm⟩ g0 g1 (w.heap.size + 1 + 1 + 1 + p1.os.size) T (w.heap.size + 1 + 1 + 1 + p1.os.size + 1 + p2.os.size) s) (SS.out T p1 p2) ?_
  intro wx hN
  clear SS ST NX RE
  have lz : w.heap.size + 1 + 1 < _ := cell_lt hN.got.1
  have ll := hN.lb
  have hI := hN.ins
  unfold IAt at hI
  obtain ⟨i0, i1, i2, i3, i4, i5, i6⟩ := hI
  have hG := hN.got
  unfold Two at hG
  obtain ⟨k0, k1⟩ := hG
  have r31 := (hN.st 31 (by omega)).1
  rw [f_pc] at r31
  have c31 := (hN.want 31 (by omega)).1
  have c32 := (hN.want 32 (by omega)).1
  have c33 := (hN.want 33 (by omega)).1
  have c34 := (hN.want 34 (by omega)).1
  have c35 := (hN.want 35 (by omega)).1
  have z31 := (hN.want 31 (by omega)).2
  have z32 := (hN.want 32 (by omega)).2
  have z33 := (hN.want 33 (by omega)).2
  have z34 := (hN.want 34 (by omega)).2
  have z35 := (hN.want 35 (by omega)).2
  have HN := Lib.hid hN
  clear hN
  rw [hn0] at VA
  generalize numI s ⟨30, d, n, m, e, sz, imm⟩ = xv at VA
  have htk : tk = false := by rw [HK.out, if_neg (by omega), if_neg (by omega), if_neg (by omega), if_neg (by omega)]
  clear HK HO
  subst htk
  have hj := HJ.out
  simp only [Bool.false_eq_true, if_false] at hj
  clear HJ
  obtain ⟨u1, hu1⟩ : ∃ u1 : St, u1 = { s with pc := nx } := ⟨_, rfl⟩
  have et : T = { u1 with wa := 0, wl := 0 } := by rw [ET.out, hu1]
  replace ET := Lib.hid et
  clear et
  replace hu1 := Lib.hid hu1
  replace hj := Lib.hid hj
  go_upto_region 10 with fail
  refine wp_letter (R := fun W => NxW w W s ⟨30, d, n, m, e, sz, imm⟩ g0 g1 (w.heap.size + 1 + 1 + 1 + p1.os.size) T (w.heap.size + 1 + 1 + 1 + p1.os.size + 1 + p2.os.size) u1) (HN.out.pc (wrap64 (s.pc + 1)) (by rw [hu1.out, hj.out])) ?_
  intro wx hN
  clear HN lz ll i0 i1 i2 i3 i4 i5 i6 k0 k1 r31 c31 c32 c33 c34 c35 z31 z32 z33 z34 z35
  have lz : w.heap.size + 1 + 1 < _ := cell_lt hN.got.1
  have ll := hN.lb
  have hI := hN.ins
  unfold IAt at hI
  obtain ⟨i0, i1, i2, i3, i4, i5, i6⟩ := hI
  have hG := hN.got
  unfold Two at hG
  obtain ⟨k0, k1⟩ := hG
  have r31 := (hN.st 31 (by omega)).1
  rw [f_pc] at r31
  have c31 := (hN.want 31 (by omega)).1
  have c32 := (hN.want 32 (by omega)).1
  have c33 := (hN.want 33 (by omega)).1
  have c34 := (hN.want 34 (by omega)).1
  have c35 := (hN.want 35 (by omega)).1
  have z31 := (hN.want 31 (by omega)).2
  have z32 := (hN.want 32 (by omega)).2
  have z33 := (hN.want 33 (by omega)).2
  have z34 := (hN.want 34 (by omega)).2
  have z35 := (hN.want 35 (by omega)).2
  have HN := Lib.hid hN
  clear hN
  clear hj
  go_upto_region 32 with (first
    | (go_at_call 16; refine (VA.out _).mono ?_; rintro e w1 ⟨rfl, q1, rfl⟩)
    | (go_at_call 9; refine (SZ.out _).mono ?_; rintro e w1 ⟨rfl, q2, rfl⟩)
    | (go_at_call 12; refine (WR.out _).mono ?_; rintro e w1 ⟨rfl, q5, rfl⟩)
    | (go_at_call 7; refine (AK.out _).mono ?_; rintro e w1 ⟨rfl, q3, rfl⟩)
    | (go_at_call 10; refine (A.out _).mono ?_; rintro e w1 ⟨rfl, q4, rfl⟩)
    | ((with_reducible refine wpList_load_stg (s := s) (b := w.heap.size) (.tmp 4) rfl ?_ ?_ ?_ ?_); rfl; rfl; (repeat (first | with_reducible exact HN.out.st | with_reducible exact HN.out.want | with_reducible exact HN.out.nx | with_reducible refine stat_more ?_ _ | with_reducible refine stat_alloc ?_ _)); rw [hv.out]; go_frame)
    | ((with_reducible refine wpList_load_stg (s := T) (b := (w.heap.size + 1 + 1 + 1 + p1.os.size)) (.tmp 9) rfl ?_ ?_ ?_ ?_); rfl; rfl; (repeat (first | with_reducible exact HN.out.st | with_reducible exact HN.out.want | with_reducible exact HN.out.nx | with_reducible refine stat_more ?_ _ | with_reducible refine stat_alloc ?_ _)); go_frame)
    | ((with_reducible refine wpList_load_stg (s := u1) (b := (w.heap.size + 1 + 1 + 1 + p1.os.size + 1 + p2.os.size)) (.tmp 13) rfl ?_ ?_ ?_ ?_); rfl; rfl; (repeat (first | with_reducible exact HN.out.st | with_reducible exact HN.out.want | with_reducible exact HN.out.nx | with_reducible refine stat_more ?_ _ | with_reducible refine stat_alloc ?_ _)); go_frame)
    | ((with_reducible refine wpList_eql_st (s := T) (.tmp 207) (.tmp 208) rfl ?_ ?_ ?_ ?_); rfl; rfl; rfl; go_frame))
  refine wp_letter (R := fun W => NxW w W s ⟨30, d, n, m, e, sz, imm⟩ g0 g1 (w.heap.size + 1 + 1 + 1 + p1.os.size) T (w.heap.size + 1 + 1 + 1 + p1.os.size + 1 + p2.os.size) T) (((((HN.out.wat 0 0 ET.out).more q1).more q2).more q3).alloc _) ?_
  intro wx hN
  clear HN lz ll i0 i1 i2 i3 i4 i5 i6 k0 k1 r31 c31 c32 c33 c34 c35 z31 z32 z33 z34 z35
  have lz : w.heap.size + 1 + 1 < _ := cell_lt hN.got.1
  have ll := hN.lb
  have hI := hN.ins
  unfold IAt at hI
  obtain ⟨i0, i1, i2, i3, i4, i5, i6⟩ := hI
  have hG := hN.got
  unfold Two at hG
  obtain ⟨k0, k1⟩ := hG
  have r31 := (hN.st 31 (by omega)).1
  rw [f_pc] at r31
  have c31 := (hN.want 31 (by omega)).1
  have c32 := (hN.want 32 (by omega)).1
  have c33 := (hN.want 33 (by omega)).1
  have c34 := (hN.want 34 (by omega)).1
  have c35 := (hN.want 35 (by omega)).1
  have z31 := (hN.want 31 (by omega)).2
  have z32 := (hN.want 32 (by omega)).2
  have z33 := (hN.want 33 (by omega)).2
  have z34 := (hN.want 34 (by omega)).2
  have z35 := (hN.want 35 (by omega)).2
  have HN := Lib.hid hN
  clear hN
  clear ET VA LS X
  go_wp2_with (first
    | (go_at_call 16; refine (VA.out _).mono ?_; rintro e w1 ⟨rfl, q1, rfl⟩)
    | (go_at_call 9; refine (SZ.out _).mono ?_; rintro e w1 ⟨rfl, q2, rfl⟩)
    | (go_at_call 12; refine (WR.out _).mono ?_; rintro e w1 ⟨rfl, q5, rfl⟩)
    | (go_at_call 7; refine (AK.out _).mono ?_; rintro e w1 ⟨rfl, q3, rfl⟩)
    | (go_at_call 10; refine (A.out _).mono ?_; rintro e w1 ⟨rfl, q4, rfl⟩)
    | ((with_reducible refine wpList_load_stg (s := s) (b := w.heap.size) (.tmp 4) rfl ?_ ?_ ?_ ?_); rfl; rfl; (repeat (first | with_reducible exact HN.out.st | with_reducible exact HN.out.want | with_reducible exact HN.out.nx | with_reducible refine stat_more ?_ _ | with_reducible refine stat_alloc ?_ _)); rw [hv.out]; go_frame)
    | ((with_reducible refine wpList_load_stg (s := T) (b := (w.heap.size + 1 + 1 + 1 + p1.os.size)) (.tmp 9) rfl ?_ ?_ ?_ ?_); rfl; rfl; (repeat (first | with_reducible exact HN.out.st | with_reducible exact HN.out.want | with_reducible exact HN.out.nx | with_reducible refine stat_more ?_ _ | with_reducible refine stat_alloc ?_ _)); go_frame)
    | ((with_reducible refine wpList_load_stg (s := T) (b := (w.heap.size + 1 + 1 + 1 + p1.os.size + 1 + p2.os.size)) (.tmp 13) rfl ?_ ?_ ?_ ?_); rfl; rfl; (repeat (first | with_reducible exact HN.out.st | with_reducible exact HN.out.want | with_reducible exact HN.out.nx | with_reducible refine stat_more ?_ _ | with_reducible refine stat_alloc ?_ _)); go_frame)
    | ((with_reducible refine wpList_eql_st (s := T) (.tmp 207) (.tmp 208) rfl ?_ ?_ ?_ ?_); rfl; rfl; rfl; go_frame))
  all_goals (go_ret; exact ⟨rfl, by repeat (first | with_reducible exact HN.out.below | with_reducible refine below_mo ?_ _ | with_reducible refine below_al ?_ _)⟩)

end Go.Proofs.Ytfijppclaahkmaa
