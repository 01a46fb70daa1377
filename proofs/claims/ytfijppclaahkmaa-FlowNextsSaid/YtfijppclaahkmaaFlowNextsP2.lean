/- Walk: FlowNexts, exclusive writes. Conditions: numbers fit. Walk: FlowNexts, other writes. Conditions: numbers fit. -/
import Derived.Test.YtfijppclaahkmaaFlowNextsKT
namespace Go.Proofs.Ytfijppclaahkmaa
open Go.RowKit Go.Sort
set_option linter.unusedVariables false
set_option linter.unusedSimpArgs false
set_option maxRecDepth 10000 in
set_option maxHeartbeats 2000000 in
theorem nexts_cwe (s : St) (i : Ins) (hi : i.rng) (hs : s.ok) (g0 g1 : Nat) (h0 : g0 < 18446744073709551616) (fits : Bool) (v : Nat) (h : enc i = some v) (hm : meB i.op = true) (hw : wrB i.op = true) (hx : exB i.op = true) (w : World) : Calls Try.prog 4 #[stV s, insV i, .agg #[.int .u64 (g0 : Nat), .int .u64 (g1 : Nat)], .bool fits] w fun e w' => e = .returned (.bool true) ∧ Below w.heap.size w w' := by
  have hf := enc_facts h
  have hn0 : numB i.op = false := by
    have hr := op_mem hm
    simp [numB]
    omega
  have A := Lib.hid awake_fl
  have NX := Lib.hid (fun W => next_yes s i hi hs g0 g1 h0 fits v h W)
  have RE := Lib.hid (fun W => rencode_any i hi W)
  rw [h] at RE
  have VA := Lib.hid (fun W => value_any s i hf hs W)
  have ST := Lib.hid (fun W => st_new W s 27)
  have SS := Lib.hid (fun t p p2 => nx_start w s t i g0 g1 p p2)
  have LS := Lib.hid (fun (u : St) n hn v x hx W => lset_int u n hn v x hx W)
  have SZ := Lib.hid (fun W => rsize_mem i hf hm W)
  have AK := Lib.hid (fun W => ask_yes s i hi hs v h hm W)
  have X := Lib.hid (fun k hk W => rX_any s k hk W)
  have HO := Lib.hid (fun hc W => rholds_any s i.e hc W)
  have WR := Lib.hid (fun W => gives_same (rwrites_any i.op W))
  have ET := Lib.hid (nexts_we s i g0 g1 fits hm hw hx)
  have HJ := Lib.hid (nxI.eq_1 s i)
  have HK := Lib.hid (takB.eq_1 s i)
  have hop := hf.op
  have hd := hf.d
  have hn := hf.n
  have hm31 := hf.m
  have he31 := hf.e
  have f3 := hf.four
  have gd := getX_lt hs i.d
  have hl := lenI_in hf
  have hP := len_pair hf
  have hL5 := lenI_five hf
  have hr := op_mem hm
  have hg0 := h0
  rw [hw, hx] at AK
  rw [hw] at WR
  generalize spanA s i = SA at *
  generalize lenI i = L at *
  generalize ask0 s i = A0 at *
  generalize ask1 s i = A1 at *
  generalize acqB i.op = aq at *
  generalize relB i.op = rl at *
  have hxr : 21 ≤ i.op ∧ i.op ≤ 28 := by
    have h := op_mem hm
    have h2 := hx
    simp [exB] at h2
    omega
  generalize nextS s i g0 g1 fits = T at *
  generalize nxI s i = nx at *
  generalize takB s i = tk at *
  clear hi hs hf h
  obtain ⟨op, d, n, m, e, sz, imm⟩ := i
  rw [show stV s = .agg (stC s.f) from rfl]
  generalize hv : stV s = V at NX VA AK X HO
  replace hv := Lib.hid hv
  unfold insV accV at *
  simp only [Option.getD_some, Option.isSome_some] at NX RE VA AK SZ HO WR HJ HK ET
  show Calls Try.prog _ #[.agg (stC s.f), .agg #[.int .i64 op, .int .i64 d, .int .i64 n, .int .i64 m, .int .i64 e, .int .i64 sz, .int .i64 imm], .agg #[.int .u64 (g0 : Nat), .int .u64 (g1 : Nat)], .bool fits] w _
  go_enter Try.func4, Try.ntmps4
  go_upto_region 1 with fail
  refine wp_region_lit ?_
  refine wpList_load_st (s := s) (b := w.heap.size) (.tmp 4) rfl rfl rfl (stat_alloc (stat_alloc (ST.out w) _) _) ?_
  rw [hv.out]
  go_frame
  go_upto_region 5 with (first
    | (refine wpList_alloc_st rfl rfl ?_; go_frame)
    | (refine wpList_store_new (s := T) (.tmp 9) (.tmp 26) rfl rfl rfl rfl ?_ ?_; (generalize stV _ = Z; rfl); go_frame)
    | (go_at_call 8; refine (RE.out _).mono ?_; rintro e w1 ⟨rfl, p2, rfl⟩)
    | (go_at_call 14; refine (NX.out _).mono ?_; rintro e w1 ⟨rfl, p1, rfl⟩))
  refine wp_region_lit ?_
  refine wpList_load_st (s := s) (b := w.heap.size) (.tmp 4) rfl rfl rfl ?_ ?_
  · (repeat (first | with_reducible exact ST.out _ | with_reducible refine stat_more ?_ _ | with_reducible refine stat_alloc ?_ _))
  go_frame
  go_upto_region 6 with (first
    | (refine wpList_alloc_st rfl rfl ?_; go_frame)
    | (refine wpList_store_new (s := s) (.tmp 13) (.tmp 45) rfl rfl rfl rfl ?_ ?_; (generalize stV _ = Z; rfl); go_frame))
  simp only [more_size, World.size_alloc]
  rw [hv.out]
  refine wp_letter (R := fun W => NxW w W s ⟨op, d, n, m, e, sz, imm⟩ g0 g1 (w.heap.size + 1 + 1 + 1 + p1.os.size) T (w.heap.size + 1 + 1 + 1 + p1.os.size + 1 + p2.os.size) s) (SS.out T p1 p2) ?_
  intro wx hN
  clear SS ST NX RE
  have lz : w.heap.size + 1 + 1 < _ := cell_lt hN.got.1
  have ll := hN.lb
  have hI := hN.ins
  unfold IAt at hI
  obtain ⟨i0, i1, i2, i3, i4, i5, i6⟩ := hI
  have hG := hN.got
  unfold Two at hG
  obtain ⟨k0, k1⟩ := hG
  have r31 := (hN.st 31 (by omega)).1
  rw [f_pc] at r31
  have c31 := (hN.want 31 (by omega)).1
  have c32 := (hN.want 32 (by omega)).1
  have c33 := (hN.want 33 (by omega)).1
  have c34 := (hN.want 34 (by omega)).1
  have c35 := (hN.want 35 (by omega)).1
  have z31 := (hN.want 31 (by omega)).2
  have z32 := (hN.want 32 (by omega)).2
  have z33 := (hN.want 33 (by omega)).2
  have z34 := (hN.want 34 (by omega)).2
  have z35 := (hN.want 35 (by omega)).2
  have HN := Lib.hid hN
  clear hN
  rw [hn0] at VA
  generalize numI s ⟨op, d, n, m, e, sz, imm⟩ = xv at VA
  have htk : tk = false := by rw [HK.out, if_neg (by omega), if_neg (by omega), if_neg (by omega), if_neg (by omega)]
  clear HK HO
  subst htk
  have hj := HJ.out
  simp only [Bool.false_eq_true, if_false] at hj
  clear HJ
  have b13 : (op == 13) = false := by simp; omega
  have b14 : (op == 14) = false := by simp; omega
  have b15 : (op == 15) = false := by simp; omega
  have b16 : (op == 16) = false := by simp; omega
  obtain ⟨u1, hu1⟩ : ∃ u1 : St, u1 = { s with pc := nx } := ⟨_, rfl⟩
  have et : T = setX { u1 with wa := 0, wl := 0 } m (if fits then 0 else 1) := by rw [ET.out, hu1]
  replace ET := Lib.hid et
  clear et
  replace hu1 := Lib.hid hu1
  replace hj := Lib.hid hj
  go_upto_region 10 with fail
  refine wp_letter (R := fun W => NxW w W s ⟨op, d, n, m, e, sz, imm⟩ g0 g1 (w.heap.size + 1 + 1 + 1 + p1.os.size) T (w.heap.size + 1 + 1 + 1 + p1.os.size + 1 + p2.os.size) u1) (HN.out.pc (wrap64 (s.pc + 1)) (by rw [hu1.out, hj.out])) ?_
  intro wx hN
  clear HN lz ll i0 i1 i2 i3 i4 i5 i6 k0 k1 r31 c31 c32 c33 c34 c35 z31 z32 z33 z34 z35
  have lz : w.heap.size + 1 + 1 < _ := cell_lt hN.got.1
  have ll := hN.lb
  have hI := hN.ins
  unfold IAt at hI
  obtain ⟨i0, i1, i2, i3, i4, i5, i6⟩ := hI
  have hG := hN.got
  unfold Two at hG
  obtain ⟨k0, k1⟩ := hG
  have r31 := (hN.st 31 (by omega)).1
  rw [f_pc] at r31
  have c31 := (hN.want 31 (by omega)).1
  have c32 := (hN.want 32 (by omega)).1
  have c33 := (hN.want 33 (by omega)).1
  have c34 := (hN.want 34 (by omega)).1
  have c35 := (hN.want 35 (by omega)).1
  have z31 := (hN.want 31 (by omega)).2
  have z32 := (hN.want 32 (by omega)).2
  have z33 := (hN.want 33 (by omega)).2
  have z34 := (hN.want 34 (by omega)).2
  have z35 := (hN.want 35 (by omega)).2
  have HN := Lib.hid hN
  clear hN
  clear hj b13 b14 b15 b16
  have j5 : (op == 5) = false := by simp; omega
  go_upto_region 18 with (first
    | (go_at_call 16; refine (VA.out _).mono ?_; rintro e w1 ⟨rfl, q1, rfl⟩)
    | (go_at_call 9; refine (SZ.out _).mono ?_; rintro e w1 ⟨rfl, q2, rfl⟩)
    | (go_at_call 12; refine (WR.out _).mono ?_; rintro e w1 ⟨rfl, q5, rfl⟩)
    | (go_at_call 7; refine (AK.out _).mono ?_; rintro e w1 ⟨rfl, q3, rfl⟩)
    | (go_at_call 10; refine (A.out _).mono ?_; rintro e w1 ⟨rfl, q4, rfl⟩)
    | ((with_reducible refine wpList_load_stg (s := s) (b := w.heap.size) (.tmp 4) rfl ?_ ?_ ?_ ?_); rfl; rfl; (repeat (first | with_reducible exact HN.out.st | with_reducible exact HN.out.want | with_reducible exact HN.out.nx | with_reducible refine stat_more ?_ _ | with_reducible refine stat_alloc ?_ _)); rw [hv.out]; go_frame)
    | ((with_reducible refine wpList_load_stg (s := T) (b := (w.heap.size + 1 + 1 + 1 + p1.os.size)) (.tmp 9) rfl ?_ ?_ ?_ ?_); rfl; rfl; (repeat (first | with_reducible exact HN.out.st | with_reducible exact HN.out.want | with_reducible exact HN.out.nx | with_reducible refine stat_more ?_ _ | with_reducible refine stat_alloc ?_ _)); go_frame)
    | ((with_reducible refine wpList_load_stg (s := u1) (b := (w.heap.size + 1 + 1 + 1 + p1.os.size + 1 + p2.os.size)) (.tmp 13) rfl ?_ ?_ ?_ ?_); rfl; rfl; (repeat (first | with_reducible exact HN.out.st | with_reducible exact HN.out.want | with_reducible exact HN.out.nx | with_reducible refine stat_more ?_ _ | with_reducible refine stat_alloc ?_ _)); go_frame)
    | ((with_reducible refine wpList_eql_st (s := T) (.tmp 207) (.tmp 208) rfl ?_ ?_ ?_ ?_); rfl; rfl; rfl; go_frame))
  refine wp_letter (R := fun W => NxW w W s ⟨op, d, n, m, e, sz, imm⟩ g0 g1 (w.heap.size + 1 + 1 + 1 + p1.os.size) T (w.heap.size + 1 + 1 + 1 + p1.os.size + 1 + p2.os.size) u1 ∧ Acc8 W (wx.heap.size + q1.os.size + q2.os.size + q3.os.size) true SA L true aq rl A0 A1 ∧ (w.heap.size + 1 + 1 + 1 + p1.os.size + 1 + p2.os.size) < (wx.heap.size + q1.os.size + q2.os.size + q3.os.size)) ⟨(((HN.out.more q1).more q2).more q3).alloc _, acc_new2 _ true SA L true aq rl A0 A1 _ _ (by simp [more_size]), by have := HN.out.lb; omega⟩ ?_
  intro wy hNA
  generalize (wx.heap.size + q1.os.size + q2.os.size + q3.os.size) = ba at hNA ⊢
  obtain ⟨hN, hA, hBA⟩ := hNA
  clear HN lz ll i0 i1 i2 i3 i4 i5 i6 k0 k1 r31 c31 c32 c33 c34 c35 z31 z32 z33 z34 z35
  have lz : w.heap.size + 1 + 1 < _ := cell_lt hN.got.1
  have ll := hN.lb
  have hI := hN.ins
  unfold IAt at hI
  obtain ⟨i0, i1, i2, i3, i4, i5, i6⟩ := hI
  have hG := hN.got
  unfold Two at hG
  obtain ⟨k0, k1⟩ := hG
  have r31 := (hN.st 31 (by omega)).1
  rw [f_pc] at r31
  have c31 := (hN.want 31 (by omega)).1
  have c32 := (hN.want 32 (by omega)).1
  have c33 := (hN.want 33 (by omega)).1
  have c34 := (hN.want 34 (by omega)).1
  have c35 := (hN.want 35 (by omega)).1
  have z31 := (hN.want 31 (by omega)).2
  have z32 := (hN.want 32 (by omega)).2
  have z33 := (hN.want 33 (by omega)).2
  have z34 := (hN.want 34 (by omega)).2
  have z35 := (hN.want 35 (by omega)).2
  have HN := Lib.hid hN
  clear hN
  replace hA := Lib.hid hA
  have j30 : (op == 30) = false := by simp; omega
  clear VA SZ AK
  go_upto_region 22 with (first
    | (go_at_call 16; refine (VA.out _).mono ?_; rintro e w1 ⟨rfl, q1, rfl⟩)
    | (go_at_call 9; refine (SZ.out _).mono ?_; rintro e w1 ⟨rfl, q2, rfl⟩)
    | (go_at_call 12; refine (WR.out _).mono ?_; rintro e w1 ⟨rfl, q5, rfl⟩)
    | (go_at_call 7; refine (AK.out _).mono ?_; rintro e w1 ⟨rfl, q3, rfl⟩)
    | (go_at_call 10; refine (A.out _).mono ?_; rintro e w1 ⟨rfl, q4, rfl⟩)
    | ((with_reducible refine wpList_load_stg (s := s) (b := w.heap.size) (.tmp 4) rfl ?_ ?_ ?_ ?_); rfl; rfl; (repeat (first | with_reducible exact HN.out.st | with_reducible exact HN.out.want | with_reducible exact HN.out.nx | with_reducible refine stat_more ?_ _ | with_reducible refine stat_alloc ?_ _)); rw [hv.out]; go_frame)
    | ((with_reducible refine wpList_load_stg (s := T) (b := (w.heap.size + 1 + 1 + 1 + p1.os.size)) (.tmp 9) rfl ?_ ?_ ?_ ?_); rfl; rfl; (repeat (first | with_reducible exact HN.out.st | with_reducible exact HN.out.want | with_reducible exact HN.out.nx | with_reducible refine stat_more ?_ _ | with_reducible refine stat_alloc ?_ _)); go_frame)
    | ((with_reducible refine wpList_load_stg (s := u1) (b := (w.heap.size + 1 + 1 + 1 + p1.os.size + 1 + p2.os.size)) (.tmp 13) rfl ?_ ?_ ?_ ?_); rfl; rfl; (repeat (first | with_reducible exact HN.out.st | with_reducible exact HN.out.want | with_reducible exact HN.out.nx | with_reducible refine stat_more ?_ _ | with_reducible refine stat_alloc ?_ _)); go_frame)
    | ((with_reducible refine wpList_eql_st (s := T) (.tmp 207) (.tmp 208) rfl ?_ ?_ ?_ ?_); rfl; rfl; rfl; go_frame))
  obtain ⟨u2, hu2⟩ : ∃ u2 : St, u2 = { u1 with wa := 0, wl := 0 } := ⟨_, rfl⟩
  refine wp_letter (R := fun W => NxW w W s ⟨op, d, n, m, e, sz, imm⟩ g0 g1 (w.heap.size + 1 + 1 + 1 + p1.os.size) T (w.heap.size + 1 + 1 + 1 + p1.os.size + 1 + p2.os.size) u2) ((HN.out.wat 0 0 hu2).more q5) ?_
  intro wx hN
  clear HN lz ll i0 i1 i2 i3 i4 i5 i6 k0 k1 r31 c31 c32 c33 c34 c35 z31 z32 z33 z34 z35
  have lz : w.heap.size + 1 + 1 < _ := cell_lt hN.got.1
  have ll := hN.lb
  have hI := hN.ins
  unfold IAt at hI
  obtain ⟨i0, i1, i2, i3, i4, i5, i6⟩ := hI
  have hG := hN.got
  unfold Two at hG
  obtain ⟨k0, k1⟩ := hG
  have r31 := (hN.st 31 (by omega)).1
  rw [f_pc] at r31
  have c31 := (hN.want 31 (by omega)).1
  have c32 := (hN.want 32 (by omega)).1
  have c33 := (hN.want 33 (by omega)).1
  have c34 := (hN.want 34 (by omega)).1
  have c35 := (hN.want 35 (by omega)).1
  have z31 := (hN.want 31 (by omega)).2
  have z32 := (hN.want 32 (by omega)).2
  have z33 := (hN.want 33 (by omega)).2
  have z34 := (hN.want 34 (by omega)).2
  have z35 := (hN.want 35 (by omega)).2
  have HN := Lib.hid hN
  clear hN
  have et : T = setX u2 m (if fits then 0 else 1) := by rw [ET.out, hu2]
  clear hu2 hu1 ET
  have ET := Lib.hid et
  clear et
  cases fits
  · have ET2 : Hid (T = setX u2 m 1) := Lib.hid (by rw [ET.out]; rfl)
    go_upto_region 32 with (first
      | (go_at_call 17; refine (LS.out u2 m hm31 1 1 rfl _).mono ?_; rintro e w1 ⟨rfl, q6, rfl⟩; rw [← ET2.out])
      | (go_at_call 16; refine (VA.out _).mono ?_; rintro e w1 ⟨rfl, q1, rfl⟩)
      | (go_at_call 9; refine (SZ.out _).mono ?_; rintro e w1 ⟨rfl, q2, rfl⟩)
      | (go_at_call 12; refine (WR.out _).mono ?_; rintro e w1 ⟨rfl, q5, rfl⟩)
      | (go_at_call 7; refine (AK.out _).mono ?_; rintro e w1 ⟨rfl, q3, rfl⟩)
      | (go_at_call 10; refine (A.out _).mono ?_; rintro e w1 ⟨rfl, q4, rfl⟩)
      | ((with_reducible refine wpList_load_stg (s := s) (b := w.heap.size) (.tmp 4) rfl ?_ ?_ ?_ ?_); rfl; rfl; (repeat (first | with_reducible exact HN.out.st | with_reducible exact HN.out.want | with_reducible exact HN.out.nx | with_reducible refine stat_more ?_ _ | with_reducible refine stat_alloc ?_ _)); rw [hv.out]; go_frame)
      | ((with_reducible refine wpList_load_stg (s := T) (b := (w.heap.size + 1 + 1 + 1 + p1.os.size)) (.tmp 9) rfl ?_ ?_ ?_ ?_); rfl; rfl; (repeat (first | with_reducible exact HN.out.st | with_reducible exact HN.out.want | with_reducible exact HN.out.nx | with_reducible refine stat_more ?_ _ | with_reducible refine stat_alloc ?_ _)); go_frame)
      | ((with_reducible refine wpList_load_stg (s := u2) (b := (w.heap.size + 1 + 1 + 1 + p1.os.size + 1 + p2.os.size)) (.tmp 13) rfl ?_ ?_ ?_ ?_); rfl; rfl; (repeat (first | with_reducible exact HN.out.st | with_reducible exact HN.out.want | with_reducible exact HN.out.nx | with_reducible refine stat_more ?_ _ | with_reducible refine stat_alloc ?_ _)); go_frame)
      | ((with_reducible refine wpList_eql_st (s := T) (.tmp 207) (.tmp 208) rfl ?_ ?_ ?_ ?_); rfl; rfl; rfl; go_frame)
      | ((with_reducible refine wpList_store_st (s := T) (b := (w.heap.size + 1 + 1 + 1 + p1.os.size + 1 + p2.os.size)) (.tmp 13) (.tmp 160) rfl rfl ?_ ?_ ?_ ?_); rfl; (generalize stV _ = Z; rfl); (refine st_there (s := u2) ?_; (repeat (first | with_reducible exact HN.out.st | with_reducible exact HN.out.want | with_reducible exact HN.out.nx | with_reducible refine stat_more ?_ _ | with_reducible refine stat_alloc ?_ _))); try go_frame))
    refine wp_letter (R := fun W => NxW w W s ⟨op, d, n, m, e, sz, imm⟩ g0 g1 (w.heap.size + 1 + 1 + 1 + p1.os.size) T (w.heap.size + 1 + 1 + 1 + p1.os.size + 1 + p2.os.size) T) ((HN.out.more q6).all T) ?_
    intro wx hN
    clear HN lz ll i0 i1 i2 i3 i4 i5 i6 k0 k1 r31 c31 c32 c33 c34 c35 z31 z32 z33 z34 z35
    have lz : w.heap.size + 1 + 1 < _ := cell_lt hN.got.1
    have ll := hN.lb
    have hI := hN.ins
    unfold IAt at hI
    obtain ⟨i0, i1, i2, i3, i4, i5, i6⟩ := hI
    have hG := hN.got
    unfold Two at hG
    obtain ⟨k0, k1⟩ := hG
    have r31 := (hN.st 31 (by omega)).1
    rw [f_pc] at r31
    have c31 := (hN.want 31 (by omega)).1
    have c32 := (hN.want 32 (by omega)).1
    have c33 := (hN.want 33 (by omega)).1
    have c34 := (hN.want 34 (by omega)).1
    have c35 := (hN.want 35 (by omega)).1
    have z31 := (hN.want 31 (by omega)).2
    have z32 := (hN.want 32 (by omega)).2
    have z33 := (hN.want 33 (by omega)).2
    have z34 := (hN.want 34 (by omega)).2
    have z35 := (hN.want 35 (by omega)).2
    have HN := Lib.hid hN
    clear hN
    clear ET ET2 LS X
    go_wp2_with (first
      | (go_at_call 16; refine (VA.out _).mono ?_; rintro e w1 ⟨rfl, q1, rfl⟩)
      | (go_at_call 9; refine (SZ.out _).mono ?_; rintro e w1 ⟨rfl, q2, rfl⟩)
      | (go_at_call 12; refine (WR.out _).mono ?_; rintro e w1 ⟨rfl, q5, rfl⟩)
      | (go_at_call 7; refine (AK.out _).mono ?_; rintro e w1 ⟨rfl, q3, rfl⟩)
      | (go_at_call 10; refine (A.out _).mono ?_; rintro e w1 ⟨rfl, q4, rfl⟩)
      | ((with_reducible refine wpList_load_stg (s := s) (b := w.heap.size) (.tmp 4) rfl ?_ ?_ ?_ ?_); rfl; rfl; (repeat (first | with_reducible exact HN.out.st | with_reducible exact HN.out.want | with_reducible exact HN.out.nx | with_reducible refine stat_more ?_ _ | with_reducible refine stat_alloc ?_ _)); rw [hv.out]; go_frame)
      | ((with_reducible refine wpList_load_stg (s := T) (b := (w.heap.size + 1 + 1 + 1 + p1.os.size)) (.tmp 9) rfl ?_ ?_ ?_ ?_); rfl; rfl; (repeat (first | with_reducible exact HN.out.st | with_reducible exact HN.out.want | with_reducible exact HN.out.nx | with_reducible refine stat_more ?_ _ | with_reducible refine stat_alloc ?_ _)); go_frame)
      | ((with_reducible refine wpList_load_stg (s := T) (b := (w.heap.size + 1 + 1 + 1 + p1.os.size + 1 + p2.os.size)) (.tmp 13) rfl ?_ ?_ ?_ ?_); rfl; rfl; (repeat (first | with_reducible exact HN.out.st | with_reducible exact HN.out.want | with_reducible exact HN.out.nx | with_reducible refine stat_more ?_ _ | with_reducible refine stat_alloc ?_ _)); go_frame)
      | ((with_reducible refine wpList_eql_st (s := T) (.tmp 207) (.tmp 208) rfl ?_ ?_ ?_ ?_); rfl; rfl; rfl; go_frame))
    all_goals (go_ret; exact ⟨rfl, by repeat (first | with_reducible exact HN.out.below | with_reducible refine below_mo ?_ _ | with_reducible refine below_al ?_ _)⟩)
  · have ET2 : Hid (T = setX u2 m 0) := Lib.hid (by rw [ET.out]; rfl)
    go_upto_region 32 with (first
      | (go_at_call 17; refine (LS.out u2 m hm31 0 0 rfl _).mono ?_; rintro e w1 ⟨rfl, q6, rfl⟩; rw [← ET2.out])
      | (go_at_call 16; refine (VA.out _).mono ?_; rintro e w1 ⟨rfl, q1, rfl⟩)
      | (go_at_call 9; refine (SZ.out _).mono ?_; rintro e w1 ⟨rfl, q2, rfl⟩)
      | (go_at_call 12; refine (WR.out _).mono ?_; rintro e w1 ⟨rfl, q5, rfl⟩)
      | (go_at_call 7; refine (AK.out _).mono ?_; rintro e w1 ⟨rfl, q3, rfl⟩)
      | (go_at_call 10; refine (A.out _).mono ?_; rintro e w1 ⟨rfl, q4, rfl⟩)
      | ((with_reducible refine wpList_load_stg (s := s) (b := w.heap.size) (.tmp 4) rfl ?_ ?_ ?_ ?_); rfl; rfl; (repeat (first | with_reducible exact HN.out.st | with_reducible exact HN.out.want | with_reducible exact HN.out.nx | with_reducible refine stat_more ?_ _ | with_reducible refine stat_alloc ?_ _)); rw [hv.out]; go_frame)
      | ((with_reducible refine wpList_load_stg (s := T) (b := (w.heap.size + 1 + 1 + 1 + p1.os.size)) (.tmp 9) rfl ?_ ?_ ?_ ?_); rfl; rfl; (repeat (first | with_reducible exact HN.out.st | with_reducible exact HN.out.want | with_reducible exact HN.out.nx | with_reducible refine stat_more ?_ _ | with_reducible refine stat_alloc ?_ _)); go_frame)
      | ((with_reducible refine wpList_load_stg (s := u2) (b := (w.heap.size + 1 + 1 + 1 + p1.os.size + 1 + p2.os.size)) (.tmp 13) rfl ?_ ?_ ?_ ?_); rfl; rfl; (repeat (first | with_reducible exact HN.out.st | with_reducible exact HN.out.want | with_reducible exact HN.out.nx | with_reducible refine stat_more ?_ _ | with_reducible refine stat_alloc ?_ _)); go_frame)
      | ((with_reducible refine wpList_eql_st (s := T) (.tmp 207) (.tmp 208) rfl ?_ ?_ ?_ ?_); rfl; rfl; rfl; go_frame)
      | ((with_reducible refine wpList_store_st (s := T) (b := (w.heap.size + 1 + 1 + 1 + p1.os.size + 1 + p2.os.size)) (.tmp 13) (.tmp 156) rfl rfl ?_ ?_ ?_ ?_); rfl; (generalize stV _ = Z; rfl); (refine st_there (s := u2) ?_; (repeat (first | with_reducible exact HN.out.st | with_reducible exact HN.out.want | with_reducible exact HN.out.nx | with_reducible refine stat_more ?_ _ | with_reducible refine stat_alloc ?_ _))); try go_frame))
    refine wp_letter (R := fun W => NxW w W s ⟨op, d, n, m, e, sz, imm⟩ g0 g1 (w.heap.size + 1 + 1 + 1 + p1.os.size) T (w.heap.size + 1 + 1 + 1 + p1.os.size + 1 + p2.os.size) T) ((HN.out.more q6).all T) ?_
    intro wx hN
    clear HN lz ll i0 i1 i2 i3 i4 i5 i6 k0 k1 r31 c31 c32 c33 c34 c35 z31 z32 z33 z34 z35
    have lz : w.heap.size + 1 + 1 < _ := cell_lt hN.got.1
    have ll := hN.lb
    have hI := hN.ins
    unfold IAt at hI
    obtain ⟨i0, i1, i2, i3, i4, i5, i6⟩ := hI
    have hG := hN.got
    unfold Two at hG
    obtain ⟨k0, k1⟩ := hG
    have r31 := (hN.st 31 (by omega)).1
    rw [f_pc] at r31
    have c31 := (hN.want 31 (by omega)).1
    have c32 := (hN.want 32 (by omega)).1
    have c33 := (hN.want 33 (by omega)).1
    have c34 := (hN.want 34 (by omega)).1
    have c35 := (hN.want 35 (by omega)).1
    have z31 := (hN.want 31 (by omega)).2
    have z32 := (hN.want 32 (by omega)).2
    have z33 := (hN.want 33 (by omega)).2
    have z34 := (hN.want 34 (by omega)).2
    have z35 := (hN.want 35 (by omega)).2
    have HN := Lib.hid hN
    clear hN
    clear ET ET2 LS X
    go_wp2_with (first
      | (go_at_call 16; refine (VA.out _).mono ?_; rintro e w1 ⟨rfl, q1, rfl⟩)
      | (go_at_call 9; refine (SZ.out _).mono ?_; rintro e w1 ⟨rfl, q2, rfl⟩)
      | (go_at_call 12; refine (WR.out _).mono ?_; rintro e w1 ⟨rfl, q5, rfl⟩)
      | (go_at_call 7; refine (AK.out _).mono ?_; rintro e w1 ⟨rfl, q3, rfl⟩)
      | (go_at_call 10; refine (A.out _).mono ?_; rintro e w1 ⟨rfl, q4, rfl⟩)
      | ((with_reducible refine wpList_load_stg (s := s) (b := w.heap.size) (.tmp 4) rfl ?_ ?_ ?_ ?_); rfl; rfl; (repeat (first | with_reducible exact HN.out.st | with_reducible exact HN.out.want | with_reducible exact HN.out.nx | with_reducible refine stat_more ?_ _ | with_reducible refine stat_alloc ?_ _)); rw [hv.out]; go_frame)
      | ((with_reducible refine wpList_load_stg (s := T) (b := (w.heap.size + 1 + 1 + 1 + p1.os.size)) (.tmp 9) rfl ?_ ?_ ?_ ?_); rfl; rfl; (repeat (first | with_reducible exact HN.out.st | with_reducible exact HN.out.want | with_reducible exact HN.out.nx | with_reducible refine stat_more ?_ _ | with_reducible refine stat_alloc ?_ _)); go_frame)
      | ((with_reducible refine wpList_load_stg (s := T) (b := (w.heap.size + 1 + 1 + 1 + p1.os.size + 1 + p2.os.size)) (.tmp 13) rfl ?_ ?_ ?_ ?_); rfl; rfl; (repeat (first | with_reducible exact HN.out.st | with_reducible exact HN.out.want | with_reducible exact HN.out.nx | with_reducible refine stat_more ?_ _ | with_reducible refine stat_alloc ?_ _)); go_frame)
      | ((with_reducible refine wpList_eql_st (s := T) (.tmp 207) (.tmp 208) rfl ?_ ?_ ?_ ?_); rfl; rfl; rfl; go_frame))
    all_goals (go_ret; exact ⟨rfl, by repeat (first | with_reducible exact HN.out.below | with_reducible refine below_mo ?_ _ | with_reducible refine below_al ?_ _)⟩)

end Go.Proofs.Ytfijppclaahkmaa
namespace Go.Proofs.Ytfijppclaahkmaa
open Go.RowKit Go.Sort
set_option linter.unusedVariables false
set_option linter.unusedSimpArgs false
set_option maxRecDepth 10000 in
set_option maxHeartbeats 2000000 in
theorem nexts_cw (s : St) (i : Ins) (hi : i.rng) (hs : s.ok) (g0 g1 : Nat) (h0 : g0 < 18446744073709551616) (fits : Bool) (v : Nat) (h : enc i = some v) (hm : meB i.op = true) (hw : wrB i.op = true) (hx : exB i.op = false) (w : World) : Calls Try.prog 4 #[stV s, insV i, .agg #[.int .u64 (g0 : Nat), .int .u64 (g1 : Nat)], .bool fits] w fun e w' => e = .returned (.bool true) ∧ Below w.heap.size w w' := by
  have hf := enc_facts h
  have hn0 : numB i.op = false := by
    have hr := op_mem hm
    simp [numB]
    omega
  have A := Lib.hid awake_fl
  have NX := Lib.hid (fun W => next_yes s i hi hs g0 g1 h0 fits v h W)
  have RE := Lib.hid (fun W => rencode_any i hi W)
  rw [h] at RE
  have VA := Lib.hid (fun W => value_any s i hf hs W)
  have ST := Lib.hid (fun W => st_new W s 27)
  have SS := Lib.hid (fun t p p2 => nx_start w s t i g0 g1 p p2)
  have LS := Lib.hid (fun (u : St) n hn v x hx W => lset_int u n hn v x hx W)
  have SZ := Lib.hid (fun W => rsize_mem i hf hm W)
  have AK := Lib.hid (fun W => ask_yes s i hi hs v h hm W)
  have X := Lib.hid (fun k hk W => rX_any s k hk W)
  have HO := Lib.hid (fun hc W => rholds_any s i.e hc W)
  have WR := Lib.hid (fun W => gives_same (rwrites_any i.op W))
  have ET := Lib.hid (nexts_w s i g0 g1 fits hm hw hx)
  have HJ := Lib.hid (nxI.eq_1 s i)
  have HK := Lib.hid (takB.eq_1 s i)
  have hop := hf.op
  have hd := hf.d
  have hn := hf.n
  have hm31 := hf.m
  have he31 := hf.e
  have f3 := hf.four
  have gd := getX_lt hs i.d
  have hl := lenI_in hf
  have hP := len_pair hf
  have hL5 := lenI_five hf
  have hr := op_mem hm
  have hg0 := h0
  rw [hw, hx] at AK
  rw [hw] at WR
  generalize spanA s i = SA at *
  generalize lenI i = L at *
  generalize ask0 s i = A0 at *
  generalize ask1 s i = A1 at *
  generalize acqB i.op = aq at *
  generalize relB i.op = rl at *
  have hxr : 17 ≤ i.op ∧ i.op ≤ 20 := by
    have h := op_mem hm
    have h2 := hx
    simp [exB] at h2
    omega
  generalize nextS s i g0 g1 fits = T at *
  generalize nxI s i = nx at *
  generalize takB s i = tk at *
  clear hi hs hf h
  obtain ⟨op, d, n, m, e, sz, imm⟩ := i
  rw [show stV s = .agg (stC s.f) from rfl]
  generalize hv : stV s = V at NX VA AK X HO
  replace hv := Lib.hid hv
  unfold insV accV at *
  simp only [Option.getD_some, Option.isSome_some] at NX RE VA AK SZ HO WR HJ HK ET
  show Calls Try.prog _ #[.agg (stC s.f), .agg #[.int .i64 op, .int .i64 d, .int .i64 n, .int .i64 m, .int .i64 e, .int .i64 sz, .int .i64 imm], .agg #[.int .u64 (g0 : Nat), .int .u64 (g1 : Nat)], .bool fits] w _
  go_enter Try.func4, Try.ntmps4
  go_upto_region 1 with fail
  refine wp_region_lit ?_
  refine wpList_load_st (s := s) (b := w.heap.size) (.tmp 4) rfl rfl rfl (stat_alloc (stat_alloc (ST.out w) _) _) ?_
  rw [hv.out]
  go_frame
  go_upto_region 5 with (first
    | (refine wpList_alloc_st rfl rfl ?_; go_frame)
    | (refine wpList_store_new (s := T) (.tmp 9) (.tmp 26) rfl rfl rfl rfl ?_ ?_; (generalize stV _ = Z; rfl); go_frame)
    | (go_at_call 8; refine (RE.out _).mono ?_; rintro e w1 ⟨rfl, p2, rfl⟩)
    | (go_at_call 14; refine (NX.out _).mono ?_; rintro e w1 ⟨rfl, p1, rfl⟩))
  refine wp_region_lit ?_
  refine wpList_load_st (s := s) (b := w.heap.size) (.tmp 4) rfl rfl rfl ?_ ?_
  · (repeat (first | with_reducible exact ST.out _ | with_reducible refine stat_more ?_ _ | with_reducible refine stat_alloc ?_ _))
  go_frame
  go_upto_region 6 with (first
    | (refine wpList_alloc_st rfl rfl ?_; go_frame)
    | (refine wpList_store_new (s := s) (.tmp 13) (.tmp 45) rfl rfl rfl rfl ?_ ?_; (generalize stV _ = Z; rfl); go_frame))
  simp only [more_size, World.size_alloc]
  rw [hv.out]
  refine wp_letter (R := fun W => NxW w W s ⟨op, d, n, m, e, sz, imm⟩ g0 g1 (w.heap.size + 1 + 1 + 1 + p1.os.size) T (w.heap.size + 1 + 1 + 1 + p1.os.size + 1 + p2.os.size) s) (SS.out T p1 p2) ?_
  intro wx hN
  clear SS ST NX RE
  have lz : w.heap.size + 1 + 1 < _ := cell_lt hN.got.1
  have ll := hN.lb
  have hI := hN.ins
  unfold IAt at hI
  obtain ⟨i0, i1, i2, i3, i4, i5, i6⟩ := hI
  have hG := hN.got
  unfold Two at hG
  obtain ⟨k0, k1⟩ := hG
  have r31 := (hN.st 31 (by omega)).1
  rw [f_pc] at r31
  have c31 := (hN.want 31 (by omega)).1
  have c32 := (hN.want 32 (by omega)).1
  have c33 := (hN.want 33 (by omega)).1
  have c34 := (hN.want 34 (by omega)).1
  have c35 := (hN.want 35 (by omega)).1
  have z31 := (hN.want 31 (by omega)).2
  have z32 := (hN.want 32 (by omega)).2
  have z33 := (hN.want 33 (by omega)).2
  have z34 := (hN.want 34 (by omega)).2
  have z35 := (hN.want 35 (by omega)).2
  have HN := Lib.hid hN
  clear hN
  rw [hn0] at VA
  generalize numI s ⟨op, d, n, m, e, sz, imm⟩ = xv at VA
  have htk : tk = false := by rw [HK.out, if_neg (by omega), if_neg (by omega), if_neg (by omega), if_neg (by omega)]
  clear HK HO
  subst htk
  have hj := HJ.out
  simp only [Bool.false_eq_true, if_false] at hj
  clear HJ
  have b13 : (op == 13) = false := by simp; omega
  have b14 : (op == 14) = false := by simp; omega
  have b15 : (op == 15) = false := by simp; omega
  have b16 : (op == 16) = false := by simp; omega
  obtain ⟨u1, hu1⟩ : ∃ u1 : St, u1 = { s with pc := nx } := ⟨_, rfl⟩
  have et : T = u1 := by rw [ET.out, hu1]
  replace ET := Lib.hid et
  clear et
  replace hu1 := Lib.hid hu1
  replace hj := Lib.hid hj
  go_upto_region 10 with fail
  refine wp_letter (R := fun W => NxW w W s ⟨op, d, n, m, e, sz, imm⟩ g0 g1 (w.heap.size + 1 + 1 + 1 + p1.os.size) T (w.heap.size + 1 + 1 + 1 + p1.os.size + 1 + p2.os.size) u1) (HN.out.pc (wrap64 (s.pc + 1)) (by rw [hu1.out, hj.out])) ?_
  intro wx hN
  clear HN lz ll i0 i1 i2 i3 i4 i5 i6 k0 k1 r31 c31 c32 c33 c34 c35 z31 z32 z33 z34 z35
  have lz : w.heap.size + 1 + 1 < _ := cell_lt hN.got.1
  have ll := hN.lb
  have hI := hN.ins
  unfold IAt at hI
  obtain ⟨i0, i1, i2, i3, i4, i5, i6⟩ := hI
  have hG := hN.got
  unfold Two at hG
  obtain ⟨k0, k1⟩ := hG
  have r31 := (hN.st 31 (by omega)).1
  rw [f_pc] at r31
  have c31 := (hN.want 31 (by omega)).1
  have c32 := (hN.want 32 (by omega)).1
  have c33 := (hN.want 33 (by omega)).1
  have c34 := (hN.want 34 (by omega)).1
  have c35 := (hN.want 35 (by omega)).1
  have z31 := (hN.want 31 (by omega)).2
  have z32 := (hN.want 32 (by omega)).2
  have z33 := (hN.want 33 (by omega)).2
  have z34 := (hN.want 34 (by omega)).2
  have z35 := (hN.want 35 (by omega)).2
  have HN := Lib.hid hN
  clear hN
  clear hj b13 b14 b15 b16
  have j5 : (op == 5) = false := by simp; omega
  have hL16 : (L == 16) = false := by
    have h := hP.2 (by simp [paB]; omega)
    simp
    omega
  have eT := ET.out
  subst eT
  clear ET LS X
  go_wp2_with (first
    | (go_at_call 16; refine (VA.out _).mono ?_; rintro e w1 ⟨rfl, q1, rfl⟩)
    | (go_at_call 9; refine (SZ.out _).mono ?_; rintro e w1 ⟨rfl, q2, rfl⟩)
    | (go_at_call 12; refine (WR.out _).mono ?_; rintro e w1 ⟨rfl, q5, rfl⟩)
    | (go_at_call 7; refine (AK.out _).mono ?_; rintro e w1 ⟨rfl, q3, rfl⟩)
    | (go_at_call 10; refine (A.out _).mono ?_; rintro e w1 ⟨rfl, q4, rfl⟩)
    | ((with_reducible refine wpList_load_stg (s := s) (b := w.heap.size) (.tmp 4) rfl ?_ ?_ ?_ ?_); rfl; rfl; (repeat (first | with_reducible exact HN.out.st | with_reducible exact HN.out.want | with_reducible exact HN.out.nx | with_reducible refine stat_more ?_ _ | with_reducible refine stat_alloc ?_ _)); rw [hv.out]; go_frame)
    | ((with_reducible refine wpList_load_stg (s := T) (b := (w.heap.size + 1 + 1 + 1 + p1.os.size)) (.tmp 9) rfl ?_ ?_ ?_ ?_); rfl; rfl; (repeat (first | with_reducible exact HN.out.st | with_reducible exact HN.out.want | with_reducible exact HN.out.nx | with_reducible refine stat_more ?_ _ | with_reducible refine stat_alloc ?_ _)); go_frame)
    | ((with_reducible refine wpList_load_stg (s := T) (b := (w.heap.size + 1 + 1 + 1 + p1.os.size + 1 + p2.os.size)) (.tmp 13) rfl ?_ ?_ ?_ ?_); rfl; rfl; (repeat (first | with_reducible exact HN.out.st | with_reducible exact HN.out.want | with_reducible exact HN.out.nx | with_reducible refine stat_more ?_ _ | with_reducible refine stat_alloc ?_ _)); go_frame)
    | ((with_reducible refine wpList_eql_st (s := T) (.tmp 207) (.tmp 208) rfl ?_ ?_ ?_ ?_); rfl; rfl; rfl; go_frame))
  all_goals (go_ret; exact ⟨rfl, by repeat (first | with_reducible exact HN.out.below | with_reducible refine below_mo ?_ _ | with_reducible refine below_al ?_ _)⟩)

end Go.Proofs.Ytfijppclaahkmaa
