/- Walk: FlowReads, where it is an instruction. Conditions: numbers fit. -/
import Derived.Test.YtfijppclaahkmaaFlowReadsA
import Derived.Test.YtfijppclaahkmaaFlowSet
namespace Go.Proofs.Ytfijppclaahkmaa
open Go.RowKit Go.Sort
set_option linter.unusedVariables false
set_option linter.unusedSimpArgs false
/-- the world of the walk: thread, instruction, what memory answered, what Next made. -/
structure RdW (w wx : World) (s : St) (i : Ins) (g0 g1 : Nat) (r : Nat) (t : St) : Prop where
  st : StAt wx w.heap.size s
  ins : IAt wx (w.heap.size + 1) i
  got : Two wx (w.heap.size + 1 + 1) (.int .u64 (g0 : Nat)) (.int .u64 (g1 : Nat))
  nx : StAt wx r t
  lo : w.heap.size + 1 + 1 < r
  lr : r < wx.heap.size
  below : Below w.heap.size w wx
section
variable {w wx : World} {s t : St} {i : Ins} {g0 g1 r : Nat}
theorem RdW.next {wy : World} (h : RdW w wx s i g0 g1 r t) (hb : Below wx.heap.size wx wy) : RdW w wy s i g0 g1 r t :=
  ⟨h.st.below hb, h.ins.below hb, ⟨(hb.cell (cell_lt h.got.1)).trans h.got.1, (hb.cell (cell_lt h.got.2)).trans h.got.2⟩, h.nx.below hb, h.lo, Nat.lt_of_lt_of_le h.lr hb.size, below_next h.below hb⟩
theorem RdW.more (h : RdW w wx s i g0 g1 r t) (p : Regrown) : RdW w (more wx p) s i g0 g1 r t := h.next (more_below _ p)
theorem RdW.alloc (h : RdW w wx s i g0 g1 r t) (o : Obj) : RdW w (wx.alloc o) s i g0 g1 r t := h.next (below_al (Below.refl _ _) o)
end
theorem rd_start (w : World) (s t : St) (i : Ins) (g0 g1 : Nat) (p p2 : Regrown) : RdW w ((more (more (((w.alloc (.cells (stC s.f) 27)).alloc (.cells #[.int .i64 i.op, .int .i64 i.d, .int .i64 i.n, .int .i64 i.m, .int .i64 i.e, .int .i64 i.sz, .int .i64 i.imm] 29)).alloc (.cells #[.int .u64 (g0 : Nat), .int .u64 (g1 : Nat)] 30)) p) p2).alloc (.cells (stC t.f) 27)) s i g0 g1 (w.heap.size + 1 + 1 + 1 + p.os.size + p2.os.size) t := by
  have hb : Below (((w.alloc (.cells (stC s.f) 27)).alloc (.cells #[.int .i64 i.op, .int .i64 i.d, .int .i64 i.n, .int .i64 i.m, .int .i64 i.e, .int .i64 i.sz, .int .i64 i.imm] 29)).alloc (.cells #[.int .u64 (g0 : Nat), .int .u64 (g1 : Nat)] 30)).heap.size _ ((more (more (((w.alloc (.cells (stC s.f) 27)).alloc (.cells #[.int .i64 i.op, .int .i64 i.d, .int .i64 i.n, .int .i64 i.m, .int .i64 i.e, .int .i64 i.sz, .int .i64 i.imm] 29)).alloc (.cells #[.int .u64 (g0 : Nat), .int .u64 (g1 : Nat)] 30)) p) p2).alloc (.cells (stC t.f) 27)) :=
    below_al (below_mo (below_mo (Below.refl _ _) p) p2) _
  have h1 : Two (((w.alloc (.cells (stC s.f) 27)).alloc (.cells #[.int .i64 i.op, .int .i64 i.d, .int .i64 i.n, .int .i64 i.m, .int .i64 i.e, .int .i64 i.sz, .int .i64 i.imm] 29)).alloc (.cells #[.int .u64 (g0 : Nat), .int .u64 (g1 : Nat)] 30)) (w.heap.size + 1 + 1) (.int .u64 (g0 : Nat)) (.int .u64 (g1 : Nat)) := by
    unfold Two
    simp [alloc_cell]
  have hs : StAt (((w.alloc (.cells (stC s.f) 27)).alloc (.cells #[.int .i64 i.op, .int .i64 i.d, .int .i64 i.n, .int .i64 i.m, .int .i64 i.e, .int .i64 i.sz, .int .i64 i.imm] 29)).alloc (.cells #[.int .u64 (g0 : Nat), .int .u64 (g1 : Nat)] 30)) w.heap.size s := stat_alloc (stat_alloc (st_new w s _) _) _
  have hi : IAt (((w.alloc (.cells (stC s.f) 27)).alloc (.cells #[.int .i64 i.op, .int .i64 i.d, .int .i64 i.n, .int .i64 i.m, .int .i64 i.e, .int .i64 i.sz, .int .i64 i.imm] 29)).alloc (.cells #[.int .u64 (g0 : Nat), .int .u64 (g1 : Nat)] 30)) (w.heap.size + 1) i := IAt.below (i_new2 (w.alloc (.cells (stC s.f) 27)) i 29 (w.heap.size + 1) (by simp)) (below_al (Below.refl _ _) _)
  refine ⟨hs.below hb, hi.below hb, ⟨(hb.cell (cell_lt h1.1)).trans h1.1, (hb.cell (cell_lt h1.2)).trans h1.2⟩, ?_, by omega, by simp [more_size], below_al (below_mo (below_mo (below_al (below_al (below_al (Below.refl _ _) _) _) _) _) _) _⟩
  have := st_new (more (more (((w.alloc (.cells (stC s.f) 27)).alloc (.cells #[.int .i64 i.op, .int .i64 i.d, .int .i64 i.n, .int .i64 i.m, .int .i64 i.e, .int .i64 i.sz, .int .i64 i.imm] 29)).alloc (.cells #[.int .u64 (g0 : Nat), .int .u64 (g1 : Nat)] 30)) p) p2) t 27
  simpa [more_size] using this
theorem bit_and (a k : Nat) (ha : a < 18446744073709551616) : bits .and .u64 ((a : Int) / 2 ^ k) 1 = ((a.testBit k).toNat : Int) := by
  have h1 : (a : Int) / 2 ^ k = ((a / 2 ^ k : Nat) : Int) := by rw [show (2 : Int) ^ k = ((2 ^ k : Nat) : Int) from (Int.natCast_pow 2 _).symm]; rfl
  have h2 : a / 2 ^ k < 18446744073709551616 := Nat.lt_of_le_of_lt (Nat.div_le_self _ _) ha
  rw [h1, show (1 : Int) = ((1 : Nat) : Int) from rfl, u64_and_nat _ _ h2 (by decide), Nat.and_one_is_mod, Nat.testBit_eq_decide_div_mod_eq]
  have h3 : a / 2 ^ k % 2 = 0 ∨ a / 2 ^ k % 2 = 1 := by omega
  rcases h3 with h3 | h3 <;> simp [h3]
/-- .. and the thread with another register, and what Next made of that one. -/
structure RdU (w wx : World) (s : St) (i : Ins) (g0 g1 : Nat) (r : Nat) (t : St) (o : Nat) (s2 : St) (q : Nat) (u : St) : Prop where
  rd : RdW w wx s i g0 g1 r t
  oth : StAt wx o s2
  un : StAt wx q u
  lq : q < wx.heap.size
  lo : o < wx.heap.size
section
variable {w wx : World} {s t s2 u : St} {i : Ins} {g0 g1 r o q : Nat}
theorem RdU.next {wy : World} (h : RdU w wx s i g0 g1 r t o s2 q u) (hb : Below wx.heap.size wx wy) : RdU w wy s i g0 g1 r t o s2 q u :=
  ⟨h.rd.next hb, h.oth.below hb, h.un.below hb, Nat.lt_of_lt_of_le h.lq hb.size, Nat.lt_of_lt_of_le h.lo hb.size⟩
theorem RdU.more (h : RdU w wx s i g0 g1 r t o s2 q u) (p : Regrown) : RdU w (more wx p) s i g0 g1 r t o s2 q u := h.next (more_below _ p)
theorem rdu_start (h : RdW w wx s i g0 g1 r t) (s2 u : St) (p : Regrown) : RdU w ((more (wx.alloc (.cells (stC s2.f) 27)) p).alloc (.cells (stC u.f) 27)) s i g0 g1 r t wx.heap.size s2 (wx.heap.size + 1 + p.os.size) u := by
  refine ⟨((h.alloc _).more p).alloc _, stat_alloc (stat_more (st_new wx s2 _) p) _, ?_, by simp [more_size], by simp [more_size]; omega⟩
  have := st_new (more (wx.alloc (.cells (stC s2.f) 27)) p) u 27
  simpa [more_size] using this
end
set_option maxRecDepth 10000 in
set_option maxHeartbeats 4000000 in
theorem reads_law_yes (s : St) (i : Ins) (hi : i.rng) (hs : s.ok) (g0 g1 n x : Nat) (h0 : g0 < 18446744073709551616) (hn8 : n < 256) (hx : x < 18446744073709551616) (v : Nat) (h : enc i = some v) (w : World) (asks x1 wr acq rel : Bool) (sa ln a0 a1 : Int)
    (AK1 : ∀ W, Calls Try.prog 7 #[stV s, insV i] W (Gives W (.tuple #[accV wr sa ln x1 acq rel a0 a1, .bool asks])))
    (AK2 : (readsN i).testBit (n % 31) = false → ∀ W, Calls Try.prog 7 #[stV (setX s ((n % 31 : Nat) : Int) x), insV i] W (Gives W (.tuple #[accV wr sa ln x1 acq rel a0 a1, .bool asks]))) :
    Calls Try.prog 6 #[stV s, insV i, .agg #[.int .u64 (g0 : Nat), .int .u64 (g1 : Nat)], .int .u8 (n : Nat), .int .u64 (x : Nat)] w fun e w' => e = .returned (.bool true) ∧ Below w.heap.size w w' := by
  have hf := enc_facts h
  have A := Lib.hid awake_fl
  have NX := Lib.hid (fun W => next_yes s i hi hs g0 g1 h0 true v h W)
  have RD := Lib.hid (fun W => reads_any i hi v h W)
  have SE := Lib.hid (fun W => sets_any i hi v h W)
  have ST := Lib.hid (fun W => st_new W s 27)
  have SS := Lib.hid (fun t p p2 => rd_start w s t i g0 g1 p p2)
  have rl := reads_lt i hf
  have sl := sets_lt i hf
  have KE := Lib.hid (fun k hk h => next_keeps s i hf g0 g1 true k hk h)
  obtain ⟨kk, hkk⟩ : ∃ kk : Nat, kk = n % 31 := ⟨_, rfl⟩
  have hk31 : kk < 31 := by omega
  have hkn := Lib.hid hkk
  rw [← hkk] at AK2
  obtain ⟨s2, hs2⟩ : ∃ s2 : St, s2 = setX s (kk : Int) x := ⟨_, rfl⟩
  have hok2 : s2.ok := by
    rw [hs2]
    refine ⟨fun j => ?_, ?_, ?_, ?_⟩
    · unfold setX
      split
      · exact hs.1 j
      · simp only
        split
        · exact hx
        · exact hs.1 j
    · have := (alike_start s kk x).pc
      rw [this]
      exact hs.2.1
    · have := (alike_start s kk x).wa
      rw [this]
      exact hs.2.2.1
    · have := (alike_start s kk x).wl
      rw [this]
      exact hs.2.2.2
  have NX2 := Lib.hid (fun W => next_yes s2 i hi hok2 g0 g1 h0 true v h W)
  have OT := Lib.hid (fun hr => next_other s i hf kk x hk31 hr g0 g1 true)
  have OS := Lib.hid (fun hr hs => next_sets s i hf kk x hk31 hr g0 g1 true hs)
  have HE := Lib.hid (stC_ext (setX_f s kk x hk31))
  rw [← hs2] at OT OS AK2 HE
  generalize hU : nextS s2 i g0 g1 true = U at *
  clear hU
  generalize hT : nextS s i g0 g1 true = T at *
  generalize hRN : readsN i = rN at *
  generalize hSN : setsN i = sN at *
  replace hs2 := Lib.hid hs2
  clear h hi hf hT hok2
  replace AK1 := Lib.hid AK1
  replace AK2 := Lib.hid AK2
  obtain ⟨op, d, n1, m, e, sz, imm⟩ := i
  rw [show stV s = .agg (stC s.f) from rfl]
  generalize hv : stV s = V at NX AK1
  replace hv := Lib.hid hv
  unfold insV accV at *
  simp only at NX RD SE NX2 AK1 AK2
  show Calls Try.prog _ #[.agg (stC s.f), .agg #[.int .i64 op, .int .i64 d, .int .i64 n1, .int .i64 m, .int .i64 e, .int .i64 sz, .int .i64 imm], .agg #[.int .u64 (g0 : Nat), .int .u64 (g1 : Nat)], .int .u8 (n : Nat), .int .u64 (x : Nat)] w _
  go_enter Try.func6, Try.ntmps6
  go_upto_region 1 with fail
  refine wp_quiet_more (by kernel_rfl) (by kernel_rfl) ?_
  repeat (go_big_quiet_step (first | (go_at_call 18; exact quiet_more (RD.out _)) | (go_at_call 19; exact quiet_more (SE.out _))))
  refine wpQuiet_nil ?_
  intro p0
  go_upto_region 2 with fail
  refine wp_region_lit ?_
  refine wpList_load_st (s := s) (b := w.heap.size) (.tmp 5) rfl rfl rfl (stat_more (stat_alloc (stat_alloc (ST.out w) _) _) _) ?_
  rw [hv.out]
  go_frame
  go_upto_region 3 with (first
    | (refine wpList_alloc_st rfl rfl ?_; go_frame)
    | (refine wpList_store_new (s := T) (.tmp 13) (.tmp 34) rfl rfl rfl rfl ?_ ?_; (generalize stV _ = Z; rfl); go_frame)
    | (go_at_call 14; refine (NX.out _).mono ?_; rintro e w1 ⟨rfl, p1, rfl⟩))
  simp only [more_size, World.size_alloc]
  refine wp_letter (R := fun W => RdW w W s ⟨op, d, n1, m, e, sz, imm⟩ g0 g1 (w.heap.size + 1 + 1 + 1 + p0.os.size + p1.os.size) T) (SS.out T p0 p1) ?_
  intro wx hN
  clear SS ST NX
  have HN := Lib.hid hN
  clear hN
  go_upto_region 5 with (go_at_call 10; refine (A.out _).mono ?_; rintro e w1 ⟨rfl, p2, rfl⟩)
  go_wp2_with fail
  have HN2 := Lib.hid (HN.out.more p2)
  clear HN
  go_loopw [15] (fun v15 wr => ∃ k : Nat, k ≤ 31 ∧ v15 = .int .i64 k ∧ RdW w wr s ⟨op, d, n1, m, e, sz, imm⟩ g0 g1 (w.heap.size + 1 + 1 + 1 + p0.os.size + p1.os.size) T) (fun v15 _ => 31 - (intOf v15).toNat)
  case atStart => exact ⟨0, by omega, rfl, HN2.out⟩
  case round =>
    obtain ⟨k, hk, rfl, hN⟩ := hrel
    have lr := hN.lr
    have lz : w.heap.size + 1 + 1 < _ := cell_lt hN.got.1
    have HN := Lib.hid hN
    clear hN HN2
    by_cases hlt : (k : Int) < 31
    · have hk31' : k < 31 := by omega
      have c1 := (HN.out.nx k (by omega)).1
      have c2 := (HN.out.st k (by omega)).1
      rw [f_x _ hk31'] at c1 c2
      have hb := bit_and sN k (by omega)
      cases ht : sN.testBit k with
      | true =>
        rw [ht] at hb
        simp at hb
        go_upto_region 8 with fail
        refine wp_quiet_more (by kernel_rfl) (by kernel_rfl) ?_
        repeat (go_big_quiet_step (fail))
        refine wpQuiet_nil ?_
        intro p3
        go_wp2_with fail
        go_roundw
        case rel => exact ⟨k + 1, by omega, by go_num, HN.out.more p3⟩
        case measure => simp [intOf]; omega
      | false =>
        rw [ht] at hb
        simp at hb
        rw [KE.out k hk31' ht] at c1
        go_upto_region 8 with fail
        refine wp_quiet_more (by kernel_rfl) (by kernel_rfl) ?_
        repeat (go_big_quiet_step (fail))
        refine wpQuiet_nil ?_
        intro p3
        go_wp2_with fail
        go_roundw
        case rel => exact ⟨k + 1, by omega, by go_num, HN.out.more p3⟩
        case measure => simp [intOf]; omega
    · obtain rfl : k = 31 := by omega
      have hn1 : (n : Int) % 31 = (kk : Int) := by omega
      have hn2 : Int.tmod (n : Int) 31 = (kk : Int) := by rw [Int.tmod_eq_emod_of_nonneg (by omega)]; exact hn1
      have hb := bit_and rN kk (by omega)
      have rl2 : (rN : Int) < 2147483648 := by omega
      have sl2 : (sN : Int) < 2147483648 := by omega
      clear hkk
      cases ht : rN.testBit kk with
      | true =>
        rw [ht] at hb
        simp at hb
        go_wp2_with fail
        go_ret
        exact ⟨by simp, HN.out.below⟩
      | false =>
        rw [ht] at hb
        simp at hb
        go_upto_region 13 with fail
        refine wp_region_lit ?_
        refine wpList_load_st (s := s) (b := w.heap.size) (.tmp 5) rfl rfl rfl HN.out.st ?_
        go_frame
        go_upto_region 15 with (first
          | (refine wpList_alloc_st rfl rfl ?_; go_frame)
          | (refine wpList_store_new (s := s) (.tmp 17) (.tmp 87) rfl rfl rfl rfl ?_ ?_; (generalize stV _ = Z; rfl); go_frame))
        rw [← HE.out]
        have SU := Lib.hid (fun p => rdu_start HN.out s2 U p)
        have STO := Lib.hid (st_new wr s2 27)
        have hI := HN.out.ins
        unfold IAt at hI
        obtain ⟨i0, i1, i2, i3, i4, i5, i6⟩ := hI
        have hG := HN.out.got
        unfold Two at hG
        obtain ⟨k0, k1⟩ := hG
        refine wp_region_lit ?_
        refine wpList_load_st (s := s2) (b := wr.heap.size) (.tmp 17) rfl rfl rfl STO.out ?_
        go_frame
        go_upto_region 16 with (first
          | (go_at_call 14; refine (NX2.out _).mono ?_; rintro e w1 ⟨rfl, p4, rfl⟩)
          | ((with_reducible refine wpList_alloc_st rfl rfl ?_); go_frame)
          | ((with_reducible refine wpList_store_new (s := U) (b := (more (wr.alloc (.cells (stC s2.f) 27)) p4).heap.size) (.tmp 18) (.tmp 97) rfl rfl ?_ ?_ ?_ ?_); rfl; rfl; (generalize stV _ = Z; rfl); go_frame))
        simp only [more_size, World.size_alloc]
        refine wp_letter (R := fun W => RdU w W s ⟨op, d, n1, m, e, sz, imm⟩ g0 g1 (w.heap.size + 1 + 1 + 1 + p0.os.size + p1.os.size) T wr.heap.size s2 (wr.heap.size + 1 + p4.os.size) U) (SU.out p4) ?_
        intro wy hN
        clear lr lz HN SU STO HE NX2 hb hn1 hn2 i0 i1 i2 i3 i4 i5 i6 k0 k1
        generalize wr.heap.size + 1 + p4.os.size = q at hN ⊢
        generalize wr.heap.size = o at hN ⊢
        have HN := Lib.hid hN
        clear hN
        go_wp2_with fail
        go_loopw [20] (fun v20 wz => ∃ k : Nat, k ≤ 31 ∧ v20 = .int .i64 k ∧ RdU w wz s ⟨op, d, n1, m, e, sz, imm⟩ g0 g1 (w.heap.size + 1 + 1 + 1 + p0.os.size + p1.os.size) T o s2 q U) (fun v20 _ => 31 - (intOf v20).toNat)
        case atStart => exact ⟨0, by omega, rfl, HN.out⟩
        case round =>
          obtain ⟨k, hk, rfl, hN⟩ := hrel
          clear HN
          have lr := hN.rd.lr
          have lq := hN.lq
          have lo := hN.lo
          have lz : w.heap.size + 1 + 1 < _ := cell_lt hN.rd.got.1
          have HN := Lib.hid hN
          clear hN
          have AL := Lib.hid (OT.out ht)
          by_cases hlt : (k : Int) < 31
          · have hk31' : k < 31 := by omega
            have c1 := (HN.out.rd.nx k (by omega)).1
            have c2 := (HN.out.un k (by omega)).1
            rw [f_x _ hk31'] at c1 c2
            by_cases he : k = kk
            · subst he
              have hb := bit_and sN k (by omega)
              cases hs : sN.testBit k with
              | true =>
                rw [hs] at hb
                simp at hb
                rw [OS.out ht hs] at c2
                go_upto_region 19 with fail
                refine wp_quiet_more (by kernel_rfl) (by kernel_rfl) ?_
                repeat (go_big_quiet_step (fail))
                refine wpQuiet_nil ?_
                intro p3
                go_wp2_with fail
                go_roundw
                case rel => exact ⟨k + 1, by omega, by go_num, HN.out.more p3⟩
                case measure => simp [intOf]; omega
              | false =>
                rw [hs] at hb
                simp at hb
                go_upto_region 19 with fail
                refine wp_quiet_more (by kernel_rfl) (by kernel_rfl) ?_
                repeat (go_big_quiet_step (fail))
                refine wpQuiet_nil ?_
                intro p3
                go_wp2_with fail
                go_roundw
                case rel => exact ⟨k + 1, by omega, by go_num, HN.out.more p3⟩
                case measure => simp [intOf]; omega
            · have hne : ((k : Int) != (kk : Int)) = true := by simp; omega
              have heq : ((k : Int) == (kk : Int)) = false := by simp; omega
              rw [AL.out.x k he] at c2
              go_upto_region 19 with fail
              refine wp_quiet_more (by kernel_rfl) (by kernel_rfl) ?_
              repeat (go_big_quiet_step (fail))
              refine wpQuiet_nil ?_
              intro p3
              go_wp2_with fail
              go_roundw
              case rel => exact ⟨k + 1, by omega, by go_num, HN.out.more p3⟩
              case measure => simp [intOf]; omega
          · obtain rfl : k = 31 := by omega
            go_upto_region 21 with fail
            have hI := HN.out.rd.ins
            unfold IAt at hI
            obtain ⟨i0, i1, i2, i3, i4, i5, i6⟩ := hI
            have l0 : w.heap.size < wr.heap.size := by omega
            have l1 : w.heap.size + 1 < wr.heap.size := by omega
            have q31 := (HN.out.un 31 (by omega)).1
            have q32 := (HN.out.un 32 (by omega)).1
            have q33 := (HN.out.un 33 (by omega)).1
            have q34 := (HN.out.un 34 (by omega)).1
            have q35 := (HN.out.un 35 (by omega)).1
            rw [f_pc, AL.out.pc] at q31
            rw [f_z, AL.out.z] at q32
            rw [f_c, AL.out.c] at q33
            rw [f_wa, AL.out.wa] at q34
            rw [f_wl, AL.out.wl] at q35
            have r31 := (HN.out.rd.nx 31 (by omega)).1
            have r32 := (HN.out.rd.nx 32 (by omega)).1
            have r33 := (HN.out.rd.nx 33 (by omega)).1
            have r34 := (HN.out.rd.nx 34 (by omega)).1
            have r35 := (HN.out.rd.nx 35 (by omega)).1
            rw [f_pc] at r31
            rw [f_z] at r32
            rw [f_c] at r33
            rw [f_wa] at r34
            rw [f_wl] at r35
            have AK3 := Lib.hid (AK2.out ht)
            clear AL AK2 OT OS KE RD SE A
            go_upto_region 21 with fail
            refine wp_region_lit ?_
            refine wpList_load_st (s := s) (b := w.heap.size) (.tmp 5) rfl rfl rfl HN.out.rd.st ?_
            rw [hv.out]
            go_frame
            go_upto_region 22 with (go_at_call 7; refine (AK1.out _).mono ?_; rintro e w1 ⟨rfl, p5, rfl⟩)
            refine wp_region_lit ?_
            refine wpList_load_st (s := s2) (b := o) (.tmp 17) rfl rfl rfl (stat_alloc (stat_more HN.out.oth p5) _) ?_
            go_frame
            go_upto_region 23 with (go_at_call 7; refine (AK3.out _).mono ?_; rintro e w1 ⟨rfl, p6, rfl⟩)
            go_wp2_with fail
            go_ret
            exact ⟨by simp, by repeat (first | with_reducible exact HN.out.rd.below | with_reducible refine below_mo ?_ _ | with_reducible refine below_al ?_ _)⟩
end Go.Proofs.Ytfijppclaahkmaa
