/- Walk: FlowAsks, where the instruction goes to memory. Conditions: numbers fit. -/
import Derived.Test.YtfijppclaahkmaaFlowAsksA
namespace Go.Proofs.Ytfijppclaahkmaa
open Go.RowKit Go.Sort
set_option linter.unusedVariables false
set_option linter.unusedSimpArgs false
/-- the world of the statement's walk: thread, instruction, what Ask said. -/
structure LawV (w wx : World) (s : St) (i : Ins) (ba : Nat) (x : Bool) (a l : Int) (ex acq rel : Bool) (d0 d1 : Int) : Prop where
  st : StAt wx w.heap.size s
  ins : IAt wx (w.heap.size + 1) i
  acc : Acc8 wx ba x a l ex acq rel d0 d1
  lo : w.heap.size + 2 ≤ ba
  below : Below w.heap.size w wx
theorem LawV.more {w wx : World} {s : St} {i : Ins} {ba : Nat} {x : Bool} {a l : Int} {ex acq rel : Bool} {d0 d1 : Int} (h : LawV w wx s i ba x a l ex acq rel d0 d1) (p : Regrown) : LawV w (more wx p) s i ba x a l ex acq rel d0 d1 :=
  ⟨stat_more h.st p, h.ins.below (more_below _ _), acc_more h.acc p, h.lo, below_mo h.below p⟩
theorem LawV.drew {w wx : World} {s : St} {i : Ins} {ba : Nat} {x : Bool} {a l : Int} {ex acq rel : Bool} {d0 d1 : Int} (h : LawV w wx s i ba x a l ex acq rel d0 d1) : LawV w wx.drew s i ba x a l ex acq rel d0 d1 := by
  rw [drew_more]
  exact h.more _
theorem LawV.alloc {w wx : World} {s : St} {i : Ins} {ba : Nat} {x : Bool} {a l : Int} {ex acq rel : Bool} {d0 d1 : Int} (h : LawV w wx s i ba x a l ex acq rel d0 d1) (o : Obj) : LawV w (wx.alloc o) s i ba x a l ex acq rel d0 d1 :=
  ⟨stat_alloc h.st o, h.ins.below (below_al (Below.refl _ _) o), h.acc.below (below_al (Below.refl _ _) o), h.lo, below_al h.below o⟩
theorem law_start (w : World) (s : St) (i : Ins) (p2 : Regrown) (x : Bool) (a l : Int) (ex acq rel : Bool) (d0 d1 : Int) : LawV w ((more ((w.alloc (.cells (stC s.f) 27)).alloc (.cells #[.int .i64 i.op, .int .i64 i.d, .int .i64 i.n, .int .i64 i.m, .int .i64 i.e, .int .i64 i.sz, .int .i64 i.imm] 29)) p2).alloc (.cells #[.bool x, .int .i64 a, .int .i64 l, .bool ex, .bool acq, .bool rel, .int .u64 d0, .int .u64 d1] 32)) s i (w.heap.size + 1 + 1 + p2.os.size) x a l ex acq rel d0 d1 := by
  refine ⟨stat_alloc (stat_more (stat_alloc (st_new w s _) _) _) _, ?_, acc_new2 _ x a l ex acq rel d0 d1 _ _ (by rw [more_size]; simp), by omega, below_al (below_mo (below_al (below_al (Below.refl _ _) _) _) _) _⟩
  exact IAt.below (IAt.below (i_new2 (w.alloc (.cells (stC s.f) 27)) i 29 (w.heap.size + 1) (by simp)) (more_below _ _)) (below_al (Below.refl _ _) _)
structure LawW (w wx : World) (s : St) (i : Ins) (ba : Nat) (x : Bool) (a l : Int) (ex acq rel : Bool) (d0 d1 : Int) (b : Nat) (x' : Bool) (a' l' : Int) (ex' acq' rel' : Bool) (d0' d1' : Int) : Prop where
  v : LawV w wx s i ba x a l ex acq rel d0 d1
  want : Acc8 wx b x' a' l' ex' acq' rel' d0' d1'
  hb : w.heap.size + 2 ≤ b
  ne : ba ≠ b
theorem Acc8.set1 {w : World} {B : Nat} {x : Bool} {a l : Int} {ex acq rel : Bool} {d0 d1 : Int} (h : Acc8 w B x a l ex acq rel d0 d1) (q : Int) : Acc8 (w.setCell ⟨B, 1, none⟩ (.int .i64 q)) B x q l ex acq rel d0 d1 := by
  obtain ⟨⟨c0, c1, c2, c3, c4, c5, c6, c7⟩, z0, z1, z2, z3, z4, z5, z6, z7⟩ := h
  unfold Acc8
  refine ⟨⟨?_, World.cell?_setCell_same _ _ _ c1, ?_, ?_, ?_, ?_, ?_, ?_⟩, ?_, ?_, ?_, ?_, ?_, ?_, ?_, ?_⟩
  all_goals first | (rw [World.frozen?_setCell]; assumption) | (rw [World.cell?_setCell_other _ _ _ _ (by simp)]; assumption)
theorem LawW.put {w wx : World} {s : St} {i : Ins} {ba : Nat} {x : Bool} {a l : Int} {ex acq rel : Bool} {d0 d1 : Int} {b : Nat} {x' : Bool} {a' l' : Int} {ex' acq' rel' : Bool} {d0' d1' : Int} {y : Bool} {c f : Int} {ey cq rl : Bool} {g0 g1 : Int} {k : Nat} {v : Value}
    (h : LawW w wx s i ba x a l ex acq rel d0 d1 b x' a' l' ex' acq' rel' d0' d1') (hn : Acc8 (wx.setCell ⟨b, k, none⟩ v) b y c f ey cq rl g0 g1) : LawW w (wx.setCell ⟨b, k, none⟩ v) s i ba x a l ex acq rel d0 d1 b y c f ey cq rl g0 g1 := by
  have h1 := h.hb
  have h2 := h.ne
  exact ⟨⟨stat_setc h.v.st (by omega), h.v.ins.far (by omega), h.v.acc.far h2, h.v.lo, below_st h.v.below (by simp only []; omega) v⟩, hn, h1, h2⟩
theorem LawW.a_eq {w wx : World} {s : St} {i : Ins} {ba : Nat} {x : Bool} {a l : Int} {ex acq rel : Bool} {d0 d1 : Int} {b : Nat} {x' : Bool} {a' l' : Int} {ex' acq' rel' : Bool} {d0' d1' a2 : Int}
    (h : LawW w wx s i ba x a l ex acq rel d0 d1 b x' a' l' ex' acq' rel' d0' d1') (e : a2 = a') : LawW w wx s i ba x a l ex acq rel d0 d1 b x' a2 l' ex' acq' rel' d0' d1' := by
  subst e
  exact h
theorem LawW.d_eq {w wx : World} {s : St} {i : Ins} {ba : Nat} {x : Bool} {a l : Int} {ex acq rel : Bool} {d0 d1 : Int} {b : Nat} {x' : Bool} {a' l' : Int} {ex' acq' rel' : Bool} {d0' d1' e0 e1 : Int}
    (h : LawW w wx s i ba x a l ex acq rel d0 d1 b x' a' l' ex' acq' rel' d0' d1') (f0 : e0 = d0') (f1 : e1 = d1') : LawW w wx s i ba x a l ex acq rel d0 d1 b x' a' l' ex' acq' rel' e0 e1 := by
  subst f0 f1
  exact h
theorem LawW.more {w wx : World} {s : St} {i : Ins} {ba : Nat} {x : Bool} {a l : Int} {ex acq rel : Bool} {d0 d1 : Int} {b : Nat} {x' : Bool} {a' l' : Int} {ex' acq' rel' : Bool} {d0' d1' : Int}
    (h : LawW w wx s i ba x a l ex acq rel d0 d1 b x' a' l' ex' acq' rel' d0' d1') (p : Regrown) : LawW w (more wx p) s i ba x a l ex acq rel d0 d1 b x' a' l' ex' acq' rel' d0' d1' := ⟨h.v.more p, acc_more h.want p, h.hb, h.ne⟩
theorem askw4t {w wx : World} {s : St} {i : Ins} {ba : Nat} {x : Bool} {a l : Int} {ex acq rel : Bool} {d0 d1 : Int} {b : Nat} {x' : Bool} {a' l' : Int} {ex' acq' rel' : Bool} {d0' d1' op : Int}
    (h : LawW w wx s i ba x a l ex acq rel d0 d1 b x' a' l' ex' acq' rel' d0' d1') (hq : op = 19 ∨ op = 22 ∨ op = 26) : LawW w (wx.setCell ⟨b, 4, none⟩ (.bool true)) s i ba x a l ex acq rel d0 d1 b x' a' l' ex' (op == 19 || op == 22 || op == 26) rel' d0' d1' := by
  rw [show (op == 19 || op == 22 || op == 26) = true by simp; omega]
  exact h.put (h.want.set4 true)
theorem askw4f {w wx : World} {s : St} {i : Ins} {ba : Nat} {x : Bool} {a l : Int} {ex acq rel : Bool} {d0 d1 : Int} {b : Nat} {x' : Bool} {a' l' : Int} {ex' acq' rel' : Bool} {d0' d1' op : Int}
    (h : LawW w wx s i ba x a l ex acq rel d0 d1 b x' a' l' ex' acq' rel' d0' d1') (hq : ¬ (op = 19 ∨ op = 22 ∨ op = 26)) : LawW w (wx.setCell ⟨b, 4, none⟩ (.bool false)) s i ba x a l ex acq rel d0 d1 b x' a' l' ex' (op == 19 || op == 22 || op == 26) rel' d0' d1' := by
  rw [show (op == 19 || op == 22 || op == 26) = false by simp; omega]
  exact h.put (h.want.set4 false)
theorem askw5t {w wx : World} {s : St} {i : Ins} {ba : Nat} {x : Bool} {a l : Int} {ex acq rel : Bool} {d0 d1 : Int} {b : Nat} {x' : Bool} {a' l' : Int} {ex' acq' rel' : Bool} {d0' d1' op : Int}
    (h : LawW w wx s i ba x a l ex acq rel d0 d1 b x' a' l' ex' acq' rel' d0' d1') (hq : op = 20 ∨ op = 24 ∨ op = 28) : LawW w (wx.setCell ⟨b, 5, none⟩ (.bool true)) s i ba x a l ex acq rel d0 d1 b x' a' l' ex' acq' (op == 20 || op == 24 || op == 28) d0' d1' := by
  rw [show (op == 20 || op == 24 || op == 28) = true by simp; omega]
  exact h.put (h.want.set5 true)
theorem askw5f {w wx : World} {s : St} {i : Ins} {ba : Nat} {x : Bool} {a l : Int} {ex acq rel : Bool} {d0 d1 : Int} {b : Nat} {x' : Bool} {a' l' : Int} {ex' acq' rel' : Bool} {d0' d1' op : Int}
    (h : LawW w wx s i ba x a l ex acq rel d0 d1 b x' a' l' ex' acq' rel' d0' d1') (hq : ¬ (op = 20 ∨ op = 24 ∨ op = 28)) : LawW w (wx.setCell ⟨b, 5, none⟩ (.bool false)) s i ba x a l ex acq rel d0 d1 b x' a' l' ex' acq' (op == 20 || op == 24 || op == 28) d0' d1' := by
  rw [show (op == 20 || op == 24 || op == 28) = false by simp; omega]
  exact h.put (h.want.set5 false)
set_option maxHeartbeats 8000000 in
theorem asks_mem (s : St) (i : Ins) (hi : i.rng) (hs : s.ok) (v : Nat) (h : enc i = some v) (hm : meB i.op = true) (w : World) : Calls Try.prog 3 #[stV s, insV i] w fun e w' => e = .returned (.bool true) ∧ Below w.heap.size w w' := by
  have hf := enc_facts h
  have A := Lib.hid awake_fl
  have AK := Lib.hid (fun W => ask_yes s i hi hs v h hm W)
  have RE := Lib.hid (fun W => rencode_any i hi W)
  rw [h] at RE
  have SZ := Lib.hid (fun W => rsize_mem i hf hm W)
  have X := Lib.hid (fun k hk W => rX_any s k hk W)
  have WR := Lib.hid (fun W => gives_same (rwrites_any i.op W))
  have LO := Lib.hid (fun W => rlow_any (getX s i.d) (lenI i) (getX_lt hs i.d) (lenI_five hf) W)
  have ST := Lib.hid (fun W => st_new W s 27)
  have hl := lenI_in hf
  have hP := Lib.hid (len_pair hf)
  have he31 := hf.e
  have eL := Lib.hid (lenI.eq_1 i)
  have eT := Lib.hid (atN.eq_1 s i)
  have eS := Lib.hid (spanA.eq_1 s i)
  have e0 := Lib.hid (ask0.eq_1 s i)
  have e1 := Lib.hid (ask1.eq_1 s i)
  have f1 : 17 ≤ i.op ∧ i.op ≤ 28 := by simpa [meB] using hm
  have hd := hf.d
  have he := hf.e
  have hn := hf.n
  have gn := getX_lt hs i.n
  have gd := getX_lt hs i.d
  have f4 := hf.page
  have f5 := hf.small
  have hTpos : Hid (0 ≤ atN s i) := Lib.hid (by unfold atN; omega)
  generalize atN s i = T at eT eS hTpos
  generalize spanA s i = SA at AK eS
  generalize lenI i = L at *
  generalize ask0 s i = A0 at AK e0
  generalize ask1 s i = A1 at AK e1
  generalize wrB i.op = w1 at *
  have hx1 : Hid (exB i.op = decide (21 ≤ i.op ∧ i.op ≤ 28)) := Lib.hid rfl
  generalize exB i.op = x1 at *
  clear hi hs h hm hf
  obtain ⟨op, d, n, m, e, sz, imm⟩ := i
  rw [show stV s = .agg (stC s.f) from rfl]
  generalize hv : stV s = V at AK X
  unfold insV accV acqB relB at *
  simp only [Option.getD_none, Option.getD_some, Option.isSome_none, Option.isSome_some] at *
  have hL0 : (L == 0) = false := by simp; omega
  go_enter Try.func3, Try.ntmps3
  go_upto_region 1 with fail
  refine wp_region_lit ?_
  refine wpList_load_st (s := s) (b := w.heap.size) (.tmp 2) rfl rfl rfl (stat_alloc (ST.out w) _) ?_
  rw [hv]
  go_frame
  go_upto_region 6 with (first
    | (go_at_call 7; refine (AK.out _).mono ?_; rintro e w1 ⟨rfl, p2, rfl⟩)
    | (go_at_call 8; refine (RE.out _).mono ?_; rintro e w1 ⟨rfl, p3, rfl⟩)
    | (go_at_call 9; refine (SZ.out _).mono ?_; rintro e w1 ⟨rfl, p4, rfl⟩))
  refine wp_letter (R := fun W => LawV w W s ⟨op, d, n, m, e, sz, imm⟩ (w.heap.size + 1 + 1 + p2.os.size) w1 SA L x1 (op == 19 || op == 22 || op == 26) (op == 20 || op == 24 || op == 28) A0 A1) (((law_start w s ⟨op, d, n, m, e, sz, imm⟩ p2 w1 SA L x1 _ _ A0 A1).more p3).more p4) ?_
  intro wx hN
  generalize w.heap.size + 1 + 1 + p2.os.size = ba at hN ⊢
  have hI := hN.ins
  unfold IAt at hI
  obtain ⟨i0, i1, i2, i3, i4, i5, i6⟩ := hI
  have lz : w.heap.size + 1 < _ := cell_lt hN.ins.1
  have lb : ba < _ := cell_lt hN.acc.1.1
  have HN := Lib.hid hN
  clear hN
  refine wp_region_lit ?_
  refine wpList_load_st (s := s) (b := w.heap.size) (.tmp 2) rfl rfl rfl HN.out.st ?_
  rw [hv]
  go_frame
  go_upto_region 7 with (go_at_call 11; refine (X.out _ (by omega) _).mono ?_; rintro e w9 ⟨rfl, p5, rfl⟩)
  refine wp_letter (R := fun W => LawV w W s ⟨op, d, n, m, e, sz, imm⟩ ba w1 SA L x1 (op == 19 || op == 22 || op == 26) (op == 20 || op == 24 || op == 28) A0 A1) (HN.out.more p5) ?_
  intro wy hN
  clear HN lz lb i0 i1 i2 i3 i4 i5 i6
  have hI := hN.ins
  unfold IAt at hI
  obtain ⟨i0, i1, i2, i3, i4, i5, i6⟩ := hI
  have lz : w.heap.size + 1 < _ := cell_lt hN.ins.1
  have lb : ba < _ := cell_lt hN.acc.1.1
  have HN := Lib.hid hN
  clear hN
  go_cut [52] from 45 to 51 (fun t W => t = .bool (decide (op = 17 ∨ op = 18)) ∧ LawV w W s ⟨op, d, n, m, e, sz, imm⟩ ba w1 SA L x1 (op == 19 || op == 22 || op == 26) (op == 20 || op == 24 || op == 28) A0 A1)
  case first =>
    by_cases h17 : op = 17
    · subst h17
      go_wp2_with fail
      go_meet
      exact ⟨rfl, HN.out⟩
    · by_cases h18 : op = 18
      · subst h18
        go_wp2_with fail
        go_meet
        exact ⟨rfl, HN.out⟩
      · have b17 : (op == 17) = false := by simpa using h17
        have b18 : (op == 18) = false := by simpa using h18
        have HD : Hid (decide (op = 17 ∨ op = 18) = false) := Lib.hid (by simp [h17, h18])
        go_wp2_with fail
        go_meet
        exact ⟨by rw [HD.out], HN.out⟩
  case rest =>
    obtain ⟨rfl, hN⟩ := hcut
    clear HN lz lb i0 i1 i2 i3 i4 i5 i6
    have hI := hN.ins
    unfold IAt at hI
    obtain ⟨i0, i1, i2, i3, i4, i5, i6⟩ := hI
    have lz : w.heap.size + 1 < _ := cell_lt hN.ins.1
    have lb : ba < _ := cell_lt hN.acc.1.1
    have HN := Lib.hid hN
    clear hN
    generalize hq : decide (op = 17 ∨ op = 18) = q
    have HQ := Lib.hid hq
    clear hq
    go_upto_if 52 with fail
    go_cut [10] from 53 to 60 (fun t10 W => t10 = .int .u64 T ∧ LawV w W s ⟨op, d, n, m, e, sz, imm⟩ ba w1 SA L x1 (op == 19 || op == 22 || op == 26) (op == 20 || op == 24 || op == 28) A0 A1)
    case first =>
      have qT := eT.out
      cases q
      rotate_left
      · have hop : op = 17 ∨ op = 18 := by simpa using HQ.out
        rw [if_pos hop] at qT
        have qL := eL.out
        rw [if_neg (by omega)] at qL
        rw [← qL] at qT
        have f6 := f4 hop
        have f7 := f5 (by omega)
        have m1 : 0 ≤ imm * L := Int.mul_nonneg f7.1 (by omega)
        have m2 : imm * L ≤ 4095 * 16 := Int.mul_le_mul f6 hl.2 (by omega) (by omega)
        rw [← IntKind.wrap_u64] at qT
        have HT := Lib.hid qT
        clear qT qL f4 f5 eL eT hop HQ
        go_wp2_with fail
        go_meet
        exact ⟨by rw [HT.out], HN.out⟩
      · have hop : ¬ (op = 17 ∨ op = 18) := by simpa using HQ.out
        rw [if_neg hop] at qT
        have qT2 : T = getX s n := by omega
        have HT := Lib.hid qT2
        clear qT qT2 eT hop f4 f5 HQ
        go_wp2_with fail
        go_meet
        exact ⟨by rw [HT.out], HN.out⟩
    case rest =>
      obtain ⟨rfl, hN⟩ := hcut
      clear HN lz lb i0 i1 i2 i3 i4 i5 i6
      clear eT eL f4 f5
      have hI := hN.ins
      unfold IAt at hI
      obtain ⟨i0, i1, i2, i3, i4, i5, i6⟩ := hI
      have lz : w.heap.size + 1 < _ := cell_lt hN.ins.1
      have lb : ba < _ := cell_lt hN.acc.1.1
      have HN := Lib.hid hN
      clear hN
      have HXE : Hid (x1 = decide (21 ≤ op)) := Lib.hid (by rw [hx1.out]; simp; omega)
      clear hx1
      go_upto_region 9 with fail
      go_cut [11] from 61 to 69 (fun t11 W => ∃ b, t11 = .pointer (some ⟨b, 0, none⟩) ∧ LawW w W s ⟨op, d, n, m, e, sz, imm⟩ ba w1 SA L x1 (op == 19 || op == 22 || op == 26) (op == 20 || op == 24 || op == 28) A0 A1 b w1 (-1) L x1 false false 0 0)
      case first =>
        go_region_held3 (fun W => W.cell? ⟨w.heap.size + 1, 0, none⟩ = some (.int .i64 op)) (first | (simp [go_sem, ↓IntWalk.iteOmega, i0]; done) | (simp [go_sem, ↓IntWalk.iteOmega, i0]; omega)) (first
          | (go_at_call 12; refine (WR.out _).mono ?_; rintro e w9 ⟨rfl, p7, rfl⟩))
        all_goals
          go_wp2_with fail
          go_meet
          refine ⟨_, rfl, ?_, ?_, ?_, ?_⟩
          · repeat (first | with_reducible exact HN.out | with_reducible refine LawV.more ?_ _ | with_reducible refine LawV.alloc ?_ _ | with_reducible refine LawV.drew ?_)
          · rw [HXE.out]
            repeat with_reducible refine acc_more ?_ _
            exact acc_new2 _ _ _ _ _ _ _ _ _ _ _ (by first | rfl | simp [go_sem])
          · first | omega | (simp [go_sem]; omega) | (simp only [drew_more, more_size, World.size_alloc]; omega)
          · first | omega | (simp [go_sem]; omega) | (simp only [drew_more, more_size, World.size_alloc]; omega)
      case rest =>
        obtain ⟨b, rfl, hW⟩ := hcut
        clear HN lz lb i0 i1 i2 i3 i4 i5 i6
        have hI := hW.v.ins
        unfold IAt at hI
        obtain ⟨i0, i1, i2, i3, i4, i5, i6⟩ := hI
        have hC := hW.want
        unfold Acc8 at hC
        obtain ⟨⟨c0, c1, c2, c3, c4, c5, c6, c7⟩, z0, z1, z2, z3, z4, z5, z6, z7⟩ := hC
        have lz : w.heap.size + 1 < _ := cell_lt hW.v.ins.1
        have lb : ba < _ := cell_lt hW.v.acc.1.1
        have lw : b < _ := cell_lt hW.want.1.1
        have n1 : ¬ b = w.heap.size + 1 := by have := hW.hb; omega
        have n2 : ¬ w.heap.size + 1 = b := by have := hW.hb; omega
        have n3 : ¬ b = w.heap.size := by have := hW.hb; omega
        have n4 : ¬ w.heap.size = b := by have := hW.hb; omega
        have n5 : ¬ ba = b := hW.ne
        have n6 : ¬ b = ba := fun e => hW.ne e.symm
        have HW := Lib.hid hW
        clear hW
        go_upto_if 71 with fail
        have hfq : Hid (decide (T < 1099511627776) = decide (T < 1099511627776)) := Lib.hid rfl
        generalize hfar : decide (T < 1099511627776) = far
        have HF := Lib.hid hfar
        clear hfar hfq
        go_cut [] from 72 to 75 (fun W => LawW w W s ⟨op, d, n, m, e, sz, imm⟩ ba w1 SA L x1 (op == 19 || op == 22 || op == 26) (op == 20 || op == 24 || op == 28) A0 A1 b w1 SA L x1 false false 0 0)
        case first =>
          have qS := eS.out
          cases far
          · have hge : ¬ T < 1099511627776 := by simpa using HF.out
            rw [if_pos (by omega)] at qS
            have HS := Lib.hid qS
            clear qS eS
            go_wp2_with fail
            go_meet
            exact HW.out.a_eq HS.out
          · have hlt : T < 1099511627776 := by simpa using HF.out
            rw [if_neg (by omega)] at qS
            have hT0 : 0 ≤ T := hTpos.out
            have HS := Lib.hid qS
            clear qS eS
            go_wp2_with fail
            go_meet
            exact (HW.out.put (HW.out.want.set1 T)).a_eq HS.out
        case rest =>
          clear HW lz lb lw n1 n2 n3 n4 n5 n6 i0 i1 i2 i3 i4 i5 i6 c0 c1 c2 c3 c4 c5 c6 c7 z0 z1 z2 z3 z4 z5 z6 z7
          have hW := hcut
          clear hcut
          go_upto_region 12 with fail
          have hI := hW.v.ins
          unfold IAt at hI
          obtain ⟨i0, i1, i2, i3, i4, i5, i6⟩ := hI
          have hC := hW.want
          unfold Acc8 at hC
          obtain ⟨⟨c0, c1, c2, c3, c4, c5, c6, c7⟩, z0, z1, z2, z3, z4, z5, z6, z7⟩ := hC
          have lz : w.heap.size + 1 < _ := cell_lt hW.v.ins.1
          have lb : ba < _ := cell_lt hW.v.acc.1.1
          have lw : b < _ := cell_lt hW.want.1.1
          have n1 : ¬ b = w.heap.size + 1 := by have := hW.hb; omega
          have n2 : ¬ w.heap.size + 1 = b := by have := hW.hb; omega
          have n3 : ¬ b = w.heap.size := by have := hW.hb; omega
          have n4 : ¬ w.heap.size = b := by have := hW.hb; omega
          have n5 : ¬ ba = b := hW.ne
          have n6 : ¬ b = ba := fun e => hW.ne e.symm
          have HW := Lib.hid hW
          clear hW
          go_cut [] from 76 to 88 (fun W => LawW w W s ⟨op, d, n, m, e, sz, imm⟩ ba w1 SA L x1 (op == 19 || op == 22 || op == 26) (op == 20 || op == 24 || op == 28) A0 A1 b w1 SA L x1 (op == 19 || op == 22 || op == 26) false 0 0)
          case first =>
            go_wp2_with fail
            all_goals
              try subst_vars
              go_meet
              first
                | (refine askw4t HW.out ?_; omega)
                | (refine askw4f HW.out ?_; omega)
                | exact HW.out.put (HW.out.want.set4 _)
          case rest =>
            clear HW lz lb lw n1 n2 n3 n4 n5 n6 i0 i1 i2 i3 i4 i5 i6 c0 c1 c2 c3 c4 c5 c6 c7 z0 z1 z2 z3 z4 z5 z6 z7
            have hW := hcut
            clear hcut
            go_upto_region 13 with fail
            have hI := hW.v.ins
            unfold IAt at hI
            obtain ⟨i0, i1, i2, i3, i4, i5, i6⟩ := hI
            have hC := hW.want
            unfold Acc8 at hC
            obtain ⟨⟨c0, c1, c2, c3, c4, c5, c6, c7⟩, z0, z1, z2, z3, z4, z5, z6, z7⟩ := hC
            have lz : w.heap.size + 1 < _ := cell_lt hW.v.ins.1
            have lb : ba < _ := cell_lt hW.v.acc.1.1
            have lw : b < _ := cell_lt hW.want.1.1
            have n1 : ¬ b = w.heap.size + 1 := by have := hW.hb; omega
            have n2 : ¬ w.heap.size + 1 = b := by have := hW.hb; omega
            have n3 : ¬ b = w.heap.size := by have := hW.hb; omega
            have n4 : ¬ w.heap.size = b := by have := hW.hb; omega
            have n5 : ¬ ba = b := hW.ne
            have n6 : ¬ b = ba := fun e => hW.ne e.symm
            have HW := Lib.hid hW
            clear hW
            go_cut [] from 90 to 103 (fun W => LawW w W s ⟨op, d, n, m, e, sz, imm⟩ ba w1 SA L x1 (op == 19 || op == 22 || op == 26) (op == 20 || op == 24 || op == 28) A0 A1 b w1 SA L x1 (op == 19 || op == 22 || op == 26) (op == 20 || op == 24 || op == 28) 0 0)
            case first =>
              go_wp2_with fail
              all_goals
                try subst_vars
                go_meet
                first
                  | (refine askw5t HW.out ?_; omega)
                  | (refine askw5f HW.out ?_; omega)
                  | exact HW.out.put (HW.out.want.set5 _)
            case rest =>
              clear HW lz lb lw n1 n2 n3 n4 n5 n6 i0 i1 i2 i3 i4 i5 i6 c0 c1 c2 c3 c4 c5 c6 c7 z0 z1 z2 z3 z4 z5 z6 z7
              have hW := hcut
              clear hcut
              generalize (op == 19 || op == 22 || op == 26) = q1 at hW ⊢
              generalize (op == 20 || op == 24 || op == 28) = q2 at hW ⊢
              have hI := hW.v.ins
              unfold IAt at hI
              obtain ⟨i0, i1, i2, i3, i4, i5, i6⟩ := hI
              have hC := hW.want
              unfold Acc8 at hC
              obtain ⟨⟨c0, c1, c2, c3, c4, c5, c6, c7⟩, z0, z1, z2, z3, z4, z5, z6, z7⟩ := hC
              have lz : w.heap.size + 1 < _ := cell_lt hW.v.ins.1
              have lb : ba < _ := cell_lt hW.v.acc.1.1
              have lw : b < _ := cell_lt hW.want.1.1
              have n1 : ¬ b = w.heap.size + 1 := by have := hW.hb; omega
              have n2 : ¬ w.heap.size + 1 = b := by have := hW.hb; omega
              have n3 : ¬ b = w.heap.size := by have := hW.hb; omega
              have n4 : ¬ w.heap.size = b := by have := hW.hb; omega
              have n5 : ¬ ba = b := hW.ne
              have n6 : ¬ b = ba := fun e => hW.ne e.symm
              have HW := Lib.hid hW
              clear hW
              have hAA := HW.out.v.acc
              unfold Acc8 at hAA
              obtain ⟨⟨a0, a1, a2, a3, a4, a5, a6, a7⟩, -⟩ := hAA
              cases w1
              · have r0 := e0.out
                have r1 := e1.out
                simp at r0 r1
                subst r0 r1
                clear e0 e1
                go_wp2_with (go_at_call 10; refine (A.out _).mono ?_; rintro e w9 ⟨rfl, p9, rfl⟩)
                go_ret
                exact ⟨by simp, below_mo HW.out.v.below _⟩
              · have hA0 : Hid (((getX s d &&& mask (8 * L) : Nat) : Int) = A0) := Lib.hid (by
                  rw [e0.out]
                  cases hpp : paB op
                  · simp [u64_and_nat _ _ gd (mask_lt (8 * L))]
                  · simp [low_all (getX s d) gd L (by rw [hP.out.1 hpp]; omega)])
                clear e0
                go_upto_region 15 with fail
                refine wp_region_lit ?_
                refine wpList_load_st (s := s) (b := w.heap.size) (.tmp 2) rfl rfl rfl HW.out.v.st ?_
                rw [hv]
                go_frame
                go_upto_region 16 with (first
                  | (go_at_call 11; refine (X.out _ (by omega) _).mono ?_; rintro e w9 ⟨rfl, p5, rfl⟩)
                  | (go_at_call 13; refine (LO.out _).mono ?_; rintro e w9 ⟨rfl, p6, rfl⟩))
                refine wp_letter (R := fun W => LawW w W s ⟨op, d, n, m, e, sz, imm⟩ ba true SA L x1 q1 q2 A0 A1 b true SA L x1 q1 q2 A0 0) ((((HW.out.put (HW.out.want.set6 ((getX s d &&& mask (8 * L) : Nat) : Int))).more p5).more p6).d_eq hA0.out.symm rfl) ?_
                intro wz hW
                clear a0 a1 a2 a3 a4 a5 a6 a7
                clear HW lz lb lw n1 n2 n3 n4 n5 n6 i0 i1 i2 i3 i4 i5 i6 c0 c1 c2 c3 c4 c5 c6 c7 z0 z1 z2 z3 z4 z5 z6 z7
                have hI := hW.v.ins
                unfold IAt at hI
                obtain ⟨i0, i1, i2, i3, i4, i5, i6⟩ := hI
                have hC := hW.want
                unfold Acc8 at hC
                obtain ⟨⟨c0, c1, c2, c3, c4, c5, c6, c7⟩, z0, z1, z2, z3, z4, z5, z6, z7⟩ := hC
                have lz : w.heap.size + 1 < _ := cell_lt hW.v.ins.1
                have lb : ba < _ := cell_lt hW.v.acc.1.1
                have lw : b < _ := cell_lt hW.want.1.1
                have n1 : ¬ b = w.heap.size + 1 := by have := hW.hb; omega
                have n2 : ¬ w.heap.size + 1 = b := by have := hW.hb; omega
                have n3 : ¬ b = w.heap.size := by have := hW.hb; omega
                have n4 : ¬ w.heap.size = b := by have := hW.hb; omega
                have n5 : ¬ ba = b := hW.ne
                have n6 : ¬ b = ba := fun e => hW.ne e.symm
                have HW := Lib.hid hW
                clear hW
                have hAA := HW.out.v.acc
                unfold Acc8 at hAA
                obtain ⟨⟨a0, a1, a2, a3, a4, a5, a6, a7⟩, -⟩ := hAA
                have r1 := e1.out
                cases hpp : paB op
                · rw [hpp] at r1
                  simp at r1
                  subst r1
                  have hL8 := hP.out.2 hpp
                  have hL16 : (L == 16) = false := by simp; omega
                  clear e1 hpp
                  go_wp2_with (go_at_call 10; refine (A.out _).mono ?_; rintro e w9 ⟨rfl, p9, rfl⟩)
                  go_ret
                  exact ⟨by simp, below_mo HW.out.v.below _⟩
                · rw [hpp] at r1
                  simp at r1
                  have hL16 := hP.out.1 hpp
                  subst hL16
                  have HA1 := Lib.hid r1
                  clear e1 hpp r1
                  go_upto_region 17 with fail
                  refine wp_region_lit ?_
                  refine wpList_load_st (s := s) (b := w.heap.size) (.tmp 2) rfl rfl rfl HW.out.v.st ?_
                  rw [hv]
                  go_frame
                  go_upto_region 18 with (go_at_call 11; refine (X.out _ (by omega) _).mono ?_; rintro e w9 ⟨rfl, p5, rfl⟩)
                  refine wp_letter (R := fun W => LawW w W s ⟨op, d, n, m, e, sz, imm⟩ ba true SA 16 x1 q1 q2 A0 A1 b true SA 16 x1 q1 q2 A0 A1) (((HW.out.put (HW.out.want.set7 ((getX s e : Nat) : Int))).more p5).d_eq rfl HA1.out) ?_
                  intro wv hW
                  clear a0 a1 a2 a3 a4 a5 a6 a7
                  clear HW lz lb lw n1 n2 n3 n4 n5 n6 i0 i1 i2 i3 i4 i5 i6 c0 c1 c2 c3 c4 c5 c6 c7 z0 z1 z2 z3 z4 z5 z6 z7
                  have hI := hW.v.ins
                  unfold IAt at hI
                  obtain ⟨i0, i1, i2, i3, i4, i5, i6⟩ := hI
                  have hC := hW.want
                  unfold Acc8 at hC
                  obtain ⟨⟨c0, c1, c2, c3, c4, c5, c6, c7⟩, z0, z1, z2, z3, z4, z5, z6, z7⟩ := hC
                  have lz : w.heap.size + 1 < _ := cell_lt hW.v.ins.1
                  have lb : ba < _ := cell_lt hW.v.acc.1.1
                  have lw : b < _ := cell_lt hW.want.1.1
                  have n1 : ¬ b = w.heap.size + 1 := by have := hW.hb; omega
                  have n2 : ¬ w.heap.size + 1 = b := by have := hW.hb; omega
                  have n3 : ¬ b = w.heap.size := by have := hW.hb; omega
                  have n4 : ¬ w.heap.size = b := by have := hW.hb; omega
                  have n5 : ¬ ba = b := hW.ne
                  have n6 : ¬ b = ba := fun e => hW.ne e.symm
                  have HW := Lib.hid hW
                  clear hW
                  have hAA := HW.out.v.acc
                  unfold Acc8 at hAA
                  obtain ⟨⟨a0, a1, a2, a3, a4, a5, a6, a7⟩, -⟩ := hAA
                  go_wp2_with (go_at_call 10; refine (A.out _).mono ?_; rintro e w9 ⟨rfl, p9, rfl⟩)
                  go_ret
                  exact ⟨by simp, below_mo HW.out.v.below _⟩

end Go.Proofs.Ytfijppclaahkmaa
