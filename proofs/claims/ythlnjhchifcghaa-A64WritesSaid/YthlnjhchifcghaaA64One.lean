/- Walk: the instruction of an operation that a word is. No condition. -/
import Derived.Test.YthlnjhchifcghaaA64Enc
import Derived.Deep.RegionLawGrows
namespace Go.Proofs.Ythlnjhchifcghaa
open Go.RowKit Go.Sort
set_option linter.unusedVariables false
set_option linter.unusedSimpArgs false
theorem gb_true {f : Fl} {v : Nat} (h : gbF f v = true) : getF f v = some (gyF f v) := by
  unfold gbF at h
  unfold gyF
  obtain ⟨x, hx⟩ := Option.isSome_iff_exists.1 h
  rw [hx]
  rfl
theorem gb_false {f : Fl} {v : Nat} (h : gbF f v = false) : getF f v = none := by
  unfold gbF at h
  simpa using h
def OInv (w wr : World) (B R S Z : Nat) (ls : List Nat) (sb : Nat) (r : Ins) : Prop :=
  Below w.heap.size w wr ∧ B < wr.heap.size ∧ R < B ∧ S < R ∧ Z < S ∧ w.heap.size ≤ Z ∧ LetAt wr B ls ∧ InsAt wr R r ∧ InsAt wr Z (Ins.zero 0) ∧ wr.cell? ⟨S, 0, none⟩ = some (.int .u32 sb)
theorem InsAt.far {w : World} {Z : Nat} {z : Ins} (h : InsAt w Z z) {R k : Nat} (hR : R ≠ Z) (v : Value) : InsAt (w.setCell ⟨R, k, none⟩ v) Z z := fun j hj => by
  refine ⟨?_, ?_⟩
  · rw [World.cell?_setCell_other _ _ _ _ (by simp [hR])]
    exact (h j hj).1
  · rw [World.frozen?_setCell]
    exact (h j hj).2
theorem OInv.below {w wr w' : World} {B R S Z : Nat} {ls : List Nat} {sb : Nat} {r : Ins} (h : OInv w wr B R S Z ls sb r) (hb : Below wr.heap.size wr w') : OInv w w' B R S Z ls sb r := by
  obtain ⟨h1, h2, h3, h4, h5, h6, h7, h8, h9, h10⟩ := h
  exact ⟨below_next h1 hb, Nat.lt_of_lt_of_le h2 hb.size, h3, h4, h5, h6, h7.below h2 hb, h8.below (by omega) hb, h9.below (by omega) hb, (hb.cell (p := ⟨S, 0, none⟩) (by show S < wr.heap.size; omega)).trans h10⟩
theorem OInv.setc {w wr : World} {B R S Z : Nat} {ls : List Nat} {sb : Nat} {r : Ins} (h : OInv w wr B R S Z ls sb r) (k : Nat) (hk : k < 7) (x : Int) : OInv w (wr.setCell ⟨R, k, none⟩ (.int .i64 x)) B R S Z ls sb (r.set k x) := by
  obtain ⟨h1, h2, h3, h4, h5, h6, h7, h8, h9, h10⟩ := h
  refine ⟨below_st h1 (by simp; omega) _, by simpa using h2, h3, h4, h5, h6, h7.setc (by omega) _, h8.setc k hk x, h9.far (by omega) _, ?_⟩
  rw [World.cell?_setCell_other _ _ _ _ (fun e => by have := congrArg Addr.block e; simp only at this; omega)]
  exact h10
theorem oz {w wr : World} {B R S Z : Nat} {ls : List Nat} {sb : Nat} {r : Ins} (h : OInv w wr B R S Z ls sb r) :
    (wr.cell? ⟨Z, 0, none⟩ = some (.int .i64 0) ∧ wr.frozen? ⟨Z, 0, none⟩ = false) ∧ (wr.cell? ⟨Z, 1, none⟩ = some (.int .i64 0) ∧ wr.frozen? ⟨Z, 1, none⟩ = false) ∧ (wr.cell? ⟨Z, 2, none⟩ = some (.int .i64 0) ∧ wr.frozen? ⟨Z, 2, none⟩ = false) ∧
    (wr.cell? ⟨Z, 3, none⟩ = some (.int .i64 0) ∧ wr.frozen? ⟨Z, 3, none⟩ = false) ∧ (wr.cell? ⟨Z, 4, none⟩ = some (.int .i64 0) ∧ wr.frozen? ⟨Z, 4, none⟩ = false) ∧ (wr.cell? ⟨Z, 5, none⟩ = some (.int .i64 0) ∧ wr.frozen? ⟨Z, 5, none⟩ = false) ∧ (wr.cell? ⟨Z, 6, none⟩ = some (.int .i64 0) ∧ wr.frozen? ⟨Z, 6, none⟩ = false) := by
  obtain ⟨h1, h2, h3, h4, h5, h6, h7, h8, h9, h10⟩ := h
  exact ⟨h9 0 (by omega), h9 1 (by omega), h9 2 (by omega), h9 3 (by omega), h9 4 (by omega), h9 5 (by omega), h9 6 (by omega)⟩
theorem InsAt.set7 {X : World} {Z : Nat} {z : Ins} (h : InsAt X Z z) (r0 r1 r2 r3 r4 r5 r6 : Int) : InsAt (((((((X.setCell ⟨Z, 0, none⟩ (.int .i64 r0)).setCell ⟨Z, 1, none⟩ (.int .i64 r1)).setCell ⟨Z, 2, none⟩ (.int .i64 r2)).setCell ⟨Z, 3, none⟩ (.int .i64 r3)).setCell ⟨Z, 4, none⟩ (.int .i64 r4)).setCell ⟨Z, 5, none⟩ (.int .i64 r5)).setCell ⟨Z, 6, none⟩ (.int .i64 r6)) Z ⟨r0, r1, r2, r3, r4, r5, r6⟩ :=
  ((((((h.setc 0 (by omega) r0).setc 1 (by omega) r1).setc 2 (by omega) r2).setc 3 (by omega) r3).setc 4 (by omega) r4).setc 5 (by omega) r5).setc 6 (by omega) r6
def OneGives (W : World) (op : Int) (w : Nat) (e : Ending) (W' : World) : Prop :=
  ∃ (r : Ins) (b : Bool), e = .returned (.tuple #[.agg #[.int .i64 r.op, .int .i64 r.d, .int .i64 r.n, .int .i64 r.m, .int .i64 r.e, .int .i64 r.sz, .int .i64 r.imm], .bool b]) ∧ (decOne op w = if b = true then some r else none) ∧ ∃ p : Regrown, W' = more W p
theorem OneGives.mk_ {W W' : World} {op : Int} {w : Nat} {e : Ending} (r : Ins) (b : Bool) (he : e = .returned (.tuple #[.agg #[.int .i64 r.op, .int .i64 r.d, .int .i64 r.n, .int .i64 r.m, .int .i64 r.e, .int .i64 r.sz, .int .i64 r.imm], .bool b])) (h : decOne op w = if b = true then some r else none) (hb : Below W.heap.size W W') : OneGives W op w e W' :=
  ⟨r, b, he, h, more_of_below hb⟩
set_option maxHeartbeats 1000000 in
theorem one_any (op : Int) (w : Nat) (hw : w < 4294967296) (W : World) : Calls Try.prog 20 #[.int .i64 op, .int .u32 w] W (OneGives W op w) := by
  have HD : Hid (decOne op w = match decL w (baseN op) (fls op) (Ins.zero op) w with
    | some (out, b) => if b = baseN op then some out else none
    | none => none) := Lib.hid rfl
  have O := Lib.hid (fun W => of_any op W)
  have hls := lets_ok op
  have hl4 := lets_len op
  have hsb := base_lt op
  have HL : Hid (fls op = (lets op).filterMap fl) := Lib.hid rfl
  generalize hdo : decOne op w = D at HD
  have HDO := Lib.hid hdo
  clear hdo
  generalize baseN op = sb at *
  generalize lets op = ls at *
  have HLS := Lib.hid hls
  go_enter Try.func20, Try.ntmps20
  go_wp2_with (first | (go_at_call 11; refine (O.out _).mono ?_; rintro e w1 ⟨rfl, p1, rfl⟩))
  obtain ⟨cp, wb, hrun, hbel, hsz, hlet⟩ := conv_any (((more (W.alloc (.cells #[.int .i64 0, .int .i64 0, .int .i64 0, .int .i64 0, .int .i64 0, .int .i64 0, .int .i64 0] 23)) p1).alloc (.cells #[.int .u32 sb, .string (strB ls)] 39)).alloc (.cells #[.int .i64 op, .int .i64 0, .int .i64 0, .int .i64 0, .int .i64 0, .int .i64 0, .int .i64 0] 23)) (W.heap.size + 1 + p1.os.size + 1 + 1) (by simp [go_sem]) ls (fun c hc => (HLS.out c hc).1)
  have hinv : OInv W wb (W.heap.size + 1 + p1.os.size + 1 + 1) (W.heap.size + 1 + p1.os.size + 1) (W.heap.size + 1 + p1.os.size) W.heap.size ls sb (Ins.zero op) := by
    have hin : InsAt (((more (W.alloc (.cells #[.int .i64 0, .int .i64 0, .int .i64 0, .int .i64 0, .int .i64 0, .int .i64 0, .int .i64 0] 23)) p1).alloc (.cells #[.int .u32 sb, .string (strB ls)] 39)).alloc (.cells #[.int .i64 op, .int .i64 0, .int .i64 0, .int .i64 0, .int .i64 0, .int .i64 0, .int .i64 0] 23)) (W.heap.size + 1 + p1.os.size + 1) (Ins.zero op) := fun k hk => by
      match k, hk with
      | 0, _ | 1, _ | 2, _ | 3, _ | 4, _ | 5, _ | 6, _ => simp [go_sem, Ins.get, Ins.zero]
    have hin2 : InsAt (((more (W.alloc (.cells #[.int .i64 0, .int .i64 0, .int .i64 0, .int .i64 0, .int .i64 0, .int .i64 0, .int .i64 0] 23)) p1).alloc (.cells #[.int .u32 sb, .string (strB ls)] 39)).alloc (.cells #[.int .i64 op, .int .i64 0, .int .i64 0, .int .i64 0, .int .i64 0, .int .i64 0, .int .i64 0] 23)) W.heap.size (Ins.zero 0) := fun k hk => by
      match k, hk with
      | 0, _ | 1, _ | 2, _ | 3, _ | 4, _ | 5, _ | 6, _ => simp [go_sem, Ins.get, Ins.zero, (show W.heap.size < W.heap.size + 1 + p1.os.size by omega), (show W.heap.size < W.heap.size + 1 + p1.os.size + 1 by omega)]
    refine ⟨?_, by omega, by omega, by omega, by omega, by omega, hlet, hin.below (by simp [go_sem]) hbel, hin2.below (by simp [go_sem]; omega) hbel, ?_⟩
    · exact below_next (by repeat (first | exact Below.refl _ _ | refine below_mo ?_ _ | refine below_al ?_ _)) hbel
    · refine (hbel.cell (p := ⟨W.heap.size + 1 + p1.os.size, 0, none⟩) (by simp [go_sem])).trans ?_
      simp [go_sem]
  have HINV := Lib.hid hinv
  clear hinv hbel hlet hsz
  rw [hrun]
  clear hrun
  generalize W.heap.size + 1 + p1.os.size + 1 + 1 = B at *
  generalize W.heap.size + 1 + p1.os.size + 1 = R at *
  generalize hS : W.heap.size + 1 + p1.os.size = S at *
  generalize hZ : W.heap.size = Z at *
  have hZS : Z < S := by omega
  clear hS hZ
  go_wp2_with fail
  go_loopw [8, 23] (fun v8 v23 wr => ∃ (k b : Nat) (r : Ins), k ≤ ls.length ∧ v23 = .int .i64 k ∧ v8 = .int .u32 b ∧ b < 4294967296 ∧ OInv W wr B R S Z ls sb r ∧ decL w sb (fls op) (Ins.zero op) w = decL w sb ((ls.drop k).filterMap fl) r b) (fun _ v23 _ => ls.length - (intOf v23).toNat)
  case atStart => exact ⟨0, w, Ins.zero op, by omega, rfl, rfl, hw, HINV.out, by rw [HL.out]; rfl⟩
  case round =>
    obtain ⟨k, b, r, hk, rfl, rfl, hb, hinv, hrun⟩ := hrel
    have HV2 := Lib.hid hinv
    have HRUN := Lib.hid hrun
    obtain ⟨i1, i2, i3, i4, i5, i5', i6, i7, i8, i9⟩ := hinv
    clear hrun i1
    have z0 := (i8 0 (by omega)).2
    have z1 := (i8 1 (by omega)).2
    have z2 := (i8 2 (by omega)).2
    have z3 := (i8 3 (by omega)).2
    have z4 := (i8 4 (by omega)).2
    have z5 := (i8 5 (by omega)).2
    have z6 := (i8 6 (by omega)).2
    have y0 : wr.cell? ⟨Z, 0, none⟩ = some (.int .i64 0) := (i8 0 (by omega)).1
    have y1 : wr.cell? ⟨Z, 1, none⟩ = some (.int .i64 0) := (i8 1 (by omega)).1
    have y2 : wr.cell? ⟨Z, 2, none⟩ = some (.int .i64 0) := (i8 2 (by omega)).1
    have y3 : wr.cell? ⟨Z, 3, none⟩ = some (.int .i64 0) := (i8 3 (by omega)).1
    have y4 : wr.cell? ⟨Z, 4, none⟩ = some (.int .i64 0) := (i8 4 (by omega)).1
    have y5 : wr.cell? ⟨Z, 5, none⟩ = some (.int .i64 0) := (i8 5 (by omega)).1
    have y6 : wr.cell? ⟨Z, 6, none⟩ = some (.int .i64 0) := (i8 6 (by omega)).1
    have hZr : Z < wr.heap.size := by omega
    have hSr : S < wr.heap.size := by omega
    have hRr : R < wr.heap.size := by omega
    have hZR : Z < R := by omega
    clear i8
    by_cases hlt : (k : Int) < ls.length
    · obtain ⟨c, hc⟩ := get_some' ls k (by omega)
      have hcell := i6 k c hc
      obtain ⟨hc256, hcf⟩ := HLS.out c (List.mem_of_getElem? hc)
      by_cases hz : c = 122
      · subst hz
        have hz2 := filter_z hc rfl
        have HZ := Lib.hid hz2
        clear hz2 hcf i6 i7 z0 z1 z2 z3 z4 z5 z6 y0 y1 y2 y3 y4 y5 y6
        go_wp2_with fail
        go_roundw
        case rel => exact ⟨k + 1, b, r, by omega, by go_num, rfl, hb, HV2.out.below (by repeat (first | exact Below.refl _ _ | refine below_mo ?_ _ | refine below_al ?_ _)), by rw [HRUN.out, HZ.out]⟩
        case measure => simp [intOf]; omega
      · obtain ⟨f, hf⟩ := hcf.resolve_left hz
        have hok := fl_ok c f hf
        have hz1 : ((c : Int) == 122) = false := by simp; omega
        have hidx := hok.idx
        have hcr := (i7 f.idx hidx.2).1
        have hfr := (i7 f.idx hidx.2).2
        have HF := Lib.hid (filter_f hc hf)
        have HOK := Lib.hid hok
        have PL := Lib.hid (fun W => place_any c f hf W)
        have AT := Lib.hid (fun b W => at_any c f hf b W)
        have GE := Lib.hid (fun W => get_any c f hf w hw W)
        have MA := Lib.hid (fun W => mask_any c f hf W)
        have GT := Lib.hid (@gb_true f (w / 2 ^ f.lo % 2 ^ f.n))
        have GF := Lib.hid (@gb_false f (w / 2 ^ f.lo % 2 ^ f.n))
        have HSTEP : Hid (∀ l out b, decL w sb (f :: l) out b = match getF f (w / 2 ^ f.lo % 2 ^ f.n) with
          | some x => decL w sb l (out.set f.idx x) (ovr b f.lo f.n (sb / 2 ^ f.lo % 2 ^ f.n))
          | none => none) := Lib.hid (fun l out b => rfl)
        generalize w / 2 ^ f.lo % 2 ^ f.n = v at *
        generalize gyF f v = y at *
        clear hok i6 i7 hf hcf
        generalize (f.lo : Int) = q0 at *
        generalize (f.n : Int) = q1 at *
        generalize (f.kd == 1) = q2 at *
        generalize (if f.kd = 2 then (1 : Int) else 0) = q3 at *
        generalize (f.most : Int) = q4 at *
        cases hg : gbF f v
        · rw [hg] at GE
          have e1 : D = none := by
            have h1 := HD.out
            rw [HRUN.out, HF.out, HSTEP.out, GF.out hg] at h1
            exact h1
          have HE := Lib.hid e1
          clear e1 HD HRUN HSTEP GT GF MA
          go_wp2_with (first
            | (go_at_call 12; refine (PL.out _).mono ?_; rintro e w1 ⟨rfl, p2, rfl⟩)
            | (go_at_call 25; refine (GE.out _).mono ?_; rintro e X ⟨rfl, hX⟩; have hX2 := Lib.hid (HV2.out.below (w' := X) (by obtain ⟨p, rfl⟩ := hX; repeat (first | exact Below.refl _ _ | refine below_mo ?_ _ | refine below_al ?_ _))); have hXs : wr.heap.size ≤ X.heap.size := (by obtain ⟨p, rfl⟩ := hX; simp [go_sem]; omega); clear hX; obtain ⟨x0, x1, x2, x3, x4, x5, x6⟩ := oz hX2.out; clear hcr hfr hcell z0 z1 z2 z3 z4 z5 z6 y0 y1 y2 y3 y4 y5 y6 i9))
          generalize hX7 : (((((((X.setCell ⟨Z, 0, none⟩ (.int .i64 0)).setCell ⟨Z, 1, none⟩ (.int .i64 0)).setCell ⟨Z, 2, none⟩ (.int .i64 0)).setCell ⟨Z, 3, none⟩ (.int .i64 0)).setCell ⟨Z, 4, none⟩ (.int .i64 0)).setCell ⟨Z, 5, none⟩ (.int .i64 0)).setCell ⟨Z, 6, none⟩ (.int .i64 0)) = X7
          have hI7 : InsAt X7 Z ⟨0, 0, 0, 0, 0, 0, 0⟩ := by rw [← hX7]; exact InsAt.set7 hX2.out.2.2.2.2.2.2.2.2.1 0 0 0 0 0 0 0
          have q0 : X7.cell? ⟨Z, 0, none⟩ = some (.int .i64 0) := (hI7 0 (by omega)).1
          have q1 : X7.cell? ⟨Z, 1, none⟩ = some (.int .i64 0) := (hI7 1 (by omega)).1
          have q2 : X7.cell? ⟨Z, 2, none⟩ = some (.int .i64 0) := (hI7 2 (by omega)).1
          have q3 : X7.cell? ⟨Z, 3, none⟩ = some (.int .i64 0) := (hI7 3 (by omega)).1
          have q4 : X7.cell? ⟨Z, 4, none⟩ = some (.int .i64 0) := (hI7 4 (by omega)).1
          have q5 : X7.cell? ⟨Z, 5, none⟩ = some (.int .i64 0) := (hI7 5 (by omega)).1
          have q6 : X7.cell? ⟨Z, 6, none⟩ = some (.int .i64 0) := (hI7 6 (by omega)).1
          have hB7 := Lib.hid (show Below W.heap.size W X7 by rw [← hX7]; exact below_st (below_st (below_st (below_st (below_st (below_st (below_st hX2.out.1 i5' _) i5' _) i5' _) i5' _) i5' _) i5' _) i5' _)
          clear hX7 hI7
          (try simp only [Exit.inBlock, Exit.then])
          refine bodyPost_ret (by simp [results, Try.results20, go_sem, q0, q1, q2, q3, q4, q5, q6]; try rfl) rfl ?_
          exact OneGives.mk_ (Ins.zero 0) false rfl (by rw [HDO.out, HE.out]; rfl) hB7.out
        · rw [hg] at GE
          have HG := Lib.hid (GT.out hg)
          generalize hmk : mskN f = mk at *
          have HMK := Lib.hid hmk
          clear GT GF hmk
          go_wp2_with (first
            | (go_at_call 12; refine (PL.out _).mono ?_; rintro e w1 ⟨rfl, p2, rfl⟩)
            | (go_at_call 25; refine (GE.out _).mono ?_; rintro e w1 ⟨rfl, p3, rfl⟩)
            | (go_at_call 13; refine (AT.out _ _).mono ?_; rintro e w1 ⟨rfl, p4, rfl⟩))
          refine wp_quiet_more (by kernel_rfl) (by kernel_rfl) ?_
          repeat (go_big_quiet_step (first | (go_at_call 15; exact quiet_more (MA.out _))))
          refine wpQuiet_nil ?_
          intro p5
          go_wp2_with fail
          have hov : bits .or .u32 (bits .andNot .u32 (b : Int) (mk : Int)) (bits .and .u32 (sb : Int) (mk : Int)) = ((ovr b f.lo f.n (sb / 2 ^ f.lo % 2 ^ f.n) : Nat) : Int) := by
            rw [← HMK.out]
            exact over_base HOK.out hb hsb
          rw [hov]
          go_roundw
          case rel =>
            refine ⟨k + 1, _, r.set f.idx y, by omega, by go_num, rfl, ovr_lt hb (Nat.mod_lt _ (Nat.two_pow_pos _)) HOK.out.hi, (HV2.out.setc f.idx hidx.2 y).below (by repeat (first | exact Below.refl _ _ | refine below_mo ?_ _ | refine below_al ?_ _)), ?_⟩
            rw [HRUN.out, HF.out, HSTEP.out, HG.out]
          case measure => simp [intOf]; omega
    · have hd : ls.drop k = [] := by rw [List.drop_eq_nil_iff]; omega
      have hend : D = if b = sb then some r else none := by
        have h1 := HD.out
        rw [HRUN.out, hd] at h1
        exact h1
      obtain ⟨r0, r1, r2, r3, r4, r5, r6⟩ := r
      have c0 : wr.cell? ⟨R, 0, none⟩ = some (.int .i64 r0) := (i7 0 (by omega)).1
      have c1 : wr.cell? ⟨R, 1, none⟩ = some (.int .i64 r1) := (i7 1 (by omega)).1
      have c2 : wr.cell? ⟨R, 2, none⟩ = some (.int .i64 r2) := (i7 2 (by omega)).1
      have c3 : wr.cell? ⟨R, 3, none⟩ = some (.int .i64 r3) := (i7 3 (by omega)).1
      have c4 : wr.cell? ⟨R, 4, none⟩ = some (.int .i64 r4) := (i7 4 (by omega)).1
      have c5 : wr.cell? ⟨R, 5, none⟩ = some (.int .i64 r5) := (i7 5 (by omega)).1
      have c6 : wr.cell? ⟨R, 6, none⟩ = some (.int .i64 r6) := (i7 6 (by omega)).1
      have hne : ¬ R = Z := by omega
      have hne2 : ¬ S = Z := by omega
      have HEND := Lib.hid hend
      clear i7 HD HRUN hls i6 hend
      by_cases hbs : b = sb
      all_goals
        first | (have hq : ((b : Int) == (sb : Int)) = true := by simp; omega) | (have hq : ((b : Int) == (sb : Int)) = false := by simp; omega)
        go_wp2_with fail
        go_region_law (fail)
        all_goals
          go_wp2_with fail
          generalize hX7 : (((((((wr.setCell ⟨Z, 0, none⟩ (.int .i64 r0)).setCell ⟨Z, 1, none⟩ (.int .i64 r1)).setCell ⟨Z, 2, none⟩ (.int .i64 r2)).setCell ⟨Z, 3, none⟩ (.int .i64 r3)).setCell ⟨Z, 4, none⟩ (.int .i64 r4)).setCell ⟨Z, 5, none⟩ (.int .i64 r5)).setCell ⟨Z, 6, none⟩ (.int .i64 r6)) = X7
          have hI7 : InsAt X7 Z ⟨r0, r1, r2, r3, r4, r5, r6⟩ := by rw [← hX7]; exact InsAt.set7 HV2.out.2.2.2.2.2.2.2.2.1 r0 r1 r2 r3 r4 r5 r6
          have q0 : X7.cell? ⟨Z, 0, none⟩ = some (.int .i64 r0) := (hI7 0 (by omega)).1
          have q1 : X7.cell? ⟨Z, 1, none⟩ = some (.int .i64 r1) := (hI7 1 (by omega)).1
          have q2 : X7.cell? ⟨Z, 2, none⟩ = some (.int .i64 r2) := (hI7 2 (by omega)).1
          have q3 : X7.cell? ⟨Z, 3, none⟩ = some (.int .i64 r3) := (hI7 3 (by omega)).1
          have q4 : X7.cell? ⟨Z, 4, none⟩ = some (.int .i64 r4) := (hI7 4 (by omega)).1
          have q5 : X7.cell? ⟨Z, 5, none⟩ = some (.int .i64 r5) := (hI7 5 (by omega)).1
          have q6 : X7.cell? ⟨Z, 6, none⟩ = some (.int .i64 r6) := (hI7 6 (by omega)).1
          have hB7 := Lib.hid (show Below W.heap.size W X7 by rw [← hX7]; exact below_st (below_st (below_st (below_st (below_st (below_st (below_st HV2.out.1 i5' _) i5' _) i5' _) i5' _) i5' _) i5' _) i5' _)
          clear hX7 hI7
          (try simp only [Exit.inBlock, Exit.then])
          refine bodyPost_ret (by simp [results, Try.results20, go_sem, q0, q1, q2, q3, q4, q5, q6]; try rfl) rfl ?_
          first
            | exact OneGives.mk_ ⟨r0, r1, r2, r3, r4, r5, r6⟩ true (by simp [hq]) (by rw [HDO.out, HEND.out, if_pos hbs]; rfl) (below_dr hB7.out)
            | exact OneGives.mk_ ⟨r0, r1, r2, r3, r4, r5, r6⟩ false (by simp [hq]) (by rw [HDO.out, HEND.out, if_neg hbs]; rfl) (below_dr hB7.out)
end Go.Proofs.Ythlnjhchifcghaa
