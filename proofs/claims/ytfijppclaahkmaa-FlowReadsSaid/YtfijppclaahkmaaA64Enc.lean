/- Walk: an instruction as a word. No condition but the numbers' bounds. -/
import Derived.Test.YtfijppclaahkmaaA64Put
import Derived.Test.YtfijppclaahkmaaA64Conv
namespace Go.Proofs.Ytfijppclaahkmaa
open Go.RowKit Go.Sort
set_option linter.unusedVariables false
set_option linter.unusedSimpArgs false
def rngI (x : Int) : Prop := -9223372036854775808 ≤ x ∧ x ≤ 9223372036854775807
def Ins.rng (r : Ins) : Prop := ∀ k, k < 7 → rngI (r.get k)
theorem Ins.rng_set {r : Ins} (h : r.rng) (k : Nat) (hk : k < 7) {x : Int} (hx : rngI x) : (r.set k x).rng := fun j hj => by
  rw [Ins.get_set _ _ _ _ hk hj]
  split
  · exact hx
  · exact h j hj
/-- an instruction lies in a block. -/
def InsAt (w : World) (R : Nat) (r : Ins) : Prop := ∀ k, k < 7 → w.cell? ⟨R, k, none⟩ = some (.int .i64 (r.get k)) ∧ w.frozen? ⟨R, k, none⟩ = false
theorem InsAt.below {w w' : World} {R : Nat} {r : Ins} (h : InsAt w R r) (hR : R < w.heap.size) (hb : Below w.heap.size w w') : InsAt w' R r := fun k hk =>
  ⟨(hb.cell (p := ⟨R, k, none⟩) hR).trans (h k hk).1, (hb.frozen (p := ⟨R, k, none⟩) hR).trans (h k hk).2⟩
theorem InsAt.setc {w : World} {R : Nat} {r : Ins} (h : InsAt w R r) (k : Nat) (hk : k < 7) (x : Int) : InsAt (w.setCell ⟨R, k, none⟩ (.int .i64 x)) R (r.set k x) := fun j hj => by
  refine ⟨?_, ?_⟩
  · rw [Ins.get_set _ _ _ _ hk hj]
    by_cases e : k = j
    · subst e
      rw [if_pos rfl]
      exact World.cell?_setCell_same _ _ _ (h k hk).1
    · rw [if_neg e, World.cell?_setCell_other _ _ _ _ (by simp [e])]
      exact (h j hj).1
  · rw [World.frozen?_setCell]
    exact (h j hj).2
/-- letters lie in a block. -/
def LetAt (w : World) (B : Nat) (ls : List Nat) : Prop := ∀ (j x : Nat), ls[j]? = some x → w.cell? ⟨B, j, none⟩ = some (.int .u8 x)
theorem LetAt.below {w w' : World} {B : Nat} {ls : List Nat} (h : LetAt w B ls) (hB : B < w.heap.size) (hb : Below w.heap.size w w') : LetAt w' B ls := fun j x hx =>
  (hb.cell (p := ⟨B, j, none⟩) hB).trans (h j x hx)
theorem LetAt.setc {w : World} {B : Nat} {ls : List Nat} (h : LetAt w B ls) {R k : Nat} (hR : R ≠ B) (v : Value) : LetAt (w.setCell ⟨R, k, none⟩ v) B ls := fun j x hx => by
  rw [World.cell?_setCell_other _ _ _ _ (by simp [hR])]
  exact h j x hx
theorem lets_fl : (List.range 33).all (fun k => (lets k).all (fun c => decide (c < 256) && (c == 122 || (fl c).isSome))) = true := by decide +kernel
theorem lets_ok (op : Int) : ∀ c ∈ lets op, c < 256 ∧ (c = 122 ∨ ∃ f, fl c = some f) := by
  intro c hc
  have h := lets_in (List.ne_nil_of_mem hc)
  have h2 := List.all_eq_true.1 lets_fl op.toNat (List.mem_range.2 (by omega))
  have e : (op.toNat : Int) = op := by omega
  rw [e] at h2
  have h3 := List.all_eq_true.1 h2 c hc
  simp only [Bool.and_eq_true, decide_eq_true_eq, Bool.or_eq_true, beq_iff_eq] at h3
  exact ⟨h3.1, h3.2.imp id fun h => Option.isSome_iff_exists.1 h⟩
theorem lets_len_all : (List.range 33).all (fun k => decide ((lets k).length ≤ 4)) = true := by decide +kernel
theorem lets_len (op : Int) : (lets op).length ≤ 4 := by
  by_cases h : lets op = []
  · rw [h]; simp
  · have h := lets_in h
    have h2 := List.all_eq_true.1 lets_len_all op.toNat (List.mem_range.2 (by omega))
    have e : (op.toNat : Int) = op := by omega
    rw [e] at h2
    simpa using h2
theorem strB_none {ls : List Nat} (h : ls ≠ []) : (strB ls).toList.isEmpty = false := by
  rw [ByteArray.toList_eq]
  unfold strB
  cases ls with
  | nil => exact absurd rfl h
  | cons a l => rfl
theorem filter_z {ls : List Nat} {k c : Nat} (h : ls[k]? = some c) (hc : fl c = none) : (ls.drop k).filterMap fl = (ls.drop (k + 1)).filterMap fl := by
  obtain ⟨hlt, e⟩ := List.getElem?_eq_some_iff.mp h
  rw [List.drop_eq_getElem_cons hlt, List.filterMap_cons, e, hc]
theorem filter_f {ls : List Nat} {k c : Nat} {f : Fl} (h : ls[k]? = some c) (hc : fl c = some f) : (ls.drop k).filterMap fl = f :: (ls.drop (k + 1)).filterMap fl := by
  obtain ⟨hlt, e⟩ := List.getElem?_eq_some_iff.mp h
  rw [List.drop_eq_getElem_cons hlt, List.filterMap_cons, e, hc]
theorem get_some' {α : Type} (l : List α) (k : Nat) (h : k < l.length) : ∃ x, l[k]? = some x := ⟨l[k], List.getElem?_eq_getElem h⟩
def EInv (w wr : World) (B R : Nat) (ls : List Nat) (op : Int) (r : Ins) : Prop :=
  Below w.heap.size w wr ∧ B < wr.heap.size ∧ R < B ∧ w.heap.size < R ∧ LetAt wr B ls ∧ InsAt wr R r ∧ wr.cell? ⟨w.heap.size, 0, none⟩ = some (.int .i64 op)
theorem EInv.below {w wr w' : World} {B R : Nat} {ls : List Nat} {op : Int} {r : Ins} (h : EInv w wr B R ls op r) (hb : Below wr.heap.size wr w') : EInv w w' B R ls op r := by
  obtain ⟨h1, h2, h3, h4, h5, h6, h7⟩ := h
  exact ⟨below_next h1 hb, Nat.lt_of_lt_of_le h2 hb.size, h3, h4, h5.below h2 hb, h6.below (by omega) hb, (hb.cell (p := ⟨w.heap.size, 0, none⟩) (by show w.heap.size < wr.heap.size; omega)).trans h7⟩
theorem EInv.setc {w wr : World} {B R : Nat} {ls : List Nat} {op : Int} {r : Ins} (h : EInv w wr B R ls op r) (k : Nat) (hk : k < 7) (x : Int) : EInv w (wr.setCell ⟨R, k, none⟩ (.int .i64 x)) B R ls op (r.set k x) := by
  obtain ⟨h1, h2, h3, h4, h5, h6, h7⟩ := h
  refine ⟨below_st h1 (by simp; omega) _, by simpa using h2, h3, h4, h5.setc (by omega) _, h6.setc k hk x, ?_⟩
  rw [World.cell?_setCell_other _ _ _ _ (fun e => by have := congrArg Addr.block e; simp only at this; omega)]
  exact h7
set_option maxHeartbeats 1000000 in
theorem encode_any (i : Ins) (hi : i.rng) (w : World) : Calls Try.prog 37 #[.agg #[.int .i64 i.op, .int .i64 i.d, .int .i64 i.n, .int .i64 i.m, .int .i64 i.e, .int .i64 i.sz, .int .i64 i.imm]] w
    (Gives w (.tuple #[.int .u32 (((enc i).getD 0 : Nat) : Int), .int .i64 (if (enc i).isSome then 0 else 2)])) := by
  have HI := Lib.hid hi
  have HN : Hid (enc i = enc i) := Lib.hid rfl
  have H0 : Hid (lets i.op ≠ [] → enc i = match encL (fls i.op) (baseN i.op) i with
    | some (w, r) => if restB i.op r = true then some w else none
    | none => none) := Lib.hid (fun h => (if_neg h : enc i = _).trans rfl)
  have H1 : Hid (lets i.op = [] → enc i = none) := Lib.hid (fun h => by unfold enc; rw [if_pos h])
  have O := Lib.hid (fun W => of_any i.op W)
  have hls := lets_ok i.op
  have hl4 := lets_len i.op
  have HB := Lib.hid (base_lt i.op)
  have HL : Hid (fls i.op = (lets i.op).filterMap fl) := Lib.hid rfl
  generalize hV : (((enc i).getD 0 : Nat) : Int) = V
  generalize hE : (if (enc i).isSome then (0 : Int) else 2) = E
  have HV := Lib.hid hV
  have HE := Lib.hid hE
  clear hi hV hE HN
  generalize baseN i.op = b at *
  generalize lets i.op = ls at *
  by_cases hn : ls = []
  · have e := H1.out hn
    rw [e] at HV HE
    have v1 := HV.out
    have e1 := HE.out
    simp at v1 e1
    subst v1 e1 hn
    clear H0 H1 HL HV HE
    obtain ⟨op, d, n, m, e, sz, imm⟩ := i
    simp only at O ⊢
    have hs : (strB []).toList.isEmpty = true := by rw [ByteArray.toList_eq]; rfl
    go_enter Try.func37, Try.ntmps37
    go_wp2_with (first | (go_at_call 42; refine (O.out _).mono ?_; rintro e w1 ⟨rfl, p1, rfl⟩))
    go_ret2
    exact Gives.mk rfl (by repeat (first | exact Below.refl _ _ | refine below_mo ?_ _ | refine below_al ?_ _))
  · have HC := H0.out hn
    have hs := strB_none hn
    have HLS := Lib.hid hls
    clear H0 H1
    obtain ⟨op, d, n, m, e, sz, imm⟩ := i
    simp only at O HC HB HL ⊢
    go_enter Try.func37, Try.ntmps37
    go_wp2_with (first | (go_at_call 42; refine (O.out _).mono ?_; rintro e w1 ⟨rfl, p1, rfl⟩))
    obtain ⟨cp, wb, hrun, hbel, hsz, hlet⟩ := conv_any (((more (w.alloc (.cells #[.int .i64 op, .int .i64 d, .int .i64 n, .int .i64 m, .int .i64 e, .int .i64 sz, .int .i64 imm] 29)) p1).alloc (.cells #[.int .u32 b, .string (strB ls)] 77)).alloc (.cells #[.int .i64 op, .int .i64 d, .int .i64 n, .int .i64 m, .int .i64 e, .int .i64 sz, .int .i64 imm] 29)) (w.heap.size + 1 + p1.os.size + 1 + 1) (by simp [go_sem]) ls (fun c hc => (HLS.out c hc).1)
    have hinv : EInv w wb (w.heap.size + 1 + p1.os.size + 1 + 1) (w.heap.size + 1 + p1.os.size + 1) ls op ⟨op, d, n, m, e, sz, imm⟩ := by
      have hin : InsAt (((more (w.alloc (.cells #[.int .i64 op, .int .i64 d, .int .i64 n, .int .i64 m, .int .i64 e, .int .i64 sz, .int .i64 imm] 29)) p1).alloc (.cells #[.int .u32 b, .string (strB ls)] 77)).alloc (.cells #[.int .i64 op, .int .i64 d, .int .i64 n, .int .i64 m, .int .i64 e, .int .i64 sz, .int .i64 imm] 29)) (w.heap.size + 1 + p1.os.size + 1) ⟨op, d, n, m, e, sz, imm⟩ := fun k hk => by
        match k, hk with
        | 0, _ | 1, _ | 2, _ | 3, _ | 4, _ | 5, _ | 6, _ => simp [go_sem, Ins.get]
      refine ⟨?_, by omega, by omega, by omega, hlet, hin.below (by simp [go_sem]) hbel, ?_⟩
      · exact below_next (by repeat (first | exact Below.refl _ _ | refine below_mo ?_ _ | refine below_al ?_ _)) hbel
      · refine (hbel.cell (p := ⟨w.heap.size, 0, none⟩) (by simp [go_sem]; omega)).trans ?_
        simp [go_sem, (show w.heap.size < w.heap.size + 1 + p1.os.size by omega), (show w.heap.size < w.heap.size + 1 + p1.os.size + 1 by omega)]
    have HINV := Lib.hid hinv
    clear hinv hbel hlet hsz
    rw [hrun]
    clear hrun
    generalize w.heap.size + 1 + p1.os.size + 1 + 1 = B at *
    generalize hR : w.heap.size + 1 + p1.os.size + 1 = R at *
    have hwR : w.heap.size < R := by omega
    clear hR
    go_wp2_with fail
    go_loopw [5, 24] (fun v5 v24 wr => ∃ (k W : Nat) (r : Ins), k ≤ ls.length ∧ v24 = .int .i64 k ∧ v5 = .int .u32 W ∧ W < 4294967296 ∧ r.rng ∧ EInv w wr B R ls op r ∧ encL (fls op) b ⟨op, d, n, m, e, sz, imm⟩ = encL ((ls.drop k).filterMap fl) W r) (fun _ v24 _ => ls.length - (intOf v24).toNat)
    case atStart => exact ⟨0, b, ⟨op, d, n, m, e, sz, imm⟩, by omega, rfl, rfl, HB.out, HI.out, HINV.out, by rw [HL.out]; rfl⟩
    case round =>
      obtain ⟨k, W, r, hk, rfl, rfl, hW, hrr, hinv, hrun⟩ := hrel
      have HV2 := Lib.hid hinv
      have HRUN := Lib.hid hrun
      have HRR := Lib.hid hrr
      obtain ⟨i1, i2, i3, i4, i5, i6, i7⟩ := hinv
      clear hrun hrr i1
      by_cases hlt : (k : Int) < ls.length
      · obtain ⟨c, hc⟩ := get_some' ls k (by omega)
        have hcell := i5 k c hc
        obtain ⟨hc256, hcf⟩ := HLS.out c (List.mem_of_getElem? hc)
        by_cases hz : c = 122
        · subst hz
          have hz2 := filter_z hc rfl
          have HZ := Lib.hid hz2
          clear hz2 hcf i5 i6
          go_wp2_with fail
          go_roundw
          case rel => exact ⟨k + 1, W, r, by omega, by go_num, rfl, hW, HRR.out, HV2.out.below (by repeat (first | exact Below.refl _ _ | refine below_mo ?_ _ | refine below_al ?_ _)), by rw [HRUN.out, HZ.out]⟩
          case measure => simp [intOf]; omega
        · obtain ⟨f, hf⟩ := hcf.resolve_left hz
          have hok := fl_ok c f hf
          have hz1 : ((c : Int) == 122) = false := by simp; omega
          have hidx := hok.idx
          have hcr := (i6 f.idx hidx.2).1
          have hfr := (i6 f.idx hidx.2).2
          have hxr := HRR.out f.idx hidx.2
          have HF := Lib.hid (filter_f hc hf)
          have HOK := Lib.hid hok
          have PL := Lib.hid (fun W => place_any c f hf W)
          have AT := Lib.hid (fun b W => at_any c f hf b W)
          have FI := Lib.hid (fun W => fits_any c f hf (r.get f.idx) hxr W)
          have MA := Lib.hid (fun W => mask_any c f hf W)
          have PU := Lib.hid (fun h W => put_any c f hf (r.get f.idx) h W)
          have HX : Hid (∃ x, r.get f.idx = x) := Lib.hid ⟨_, rfl⟩
          clear hok i5 i6 hf hcf
          generalize hx : r.get f.idx = x at *
          have Hx := Lib.hid hx
          clear hx
          generalize (f.lo : Int) = q0 at *
          generalize (f.n : Int) = q1 at *
          generalize (f.kd == 1) = q2 at *
          generalize (if f.kd = 2 then (1 : Int) else 0) = q3 at *
          generalize (f.most : Int) = q4 at *
          by_cases hfit : fitF f x = true
          · have PU2 := Lib.hid (PU.out hfit)
            have HFIT := Lib.hid hfit
            rw [hfit] at FI
            generalize hpv : putF f x * 2 ^ f.lo = pv at *
            generalize hmk : mskN f = mk at *
            have HPV := Lib.hid hpv
            have HMK := Lib.hid hmk
            clear hpv hmk PU hfit
            go_wp2_with (first
              | (go_at_call 43; refine (PL.out _).mono ?_; rintro e w1 ⟨rfl, p2, rfl⟩)
              | (go_at_call 44; refine (AT.out _ _).mono ?_; rintro e w1 ⟨rfl, p3, rfl⟩))
            refine wp_quiet_more (by kernel_rfl) (by kernel_rfl) ?_
            repeat (go_big_quiet_step (first | (go_at_call 45; exact quiet_more (FI.out _))))
            refine wpQuiet_nil ?_
            intro p4
            go_wp2
            refine wp_quiet_more (by kernel_rfl) (by kernel_rfl) ?_
            repeat (go_big_quiet_step (first | (go_at_call 46; exact quiet_more (MA.out _)) | (go_at_call 47; exact quiet_more (PU2.out _))))
            refine wpQuiet_nil ?_
            intro p5
            go_wp2_with fail
            have hov : bits .or .u32 (bits .andNot .u32 (W : Int) (mk : Int)) (pv : Int) = ((ovr W f.lo f.n (putF f x) : Nat) : Int) := by
              rw [← HMK.out, ← HPV.out]
              exact over_bits HOK.out hW (HOK.out.lt x HFIT.out)
            rw [hov]
            go_roundw
            case rel =>
              refine ⟨k + 1, _, r.set f.idx 0, by omega, by go_num, rfl, ovr_lt hW (HOK.out.lt x HFIT.out) HOK.out.hi, Ins.rng_set HRR.out f.idx hidx.2 (by unfold rngI; omega), (HV2.out.setc f.idx hidx.2 0).below (by repeat (first | exact Below.refl _ _ | refine below_mo ?_ _ | refine below_al ?_ _)), ?_⟩
              rw [HRUN.out, HF.out]
              show (if fitF f (r.get f.idx) = true then _ else _) = _
              rw [Hx.out, if_pos HFIT.out]
            case measure => simp [intOf]; omega
          · have hnone : enc ⟨op, d, n, m, e, sz, imm⟩ = none := by
              rw [HC, HRUN.out, HF.out]
              have e1 : encL (f :: (ls.drop (k + 1)).filterMap fl) W r = none := by
                show (if fitF f (r.get f.idx) = true then _ else _) = _
                rw [Hx.out, if_neg hfit]
              rw [e1]
            rw [hnone] at HV HE
            have v1 := HV.out
            have e1 := HE.out
            simp at v1 e1
            subst v1 e1
            rw [(by simpa using hfit : fitF f x = false)] at FI
            clear HC hnone HV HE PU hfit MA
            go_wp2_with (first
              | (go_at_call 43; refine (PL.out _).mono ?_; rintro e w1 ⟨rfl, p2, rfl⟩)
              | (go_at_call 44; refine (AT.out _ _).mono ?_; rintro e w1 ⟨rfl, p3, rfl⟩))
            refine wp_quiet_more (by kernel_rfl) (by kernel_rfl) ?_
            repeat (go_big_quiet_step (first | (go_at_call 45; exact quiet_more (FI.out _))))
            refine wpQuiet_nil ?_
            intro p4
            go_wp2
            go_ret2
            exact Gives.mk rfl (by repeat (first | exact HV2.out.1 | exact Below.refl _ _ | refine below_mo ?_ _ | refine below_al ?_ _))
      · have hd : ls.drop k = [] := by rw [List.drop_eq_nil_iff]; omega
        have hend : enc ⟨op, d, n, m, e, sz, imm⟩ = if restB op r = true then some W else none := by
          rw [HC, HRUN.out, hd]
          rfl
        obtain ⟨r0, r1, r2, r3, r4, r5, r6⟩ := r
        have c0 : wr.cell? ⟨R, 0, none⟩ = some (.int .i64 r0) := (i6 0 (by omega)).1
        have c1 : wr.cell? ⟨R, 1, none⟩ = some (.int .i64 r1) := (i6 1 (by omega)).1
        have c2 : wr.cell? ⟨R, 2, none⟩ = some (.int .i64 r2) := (i6 2 (by omega)).1
        have c3 : wr.cell? ⟨R, 3, none⟩ = some (.int .i64 r3) := (i6 3 (by omega)).1
        have c4 : wr.cell? ⟨R, 4, none⟩ = some (.int .i64 r4) := (i6 4 (by omega)).1
        have c5 : wr.cell? ⟨R, 5, none⟩ = some (.int .i64 r5) := (i6 5 (by omega)).1
        have c6 : wr.cell? ⟨R, 6, none⟩ = some (.int .i64 r6) := (i6 6 (by omega)).1
        clear i6 HC HRUN HRR hls
        by_cases hr : restB op ⟨r0, r1, r2, r3, r4, r5, r6⟩ = true
        · rw [hend, if_pos hr] at HV HE
          have v1 := HV.out
          have e1 := HE.out
          simp at v1 e1
          subst v1 e1
          have hz := (restB_iff _ _).1 hr
          cases hz
          clear hend hr HV HE
          go_wp2_with fail
          all_goals (go_ret2; exact Gives.mk rfl (by repeat (first | exact HV2.out.1 | exact Below.refl _ _ | refine below_mo ?_ _ | refine below_al ?_ _)))
        · rw [hend, if_neg hr] at HV HE
          have v1 := HV.out
          have e1 := HE.out
          simp at v1 e1
          subst v1 e1
          have hz : ¬ (r0 = op ∧ r1 = 0 ∧ r2 = 0 ∧ r3 = 0 ∧ r4 = 0 ∧ r5 = 0 ∧ r6 = 0) := by
            intro h
            obtain ⟨rfl, rfl, rfl, rfl, rfl, rfl, rfl⟩ := h
            exact hr (by simp [restB])
          clear hend hr HV HE
          go_wp2_with fail
          all_goals (go_ret2; exact Gives.mk rfl (by repeat (first | exact HV2.out.1 | exact Below.refl _ _ | refine below_mo ?_ _ | refine below_al ?_ _)))
def insV (r : Ins) : Value := .agg #[.int .i64 r.op, .int .i64 r.d, .int .i64 r.n, .int .i64 r.m, .int .i64 r.e, .int .i64 r.sz, .int .i64 r.imm]
end Go.Proofs.Ytfijppclaahkmaa
