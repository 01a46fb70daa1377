/- Walk: an instruction as a word (the document's answer). Condition: the numbers' bounds. -/
import Derived.Test.YtfijppclaahkmaaA64May
import Derived.Test.YtfijppclaahkmaaA64Num
namespace Go.Proofs.Ytfijppclaahkmaa
open Go.RowKit Go.Sort
set_option linter.unusedVariables false
set_option linter.unusedSimpArgs false
theorem pat_len_all : (List.range 32).all (fun k => decide ((patI ((k + 1 : Nat) : Int)).length = 32)) = true := by decide +kernel
theorem pat_len {op : Int} (h : 1 ≤ op ∧ op ≤ 32) : (patI op).length = 32 := by
  have := List.all_eq_true.1 pat_len_all (op.toNat - 1) (List.mem_range.2 (by omega))
  rw [(show ((op.toNat - 1 + 1 : Nat) : Int) = op by omega)] at this
  simpa using this
theorem may_facts {i : Ins} (h : mayB i = true) {c : Nat} (hc : c ∈ patI i.op) : (c = 98 → 0 ≤ i.imm ∧ i.imm ≤ 2) ∧ (c = 107 → 0 ≤ i.e ∧ i.e ≤ 3) := by
  have hpos : 0 < cntR i.op c := by
    unfold cntR
    have := List.count_pos_iff.2 hc
    omega
  have hnn : ∀ x, 0 ≤ cntR i.op x := fun x => by unfold cntR; omega
  unfold mayB at h
  simp only [Bool.and_eq_true, Bool.not_eq_true', Bool.and_eq_false_iff, decide_eq_false_iff_not] at h
  obtain ⟨_, ⟨⟨h1, _⟩, h3⟩, h4⟩ := h
  refine ⟨fun e => ?_, fun e => ?_⟩
  · subst e
    unfold immB at h4
    rw [if_pos hpos] at h4
    simpa using h4
  · subst e
    unfold fineB at h1
    simp only [Bool.and_eq_true, regT] at h1
    have := hnn 113
    have h5 := h1.1.2
    omega
theorem or_add (a j b : Nat) (ha : a < 2 ^ j) (hb : b < 2) (hj : j < 32) : bits .or .u32 (a : Int) ((b : Int) * 2 ^ j % 4294967296) = ((a + b * 2 ^ j : Nat) : Int) := by
  have h2 : 2 ^ j * 2 ≤ 4294967296 := by
    have : 2 ^ (j + 1) ≤ 2 ^ 32 := Nat.pow_le_pow_right (by omega) (by omega)
    rwa [Nat.pow_succ] at this
  have h3 : b * 2 ^ j < 4294967296 := by
    rcases (show b = 0 ∨ b = 1 by omega) with rfl | rfl
    · simp
    · omega
  have e : (b : Int) * 2 ^ j % 4294967296 = ((b * 2 ^ j : Nat) : Int) := by
    rw [pow_cast, ← Int.natCast_mul]
    exact Int.emod_eq_of_lt (Int.natCast_nonneg _) (Int.ofNat_lt.2 h3)
  rw [e, u32_or_nat _ _ (by omega) h3]
  congr 1
  rw [Nat.mul_comm, Nat.or_comm, ← Nat.two_pow_add_eq_or_of_lt ha]
  omega
theorem MInv.below {w wr w' : World} {H : Nat} {i : Ins} {g : Nat → Int} (h : MInv w wr H i g) (hb : Below wr.heap.size wr w') : MInv w w' H i g := by
  obtain ⟨h1, h2, h3, h4, h5⟩ := h
  exact ⟨below_next h1 hb, Nat.lt_of_lt_of_le h2 hb.size, h3, h4.below (by omega) hb, h5.below h2 hb⟩
theorem or_zero32 (a : Nat) (h : a < 4294967296) : bits BinOp.or IntKind.u32 (a : Int) 0 = (a : Int) := by
  have := u32_or_nat a 0 h (by omega)
  rw [Nat.or_zero] at this
  exact this
theorem and_one32 (y : Int) : bits BinOp.and IntKind.u32 (y % 4294967296) 1 = y % 2 := by
  obtain ⟨a, ha⟩ : ∃ a : Nat, y % 4294967296 = a := ⟨(y % 4294967296).toNat, by omega⟩
  have := u32_and_nat a 1 (by omega) (by omega)
  rw [ha]
  refine this.trans ?_
  rw [Nat.and_one_is_mod]
  omega
theorem rev_get {ls : List Nat} {j c : Nat} (hj : j < ls.length) (h : ls[ls.length - 1 - j]? = some c) : ls.reverse.getD j 0 = c := by
  rw [List.getD, List.getElem?_reverse hj, h]
  rfl
theorem take_count_rev {q : List Nat} {j c : Nat} (h : j < q.length) (hc : q.getD j 0 = c) (x : Nat) : (q.take (j + 1)).count x = (q.take j).count x + if x = c then 1 else 0 := by
  refine take_count ?_ x
  rw [List.getElem?_eq_getElem h]
  rw [List.getD, List.getElem?_eq_getElem h] at hc
  simpa using hc
set_option maxRecDepth 100000 in
set_option maxHeartbeats 4000000 in
theorem rencode_any (i : Ins) (hi : i.rng) (w : World) : Calls Try.prog 8 #[.agg #[.int .i64 i.op, .int .i64 i.d, .int .i64 i.n, .int .i64 i.m, .int .i64 i.e, .int .i64 i.sz, .int .i64 i.imm]] w
    (Gives w (.tuple #[.int .u32 (((enc i).getD 0 : Nat) : Int), .bool (enc i).isSome])) := by
  have M := Lib.hid (fun W => rmay_any i hi W)
  have O := Lib.hid (fun W => rpattern_any i.op W)
  rw [may_enc] at M
  cases he : enc i with
  | none =>
    rw [he] at M
    simp at M ⊢
    obtain ⟨op, d, n, m, e, sz, imm⟩ := i
    clear he O
    go_enter Try.func8, Try.ntmps8
    go_wp2_with (first | (go_at_call 28; refine (M.out _).mono ?_; rintro e w1 ⟨rfl, p1, rfl⟩))
    go_ret2
    exact Gives.mk rfl (by repeat (first | exact Below.refl _ _ | refine below_mo ?_ _ | refine below_al ?_ _))
  | some v =>
    have hmb : mayB i = true := by rw [may_enc, he]; rfl
    have hword := ref_word he
    have hop := lets_in ((enc_some i v).1 he).1
    have hlen := pat_len hop
    have h256 := (pat_ok i.op).2
    have HMF : Hid (∀ c, c ∈ patI i.op → (c = 98 → 0 ≤ i.imm ∧ i.imm ≤ 2) ∧ (c = 107 → 0 ≤ i.e ∧ i.e ≤ 3)) := Lib.hid (fun c hc => may_facts hmb hc)
    have NU := Lib.hid (fun c h1 h2 h3 W => rnum_any i hi c h1 h2 h3 W)
    have HW := Lib.hid hword
    rw [he] at M
    simp at M ⊢
    have hn : patI i.op ≠ [] := fun e => by rw [e] at hlen; simp at hlen
    have hs := strB_none hn
    have hsz := strB_size (patI i.op)
    have hz := zero_256
    have hz2 := z256_size
    generalize hq : (patI i.op).reverse = q at *
    have HQ := Lib.hid hq
    have HWR : Hid (∀ j, wordR i q (j + 1) = wordR i q j + bitR i q j * 2 ^ j) := Lib.hid (fun j => rfl)
    have HLT : Hid (∀ j, wordR i q j < 2 ^ j) := Lib.hid (wordR_lt i q)
    have HB2 : Hid (∀ j, bitR i q j < 2) := Lib.hid (bitR_lt i q)
    have HBR : Hid (∀ j, bitR i q j = if q.getD j 0 = 48 then 0 else if q.getD j 0 = 49 then 1 else (numR i (q.getD j 0) / 2 ^ leftR q j % 2).toNat) := Lib.hid (fun j => rfl)
    have HW0 : Hid (wordR i q 0 = 0) := Lib.hid rfl
    generalize wordR i q = wd at *
    generalize bitR i q = bt at *
    generalize numR i = nu at *
    generalize patI i.op = ls at *
    clear hword hq hmb he
    rw [hlen] at hsz
    obtain ⟨op, d, n, m, e, sz, imm⟩ := i
    simp only at *
    go_enter Try.func8, Try.ntmps8
    go_wp2_with (first
      | (go_at_call 28; refine (M.out _).mono ?_; rintro e w1 ⟨rfl, p1, rfl⟩)
      | (go_at_call 29; refine (O.out _).mono ?_; rintro e w1 ⟨rfl, p2, rfl⟩))
    rw [store_256 _ _ (by simp [go_sem])]
    have hcnt := cnt_new (more (more (w.alloc (.cells #[.int .i64 op, .int .i64 d, .int .i64 n, .int .i64 m, .int .i64 e, .int .i64 sz, .int .i64 imm] 29)) p1) p2) (w.heap.size + 1 + p1.os.size + p2.os.size) (by simp [go_sem])
    have hin : InsAt (w.alloc (.cells #[.int .i64 op, .int .i64 d, .int .i64 n, .int .i64 m, .int .i64 e, .int .i64 sz, .int .i64 imm] 29)) w.heap.size ⟨op, d, n, m, e, sz, imm⟩ := fun k hk => by
      match k, hk with
      | 0, _ | 1, _ | 2, _ | 3, _ | 4, _ | 5, _ | 6, _ => simp [go_sem, Ins.get]
    have hinv : MInv w ((more (more (w.alloc (.cells #[.int .i64 op, .int .i64 d, .int .i64 n, .int .i64 m, .int .i64 e, .int .i64 sz, .int .i64 imm] 29)) p1) p2).alloc (.cells z256 61)) (w.heap.size + 1 + p1.os.size + p2.os.size) ⟨op, d, n, m, e, sz, imm⟩ (fun _ => 0) :=
      ⟨by repeat (first | exact Below.refl _ _ | refine below_mo ?_ _ | refine below_al ?_ _), by simp [go_sem], by omega, hin.below (by simp) (by repeat (first | exact Below.refl _ _ | refine below_mo ?_ _ | refine below_al ?_ _)), hcnt⟩
    have HINV := Lib.hid hinv
    clear hinv hcnt hin
    generalize hH : w.heap.size + 1 + p1.os.size + p2.os.size = H at *
    have hwH : w.heap.size < H := by omega
    clear hH hi
    go_wp2_with fail
    go_loopw [6, 7] (fun v6 v7 wr => ∃ (j : Nat) (t : Int) (g : Nat → Int), j ≤ 32 ∧ v7 = .int .i64 t ∧ t = 31 - (j : Int) ∧ v6 = .int .u32 ((wd j : Nat) : Int) ∧ MInv w wr H ⟨op, d, n, m, e, sz, imm⟩ g ∧ ∀ c, c ≠ 48 → c ≠ 49 → g c = ((q.take j).count c : Nat)) (fun _ v7 _ => (intOf v7 + 1).toNat)
    case atStart => exact ⟨0, 31, fun _ => 0, by omega, rfl, by omega, by rw [HW0.out]; rfl, HINV.out, fun c _ _ => by simp⟩
    case round =>
      obtain ⟨j, t, g, hj, rfl, ht, rfl, hinv, hg⟩ := hrel
      have HV2 := Lib.hid hinv
      have HG := Lib.hid hg
      obtain ⟨i1, i2, i3, i4, i5⟩ := hinv
      clear i1 hg
      by_cases hlt : j < 32
      · obtain ⟨k, rfl⟩ : ∃ k : Nat, t = k := ⟨t.toNat, by omega⟩
        have hkj : ls.length - 1 - j = k := by omega
        obtain ⟨c, hc⟩ := get_some' ls k (by omega)
        have hcl := h256 c (List.mem_of_getElem? hc)
        have hks : k < (strB ls).size := by omega
        have hck := strB_get hc hcl hks
        have hqc : q.getD j 0 = c := by rw [← HQ.out]; exact rev_get (by omega) (by rw [hkj]; exact hc)
        have hqt := take_count_rev (q := q) (j := j) (by rw [← HQ.out, List.length_reverse]; omega) hqc
        have HQT := Lib.hid hqt
        have hbr := HBR.out j
        rw [hqc] at hbr
        have hmem := List.mem_of_getElem? hc
        have hbt := HB2.out j
        have hor := or_add (wd j) j (bt j) (HLT.out j) hbt hlt
        have hwn := (HWR.out j).symm
        rw [hwn] at hor
        have hwl : wd (j + 1) < 4294967296 := Nat.lt_of_lt_of_le (HLT.out (j + 1)) (show 2 ^ (j + 1) ≤ 2 ^ 32 from Nat.pow_le_pow_right (by omega) (by omega))
        have HOR := Lib.hid hor
        have hk0 : (0 : Int) ≤ k := by omega
        have hkk : (31 : Int) - k = j := by omega
        have hk31 : k ≤ 31 := by omega
        have HT := Lib.hid ht
        clear ht hkj
        have c0 : wr.cell? ⟨w.heap.size, 0, none⟩ = some (.int .i64 op) := (i4 0 (by omega)).1
        have c1 : wr.cell? ⟨w.heap.size, 1, none⟩ = some (.int .i64 d) := (i4 1 (by omega)).1
        have c2 : wr.cell? ⟨w.heap.size, 2, none⟩ = some (.int .i64 n) := (i4 2 (by omega)).1
        have c3 : wr.cell? ⟨w.heap.size, 3, none⟩ = some (.int .i64 m) := (i4 3 (by omega)).1
        have c4 : wr.cell? ⟨w.heap.size, 4, none⟩ = some (.int .i64 e) := (i4 4 (by omega)).1
        have c5 : wr.cell? ⟨w.heap.size, 5, none⟩ = some (.int .i64 sz) := (i4 5 (by omega)).1
        have c6 : wr.cell? ⟨w.heap.size, 6, none⟩ = some (.int .i64 imm) := (i4 6 (by omega)).1
        by_cases h48 : c = 48
        · subst h48
          rw [if_pos rfl] at hbr
          have hb0 := hbr
          rw [hbr] at HOR
          clear i4 i5 hc hqt hor hwn hbr hqc hlt
          have hw48 : wd j = wd (j + 1) := by have := HWR.out j; rw [hb0] at this; omega
          have HW48 := Lib.hid hw48
          clear hw48 hb0
          go_wp2_with fail
          rw [or_zero32 _ (Nat.lt_of_lt_of_le (HLT.out j) (show 2 ^ j ≤ 2 ^ 32 from Nat.pow_le_pow_right (by omega) (by have := HT.out; omega)))]
          go_roundw
          case rel => exact ⟨j + 1, _, g, by have := HT.out; omega, rfl, by have := HT.out; omega, by rw [HW48.out], MInv.below HV2.out (by repeat (first | exact Below.refl _ _ | refine below_mo ?_ _ | refine below_al ?_ _)), fun x h1 h2 => by rw [HG.out x h1 h2, HQT.out x, if_neg h1]; rfl⟩
          case measure => have := HT.out; simp [intOf] <;> omega
        · by_cases h49 : c = 49
          · subst h49
            rw [if_neg (by omega), if_pos rfl] at hbr
            have hb1 := hbr
            rw [hbr] at HOR
            have hor2 : bits .or .u32 (wd j : Int) (2 ^ j % 4294967296) = ((wd (j + 1) : Nat) : Int) := by
              have h := HOR.out
              rw [(show ((1 : Nat) : Int) * 2 ^ j = 2 ^ j by simp)] at h
              exact h
            have HOR2 := Lib.hid hor2
            clear i4 i5 hc hqt hor hwn hbr hqc hlt hb1 hor2
            go_wp2_with fail
            rw [HOR2.out]
            go_roundw
            case rel => exact ⟨j + 1, _, g, by have := HT.out; omega, rfl, by have := HT.out; omega, rfl, MInv.below HV2.out (by repeat (first | exact Below.refl _ _ | refine below_mo ?_ _ | refine below_al ?_ _)), fun x h1 h2 => by rw [HG.out x h1 h2, HQT.out x, if_neg h2]; rfl⟩
            case measure => have := HT.out; simp [intOf] <;> omega
          · rw [if_neg h48, if_neg h49] at hbr
            have hcr := (i5 c hcl).1
            have hfr := (i5 c hcl).2
            have hgc := HG.out c h48 h49
            have hlr : leftR q j = (q.take j).count c := by unfold leftR; rw [hqc]
            have hcle : (q.take j).count c ≤ 32 := Nat.le_trans List.count_le_length (by rw [List.length_take]; omega)
            rw [hlr] at hbr
            generalize hL : (q.take j).count c = L at *
            have HL := Lib.hid hL
            clear hL
            have b1 : ((c : Int) == 48) = false := by simp; omega
            have b2 : ((c : Int) == 49) = false := by simp; omega
            have N2 := Lib.hid (fun W => NU.out c hcl (HMF.out c hmem).1 (HMF.out c hmem).2 W)
            generalize hnu : nu c = x at *
            rw [hgc] at hcr
            clear i4 i5 hc hqt hor hwn hqc hnu hlt
            go_wp2_with fail
            refine wp_quiet_more (by kernel_rfl) (by kernel_rfl) ?_
            repeat (go_big_quiet_step (first | (go_at_call 30; exact quiet_more (N2.out _))))
            refine wpQuiet_nil ?_
            intro p5
            go_wp2_with fail
            have hbit : bits .and .u32 (x / 2 ^ L % 4294967296) 1 = ((bt j : Nat) : Int) := by
              rw [and_one32, hbr]
              omega
            rw [hbit, HOR.out]
            go_roundw
            case rel =>
              refine ⟨j + 1, _, fun y => if y = c then (L : Int) + 1 else g y, by have := HT.out; omega, rfl, by have := HT.out; omega, rfl, MInv.below (MInv.setc HV2.out c hcl ((L : Int) + 1)) (by repeat (first | exact Below.refl _ _ | refine below_mo ?_ _ | refine below_al ?_ _)), fun y h1 h2 => ?_⟩
              show (if y = c then (L : Int) + 1 else g y) = _
              rw [HQT.out y]
              by_cases e : y = c
              · subst e; rw [if_pos rfl, if_pos rfl, HL.out]; rfl
              · rw [if_neg e, if_neg e, HG.out y h1 h2]; rfl
            case measure => have := HT.out; simp [intOf] <;> omega
      · obtain rfl : j = 32 := by omega
        obtain rfl : t = -1 := by omega
        have hv := HW.out
        rw [hv]
        clear i4 i5
        go_wp2_with fail
        go_ret2
        exact Gives.mk rfl (by repeat (first | exact HV2.out.1 | exact Below.refl _ _ | refine below_mo ?_ _ | refine below_al ?_ _))
end Go.Proofs.Ytfijppclaahkmaa
