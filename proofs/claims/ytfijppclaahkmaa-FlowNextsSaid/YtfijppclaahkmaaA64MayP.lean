/- Walk: may an instruction be (the document's answer): A64May0: a number does not fit. Condition: the numbers' bounds. Walk: may an instruction be (the document's answer): A64May1: a number does not fit. Condition: the numbers' bounds. Walk: may an instruction be (the document's answer): A64May2: a number does not fit. Condition: the numbers' bounds. Walk: may an instruction be (the document's answer): A64May3: a number does not fit. Condition: the numbers' bounds. -/
import Derived.Test.YtfijppclaahkmaaA64MayA
namespace Go.Proofs.Ytfijppclaahkmaa
open Go.RowKit Go.Sort
set_option linter.unusedVariables false
set_option linter.unusedSimpArgs false
set_option maxRecDepth 100000 in
set_option maxHeartbeats 4000000 in
theorem rmay_0 (i : Ins) (hi : i.rng) (hn : patI i.op ≠ []) (A0 : ¬ (0 ≤ i.d ∧ i.d ≤ 31 ∧ (0 < cntR i.op 100 ∨ i.d = 0))) (w : World) : Calls Try.prog 28 #[.agg #[.int .i64 i.op, .int .i64 i.d, .int .i64 i.n, .int .i64 i.m, .int .i64 i.e, .int .i64 i.sz, .int .i64 i.imm]] w (Gives w (.bool false)) := by
  have O := Lib.hid (fun W => rpattern_any i.op W)
  have R := Lib.hid reg_prop
  obtain ⟨hlen, h256⟩ := pat_ok i.op
  have HA0 := Lib.hid A0
  clear hi A0
  obtain ⟨op, d, n, m, e, sz, imm⟩ := i
  simp only at O hlen h256 hn HA0 ⊢
  generalize hp : patI op = ls at *
  have HP := Lib.hid hp
  clear hp
  have hs := strB_none hn
  have hsz := strB_size ls
  have hz := zero_256
  have hz2 := z256_size
  go_enter Try.func28, Try.ntmps28
  go_wp2_with (first | (go_at_call 29; refine (O.out _).mono ?_; rintro e w1 ⟨rfl, p1, rfl⟩))
  rw [store_256 _ _ (by simp [go_sem])]
  have hcnt := cnt_new (more (w.alloc (.cells #[.int .i64 op, .int .i64 d, .int .i64 n, .int .i64 m, .int .i64 e, .int .i64 sz, .int .i64 imm] 29)) p1) (w.heap.size + 1 + p1.os.size) (by simp [go_sem])
  have hin : InsAt (w.alloc (.cells #[.int .i64 op, .int .i64 d, .int .i64 n, .int .i64 m, .int .i64 e, .int .i64 sz, .int .i64 imm] 29)) w.heap.size ⟨op, d, n, m, e, sz, imm⟩ := fun k hk => by
    match k, hk with
    | 0, _ | 1, _ | 2, _ | 3, _ | 4, _ | 5, _ | 6, _ => simp [go_sem, Ins.get]
  have hinv : MInv w ((more (w.alloc (.cells #[.int .i64 op, .int .i64 d, .int .i64 n, .int .i64 m, .int .i64 e, .int .i64 sz, .int .i64 imm] 29)) p1).alloc (.cells z256 61)) (w.heap.size + 1 + p1.os.size) ⟨op, d, n, m, e, sz, imm⟩ (fun _ => 0) :=
    ⟨by repeat (first | exact Below.refl _ _ | refine below_mo ?_ _ | refine below_al ?_ _), by simp [go_sem], by omega, hin.below (by simp) (by repeat (first | exact Below.refl _ _ | refine below_mo ?_ _ | refine below_al ?_ _)), hcnt⟩
  have HINV := Lib.hid hinv
  clear hinv hcnt hin
  generalize hH : w.heap.size + 1 + p1.os.size = H at *
  have hwH : w.heap.size < H := by omega
  clear hH
  go_wp2_with fail
  go_loopw [5] (fun v5 wr => ∃ (k : Nat) (g : Nat → Int), k ≤ ls.length ∧ v5 = .int .i64 k ∧ MInv w wr H ⟨op, d, n, m, e, sz, imm⟩ g ∧ ∀ c, g c = ((ls.take k).count c : Nat)) (fun v5 _ => ls.length - (intOf v5).toNat)
  case atStart => exact ⟨0, fun _ => 0, by omega, rfl, HINV.out, fun c => by simp⟩
  case round =>
    obtain ⟨k, g, hk, rfl, hinv, hg⟩ := hrel
    have HV2 := Lib.hid hinv
    have HG := Lib.hid hg
    obtain ⟨i1, i2, i3, i4, i5⟩ := hinv
    clear i1 hg
    by_cases hlt : (k : Int) < ls.length
    · obtain ⟨c, hc⟩ := get_some' ls k (by omega)
      have hcl := h256 c (List.mem_of_getElem? hc)
      have hcr := (i5 c hcl).1
      have hfr := (i5 c hcl).2
      have hgr : 0 ≤ g c ∧ g c ≤ 32 := by rw [HG.out c]; have := List.count_le_length (a := c) (l := ls.take k); simp at this; omega
      have hks : k < (strB ls).size := by omega
      have hck := strB_get hc hcl hks
      have HC := Lib.hid hc
      clear i4 i5 hc
      go_wp2_with fail
      go_roundw
      case rel =>
        refine ⟨k + 1, _, by omega, by go_num, HV2.out.setc c hcl (g c + 1), fun x => ?_⟩
        show (if x = c then g c + 1 else g x) = _
        rw [take_count HC.out x, HG.out c, HG.out x]
        by_cases e : x = c
        · subst e; simp
        · rw [if_neg e, if_neg e]; simp
      case measure => simp [intOf]; omega
    · have hfull : ls.take k = ls := by rw [List.take_of_length_le (by omega)]
      rw [hfull] at HG
      have HC : Hid (∀ c, g c = cntR op c) := Lib.hid (fun c => by rw [HG.out c]; unfold cntR; rw [HP.out])
      have k100 : wr.cell? ⟨H, 100, none⟩ = some (.int .i64 (cntR op 100)) := by rw [← HC.out 100]; exact (i5 100 (by omega)).1
      have k110 : wr.cell? ⟨H, 110, none⟩ = some (.int .i64 (cntR op 110)) := by rw [← HC.out 110]; exact (i5 110 (by omega)).1
      have k97 : wr.cell? ⟨H, 97, none⟩ = some (.int .i64 (cntR op 97)) := by rw [← HC.out 97]; exact (i5 97 (by omega)).1
      have k109 : wr.cell? ⟨H, 109, none⟩ = some (.int .i64 (cntR op 109)) := by rw [← HC.out 109]; exact (i5 109 (by omega)).1
      have k101 : wr.cell? ⟨H, 101, none⟩ = some (.int .i64 (cntR op 101)) := by rw [← HC.out 101]; exact (i5 101 (by omega)).1
      have k113 : wr.cell? ⟨H, 113, none⟩ = some (.int .i64 (cntR op 113)) := by rw [← HC.out 113]; exact (i5 113 (by omega)).1
      have k107 : wr.cell? ⟨H, 107, none⟩ = some (.int .i64 (cntR op 107)) := by rw [← HC.out 107]; exact (i5 107 (by omega)).1
      have k115 : wr.cell? ⟨H, 115, none⟩ = some (.int .i64 (cntR op 115)) := by rw [← HC.out 115]; exact (i5 115 (by omega)).1
      have k98 : wr.cell? ⟨H, 98, none⟩ = some (.int .i64 (cntR op 98)) := by rw [← HC.out 98]; exact (i5 98 (by omega)).1
      have k105 : wr.cell? ⟨H, 105, none⟩ = some (.int .i64 (cntR op 105)) := by rw [← HC.out 105]; exact (i5 105 (by omega)).1
      have c0 : wr.cell? ⟨w.heap.size, 0, none⟩ = some (.int .i64 op) := (i4 0 (by omega)).1
      have c1 : wr.cell? ⟨w.heap.size, 1, none⟩ = some (.int .i64 d) := (i4 1 (by omega)).1
      have c2 : wr.cell? ⟨w.heap.size, 2, none⟩ = some (.int .i64 n) := (i4 2 (by omega)).1
      have c3 : wr.cell? ⟨w.heap.size, 3, none⟩ = some (.int .i64 m) := (i4 3 (by omega)).1
      have c4 : wr.cell? ⟨w.heap.size, 4, none⟩ = some (.int .i64 e) := (i4 4 (by omega)).1
      have c5 : wr.cell? ⟨w.heap.size, 5, none⟩ = some (.int .i64 sz) := (i4 5 (by omega)).1
      have c6 : wr.cell? ⟨w.heap.size, 6, none⟩ = some (.int .i64 imm) := (i4 6 (by omega)).1
      have r100 : 0 ≤ cntR op 100 ∧ cntR op 100 ≤ 32 := by unfold cntR; rw [HP.out]; have := List.count_le_length (a := 100) (l := ls); omega
      have r110 : 0 ≤ cntR op 110 ∧ cntR op 110 ≤ 32 := by unfold cntR; rw [HP.out]; have := List.count_le_length (a := 110) (l := ls); omega
      have r97 : 0 ≤ cntR op 97 ∧ cntR op 97 ≤ 32 := by unfold cntR; rw [HP.out]; have := List.count_le_length (a := 97) (l := ls); omega
      have r109 : 0 ≤ cntR op 109 ∧ cntR op 109 ≤ 32 := by unfold cntR; rw [HP.out]; have := List.count_le_length (a := 109) (l := ls); omega
      have r101 : 0 ≤ cntR op 101 ∧ cntR op 101 ≤ 32 := by unfold cntR; rw [HP.out]; have := List.count_le_length (a := 101) (l := ls); omega
      have r113 : 0 ≤ cntR op 113 ∧ cntR op 113 ≤ 32 := by unfold cntR; rw [HP.out]; have := List.count_le_length (a := 113) (l := ls); omega
      have r107 : 0 ≤ cntR op 107 ∧ cntR op 107 ≤ 32 := by unfold cntR; rw [HP.out]; have := List.count_le_length (a := 107) (l := ls); omega
      have r115 : 0 ≤ cntR op 115 ∧ cntR op 115 ≤ 32 := by unfold cntR; rw [HP.out]; have := List.count_le_length (a := 115) (l := ls); omega
      have r98 : 0 ≤ cntR op 98 ∧ cntR op 98 ≤ 32 := by unfold cntR; rw [HP.out]; have := List.count_le_length (a := 98) (l := ls); omega
      have r105 : 0 ≤ cntR op 105 ∧ cntR op 105 ≤ 32 := by unfold cntR; rw [HP.out]; have := List.count_le_length (a := 105) (l := ls); omega
      clear i4 i5 HC HG hfull HP
      generalize cntR op 100 = n100 at *
      generalize cntR op 110 = n110 at *
      generalize cntR op 97 = n97 at *
      generalize cntR op 109 = n109 at *
      generalize cntR op 101 = n101 at *
      generalize cntR op 113 = n113 at *
      generalize cntR op 107 = n107 at *
      generalize cntR op 115 = n115 at *
      generalize cntR op 98 = n98 at *
      generalize cntR op 105 = n105 at *
      go_wp2_with (first
        | (go_at_call_of 38 (Value.int .i64 d); refine (reg_fp _ _ _ HA0.out _).mono ?_; rintro e' w1 ⟨rfl, p10, rfl⟩))
      all_goals (go_ret; exact Gives.mk rfl (by repeat (first | exact HV2.out.1 | exact Below.refl _ _ | refine below_mo ?_ _ | refine below_al ?_ _)))
end Go.Proofs.Ytfijppclaahkmaa
namespace Go.Proofs.Ytfijppclaahkmaa
open Go.RowKit Go.Sort
set_option linter.unusedVariables false
set_option linter.unusedSimpArgs false
set_option maxRecDepth 100000 in
set_option maxHeartbeats 4000000 in
theorem rmay_1 (i : Ins) (hi : i.rng) (hn : patI i.op ≠ []) (A0 : 0 ≤ i.d ∧ i.d ≤ 31 ∧ (0 < cntR i.op 100 ∨ i.d = 0)) (A1 : ¬ (0 ≤ i.n ∧ i.n ≤ 31 ∧ (0 < cntR i.op 110 + cntR i.op 97 ∨ i.n = 0))) (w : World) : Calls Try.prog 28 #[.agg #[.int .i64 i.op, .int .i64 i.d, .int .i64 i.n, .int .i64 i.m, .int .i64 i.e, .int .i64 i.sz, .int .i64 i.imm]] w (Gives w (.bool false)) := by
  have O := Lib.hid (fun W => rpattern_any i.op W)
  have R := Lib.hid reg_prop
  obtain ⟨hlen, h256⟩ := pat_ok i.op
  have HA0 := Lib.hid A0
  have HA1 := Lib.hid A1
  clear hi A0 A1
  obtain ⟨op, d, n, m, e, sz, imm⟩ := i
  simp only at O hlen h256 hn HA0 HA1 ⊢
  generalize hp : patI op = ls at *
  have HP := Lib.hid hp
  clear hp
  have hs := strB_none hn
  have hsz := strB_size ls
  have hz := zero_256
  have hz2 := z256_size
  go_enter Try.func28, Try.ntmps28
  go_wp2_with (first | (go_at_call 29; refine (O.out _).mono ?_; rintro e w1 ⟨rfl, p1, rfl⟩))
  rw [store_256 _ _ (by simp [go_sem])]
  have hcnt := cnt_new (more (w.alloc (.cells #[.int .i64 op, .int .i64 d, .int .i64 n, .int .i64 m, .int .i64 e, .int .i64 sz, .int .i64 imm] 29)) p1) (w.heap.size + 1 + p1.os.size) (by simp [go_sem])
  have hin : InsAt (w.alloc (.cells #[.int .i64 op, .int .i64 d, .int .i64 n, .int .i64 m, .int .i64 e, .int .i64 sz, .int .i64 imm] 29)) w.heap.size ⟨op, d, n, m, e, sz, imm⟩ := fun k hk => by
    match k, hk with
    | 0, _ | 1, _ | 2, _ | 3, _ | 4, _ | 5, _ | 6, _ => simp [go_sem, Ins.get]
  have hinv : MInv w ((more (w.alloc (.cells #[.int .i64 op, .int .i64 d, .int .i64 n, .int .i64 m, .int .i64 e, .int .i64 sz, .int .i64 imm] 29)) p1).alloc (.cells z256 61)) (w.heap.size + 1 + p1.os.size) ⟨op, d, n, m, e, sz, imm⟩ (fun _ => 0) :=
    ⟨by repeat (first | exact Below.refl _ _ | refine below_mo ?_ _ | refine below_al ?_ _), by simp [go_sem], by omega, hin.below (by simp) (by repeat (first | exact Below.refl _ _ | refine below_mo ?_ _ | refine below_al ?_ _)), hcnt⟩
  have HINV := Lib.hid hinv
  clear hinv hcnt hin
  generalize hH : w.heap.size + 1 + p1.os.size = H at *
  have hwH : w.heap.size < H := by omega
  clear hH
  go_wp2_with fail
  go_loopw [5] (fun v5 wr => ∃ (k : Nat) (g : Nat → Int), k ≤ ls.length ∧ v5 = .int .i64 k ∧ MInv w wr H ⟨op, d, n, m, e, sz, imm⟩ g ∧ ∀ c, g c = ((ls.take k).count c : Nat)) (fun v5 _ => ls.length - (intOf v5).toNat)
  case atStart => exact ⟨0, fun _ => 0, by omega, rfl, HINV.out, fun c => by simp⟩
  case round =>
    obtain ⟨k, g, hk, rfl, hinv, hg⟩ := hrel
    have HV2 := Lib.hid hinv
    have HG := Lib.hid hg
    obtain ⟨i1, i2, i3, i4, i5⟩ := hinv
    clear i1 hg
    by_cases hlt : (k : Int) < ls.length
    · obtain ⟨c, hc⟩ := get_some' ls k (by omega)
      have hcl := h256 c (List.mem_of_getElem? hc)
      have hcr := (i5 c hcl).1
      have hfr := (i5 c hcl).2
      have hgr : 0 ≤ g c ∧ g c ≤ 32 := by rw [HG.out c]; have := List.count_le_length (a := c) (l := ls.take k); simp at this; omega
      have hks : k < (strB ls).size := by omega
      have hck := strB_get hc hcl hks
      have HC := Lib.hid hc
      clear i4 i5 hc
      go_wp2_with fail
      go_roundw
      case rel =>
        refine ⟨k + 1, _, by omega, by go_num, HV2.out.setc c hcl (g c + 1), fun x => ?_⟩
        show (if x = c then g c + 1 else g x) = _
        rw [take_count HC.out x, HG.out c, HG.out x]
        by_cases e : x = c
        · subst e; simp
        · rw [if_neg e, if_neg e]; simp
      case measure => simp [intOf]; omega
    · have hfull : ls.take k = ls := by rw [List.take_of_length_le (by omega)]
      rw [hfull] at HG
      have HC : Hid (∀ c, g c = cntR op c) := Lib.hid (fun c => by rw [HG.out c]; unfold cntR; rw [HP.out])
      have k100 : wr.cell? ⟨H, 100, none⟩ = some (.int .i64 (cntR op 100)) := by rw [← HC.out 100]; exact (i5 100 (by omega)).1
      have k110 : wr.cell? ⟨H, 110, none⟩ = some (.int .i64 (cntR op 110)) := by rw [← HC.out 110]; exact (i5 110 (by omega)).1
      have k97 : wr.cell? ⟨H, 97, none⟩ = some (.int .i64 (cntR op 97)) := by rw [← HC.out 97]; exact (i5 97 (by omega)).1
      have k109 : wr.cell? ⟨H, 109, none⟩ = some (.int .i64 (cntR op 109)) := by rw [← HC.out 109]; exact (i5 109 (by omega)).1
      have k101 : wr.cell? ⟨H, 101, none⟩ = some (.int .i64 (cntR op 101)) := by rw [← HC.out 101]; exact (i5 101 (by omega)).1
      have k113 : wr.cell? ⟨H, 113, none⟩ = some (.int .i64 (cntR op 113)) := by rw [← HC.out 113]; exact (i5 113 (by omega)).1
      have k107 : wr.cell? ⟨H, 107, none⟩ = some (.int .i64 (cntR op 107)) := by rw [← HC.out 107]; exact (i5 107 (by omega)).1
      have k115 : wr.cell? ⟨H, 115, none⟩ = some (.int .i64 (cntR op 115)) := by rw [← HC.out 115]; exact (i5 115 (by omega)).1
      have k98 : wr.cell? ⟨H, 98, none⟩ = some (.int .i64 (cntR op 98)) := by rw [← HC.out 98]; exact (i5 98 (by omega)).1
      have k105 : wr.cell? ⟨H, 105, none⟩ = some (.int .i64 (cntR op 105)) := by rw [← HC.out 105]; exact (i5 105 (by omega)).1
      have c0 : wr.cell? ⟨w.heap.size, 0, none⟩ = some (.int .i64 op) := (i4 0 (by omega)).1
      have c1 : wr.cell? ⟨w.heap.size, 1, none⟩ = some (.int .i64 d) := (i4 1 (by omega)).1
      have c2 : wr.cell? ⟨w.heap.size, 2, none⟩ = some (.int .i64 n) := (i4 2 (by omega)).1
      have c3 : wr.cell? ⟨w.heap.size, 3, none⟩ = some (.int .i64 m) := (i4 3 (by omega)).1
      have c4 : wr.cell? ⟨w.heap.size, 4, none⟩ = some (.int .i64 e) := (i4 4 (by omega)).1
      have c5 : wr.cell? ⟨w.heap.size, 5, none⟩ = some (.int .i64 sz) := (i4 5 (by omega)).1
      have c6 : wr.cell? ⟨w.heap.size, 6, none⟩ = some (.int .i64 imm) := (i4 6 (by omega)).1
      have r100 : 0 ≤ cntR op 100 ∧ cntR op 100 ≤ 32 := by unfold cntR; rw [HP.out]; have := List.count_le_length (a := 100) (l := ls); omega
      have r110 : 0 ≤ cntR op 110 ∧ cntR op 110 ≤ 32 := by unfold cntR; rw [HP.out]; have := List.count_le_length (a := 110) (l := ls); omega
      have r97 : 0 ≤ cntR op 97 ∧ cntR op 97 ≤ 32 := by unfold cntR; rw [HP.out]; have := List.count_le_length (a := 97) (l := ls); omega
      have r109 : 0 ≤ cntR op 109 ∧ cntR op 109 ≤ 32 := by unfold cntR; rw [HP.out]; have := List.count_le_length (a := 109) (l := ls); omega
      have r101 : 0 ≤ cntR op 101 ∧ cntR op 101 ≤ 32 := by unfold cntR; rw [HP.out]; have := List.count_le_length (a := 101) (l := ls); omega
      have r113 : 0 ≤ cntR op 113 ∧ cntR op 113 ≤ 32 := by unfold cntR; rw [HP.out]; have := List.count_le_length (a := 113) (l := ls); omega
      have r107 : 0 ≤ cntR op 107 ∧ cntR op 107 ≤ 32 := by unfold cntR; rw [HP.out]; have := List.count_le_length (a := 107) (l := ls); omega
      have r115 : 0 ≤ cntR op 115 ∧ cntR op 115 ≤ 32 := by unfold cntR; rw [HP.out]; have := List.count_le_length (a := 115) (l := ls); omega
      have r98 : 0 ≤ cntR op 98 ∧ cntR op 98 ≤ 32 := by unfold cntR; rw [HP.out]; have := List.count_le_length (a := 98) (l := ls); omega
      have r105 : 0 ≤ cntR op 105 ∧ cntR op 105 ≤ 32 := by unfold cntR; rw [HP.out]; have := List.count_le_length (a := 105) (l := ls); omega
      clear i4 i5 HC HG hfull HP
      generalize cntR op 100 = n100 at *
      generalize cntR op 110 = n110 at *
      generalize cntR op 97 = n97 at *
      generalize cntR op 109 = n109 at *
      generalize cntR op 101 = n101 at *
      generalize cntR op 113 = n113 at *
      generalize cntR op 107 = n107 at *
      generalize cntR op 115 = n115 at *
      generalize cntR op 98 = n98 at *
      generalize cntR op 105 = n105 at *
      go_wp2_with (first
        | (go_at_call_of 38 (Value.int .i64 d); refine (reg_tp _ _ _ HA0.out _).mono ?_; rintro e' w1 ⟨rfl, p10, rfl⟩)
        | (go_at_call_of 38 (Value.int .i64 n); refine (reg_fp _ _ _ HA1.out _).mono ?_; rintro e' w1 ⟨rfl, p11, rfl⟩))
      all_goals (go_ret; exact Gives.mk rfl (by repeat (first | exact HV2.out.1 | exact Below.refl _ _ | refine below_mo ?_ _ | refine below_al ?_ _)))
end Go.Proofs.Ytfijppclaahkmaa
namespace Go.Proofs.Ytfijppclaahkmaa
open Go.RowKit Go.Sort
set_option linter.unusedVariables false
set_option linter.unusedSimpArgs false
set_option maxRecDepth 100000 in
set_option maxHeartbeats 4000000 in
theorem rmay_2 (i : Ins) (hi : i.rng) (hn : patI i.op ≠ []) (A0 : 0 ≤ i.d ∧ i.d ≤ 31 ∧ (0 < cntR i.op 100 ∨ i.d = 0)) (A1 : 0 ≤ i.n ∧ i.n ≤ 31 ∧ (0 < cntR i.op 110 + cntR i.op 97 ∨ i.n = 0)) (A2 : ¬ (0 ≤ i.m ∧ i.m ≤ 31 ∧ (0 < cntR i.op 109 ∨ i.m = 0))) (w : World) : Calls Try.prog 28 #[.agg #[.int .i64 i.op, .int .i64 i.d, .int .i64 i.n, .int .i64 i.m, .int .i64 i.e, .int .i64 i.sz, .int .i64 i.imm]] w (Gives w (.bool false)) := by
  have O := Lib.hid (fun W => rpattern_any i.op W)
  have R := Lib.hid reg_prop
  obtain ⟨hlen, h256⟩ := pat_ok i.op
  have HA0 := Lib.hid A0
  have HA1 := Lib.hid A1
  have HA2 := Lib.hid A2
  clear hi A0 A1 A2
  obtain ⟨op, d, n, m, e, sz, imm⟩ := i
  simp only at O hlen h256 hn HA0 HA1 HA2 ⊢
  generalize hp : patI op = ls at *
  have HP := Lib.hid hp
  clear hp
  have hs := strB_none hn
  have hsz := strB_size ls
  have hz := zero_256
  have hz2 := z256_size
  go_enter Try.func28, Try.ntmps28
  go_wp2_with (first | (go_at_call 29; refine (O.out _).mono ?_; rintro e w1 ⟨rfl, p1, rfl⟩))
  rw [store_256 _ _ (by simp [go_sem])]
  have hcnt := cnt_new (more (w.alloc (.cells #[.int .i64 op, .int .i64 d, .int .i64 n, .int .i64 m, .int .i64 e, .int .i64 sz, .int .i64 imm] 29)) p1) (w.heap.size + 1 + p1.os.size) (by simp [go_sem])
  have hin : InsAt (w.alloc (.cells #[.int .i64 op, .int .i64 d, .int .i64 n, .int .i64 m, .int .i64 e, .int .i64 sz, .int .i64 imm] 29)) w.heap.size ⟨op, d, n, m, e, sz, imm⟩ := fun k hk => by
    match k, hk with
    | 0, _ | 1, _ | 2, _ | 3, _ | 4, _ | 5, _ | 6, _ => simp [go_sem, Ins.get]
  have hinv : MInv w ((more (w.alloc (.cells #[.int .i64 op, .int .i64 d, .int .i64 n, .int .i64 m, .int .i64 e, .int .i64 sz, .int .i64 imm] 29)) p1).alloc (.cells z256 61)) (w.heap.size + 1 + p1.os.size) ⟨op, d, n, m, e, sz, imm⟩ (fun _ => 0) :=
    ⟨by repeat (first | exact Below.refl _ _ | refine below_mo ?_ _ | refine below_al ?_ _), by simp [go_sem], by omega, hin.below (by simp) (by repeat (first | exact Below.refl _ _ | refine below_mo ?_ _ | refine below_al ?_ _)), hcnt⟩
  have HINV := Lib.hid hinv
  clear hinv hcnt hin
  generalize hH : w.heap.size + 1 + p1.os.size = H at *
  have hwH : w.heap.size < H := by omega
  clear hH
  go_wp2_with fail
  go_loopw [5] (fun v5 wr => ∃ (k : Nat) (g : Nat → Int), k ≤ ls.length ∧ v5 = .int .i64 k ∧ MInv w wr H ⟨op, d, n, m, e, sz, imm⟩ g ∧ ∀ c, g c = ((ls.take k).count c : Nat)) (fun v5 _ => ls.length - (intOf v5).toNat)
  case atStart => exact ⟨0, fun _ => 0, by omega, rfl, HINV.out, fun c => by simp⟩
  case round =>
    obtain ⟨k, g, hk, rfl, hinv, hg⟩ := hrel
    have HV2 := Lib.hid hinv
    have HG := Lib.hid hg
    obtain ⟨i1, i2, i3, i4, i5⟩ := hinv
    clear i1 hg
    by_cases hlt : (k : Int) < ls.length
    · obtain ⟨c, hc⟩ := get_some' ls k (by omega)
      have hcl := h256 c (List.mem_of_getElem? hc)
      have hcr := (i5 c hcl).1
      have hfr := (i5 c hcl).2
      have hgr : 0 ≤ g c ∧ g c ≤ 32 := by rw [HG.out c]; have := List.count_le_length (a := c) (l := ls.take k); simp at this; omega
      have hks : k < (strB ls).size := by omega
      have hck := strB_get hc hcl hks
      have HC := Lib.hid hc
      clear i4 i5 hc
      go_wp2_with fail
      go_roundw
      case rel =>
        refine ⟨k + 1, _, by omega, by go_num, HV2.out.setc c hcl (g c + 1), fun x => ?_⟩
        show (if x = c then g c + 1 else g x) = _
        rw [take_count HC.out x, HG.out c, HG.out x]
        by_cases e : x = c
        · subst e; simp
        · rw [if_neg e, if_neg e]; simp
      case measure => simp [intOf]; omega
    · have hfull : ls.take k = ls := by rw [List.take_of_length_le (by omega)]
      rw [hfull] at HG
      have HC : Hid (∀ c, g c = cntR op c) := Lib.hid (fun c => by rw [HG.out c]; unfold cntR; rw [HP.out])
      have k100 : wr.cell? ⟨H, 100, none⟩ = some (.int .i64 (cntR op 100)) := by rw [← HC.out 100]; exact (i5 100 (by omega)).1
      have k110 : wr.cell? ⟨H, 110, none⟩ = some (.int .i64 (cntR op 110)) := by rw [← HC.out 110]; exact (i5 110 (by omega)).1
      have k97 : wr.cell? ⟨H, 97, none⟩ = some (.int .i64 (cntR op 97)) := by rw [← HC.out 97]; exact (i5 97 (by omega)).1
      have k109 : wr.cell? ⟨H, 109, none⟩ = some (.int .i64 (cntR op 109)) := by rw [← HC.out 109]; exact (i5 109 (by omega)).1
      have k101 : wr.cell? ⟨H, 101, none⟩ = some (.int .i64 (cntR op 101)) := by rw [← HC.out 101]; exact (i5 101 (by omega)).1
      have k113 : wr.cell? ⟨H, 113, none⟩ = some (.int .i64 (cntR op 113)) := by rw [← HC.out 113]; exact (i5 113 (by omega)).1
      have k107 : wr.cell? ⟨H, 107, none⟩ = some (.int .i64 (cntR op 107)) := by rw [← HC.out 107]; exact (i5 107 (by omega)).1
      have k115 : wr.cell? ⟨H, 115, none⟩ = some (.int .i64 (cntR op 115)) := by rw [← HC.out 115]; exact (i5 115 (by omega)).1
      have k98 : wr.cell? ⟨H, 98, none⟩ = some (.int .i64 (cntR op 98)) := by rw [← HC.out 98]; exact (i5 98 (by omega)).1
      have k105 : wr.cell? ⟨H, 105, none⟩ = some (.int .i64 (cntR op 105)) := by rw [← HC.out 105]; exact (i5 105 (by omega)).1
      have c0 : wr.cell? ⟨w.heap.size, 0, none⟩ = some (.int .i64 op) := (i4 0 (by omega)).1
      have c1 : wr.cell? ⟨w.heap.size, 1, none⟩ = some (.int .i64 d) := (i4 1 (by omega)).1
      have c2 : wr.cell? ⟨w.heap.size, 2, none⟩ = some (.int .i64 n) := (i4 2 (by omega)).1
      have c3 : wr.cell? ⟨w.heap.size, 3, none⟩ = some (.int .i64 m) := (i4 3 (by omega)).1
      have c4 : wr.cell? ⟨w.heap.size, 4, none⟩ = some (.int .i64 e) := (i4 4 (by omega)).1
      have c5 : wr.cell? ⟨w.heap.size, 5, none⟩ = some (.int .i64 sz) := (i4 5 (by omega)).1
      have c6 : wr.cell? ⟨w.heap.size, 6, none⟩ = some (.int .i64 imm) := (i4 6 (by omega)).1
      have r100 : 0 ≤ cntR op 100 ∧ cntR op 100 ≤ 32 := by unfold cntR; rw [HP.out]; have := List.count_le_length (a := 100) (l := ls); omega
      have r110 : 0 ≤ cntR op 110 ∧ cntR op 110 ≤ 32 := by unfold cntR; rw [HP.out]; have := List.count_le_length (a := 110) (l := ls); omega
      have r97 : 0 ≤ cntR op 97 ∧ cntR op 97 ≤ 32 := by unfold cntR; rw [HP.out]; have := List.count_le_length (a := 97) (l := ls); omega
      have r109 : 0 ≤ cntR op 109 ∧ cntR op 109 ≤ 32 := by unfold cntR; rw [HP.out]; have := List.count_le_length (a := 109) (l := ls); omega
      have r101 : 0 ≤ cntR op 101 ∧ cntR op 101 ≤ 32 := by unfold cntR; rw [HP.out]; have := List.count_le_length (a := 101) (l := ls); omega
      have r113 : 0 ≤ cntR op 113 ∧ cntR op 113 ≤ 32 := by unfold cntR; rw [HP.out]; have := List.count_le_length (a := 113) (l := ls); omega
      have r107 : 0 ≤ cntR op 107 ∧ cntR op 107 ≤ 32 := by unfold cntR; rw [HP.out]; have := List.count_le_length (a := 107) (l := ls); omega
      have r115 : 0 ≤ cntR op 115 ∧ cntR op 115 ≤ 32 := by unfold cntR; rw [HP.out]; have := List.count_le_length (a := 115) (l := ls); omega
      have r98 : 0 ≤ cntR op 98 ∧ cntR op 98 ≤ 32 := by unfold cntR; rw [HP.out]; have := List.count_le_length (a := 98) (l := ls); omega
      have r105 : 0 ≤ cntR op 105 ∧ cntR op 105 ≤ 32 := by unfold cntR; rw [HP.out]; have := List.count_le_length (a := 105) (l := ls); omega
      clear i4 i5 HC HG hfull HP
      generalize cntR op 100 = n100 at *
      generalize cntR op 110 = n110 at *
      generalize cntR op 97 = n97 at *
      generalize cntR op 109 = n109 at *
      generalize cntR op 101 = n101 at *
      generalize cntR op 113 = n113 at *
      generalize cntR op 107 = n107 at *
      generalize cntR op 115 = n115 at *
      generalize cntR op 98 = n98 at *
      generalize cntR op 105 = n105 at *
      go_wp2_with (first
        | (go_at_call_of 38 (Value.int .i64 d); refine (reg_tp _ _ _ HA0.out _).mono ?_; rintro e' w1 ⟨rfl, p10, rfl⟩)
        | (go_at_call_of 38 (Value.int .i64 n); refine (reg_tp _ _ _ HA1.out _).mono ?_; rintro e' w1 ⟨rfl, p11, rfl⟩)
        | (go_at_call_of 38 (Value.int .i64 m); refine (reg_fp _ _ _ HA2.out _).mono ?_; rintro e' w1 ⟨rfl, p12, rfl⟩))
      all_goals (go_ret; exact Gives.mk rfl (by repeat (first | exact HV2.out.1 | exact Below.refl _ _ | refine below_mo ?_ _ | refine below_al ?_ _)))
end Go.Proofs.Ytfijppclaahkmaa
namespace Go.Proofs.Ytfijppclaahkmaa
open Go.RowKit Go.Sort
set_option linter.unusedVariables false
set_option linter.unusedSimpArgs false
set_option maxRecDepth 100000 in
set_option maxHeartbeats 4000000 in
theorem rmay_3 (i : Ins) (hi : i.rng) (hn : patI i.op ≠ []) (A0 : 0 ≤ i.d ∧ i.d ≤ 31 ∧ (0 < cntR i.op 100 ∨ i.d = 0)) (A1 : 0 ≤ i.n ∧ i.n ≤ 31 ∧ (0 < cntR i.op 110 + cntR i.op 97 ∨ i.n = 0)) (A2 : 0 ≤ i.m ∧ i.m ≤ 31 ∧ (0 < cntR i.op 109 ∨ i.m = 0)) (A3 : ¬ (0 ≤ i.e ∧ i.e ≤ 31 ∧ (0 < cntR i.op 101 + cntR i.op 113 + cntR i.op 107 ∨ i.e = 0))) (w : World) : Calls Try.prog 28 #[.agg #[.int .i64 i.op, .int .i64 i.d, .int .i64 i.n, .int .i64 i.m, .int .i64 i.e, .int .i64 i.sz, .int .i64 i.imm]] w (Gives w (.bool false)) := by
  have O := Lib.hid (fun W => rpattern_any i.op W)
  have R := Lib.hid reg_prop
  obtain ⟨hlen, h256⟩ := pat_ok i.op
  have HA0 := Lib.hid A0
  have HA1 := Lib.hid A1
  have HA2 := Lib.hid A2
  have HA3 := Lib.hid A3
  clear hi A0 A1 A2 A3
  obtain ⟨op, d, n, m, e, sz, imm⟩ := i
  simp only at O hlen h256 hn HA0 HA1 HA2 HA3 ⊢
  generalize hp : patI op = ls at *
  have HP := Lib.hid hp
  clear hp
  have hs := strB_none hn
  have hsz := strB_size ls
  have hz := zero_256
  have hz2 := z256_size
  go_enter Try.func28, Try.ntmps28
  go_wp2_with (first | (go_at_call 29; refine (O.out _).mono ?_; rintro e w1 ⟨rfl, p1, rfl⟩))
  rw [store_256 _ _ (by simp [go_sem])]
  have hcnt := cnt_new (more (w.alloc (.cells #[.int .i64 op, .int .i64 d, .int .i64 n, .int .i64 m, .int .i64 e, .int .i64 sz, .int .i64 imm] 29)) p1) (w.heap.size + 1 + p1.os.size) (by simp [go_sem])
  have hin : InsAt (w.alloc (.cells #[.int .i64 op, .int .i64 d, .int .i64 n, .int .i64 m, .int .i64 e, .int .i64 sz, .int .i64 imm] 29)) w.heap.size ⟨op, d, n, m, e, sz, imm⟩ := fun k hk => by
    match k, hk with
    | 0, _ | 1, _ | 2, _ | 3, _ | 4, _ | 5, _ | 6, _ => simp [go_sem, Ins.get]
  have hinv : MInv w ((more (w.alloc (.cells #[.int .i64 op, .int .i64 d, .int .i64 n, .int .i64 m, .int .i64 e, .int .i64 sz, .int .i64 imm] 29)) p1).alloc (.cells z256 61)) (w.heap.size + 1 + p1.os.size) ⟨op, d, n, m, e, sz, imm⟩ (fun _ => 0) :=
    ⟨by repeat (first | exact Below.refl _ _ | refine below_mo ?_ _ | refine below_al ?_ _), by simp [go_sem], by omega, hin.below (by simp) (by repeat (first | exact Below.refl _ _ | refine below_mo ?_ _ | refine below_al ?_ _)), hcnt⟩
  have HINV := Lib.hid hinv
  clear hinv hcnt hin
  generalize hH : w.heap.size + 1 + p1.os.size = H at *
  have hwH : w.heap.size < H := by omega
  clear hH
  go_wp2_with fail
  go_loopw [5] (fun v5 wr => ∃ (k : Nat) (g : Nat → Int), k ≤ ls.length ∧ v5 = .int .i64 k ∧ MInv w wr H ⟨op, d, n, m, e, sz, imm⟩ g ∧ ∀ c, g c = ((ls.take k).count c : Nat)) (fun v5 _ => ls.length - (intOf v5).toNat)
  case atStart => exact ⟨0, fun _ => 0, by omega, rfl, HINV.out, fun c => by simp⟩
  case round =>
    obtain ⟨k, g, hk, rfl, hinv, hg⟩ := hrel
    have HV2 := Lib.hid hinv
    have HG := Lib.hid hg
    obtain ⟨i1, i2, i3, i4, i5⟩ := hinv
    clear i1 hg
    by_cases hlt : (k : Int) < ls.length
    · obtain ⟨c, hc⟩ := get_some' ls k (by omega)
      have hcl := h256 c (List.mem_of_getElem? hc)
      have hcr := (i5 c hcl).1
      have hfr := (i5 c hcl).2
      have hgr : 0 ≤ g c ∧ g c ≤ 32 := by rw [HG.out c]; have := List.count_le_length (a := c) (l := ls.take k); simp at this; omega
      have hks : k < (strB ls).size := by omega
      have hck := strB_get hc hcl hks
      have HC := Lib.hid hc
      clear i4 i5 hc
      go_wp2_with fail
      go_roundw
      case rel =>
        refine ⟨k + 1, _, by omega, by go_num, HV2.out.setc c hcl (g c + 1), fun x => ?_⟩
        show (if x = c then g c + 1 else g x) = _
        rw [take_count HC.out x, HG.out c, HG.out x]
        by_cases e : x = c
        · subst e; simp
        · rw [if_neg e, if_neg e]; simp
      case measure => simp [intOf]; omega
    · have hfull : ls.take k = ls := by rw [List.take_of_length_le (by omega)]
      rw [hfull] at HG
      have HC : Hid (∀ c, g c = cntR op c) := Lib.hid (fun c => by rw [HG.out c]; unfold cntR; rw [HP.out])
      have k100 : wr.cell? ⟨H, 100, none⟩ = some (.int .i64 (cntR op 100)) := by rw [← HC.out 100]; exact (i5 100 (by omega)).1
      have k110 : wr.cell? ⟨H, 110, none⟩ = some (.int .i64 (cntR op 110)) := by rw [← HC.out 110]; exact (i5 110 (by omega)).1
      have k97 : wr.cell? ⟨H, 97, none⟩ = some (.int .i64 (cntR op 97)) := by rw [← HC.out 97]; exact (i5 97 (by omega)).1
      have k109 : wr.cell? ⟨H, 109, none⟩ = some (.int .i64 (cntR op 109)) := by rw [← HC.out 109]; exact (i5 109 (by omega)).1
      have k101 : wr.cell? ⟨H, 101, none⟩ = some (.int .i64 (cntR op 101)) := by rw [← HC.out 101]; exact (i5 101 (by omega)).1
      have k113 : wr.cell? ⟨H, 113, none⟩ = some (.int .i64 (cntR op 113)) := by rw [← HC.out 113]; exact (i5 113 (by omega)).1
      have k107 : wr.cell? ⟨H, 107, none⟩ = some (.int .i64 (cntR op 107)) := by rw [← HC.out 107]; exact (i5 107 (by omega)).1
      have k115 : wr.cell? ⟨H, 115, none⟩ = some (.int .i64 (cntR op 115)) := by rw [← HC.out 115]; exact (i5 115 (by omega)).1
      have k98 : wr.cell? ⟨H, 98, none⟩ = some (.int .i64 (cntR op 98)) := by rw [← HC.out 98]; exact (i5 98 (by omega)).1
      have k105 : wr.cell? ⟨H, 105, none⟩ = some (.int .i64 (cntR op 105)) := by rw [← HC.out 105]; exact (i5 105 (by omega)).1
      have c0 : wr.cell? ⟨w.heap.size, 0, none⟩ = some (.int .i64 op) := (i4 0 (by omega)).1
      have c1 : wr.cell? ⟨w.heap.size, 1, none⟩ = some (.int .i64 d) := (i4 1 (by omega)).1
      have c2 : wr.cell? ⟨w.heap.size, 2, none⟩ = some (.int .i64 n) := (i4 2 (by omega)).1
      have c3 : wr.cell? ⟨w.heap.size, 3, none⟩ = some (.int .i64 m) := (i4 3 (by omega)).1
      have c4 : wr.cell? ⟨w.heap.size, 4, none⟩ = some (.int .i64 e) := (i4 4 (by omega)).1
      have c5 : wr.cell? ⟨w.heap.size, 5, none⟩ = some (.int .i64 sz) := (i4 5 (by omega)).1
      have c6 : wr.cell? ⟨w.heap.size, 6, none⟩ = some (.int .i64 imm) := (i4 6 (by omega)).1
      have r100 : 0 ≤ cntR op 100 ∧ cntR op 100 ≤ 32 := by unfold cntR; rw [HP.out]; have := List.count_le_length (a := 100) (l := ls); omega
      have r110 : 0 ≤ cntR op 110 ∧ cntR op 110 ≤ 32 := by unfold cntR; rw [HP.out]; have := List.count_le_length (a := 110) (l := ls); omega
      have r97 : 0 ≤ cntR op 97 ∧ cntR op 97 ≤ 32 := by unfold cntR; rw [HP.out]; have := List.count_le_length (a := 97) (l := ls); omega
      have r109 : 0 ≤ cntR op 109 ∧ cntR op 109 ≤ 32 := by unfold cntR; rw [HP.out]; have := List.count_le_length (a := 109) (l := ls); omega
      have r101 : 0 ≤ cntR op 101 ∧ cntR op 101 ≤ 32 := by unfold cntR; rw [HP.out]; have := List.count_le_length (a := 101) (l := ls); omega
      have r113 : 0 ≤ cntR op 113 ∧ cntR op 113 ≤ 32 := by unfold cntR; rw [HP.out]; have := List.count_le_length (a := 113) (l := ls); omega
      have r107 : 0 ≤ cntR op 107 ∧ cntR op 107 ≤ 32 := by unfold cntR; rw [HP.out]; have := List.count_le_length (a := 107) (l := ls); omega
      have r115 : 0 ≤ cntR op 115 ∧ cntR op 115 ≤ 32 := by unfold cntR; rw [HP.out]; have := List.count_le_length (a := 115) (l := ls); omega
      have r98 : 0 ≤ cntR op 98 ∧ cntR op 98 ≤ 32 := by unfold cntR; rw [HP.out]; have := List.count_le_length (a := 98) (l := ls); omega
      have r105 : 0 ≤ cntR op 105 ∧ cntR op 105 ≤ 32 := by unfold cntR; rw [HP.out]; have := List.count_le_length (a := 105) (l := ls); omega
      clear i4 i5 HC HG hfull HP
      generalize cntR op 100 = n100 at *
      generalize cntR op 110 = n110 at *
      generalize cntR op 97 = n97 at *
      generalize cntR op 109 = n109 at *
      generalize cntR op 101 = n101 at *
      generalize cntR op 113 = n113 at *
      generalize cntR op 107 = n107 at *
      generalize cntR op 115 = n115 at *
      generalize cntR op 98 = n98 at *
      generalize cntR op 105 = n105 at *
      go_wp2_with (first
        | (go_at_call_of 38 (Value.int .i64 d); refine (reg_tp _ _ _ HA0.out _).mono ?_; rintro e' w1 ⟨rfl, p10, rfl⟩)
        | (go_at_call_of 38 (Value.int .i64 n); refine (reg_tp _ _ _ HA1.out _).mono ?_; rintro e' w1 ⟨rfl, p11, rfl⟩)
        | (go_at_call_of 38 (Value.int .i64 m); refine (reg_tp _ _ _ HA2.out _).mono ?_; rintro e' w1 ⟨rfl, p12, rfl⟩)
        | (go_at_call_of 38 (Value.int .i64 e); refine (reg_fp _ _ _ HA3.out _).mono ?_; rintro e' w1 ⟨rfl, p13, rfl⟩))
      all_goals (go_ret; exact Gives.mk rfl (by repeat (first | exact HV2.out.1 | exact Below.refl _ _ | refine below_mo ?_ _ | refine below_al ?_ _)))
end Go.Proofs.Ytfijppclaahkmaa
