/- Walk: a struct of numbers with names that are unlike, union true. Condition: what came in lies in memory. -/
import Derived.Test.YtjioinmiglblmaaKindFields
namespace Go.Proofs.Ytjioinmiglblmaa
open Go.RowKit Go.Sort
set_option linter.unusedVariables false
set_option linter.unusedSimpArgs false
set_option maxRecDepth 100000 in
set_option maxHeartbeats 4000000 in
theorem kindFields_true (l : List Int) (a : Option Addr) (c : Nat) (pk : Bool) (x : Nat) (hx : x < 256) (w : World) (hI : IntsAt w .u8 a l c) : Calls Try.prog 12 #[.slice a l.length c, .bool pk, .bool true, .int .u8 x] w fun e w' => e = .returned (.bool true) ∧ Below w.heap.size w w' := by
  have A := Lib.hid awake_any
  obtain ⟨i0, hi0, hz0, hz1, hz2⟩ := info_parts fd_info
  have hl1 := hI.1
  have hl2 := hI.2.1
  go_enter Try.func12, Try.ntmps12
  go_wp2_with fail
  go_loopw [10] (fun i wr => ∃ k : Nat, k ≤ l.length ∧ k ≤ 26 ∧ i = .int .i64 k ∧ ∃ v, FInv w wr 4 pk (szF l) k v) (fun i _ => l.length - (intOf i).toNat)
  case atStart => exact ⟨0, by omega, by omega, rfl, .slice none 0 0, by repeat (first | exact Below.refl _ _ | refine below_mo ?_ _ | refine below_al ?_ _ | refine below_st ?_ (by simp) _), by simp [go_sem], by simp [go_sem], by simp [go_sem], by simp [go_sem], by simp [go_sem], by simp [go_sem], by simp [go_sem], by simp [go_sem], World.ownsRow_nil _ _ _ _⟩
  case round =>
    obtain ⟨k, hk, hk2, rfl, v, hF⟩ := hrel
    obtain ⟨f0, f1, f2, f3, f4, f5, f6, f7, f8, f9⟩ := hF
    have F0 := Lib.hid f0
    have F9 := Lib.hid f9
    clear f0 f9
    by_cases hgo : (k : Int) < l.length ∧ (k : Int) < 26
    · obtain ⟨hlt, hlt2⟩ := hgo
      obtain ⟨b, off, rfl, hb, hc⟩ := hI.2.2.1 (by omega)
      obtain ⟨y, hy⟩ := get_some l k (by omega)
      have hy1 := hI.2.2.2 y (List.mem_of_getElem? hy)
      have hy2 : 0 ≤ y ∧ y ≤ 255 := by simpa [Lit.wf, IntKind.min, IntKind.max, IntKind.bits, IntKind.signed] using hy1
      have hyc : wr.cell? ⟨b, off + k, none⟩ = some (.int .u8 y) := (F0.out.cell (p := ⟨b, off + k, none⟩) hb).trans (hc k y hy)
      have hb2 : b < wr.heap.size := by have := F0.out.size; omega
      have hw1 : IntKind.i64.wrap (97 + (k : Int)) = 97 + k := by rw [IntKind.wrap_i64]; omega
      have hw2 : IntKind.u8.wrap (97 + (k : Int)) = 97 + k := by simp [IntKind.wrap, IntKind.bits, IntKind.signed]; omega
      have hcv := run_name wr k
      have hse := szF_eq l k y hy hy2.1
      have hr0 : 0 ≤ y % 4 := by omega
      have hr1 : y % 4 < 4 := by omega
      have v0 : ((wr.alloc (.cells #[.int .u8 (97 + (k : Int)), .int .u8 95] 5)).alloc (.cells #[.string (nmK k), .int .i64 1, .int .i64 (szF l k), .bool false, .slice none 0 0, .int .i64 0, .slice none 0 0, .bool false, .int .i64 0] 49)).drew.cell? ⟨w.heap.size, 0, none⟩ = some (.int .i64 4) := by simp [go_sem, f1, f2, f3, f4, f5, f6, f7, f8, (show w.heap.size < wr.heap.size + 1 by omega)]
      have v1 : ((wr.alloc (.cells #[.int .u8 (97 + (k : Int)), .int .u8 95] 5)).alloc (.cells #[.string (nmK k), .int .i64 1, .int .i64 (szF l k), .bool false, .slice none 0 0, .int .i64 0, .slice none 0 0, .bool false, .int .i64 0] 49)).drew.cell? ⟨w.heap.size, 1, none⟩ = some (.int .i64 0) := by simp [go_sem, f1, f2, f3, f4, f5, f6, f7, f8, (show w.heap.size < wr.heap.size + 1 by omega)]
      have v2 : ((wr.alloc (.cells #[.int .u8 (97 + (k : Int)), .int .u8 95] 5)).alloc (.cells #[.string (nmK k), .int .i64 1, .int .i64 (szF l k), .bool false, .slice none 0 0, .int .i64 0, .slice none 0 0, .bool false, .int .i64 0] 49)).drew.cell? ⟨w.heap.size, 2, none⟩ = some (.bool pk) := by simp [go_sem, f1, f2, f3, f4, f5, f6, f7, f8, (show w.heap.size < wr.heap.size + 1 by omega)]
      have v3 : ((wr.alloc (.cells #[.int .u8 (97 + (k : Int)), .int .u8 95] 5)).alloc (.cells #[.string (nmK k), .int .i64 1, .int .i64 (szF l k), .bool false, .slice none 0 0, .int .i64 0, .slice none 0 0, .bool false, .int .i64 0] 49)).drew.cell? ⟨w.heap.size, 3, none⟩ = some (v) := by simp [go_sem, f1, f2, f3, f4, f5, f6, f7, f8, (show w.heap.size < wr.heap.size + 1 by omega)]
      have v4 : ((wr.alloc (.cells #[.int .u8 (97 + (k : Int)), .int .u8 95] 5)).alloc (.cells #[.string (nmK k), .int .i64 1, .int .i64 (szF l k), .bool false, .slice none 0 0, .int .i64 0, .slice none 0 0, .bool false, .int .i64 0] 49)).drew.cell? ⟨w.heap.size, 4, none⟩ = some (.int .i64 0) := by simp [go_sem, f1, f2, f3, f4, f5, f6, f7, f8, (show w.heap.size < wr.heap.size + 1 by omega)]
      have v5 : ((wr.alloc (.cells #[.int .u8 (97 + (k : Int)), .int .u8 95] 5)).alloc (.cells #[.string (nmK k), .int .i64 1, .int .i64 (szF l k), .bool false, .slice none 0 0, .int .i64 0, .slice none 0 0, .bool false, .int .i64 0] 49)).drew.cell? ⟨w.heap.size, 5, none⟩ = some (.slice none 0 0) := by simp [go_sem, f1, f2, f3, f4, f5, f6, f7, f8, (show w.heap.size < wr.heap.size + 1 by omega)]
      have v6 : ((wr.alloc (.cells #[.int .u8 (97 + (k : Int)), .int .u8 95] 5)).alloc (.cells #[.string (nmK k), .int .i64 1, .int .i64 (szF l k), .bool false, .slice none 0 0, .int .i64 0, .slice none 0 0, .bool false, .int .i64 0] 49)).drew.frozen? ⟨w.heap.size, 3, none⟩ = false := by simp [go_sem, f1, f2, f3, f4, f5, f6, f7, f8, (show w.heap.size < wr.heap.size + 1 by omega)]
      have v7 : ((wr.alloc (.cells #[.int .u8 (97 + (k : Int)), .int .u8 95] 5)).alloc (.cells #[.string (nmK k), .int .i64 1, .int .i64 (szF l k), .bool false, .slice none 0 0, .int .i64 0, .slice none 0 0, .bool false, .int .i64 0] 49)).drew.heap.size = wr.heap.size + 1 + 1 := by simp [go_sem, f1, f2, f3, f4, f5, f6, f7, f8, (show w.heap.size < wr.heap.size + 1 by omega)]
      have hbw : Below w.heap.size w ((wr.alloc (.cells #[.int .u8 (97 + (k : Int)), .int .u8 95] 5)).alloc (.cells #[.string (nmK k), .int .i64 1, .int .i64 (szF l k), .bool false, .slice none 0 0, .int .i64 0, .slice none 0 0, .bool false, .int .i64 0] 49)).drew := by repeat (first | exact F0.out | refine below_dr ?_ | refine below_mo ?_ _ | refine below_al ?_ _)
      have hown : ((wr.alloc (.cells #[.int .u8 (97 + (k : Int)), .int .u8 95] 5)).alloc (.cells #[.string (nmK k), .int .i64 1, .int .i64 (szF l k), .bool false, .slice none 0 0, .int .i64 0, .slice none 0 0, .bool false, .int .i64 0] 49)).drew.ownsRow (w.heap.size + 1) 49 9 v k (cellsK (szF l) k) := ((F9.out.alloc _).alloc _).drew
      have hnw : ∀ j u, (clK (szF l) k)[j]? = some u → ((wr.alloc (.cells #[.int .u8 (97 + (k : Int)), .int .u8 95] 5)).alloc (.cells #[.string (nmK k), .int .i64 1, .int .i64 (szF l k), .bool false, .slice none 0 0, .int .i64 0, .slice none 0 0, .bool false, .int .i64 0] 49)).drew.cell? ((⟨wr.heap.size + 1, 0, none⟩ : Addr).add j) = some u := by
        have h := World.news_of_block (fr := (0, 0)) (heap_alloc_new (wr.alloc (.cells #[.int .u8 (97 + (k : Int)), .int .u8 95] 5)) (.cells #[.string (nmK k), .int .i64 1, .int .i64 (szF l k), .bool false, .slice none 0 0, .int .i64 0, .slice none 0 0, .bool false, .int .i64 0] 49))
        rw [(show (wr.alloc (.cells #[.int .u8 (97 + (k : Int)), .int .u8 95] 5)).heap.size = wr.heap.size + 1 by simp [go_sem])] at h
        exact h
      have HV := Lib.hid (And.intro hbw (And.intro hown (And.intro hnw (And.intro v0 (And.intro v1 (And.intro v2 (And.intro v3 (And.intro v4 (And.intro v5 (And.intro v6 v7))))))))))
      clear hbw hown hnw v0 v1 v2 v3 v4 v5 v6 v7
      go_wp2_with fail
      go_region_law (refine step_append_some rfl (.tmp 28) (.tmp 43) 38 rfl (w.heap.size + 1) 49 i0 _ 9 112 Try.underlying38 hi0 hz0 hz1 hz2 rfl (by decide) v k (cellsK (szF l) k) (by simp [Act.eval, Act.put]) HV.out.2.1 ⟨wr.heap.size + 1, 0, none⟩ 1 1 (clK (szF l) k) (by simp [Act.eval, Act.put]) rfl HV.out.2.2.1 (clK_one _ _) (by omega) (by unfold maxLen; omega) (by omega) (by rw [HV.out.2.2.2.2.2.2.2.2.2.2]; omega) ?_; intro g cap w1 hown1 hgrow1 hat1 hlt1; obtain ⟨eb, eo, _, e0, e1, e2, e3, e4, e5, e6, e7⟩ := HV.out; have ku := own_keep eo hgrow1 (b := w.heap.size) (by omega) (by rw [e7]; omega); have k0 := (ku.1 0).trans e0; have k1 := (ku.1 1).trans e1; have k2 := (ku.1 2).trans e2; have k3 := (ku.1 3).trans e3; have k4 := (ku.1 4).trans e4; have k5 := (ku.1 5).trans e5; have k6 := (ku.2 3).trans e6; have HB1 := Lib.hid (own_below eb eo hgrow1 (by omega)); have HO1 := Lib.hid hown1; have hs1 := hgrow1.size; rw [e7] at hs1; clear ku eb eo e0 e1 e2 e3 e4 e5 e6 e7 hown1 hgrow1 hat1)
      all_goals
        go_wp2_with fail
        go_roundw
        case rel => exact ⟨k + 1, by omega, by omega, by go_num, .slice (some ⟨g, 0, none⟩) (k + 1) cap, below_st HB1.out (by simp) _, by simp; omega, by rw [cell_upd, if_neg (by omega)]; exact k0, by rw [cell_upd, if_neg (by omega)]; exact k1, by rw [cell_upd, if_neg (by omega)]; exact k2, by rw [cell_upd, if_pos rfl, k3]; rfl, by rw [cell_upd, if_neg (by omega)]; exact k4, by rw [cell_upd, if_neg (by omega)]; exact k5, by rw [World.frozen?_setCell]; exact k6, own_st HO1.out (by simp) _⟩
        case measure => simp [intOf]; omega
    · obtain ⟨fa, fc, rfl, g1, g2, hT⟩ := tyK_at kdK4 pk (szF_ok l) F9.out (by omega)
      have S := Lib.hid (fun W (hW : Below wr.heap.size wr W) => Sound_any 2 _ _ W (hT.below hW))
      unfold Raw.val at S
      simp only at S
      have hdec : (decide ((k : Int) < l.length) && decide ((k : Int) < 26)) = false := by simp; omega
      by_cases h0 : k = 0
      · subst h0
        rw [show fsK (szF l) 0 = [] from rfl, fsK_zero kdK4 pk] at S
        have e0 : ¬ (0 : Int) < l.length := by omega
        go_wp2_with (first
          | (go_at_call 19; refine (A.out _).mono ?_; rintro e w1 ⟨rfl, p1, rfl⟩)
          | (go_at_call 22; refine (S.out _ (by repeat (first | exact Below.refl _ _ | refine below_mo ?_ _ | refine below_al ?_ _))).mono ?_; rintro e w1 ⟨rfl, p2, rfl⟩))
        all_goals (go_ret; exact ⟨by simp, (by repeat (first | exact F0.out | exact Below.refl _ _ | refine below_mo ?_ _ | refine below_al ?_ _))⟩)
      · obtain ⟨g, rfl, gl, gb⟩ := g2 (by omega)
        rw [fsK_sound (szF_ok l) kdK4 pk k (by omega) hk2] at S
        have hk0 : (k : Int) ≠ 0 := by omega
        by_cases e0 : (k : Int) < l.length
        all_goals
          have e1 : (k : Int) < l.length → ¬ (k : Int) < 26 := by omega
          first | (have e2 := e1 e0) | skip
          clear e1
          go_wp2_with (first
            | (go_at_call 22; refine (S.out _ (by repeat (first | exact Below.refl _ _ | refine below_mo ?_ _ | refine below_al ?_ _))).mono ?_; rintro e w1 ⟨rfl, p1, rfl⟩))
          obtain ⟨ck0, ck1⟩ : 0 ≤ (x : Int) % k ∧ (x : Int) % k < k := ⟨Int.emod_nonneg _ (by omega), Int.emod_lt_of_pos _ (by omega)⟩
          obtain ⟨c, hcx⟩ : ∃ c : Nat, (x : Int) % k = c := ⟨((x : Int) % k).toNat, by omega⟩
          rw [hcx] at ck0 ck1 ⊢
          have G := fun (o : Nat) (ho : o < 9) => (F9.out.cellAt (c * 9 + o) (by omega)).trans (cellsK_get (szF l) c o ho k (by omega))
          have c0 : wr.cell? ⟨g, c * 9, none⟩ = some (.string (nmK c)) := (G 0 (by omega)).trans rfl
          have c1 : wr.cell? ⟨g, c * 9 + 1, none⟩ = some (.int .i64 1) := (G 1 (by omega)).trans rfl
          have c2 : wr.cell? ⟨g, c * 9 + 2, none⟩ = some (.int .i64 (szF l c)) := (G 2 (by omega)).trans rfl
          have c3 : wr.cell? ⟨g, c * 9 + 3, none⟩ = some (.bool false) := (G 3 (by omega)).trans rfl
          have c4 : wr.cell? ⟨g, c * 9 + 4, none⟩ = some (.slice none 0 0) := (G 4 (by omega)).trans rfl
          have c5 : wr.cell? ⟨g, c * 9 + 5, none⟩ = some (.int .i64 0) := (G 5 (by omega)).trans rfl
          have c6 : wr.cell? ⟨g, c * 9 + 6, none⟩ = some (.slice none 0 0) := (G 6 (by omega)).trans rfl
          have c7 : wr.cell? ⟨g, c * 9 + 7, none⟩ = some (.bool false) := (G 7 (by omega)).trans rfl
          have c8 : wr.cell? ⟨g, c * 9 + 8, none⟩ = some (.int .i64 0) := (G 8 (by omega)).trans rfl
          clear G
          have zA : w.heap.size < wr.heap.size + p1.os.size := by omega
          have zB : g < wr.heap.size + p1.os.size := by omega
          have v0 : ((more wr p1).alloc (.cells #[.string (nmK c), .int .i64 1, .int .i64 (szF l c), .bool false, .slice none 0 0, .int .i64 0, .slice none 0 0, .bool false, .int .i64 0] 49)).drew.cell? ⟨w.heap.size, 0, none⟩ = some (.int .i64 4) := by simp [go_sem, f1, f2, f3, f4, f5, f6, f7, f8, zA]
          have v1 : ((more wr p1).alloc (.cells #[.string (nmK c), .int .i64 1, .int .i64 (szF l c), .bool false, .slice none 0 0, .int .i64 0, .slice none 0 0, .bool false, .int .i64 0] 49)).drew.cell? ⟨w.heap.size, 1, none⟩ = some (.int .i64 0) := by simp [go_sem, f1, f2, f3, f4, f5, f6, f7, f8, zA]
          have v2 : ((more wr p1).alloc (.cells #[.string (nmK c), .int .i64 1, .int .i64 (szF l c), .bool false, .slice none 0 0, .int .i64 0, .slice none 0 0, .bool false, .int .i64 0] 49)).drew.cell? ⟨w.heap.size, 2, none⟩ = some (.bool pk) := by simp [go_sem, f1, f2, f3, f4, f5, f6, f7, f8, zA]
          have v3 : ((more wr p1).alloc (.cells #[.string (nmK c), .int .i64 1, .int .i64 (szF l c), .bool false, .slice none 0 0, .int .i64 0, .slice none 0 0, .bool false, .int .i64 0] 49)).drew.cell? ⟨w.heap.size, 3, none⟩ = some (.slice (some ⟨g, 0, none⟩) k fc) := by simp [go_sem, f1, f2, f3, f4, f5, f6, f7, f8, zA]
          have v4 : ((more wr p1).alloc (.cells #[.string (nmK c), .int .i64 1, .int .i64 (szF l c), .bool false, .slice none 0 0, .int .i64 0, .slice none 0 0, .bool false, .int .i64 0] 49)).drew.cell? ⟨w.heap.size, 4, none⟩ = some (.int .i64 0) := by simp [go_sem, f1, f2, f3, f4, f5, f6, f7, f8, zA]
          have v5 : ((more wr p1).alloc (.cells #[.string (nmK c), .int .i64 1, .int .i64 (szF l c), .bool false, .slice none 0 0, .int .i64 0, .slice none 0 0, .bool false, .int .i64 0] 49)).drew.cell? ⟨w.heap.size, 5, none⟩ = some (.slice none 0 0) := by simp [go_sem, f1, f2, f3, f4, f5, f6, f7, f8, zA]
          have v6 : ((more wr p1).alloc (.cells #[.string (nmK c), .int .i64 1, .int .i64 (szF l c), .bool false, .slice none 0 0, .int .i64 0, .slice none 0 0, .bool false, .int .i64 0] 49)).drew.frozen? ⟨w.heap.size, 3, none⟩ = false := by simp [go_sem, f1, f2, f3, f4, f5, f6, f7, f8, zA]
          have v7 : ((more wr p1).alloc (.cells #[.string (nmK c), .int .i64 1, .int .i64 (szF l c), .bool false, .slice none 0 0, .int .i64 0, .slice none 0 0, .bool false, .int .i64 0] 49)).drew.heap.size = wr.heap.size + p1.os.size + 1 := by simp [go_sem, f1, f2, f3, f4, f5, f6, f7, f8, zA]
          have hbw : Below w.heap.size w ((more wr p1).alloc (.cells #[.string (nmK c), .int .i64 1, .int .i64 (szF l c), .bool false, .slice none 0 0, .int .i64 0, .slice none 0 0, .bool false, .int .i64 0] 49)).drew := by repeat (first | exact F0.out | refine below_dr ?_ | refine below_mo ?_ _ | refine below_al ?_ _)
          have hown : ((more wr p1).alloc (.cells #[.string (nmK c), .int .i64 1, .int .i64 (szF l c), .bool false, .slice none 0 0, .int .i64 0, .slice none 0 0, .bool false, .int .i64 0] 49)).drew.ownsRow (w.heap.size + 1) 49 9 (.slice (some ⟨g, 0, none⟩) k fc) k (cellsK (szF l) k) := by
            refine ((F9.out.kept (row := none) ?_ (.inr (by simp [Value.ownBlock]))).alloc _).drew
            have hb := more_below wr p1
            exact ⟨hb.os, hb.tape, hb.output, hb.size, fun q hq _ => hb.block q hq⟩
          have hnw : ∀ j u, (clK (szF l) c)[j]? = some u → ((more wr p1).alloc (.cells #[.string (nmK c), .int .i64 1, .int .i64 (szF l c), .bool false, .slice none 0 0, .int .i64 0, .slice none 0 0, .bool false, .int .i64 0] 49)).drew.cell? ((⟨wr.heap.size + p1.os.size, 0, none⟩ : Addr).add j) = some u := by
            have h := World.news_of_block (fr := (0, 0)) (heap_alloc_new (more wr p1) (.cells #[.string (nmK c), .int .i64 1, .int .i64 (szF l c), .bool false, .slice none 0 0, .int .i64 0, .slice none 0 0, .bool false, .int .i64 0] 49))
            rw [more_size] at h
            exact h
          have HV := Lib.hid (And.intro hbw (And.intro hown (And.intro hnw (And.intro v0 (And.intro v1 (And.intro v2 (And.intro v3 (And.intro v4 (And.intro v5 (And.intro v6 v7))))))))))
          clear hbw hown hnw v0 v1 v2 v3 v4 v5 v6 v7
          go_region_law (refine step_append_some rfl (.tmp 65) (.tmp 71) 38 rfl (w.heap.size + 1) 49 i0 _ 9 112 Try.underlying38 hi0 hz0 hz1 hz2 rfl (by decide) (.slice (some ⟨g, 0, none⟩) k fc) k (cellsK (szF l) k) (by simp [Act.eval, Act.put]) HV.out.2.1 ⟨wr.heap.size + p1.os.size, 0, none⟩ 1 1 (clK (szF l) c) (by simp [Act.eval, Act.put]) rfl HV.out.2.2.1 (clK_one _ _) (by omega) (by unfold maxLen; omega) (by omega) (by rw [HV.out.2.2.2.2.2.2.2.2.2.2]; omega) ?_; intro g3 cap w3 hown1 hgrow1 hat1 hlt1; obtain ⟨eb, eo, _, e0', e1', e2', e3', e4', e5', e6', e7'⟩ := HV.out; have ku := own_keep eo hgrow1 (b := w.heap.size) (by omega) (by rw [e7']; omega); have k0 := (ku.1 0).trans e0'; have k1 := (ku.1 1).trans e1'; have k2 := (ku.1 2).trans e2'; have k3 := (ku.1 3).trans e3'; have k4 := (ku.1 4).trans e4'; have k5 := (ku.1 5).trans e5'; have k6 := (ku.2 3).trans e6'; have HB1 := Lib.hid (own_below eb eo hgrow1 (by omega)); have HO1 := Lib.hid hown1; have hs1 := hgrow1.size; rw [e7'] at hs1; clear ku eb eo e0' e1' e2' e3' e4' e5' e6' e7' hown1 hgrow1 hat1)
          all_goals
            generalize hW3 : w3.setCell ⟨w.heap.size, 3, none⟩ (.slice (some ⟨g3, 0, none⟩) (k + 1) cap) = W3
            have hne : ¬ g3 = w.heap.size := by have := own_caps2 HO1.out; omega
            have q0 : W3.cell? ⟨w.heap.size, 0, none⟩ = some (.int .i64 4) := by rw [← hW3, cell_upd, if_neg (by omega)]; exact k0
            have q1 : W3.cell? ⟨w.heap.size, 1, none⟩ = some (.int .i64 0) := by rw [← hW3, cell_upd, if_neg (by omega)]; exact k1
            have q2 : W3.cell? ⟨w.heap.size, 2, none⟩ = some (.bool pk) := by rw [← hW3, cell_upd, if_neg (by omega)]; exact k2
            have q3 : W3.cell? ⟨w.heap.size, 3, none⟩ = some (.slice (some ⟨g3, 0, none⟩) (k + 1) cap) := by rw [← hW3, cell_upd, if_pos rfl, k3]; rfl
            have q4 : W3.cell? ⟨w.heap.size, 4, none⟩ = some (.int .i64 0) := by rw [← hW3, cell_upd, if_neg (by omega)]; exact k4
            have q5 : W3.cell? ⟨w.heap.size, 5, none⟩ = some (.slice none 0 0) := by rw [← hW3, cell_upd, if_neg (by omega)]; exact k5
            have hs3 : w.heap.size < W3.heap.size := by rw [← hW3]; simp; omega
            have hB3 := Lib.hid (show Below w.heap.size w W3 by rw [← hW3]; exact below_st HB1.out (by simp) _)
            have hO3 : W3.ownsRow (w.heap.size + 1) 49 9 (.slice (some ⟨g3, 0, none⟩) (k + 1) cap) (k + 1) (cellsK (szF l) k ++ clK (szF l) c) := by rw [← hW3]; exact own_st HO1.out (by simp) _
            obtain ⟨fa2, fc2, hv2, _, _, hT2⟩ := row_at kdK4 pk (fs := fsK (szF l) k ++ [fdK (szF l) c]) (by rw [List.length_append, fsK_len]; rfl) ((cellsK_lay W3 (szF l) (szF_ok l) k).snoc (by rw [cellsK_len, fsK_len]) (szF l) (szF_ok l) c) hO3 (by omega)
            cases hv2
            obtain ⟨T1, T2⟩ := fsK_twice (szF_ok l) kdK4 pk k c (by omega) hk2
            have SU := Lib.hid (fun W (hW : Below W3.heap.size W3 W) => Sound_any 2 _ _ W (hT2.below hW))
            have DU := Lib.hid (fun W (hW : Below W3.heap.size W3 W) => Depth_any 2 _ _ W (hT2.below hW))
            rw [T1] at SU
            rw [T2] at DU
            unfold Raw.val at SU DU
            simp only at SU DU
            clear hT2 T1 T2 hO3 hW3 HO1 HB1 HV k0 k1 k2 k3 k4 k5 k6
            go_wp2_with (first
              | (go_at_call 19; refine (A.out _).mono ?_; rintro e w1 ⟨rfl, p5, rfl⟩)
              | (go_at_call 22; refine (SU.out _ (by repeat (first | exact Below.refl _ _ | refine below_mo ?_ _ | refine below_al ?_ _))).mono ?_; rintro e w1 ⟨rfl, p6, rfl⟩)
              | (go_at_call 24; refine (DU.out _ (by repeat (first | exact Below.refl _ _ | refine below_mo ?_ _ | refine below_al ?_ _))).mono ?_; rintro e w1 ⟨rfl, p7, rfl⟩))
            go_ret
            exact ⟨by simp, (by repeat (first | exact hB3.out | exact Below.refl _ _ | refine below_mo ?_ _ | refine below_al ?_ _))⟩
end Go.Proofs.Ytjioinmiglblmaa
