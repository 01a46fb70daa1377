/- Walks: slices.Grow of nil, slices.Concat of two rows of numbers. Conditions: they are short. -/
import Derived.Test.YtajaglhlmoblnaaLiveDel
import Derived.OwnWalk
import Derived.Maps.RangeWalk
import Derived.Lib.AppendZerosOnto
namespace Go.Proofs.Ytajaglhlmoblnaa
open Go.RowKit Go.Sort Go.Lib
set_option linter.unusedVariables false
set_option linter.unusedSimpArgs false
theorem info_int : (Try.prog.info? 3).map (fun i => (i.zero, i.size, i.bytes)) = some (some (.int .i64 0), 1, 8) := by kernel_rfl
theorem grow_zero (w : World) : Calls Try.prog 19 #[.slice none 0 0, .int .i64 0] w fun e w' => e = .returned (.slice none 0 0) ∧ w = w' := by
  go_enter Try.func19, Try.ntmps19
  go_wp2
  go_ret
  exact ⟨rfl, rfl⟩
set_option maxHeartbeats 1000000 in
theorem grow_pos (n : Nat) (h0 : 0 < n) (hn : n ≤ 100) (w : World) : Calls Try.prog 19 #[.slice none 0 0, .int .i64 n] w fun e w' => ∃ b G, e = .returned (.slice (some ⟨b, 0, none⟩) 0 G) ∧ (∃ p : Regrown, w' = more w p) ∧ w'.ownsRow w.heap.size 3 1 (.slice (some ⟨b, 0, none⟩) 0 G) 0 [] ∧ n ≤ G := by
  obtain ⟨i0, hi, hz0, hz1, hz2⟩ := info_parts info_int
  have hrz := fun ty => Lib.run_append_grow_zeros (P := Try.prog) w 27 3 ty 3 i0 (.int .i64 0) .i64 .i64 Try.underlying27 Try.underlying3 hi hz0 none 0 0 [] (by rw [hz1]; exact run_firstCells_none w.drew 1 0 0 0) n h0 (by omega) (by omega) (by omega) (by rw [hz2]; omega) (by rw [hz2]; exact growslice_fits (by omega) (by omega))
  rw [Nat.zero_add] at hrz
  have hG := grownCap_ge w n 0 3
  have hGm := grownCap_le_maxLen w n 0 3 (by unfold maxLen; omega)
  generalize grownCap w n 0 3 = G at hrz hG hGm
  have HRZ := Lib.hid hrz
  have hGm2 : G ≤ 9223372036854775807 := hGm
  clear hrz
  go_enter Try.func19, Try.ntmps19
  go_wp2_with (at_builtin; refine Lib.wpList_append_run _ rfl _ _ _ _ rfl _ _ rfl rfl _ _ (HRZ.out _) ?_)
  all_goals
    go_ret
    refine ⟨w.heap.size, G, rfl, more_of_below (below_dr (below_al (Below.refl _ _) _)), ⟨rfl, .inr ⟨w.heap.size, G, _, rfl, Nat.le_refl _, heap_alloc_new w _, Nat.zero_le _, hGm, ?_, by simp⟩⟩, hG⟩
    simp [Builtin.zeroCells]
    omega
/-- numbers lie so. -/
def NumsAt (w : World) (b : Nat) (l : List Int) : Prop := ∀ t x, l[t]? = some x → w.cell? ⟨b, t, none⟩ = some (.int .i64 x)
theorem NumsAt.news {w : World} {b : Nat} {l : List Int} (h : NumsAt w b l) : ∀ j u, (l.map (Value.int .i64))[j]? = some u → w.cell? ((⟨b, 0, none⟩ : Addr).add j) = some u := by
  intro j u hu
  rw [List.getElem?_map] at hu
  obtain ⟨x, hx, rfl⟩ := Option.map_eq_some_iff.1 hu
  rw [Addr.add_lit, Nat.zero_add]
  exact h j x hx
theorem NumsAt.below {w w' : World} {b : Nat} {l : List Int} (h : NumsAt w b l) (hb : Below w.heap.size w w') : NumsAt w' b l := fun t x ht =>
  (hb.cell (p := ⟨b, t, none⟩) (cell_lt2 (h t x ht))).trans (h t x ht)
theorem NumsAt.grown {w w' : World} {b g : Nat} {l : List Int} (h : NumsAt w b l) (hg : w.grownBy w' (some g)) (hne : b ≠ g) : NumsAt w' b l := fun t x ht => by
  have hlt := cell_lt2 (h t x ht)
  have := hg.block b hlt (fun e => hne (Option.some.inj e))
  rw [← h t x ht]
  simp [World.cell?, this]
theorem below_grown {a w w1 : World} {g : Nat} (hb : Below a.heap.size a w) (hg : w.grownBy w1 (some g)) (hB : a.heap.size ≤ g) : Below a.heap.size a w1 :=
  hb.grown hg hb.size (fun k hk => by cases hk; exact hB)
set_option maxHeartbeats 2000000 in
theorem cat_zero (S b1 b2 c1 c2 : Nat) (w : World) (h0 : w.cell? ⟨S, 0, none⟩ = some (.slice (some ⟨b1, 0, none⟩) 0 c1)) (h1 : w.cell? ⟨S, 1, none⟩ = some (.slice (some ⟨b2, 0, none⟩) 0 c2)) :
    Calls Try.prog 14 #[.slice (some ⟨S, 0, none⟩) 2 2] w fun e w' => e = .returned (.slice none 0 0) ∧ w = w' := by
  have GZ := Lib.hid (fun W => grow_zero W)
  obtain ⟨i0, hi, hz0, hz1, hz2⟩ := info_parts info_int
  have hap : ∀ (W : World) (ty : TypeId) (b c : Nat), (Builtin.append_ #[27, 27] ty #[.slice none 0 0, .slice (some ⟨b, 0, none⟩) 0 c]).run Try.prog W = .ok (.slice none 0 0) W := fun W ty b c => by
    have hf := run_firstCells_some (P := Try.prog) W i0.size 0 ⟨b, 0, none⟩ 0 c [] (by simp) (by simp)
    simp [Builtin.append_, run_underlying Try.underlying27, run_underlying Try.underlying3, sizeOf, typeInfo, hi, Builtin.lenOf, hf]
  go_enter Try.func14, Try.ntmps14
  go_wp2
  refine wp_loop_rounds 3 ?_; rw [rounds_succ]
  go_wp2; rw [rounds_succ]
  go_wp2; rw [rounds_succ]
  go_wp2_with (go_at_call 19; refine (GZ.out _).mono ?_; rintro e w1 ⟨rfl, rfl⟩)
  refine wp_loop_rounds 3 ?_; rw [rounds_succ]
  go_wp2_with (at_builtin; refine Lib.wpList_append_run _ rfl _ _ _ _ rfl _ _ rfl rfl _ _ (hap _ _ _ _) ?_); rw [rounds_succ]
  go_wp2_with (at_builtin; refine Lib.wpList_append_run _ rfl _ _ _ _ rfl _ _ rfl rfl _ _ (hap _ _ _ _) ?_); rw [rounds_succ]
  go_wp2
  go_ret
  exact ⟨rfl, rfl⟩
theorem cell_grown {w w' : World} {c g k : Nat} {v : Value} (h : w.cell? ⟨c, k, none⟩ = some v) (hg : w.grownBy w' (some g)) (hne : c ≠ g) : w'.cell? ⟨c, k, none⟩ = some v := by
  have := hg.block c (cell_lt2 h) (fun e => hne (Option.some.inj e))
  rw [← h]
  simp [World.cell?, this]
theorem cell_below {w w' : World} {c k : Nat} {v : Value} (h : w.cell? ⟨c, k, none⟩ = some v) (hb : Below w.heap.size w w') : w'.cell? ⟨c, k, none⟩ = some v := (hb.cell (p := ⟨c, k, none⟩) (cell_lt2 h)).trans h
theorem owns_nums {w : World} {base g n cap : Nat} {l : List Int} {xs : List Value} (h : w.ownsRow base 3 1 (.slice (some ⟨g, 0, none⟩) n cap) n xs) (hx : xs = l.map (Value.int .i64)) : NumsAt w g l := fun t x ht => by
  have hl := h.1
  rw [hx] at hl
  have htn := (List.getElem?_eq_some_iff.1 ht).1
  simp at hl
  rw [h.cellAt t (by omega), hx, List.getElem?_map, ht]
  rfl
set_option maxHeartbeats 2000000 in
theorem cat_pos (S b1 b2 c1 c2 : Nat) (l1 l2 : List Int) (hl1 : l1.length ≤ 3) (hl2 : l2.length ≤ 3) (hpos : 0 < l1.length + l2.length) (w : World) (h0 : w.cell? ⟨S, 0, none⟩ = some (.slice (some ⟨b1, 0, none⟩) l1.length c1)) (h1 : w.cell? ⟨S, 1, none⟩ = some (.slice (some ⟨b2, 0, none⟩) l2.length c2)) (hn1 : NumsAt w b1 l1) (hn2 : NumsAt w b2 l2) (hb1 : b1 < w.heap.size) (hb2 : b2 < w.heap.size) :
    Calls Try.prog 14 #[.slice (some ⟨S, 0, none⟩) 2 2] w fun e w' => ∃ b G, e = .returned (.slice (some ⟨b, 0, none⟩) (l1.length + l2.length) G) ∧ (∃ p : Regrown, w' = more w p) ∧ NumsAt w' b (l1 ++ l2) ∧ w.heap.size ≤ b ∧ l1.length + l2.length ≤ G ∧ G ≤ 9223372036854775807 := by
  have GP := Lib.hid (fun (x : Int) (hx : x = ((l1.length + l2.length : Nat) : Int)) W => (by subst hx; exact grow_pos (l1.length + l2.length) hpos (by omega) W : Calls Try.prog 19 #[.slice none 0 0, .int .i64 x] W fun e w' => ∃ b G, e = .returned (.slice (some ⟨b, 0, none⟩) 0 G) ∧ (∃ p : Regrown, w' = more W p) ∧ w'.ownsRow W.heap.size 3 1 (.slice (some ⟨b, 0, none⟩) 0 G) 0 [] ∧ l1.length + l2.length ≤ G))
  obtain ⟨i0, hi, hz0, hz1, hz2⟩ := info_parts info_int
  have HS := cell_lt2 h0
  have H1 := Lib.hid h1
  have H0 := Lib.hid h0
  have HN1 := Lib.hid hn1
  have HN2 := Lib.hid hn2
  have HI := Lib.hid hi
  have HZ := Lib.hid hz1
  clear hn1 hn2 hz0 hz2 hi hz1
  generalize hq1 : l1.length = n1 at *
  generalize hq2 : l2.length = n2 at *
  replace hq1 := Lib.hid hq1
  replace hq2 := Lib.hid hq2
  go_enter Try.func14, Try.ntmps14
  go_wp2
  refine wp_loop_rounds 3 ?_; rw [rounds_succ]
  go_wp2; rw [rounds_succ]
  go_wp2; rw [rounds_succ]
  go_wp2_with (go_at_call 19; refine (GP.out _ ?_ _).mono ?_; omega; rintro e w1 ⟨b, G, rfl, ⟨p, rfl⟩, how, hG⟩)
  have hbl := more_below w p
  generalize hW : more w p = W1 at how hbl ⊢
  have HW := Lib.hid hW
  clear hW
  have hb0 : w.heap.size ≤ b := by
    rcases how.2 with ⟨h, _⟩ | ⟨g', _, _, h, hg, _⟩
    · simp at h
    · simp only [Value.slice.injEq, Option.some.injEq, Addr.mk.injEq, and_true, true_and] at h
      obtain ⟨rfl, _⟩ := h
      exact hg
  have hGm : G ≤ 9223372036854775807 := by
    rcases how.2 with ⟨h, _⟩ | ⟨g', cap', _, h, hg, _, _, hm, _⟩
    · simp at h
    · simp only [Value.slice.injEq, Option.some.injEq, Addr.mk.injEq, and_true, true_and] at h
      obtain ⟨_, rfl⟩ := h
      exact hm
  replace h0 := cell_below H0.out hbl
  replace h1 := cell_below H1.out hbl
  have N1 := Lib.hid (HN1.out.below hbl)
  have N2 := Lib.hid (HN2.out.below hbl)
  have HOW := Lib.hid how
  have HBL := Lib.hid hbl
  clear how hbl
  refine wp_loop_rounds 3 ?_; rw [rounds_succ]
  go_wp2_with (at_builtin; refine wpList_append_fits _ rfl _ _ 27 rfl w.heap.size 3 i0 1 Try.underlying27 HI.out HZ.out b 0 G [] rfl HOW.out ⟨b1, 0, none⟩ n1 c1 (l1.map (Value.int .i64)) rfl (by simp [hq1.out]) N1.out.news (ints_oneCell .i64 l1) (by omega) ?_; intro w2 own2 grow2; go_frame)
  simp only [Nat.zero_add, List.nil_append] at own2 ⊢
  have g1 := cell_grown h1 grow2 (by omega)
  have N3 := Lib.hid (N2.out.grown grow2 (by omega))
  have HO2 := Lib.hid own2
  have HB2 := Lib.hid (below_grown HBL.out grow2 hb0)
  clear own2 h0 h1 HOW N1 N2 H0 H1 GP
  rw [rounds_succ]
  go_wp2_with (at_builtin; refine wpList_append_fits _ rfl _ _ 27 rfl w.heap.size 3 i0 1 Try.underlying27 HI.out HZ.out b n1 G (l1.map (Value.int .i64)) rfl HO2.out ⟨b2, 0, none⟩ n2 c2 (l2.map (Value.int .i64)) rfl (by simp [hq2.out]) N3.out.news (ints_oneCell .i64 l2) (by omega) ?_; intro w3 own3 grow3; go_frame)
  rw [rounds_succ]
  have HO3 := Lib.hid own3
  have HB3 := Lib.hid (below_grown HB2.out grow3 hb0)
  clear own3 grow3
  go_wp2
  go_ret
  refine ⟨b, G, rfl, more_of_below HB3.out, owns_nums HO3.out (by simp), hb0, hG, hGm⟩
end Go.Proofs.Ytajaglhlmoblnaa
