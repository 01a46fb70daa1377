/- Walk: the fixed fact of the statements on types. No condition. -/
import Derived.Test.YtjioinmiglblmaaKindAwake0
import Derived.Deep.RegionLawGrows
import Derived.Deep.RegionWith
import Derived.Lib.SmallJoins
namespace Go.Proofs.Ytjioinmiglblmaa
open Go.RowKit Go.Sort
set_option linter.unusedVariables false
set_option linter.unusedSimpArgs false
theorem FdA.keep {w w' : World} {b off : Nat} (h : ∀ o, w'.cell? ⟨b, o, none⟩ = w.cell? ⟨b, o, none⟩) (hc : FdA w b off) : FdA w' b off := by
  obtain ⟨c0, c1, c2, c3, c4, c5, c6, c7, c8⟩ := hc
  exact ⟨(h _).trans c0, (h _).trans c1, (h _).trans c2, (h _).trans c3, (h _).trans c4, (h _).trans c5, (h _).trans c6, (h _).trans c7, (h _).trans c8⟩
theorem aS1 (b : Nat) (w : World) (hb : b < w.heap.size) (hc : FdA w b 0) : Calls Try.prog 22 #[.agg #[.int .i64 3, .int .i64 0, .bool false, .slice (some ⟨b, 0, none⟩) 1 1, .int .i64 0, .slice none 0 0]] w (Gives w (.int .i64 0)) := by
  have h := Sound_any 2 (tA [fA]) _ w (tA_at w b 1 [fA] (fun i f hi => by match i, hi with | 0, hi => simpa using hi.symm) hb (by simp) (by simp) (fun i hi => by match i, hi with | 0, _ => exact hc))
  rw [aw1] at h
  exact h
theorem two_at (b fc : Nat) (w : World) (hb : b < w.heap.size) (hf : 2 ≤ fc) (hm : fc ≤ 9223372036854775807) (hc : FdA w b 0) (hd : FdA w b 9) : TyAt w 2 (tA [fA, fA]) ⟨3, 0, false, some ⟨b, 0, none⟩, 2, fc, 0, none, 0, 0⟩ :=
  tA_at w b fc [fA, fA] (fun i f hi => by match i, hi with | 0, hi => simpa using hi.symm | 1, hi => simpa using hi.symm) hb hf hm (fun i hi => by match i, hi with | 0, _ => exact hc | 1, _ => exact hd)
theorem aS2 (b fc : Nat) (w : World) (hb : b < w.heap.size) (hf : 2 ≤ fc) (hm : fc ≤ 9223372036854775807) (hc : FdA w b 0) (hd : FdA w b 9) : Calls Try.prog 22 #[.agg #[.int .i64 3, .int .i64 0, .bool false, .slice (some ⟨b, 0, none⟩) 2 fc, .int .i64 0, .slice none 0 0]] w (Gives w (.int .i64 7)) := by
  have h := Sound_any 2 (tA [fA, fA]) _ w (two_at b fc w hb hf hm hc hd)
  rw [aw2] at h
  exact h
theorem aS3 (b fc : Nat) (w : World) (hb : b < w.heap.size) (hf : 2 ≤ fc) (hm : fc ≤ 9223372036854775807) (hc : FdA w b 0) (hd : FdA w b 9) : Calls Try.prog 24 #[.agg #[.int .i64 3, .int .i64 0, .bool false, .slice (some ⟨b, 0, none⟩) 2 fc, .int .i64 0, .slice none 0 0]] w (Gives w (.int .i64 2)) := by
  have h := Depth_any 2 (tA [fA, fA]) _ w (two_at b fc w hb hf hm hc hd)
  rw [aw3] at h
  exact h
theorem aS4 (b fc : Nat) (w : World) (hb : b < w.heap.size) (hf : 2 ≤ fc) (hm : fc ≤ 9223372036854775807) (hc : FdA w b 0) (hd : FdA w b 9) : Calls Try.prog 26 #[.agg #[.int .i64 3, .int .i64 0, .bool false, .slice (some ⟨b, 0, none⟩) 2 fc, .int .i64 0, .slice none 0 0], .agg #[.int .i64 3, .int .i64 0, .bool false, .slice (some ⟨b, 0, none⟩) 2 fc, .int .i64 0, .slice none 0 0]] w (Gives w (.bool true)) := by
  have h := same_any 2 2 (tA [fA, fA]) (tA [fA, fA]) _ _ w (two_at b fc w hb hf hm hc hd) (two_at b fc w hb hf hm hc hd)
  rw [aw4] at h
  exact h
theorem fd_info : (Try.prog.info? 49).map (fun i => (i.zero, i.size, i.bytes)) = some (some (.agg #[.string ⟨#[]⟩, .int .i64 0, .int .i64 0, .bool false, .slice none 0 0, .int .i64 0, .slice none 0 0, .bool false, .int .i64 0]), 9, 112) := by kernel_rfl
theorem grow_cell {w w1 : World} (hg : w.grownBy w1 none) {b : Nat} (hlt : b < w.heap.size) : (∀ o, w1.cell? ⟨b, o, none⟩ = w.cell? ⟨b, o, none⟩) ∧ (∀ o, w1.frozen? ⟨b, o, none⟩ = w.frozen? ⟨b, o, none⟩) := by
  have h := hg.block b hlt (fun e => by cases e)
  exact ⟨fun o => by simp [World.cell?, h], fun o => by simp [World.frozen?, h]⟩
theorem fdA_cells {W : World} {b : Nat} (h : FdA W b 0) : ∀ (j : Nat) (u : Value), ([.string ⟨#[97]⟩, .int .i64 1, .int .i64 1, .bool false, .slice none 0 0, .int .i64 0, .slice none 0 0, .bool false, .int .i64 0] : List Value)[j]? = some u → W.cell? ((⟨b, 0, none⟩ : Addr).add j) = some u := by
  obtain ⟨c0, c1, c2, c3, c4, c5, c6, c7, c8⟩ := h
  intro j u hj
  match j, hj with
  | 0, hj => simp at hj; subst hj; exact c0
  | 1, hj => simp at hj; subst hj; exact c1
  | 2, hj => simp at hj; subst hj; exact c2
  | 3, hj => simp at hj; subst hj; exact c3
  | 4, hj => simp at hj; subst hj; exact c4
  | 5, hj => simp at hj; subst hj; exact c5
  | 6, hj => simp at hj; subst hj; exact c6
  | 7, hj => simp at hj; subst hj; exact c7
  | 8, hj => simp at hj; subst hj; exact c8
  | j + 9, hj => simp at hj
theorem one_cells : ∀ u ∈ ([.string ⟨#[97]⟩, .int .i64 1, .int .i64 1, .bool false, .slice none 0 0, .int .i64 0, .slice none 0 0, .bool false, .int .i64 0] : List Value), u.oneCell' = true := by
  intro u hu
  simp at hu
  rcases hu with rfl | rfl | rfl | rfl | rfl | rfl | rfl | rfl | rfl <;> rfl
/-- what the append leaves: two fields. -/
theorem two_cells {W : World} {base g cap : Nat} (h : W.ownsRow base 49 9 (.slice (some ⟨g, 0, none⟩) (1 + 1) cap) (1 + 1) ([.string ⟨#[97]⟩, .int .i64 1, .int .i64 1, .bool false, .slice none 0 0, .int .i64 0, .slice none 0 0, .bool false, .int .i64 0] ++ [.string ⟨#[97]⟩, .int .i64 1, .int .i64 1, .bool false, .slice none 0 0, .int .i64 0, .slice none 0 0, .bool false, .int .i64 0])) : FdA W g 0 ∧ FdA W g 9 := by
  have c := fun j hj => h.cellAt j hj
  unfold FdA
  simp only [Nat.zero_add]
  refine ⟨⟨?_, ?_, ?_, ?_, ?_, ?_, ?_, ?_, ?_⟩, ⟨?_, ?_, ?_, ?_, ?_, ?_, ?_, ?_, ?_⟩⟩
  all_goals exact (c _ (by omega)).trans rfl
theorem own_cap {W : World} {base g cap : Nat} {xs : List Value} (h : W.ownsRow base 49 9 (.slice (some ⟨g, 0, none⟩) (1 + 1) cap) (1 + 1) xs) : 2 ≤ cap ∧ cap ≤ 9223372036854775807 ∧ base ≤ g ∧ g < W.heap.size := by
  rcases h.2 with ⟨h, _⟩ | ⟨g', cap', cur, hv, hb, hh, h1, h2, _⟩
  · cases h
  · cases hv
    refine ⟨h1, by unfold maxLen at h2; omega, hb, ?_⟩
    rcases Nat.lt_or_ge g W.heap.size with h | h
    · exact h
    · rw [Array.getElem?_eq_none h] at hh; cases hh
set_option maxRecDepth 100000 in
set_option maxHeartbeats 2000000 in
theorem awake_any (w : World) : Calls Try.prog 19 #[] w (Gives w (.bool true)) := by
  obtain ⟨i0, hi0, hz0, hz1, hz2⟩ := info_parts fd_info
  have n5 := fun W => name_any ⟨#[97, 95, 49]⟩ (by decide) W
  rw [aw5] at n5
  have n6 := fun W => name_any ⟨#[49, 97]⟩ (by decide) W
  rw [aw6] at n6
  have N5 := Lib.hid n5
  have N6 := Lib.hid n6
  clear n5 n6
  go_enter Try.func19, Try.ntmps19
  go_wp2_with (first | (go_at_call 22; refine (aS1 w.heap.size _ (by simp [go_sem]) (by unfold FdA; simp [go_sem])).mono ?_; rintro e w1 ⟨rfl, p1, rfl⟩))
  have hA0 : FdA ((more ((w.alloc (.cells #[.string ⟨#[97]⟩, .int .i64 1, .int .i64 1, .bool false, .slice none 0 0, .int .i64 0, .slice none 0 0, .bool false, .int .i64 0] 49)).alloc (.cells #[.int .i64 3, .int .i64 0, .bool false, .slice (some ⟨w.heap.size, 0, none⟩) 1 1, .int .i64 0, .slice none 0 0] 41)) p1).alloc (.cells #[.string ⟨#[97]⟩, .int .i64 1, .int .i64 1, .bool false, .slice none 0 0, .int .i64 0, .slice none 0 0, .bool false, .int .i64 0] 49)).drew w.heap.size 0 := by unfold FdA; simp [go_sem, ↓IntWalk.iteOmega] <;> (intros; omega)
  have hlt3 : w.heap.size + 1 < w.heap.size + 1 + 1 + p1.os.size := by omega
  have hne1 : ¬ w.heap.size + 1 + 1 + p1.os.size ≤ w.heap.size := by omega
  have hne2 : ¬ w.heap.size + 1 + 1 + p1.os.size = w.heap.size := by omega
  have hA1 : FdA ((more ((w.alloc (.cells #[.string ⟨#[97]⟩, .int .i64 1, .int .i64 1, .bool false, .slice none 0 0, .int .i64 0, .slice none 0 0, .bool false, .int .i64 0] 49)).alloc (.cells #[.int .i64 3, .int .i64 0, .bool false, .slice (some ⟨w.heap.size, 0, none⟩) 1 1, .int .i64 0, .slice none 0 0] 41)) p1).alloc (.cells #[.string ⟨#[97]⟩, .int .i64 1, .int .i64 1, .bool false, .slice none 0 0, .int .i64 0, .slice none 0 0, .bool false, .int .i64 0] 49)).drew (w.heap.size + 1 + 1 + p1.os.size) 0 := by unfold FdA; simp [go_sem, hne1, hne2]
  have HA0 := Lib.hid (fdA_cells hA0)
  have HA1 := Lib.hid (fdA_cells hA1)
  clear hA0 hA1
  have hc0 : ((more ((w.alloc (.cells #[.string ⟨#[97]⟩, .int .i64 1, .int .i64 1, .bool false, .slice none 0 0, .int .i64 0, .slice none 0 0, .bool false, .int .i64 0] 49)).alloc (.cells #[.int .i64 3, .int .i64 0, .bool false, .slice (some ⟨w.heap.size, 0, none⟩) 1 1, .int .i64 0, .slice none 0 0] 41)) p1).alloc (.cells #[.string ⟨#[97]⟩, .int .i64 1, .int .i64 1, .bool false, .slice none 0 0, .int .i64 0, .slice none 0 0, .bool false, .int .i64 0] 49)).drew.cell? ⟨w.heap.size + 1, 0, none⟩ = some (.int .i64 3) := by simp [go_sem, ↓IntWalk.iteOmega] <;> (intros; omega)
  have hc1 : ((more ((w.alloc (.cells #[.string ⟨#[97]⟩, .int .i64 1, .int .i64 1, .bool false, .slice none 0 0, .int .i64 0, .slice none 0 0, .bool false, .int .i64 0] 49)).alloc (.cells #[.int .i64 3, .int .i64 0, .bool false, .slice (some ⟨w.heap.size, 0, none⟩) 1 1, .int .i64 0, .slice none 0 0] 41)) p1).alloc (.cells #[.string ⟨#[97]⟩, .int .i64 1, .int .i64 1, .bool false, .slice none 0 0, .int .i64 0, .slice none 0 0, .bool false, .int .i64 0] 49)).drew.cell? ⟨w.heap.size + 1, 1, none⟩ = some (.int .i64 0) := by simp [go_sem, ↓IntWalk.iteOmega] <;> (intros; omega)
  have hc2 : ((more ((w.alloc (.cells #[.string ⟨#[97]⟩, .int .i64 1, .int .i64 1, .bool false, .slice none 0 0, .int .i64 0, .slice none 0 0, .bool false, .int .i64 0] 49)).alloc (.cells #[.int .i64 3, .int .i64 0, .bool false, .slice (some ⟨w.heap.size, 0, none⟩) 1 1, .int .i64 0, .slice none 0 0] 41)) p1).alloc (.cells #[.string ⟨#[97]⟩, .int .i64 1, .int .i64 1, .bool false, .slice none 0 0, .int .i64 0, .slice none 0 0, .bool false, .int .i64 0] 49)).drew.cell? ⟨w.heap.size + 1, 2, none⟩ = some (.bool false) := by simp [go_sem, ↓IntWalk.iteOmega] <;> (intros; omega)
  have hc3 : ((more ((w.alloc (.cells #[.string ⟨#[97]⟩, .int .i64 1, .int .i64 1, .bool false, .slice none 0 0, .int .i64 0, .slice none 0 0, .bool false, .int .i64 0] 49)).alloc (.cells #[.int .i64 3, .int .i64 0, .bool false, .slice (some ⟨w.heap.size, 0, none⟩) 1 1, .int .i64 0, .slice none 0 0] 41)) p1).alloc (.cells #[.string ⟨#[97]⟩, .int .i64 1, .int .i64 1, .bool false, .slice none 0 0, .int .i64 0, .slice none 0 0, .bool false, .int .i64 0] 49)).drew.cell? ⟨w.heap.size + 1, 3, none⟩ = some (.slice (some ⟨w.heap.size, 0, none⟩) 1 1) := by simp [go_sem, ↓IntWalk.iteOmega] <;> (intros; omega)
  have hc4 : ((more ((w.alloc (.cells #[.string ⟨#[97]⟩, .int .i64 1, .int .i64 1, .bool false, .slice none 0 0, .int .i64 0, .slice none 0 0, .bool false, .int .i64 0] 49)).alloc (.cells #[.int .i64 3, .int .i64 0, .bool false, .slice (some ⟨w.heap.size, 0, none⟩) 1 1, .int .i64 0, .slice none 0 0] 41)) p1).alloc (.cells #[.string ⟨#[97]⟩, .int .i64 1, .int .i64 1, .bool false, .slice none 0 0, .int .i64 0, .slice none 0 0, .bool false, .int .i64 0] 49)).drew.cell? ⟨w.heap.size + 1, 4, none⟩ = some (.int .i64 0) := by simp [go_sem, ↓IntWalk.iteOmega] <;> (intros; omega)
  have hc5 : ((more ((w.alloc (.cells #[.string ⟨#[97]⟩, .int .i64 1, .int .i64 1, .bool false, .slice none 0 0, .int .i64 0, .slice none 0 0, .bool false, .int .i64 0] 49)).alloc (.cells #[.int .i64 3, .int .i64 0, .bool false, .slice (some ⟨w.heap.size, 0, none⟩) 1 1, .int .i64 0, .slice none 0 0] 41)) p1).alloc (.cells #[.string ⟨#[97]⟩, .int .i64 1, .int .i64 1, .bool false, .slice none 0 0, .int .i64 0, .slice none 0 0, .bool false, .int .i64 0] 49)).drew.cell? ⟨w.heap.size + 1, 5, none⟩ = some (.slice none 0 0) := by simp [go_sem, ↓IntWalk.iteOmega] <;> (intros; omega)
  have hfz : ((more ((w.alloc (.cells #[.string ⟨#[97]⟩, .int .i64 1, .int .i64 1, .bool false, .slice none 0 0, .int .i64 0, .slice none 0 0, .bool false, .int .i64 0] 49)).alloc (.cells #[.int .i64 3, .int .i64 0, .bool false, .slice (some ⟨w.heap.size, 0, none⟩) 1 1, .int .i64 0, .slice none 0 0] 41)) p1).alloc (.cells #[.string ⟨#[97]⟩, .int .i64 1, .int .i64 1, .bool false, .slice none 0 0, .int .i64 0, .slice none 0 0, .bool false, .int .i64 0] 49)).drew.frozen? ⟨w.heap.size + 1, 3, none⟩ = false := by simp [go_sem, ↓IntWalk.iteOmega] <;> (intros; omega)
  have hsz : ((more ((w.alloc (.cells #[.string ⟨#[97]⟩, .int .i64 1, .int .i64 1, .bool false, .slice none 0 0, .int .i64 0, .slice none 0 0, .bool false, .int .i64 0] 49)).alloc (.cells #[.int .i64 3, .int .i64 0, .bool false, .slice (some ⟨w.heap.size, 0, none⟩) 1 1, .int .i64 0, .slice none 0 0] 41)) p1).alloc (.cells #[.string ⟨#[97]⟩, .int .i64 1, .int .i64 1, .bool false, .slice none 0 0, .int .i64 0, .slice none 0 0, .bool false, .int .i64 0] 49)).drew.heap.size = w.heap.size + 1 + 1 + p1.os.size + 1 := by simp [go_sem, ↓IntWalk.iteOmega] <;> (intros; omega)
  have hbw : Below w.heap.size w ((more ((w.alloc (.cells #[.string ⟨#[97]⟩, .int .i64 1, .int .i64 1, .bool false, .slice none 0 0, .int .i64 0, .slice none 0 0, .bool false, .int .i64 0] 49)).alloc (.cells #[.int .i64 3, .int .i64 0, .bool false, .slice (some ⟨w.heap.size, 0, none⟩) 1 1, .int .i64 0, .slice none 0 0] 41)) p1).alloc (.cells #[.string ⟨#[97]⟩, .int .i64 1, .int .i64 1, .bool false, .slice none 0 0, .int .i64 0, .slice none 0 0, .bool false, .int .i64 0] 49)).drew := by repeat (first | exact Below.refl _ _ | refine below_dr ?_ | refine below_mo ?_ _ | refine below_al ?_ _)
  have HC := Lib.hid (And.intro hc0 (And.intro hc1 (And.intro hc2 (And.intro hc3 (And.intro hc4 (And.intro hc5 (And.intro hfz (And.intro hsz hbw))))))))
  clear hc0 hc1 hc2 hc3 hc4 hc5 hfz hsz hbw
  go_region_law (refine step_append_grows rfl (.tmp 10) (.tmp 15) 38 rfl 49 i0 _ 9 112 Try.underlying38 hi0 hz0 hz1 hz2 rfl (by decide) (some ⟨w.heap.size, 0, none⟩) 1 1 [.string ⟨#[97]⟩, .int .i64 1, .int .i64 1, .bool false, .slice none 0 0, .int .i64 0, .slice none 0 0, .bool false, .int .i64 0] (by simp [Act.eval, Act.put]) (by simp) (by simp) (fun b hb => by cases hb; exact HA0.out) ⟨w.heap.size + 1 + 1 + p1.os.size, 0, none⟩ 1 1 [.string ⟨#[97]⟩, .int .i64 1, .int .i64 1, .bool false, .slice none 0 0, .int .i64 0, .slice none 0 0, .bool false, .int .i64 0] (by simp [Act.eval, Act.put]) (by simp) HA1.out one_cells (by omega) (by unfold maxLen; omega) (by omega) ?_; intro v' w' hown hgrow; obtain ⟨g, cap, rfl⟩ := Joins.ownsRow_form hown (by omega); obtain ⟨e0, e1, e2, e3, e4, e5, e6, e7, e8⟩ := HC.out; have hk := grow_cell hgrow (b := w.heap.size + 1) (by rw [e7]; omega); have k0 := (hk.1 0).trans e0; have k1 := (hk.1 1).trans e1; have k2 := (hk.1 2).trans e2; have k3 := (hk.1 3).trans e3; have k4 := (hk.1 4).trans e4; have k5 := (hk.1 5).trans e5; have kf := (hk.2 3).trans e6; have hcp := own_cap hown; have HT := Lib.hid (two_cells hown); have HB := Lib.hid (e8.grown hgrow e8.size (fun g hg => by cases hg)); rw [e7] at hcp; obtain ⟨g1, g2, g3, g4⟩ := hcp; clear hown hgrow hk e0 e1 e2 e3 e4 e5 e6 e7 e8)
  all_goals
    have hn1 : w.heap.size + 1 < w'.heap.size := by omega
    have hn2 : ¬ g = w.heap.size + 1 := by omega
    have HF : Hid (∀ W : World, (∀ o, W.cell? ⟨g, o, none⟩ = w'.cell? ⟨g, o, none⟩) → FdA W g 0 ∧ FdA W g 9) := Lib.hid (fun W h => ⟨FdA.keep h HT.out.1, FdA.keep h HT.out.2⟩)
    go_wp2_with (first
      | (go_at_call 22; refine (aS2 g cap _ (by simp [go_sem] <;> omega) g1 g2 (HF.out _ (fun o => by simp [go_sem, ↓IntWalk.iteOmega, g4, hn2, World.cell?_setCell_other])).1 (HF.out _ (fun o => by simp [go_sem, ↓IntWalk.iteOmega, g4, hn2, World.cell?_setCell_other])).2).mono ?_; rintro e w1 ⟨rfl, p2, rfl⟩)
      | (go_at_call 24; refine (aS3 g cap _ (by simp [go_sem] <;> omega) g1 g2 (HF.out _ (fun o => by simp [go_sem, ↓IntWalk.iteOmega, g4, hn2, World.cell?_setCell_other])).1 (HF.out _ (fun o => by simp [go_sem, ↓IntWalk.iteOmega, g4, hn2, World.cell?_setCell_other])).2).mono ?_; rintro e w1 ⟨rfl, p3, rfl⟩)
      | (go_at_call 26; refine (aS4 g cap _ (by simp [go_sem] <;> omega) g1 g2 (HF.out _ (fun o => by simp [go_sem, ↓IntWalk.iteOmega, g4, hn2, World.cell?_setCell_other])).1 (HF.out _ (fun o => by simp [go_sem, ↓IntWalk.iteOmega, g4, hn2, World.cell?_setCell_other])).2).mono ?_; rintro e w1 ⟨rfl, p4, rfl⟩)
      | (go_at_call_of 20 (Value.string ⟨#[97, 95, 49]⟩); refine (N5.out _).mono ?_; rintro e w1 ⟨rfl, p5, rfl⟩)
      | (go_at_call_of 20 (Value.string ⟨#[49, 97]⟩); refine (N6.out _).mono ?_; rintro e w1 ⟨rfl, p6, rfl⟩))
    go_ret
    exact Gives.mk rfl (by repeat (first | exact Below.refl _ _ | exact HB.out | refine below_dr ?_ | refine below_mo ?_ _ | refine below_al ?_ _ | refine below_st ?_ (by simp) _))
end Go.Proofs.Ytjioinmiglblmaa
