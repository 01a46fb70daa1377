/- Walk: the law's fixed fact. Condition: the library's table is laid. -/
import Derived.Test.YtgghhbjaokgeeaaDoorRelLine
import Derived.Test.YtgghhbjaokgeeaaDoorRelUnion
namespace Go.Proofs.YtgghhbjaokgeeaaDoor
open Go.RowKit Go.Sort Go.Lib
set_option linter.unusedVariables false
set_option linter.unusedSimpArgs false
/-- new rows of these numbers. -/
def GivesR (w : World) (n : Nat) (R : Nat → Nat) (e : Ending) (w' : World) : Prop :=
  ∃ g, e = .returned (.slice (some ⟨g, 0, none⟩) n n) ∧ (∃ p : Regrown, w' = more w p) ∧ w.heap.size ≤ g ∧ g < w'.heap.size ∧ RowsU w' g n R
theorem GivesRows.to {w w' : World} {n : Nat} {f : Nat → Nat → Bool} {R : Nat → Nat} {e : Ending} (h : GivesRows w n f e w') (hR : ∀ i, i < n → rowN n (f i) = R i) : GivesR w n R e w' := by
  obtain ⟨g, h1, h2, h3, h4, h5⟩ := h
  exact ⟨g, h1, h2, h3, h4, h5.congr hR⟩
theorem RowsU.sl' {w : World} {g n : Nat} {R : Nat → Nat} (hn : n ≤ 64) (hR : ∀ i, R i < 18446744073709551616) (h : RowsU w g n R) : Sl w (.slice (some ⟨g, 0, none⟩) n n) n R :=
  ⟨_, g, 0, n, rfl, fun _ => rfl, Nat.le_refl _, by omega, fun i hi => by rw [Nat.zero_add]; exact (h i hi).1, hR⟩
def T3 (a b c : Nat) (i : Nat) : Nat := if i = 0 then a else if i = 1 then b else if i = 2 then c else 0
theorem T3_lt {a b c : Nat} (ha : a < 8) (hb : b < 8) (hc : c < 8) (i : Nat) : T3 a b c i < 18446744073709551616 := by
  unfold T3; split; omega; split; omega; split; omega; omega
theorem lt3 {P : Nat → Prop} (h0 : P 0) (h1 : P 1) (h2 : P 2) : ∀ i, i < 3 → P i := fun i hi => by
  rcases (show i = 0 ∨ i = 1 ∨ i = 2 by omega) with rfl | rfl | rfl <;> assumption
abbrev V3 (g : Nat) : Value := .slice (some ⟨g, 0, none⟩) 3 3
theorem new3 (w : World) : Calls Tryd.prog 16 #[.int .i64 3] w (GivesR w 3 (T3 0 0 0)) :=
  (new_any 3 (by decide) (by decide) w).mono fun _ _ h => GivesRows.to (n := 3) h (lt3 (by kernel_rfl) (by kernel_rfl) (by kernel_rfl))
theorem pair01 (w : World) (g : Nat) (h : RowsU w g 3 (T3 0 0 0)) : Calls Tryd.prog 17 #[V3 g, .int .i64 0, .int .i64 1] w (GivesR w 3 (T3 2 0 0)) :=
  (pair_any _ 3 _ 0 1 w (h.sl' (by decide) (T3_lt (by decide) (by decide) (by decide)))).mono fun _ _ h => GivesRows.to (n := 3) h (lt3 (by kernel_rfl) (by kernel_rfl) (by kernel_rfl))
theorem pair12 (w : World) (g : Nat) (h : RowsU w g 3 (T3 2 0 0)) : Calls Tryd.prog 17 #[V3 g, .int .i64 1, .int .i64 2] w (GivesR w 3 (T3 2 4 0)) :=
  (pair_any _ 3 _ 1 2 w (h.sl' (by decide) (T3_lt (by decide) (by decide) (by decide)))).mono fun _ _ h => GivesRows.to (n := 3) h (lt3 (by kernel_rfl) (by kernel_rfl) (by kernel_rfl))
theorem has01 (w : World) (g : Nat) (h : RowsU w g 3 (T3 2 4 0)) : Calls Tryd.prog 12 #[V3 g, .int .i64 0, .int .i64 1] w fun e w' => e = .returned (.bool true) ∧ w = w' :=
  (has_any _ 3 _ 0 1 w (h.sl' (by decide) (T3_lt (by decide) (by decide) (by decide)))).mono fun _ _ h => ⟨h.1.trans (by rw [show hasB 3 (T3 2 4 0) 0 1 = true by kernel_rfl]), h.2⟩
theorem has02 (w : World) (g : Nat) (h : RowsU w g 3 (T3 2 4 0)) : Calls Tryd.prog 12 #[V3 g, .int .i64 0, .int .i64 2] w fun e w' => e = .returned (.bool false) ∧ w = w' :=
  (has_any _ 3 _ 0 2 w (h.sl' (by decide) (T3_lt (by decide) (by decide) (by decide)))).mono fun _ _ h => ⟨h.1.trans (by rw [show hasB 3 (T3 2 4 0) 0 2 = false by kernel_rfl]), h.2⟩
theorem plus3 (w : World) (g : Nat) (h : RowsU w g 3 (T3 2 4 0)) : Calls Tryd.prog 24 #[V3 g] w (GivesR w 3 (T3 6 4 0)) :=
  (plus_any _ 3 _ w (h.sl' (by decide) (T3_lt (by decide) (by decide) (by decide)))).mono fun _ _ h => GivesRows.to (n := 3) h (lt3 (by kernel_rfl) (by kernel_rfl) (by kernel_rfl))
theorem has02p (w : World) (g : Nat) (h : RowsU w g 3 (T3 6 4 0)) : Calls Tryd.prog 12 #[V3 g, .int .i64 0, .int .i64 2] w fun e w' => e = .returned (.bool true) ∧ w = w' :=
  (has_any _ 3 _ 0 2 w (h.sl' (by decide) (T3_lt (by decide) (by decide) (by decide)))).mono fun _ _ h => ⟨h.1.trans (by rw [show hasB 3 (T3 6 4 0) 0 2 = true by kernel_rfl]), h.2⟩
theorem acy3 (w : World) (g : Nat) (h : RowsU w g 3 (T3 2 4 0)) : Calls Tryd.prog 25 #[V3 g] w (Gives w (.bool true)) := by
  have := acyclic_any _ 3 _ w (h.sl' (by decide) (T3_lt (by decide) (by decide) (by decide)))
  rw [show acyB (sz 3) (onF 3 (T3 2 4 0)) = true by kernel_rfl] at this
  exact this
theorem back3 (w : World) (hT : Tab w) (g : Nat) (h : RowsU w g 3 (T3 2 4 0)) : Calls Tryd.prog 19 #[V3 g] w (GivesR w 3 (T3 0 1 2)) :=
  (back_any _ 3 _ w (h.sl' (by decide) (T3_lt (by decide) (by decide) (by decide))) hT).mono fun _ _ h => GivesRows.to (n := 3) h (lt3 (by kernel_rfl) (by kernel_rfl) (by kernel_rfl))
theorem un3 (w : World) (B g g2 : Nat) (h0 : w.cell? ⟨B, 0, none⟩ = some (V3 g)) (h1 : w.cell? ⟨B, 1, none⟩ = some (V3 g2)) (h : RowsU w g 3 (T3 2 4 0)) (h' : RowsU w g2 3 (T3 0 1 2)) : Calls Tryd.prog 18 #[.slice (some ⟨B, 0, none⟩) 2 2] w (GivesR w 3 (T3 2 5 2)) :=
  (union_any (some ⟨B, 0, none⟩) B 2 2 (fun j => if j = 0 then V3 g else V3 g2) (fun _ => 3) (fun j => if j = 0 then T3 2 4 0 else T3 0 1 2) (by decide) (by decide) (by decide) (fun _ => rfl) w
    (fun j hj => by rcases (show j = 0 ∨ j = 1 by omega) with rfl | rfl; exact h0; exact h1)
    (fun j hj => by
      rcases (show j = 0 ∨ j = 1 by omega) with rfl | rfl
      · exact h.sl' (by decide) (T3_lt (by decide) (by decide) (by decide))
      · exact h'.sl' (by decide) (T3_lt (by decide) (by decide) (by decide)))).mono fun _ _ h => GivesRows.to (n := 3) h (lt3 (by kernel_rfl) (by kernel_rfl) (by kernel_rfl))
theorem cyc3 (w : World) (g : Nat) (h : RowsU w g 3 (T3 2 5 2)) : Calls Tryd.prog 25 #[V3 g] w (Gives w (.bool false)) := by
  have := acyclic_any _ 3 _ w (h.sl' (by decide) (T3_lt (by decide) (by decide) (by decide)))
  rw [show acyB (sz 3) (onF 3 (T3 2 5 2)) = false by kernel_rfl] at this
  exact this
theorem lineD (n : Nat) (q : Nat → Nat → Bool) (s : Nat → Bool) (h1 : ((List.range n).all fun i => !s i || (List.range (i + 1)).all fun k => !s k || (if i = k then !q i i else q i k != q k i)) = true)
    (h2 : ((List.range n).all fun i => (List.range n).all fun k => !thenF n q q i k || q i k) = true) : LineP n q s := by
  constructor
  · intro i hi hs k hk hsk
    have := List.all_eq_true.1 h1 i (by simpa using hi)
    rw [hs] at this
    simp only [Bool.not_true, Bool.false_or] at this
    have := List.all_eq_true.1 this k (by simp; omega)
    rw [hsk] at this
    simp only [Bool.not_true, Bool.false_or] at this
    constructor
    · intro e
      subst e
      simpa using this
    · intro e
      rw [if_neg e] at this
      intro h
      rw [h] at this
      simp at this
  · intro i hi k hk ht
    have := List.all_eq_true.1 h2 i (by simpa using hi)
    have := List.all_eq_true.1 this k (by simpa using hk)
    rw [ht] at this
    simpa using this
theorem line3 (w : World) (hT : Tab w) (g : Nat) (h : RowsU w g 3 (T3 6 4 0)) : Calls Tryd.prog 27 #[V3 g, .int .u64 7] w (Gives w (.bool true)) :=
  (line_any _ 3 _ 7 (by decide) w (h.sl' (by decide) (T3_lt (by decide) (by decide) (by decide))) hT).mono fun e w' ⟨b, h1, h2, h3⟩ => by
    have : b = true := h2.2 (lineD _ _ _ (by kernel_rfl) (by kernel_rfl))
    subst this
    exact ⟨h1, h3⟩
theorem then3 (w : World) (hT : Tab w) (g : Nat) (h : RowsU w g 3 (T3 2 4 0)) : Calls Tryd.prog 22 #[V3 g, V3 g] w (GivesR w 3 (T3 4 0 0)) :=
  have hs := h.sl' (by decide) (T3_lt (by decide) (by decide) (by decide))
  (then_any _ _ 3 3 _ _ w hs hs hT).mono fun _ _ h => GivesRows.to (n := 3) h (lt3 (by kernel_rfl) (by kernel_rfl) (by kernel_rfl))
theorem only3 (w : World) (g : Nat) (h : RowsU w g 3 (T3 2 4 0)) : Calls Tryd.prog 20 #[V3 g, .int .u64 1, .int .u64 2] w (GivesR w 3 (T3 2 0 0)) :=
  (only_any _ 3 _ 1 2 (by decide) (by decide) w (h.sl' (by decide) (T3_lt (by decide) (by decide) (by decide)))).mono fun _ _ h => GivesRows.to (n := 3) h (lt3 (by kernel_rfl) (by kernel_rfl) (by kernel_rfl))
set_option maxHeartbeats 4000000 in
theorem awake_any (w : World) (hT : Tab w) : Calls Tryd.prog 14 #[] w (Gives w (.bool true)) := by
  have HT := Lib.hid hT
  have hpos := hT.pos
  clear hT
  go_enter Tryd.func14, Tryd.ntmps14
  go_upto_region 2 with (first
    | (go_at_call 16; refine (new3 _).mono ?_; rintro e w1 ⟨g0, rfl, ⟨p0, rfl⟩, _, hg0, r0⟩)
    | (go_at_call 17; (with_reducible refine (pair01 _ g0 r0).mono ?_); rintro e w1 ⟨g1, rfl, ⟨p1, rfl⟩, _, hg1, r1⟩)
    | (go_at_call 17; (with_reducible refine (pair12 _ g1 r1).mono ?_); rintro e w1 ⟨g, rfl, ⟨p2, rfl⟩, _, hg, r⟩))
  have HR := Lib.hid r
  have HB := Lib.hid (below_mo (below_mo (more_below w p0) p1) p2)
  have HTA := Lib.hid (HT.out.below HB.out)
  clear r r0 r1 HT hg0 hg1
  generalize more (more (more w p0) p1) p2 = wA at *
  go_wp2_with (first
    | (go_at_call 12; (with_reducible refine (has01 _ g HR.out).mono ?_); rintro e w1 ⟨rfl, rfl⟩)
    | (go_at_call 12; (with_reducible refine (has02 _ g HR.out).mono ?_); rintro e w1 ⟨rfl, rfl⟩)
    | (go_at_call 24; (with_reducible refine (plus3 _ g HR.out).mono ?_); rintro e w1 ⟨g3, rfl, ⟨p3, rfl⟩, _, _, r3⟩)
    | (go_at_call 12; (with_reducible refine (has02p _ g3 r3).mono ?_); rintro e w1 ⟨rfl, rfl⟩)
    | (go_at_call 25; (with_reducible refine (acy3 _ g (HR.out.more _)).mono ?_); rintro e w1 ⟨rfl, p4, rfl⟩)
    | (go_at_call 19; (with_reducible refine (back3 _ (HTA.out.below (by repeat (first | with_reducible exact Below.refl _ _ | with_reducible refine below_mo ?_ _ | with_reducible refine below_al ?_ _))) g (HR.out.below (by repeat (first | with_reducible exact Below.refl _ _ | with_reducible refine below_mo ?_ _ | with_reducible refine below_al ?_ _)))).mono ?_); rintro e w1 ⟨g4, rfl, ⟨p5, rfl⟩, _, hg4, r4⟩))
  have e0 : ((more (more (more wA p3) p4) p5).alloc (Obj.cells #[V3 g, V3 g4] 22)).cell? ⟨wA.heap.size + p3.os.size + p4.os.size + p5.os.size, 0, none⟩ = some (V3 g) := by simp [go_sem]
  have e1 : ((more (more (more wA p3) p4) p5).alloc (Obj.cells #[V3 g, V3 g4] 22)).cell? ⟨wA.heap.size + p3.os.size + p4.os.size + p5.os.size, 1, none⟩ = some (V3 g4) := by simp [go_sem]
  have e2 := HR.out.below (w' := (more (more (more wA p3) p4) p5).alloc (Obj.cells #[V3 g, V3 g4] 22)) (by repeat (first | with_reducible exact Below.refl _ _ | with_reducible refine below_mo ?_ _ | with_reducible refine below_al ?_ _))
  have e3 := r4.below (w' := (more (more (more wA p3) p4) p5).alloc (Obj.cells #[V3 g, V3 g4] 22)) (by repeat (first | with_reducible exact Below.refl _ _ | with_reducible refine below_mo ?_ _ | with_reducible refine below_al ?_ _))
  refine (un3 _ _ g g4 e0 e1 e2 e3).mono ?_
  rintro e w1 ⟨g5, rfl, ⟨p6, rfl⟩, _, hg5, r5⟩
  have HR2 := Lib.hid (e2.more p6)
  have HB2 := Lib.hid (below_mo (below_al (below_mo (below_mo (below_mo HB.out p3) p4) p5) (Obj.cells #[V3 g, V3 g4] 22)) p6)
  have HT2 := Lib.hid (HTA.out.below (w' := more ((more (more (more wA p3) p4) p5).alloc (Obj.cells #[V3 g, V3 g4] 22)) p6) (by repeat (first | with_reducible exact Below.refl _ _ | with_reducible refine below_mo ?_ _ | with_reducible refine below_al ?_ _)))
  clear e0 e1 e2 e3 HR HTA HB r3 r4 hg hg4
  generalize more ((more (more (more wA p3) p4) p5).alloc (Obj.cells #[V3 g, V3 g4] 22)) p6 = wB at *
  go_wp2_with (first
    | (go_at_call 25; (with_reducible refine (cyc3 _ g5 r5).mono ?_); rintro e w1 ⟨rfl, p7, rfl⟩)
    | (go_at_call 24; (with_reducible refine (plus3 _ g (HR2.out.more _)).mono ?_); rintro e w1 ⟨g6, rfl, ⟨p8, rfl⟩, _, _, r6⟩)
    | (go_at_call 27; (with_reducible refine (line3 _ ((HT2.out.more _).more _) g6 r6).mono ?_); rintro e w1 ⟨rfl, p9, rfl⟩)
    | (go_at_call 22; (with_reducible refine (then3 _ (((HT2.out.more _).more _).more _) g (((HR2.out.more _).more _).more _)).mono ?_); rintro e w1 ⟨g7, rfl, ⟨p10, rfl⟩, _, hg7, r7⟩)
    | (go_at_call 22; (with_reducible refine (then3 _ ((((HT2.out.more _).more _).more _).more _) g ((((HR2.out.more _).more _).more _).more _)).mono ?_); rintro e w1 ⟨g9, rfl, ⟨p12, rfl⟩, _, hg9, r9⟩; have q9 := (r9 0 (by decide)).1; rw [show T3 4 0 0 0 = 4 by kernel_rfl] at q9)
    | (go_at_call 20; (with_reducible refine (only3 _ g (((((HR2.out.more _).more _).more _).more _).more _)).mono ?_); rintro e w1 ⟨g8, rfl, ⟨p11, rfl⟩, _, hg8, r8⟩; have q8 := (r8 1 (by decide)).1; rw [show T3 2 0 0 1 = 0 by kernel_rfl] at q8))
  go_ret
  exact Gives.mk rfl (below_mo (below_mo (below_mo (below_mo (below_mo (below_mo HB2.out p7) p8) p9) p10) p12) p11)
end Go.Proofs.YtgghhbjaokgeeaaDoor
