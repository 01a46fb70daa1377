/- Walk: the statement on what orders some things. Condition: the library's table is laid. -/
import Derived.Test.YtgghhbjaokgeeaaDoorRelVal
import Derived.Test.YtgghhbjaokgeeaaDoorRelSame
namespace Go.Proofs.YtgghhbjaokgeeaaDoor
open Go.RowKit Go.Sort Go.Lib
set_option linter.unusedVariables false
set_option linter.unusedSimpArgs false
/-- the law's three conditions at i, j (the third one ahead of m). -/
def LJ (f : Nat → Nat → Bool) (s : Nat → Bool) (i j m : Nat) : Prop :=
  s i = true → s j = true → (i = j → f i i = false) ∧ (i ≠ j → f i j ≠ f j i) ∧ (f i j = true → ∀ k, k < m → s k = true → f j k = true → f i k = true)
theorem line_iff {n : Nat} {f : Nat → Nat → Bool} (hc : ∀ a c, n ≤ c → f a c = false) (hr : ∀ a c, n ≤ a → f a c = false) (st : Nat) :
    LineP n (onlyF f st st) (fun i => decide (i < n) && st.testBit i) ↔ ∀ i, i < n → ∀ j, j < n → LJ f (fun k => st.testBit k) i j n := by
  have ho : ∀ {i k}, st.testBit i = true → st.testBit k = true → onlyF f st st i k = f i k := fun {i k} h1 h2 => by unfold onlyF; rw [h1, h2]; simp
  have ho1 : ∀ {i k}, onlyF f st st i k = true → f i k = true ∧ st.testBit i = true ∧ st.testBit k = true := fun {i k} h => by
    unfold onlyF at h
    simp only [Bool.and_eq_true] at h
    exact ⟨h.1, h.2.1, h.2.2⟩
  constructor
  · intro h i hi j hj hsi hsj
    simp only at hsi hsj
    refine ⟨fun e => ?_, fun e => ?_, fun hij k hk hsk hjk => ?_⟩
    · have := (h.1 i hi (by simp [hi, hsi]) i (Nat.le_refl _) (by simp [hi, hsi])).1 rfl
      rw [ho hsi hsi] at this
      exact this
    · rcases Nat.lt_or_ge i j with h1 | h1
      · have := (h.1 j hj (by simp [hj, hsj]) i (by omega) (by simp [hi, hsi])).2 (by omega)
        rw [ho hsj hsi, ho hsi hsj] at this
        exact fun e => this e.symm
      · have := (h.1 i hi (by simp [hi, hsi]) j (by omega) (by simp [hj, hsj])).2 e
        rw [ho hsj hsi, ho hsi hsj] at this
        exact this
    · simp only at hsk
      have := h.2 i hi k hk ((thenF_iff (fun a c h1 => by unfold onlyF; rw [hc a c h1]; rfl) i k).2 ⟨j, by rw [ho hsi hsj]; exact hij, by rw [ho hsj hsk]; exact hjk⟩)
      rw [ho hsi hsk] at this
      exact this
  · intro h
    constructor
    · intro i hi hsi k hk hsk
      simp only [Bool.and_eq_true, decide_eq_true_eq] at hsi hsk
      have := h i hi k hsk.1 hsi.2 hsk.2
      rw [ho hsi.2 hsi.2, ho hsi.2 hsk.2, ho hsk.2 hsi.2]
      exact ⟨this.1, this.2.1⟩
    · intro i hi k hk ht
      obtain ⟨j, h1, h2⟩ := (thenF_iff (fun a c h1 => by unfold onlyF; rw [hc a c h1]; rfl) i k).1 ht
      obtain ⟨a1, a2, a3⟩ := ho1 h1
      obtain ⟨b1, b2, b3⟩ := ho1 h2
      have hj : j < n := by
        rcases Nat.lt_or_ge j n with h3 | h3
        · exact h3
        · rw [hc i j h3] at a1; cases a1
      rw [ho a2 b3]
      exact (h i hi j hj a2 a3).2.2 a1 k hk b3 b1
theorem lj_skip {f : Nat → Nat → Bool} {s : Nat → Bool} {i j m : Nat} (h : s i = false ∨ s j = false) : LJ f s i j m := fun h1 h2 => by
  rcases h with h | h
  · rw [h] at h1; cases h1
  · rw [h] at h2; cases h2
def Tells (b : Bool) (P : Prop) : Prop := b = true ↔ P
theorem Tells.to {b : Bool} {P Q : Prop} (h : Tells b P) (e : P ↔ Q) : Tells b Q := Iff.trans h e
def L2 (f : Nat → Nat → Bool) (i j : Nat) : Prop := (i = j → f i i = false) ∧ (i ≠ j → f i j ≠ f j i)
def A1 (f : Nat → Nat → Bool) (s : Nat → Bool) (n i : Nat) : Prop := ∀ t, t < i → ∀ j, j < n → LJ f s t j n
def A12 (f : Nat → Nat → Bool) (s : Nat → Bool) (n i j : Nat) : Prop := A1 f s n i ∧ ∀ t, t < j → LJ f s i t n
def A3 (f : Nat → Nat → Bool) (s : Nat → Bool) (n i j k : Nat) : Prop := A12 f s n i j ∧ LJ f s i j k
section
variable {f : Nat → Nat → Bool} {s : Nat → Bool} {n i j k : Nat} {b : Bool}
theorem t_start : Tells true (A1 f s n 0) := ⟨fun _ t ht => by omega, fun _ => rfl⟩
theorem t_row (h : Tells b (A1 f s n i)) : Tells b (A12 f s n i 0) := h.to ⟨fun h => ⟨h, fun t ht => by omega⟩, fun h => h.1⟩
theorem a12_next : A12 f s n i (j + 1) ↔ A12 f s n i j ∧ LJ f s i j n := by
  unfold A12
  constructor
  · rintro ⟨h1, h2⟩
    exact ⟨⟨h1, fun t ht => h2 t (by omega)⟩, h2 j (by omega)⟩
  · rintro ⟨⟨h1, h2⟩, h3⟩
    refine ⟨h1, fun t ht => ?_⟩
    by_cases e : t = j
    · subst e; exact h3
    · exact h2 t (by omega)
theorem t_skip (hs : s i = false ∨ s j = false) (h : Tells b (A12 f s n i j)) : Tells b (A12 f s n i (j + 1)) := h.to ⟨fun h => a12_next.2 ⟨h, lj_skip hs⟩, fun h => (a12_next.1 h).1⟩
theorem lj_zero (hi : s i = true) (hj : s j = true) : LJ f s i j 0 ↔ L2 f i j := by
  unfold LJ L2
  constructor
  · intro h
    exact ⟨(h hi hj).1, (h hi hj).2.1⟩
  · intro h _ _
    exact ⟨h.1, h.2, fun _ k hk => by omega⟩
theorem t_two_f (h : Tells false (A12 f s n i j)) : Tells false (A3 f s n i j 0) := by
  have hn : ¬ A12 f s n i j := fun h1 => by have := h.2 h1; cases this
  exact ⟨fun h => (by cases h), fun h => absurd h.1 hn⟩
theorem t_two (hi : s i = true) (hj : s j = true) (h : Tells true (A12 f s n i j)) {y : Bool} (hy : Tells y (L2 f i j)) : Tells y (A3 f s n i j 0) :=
  hy.to ⟨fun h1 => ⟨h.1 rfl, (lj_zero hi hj).2 h1⟩, fun h1 => (lj_zero hi hj).1 h1.2⟩
theorem l2_same : Tells (!f i i) (L2 f i i) := by
  unfold Tells L2
  simp
theorem l2_not (h : i ≠ j) : Tells (f i j != f j i) (L2 f i j) := by
  unfold Tells L2
  simp [h]
theorem lj_next (hi : s i = true) (hj : s j = true) (hij : f i j = true) : LJ f s i j (k + 1) ↔ LJ f s i j k ∧ (s k = true → f j k = true → f i k = true) := by
  unfold LJ
  constructor
  · intro h
    obtain ⟨h1, h2, h3⟩ := h hi hj
    exact ⟨fun _ _ => ⟨h1, h2, fun h4 t ht => h3 h4 t (by omega)⟩, h3 hij k (by omega)⟩
  · rintro ⟨h, h5⟩ _ _
    obtain ⟨h1, h2, h3⟩ := h hi hj
    refine ⟨h1, h2, fun h4 t ht => ?_⟩
    by_cases e : t = k
    · subst e; exact h5
    · exact h3 h4 t (by omega)
theorem t_three_f (hi : s i = true) (hj : s j = true) (hij : f i j = true) (h : Tells false (A3 f s n i j k)) : Tells false (A3 f s n i j (k + 1)) := by
  have hn : ¬ A3 f s n i j k := fun h1 => by have := h.2 h1; cases this
  exact ⟨fun h => (by cases h), fun h => absurd ⟨h.1, ((lj_next hi hj hij).1 h.2).1⟩ hn⟩
theorem t_three (hi : s i = true) (hj : s j = true) (hij : f i j = true) (h : Tells true (A3 f s n i j k)) {y : Bool} (hy : y = true ↔ (s k = true → f j k = true → f i k = true)) : Tells y (A3 f s n i j (k + 1)) :=
  Iff.trans hy ⟨fun h1 => ⟨(h.1 rfl).1, (lj_next hi hj hij).2 ⟨(h.1 rfl).2, h1⟩⟩, fun h1 => ((lj_next hi hj hij).1 h1.2).2⟩
theorem t_end (hk : k = n ∨ f i j = false) (h : Tells b (A3 f s n i j k)) : Tells b (A12 f s n i (j + 1)) := by
  refine h.to ?_
  rw [a12_next]
  unfold A3
  have : LJ f s i j k ↔ LJ f s i j n := by
    rcases hk with rfl | hk
    · exact Iff.rfl
    · unfold LJ
      rw [hk]
      simp
  rw [this]
theorem t_up (h : Tells b (A12 f s n i n)) : Tells b (A1 f s n (i + 1)) := h.to (by
  unfold A12 A1
  constructor
  · rintro ⟨h1, h2⟩ t ht j hj
    by_cases e : t = i
    · subst e; exact h2 j hj
    · exact h1 t (by omega) j hj
  · intro h
    exact ⟨fun t ht => h t (by omega), h i (by omega)⟩)
end
set_option maxHeartbeats 4000000 in
set_option maxRecDepth 100000 in
theorem relLines_go (v : Value) (len : Nat) (r : Nat → Nat) (st : Nat) (hst : st < 18446744073709551616) (w : World) (h : Sl w v len r) (hT : Tab w) :
    Calls Tryd.prog 7 #[v, .int .u64 st] w (Gives w (.bool true)) := by
  have rv := RV.of h
  have AW := Lib.hid (fun W (hB : Below w.heap.size w W) => awake_any W (hT.below hB))
  have OF := Lib.hid (of_any v len r w h)
  have h64 := sz_le len
  have LI := Lib.hid (line_iff rv.c_ rv.r_ st)
  have LB : Hid (∀ b : Bool, (b = true ↔ ∀ i, i < sz len → ∀ j, j < sz len → LJ (onF len r) (fun k => st.testBit k) i j (sz len)) → ∀ W, Below w.heap.size w W → Calls Tryd.prog 27 #[v, .int .u64 st] W (Gives W (.bool b))) := Lib.hid (fun b hb W hB => clineB (rv.below hB) (hT.below hB) st hst (by rw [only_mask rv.c_ rv.r_]; exact hb.trans LI.out.symm))
  have B1 := Lib.hid (fun k => @bit_one st k hst)
  have B0 := Lib.hid (fun k => @bit_zero st k hst)
  clear h hT rv LI
  generalize onF len r = f at *
  generalize sz len = n at *
  generalize hsf : (fun k => st.testBit k) = s at *
  have hsf2 : ∀ i, st.testBit i = s i := fun i => by rw [← hsf]
  replace hsf2 := Lib.hid hsf2
  clear hsf
  go_enter Tryd.func7, Tryd.ntmps7
  go_wp2_with (go_at_call 11; refine (OF.out).mono ?_; rintro e w1 ⟨bx, rfl, ⟨p1, rfl⟩, _, hx⟩)
  have HX := Lib.hid hx
  have HB := Lib.hid (more_below w p1)
  clear hx OF
  generalize more w p1 = wA at *
  go_loopw [6, 7] (fun v6 v7 wr => ∃ (i : Nat) (b : Bool), i ≤ n ∧ v7 = .int .i64 i ∧ v6 = .bool b ∧ Below wA.heap.size wA wr ∧ Tells b (A1 f s n i)) (fun _ v7 _ => n - (intOf v7).toNat)
  case atStart => exact ⟨0, true, by omega, rfl, rfl, Below.refl _ _, t_start⟩
  case round =>
    obtain ⟨i, b, hi, rfl, rfl, hb, hbb⟩ := hrel
    have HB2 := Lib.hid hb
    have HX2 := Lib.hid (HX.out.below hb)
    have HBB := Lib.hid hbb
    have hxn := HX2.out.n_
    have hxl := HX2.out.lt
    clear hb hbb
    obtain ⟨w1, rfl⟩ : ∃ w1 : World, w1 = wr := ⟨_, rfl⟩
    by_cases hlt : (i : Int) < n
    · have hi64 : i < 64 := by omega
      go_wp2_with fail
      go_loopw [6, 8] (fun v6 v8 wr => ∃ (j : Nat) (b : Bool), j ≤ n ∧ v8 = .int .i64 j ∧ v6 = .bool b ∧ Below wA.heap.size wA wr ∧ Tells b (A12 f s n i j)) (fun _ v8 _ => n - (intOf v8).toNat)
      case atStart => exact ⟨0, b, by omega, rfl, rfl, HB2.out, t_row HBB.out⟩
      case round =>
        obtain ⟨j, b, hj, rfl, rfl, hb, hbb⟩ := hrel
        have HB3 := Lib.hid hb
        have HX3 := Lib.hid (HX.out.below hb)
        have HBB3 := Lib.hid hbb
        have hxn := HX3.out.n_
        have hxl := HX3.out.lt
        clear hb hbb HBB HX2
        obtain ⟨w2, rfl⟩ : ∃ w2 : World, w2 = wr := ⟨_, rfl⟩
        by_cases hltj : (j : Int) < n
        · have hj64 : j < 64 := by omega
          cases hsi : s i with
          | false =>
            have key := B0.out i (by rw [hsf2.out]; exact hsi)
            have HS := Lib.hid (t_skip (.inl hsi) HBB3.out)
            clear hsi
            go_wp2_with (first | simp only [key])
            go_roundw
            case rel => exact ⟨j + 1, b, by omega, by go_num, rfl, HB3.out, HS.out⟩
            case measure => simp [intOf]; omega
          | true =>
            have keyI := B1.out i (by rw [hsf2.out]; exact hsi)
            cases hsj : s j with
            | false =>
              have key := keyI
              have key2 := B0.out j (by rw [hsf2.out]; exact hsj)
              have HS := Lib.hid (t_skip (.inr hsj) HBB3.out)
              clear hsi hsj
              go_wp2_with (first | simp only [key] | simp only [key2])
              go_roundw
              case rel => exact ⟨j + 1, b, by omega, by go_num, rfl, HB3.out, HS.out⟩
              case measure => simp [intOf]; omega
            | true =>
              have key := keyI
              have key2 := B1.out j (by rw [hsf2.out]; exact hsj)
              have TF : Hid (Tells false (A12 f s n i j) → Tells false (A3 f s n i j 0)) := Lib.hid t_two_f
              have TT : Hid (Tells true (A12 f s n i j) → ∀ y, Tells y (L2 f i j) → Tells y (A3 f s n i j 0)) := Lib.hid (fun h y hy => t_two hsi hsj h hy)
              have TE : Hid (∀ k b, k = n ∨ f i j = false → Tells b (A3 f s n i j k) → Tells b (A12 f s n i (j + 1))) := Lib.hid (fun k b h1 h2 => t_end h1 h2)
              have T3F : Hid (f i j = true → ∀ k, Tells false (A3 f s n i j k) → Tells false (A3 f s n i j (k + 1))) := Lib.hid (fun h k h2 => t_three_f hsi hsj h h2)
              have T3T : Hid (f i j = true → ∀ k, Tells true (A3 f s n i j k) → ∀ y, (y = true ↔ (s k = true → f j k = true → f i k = true)) → Tells y (A3 f s n i j (k + 1))) := Lib.hid (fun h k h2 y hy => t_three hsi hsj h h2 hy)
              have d1 := HX3.out.on_ i i hi64 hi64
              have d2 := HX3.out.on_ i j hi64 hj64
              have d3 := HX3.out.on_ j i hj64 hi64
              clear hsi hsj keyI
              go_upto_region 10 with (first | simp only [key] | simp only [key2])
              go_cut [6] from 42 to 82 (fun t6 W => ∃ b' : Bool, t6 = .bool b' ∧ Below w2.heap.size w2 W ∧ Tells b' (A3 f s n i j 0))
              case first =>
                have HB4 := Lib.hid (below_mo (Below.refl _ w2))
                clear TE T3F T3T HB2 HB3 AW LB
                cases b with
                | false =>
                  have HF := Lib.hid (TF.out HBB3.out)
                  clear d1 d2 d3 TT TF HBB3
                  refine wp_quiet_more (by kernel_rfl) (by kernel_rfl) ?_
                  repeat (go_big_quiet_step (fail))
                  refine wpQuiet_nil ?_
                  intro p
                  go_wp2_with fail
                  go_meet
                  exact ⟨false, rfl, HB4.out p, HF.out⟩
                | true =>
                  by_cases hij : i = j
                  · subst hij
                    have HF := Lib.hid (TT.out HBB3.out _ l2_same)
                    clear TT TF HBB3 d2 d3
                    generalize f i i = y at d1 HF
                    cases y with
                    | true =>
                      refine wp_quiet_more (by kernel_rfl) (by kernel_rfl) ?_
                      repeat (go_big_quiet_step (fail))
                      refine wpQuiet_nil ?_
                      intro p
                      go_wp2_with fail
                      go_meet
                      exact ⟨false, rfl, HB4.out p, HF.out⟩
                    | false =>
                      refine wp_quiet_more (by kernel_rfl) (by kernel_rfl) ?_
                      repeat (go_big_quiet_step (fail))
                      refine wpQuiet_nil ?_
                      intro p
                      go_wp2_with fail
                      go_meet
                      exact ⟨true, rfl, HB4.out p, HF.out⟩
                  · have n1 : ((i : Int) != (j : Int)) = true := by simp; omega
                    have n2 : ((i : Int) == (j : Int)) = false := by simp; omega
                    have HF := Lib.hid (TT.out HBB3.out _ (l2_not hij))
                    clear TT TF HBB3 d1
                    generalize f i j = x at d2 HF
                    generalize f j i = y at d3 HF
                    refine wp_quiet_more (by kernel_rfl) (by kernel_rfl) ?_
                    repeat (go_big_quiet_step (fail))
                    refine wpQuiet_nil ?_
                    intro p
                    go_wp2_with fail
                    go_meet
                    exact ⟨x != y, rfl, HB4.out p, HF.out⟩
              case rest =>
              obtain ⟨b', rfl, hbc, hb'⟩ := hcut
              have HBc := Lib.hid (below_next HB3.out hbc)
              have HB' := Lib.hid hb'
              clear hbc hb' HBB3 TF TT d1 d2 d3 HB3 key key2 HX3 hxn hxl
              go_wp2_with fail
              go_loopw [6, 9] (fun v6 v9 wr => ∃ (k : Nat) (b : Bool), k ≤ n ∧ v9 = .int .i64 k ∧ v6 = .bool b ∧ Below wA.heap.size wA wr ∧ Tells b (A3 f s n i j k)) (fun _ v9 _ => n - (intOf v9).toNat)
              case atStart => exact ⟨0, b', by omega, rfl, rfl, HBc.out, HB'.out⟩
              case round =>
                obtain ⟨k, b2, hk, rfl, rfl, hb5, hb2⟩ := hrel
                have HB5 := Lib.hid hb5
                have HX5 := Lib.hid (HX.out.below hb5)
                have HT2 := Lib.hid hb2
                have hxn := HX5.out.n_
                have hxl := HX5.out.lt
                have d2 := HX5.out.on_ i j hi64 hj64
                clear hb5 hb2 HB' HBc
                cases hfij : f i j with
                | false =>
                  rw [hfij] at d2
                  have HE := Lib.hid (TE.out k b2 (.inr hfij) HT2.out)
                  clear hfij TE T3F T3T HT2
                  by_cases hkn : (k : Int) < n
                  · have hk64 : k < 64 := by omega
                    go_wp2_with fail
                    go_roundw
                    case rel => exact ⟨j + 1, b2, by omega, by go_num, rfl, HB5.out, HE.out⟩
                    case measure => simp [intOf]; omega
                  · go_wp2_with fail
                    go_roundw
                    case rel => exact ⟨j + 1, b2, by omega, by go_num, rfl, HB5.out, HE.out⟩
                    case measure => simp [intOf]; omega
                | true =>
                  rw [hfij] at d2
                  by_cases hkn : (k : Int) < n
                  · have hk64 : k < 64 := by omega
                    have d4 := HX5.out.on_ j k hj64 hk64
                    have d5 := HX5.out.on_ i k hi64 hk64
                    cases b2 with
                    | false =>
                      have HF := Lib.hid (T3F.out hfij k HT2.out)
                      clear hfij TE T3F T3T HT2 d4 d5
                      go_wp2_with fail
                      go_roundw
                      case rel => exact ⟨k + 1, false, by omega, by go_num, rfl, HB5.out, HF.out⟩
                      case measure => simp [intOf]; omega
                    | true =>
                      have HF := Lib.hid (T3T.out hfij k HT2.out)
                      clear hfij TE T3F T3T HT2
                      cases hsk : s k with
                      | false =>
                        have key3 := B0.out k (by rw [hsf2.out]; exact hsk)
                        have HG := Lib.hid (HF.out true (by rw [hsk]; simp))
                        clear hsk HF d4 d5
                        go_wp2_with (first | simp only [key3])
                        go_roundw
                        case rel => exact ⟨k + 1, true, by omega, by go_num, rfl, HB5.out, HG.out⟩
                        case measure => simp [intOf]; omega
                      | true =>
                        have key3 := B1.out k (by rw [hsf2.out]; exact hsk)
                        cases hjk : f j k with
                        | false =>
                          rw [hjk] at d4
                          have HG := Lib.hid (HF.out true (by rw [hjk]; simp))
                          clear hsk hjk HF d5
                          go_wp2_with (first | simp only [key3])
                          go_roundw
                          case rel => exact ⟨k + 1, true, by omega, by go_num, rfl, HB5.out, HG.out⟩
                          case measure => simp [intOf]; omega
                        | true =>
                          rw [hjk] at d4
                          have HG := Lib.hid (HF.out (f i k) (by rw [hjk, hsk]; simp))
                          clear hsk hjk HF
                          generalize f i k = y at d5 HG
                          go_wp2_with (first | simp only [key3])
                          go_roundw
                          case rel => exact ⟨k + 1, y, by omega, by go_num, rfl, HB5.out, HG.out⟩
                          case measure => simp [intOf]; omega
                  · obtain rfl : k = n := by omega
                    have HE := Lib.hid (TE.out k b2 (.inl rfl) HT2.out)
                    clear hfij TE T3F T3T HT2
                    go_wp2_with fail
                    go_roundw
                    case rel => exact ⟨j + 1, b2, by omega, by go_num, rfl, HB5.out, HE.out⟩
                    case measure => simp [intOf]; omega
        · obtain rfl : j = n := by omega
          have HU := Lib.hid (t_up HBB3.out)
          go_wp2_with fail
          go_roundw
          case rel => exact ⟨i + 1, b, by omega, by go_num, rfl, HB3.out, HU.out⟩
          case measure => simp [intOf]; omega
    · obtain rfl : i = n := by omega
      have LF := Lib.hid (LB.out b HBB.out)
      clear LB HBB
      go_wp2_with (first
        | (go_at_call 14; refine (AW.out _ (below_next HB.out HB2.out)).mono ?_; rintro e w1 ⟨rfl, p3, rfl⟩)
        | (go_at_call 27; refine (LF.out _ (below_mo (below_next HB.out HB2.out) _)).mono ?_; rintro e w1 ⟨rfl, p4, rfl⟩))
      go_ret
      exact Gives.mk (by simp) (below_mo (below_mo (below_next HB.out HB2.out) p3) p4)
end Go.Proofs.YtgghhbjaokgeeaaDoor
