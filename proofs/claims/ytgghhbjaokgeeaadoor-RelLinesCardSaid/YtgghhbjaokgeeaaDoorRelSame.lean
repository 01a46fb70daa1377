/- Walk: whether two rows of bits are the same (they are). Plain: what is the same. No condition. -/
import Derived.Test.YtgghhbjaokgeeaaDoorRelVal
namespace Go.Proofs.YtgghhbjaokgeeaaDoor
open Go.RowKit Go.Sort Go.Lib
set_option linter.unusedVariables false
set_option linter.unusedSimpArgs false
theorem sl_form {w : World} {v : Value} {len : Nat} {r : Nat → Nat} (h : Sl w v len r) : ∃ A c, v = .slice A len c := by
  obtain ⟨A, _, _, c, h, _⟩ := h
  exact ⟨A, c, h⟩
theorem same_rows (W : World) (ga gb n : Nat) (R : Nat → Nat) (hn : n ≤ 64) (h1 : ∀ i, i < n → W.cell? ⟨ga, i, none⟩ = some (.int .u64 (R i))) (h2 : ∀ i, i < n → W.cell? ⟨gb, i, none⟩ = some (.int .u64 (R i))) :
    Calls Tryd.prog 28 #[.slice (some ⟨ga, 0, none⟩) n n, .slice (some ⟨gb, 0, none⟩) n n] W (Gives W (.bool true)) := by
  have H1 := Lib.hid h1
  have H2 := Lib.hid h2
  clear h1 h2
  go_enter Tryd.func28, Tryd.ntmps28
  go_wp2_with fail
  go_loopw [5] (fun v5 wr => ∃ i : Nat, i ≤ n ∧ v5 = .int .i64 i ∧ Below W.heap.size W wr) (fun v5 _ => n - (intOf v5).toNat)
  case atStart => exact ⟨0, by omega, rfl, Below.refl _ _⟩
  case round =>
    obtain ⟨i, hi, rfl, hb⟩ := hrel
    have HB := Lib.hid hb
    have hz := hb.size
    by_cases hlt : (i : Int) < n
    · have c1 := cell_below (H1.out i (by omega)) hb
      have c2 := cell_below (H2.out i (by omega)) hb
      have s1 := cell_lt2 c1
      have s2 := cell_lt2 c2
      clear hb
      go_upto_region 6 with fail
      refine wp_quiet_more (by kernel_rfl) (by kernel_rfl) ?_
      repeat (go_big_quiet_step (fail))
      refine wpQuiet_nil ?_
      intro p
      go_wp2_with fail
      go_roundw
      case rel => exact ⟨i + 1, by omega, by go_num, below_mo HB.out p⟩
      case measure => simp [intOf]; omega
    · clear hb
      go_wp2_with fail
      go_ret
      exact Gives.mk rfl HB.out
theorem csame {W : World} {va vb : Value} {na nb : Nat} {fa fb : Nat → Nat → Bool} (ha : CV W va na fa) (hb : CV W vb nb fb) (hn : na = nb) (hf : ∀ i k, fa i k = fb i k) : Calls Tryd.prog 28 #[va, vb] W (Gives W (.bool true)) := by
  subst hn
  obtain ⟨ga, rfl, h1, h2, _⟩ := ha
  obtain ⟨gb, rfl, _, h3, _⟩ := hb
  exact same_rows W ga gb na _ h1 (fun i hi => (h2 i hi).1) (fun i hi => by rw [(h3 i hi).1, rowN_congr (f := fa i) (g := fb i) (fun k _ => hf i k)])
theorem or_turn (f g h : Nat → Nat → Bool) (i k : Nat) : orF (orF f g) h i k = orF h (orF g f) i k := by
  unfold orF
  cases f i k <;> cases g i k <;> cases h i k <;> rfl
theorem then_assoc (N0 N1 M0 M1 : Nat) (f g h : Nat → Nat → Bool) (h1 : ∀ i j, N0 ≤ j → f i j = false) (h2 : ∀ i j, N1 ≤ j → g i j = false) (h3 : ∀ i j, M1 ≤ j → f i j = false) (h4 : ∀ i j, M0 ≤ j → g i j = false) (i k : Nat) :
    thenF N1 (thenF N0 f g) h i k = thenF M1 f (thenF M0 g h) i k := by
  rw [Bool.eq_iff_iff, thenF_iff h3, thenF_iff (N := N1) (f := thenF N0 f g) (fun i j hj => by
    rw [Bool.eq_false_iff]
    intro ht
    obtain ⟨t, _, h5⟩ := (thenF_iff h1 i j).1 ht
    rw [h2 t j hj] at h5; cases h5)]
  constructor
  · rintro ⟨j, ha, hb⟩
    obtain ⟨t, hc, hd⟩ := (thenF_iff h1 i j).1 ha
    exact ⟨t, hc, (thenF_iff h4 t k).2 ⟨j, hd, hb⟩⟩
  · rintro ⟨t, hc, hd⟩
    obtain ⟨j, ha, hb⟩ := (thenF_iff h4 t k).1 hd
    exact ⟨j, (thenF_iff h1 i j).2 ⟨t, hc, ha⟩, hb⟩
theorem rch_rch (f : Nat → Nat → Bool) (i k : Nat) : rchB (rchB f) i k = rchB f i k := by
  rw [Bool.eq_iff_iff, rchB_iff, rchB_iff]
  constructor
  · intro h
    induction h with
    | one h => exact rchB_iff.1 h
    | step _ h ih => exact ih.trans (rchB_iff.1 h)
  · intro h
    exact .one (rchB_iff.2 h)
theorem rch_first {f : Nat → Nat → Bool} {i j k : Nat} (h : f i j = true) (h2 : Rch f j k) : Rch f i k := (Rch.one h).trans h2
theorem rch_then (N : Nat) (f : Nat → Nat → Bool) (h1 : ∀ i j, N ≤ j → f i j = false) (i k : Nat) : orF (rchB f) (thenF N f (rchB f)) i k = rchB f i k := by
  unfold orF
  rw [Bool.eq_iff_iff, Bool.or_eq_true, thenF_iff h1]
  constructor
  · rintro (h | ⟨j, h2, h3⟩)
    · exact h
    · exact rchB_iff.2 (rch_first h2 (rchB_iff.1 h3))
  · exact .inl
theorem conlyI {W : World} {va : Value} {na : Nat} {fa : Nat → Nat → Bool} (ha : RV W va na fa) {s t : Int} (S T : Nat) (hs : s = (S : Nat)) (ht : t = (T : Nat)) (hS : S < 18446744073709551616) (hT : T < 18446744073709551616) : Calls Tryd.prog 20 #[va, .int .u64 s, .int .u64 t] W (GivesC W na (onlyF fa S T)) := by
  subst hs ht
  exact conly ha S T hS hT
theorem GivesB.b {W W' : World} {P : Prop} {b : Bool} {e : Ending} (hb : b = true ↔ P) (h : GivesB W P e W') : Gives W (.bool b) e W' := by
  obtain ⟨y, h1, h2, h3⟩ := h
  have : y = b := Bool.eq_iff_iff.2 (h2.trans hb.symm)
  subst this
  exact ⟨h1, h3⟩
theorem cacyB {W : World} {va : Value} {na : Nat} {fa : Nat → Nat → Bool} (ha : RV W va na fa) {b : Bool} (hb : b = true ↔ ∀ x, ¬ Rch fa x x) : Calls Tryd.prog 25 #[va] W (Gives W (.bool b)) :=
  (cacy ha).mono fun _ _ h => h.b hb
theorem clineB {W : World} {va : Value} {na : Nat} {fa : Nat → Nat → Bool} (ha : RV W va na fa) (hT : Tab W) (st : Nat) (hst : st < 18446744073709551616) {b : Bool} (hb : b = true ↔ LineP na (onlyF fa (st &&& (2 ^ na - 1)) (st &&& (2 ^ na - 1))) (fun i => decide (i < na) && st.testBit i)) : Calls Tryd.prog 27 #[va, .int .u64 st] W (Gives W (.bool b)) := by
  obtain ⟨la, ra, sa, rfl, rfl⟩ := ha
  exact (line_any va la ra st hst W sa hT).mono fun _ _ h => h.b hb
theorem yes_no (P : Prop) : ∃ b : Bool, b = true ↔ P := ⟨@decide P (Classical.propDecidable _), @decide_eq_true_iff P (Classical.propDecidable _)⟩
theorem rch_mono {f g : Nat → Nat → Bool} (h : ∀ i k, f i k = true → g i k = true) {i k : Nat} (hr : Rch f i k) : Rch g i k := by
  induction hr with
  | one h1 => exact .one (h _ _ h1)
  | step _ h1 ih => exact .step ih (h _ _ h1)
theorem sz_sz (len : Nat) : sz (sz len) = sz len := by unfold sz; omega
theorem onF_sz (len : Nat) (r : Nat → Nat) : onF (sz len) r = onF len r := by
  funext i k
  unfold onF
  rw [sz_sz]
/-- a line comes back nowhere. -/
theorem line_acy {n : Nat} {q : Nat → Nat → Bool} {s : Nat → Bool} (hc : ∀ a c, n ≤ c → q a c = false) (hr : ∀ a c, n ≤ a → q a c = false) (hs : ∀ i k, q i k = true → s i = true) (h : LineP n q s) (x : Nat) : ¬ Rch q x x := fun hx => by
  have tr : ∀ {i k}, Rch q i k → q i k = true := fun {i k} h1 => by
    induction h1 with
    | one h => exact h
    | @step j k hj h2 ih =>
      have hj' : j < n := by
        rcases Nat.lt_or_ge j n with h3 | h3
        · exact h3
        · rw [hr j k h3] at h2; cases h2
      have hk' : k < n := by
        rcases Nat.lt_or_ge k n with h3 | h3
        · exact h3
        · rw [hc j k h3] at h2; cases h2
      have hi' : i < n := by
        rcases Nat.lt_or_ge i n with h3 | h3
        · exact h3
        · rw [hr i j h3] at ih; cases ih
      exact h.2 i hi' k hk' ((thenF_iff (fun a c h => hc a c h) i k).2 ⟨j, ih, h2⟩)
  have hq := tr hx
  have hxn : x < n := by
    rcases Nat.lt_or_ge x n with h3 | h3
    · exact h3
    · rw [hr x x h3] at hq; cases hq
  have := (h.1 x hxn (hs x x hq) x (Nat.le_refl _) (hs x x hq)).1 rfl
  rw [this] at hq
  cases hq
theorem only_mask {n : Nat} {f : Nat → Nat → Bool} (hc : ∀ a c, n ≤ c → f a c = false) (hr : ∀ a c, n ≤ a → f a c = false) (st : Nat) : onlyF f (st &&& (2 ^ n - 1)) (st &&& (2 ^ n - 1)) = onlyF f st st := by
  funext i k
  unfold onlyF
  rw [Nat.testBit_and, Nat.testBit_and, Nat.testBit_two_pow_sub_one, Nat.testBit_two_pow_sub_one]
  by_cases hi : i < n
  · by_cases hk : k < n
    · simp [hi, hk]
    · rw [hc i k (by omega)]; simp
  · rw [hr i k (by omega)]; simp
theorem max_bits (k : Nat) : (18446744073709551615 : Nat).testBit k = decide (k < 64) := by
  rw [show (18446744073709551615 : Nat) = 2 ^ 64 - 1 from rfl, Nat.testBit_two_pow_sub_one]
theorem then_back (N M : Nat) (f g : Nat → Nat → Bool) (h1 : ∀ i j, N ≤ j → f i j = false) (h2 : ∀ i j, M ≤ i → g i j = false) (i k : Nat) : backF (thenF N f g) i k = thenF M (backF g) (backF f) i k := by
  show thenF N f g k i = _
  rw [Bool.eq_iff_iff, thenF_iff h1, thenF_iff (f := backF g) (fun a c h => h2 c a h)]
  exact ⟨fun ⟨j, a, b⟩ => ⟨j, b, a⟩, fun ⟨j, a, b⟩ => ⟨j, b, a⟩⟩
theorem parts_all (n : Nat) (hn : n ≤ 64) (f : Nat → Nat → Bool) (hc : ∀ a c, n ≤ c → f a c = false) (hr : ∀ a c, n ≤ a → f a c = false) (s : Nat) (hs : s < 18446744073709551616) (i k : Nat) : orF (onlyF f s 18446744073709551615) (onlyF f (18446744073709551615 - s) 18446744073709551615) i k = f i k := by
  unfold orF onlyF
  rw [max_bits, tb_not _ _ hs]
  by_cases hi : i < n
  · by_cases hk : k < n
    · simp only [show i < 64 by omega, show k < 64 by omega, decide_true, Bool.and_true, Bool.true_and]
      cases f i k <;> cases s.testBit i <;> rfl
    · rw [hc i k (by omega)]; simp
  · rw [hr i k (by omega)]; simp
theorem only_back (f : Nat → Nat → Bool) (s t : Nat) (i k : Nat) : backF (onlyF f s t) i k = onlyF (backF f) t s i k := by
  show (f k i && (s.testBit k && t.testBit i)) = (f k i && (t.testBit i && s.testBit k))
  cases f k i <;> cases s.testBit k <;> cases t.testBit i <;> rfl
end Go.Proofs.YtgghhbjaokgeeaaDoor
