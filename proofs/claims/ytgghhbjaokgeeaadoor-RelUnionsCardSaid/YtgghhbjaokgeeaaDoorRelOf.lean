/- Walks: the document's relation of some rows; whether it is just some rows. Conditions: numbers fit. -/
import Derived.Test.YtgghhbjaokgeeaaDoorRelGrid
namespace Go.Proofs.YtgghhbjaokgeeaaDoor
open Go.RowKit Go.Sort Go.Lib
set_option linter.unusedVariables false
set_option linter.unusedSimpArgs false
/-- the pairs of the rows ahead of i, and of row i ahead of k. -/
def upF (f : Nat → Nat → Bool) (i k : Nat) (a c : Nat) : Bool := f a c && (decide (a < i) || (decide (a = i) && decide (c < k)))
theorem up_row (n : Nat) (f : Nat → Nat → Bool) (h : ∀ a c, n ≤ c → f a c = false) (i a c : Nat) : upF f i n a c = upF f (i + 1) 0 a c := by
  unfold upF
  by_cases e : a = i
  · subst e
    by_cases hc : c < n
    · simp [hc]
    · rw [h a c (by omega)]; simp
  · simp [e, show (a < i + 1) = (a < i) by simp; omega]
theorem up_all (n : Nat) (f : Nat → Nat → Bool) (h : ∀ a c, n ≤ a → f a c = false) (a c : Nat) : upF f n 0 a c = f a c := by
  unfold upF
  by_cases e : a < n
  · simp [e]
  · rw [h a c (by omega)]; simp
theorem up_next (f : Nat → Nat → Bool) (i k : Nat) (a c : Nat) : (if a = i ∧ c = k then f i k else upF f i k a c) = upF f i (k + 1) a c := by
  unfold upF
  by_cases e : a = i
  · subst e
    by_cases e2 : c = k
    · subst e2; simp
    · simp [e2, show (c < k + 1) = (c < k) by simp; omega]
  · simp [e]
theorem bool_eq1 (b : Bool) : (((b.toNat : Nat) : Int) == 1) = b := by cases b <;> rfl
set_option maxHeartbeats 2000000 in
theorem of_any (v : Value) (len : Nat) (r : Nat → Nat) (w : World) (h : Sl w v len r) :
    Calls Tryd.prog 11 #[v] w (GivesGrid w (sz len) (onF len r)) := by
  obtain ⟨A, X, off, cap, rfl, hA, hc, hm, hcell, hr⟩ := h
  obtain ⟨n, hn⟩ : ∃ n, n = sz len := ⟨_, rfl⟩
  have hn64 : n ≤ 64 := by rw [hn]; exact sz_le _
  have hnl : n ≤ len := by rw [hn]; exact sz_len _
  have HC := Lib.hid hcell
  have HB1 := Lib.hid (fun i k => bit_key (r i) k (hr i))
  have HF1 : Hid (∀ a c, n ≤ c → onF len r a c = false) := Lib.hid (fun a c hc => onF_out (.inr (by omega)))
  have HF2 : Hid (∀ a c, n ≤ a → onF len r a c = false) := Lib.hid (fun a c hc => onF_out (.inl (by omega)))
  have HF3 : Hid (∀ a c, a < n → c < n → (r a).testBit c = onF len r a c) := Lib.hid (fun a c h1 h2 => by unfold onF; simp [show a < sz len by omega, show c < sz len by omega])
  have HM : Hid ((64 < len → n = 64) ∧ (len ≤ 64 → n = len)) := Lib.hid (by rw [hn]; unfold sz; omega)
  rw [← hn]
  clear hcell hn hr
  generalize onF len r = f at *
  have HG := Lib.hid (grid_new w len)
  go_enter Tryd.func11, Tryd.ntmps11
  go_upto_region 2 with (first
    | ((with_reducible refine wpList_grid rfl _ rfl len rfl ?_))
    | ((with_reducible refine wpList_boxg rfl _ rfl len rfl ?_)))
  have HB := Lib.hid (below_al (Below.refl _ w) (.cells (gridC len) 28))
  have hzA : w.heap.size < (w.alloc (.cells (gridC len) 28)).heap.size := by simp
  generalize w.alloc (.cells (gridC len) 28) = wA at *
  have hn0 := HG.out.n_
  go_upto_if 14 with fail
  clear hn0
  go_cut [] from 10 to 17 (fun W => Onto w.heap.size wA W ∧ GridAt W w.heap.size n (fun _ _ => false))
  case first =>
    have hn_ := HG.out.n_
    have hz_ := HG.out.z_
    by_cases hl : 64 < len
    · obtain rfl := HM.out.1 hl
      go_wp2_with fail
      go_meet
      exact ⟨Onto.refl.set _ _, HG.out.setN 64⟩
    · obtain rfl := HM.out.2 (by omega)
      go_wp2_with fail
      go_meet
      exact ⟨Onto.refl, HG.out⟩
  case rest =>
  obtain ⟨hoc, hgc⟩ := hcut
  have HG2 := Lib.hid hgc
  have HBc := Lib.hid (hoc.under HB.out (Nat.le_refl _))
  have hzc := hgc.lt
  have HC2 : Hid (∀ i, i < len → wc.cell? ⟨X, off + i, none⟩ = some (.int .u64 (r i))) := Lib.hid (fun i hi => cell_below (HC.out i hi) HBc.out)
  have hXl : ∀ i, i < len → X < w.heap.size := fun i hi => cell_lt2 (HC.out i hi)
  replace hXl := Lib.hid hXl
  clear hoc hgc HG HB hzA HM HC
  obtain ⟨wB, rfl⟩ : ∃ wB : World, wB = wc := ⟨_, rfl⟩
  go_wp2_with fail
  go_loopw [4] (fun v4 wr => ∃ i : Nat, i ≤ n ∧ v4 = .int .i64 i ∧ Onto w.heap.size wB wr ∧ GridAt wr w.heap.size n (upF f i 0)) (fun v4 _ => n - (intOf v4).toNat)
  case atStart => exact ⟨0, by omega, rfl, Onto.refl, HG2.out.congr fun a c _ _ => by simp [upF]⟩
  case round =>
    obtain ⟨i, hi, rfl, ho, hg⟩ := hrel
    have HO := Lib.hid ho
    have HG3 := Lib.hid hg
    have hn_ := hg.n_
    have hlt1 := hg.lt
    clear ho hg
    obtain ⟨w1, rfl⟩ : ∃ w1 : World, w1 = wr := ⟨_, rfl⟩
    by_cases hlt : (i : Int) < n
    · go_wp2_with fail
      go_loopw [5] (fun v5 wr => ∃ k : Nat, k ≤ n ∧ v5 = .int .i64 k ∧ Onto w.heap.size wB wr ∧ GridAt wr w.heap.size n (upF f i k)) (fun v5 _ => n - (intOf v5).toNat)
      case atStart => exact ⟨0, by omega, rfl, HO.out, HG3.out⟩
      case round =>
        obtain ⟨k, hk, rfl, ho2, hg2⟩ := hrel
        have HO2 := Lib.hid ho2
        have HG4 := Lib.hid hg2
        have hn2 := hg2.n_
        have hlt2 := hg2.lt
        by_cases hltk : (k : Int) < n
        · obtain rfl := hA (by omega)
          have hXs := hXl.out i (by omega)
          have c1 : wr.cell? ⟨X, off + i, none⟩ = some (.int .u64 (r i)) := (ho2.cell (by omega) (by omega)).trans (HC2.out i (by omega))
          have d1 := hg2.on_ i k (by omega) (by omega)
          have z1 := hg2.z_ (1 + i * 64 + k)
          have hXr : X < wr.heap.size := by omega
          have key := HB1.out i k
          rw [HF3.out i k (by omega) (by omega)] at key
          have kb := bool_eq1 (f i k)
          have HN := Lib.hid (fun a c => up_next f i k a c)
          have hk64 : k < 64 := by omega
          have hi64 : i < 64 := by omega
          clear ho2 hg2
          go_upto_region 10 with fail
          refine wp_tail_more 16 (by kernel_rfl) (by kernel_rfl) ?_
          simp only [List.take_succ_cons, List.take_zero, List.drop_succ_cons, List.drop_zero]
          repeat (go_big_quiet_step (fail))
          refine wpQuiet_nil ?_
          intro p
          go_wp2_with fail
          go_roundw
          case rel => exact ⟨k + 1, by omega, by go_num, (HO2.out.set _ _).more p, ((HG4.out.set i k hi64 hk64 _).more p).congr fun a c _ _ => HN.out a c⟩
          case measure => simp [intOf]; omega
        · obtain rfl : k = n := by omega
          clear ho2 hg2
          go_wp2_with fail
          go_roundw
          case rel => exact ⟨i + 1, by omega, by go_num, HO2.out, HG4.out.congr fun a c _ _ => up_row k f HF1.out i a c⟩
          case measure => simp [intOf]; omega
    · obtain rfl : i = n := by omega
      go_wp2_with fail
      go_ret
      exact ⟨w.heap.size, rfl, more_of_below (HO.out.under HBc.out (Nat.le_refl _)), Nat.le_refl _, HG3.out.congr fun a c _ _ => up_all i f HF2.out a c⟩
theorem is_key (k : Nat) (hk : k < 64) (f : Nat → Bool) (h : f k = true) : bits .or .u64 ((rowN k f : Nat) : Int) (IntKind.u64.wrap (2 ^ k)) = ((rowN (k + 1) f : Nat) : Int) := by
  rw [or_key _ _ (rowN_64 (by omega) f) hk]
  congr 1
  show _ = if f k = true then _ else _
  rw [if_pos h]
theorem is_not (k : Nat) (f : Nat → Bool) (h : f k = false) : rowN (k + 1) f = rowN k f := by
  show (if f k = true then _ else _) = _
  rw [if_neg (by rw [h]; decide)]
/-- so many rows, and just these. -/
def IsP (n : Nat) (f : Nat → Nat → Bool) (len : Nat) (r : Nat → Nat) : Prop := len = n ∧ ∀ i, i < n → r i = rowN n (f i)
end Go.Proofs.YtgghhbjaokgeeaaDoor
