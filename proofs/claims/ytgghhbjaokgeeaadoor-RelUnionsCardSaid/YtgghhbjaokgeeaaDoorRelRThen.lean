/- Walk: one relation of the document's behind the other. Conditions: no more than 64 things. -/
import Derived.Test.YtgghhbjaokgeeaaDoorRelOf
namespace Go.Proofs.YtgghhbjaokgeeaaDoor
open Go.RowKit Go.Sort Go.Lib
set_option linter.unusedVariables false
set_option linter.unusedSimpArgs false
def tG (N : Nat) (A B : Nat → Nat → Bool) (i j k : Nat) (x c : Nat) : Bool :=
  decide (c < N) && (if x < i then thenF N A B x c else if x = i then ((List.range j).any (fun t => A i t && B t c) || (decide (c < k) && (A i j && B j c))) else false)
theorem tG_next (N : Nat) (A B : Nat → Nat → Bool) (i j k : Nat) (hk : k < N) (hA : A i j = true) (x c : Nat) : (if x = i ∧ c = k then (tG N A B i j k i k || B j k) else tG N A B i j k x c) = tG N A B i j (k + 1) x c := by
  unfold tG
  by_cases e : x = i
  · subst e
    by_cases e2 : c = k
    · subst e2; simp [hk, hA]
    · simp [e2, show (c < k + 1) = (c < k) by simp; omega]
  · by_cases e2 : x < i <;> simp [e, e2]
theorem tG_row (N : Nat) (A B : Nat → Nat → Bool) (i j k : Nat) (h : N ≤ k ∨ A i j = false) (x c : Nat) : tG N A B i j k x c = tG N A B i (j + 1) 0 x c := by
  unfold tG
  by_cases hc : c < N
  · by_cases e : x = i
    · subst e
      rw [List.range_succ, List.any_append]
      rcases h with h | h
      · simp [show c < k by omega, hc]
      · simp [h]
    · by_cases e2 : x < i <;> simp [e, e2]
  · simp [hc]
theorem tG_up (N : Nat) (A B : Nat → Nat → Bool) (i : Nat) (x c : Nat) : tG N A B i N 0 x c = tG N A B (i + 1) 0 0 x c := by
  unfold tG
  by_cases e : x = i
  · subst e; simp [thenF]
  · by_cases e2 : x < i
    · simp [e2, show x < i + 1 by omega]
    · simp [e, e2, show ¬ x < i + 1 by omega]
theorem tG_all (N : Nat) (A B : Nat → Nat → Bool) (x c : Nat) : tG N A B N 0 0 x c = (decide (x < N) && (decide (c < N) && thenF N A B x c)) := by
  unfold tG
  by_cases e : x < N
  · simp [e]
  · simp [e]
theorem tG_zero (N : Nat) (A B : Nat → Nat → Bool) (x c : Nat) : false = tG N A B 0 0 0 x c := by
  unfold tG
  simp
set_option maxHeartbeats 4000000 in
theorem rthen_any (ba bb na nb : Nat) (A B : Nat → Nat → Bool) (ha : na ≤ 64) (hb : nb ≤ 64) (w : World) (hGa : GridAt w ba na A) (hGb : GridAt w bb nb B) :
    Calls Tryd.prog 21 #[.pointer (some ⟨ba, 0, none⟩), .pointer (some ⟨bb, 0, none⟩)] w (GivesGrid w (max na nb) (fun i k => decide (i < max na nb) && (decide (k < max na nb) && thenF (max na nb) A B i k))) := by
  obtain ⟨N, hN⟩ : ∃ N, N = max na nb := ⟨_, rfl⟩
  have hN64 : N ≤ 64 := by omega
  have HM : Hid ((na < nb → N = nb) ∧ (nb ≤ na → N = na)) := Lib.hid (by omega)
  rw [← hN]
  have HA := Lib.hid hGa
  have HB := Lib.hid hGb
  have hla := hGa.lt
  have hlb := hGb.lt
  have hna := hGa.n_
  have hnb := hGb.n_
  clear hGa hGb hN
  have HG := Lib.hid (grid_new w na)
  go_enter Tryd.func21, Tryd.ntmps21
  go_upto_region 2 with (first
    | ((with_reducible refine wpList_grid rfl _ rfl na rfl ?_))
    | ((with_reducible refine wpList_boxg rfl _ rfl na rfl ?_)))
  have HBw := Lib.hid (below_al (Below.refl _ w) (.cells (gridC na) 28))
  have HA1 := Lib.hid (HA.out.below HBw.out)
  have HB1 := Lib.hid (HB.out.below HBw.out)
  have hna1 := HA1.out.n_
  have hnb1 := HB1.out.n_
  have hg1 := HG.out.n_
  have hgl := HG.out.lt
  have hla1 := HA1.out.lt
  have hlb1 := HB1.out.lt
  clear HA HB hna hnb
  generalize w.alloc (.cells (gridC na) 28) = wA at *
  refine wp_quiet_more (by kernel_rfl) (by kernel_rfl) ?_
  repeat (go_big_quiet_step (fail))
  refine wpQuiet_nil ?_
  intro p0
  have HG2 := Lib.hid (HG.out.more p0)
  have HA2 := Lib.hid (HA1.out.more p0)
  have HB2 := Lib.hid (HB1.out.more p0)
  have HBw2 := Lib.hid (below_mo HBw.out p0)
  clear HG HA1 HB1 HBw hna1 hnb1 hg1 hgl hla1 hlb1
  generalize more wA p0 = wB at *
  go_upto_if 23 with fail
  go_cut [23] from 24 to 30 (fun _ W => Onto w.heap.size wB W ∧ GridAt W w.heap.size N (fun _ _ => false))
  case first =>
    have hn1 := HG2.out.n_
    have hn2 := HB2.out.n_
    have hz_ := HG2.out.z_
    by_cases hl : na < nb
    · obtain rfl := HM.out.1 hl
      go_wp2_with fail
      go_meet
      exact ⟨Onto.refl.set _ _, HG2.out.setN _⟩
    · obtain rfl := HM.out.2 (by omega)
      go_wp2_with fail
      go_meet
      exact ⟨Onto.refl, HG2.out⟩
  case rest =>
  obtain ⟨hoc, hgc⟩ := hcut
  have HG3 := Lib.hid hgc
  have HBc := Lib.hid (hoc.under HBw2.out (Nat.le_refl _))
  have HA3 := Lib.hid (HA2.out.onto hoc (by omega))
  have HB3 := Lib.hid (HB2.out.onto hoc (by omega))
  clear hoc hgc HG2 HA2 HB2 HBw2 HM
  obtain ⟨wC, rfl⟩ : ∃ wC : World, wC = wc := ⟨_, rfl⟩
  have hzc := HG3.out.lt
  go_wp2_with fail
  go_loopw [6] (fun v6 wr => ∃ i : Nat, i ≤ N ∧ v6 = .int .i64 i ∧ Onto w.heap.size wC wr ∧ GridAt wr w.heap.size N (tG N A B i 0 0)) (fun v6 _ => N - (intOf v6).toNat)
  case atStart => exact ⟨0, by omega, rfl, Onto.refl, HG3.out.congr fun x c _ _ => tG_zero N A B x c⟩
  case round =>
    obtain ⟨i, hi, rfl, ho, hg⟩ := hrel
    have HO := Lib.hid ho
    have HG4 := Lib.hid hg
    have hn4 := hg.n_
    have hl4 := hg.lt
    clear ho hg
    obtain ⟨w1, rfl⟩ : ∃ w1 : World, w1 = wr := ⟨_, rfl⟩
    by_cases hlt : (i : Int) < N
    · go_wp2_with fail
      go_loopw [7] (fun v7 wr => ∃ j : Nat, j ≤ N ∧ v7 = .int .i64 j ∧ Onto w.heap.size wC wr ∧ GridAt wr w.heap.size N (tG N A B i j 0)) (fun v7 _ => N - (intOf v7).toNat)
      case atStart => exact ⟨0, by omega, rfl, HO.out, HG4.out⟩
      case round =>
        obtain ⟨j, hj, rfl, ho2, hg2⟩ := hrel
        have HO2 := Lib.hid ho2
        have HG5 := Lib.hid hg2
        have hn5 := hg2.n_
        have hl5 := hg2.lt
        clear ho2 hg2
        obtain ⟨w2, rfl⟩ : ∃ w2 : World, w2 = wr := ⟨_, rfl⟩
        by_cases hltj : (j : Int) < N
        · go_wp2_with fail
          go_loopw [8] (fun v8 wr => ∃ k : Nat, k ≤ N ∧ v8 = .int .i64 k ∧ Onto w.heap.size wC wr ∧ GridAt wr w.heap.size N (tG N A B i j k)) (fun v8 _ => N - (intOf v8).toNat)
          case atStart => exact ⟨0, by omega, rfl, HO2.out, HG5.out⟩
          case round =>
            obtain ⟨k, hk, rfl, ho3, hg3⟩ := hrel
            have HO3 := Lib.hid ho3
            have HG6 := Lib.hid hg3
            have hn6 := hg3.n_
            have hl6 := hg3.lt
            have HA6 := Lib.hid (HA3.out.onto ho3 (by omega))
            have HB6 := Lib.hid (HB3.out.onto ho3 (by omega))
            have hla6 := HA6.out.lt
            have hlb6 := HB6.out.lt
            clear ho3
            by_cases hltk : (k : Int) < N
            · have hi64 : i < 64 := by omega
              have hj64 : j < 64 := by omega
              have hk64 : k < 64 := by omega
              have a1 := HA6.out.on_ i j hi64 hj64
              have b1 := HB6.out.on_ j k hj64 hk64
              have d1 := hg3.on_ i k hi64 hk64
              have z1 := hg3.z_ (1 + i * 64 + k)
              clear hg3
              cases hAb : A i j with
              | false =>
                rw [hAb] at a1
                have HR := Lib.hid (fun x c => tG_row N A B i j k (.inr hAb) x c)
                clear b1 d1 z1 hAb
                go_wp2_with fail
                go_roundw
                case rel => exact ⟨j + 1, by omega, by go_num, HO3.out, HG6.out.congr fun x c _ _ => HR.out x c⟩
                case measure => simp [intOf]; omega
              | true =>
                rw [hAb] at a1
                have HN := Lib.hid (fun x c => tG_next N A B i j k (by omega) hAb x c)
                clear hAb
                generalize tG N A B i j k i k = t at *
                generalize B j k = u at *
                cases t with
                | true =>
                  go_upto_region 13 with fail
                  refine wp_tail_more 25 (by kernel_rfl) (by kernel_rfl) ?_
                  simp only [List.take_succ_cons, List.take_zero, List.drop_succ_cons, List.drop_zero]
                  repeat (go_big_quiet_step (fail))
                  refine wpQuiet_nil ?_
                  intro p
                  go_wp2_with fail
                  go_roundw
                  case rel => exact ⟨k + 1, by omega, by go_num, (HO3.out.set _ _).more p, ((HG6.out.set i k hi64 hk64 true).more p).congr fun x c _ _ => by simpa using HN.out x c⟩
                  case measure => simp [intOf]; omega
                | false =>
                  go_upto_region 13 with fail
                  refine wp_tail_more 25 (by kernel_rfl) (by kernel_rfl) ?_
                  simp only [List.take_succ_cons, List.take_zero, List.drop_succ_cons, List.drop_zero]
                  repeat (go_big_quiet_step (fail))
                  refine wpQuiet_nil ?_
                  intro p
                  go_wp2_with fail
                  go_roundw
                  case rel => exact ⟨k + 1, by omega, by go_num, (HO3.out.set _ _).more p, ((HG6.out.set i k hi64 hk64 u).more p).congr fun x c _ _ => by simpa using HN.out x c⟩
                  case measure => simp [intOf]; omega
            · obtain rfl : k = N := by omega
              have HR := Lib.hid (fun x c => tG_row k A B i j k (.inl (Nat.le_refl _)) x c)
              clear hg3
              go_wp2_with fail
              go_roundw
              case rel => exact ⟨j + 1, by omega, by go_num, HO3.out, HG6.out.congr fun x c _ _ => HR.out x c⟩
              case measure => simp [intOf]; omega
        · obtain rfl : j = N := by omega
          go_wp2_with fail
          go_roundw
          case rel => exact ⟨i + 1, by omega, by go_num, HO2.out, HG5.out.congr fun x c _ _ => tG_up j A B i x c⟩
          case measure => simp [intOf]; omega
    · obtain rfl : i = N := by omega
      go_wp2_with fail
      go_ret
      exact ⟨w.heap.size, rfl, more_of_below (HO.out.under HBc.out (Nat.le_refl _)), Nat.le_refl _, HG4.out.congr fun x c _ _ => tG_all i A B x c⟩
end Go.Proofs.YtgghhbjaokgeeaaDoor
