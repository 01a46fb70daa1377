/- Whether a type may be: the document's walk over a group's fields. Conditions: the type lies in memory; what it calls is given. -/
import Derived.Test.YtlbkloamabomcaaKindInner0
namespace Go.Proofs.Ytlbkloamabomcaa
open Go.RowKit Go.Sort
set_option linter.unusedVariables false
set_option linter.unusedSimpArgs false

set_option maxRecDepth 1000000 in
set_option maxHeartbeats 8000000 in
theorem inner_group4 (rs : Int) (rp : Bool) (b off fl fc : Nat) (rc : Int) (ea : Option Addr) (el ec : Nat) (nm : Nat → ByteArray) (g : Nat → Int) (w : World) (hel : el ≤ 9223372036854775807)
    (s0 : (rs != 0) = false) (s1 : (rc != 0) = false) (s2 : ¬ (0 : Int) < el) (h1 : 1 ≤ fl) (h2 : fl ≤ 32) (hF : FieldsIn 44 w b off fl fc rp nm g) :
    Calls Try.prog 44 #[.agg #[.int .i64 4, .int .i64 rs, .bool rp, .slice (some ⟨b, off, none⟩) fl fc, .int .i64 rc, .slice ea el ec]] w (Gives w (.int .i64 (firstE g fl))) := by
  have HF := Lib.hid hF
  have HZ := Lib.hid (firstE_zero g)
  have HH := Lib.hid (firstE_hit g)
  clear hF
  have b0 : ((fl : Int) == 0) = false := beq_eq_false_iff_ne.2 (by omega)
  have s3 : ¬ (32 : Int) < fl := by omega
  go_enter Try.func44, Try.ntmps44
  go_wp2_with fail
  go_loopw [3, 4, 5, 6] (fun x _ _ _ wr => ∃ i : Nat, i ≤ fl ∧ x = .int .i64 i ∧ (∀ j, j < i → g j = 0) ∧ ∃ p : Regrown, wr = more (w.alloc (.cells #[.int .i64 4, .int .i64 rs, .bool rp, .slice (some ⟨b, off, none⟩) fl fc, .int .i64 rc, .slice ea el ec] 25)) p) (fun x _ _ _ _ => fl - (intOf x).toNat)
  case atStart => exact ⟨0, by omega, rfl, fun j hj => by omega, more_of_below (by repeat (first | exact Below.refl _ _ | refine below_mo ?_ _))⟩
  case round =>
    obtain ⟨i, hi, rfl, hall, p, rfl⟩ := hrel
    have HA := Lib.hid hall
    clear hall
    by_cases hlt : (i : Int) < fl
    · obtain ⟨s, q, bt, wd, e, hI, hS, hq0, hg00⟩ := HF.out i (by omega)
      obtain ⟨qk, qs, qp, qfa, qfl, qfc, qc, qea, qel, qec⟩ := q
      simp only at hS hq0 hg00
      have HS := Lib.hid hS
      have hq := Lib.hid hq0
      have hg0 := Lib.hid hg00
      have HC := Lib.hid hI.all
      have HL := Lib.hid hI.len
      obtain ⟨hb, _, hfc, hfm, c0, c1, c2, c3, c4, c5, c6, c7, c8, _, _⟩ := hI
      simp only at c1 c2 c3 c4 c5 c6
      clear hS hq0 hg00
      have n1 := fun W => refname_any s HL.out W
      cases hn' : nameB s
      · rw [hn'] at n1
        have N1 := Lib.hid n1
        have hn := Lib.hid hn'
        clear n1 hn'
        cases em : s.toList.isEmpty
        · have hg : g i = 6 := by rw [hg0.out]; simp [fieldE, hn.out, em]
          have HI := Lib.hid (HH.out i HA.out (by rw [hg]; simp <;> omega) fl (by omega))
          have HR : Hid (firstE g fl = 6) := Lib.hid (HI.out.trans hg)
          clear hg
          as_aux_lemma =>
            go_wp2_with (go_at_call 67; refine (N1.out _).mono ?_; rintro e w1 ⟨rfl, p1, rfl⟩)
            go_ret
            exact Gives.mk (ret_int (by rw [HR.out])) (by repeat (first | exact Below.refl _ _ | refine below_mo ?_ _ | refine below_al ?_ _))
        · cases bt
          · have hg : g i = 6 := by rw [hg0.out]; simp [fieldE, hn.out, em]
            have HI := Lib.hid (HH.out i HA.out (by rw [hg]; simp <;> omega) fl (by omega))
            have HR : Hid (firstE g fl = 6) := Lib.hid (HI.out.trans hg)
            clear hg
            as_aux_lemma =>
              go_wp2_with (go_at_call 67; refine (N1.out _).mono ?_; rintro e w1 ⟨rfl, p1, rfl⟩)
              go_ret
              exact Gives.mk (ret_int (by rw [HR.out])) (by repeat (first | exact Below.refl _ _ | refine below_mo ?_ _ | refine below_al ?_ _))
          · skip
            go_wp2_with (go_at_call 67; refine (N1.out _).mono ?_; rintro e w1 ⟨rfl, p1, rfl⟩)
            go_loopw [5] (fun x wr => ∃ k : Nat, k ≤ i ∧ x = .int .i64 k ∧ ∃ p2 : Regrown, wr = more ((more (w.alloc (.cells #[.int .i64 4, .int .i64 rs, .bool rp, .slice (some ⟨b, off, none⟩) fl fc, .int .i64 rc, .slice ea el ec] 25)) p).alloc (.cells #[.string s, .int .i64 qk, .int .i64 qs, .bool qp, .slice qfa qfl qfc, .int .i64 qc, .slice qea qel qec, .bool true, .int .i64 wd] 51)) p2) (fun x _ => i - (intOf x).toNat)
            case atStart => exact ⟨0, by omega, rfl, _, rfl⟩
            case round =>
              obtain ⟨k, hk, rfl, p2, rfl⟩ := hrel
              by_cases hlt2 : (k : Int) < i
              · as_aux_lemma =>
                  go_wp2_with fail
                  refine wp_quiet_more (by kernel_rfl) (by kernel_rfl) ?_
                  repeat (go_big_quiet_step (fail))
                  refine wpQuiet_nil ?_
                  intro p3
                  go_wp2
                  go_roundw
                  case rel => exact ⟨k + 1, by omega, by go_num, more_of_below (w := (more (w.alloc (.cells #[.int .i64 4, .int .i64 rs, .bool rp, .slice (some ⟨b, off, none⟩) fl fc, .int .i64 rc, .slice ea el ec] 25)) p).alloc (.cells #[.string s, .int .i64 qk, .int .i64 qs, .bool qp, .slice qfa qfl qfc, .int .i64 qc, .slice qea qel qec, .bool true, .int .i64 wd] 51)) (by repeat (first | exact Below.refl _ _ | refine below_mo ?_ _ | refine below_al ?_ _))⟩
                  case measure => simp [intOf]; omega
              · obtain rfl : i = k := by omega
                have HG : Hid (g i = fieldE rp s false e true wd qk qs) := by
                  rw [hg0.out]; unfold fieldE; rw [em]; simp [Hid]
                clear hg0
                by_cases he : e = 0
                · subst he
                  by_cases hk : qk = 1
                  · have K : (qk != 1) = false := by simp [hk]
                    have hr := hq.out rfl hk
                    clear hk
                    cases rp
                    · rcases Int.lt_or_le wd 0 with h1 | h1
                      · as_aux_lemma =>
                          have hg : g i = 9 := by rw [HG.out]; simp [fieldE, hn.out, em, K, h1]
                          have HI := Lib.hid (HH.out i HA.out (by rw [hg]; simp <;> omega) fl (by omega))
                          have HR : Hid (firstE g fl = 9) := Lib.hid (HI.out.trans hg)
                          clear hg
                          go_wp2_with (go_at_call 44; refine (HS.out _ (by repeat (first | exact Below.refl _ _ | refine below_mo ?_ _ | refine below_al ?_ _))).mono ?_; rintro e w1 ⟨rfl, p2, rfl⟩)
                          go_ret
                          exact Gives.mk (ret_int (by rw [HR.out])) (by repeat (first | exact Below.refl _ _ | refine below_mo ?_ _ | refine below_al ?_ _))
                      · rcases Int.lt_or_le (8 * qs) wd with h2 | h2
                        · as_aux_lemma =>
                            have hg : g i = 9 := by rw [HG.out]; simp [fieldE, hn.out, em, K, h2]
                            have HI := Lib.hid (HH.out i HA.out (by rw [hg]; simp <;> omega) fl (by omega))
                            have HR : Hid (firstE g fl = 9) := Lib.hid (HI.out.trans hg)
                            clear hg
                            go_wp2_with (go_at_call 44; refine (HS.out _ (by repeat (first | exact Below.refl _ _ | refine below_mo ?_ _ | refine below_al ?_ _))).mono ?_; rintro e w1 ⟨rfl, p2, rfl⟩)
                            go_ret
                            exact Gives.mk (ret_int (by rw [HR.out])) (by repeat (first | exact Below.refl _ _ | refine below_mo ?_ _ | refine below_al ?_ _))
                        · cases h0 : (wd == 0)
                          · as_aux_lemma =>
                              have hg : g i = 0 := by rw [HG.out]; simp [fieldE, hn.out, em, K, h0]; omega
                              have HA2 : Hid (∀ j, j < i + 1 → g j = 0) := Lib.hid (fun j hj => by
                                rcases Nat.lt_or_ge j i with h | h
                                · exact HA.out j h
                                · obtain rfl : j = i := by omega
                                  exact hg)
                              clear hg
                              go_wp2_with (go_at_call 44; refine (HS.out _ (by repeat (first | exact Below.refl _ _ | refine below_mo ?_ _ | refine below_al ?_ _))).mono ?_; rintro e w1 ⟨rfl, p2, rfl⟩)
                              go_roundw
                              case rel => exact ⟨i + 1, by omega, by go_num, HA2.out, more_of_below (by repeat (first | exact Below.refl _ _ | refine below_mo ?_ _ | refine below_al ?_ _))⟩
                              case measure => simp [intOf]; omega
                          · as_aux_lemma =>
                              have hg : g i = 0 := by rw [HG.out]; simp [fieldE, hn.out, em, K, h0]; omega
                              have HA2 : Hid (∀ j, j < i + 1 → g j = 0) := Lib.hid (fun j hj => by
                                rcases Nat.lt_or_ge j i with h | h
                                · exact HA.out j h
                                · obtain rfl : j = i := by omega
                                  exact hg)
                              clear hg
                              go_wp2_with (go_at_call 44; refine (HS.out _ (by repeat (first | exact Below.refl _ _ | refine below_mo ?_ _ | refine below_al ?_ _))).mono ?_; rintro e w1 ⟨rfl, p2, rfl⟩)
                              go_roundw
                              case rel => exact ⟨i + 1, by omega, by go_num, HA2.out, more_of_below (by repeat (first | exact Below.refl _ _ | refine below_mo ?_ _ | refine below_al ?_ _))⟩
                              case measure => simp [intOf]; omega
                    · as_aux_lemma =>
                        have hg : g i = 8 := by rw [HG.out]; simp [fieldE, hn.out, em, K]
                        have HI := Lib.hid (HH.out i HA.out (by rw [hg]; simp <;> omega) fl (by omega))
                        have HR : Hid (firstE g fl = 8) := Lib.hid (HI.out.trans hg)
                        clear hg
                        go_wp2_with (go_at_call 44; refine (HS.out _ (by repeat (first | exact Below.refl _ _ | refine below_mo ?_ _ | refine below_al ?_ _))).mono ?_; rintro e w1 ⟨rfl, p2, rfl⟩)
                        go_ret
                        exact Gives.mk (ret_int (by rw [HR.out])) (by repeat (first | exact Below.refl _ _ | refine below_mo ?_ _ | refine below_al ?_ _))
                  · have K : (qk != 1) = true := by simp [hk]
                    clear hk
                    cases rp
                    · as_aux_lemma =>
                        have hg : g i = 8 := by rw [HG.out]; simp [fieldE, hn.out, em, K]
                        have HI := Lib.hid (HH.out i HA.out (by rw [hg]; simp <;> omega) fl (by omega))
                        have HR : Hid (firstE g fl = 8) := Lib.hid (HI.out.trans hg)
                        clear hg
                        go_wp2_with (go_at_call 44; refine (HS.out _ (by repeat (first | exact Below.refl _ _ | refine below_mo ?_ _ | refine below_al ?_ _))).mono ?_; rintro e w1 ⟨rfl, p2, rfl⟩)
                        go_ret
                        exact Gives.mk (ret_int (by rw [HR.out])) (by repeat (first | exact Below.refl _ _ | refine below_mo ?_ _ | refine below_al ?_ _))
                    · as_aux_lemma =>
                        have hg : g i = 8 := by rw [HG.out]; simp [fieldE, hn.out, em, K]
                        have HI := Lib.hid (HH.out i HA.out (by rw [hg]; simp <;> omega) fl (by omega))
                        have HR : Hid (firstE g fl = 8) := Lib.hid (HI.out.trans hg)
                        clear hg
                        go_wp2_with (go_at_call 44; refine (HS.out _ (by repeat (first | exact Below.refl _ _ | refine below_mo ?_ _ | refine below_al ?_ _))).mono ?_; rintro e w1 ⟨rfl, p2, rfl⟩)
                        go_ret
                        exact Gives.mk (ret_int (by rw [HR.out])) (by repeat (first | exact Below.refl _ _ | refine below_mo ?_ _ | refine below_al ?_ _))
                · have be : (e != 0) = true := by simpa using he
                  have he2 := Lib.hid he
                  clear he
                  as_aux_lemma =>
                    have hg : g i = e := by rw [HG.out]; simp [fieldE, hn.out, em, he2.out]
                    have HI := Lib.hid (HH.out i HA.out (by rw [hg]; exact he2.out) fl (by omega))
                    have HR : Hid (firstE g fl = e) := Lib.hid (HI.out.trans hg)
                    clear hg
                    go_wp2_with (go_at_call 44; refine (HS.out _ (by repeat (first | exact Below.refl _ _ | refine below_mo ?_ _ | refine below_al ?_ _))).mono ?_; rintro e w1 ⟨rfl, p2, rfl⟩)
                    go_ret
                    exact Gives.mk (ret_int (by rw [HR.out])) (by repeat (first | exact Below.refl _ _ | refine below_mo ?_ _ | refine below_al ?_ _))
      · rw [hn'] at n1
        have N1 := Lib.hid n1
        have hn := Lib.hid hn'
        have em := empty_name hn'
        clear n1 hn'
        go_wp2_with (go_at_call 67; refine (N1.out _).mono ?_; rintro e w1 ⟨rfl, p1, rfl⟩)
        go_loopw [5] (fun x wr => ∃ k : Nat, k ≤ i ∧ x = .int .i64 k ∧ (∀ j, j < k → ((nm j).toList == s.toList) = false) ∧ ∃ p2 : Regrown, wr = more ((more (w.alloc (.cells #[.int .i64 4, .int .i64 rs, .bool rp, .slice (some ⟨b, off, none⟩) fl fc, .int .i64 rc, .slice ea el ec] 25)) p).alloc (.cells #[.string s, .int .i64 qk, .int .i64 qs, .bool qp, .slice qfa qfl qfc, .int .i64 qc, .slice qea qel qec, .bool bt, .int .i64 wd] 51)) p2) (fun x _ => i - (intOf x).toNat)
        case atStart => exact ⟨0, by omega, rfl, fun j hj => by omega, _, rfl⟩
        case round =>
          obtain ⟨k, hk, rfl, hall, p2, rfl⟩ := hrel
          have HN := Lib.hid hall
          clear hall
          by_cases hlt2 : (k : Int) < i
          · obtain ⟨q', bt', wd', d0, d1, d2, d3, d4, d5, d6, d7, d8⟩ := HC.out k (by omega)
            have HN3 := Lib.hid (HN.out)
            generalize hnk : nm k = u at d0
            have HK := Lib.hid hnk
            clear hnk d1 d2 d3 d4 d5 d6 d7 d8
            cases hq1 : (u.toList == s.toList)
            · have HN2 : Hid (∀ j, j < k + 1 → ((nm j).toList == s.toList) = false) := Lib.hid (fun j hj => by
                rcases Nat.lt_or_ge j k with h | h
                · exact HN.out j h
                · obtain rfl : j = k := by omega
                  rw [HK.out]; exact hq1)
              as_aux_lemma =>
                go_wp2_with fail
                refine wp_quiet_more (by kernel_rfl) (by kernel_rfl) ?_
                repeat (go_big_quiet_step (fail))
                refine wpQuiet_nil ?_
                intro p3
                go_wp2
                go_roundw
                case rel => exact ⟨k + 1, by omega, by go_num, HN2.out, more_of_below (w := (more (w.alloc (.cells #[.int .i64 4, .int .i64 rs, .bool rp, .slice (some ⟨b, off, none⟩) fl fc, .int .i64 rc, .slice ea el ec] 25)) p).alloc (.cells #[.string s, .int .i64 qk, .int .i64 qs, .bool qp, .slice qfa qfl qfc, .int .i64 qc, .slice qea qel qec, .bool bt, .int .i64 wd] 51)) (by repeat (first | exact Below.refl _ _ | refine below_mo ?_ _ | refine below_al ?_ _))⟩
                case measure => simp [intOf]; omega
            · have hg : g i = 7 := by
                rw [hg0.out, anyB_hit nm s i k (by omega) (by rw [HK.out]; exact hq1)]
                simp [fieldE, hn.out, em]
              have HI := Lib.hid (HH.out i HA.out (by rw [hg]; simp <;> omega) fl (by omega))
              have HR : Hid (firstE g fl = 7) := Lib.hid (HI.out.trans hg)
              clear hg
              as_aux_lemma =>
                go_wp2_with fail
                refine wp_quiet_more (by kernel_rfl) (by kernel_rfl) ?_
                repeat (go_big_quiet_step (fail))
                refine wpQuiet_nil ?_
                intro p3
                go_wp2
                go_ret
                exact Gives.mk (ret_int (by rw [HR.out])) (by repeat (first | exact Below.refl _ _ | refine below_mo ?_ _ | refine below_al ?_ _))
          · obtain rfl : i = k := by omega
            have HG : Hid (g i = fieldE rp s false e bt wd qk qs) := by
              rw [hg0.out, anyB_none nm s i HN.out]; exact Lib.hid rfl
            cases bt
            · clear hg0
              by_cases he : e = 0
              · subst he
                cases h0 : (wd != 0)
                · as_aux_lemma =>
                    have hg : g i = 0 := by rw [HG.out]; simp [fieldE, hn.out, em, h0]
                    have HA2 : Hid (∀ j, j < i + 1 → g j = 0) := Lib.hid (fun j hj => by
                      rcases Nat.lt_or_ge j i with h | h
                      · exact HA.out j h
                      · obtain rfl : j = i := by omega
                        exact hg)
                    clear hg
                    go_wp2_with (go_at_call 44; refine (HS.out _ (by repeat (first | exact Below.refl _ _ | refine below_mo ?_ _ | refine below_al ?_ _))).mono ?_; rintro e w1 ⟨rfl, p2, rfl⟩)
                    go_roundw
                    case rel => exact ⟨i + 1, by omega, by go_num, HA2.out, more_of_below (by repeat (first | exact Below.refl _ _ | refine below_mo ?_ _ | refine below_al ?_ _))⟩
                    case measure => simp [intOf]; omega
                · as_aux_lemma =>
                    have hg : g i = 8 := by rw [HG.out]; simp [fieldE, hn.out, em, h0]
                    have HI := Lib.hid (HH.out i HA.out (by rw [hg]; simp <;> omega) fl (by omega))
                    have HR : Hid (firstE g fl = 8) := Lib.hid (HI.out.trans hg)
                    clear hg
                    go_wp2_with (go_at_call 44; refine (HS.out _ (by repeat (first | exact Below.refl _ _ | refine below_mo ?_ _ | refine below_al ?_ _))).mono ?_; rintro e w1 ⟨rfl, p2, rfl⟩)
                    go_ret
                    exact Gives.mk (ret_int (by rw [HR.out])) (by repeat (first | exact Below.refl _ _ | refine below_mo ?_ _ | refine below_al ?_ _))
              · have be : (e != 0) = true := by simpa using he
                have he2 := Lib.hid he
                clear he
                as_aux_lemma =>
                  have hg : g i = e := by rw [HG.out]; simp [fieldE, hn.out, em, he2.out]
                  have HI := Lib.hid (HH.out i HA.out (by rw [hg]; exact he2.out) fl (by omega))
                  have HR : Hid (firstE g fl = e) := Lib.hid (HI.out.trans hg)
                  clear hg
                  go_wp2_with (go_at_call 44; refine (HS.out _ (by repeat (first | exact Below.refl _ _ | refine below_mo ?_ _ | refine below_al ?_ _))).mono ?_; rintro e w1 ⟨rfl, p2, rfl⟩)
                  go_ret
                  exact Gives.mk (ret_int (by rw [HR.out])) (by repeat (first | exact Below.refl _ _ | refine below_mo ?_ _ | refine below_al ?_ _))
            · clear hg0
              by_cases he : e = 0
              · subst he
                by_cases hk : qk = 1
                · have K : (qk != 1) = false := by simp [hk]
                  have hr := hq.out rfl hk
                  clear hk
                  cases rp
                  · rcases Int.lt_or_le wd 0 with h1 | h1
                    · as_aux_lemma =>
                        have hg : g i = 9 := by rw [HG.out]; simp [fieldE, hn.out, em, K, h1]
                        have HI := Lib.hid (HH.out i HA.out (by rw [hg]; simp <;> omega) fl (by omega))
                        have HR : Hid (firstE g fl = 9) := Lib.hid (HI.out.trans hg)
                        clear hg
                        go_wp2_with (go_at_call 44; refine (HS.out _ (by repeat (first | exact Below.refl _ _ | refine below_mo ?_ _ | refine below_al ?_ _))).mono ?_; rintro e w1 ⟨rfl, p2, rfl⟩)
                        go_ret
                        exact Gives.mk (ret_int (by rw [HR.out])) (by repeat (first | exact Below.refl _ _ | refine below_mo ?_ _ | refine below_al ?_ _))
                    · rcases Int.lt_or_le (8 * qs) wd with h2 | h2
                      · as_aux_lemma =>
                          have hg : g i = 9 := by rw [HG.out]; simp [fieldE, hn.out, em, K, h2]
                          have HI := Lib.hid (HH.out i HA.out (by rw [hg]; simp <;> omega) fl (by omega))
                          have HR : Hid (firstE g fl = 9) := Lib.hid (HI.out.trans hg)
                          clear hg
                          go_wp2_with (go_at_call 44; refine (HS.out _ (by repeat (first | exact Below.refl _ _ | refine below_mo ?_ _ | refine below_al ?_ _))).mono ?_; rintro e w1 ⟨rfl, p2, rfl⟩)
                          go_ret
                          exact Gives.mk (ret_int (by rw [HR.out])) (by repeat (first | exact Below.refl _ _ | refine below_mo ?_ _ | refine below_al ?_ _))
                      · cases h0 : (wd == 0)
                        · as_aux_lemma =>
                            have hg : g i = 0 := by rw [HG.out]; simp [fieldE, hn.out, em, K, h0]; omega
                            have HA2 : Hid (∀ j, j < i + 1 → g j = 0) := Lib.hid (fun j hj => by
                              rcases Nat.lt_or_ge j i with h | h
                              · exact HA.out j h
                              · obtain rfl : j = i := by omega
                                exact hg)
                            clear hg
                            go_wp2_with (go_at_call 44; refine (HS.out _ (by repeat (first | exact Below.refl _ _ | refine below_mo ?_ _ | refine below_al ?_ _))).mono ?_; rintro e w1 ⟨rfl, p2, rfl⟩)
                            go_roundw
                            case rel => exact ⟨i + 1, by omega, by go_num, HA2.out, more_of_below (by repeat (first | exact Below.refl _ _ | refine below_mo ?_ _ | refine below_al ?_ _))⟩
                            case measure => simp [intOf]; omega
                        · as_aux_lemma =>
                            have hg : g i = 9 := by rw [HG.out]; simp [fieldE, hn.out, em, K, h0]
                            have HI := Lib.hid (HH.out i HA.out (by rw [hg]; simp <;> omega) fl (by omega))
                            have HR : Hid (firstE g fl = 9) := Lib.hid (HI.out.trans hg)
                            clear hg
                            go_wp2_with (go_at_call 44; refine (HS.out _ (by repeat (first | exact Below.refl _ _ | refine below_mo ?_ _ | refine below_al ?_ _))).mono ?_; rintro e w1 ⟨rfl, p2, rfl⟩)
                            go_ret
                            exact Gives.mk (ret_int (by rw [HR.out])) (by repeat (first | exact Below.refl _ _ | refine below_mo ?_ _ | refine below_al ?_ _))
                  · as_aux_lemma =>
                      have hg : g i = 8 := by rw [HG.out]; simp [fieldE, hn.out, em, K]
                      have HI := Lib.hid (HH.out i HA.out (by rw [hg]; simp <;> omega) fl (by omega))
                      have HR : Hid (firstE g fl = 8) := Lib.hid (HI.out.trans hg)
                      clear hg
                      go_wp2_with (go_at_call 44; refine (HS.out _ (by repeat (first | exact Below.refl _ _ | refine below_mo ?_ _ | refine below_al ?_ _))).mono ?_; rintro e w1 ⟨rfl, p2, rfl⟩)
                      go_ret
                      exact Gives.mk (ret_int (by rw [HR.out])) (by repeat (first | exact Below.refl _ _ | refine below_mo ?_ _ | refine below_al ?_ _))
                · have K : (qk != 1) = true := by simp [hk]
                  clear hk
                  cases rp
                  · as_aux_lemma =>
                      have hg : g i = 8 := by rw [HG.out]; simp [fieldE, hn.out, em, K]
                      have HI := Lib.hid (HH.out i HA.out (by rw [hg]; simp <;> omega) fl (by omega))
                      have HR : Hid (firstE g fl = 8) := Lib.hid (HI.out.trans hg)
                      clear hg
                      go_wp2_with (go_at_call 44; refine (HS.out _ (by repeat (first | exact Below.refl _ _ | refine below_mo ?_ _ | refine below_al ?_ _))).mono ?_; rintro e w1 ⟨rfl, p2, rfl⟩)
                      go_ret
                      exact Gives.mk (ret_int (by rw [HR.out])) (by repeat (first | exact Below.refl _ _ | refine below_mo ?_ _ | refine below_al ?_ _))
                  · as_aux_lemma =>
                      have hg : g i = 8 := by rw [HG.out]; simp [fieldE, hn.out, em, K]
                      have HI := Lib.hid (HH.out i HA.out (by rw [hg]; simp <;> omega) fl (by omega))
                      have HR : Hid (firstE g fl = 8) := Lib.hid (HI.out.trans hg)
                      clear hg
                      go_wp2_with (go_at_call 44; refine (HS.out _ (by repeat (first | exact Below.refl _ _ | refine below_mo ?_ _ | refine below_al ?_ _))).mono ?_; rintro e w1 ⟨rfl, p2, rfl⟩)
                      go_ret
                      exact Gives.mk (ret_int (by rw [HR.out])) (by repeat (first | exact Below.refl _ _ | refine below_mo ?_ _ | refine below_al ?_ _))
              · have be : (e != 0) = true := by simpa using he
                have he2 := Lib.hid he
                clear he
                as_aux_lemma =>
                  have hg : g i = e := by rw [HG.out]; simp [fieldE, hn.out, em, he2.out]
                  have HI := Lib.hid (HH.out i HA.out (by rw [hg]; exact he2.out) fl (by omega))
                  have HR : Hid (firstE g fl = e) := Lib.hid (HI.out.trans hg)
                  clear hg
                  go_wp2_with (go_at_call 44; refine (HS.out _ (by repeat (first | exact Below.refl _ _ | refine below_mo ?_ _ | refine below_al ?_ _))).mono ?_; rintro e w1 ⟨rfl, p2, rfl⟩)
                  go_ret
                  exact Gives.mk (ret_int (by rw [HR.out])) (by repeat (first | exact Below.refl _ _ | refine below_mo ?_ _ | refine below_al ?_ _))
    · obtain rfl : i = fl := by omega
      have HI := Lib.hid (HZ.out i HA.out)
      go_wp2_with fail
      go_ret
      exact Gives.mk (ret_int (by rw [HI.out])) (by repeat (first | exact Below.refl _ _ | refine below_mo ?_ _ | refine below_al ?_ _))
end Go.Proofs.Ytlbkloamabomcaa
