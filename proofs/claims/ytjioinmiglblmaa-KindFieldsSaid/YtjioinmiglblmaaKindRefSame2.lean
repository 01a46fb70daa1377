/- Whether two types are one: the document's Same, one level. Conditions: the types lie in memory; what it calls is given. -/
import Derived.Test.YtjioinmiglblmaaKindRefSame
import Derived.BigRegion
namespace Go.Proofs.Ytjioinmiglblmaa
open Go.RowKit Go.Sort
set_option linter.unusedVariables false
set_option linter.unusedSimpArgs false

set_option maxRecDepth 1000000 in
set_option maxHeartbeats 4000000 in
theorem refsame_l (k s : Int) (p : Bool) (fa : Option Addr) (fl fc : Nat) (c : Int) (ea : Option Addr) (el ec : Nat) (fa2 : Option Addr) (fc2 : Nat) (ea2 : Option Addr) (ec2 : Nat) (gE gF : Nat → Bool) (w : World)
    (h1 : fl ≤ fc) (h2 : fc ≤ 9223372036854775807) (h3 : el ≤ ec) (h4 : ec ≤ 9223372036854775807) (h5 : fl ≤ fc2) (h6 : fc2 ≤ 9223372036854775807) (h7 : el ≤ ec2) (h8 : ec2 ≤ 9223372036854775807)
    (HE0 : ∀ i, i < el → TwoTy 27 w ea ea2 i (gE i)) (HF0 : ∀ i, i < fl → TwoFd 27 w fa fa2 i (gF i)) :
    Calls Try.prog 27 #[.agg #[.int .i64 k, .int .i64 s, .bool p, .slice fa fl fc, .int .i64 c, .slice ea el ec], .agg #[.int .i64 k, .int .i64 s, .bool p, .slice fa2 fl fc2, .int .i64 c, .slice ea2 el ec2]] w (Gives w (.bool (allK gE el && allK gF fl))) := by
  have HH := Lib.hid (allK_hit gE)
  have HA := Lib.hid (allK_all gE)
  have HH2 := Lib.hid (allK_hit gF)
  have HA2 := Lib.hid (allK_all gF)
  have HE := Lib.hid HE0
  have HF := Lib.hid HF0
  clear HE0 HF0
  have HR : Hid ((allK gE el && allK gF fl) = (allK gE el && allK gF fl)) := Lib.hid rfl
  generalize hR : (allK gE el && allK gF fl) = R at HR ⊢
  rw [← hR] at HR
  have HR0 := Lib.hid hR
  clear hR HR
  go_enter Try.func27, Try.ntmps27
  go_wp2_with fail
  go_loopw [5] (fun x wr => ∃ i : Nat, i ≤ el ∧ x = .int .i64 i ∧ (∀ j, j < i → gE j = true) ∧ ∃ r : Regrown, wr = more ((w.alloc (.cells #[.int .i64 k, .int .i64 s, .bool p, .slice fa fl fc, .int .i64 c, .slice ea el ec] 41)).alloc (.cells #[.int .i64 k, .int .i64 s, .bool p, .slice fa2 fl fc2, .int .i64 c, .slice ea2 el ec2] 41)) r) (fun x _ => el - (intOf x).toNat)
  case atStart => exact ⟨0, by omega, rfl, fun j hj => by omega, more_of_below (Below.refl _ _)⟩
  case round =>
    obtain ⟨i, hi, rfl, hall, r, rfl⟩ := hrel
    have HL := Lib.hid hall
    clear hall
    by_cases hlt : (i : Int) < el
    · obtain ⟨b, off, b2, off2, q, q2, rfl, rfl, hb, hb2, c0, c1, c2, c3, c4, c5, d0, d1, d2, d3, d4, d5, hS⟩ := HE.out i (by omega)
      cases hg : gE i
      · rw [hg] at hS
        have HS := Lib.hid hS
        have HR2 : Hid (R = false) := Lib.hid (by rw [← HR0.out, HH.out i hg el (by omega)]; rfl)
        clear hg hS
        as_aux_lemma =>
          go_wp2_with fail
          refine wp_quiet_more (by kernel_rfl) (by kernel_rfl) ?_
          repeat (go_big_quiet_step (first | (go_at_call 27; exact quiet_more (HS.out _ (by repeat (first | exact Below.refl _ _ | refine below_mo ?_ _ | refine below_al ?_ _))))))
          refine wpQuiet_nil ?_
          intro p3
          go_wp2
          go_ret
          exact Gives.mk (ret_bool (by rw [HR2.out])) (by repeat (first | exact Below.refl _ _ | refine below_mo ?_ _ | refine below_al ?_ _))
      · rw [hg] at hS
        have HS := Lib.hid hS
        have HL2 : Hid (∀ j, j < i + 1 → gE j = true) := Lib.hid (fun j hj => by
          rcases Nat.lt_or_ge j i with h | h
          · exact HL.out j h
          · obtain rfl : j = i := by omega
            exact hg)
        clear hg hS
        as_aux_lemma =>
          go_wp2_with fail
          refine wp_quiet_more (by kernel_rfl) (by kernel_rfl) ?_
          repeat (go_big_quiet_step (first | (go_at_call 27; exact quiet_more (HS.out _ (by repeat (first | exact Below.refl _ _ | refine below_mo ?_ _ | refine below_al ?_ _))))))
          refine wpQuiet_nil ?_
          intro p3
          go_wp2
          go_roundw
          case rel => exact ⟨i + 1, by omega, by go_num, HL2.out, more_of_below (w := (w.alloc (.cells #[.int .i64 k, .int .i64 s, .bool p, .slice fa fl fc, .int .i64 c, .slice (some ⟨b, off, none⟩) el ec] 41)).alloc (.cells #[.int .i64 k, .int .i64 s, .bool p, .slice fa2 fl fc2, .int .i64 c, .slice (some ⟨b2, off2, none⟩) el ec2] 41)) (by repeat (first | exact Below.refl _ _ | refine below_mo ?_ _ | refine below_al ?_ _))⟩
          case measure => simp [intOf]; omega
    · obtain rfl : el = i := by omega
      have HR1 : Hid (R = allK gF fl) := Lib.hid (by rw [← HR0.out, HA.out el HL.out]; simp)
      clear HL HR0
      go_wp2_with fail
      go_loopw [6, 7, 8] (fun x _ _ wr => ∃ j : Nat, j ≤ fl ∧ x = .int .i64 j ∧ (∀ i, i < j → gF i = true) ∧ ∃ r : Regrown, wr = more ((w.alloc (.cells #[.int .i64 k, .int .i64 s, .bool p, .slice fa fl fc, .int .i64 c, .slice ea el ec] 41)).alloc (.cells #[.int .i64 k, .int .i64 s, .bool p, .slice fa2 fl fc2, .int .i64 c, .slice ea2 el ec2] 41)) r) (fun x _ _ _ => fl - (intOf x).toNat)
      case atStart => exact ⟨0, by omega, rfl, fun j hj => by omega, more_of_below (by repeat (first | exact Below.refl _ _ | refine below_mo ?_ _ | refine below_al ?_ _))⟩
      case round =>
        obtain ⟨j, hj, rfl, hall, r, rfl⟩ := hrel
        have HL := Lib.hid hall
        clear hall
        by_cases hlt2 : (j : Int) < fl
        · obtain ⟨b, off, b2, off2, t, t2, bt, bt2, wd, wd2, q, q2, x, rfl, rfl, hb, hb2, c0, c1, c2, c3, c4, c5, c6, c7, c8, d0, d1, d2, d3, d4, d5, d6, d7, d8, hS, hg0⟩ := HF.out j (by omega)
          have HS := Lib.hid hS
          have hg := Lib.hid hg0
          clear hS hg0
          go_wp2_with fail
          go_big_region
          all_goals
            cases h0 : (t.toList != t2.toList)
            · have e0 : (t.toList == t2.toList) = true := by simpa [bne] using h0
              cases h1 : (bt != bt2)
              · have e1 : (bt == bt2) = true := by simpa [bne] using h1
                cases h2 : (wd != wd2)
                · have e2 : (wd == wd2) = true := by simpa [bne] using h2
                  cases x
                  · skip
                    have HR2 : Hid (R = false) := Lib.hid (HR1.out.trans (HH2.out j (by rw [hg.out]; simp [sameFd, e0, e1, e2]) fl (by omega)))
                    clear hg
                    as_aux_lemma =>
                      go_wp2_with (first | (go_at_call 27; refine (HS.out _ (by repeat (first | exact Below.refl _ _ | refine below_dr ?_ | refine below_mo ?_ _ | refine below_al ?_ _))).mono ?_; rintro e w1 ⟨rfl, p9, rfl⟩))
                      go_ret
                      exact Gives.mk (ret_bool (by rw [HR2.out])) (by repeat (first | exact Below.refl _ _ | refine below_dr ?_ | refine below_mo ?_ _ | refine below_al ?_ _))
                  · skip
                    have HL2 : Hid (∀ i, i < j + 1 → gF i = true) := Lib.hid (fun i hi => by
                      rcases Nat.lt_or_ge i j with h | h
                      · exact HL.out i h
                      · obtain rfl : i = j := by omega
                        rw [hg.out]; simp [sameFd, e0, e1, e2])
                    clear hg
                    as_aux_lemma =>
                      go_wp2_with (first | (go_at_call 27; refine (HS.out _ (by repeat (first | exact Below.refl _ _ | refine below_dr ?_ | refine below_mo ?_ _ | refine below_al ?_ _))).mono ?_; rintro e w1 ⟨rfl, p9, rfl⟩))
                      go_roundw
                      case rel => exact ⟨j + 1, by omega, by go_num, HL2.out, more_of_below (w := (w.alloc (.cells #[.int .i64 k, .int .i64 s, .bool p, .slice (some ⟨b, off, none⟩) fl fc, .int .i64 c, .slice ea el ec] 41)).alloc (.cells #[.int .i64 k, .int .i64 s, .bool p, .slice (some ⟨b2, off2, none⟩) fl fc2, .int .i64 c, .slice ea2 el ec2] 41)) (by repeat (first | exact Below.refl _ _ | refine below_dr ?_ | refine below_mo ?_ _ | refine below_al ?_ _))⟩
                      case measure => simp [intOf]; omega
                · have e2 : (wd == wd2) = false := by simpa [bne] using h2
                  have HR2 : Hid (R = false) := Lib.hid (HR1.out.trans (HH2.out j (by rw [hg.out]; simp [sameFd, e0, e1, e2]) fl (by omega)))
                  clear hg
                  as_aux_lemma =>
                    go_wp2_with fail
                    go_ret
                    exact Gives.mk (ret_bool (by rw [HR2.out])) (by repeat (first | exact Below.refl _ _ | refine below_dr ?_ | refine below_mo ?_ _ | refine below_al ?_ _))
              · have e1 : (bt == bt2) = false := by cases bt <;> cases bt2 <;> first | rfl | cases h1
                have HR2 : Hid (R = false) := Lib.hid (HR1.out.trans (HH2.out j (by rw [hg.out]; simp [sameFd, e0, e1]) fl (by omega)))
                clear hg
                as_aux_lemma =>
                  go_wp2_with fail
                  go_ret
                  exact Gives.mk (ret_bool (by rw [HR2.out])) (by repeat (first | exact Below.refl _ _ | refine below_dr ?_ | refine below_mo ?_ _ | refine below_al ?_ _))
            · have e0 : (t.toList == t2.toList) = false := by simpa [bne] using h0
              have HR2 : Hid (R = false) := Lib.hid (HR1.out.trans (HH2.out j (by rw [hg.out]; simp [sameFd, e0]) fl (by omega)))
              clear hg
              as_aux_lemma =>
                go_wp2_with fail
                go_ret
                exact Gives.mk (ret_bool (by rw [HR2.out])) (by repeat (first | exact Below.refl _ _ | refine below_dr ?_ | refine below_mo ?_ _ | refine below_al ?_ _))
        · obtain rfl : fl = j := by omega
          have HR2 : Hid (R = true) := Lib.hid (HR1.out.trans (HA2.out fl HL.out))
          go_wp2_with fail
          go_ret
          exact Gives.mk (ret_bool (by rw [HR2.out])) (by repeat (first | exact Below.refl _ _ | refine below_mo ?_ _ | refine below_al ?_ _))

end Go.Proofs.Ytjioinmiglblmaa
