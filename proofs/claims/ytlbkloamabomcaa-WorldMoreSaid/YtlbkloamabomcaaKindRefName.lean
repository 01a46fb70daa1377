/- Whether a text is a name: the document's walk, byte by byte. No condition but the text's length. -/
import Derived.Test.YtlbkloamabomcaaKindName
namespace Go.Proofs.Ytlbkloamabomcaa
open Go.RowKit Go.Sort
set_option linter.unusedVariables false
set_option linter.unusedSimpArgs false
theorem nameB_head (s : ByteArray) (h : ltrB (byteAt s 0) = false) : nameB s = false := by unfold nameB; rw [h]; simp
set_option maxRecDepth 100000 in
set_option maxHeartbeats 1000000 in
theorem refname_any (s : ByteArray) (hs : s.size ≤ 9223372036854775807) (w : World) : Calls Try.prog 67 #[.string s] w (Gives w (.bool (nameB s))) := by
  by_cases h1 : s.size = 0
  · have H : Hid (nameB s = false) := by unfold nameB; rw [decide_eq_false (by omega)]; exact Lib.hid rfl
    have b1 : ((s.size : Int) == 0) = true := by simp [h1]
    clear h1
    go_enter Try.func67, Try.ntmps67
    go_wp2_with fail
    go_ret
    exact Gives.mk (ret_boolN (by rw [H.out])) (Below.refl _ _)
  have b1 : ((s.size : Int) == 0) = false := beq_eq_false_iff_ne.2 (by omega)
  by_cases h2 : 16 < s.size
  · have H : Hid (nameB s = false) := by unfold nameB; rw [decide_eq_false (by omega)]; exact Lib.hid rfl
    clear h1
    go_enter Try.func67, Try.ntmps67
    go_wp2_with fail
    go_ret
    exact Gives.mk (ret_boolN (by rw [H.out])) (Below.refl _ _)
  have b2 : ¬ (16 : Int) < s.size := by omega
  have h3 : 0 < s.size := by omega
  clear h1
  go_enter Try.func67, Try.ntmps67
  go_wp2_with fail
  go_loop [3] (fun i => ∃ k : Nat, k ≤ s.size ∧ i = .int .i64 k ∧ (∀ i, i < k → okC (byteAt s i) = true) ∧ (0 < k → ltrB (byteAt s 0) = true)) (fun i => s.size - (intOf i).toNat)
  case atStart => exact ⟨0, by omega, rfl, fun i hi => by omega, fun h => by omega⟩
  case round =>
    obtain ⟨k, hk, rfl, hall, h0l⟩ := hrel
    by_cases hp : k < s.size
    · have hbk := byteAt_eq s k hp
      have hc8 : (s[k]'hp).toNat < 256 := (s[k]'hp).toNat_lt
      by_cases g1 : (97 : Int) ≤ (s[k]'hp).toNat ∧ ((s[k]'hp).toNat : Int) ≤ 122
      · have hlt : Hid (ltrB ((s[k]'hp).toNat : Int) = true) := by unfold ltrB; rw [decide_eq_true g1.1, decide_eq_true g1.2]; exact Lib.hid rfl
        have hoc : Hid (okC ((s[k]'hp).toNat : Int) = true) := by unfold okC; rw [hlt.out]; exact Lib.hid rfl
        obtain ⟨g1, g2⟩ := g1
        have HA : Hid (∀ i, i < k + 1 → okC (byteAt s i) = true) := Lib.hid (fun i hi => by
          rcases Nat.lt_or_ge i k with h | h
          · exact hall i h
          · obtain rfl : i = k := by omega
            rw [hbk]; exact hoc.out)
        have HL : Hid (0 < k + 1 → ltrB (byteAt s 0) = true) := Lib.hid (fun _ => (Nat.eq_zero_or_pos k).elim (fun h => by subst h; rw [hbk]; exact hlt.out) h0l)
        clear hall h0l
        go_wp2_with fail
        go_round
        case rel => exact ⟨k + 1, by omega, by go_num, HA.out, HL.out⟩
        case measure => simp [intOf]; omega
      · have hlt : Hid (ltrB ((s[k]'hp).toNat : Int) = false) := by unfold ltrB; rw [← Bool.decide_and]; exact Lib.hid (decide_eq_false g1)
        have g1' := Lib.hid g1
        rcases Int.lt_or_le ((s[k]'hp).toNat : Int) 97 with g2 | g2
        · clear g1
          by_cases hk0 : k = 0
          · have bk : ((k : Int) == 0) = true := by simp [hk0]
            have H : Hid (nameB s = false) := Lib.hid (nameB_head s (by rw [← hk0, hbk]; exact hlt.out))
            clear hall h0l hk0
            go_wp2_with fail
            go_ret
            exact Gives.mk (ret_boolN (by rw [H.out])) (Below.refl _ _)
          · have bk : ((k : Int) == 0) = false := by simpa using hk0
            by_cases h95 : ((s[k]'hp).toNat : Int) = 95
            · have b95 : (((s[k]'hp).toNat : Int) != 95) = false := by simp [h95]
              have hoc : Hid (okC ((s[k]'hp).toNat : Int) = true) := by unfold okC; rw [h95]; exact Lib.hid rfl
              have h95' := Lib.hid h95
              clear h95
              have HA : Hid (∀ i, i < k + 1 → okC (byteAt s i) = true) := Lib.hid (fun i hi => by
                rcases Nat.lt_or_ge i k with h | h
                · exact hall i h
                · obtain rfl : i = k := by omega
                  rw [hbk]; exact hoc.out)
              have HL : Hid (0 < k + 1 → ltrB (byteAt s 0) = true) := Lib.hid (fun _ => h0l (by omega))
              clear hall h0l
              go_wp2_with fail
              go_round
              case rel => exact ⟨k + 1, by omega, by go_num, HA.out, HL.out⟩
              case measure => simp [intOf]; omega
            · have b95 : (((s[k]'hp).toNat : Int) != 95) = true := by simpa using h95
              by_cases h48 : (48 : Int) ≤ (s[k]'hp).toNat
              · by_cases h57 : ((s[k]'hp).toNat : Int) ≤ 57
                · have hoc : Hid (okC ((s[k]'hp).toNat : Int) = true) := by unfold okC; rw [decide_eq_true h48, decide_eq_true h57]; simp [Hid]
                  have HA : Hid (∀ i, i < k + 1 → okC (byteAt s i) = true) := Lib.hid (fun i hi => by
                    rcases Nat.lt_or_ge i k with h | h
                    · exact hall i h
                    · obtain rfl : i = k := by omega
                      rw [hbk]; exact hoc.out)
                  have HL : Hid (0 < k + 1 → ltrB (byteAt s 0) = true) := Lib.hid (fun _ => h0l (by omega))
                  clear hall h0l
                  go_wp2_with fail
                  go_round
                  case rel => exact ⟨k + 1, by omega, by go_num, HA.out, HL.out⟩
                  case measure => simp [intOf]; omega
                · have hoc : Hid (okC ((s[k]'hp).toNat : Int) = false) := by unfold okC; rw [hlt.out, decide_eq_false h57, show (((s[k]'hp).toNat : Int) == 95) = false by simpa using h95]; simp [Hid]
                  have H : Hid (nameB s = false) := Lib.hid (nameB_bad s k hp (by rw [hbk]; exact hoc.out))
                  clear hall h0l
                  go_wp2_with fail
                  go_ret
                  exact Gives.mk (ret_boolN (by rw [H.out])) (Below.refl _ _)
              · have hoc : Hid (okC ((s[k]'hp).toNat : Int) = false) := by unfold okC; rw [hlt.out, decide_eq_false h48, show (((s[k]'hp).toNat : Int) == 95) = false by simpa using h95]; simp [Hid]
                have H : Hid (nameB s = false) := Lib.hid (nameB_bad s k hp (by rw [hbk]; exact hoc.out))
                clear hall h0l
                go_wp2_with fail
                go_ret
                exact Gives.mk (ret_boolN (by rw [H.out])) (Below.refl _ _)
        · have g3 : ¬ ((s[k]'hp).toNat : Int) ≤ 122 := by omega
          clear g1
          by_cases hk0 : k = 0
          · have bk : ((k : Int) == 0) = true := by simp [hk0]
            have H : Hid (nameB s = false) := Lib.hid (nameB_head s (by rw [← hk0, hbk]; exact hlt.out))
            clear hall h0l hk0
            go_wp2_with fail
            go_ret
            exact Gives.mk (ret_boolN (by rw [H.out])) (Below.refl _ _)
          · have bk : ((k : Int) == 0) = false := by simpa using hk0
            have hoc : Hid (okC ((s[k]'hp).toNat : Int) = false) := by
              unfold okC; rw [hlt.out, decide_eq_false (show ¬ ((s[k]'hp).toNat : Int) ≤ 57 by omega), show (((s[k]'hp).toNat : Int) == 95) = false from beq_eq_false_iff_ne.2 (by omega)]; simp [Hid]
            have b95 : (((s[k]'hp).toNat : Int) != 95) = true := bne_iff_ne.2 (by omega)
            have h57 : ¬ ((s[k]'hp).toNat : Int) ≤ 57 := by omega
            have H : Hid (nameB s = false) := Lib.hid (nameB_bad s k hp (by rw [hbk]; exact hoc.out))
            clear hall h0l
            go_wp2_with fail
            go_ret
            exact Gives.mk (ret_boolN (by rw [H.out])) (Below.refl _ _)
    · obtain rfl : k = s.size := by omega
      have H : Hid (nameB s = true) := Lib.hid (nameB_good s (by omega) (by omega) (h0l (by omega)) hall)
      clear hall h0l
      go_wp2_with fail
      go_ret
      exact Gives.mk (ret_boolN (by rw [H.out])) (Below.refl _ _)
end Go.Proofs.Ytlbkloamabomcaa
