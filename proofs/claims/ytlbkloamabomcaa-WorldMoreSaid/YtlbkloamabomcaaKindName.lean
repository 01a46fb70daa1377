/- Whether a text is a name: the program's walk, rune by rune, and the document's, byte by byte. No condition but the text's length. -/
import Derived.Test.YtlbkloamabomcaaProg
import Derived.Test.YtlbkloamabomcaaMore
import Derived.Laws.RangeAny
namespace Go.Proofs.Ytlbkloamabomcaa
open Go.RowKit Go.Sort
set_option linter.unusedVariables false
set_option linter.unusedSimpArgs false
def ltrB (c : Int) : Bool := decide (97 ≤ c) && decide (c ≤ 122)
def okC (c : Int) : Bool := ltrB c || c == 95 || (decide (48 ≤ c) && decide (c ≤ 57))
def byteAt (s : ByteArray) (i : Nat) : Nat := if h : i < s.size then (s[i]'h).toNat else 0
def nameB (s : ByteArray) : Bool := decide (1 ≤ s.size ∧ s.size ≤ 16) && (ltrB (byteAt s 0) && (List.range s.size).all (fun i => okC (byteAt s i)))
theorem byteAt_eq (s : ByteArray) (i : Nat) (h : i < s.size) : byteAt s i = (s[i]'h).toNat := by unfold byteAt; rw [dif_pos h]
theorem nameB_bad (s : ByteArray) (i : Nat) (h : i < s.size) (hc : okC (byteAt s i) = false) : nameB s = false := by
  unfold nameB
  have : (List.range s.size).all (fun i => okC (byteAt s i)) = false := by
    rw [List.all_eq_false]
    exact ⟨i, List.mem_range.2 h, by simpa using hc⟩
  rw [this]; simp
theorem nameB_good (s : ByteArray) (h1 : 1 ≤ s.size) (h2 : s.size ≤ 16) (h3 : ltrB (byteAt s 0) = true) (h : ∀ i, i < s.size → okC (byteAt s i) = true) : nameB s = true := by
  unfold nameB
  have : (List.range s.size).all (fun i => okC (byteAt s i)) = true := List.all_eq_true.2 fun i hi => h i (List.mem_range.1 hi)
  rw [this, h3, decide_eq_true ⟨h1, h2⟩]; rfl
theorem ret_boolN {a b : Bool} (h : a = b) : Ending.returned (.bool a) = .returned (.bool b) := by rw [h]
theorem letter_any (c : Int) (w : World) : Calls Try.prog 98 #[.int .i32 c] w fun e w' => e = .returned (.bool (ltrB c)) ∧ w = w' := by
  by_cases h1 : 97 ≤ c
  · by_cases h2 : c ≤ 122
    · have H : Hid (ltrB c = true) := by unfold ltrB; rw [decide_eq_true h1, decide_eq_true h2]; exact Lib.hid rfl
      go_enter Try.func98, Try.ntmps98
      go_wp2
      go_ret
      exact ⟨ret_boolN (by rw [H.out]), rfl⟩
    · have H : Hid (ltrB c = false) := by unfold ltrB; rw [decide_eq_false h2, Bool.and_false]; exact Lib.hid rfl
      go_enter Try.func98, Try.ntmps98
      go_wp2
      go_ret
      exact ⟨ret_boolN (by rw [H.out] <;> simp <;> omega), rfl⟩
  · have H : Hid (ltrB c = false) := by unfold ltrB; rw [decide_eq_false h1, Bool.false_and]; exact Lib.hid rfl
    go_enter Try.func98, Try.ntmps98
    go_wp2
    go_ret
    exact ⟨ret_boolN (by rw [H.out] <;> simp <;> omega), rfl⟩
theorem width_pos (s : ByteArray) (pos : Nat) (h : pos < s.size) : 1 ≤ (Utf8.decode s pos).2 := by
  by_cases ha : (s[pos]'h).toNat < 128
  · rw [decode_ascii s pos h ha]
    exact Nat.le_refl _
  · exact (decode_high s pos h (by omega)).2
theorem below_iter (w : World) (s : ByteArray) (pos : Nat) : Below w.heap.size w (w.iter s pos) := below_al (Below.refl _ _) _
/-- the rune at a place passes just if the byte does. -/
theorem okC_rune (s : ByteArray) (pos : Nat) (h : pos < s.size) : okC ((Utf8.decode s pos).1 : Nat) = okC (byteAt s pos) ∧ (okC (byteAt s pos) = true → (Utf8.decode s pos).2 = 1) := by
  rw [byteAt_eq s pos h]
  by_cases ha : (s[pos]'h).toNat < 128
  · rw [decode_ascii s pos h ha]
    exact ⟨rfl, fun _ => rfl⟩
  · have h1 := (decode_high s pos h (by omega)).1
    have f : ∀ n : Nat, 128 ≤ n → okC (n : Int) = false := fun n hn => by
      unfold okC ltrB
      rw [decide_eq_false (show ¬ (n : Int) ≤ 122 by omega), decide_eq_false (show ¬ (n : Int) ≤ 57 by omega), show ((n : Int) == 95) = false by simp; omega]
      simp
    rw [f _ h1, f _ (by omega)]
    exact ⟨rfl, fun h => by cases h⟩
set_option maxRecDepth 100000 in
set_option maxHeartbeats 1000000 in
theorem name_any (s : ByteArray) (hs : s.size ≤ 9223372036854775807) (w : World) : Calls Try.prog 95 #[.string s] w (Gives w (.bool (nameB s))) := by
  by_cases h1 : s.size < 1
  · have H : Hid (nameB s = false) := by unfold nameB; rw [decide_eq_false (by omega)]; exact Lib.hid rfl
    go_enter Try.func95, Try.ntmps95
    go_wp2_with fail
    go_ret
    exact Gives.mk (ret_boolN (by rw [H.out])) (Below.refl _ _)
  by_cases h2 : 16 < s.size
  · have H : Hid (nameB s = false) := by unfold nameB; rw [decide_eq_false (by omega)]; exact Lib.hid rfl
    have h3 : ¬ s.size < 1 := h1
    go_enter Try.func95, Try.ntmps95
    go_wp2_with fail
    go_ret
    exact Gives.mk (ret_boolN (by rw [H.out])) (Below.refl _ _)
  have h0 : 0 < s.size := by omega
  have hb := byteAt_eq s 0 h0
  cases hl : ltrB (byteAt s 0)
  · have H : Hid (nameB s = false) := by unfold nameB; rw [hl]; simp [Hid]
    rw [hb] at hl
    have hl8 : (s[0]'h0).toNat < 256 := (s[0]'h0).toNat_lt
    have L := letter_any ((s[0]'h0).toNat : Int)
    rw [hl] at L
    have HL := Lib.hid L
    clear L hl hb
    go_enter Try.func95, Try.ntmps95
    go_wp2_with (go_at_call 98; refine (HL.out _).mono ?_; rintro e w1 ⟨rfl, rfl⟩)
    go_ret
    exact Gives.mk (ret_boolN (by rw [H.out])) (Below.refl _ _)
  · have hl1 := Lib.hid hl
    rw [hb] at hl
    have hl8 : (s[0]'h0).toNat < 256 := (s[0]'h0).toNat_lt
    have L := letter_any ((s[0]'h0).toNat : Int)
    rw [hl] at L
    have HL := Lib.hid L
    clear L hl hb
    go_enter Try.func95, Try.ntmps95
    go_wp2_with (go_at_call 98; refine (HL.out _).mono ?_; rintro e w1 ⟨rfl, rfl⟩)
    go_loopw [4] (fun _ w' => ∃ pos : Nat, w' = w.iter s pos ∧ (∀ i, i < pos → okC (byteAt s i) = true)) (fun _ w' => s.size - w'.iterPos w.heap.size)
    case atStart => exact ⟨0, rfl, fun i hi => by omega⟩
    case round =>
      obtain ⟨pos, rfl, hall⟩ := hrel
      by_cases hp : pos < s.size
      · have hnx : ∀ ty, (Instr.next (.pointer (some ⟨w.heap.size, 0, none⟩)) true ty).run Try.prog (w.iter s pos) = _ := fun ty => run_next_any w s pos ty hp
        obtain ⟨hro, hone⟩ := okC_rune s pos hp
        generalize hR : (Utf8.decode s pos).1 = R at *
        generalize hW : (Utf8.decode s pos).2 = W at *
        clear hR hW
        have L2 := letter_any (R : Int)
        cases hlt : ltrB (R : Int)
        · rw [hlt] at L2
          have HL2 := Lib.hid L2
          clear L2
          by_cases h95 : (R : Int) = 95
          · have hoc : okC (R : Int) = true := by unfold okC; rw [h95]; rfl
            have b95 : ((R : Int) != 95) = false := by simp [h95]
            clear hlt h95
            have hw1 := hone (by rw [← hro, hoc])
            have HA : Hid (∀ i, i < pos + 1 → okC (byteAt s i) = true) := Lib.hid (fun i hi => by
              rcases Nat.lt_or_ge i pos with h | h
              · exact hall i h
              · obtain rfl : i = pos := by omega
                rw [← hro, hoc])
            have HW := Lib.hid hw1
            clear hoc hall hro hone hw1
            go_wp2_with (go_at_call 98; refine (HL2.out _).mono ?_; rintro e w1 ⟨rfl, rfl⟩)
            go_roundw
            case rel => exact ⟨pos + 1, by rw [HW.out], HA.out⟩
            case measure => rw [HW.out]; simp; omega
          · have b95 : ((R : Int) != 95) = true := by simpa using h95
            by_cases h48 : (48 : Int) ≤ R
            · by_cases h57 : (R : Int) ≤ 57
              · have hoc : okC (R : Int) = true := by unfold okC; rw [decide_eq_true h48, decide_eq_true h57]; simp
                clear hlt h95
                have hw1 := hone (by rw [← hro, hoc])
                have HA : Hid (∀ i, i < pos + 1 → okC (byteAt s i) = true) := Lib.hid (fun i hi => by
                  rcases Nat.lt_or_ge i pos with h | h
                  · exact hall i h
                  · obtain rfl : i = pos := by omega
                    rw [← hro, hoc])
                have HW := Lib.hid hw1
                clear hoc hall hro hone hw1
                go_wp2_with (go_at_call 98; refine (HL2.out _).mono ?_; rintro e w1 ⟨rfl, rfl⟩)
                go_roundw
                case rel => exact ⟨pos + 1, by rw [HW.out], HA.out⟩
                case measure => rw [HW.out]; simp; omega
              · have hoc : okC (R : Int) = false := by unfold okC; rw [hlt, decide_eq_false h57, show ((R : Int) == 95) = false by simpa using h95]; simp
                clear hlt h95
                have H : Hid (nameB s = false) := Lib.hid (nameB_bad s pos hp (by rw [← hro, hoc]))
                clear hoc hall hro hone
                go_wp2_with (go_at_call 98; refine (HL2.out _).mono ?_; rintro e w1 ⟨rfl, rfl⟩)
                go_ret
                exact Gives.mk (ret_boolN (by rw [H.out])) (below_iter _ _ _)
            · have hoc : okC (R : Int) = false := by unfold okC; rw [hlt, decide_eq_false h48, show ((R : Int) == 95) = false by simpa using h95]; simp
              clear hlt h95
              have H : Hid (nameB s = false) := Lib.hid (nameB_bad s pos hp (by rw [← hro, hoc]))
              clear hoc hall hro hone
              go_wp2_with (go_at_call 98; refine (HL2.out _).mono ?_; rintro e w1 ⟨rfl, rfl⟩)
              go_ret
              exact Gives.mk (ret_boolN (by rw [H.out])) (below_iter _ _ _)
        · rw [hlt] at L2
          have HL2 := Lib.hid L2
          clear L2
          have hoc : okC (R : Int) = true := by unfold okC; rw [hlt]; rfl
          clear hlt
          have hw1 := hone (by rw [← hro, hoc])
          have HA : Hid (∀ i, i < pos + 1 → okC (byteAt s i) = true) := Lib.hid (fun i hi => by
            rcases Nat.lt_or_ge i pos with h | h
            · exact hall i h
            · obtain rfl : i = pos := by omega
              rw [← hro, hoc])
          have HW := Lib.hid hw1
          clear hoc hall hro hone hw1
          go_wp2_with (go_at_call 98; refine (HL2.out _).mono ?_; rintro e w1 ⟨rfl, rfl⟩)
          go_roundw
          case rel => exact ⟨pos + 1, by rw [HW.out], HA.out⟩
          case measure => rw [HW.out]; simp; omega
      · have hnx : ∀ ty, (Instr.next (.pointer (some ⟨w.heap.size, 0, none⟩)) true ty).run Try.prog (w.iter s pos) = _ := fun ty => run_next_end w s pos ty hp
        have H : Hid (nameB s = true) := Lib.hid (nameB_good s (by omega) (by omega) hl1.out (fun i hi => hall i (by omega)))
        clear hall
        go_wp2_with fail
        go_ret
        exact Gives.mk (ret_boolN (by rw [H.out])) (below_iter _ _ _)
end Go.Proofs.Ytlbkloamabomcaa
