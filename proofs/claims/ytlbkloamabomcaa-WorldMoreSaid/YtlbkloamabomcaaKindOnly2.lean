/- What a type may have by its kind. No condition but that numbers fit their kinds. -/
import Derived.Test.YtlbkloamabomcaaKindOnly
namespace Go.Proofs.Ytlbkloamabomcaa
open Go.RowKit Go.Sort
set_option linter.unusedVariables false
set_option linter.unusedSimpArgs false
/-- has it nothing but what its kind has? -/
def onlyB (k s : Int) (p : Bool) (fl : Nat) (c : Int) (el : Nat) : Bool :=
  ((k == 1 || k == 2) || (k == 3 || k == 4) || k == 5) && ((k == 1 || k == 2) || s == 0) && ((k == 3 || k == 4) || (!p && fl == 0)) && (k == 5 || (c == 0 && el == 0)) && (!(k == 5) || el == 1)

theorem only_1 (k : Int) (s : Int) (p : Bool) (fa : Option Addr) (fl fc : Nat) (c : Int) (ea : Option Addr) (el ec : Nat) (hf : fl ≤ 9223372036854775807) (he : el ≤ 9223372036854775807) (w : World) (h0 : (k == 1) = false) (h1 : (k == 2) = false) (h2 : (k == 3) = false) (h3 : (k == 4) = false) (h4 : (k == 5) = false) : Calls Try.prog 74 #[.agg #[.int .i64 k, .int .i64 s, .bool p, .slice fa fl fc, .int .i64 c, .slice ea el ec]] w (Gives w (.bool false)) := by
  go_enter Try.func74, Try.ntmps74
  go_wp2
  go_ret
  exact Gives.mk rfl (by repeat (first | exact Below.refl _ _ | refine below_al ?_ _))
theorem only_2 (s : Int) (p : Bool) (fa : Option Addr) (fl fc : Nat) (c : Int) (ea : Option Addr) (el ec : Nat) (hf : fl ≤ 9223372036854775807) (he : el ≤ 9223372036854775807) (w : World)  : Calls Try.prog 74 #[.agg #[.int .i64 1, .int .i64 s, .bool true, .slice fa fl fc, .int .i64 c, .slice ea el ec]] w (Gives w (.bool false)) := by
  go_enter Try.func74, Try.ntmps74
  go_wp2
  go_ret
  exact Gives.mk rfl (by repeat (first | exact Below.refl _ _ | refine below_al ?_ _))
theorem only_3 (s : Int) (p : Bool) (fa : Option Addr) (fl fc : Nat) (c : Int) (ea : Option Addr) (el ec : Nat) (hf : fl ≤ 9223372036854775807) (he : el ≤ 9223372036854775807) (w : World) (h0 : ((fl : Int) == 0) = false) : Calls Try.prog 74 #[.agg #[.int .i64 1, .int .i64 s, .bool false, .slice fa fl fc, .int .i64 c, .slice ea el ec]] w (Gives w (.bool false)) := by
  go_enter Try.func74, Try.ntmps74
  go_wp2
  go_ret
  exact Gives.mk rfl (by repeat (first | exact Below.refl _ _ | refine below_al ?_ _))
theorem only_4 (s : Int) (p : Bool) (fa : Option Addr) (fl fc : Nat) (c : Int) (ea : Option Addr) (el ec : Nat) (hf : fl ≤ 9223372036854775807) (he : el ≤ 9223372036854775807) (w : World) (h0 : ((fl : Int) == 0) = true) (h1 : (c == 0) = false) : Calls Try.prog 74 #[.agg #[.int .i64 1, .int .i64 s, .bool false, .slice fa fl fc, .int .i64 c, .slice ea el ec]] w (Gives w (.bool false)) := by
  go_enter Try.func74, Try.ntmps74
  go_wp2
  go_ret
  exact Gives.mk rfl (by repeat (first | exact Below.refl _ _ | refine below_al ?_ _))
theorem only_5 (s : Int) (p : Bool) (fa : Option Addr) (fl fc : Nat) (c : Int) (ea : Option Addr) (el ec : Nat) (hf : fl ≤ 9223372036854775807) (he : el ≤ 9223372036854775807) (w : World) (h0 : ((fl : Int) == 0) = true) (h1 : (c == 0) = true) (h2 : ((el : Int) == 0) = false) : Calls Try.prog 74 #[.agg #[.int .i64 1, .int .i64 s, .bool false, .slice fa fl fc, .int .i64 c, .slice ea el ec]] w (Gives w (.bool false)) := by
  go_enter Try.func74, Try.ntmps74
  go_wp2
  go_ret
  exact Gives.mk rfl (by repeat (first | exact Below.refl _ _ | refine below_al ?_ _))
theorem only_6 (s : Int) (p : Bool) (fa : Option Addr) (fl fc : Nat) (c : Int) (ea : Option Addr) (el ec : Nat) (hf : fl ≤ 9223372036854775807) (he : el ≤ 9223372036854775807) (w : World) (h0 : ((fl : Int) == 0) = true) (h1 : (c == 0) = true) (h2 : ((el : Int) == 0) = true) : Calls Try.prog 74 #[.agg #[.int .i64 1, .int .i64 s, .bool false, .slice fa fl fc, .int .i64 c, .slice ea el ec]] w (Gives w (.bool true)) := by
  go_enter Try.func74, Try.ntmps74
  go_wp2
  go_ret
  exact Gives.mk rfl (by repeat (first | exact Below.refl _ _ | refine below_al ?_ _))
theorem only_7 (s : Int) (p : Bool) (fa : Option Addr) (fl fc : Nat) (c : Int) (ea : Option Addr) (el ec : Nat) (hf : fl ≤ 9223372036854775807) (he : el ≤ 9223372036854775807) (w : World)  : Calls Try.prog 74 #[.agg #[.int .i64 2, .int .i64 s, .bool true, .slice fa fl fc, .int .i64 c, .slice ea el ec]] w (Gives w (.bool false)) := by
  go_enter Try.func74, Try.ntmps74
  go_wp2
  go_ret
  exact Gives.mk rfl (by repeat (first | exact Below.refl _ _ | refine below_al ?_ _))
theorem only_8 (s : Int) (p : Bool) (fa : Option Addr) (fl fc : Nat) (c : Int) (ea : Option Addr) (el ec : Nat) (hf : fl ≤ 9223372036854775807) (he : el ≤ 9223372036854775807) (w : World) (h0 : ((fl : Int) == 0) = false) : Calls Try.prog 74 #[.agg #[.int .i64 2, .int .i64 s, .bool false, .slice fa fl fc, .int .i64 c, .slice ea el ec]] w (Gives w (.bool false)) := by
  go_enter Try.func74, Try.ntmps74
  go_wp2
  go_ret
  exact Gives.mk rfl (by repeat (first | exact Below.refl _ _ | refine below_al ?_ _))
theorem only_9 (s : Int) (p : Bool) (fa : Option Addr) (fl fc : Nat) (c : Int) (ea : Option Addr) (el ec : Nat) (hf : fl ≤ 9223372036854775807) (he : el ≤ 9223372036854775807) (w : World) (h0 : ((fl : Int) == 0) = true) (h1 : (c == 0) = false) : Calls Try.prog 74 #[.agg #[.int .i64 2, .int .i64 s, .bool false, .slice fa fl fc, .int .i64 c, .slice ea el ec]] w (Gives w (.bool false)) := by
  go_enter Try.func74, Try.ntmps74
  go_wp2
  go_ret
  exact Gives.mk rfl (by repeat (first | exact Below.refl _ _ | refine below_al ?_ _))
theorem only_10 (s : Int) (p : Bool) (fa : Option Addr) (fl fc : Nat) (c : Int) (ea : Option Addr) (el ec : Nat) (hf : fl ≤ 9223372036854775807) (he : el ≤ 9223372036854775807) (w : World) (h0 : ((fl : Int) == 0) = true) (h1 : (c == 0) = true) (h2 : ((el : Int) == 0) = false) : Calls Try.prog 74 #[.agg #[.int .i64 2, .int .i64 s, .bool false, .slice fa fl fc, .int .i64 c, .slice ea el ec]] w (Gives w (.bool false)) := by
  go_enter Try.func74, Try.ntmps74
  go_wp2
  go_ret
  exact Gives.mk rfl (by repeat (first | exact Below.refl _ _ | refine below_al ?_ _))
theorem only_11 (s : Int) (p : Bool) (fa : Option Addr) (fl fc : Nat) (c : Int) (ea : Option Addr) (el ec : Nat) (hf : fl ≤ 9223372036854775807) (he : el ≤ 9223372036854775807) (w : World) (h0 : ((fl : Int) == 0) = true) (h1 : (c == 0) = true) (h2 : ((el : Int) == 0) = true) : Calls Try.prog 74 #[.agg #[.int .i64 2, .int .i64 s, .bool false, .slice fa fl fc, .int .i64 c, .slice ea el ec]] w (Gives w (.bool true)) := by
  go_enter Try.func74, Try.ntmps74
  go_wp2
  go_ret
  exact Gives.mk rfl (by repeat (first | exact Below.refl _ _ | refine below_al ?_ _))
theorem only_12 (s : Int) (p : Bool) (fa : Option Addr) (fl fc : Nat) (c : Int) (ea : Option Addr) (el ec : Nat) (hf : fl ≤ 9223372036854775807) (he : el ≤ 9223372036854775807) (w : World) (h0 : (s == 0) = false) : Calls Try.prog 74 #[.agg #[.int .i64 3, .int .i64 s, .bool p, .slice fa fl fc, .int .i64 c, .slice ea el ec]] w (Gives w (.bool false)) := by
  go_enter Try.func74, Try.ntmps74
  go_wp2
  go_ret
  exact Gives.mk rfl (by repeat (first | exact Below.refl _ _ | refine below_al ?_ _))
theorem only_13 (s : Int) (p : Bool) (fa : Option Addr) (fl fc : Nat) (c : Int) (ea : Option Addr) (el ec : Nat) (hf : fl ≤ 9223372036854775807) (he : el ≤ 9223372036854775807) (w : World) (h0 : (s == 0) = true) (h1 : (c == 0) = false) : Calls Try.prog 74 #[.agg #[.int .i64 3, .int .i64 s, .bool p, .slice fa fl fc, .int .i64 c, .slice ea el ec]] w (Gives w (.bool false)) := by
  go_enter Try.func74, Try.ntmps74
  go_wp2
  go_ret
  exact Gives.mk rfl (by repeat (first | exact Below.refl _ _ | refine below_al ?_ _))
theorem only_14 (s : Int) (p : Bool) (fa : Option Addr) (fl fc : Nat) (c : Int) (ea : Option Addr) (el ec : Nat) (hf : fl ≤ 9223372036854775807) (he : el ≤ 9223372036854775807) (w : World) (h0 : (s == 0) = true) (h1 : (c == 0) = true) (h2 : ((el : Int) == 0) = false) : Calls Try.prog 74 #[.agg #[.int .i64 3, .int .i64 s, .bool p, .slice fa fl fc, .int .i64 c, .slice ea el ec]] w (Gives w (.bool false)) := by
  go_enter Try.func74, Try.ntmps74
  go_wp2
  go_ret
  exact Gives.mk rfl (by repeat (first | exact Below.refl _ _ | refine below_al ?_ _))
theorem only_15 (s : Int) (p : Bool) (fa : Option Addr) (fl fc : Nat) (c : Int) (ea : Option Addr) (el ec : Nat) (hf : fl ≤ 9223372036854775807) (he : el ≤ 9223372036854775807) (w : World) (h0 : (s == 0) = true) (h1 : (c == 0) = true) (h2 : ((el : Int) == 0) = true) : Calls Try.prog 74 #[.agg #[.int .i64 3, .int .i64 s, .bool p, .slice fa fl fc, .int .i64 c, .slice ea el ec]] w (Gives w (.bool true)) := by
  go_enter Try.func74, Try.ntmps74
  go_wp2
  go_ret
  exact Gives.mk rfl (by repeat (first | exact Below.refl _ _ | refine below_al ?_ _))
theorem only_16 (s : Int) (p : Bool) (fa : Option Addr) (fl fc : Nat) (c : Int) (ea : Option Addr) (el ec : Nat) (hf : fl ≤ 9223372036854775807) (he : el ≤ 9223372036854775807) (w : World) (h0 : (s == 0) = false) : Calls Try.prog 74 #[.agg #[.int .i64 4, .int .i64 s, .bool p, .slice fa fl fc, .int .i64 c, .slice ea el ec]] w (Gives w (.bool false)) := by
  go_enter Try.func74, Try.ntmps74
  go_wp2
  go_ret
  exact Gives.mk rfl (by repeat (first | exact Below.refl _ _ | refine below_al ?_ _))
theorem only_17 (s : Int) (p : Bool) (fa : Option Addr) (fl fc : Nat) (c : Int) (ea : Option Addr) (el ec : Nat) (hf : fl ≤ 9223372036854775807) (he : el ≤ 9223372036854775807) (w : World) (h0 : (s == 0) = true) (h1 : (c == 0) = false) : Calls Try.prog 74 #[.agg #[.int .i64 4, .int .i64 s, .bool p, .slice fa fl fc, .int .i64 c, .slice ea el ec]] w (Gives w (.bool false)) := by
  go_enter Try.func74, Try.ntmps74
  go_wp2
  go_ret
  exact Gives.mk rfl (by repeat (first | exact Below.refl _ _ | refine below_al ?_ _))
theorem only_18 (s : Int) (p : Bool) (fa : Option Addr) (fl fc : Nat) (c : Int) (ea : Option Addr) (el ec : Nat) (hf : fl ≤ 9223372036854775807) (he : el ≤ 9223372036854775807) (w : World) (h0 : (s == 0) = true) (h1 : (c == 0) = true) (h2 : ((el : Int) == 0) = false) : Calls Try.prog 74 #[.agg #[.int .i64 4, .int .i64 s, .bool p, .slice fa fl fc, .int .i64 c, .slice ea el ec]] w (Gives w (.bool false)) := by
  go_enter Try.func74, Try.ntmps74
  go_wp2
  go_ret
  exact Gives.mk rfl (by repeat (first | exact Below.refl _ _ | refine below_al ?_ _))
theorem only_19 (s : Int) (p : Bool) (fa : Option Addr) (fl fc : Nat) (c : Int) (ea : Option Addr) (el ec : Nat) (hf : fl ≤ 9223372036854775807) (he : el ≤ 9223372036854775807) (w : World) (h0 : (s == 0) = true) (h1 : (c == 0) = true) (h2 : ((el : Int) == 0) = true) : Calls Try.prog 74 #[.agg #[.int .i64 4, .int .i64 s, .bool p, .slice fa fl fc, .int .i64 c, .slice ea el ec]] w (Gives w (.bool true)) := by
  go_enter Try.func74, Try.ntmps74
  go_wp2
  go_ret
  exact Gives.mk rfl (by repeat (first | exact Below.refl _ _ | refine below_al ?_ _))
theorem only_20 (s : Int) (p : Bool) (fa : Option Addr) (fl fc : Nat) (c : Int) (ea : Option Addr) (el ec : Nat) (hf : fl ≤ 9223372036854775807) (he : el ≤ 9223372036854775807) (w : World) (h0 : (s == 0) = false) : Calls Try.prog 74 #[.agg #[.int .i64 5, .int .i64 s, .bool p, .slice fa fl fc, .int .i64 c, .slice ea el ec]] w (Gives w (.bool false)) := by
  go_enter Try.func74, Try.ntmps74
  go_wp2
  go_ret
  exact Gives.mk rfl (by repeat (first | exact Below.refl _ _ | refine below_al ?_ _))
theorem only_21 (s : Int) (p : Bool) (fa : Option Addr) (fl fc : Nat) (c : Int) (ea : Option Addr) (el ec : Nat) (hf : fl ≤ 9223372036854775807) (he : el ≤ 9223372036854775807) (w : World) (h0 : (s == 0) = true) : Calls Try.prog 74 #[.agg #[.int .i64 5, .int .i64 s, .bool true, .slice fa fl fc, .int .i64 c, .slice ea el ec]] w (Gives w (.bool false)) := by
  go_enter Try.func74, Try.ntmps74
  go_wp2
  go_ret
  exact Gives.mk rfl (by repeat (first | exact Below.refl _ _ | refine below_al ?_ _))
theorem only_22 (s : Int) (p : Bool) (fa : Option Addr) (fl fc : Nat) (c : Int) (ea : Option Addr) (el ec : Nat) (hf : fl ≤ 9223372036854775807) (he : el ≤ 9223372036854775807) (w : World) (h0 : (s == 0) = true) (h1 : ((fl : Int) == 0) = false) : Calls Try.prog 74 #[.agg #[.int .i64 5, .int .i64 s, .bool false, .slice fa fl fc, .int .i64 c, .slice ea el ec]] w (Gives w (.bool false)) := by
  go_enter Try.func74, Try.ntmps74
  go_wp2
  go_ret
  exact Gives.mk rfl (by repeat (first | exact Below.refl _ _ | refine below_al ?_ _))
theorem only_23 (s : Int) (p : Bool) (fa : Option Addr) (fl fc : Nat) (c : Int) (ea : Option Addr) (el ec : Nat) (hf : fl ≤ 9223372036854775807) (he : el ≤ 9223372036854775807) (w : World) (h0 : (s == 0) = true) (h1 : ((fl : Int) == 0) = true) (h2 : ((el : Int) == 1) = false) : Calls Try.prog 74 #[.agg #[.int .i64 5, .int .i64 s, .bool false, .slice fa fl fc, .int .i64 c, .slice ea el ec]] w (Gives w (.bool false)) := by
  go_enter Try.func74, Try.ntmps74
  go_wp2
  go_ret
  exact Gives.mk rfl (by repeat (first | exact Below.refl _ _ | refine below_al ?_ _))
theorem only_24 (s : Int) (p : Bool) (fa : Option Addr) (fl fc : Nat) (c : Int) (ea : Option Addr) (el ec : Nat) (hf : fl ≤ 9223372036854775807) (he : el ≤ 9223372036854775807) (w : World) (h0 : (s == 0) = true) (h1 : ((fl : Int) == 0) = true) (h2 : ((el : Int) == 1) = true) : Calls Try.prog 74 #[.agg #[.int .i64 5, .int .i64 s, .bool false, .slice fa fl fc, .int .i64 c, .slice ea el ec]] w (Gives w (.bool true)) := by
  go_enter Try.func74, Try.ntmps74
  go_wp2
  go_ret
  exact Gives.mk rfl (by repeat (first | exact Below.refl _ _ | refine below_al ?_ _))
theorem nat_eq0 (n : Nat) : ((n : Int) == 0) = (n == 0) := by rw [Bool.eq_iff_iff]; simp
theorem nat_eq1 (n : Nat) : ((n : Int) == 1) = (n == 1) := by rw [Bool.eq_iff_iff]; simp; omega
theorem only_any (k : Int) (s : Int) (p : Bool) (fa : Option Addr) (fl fc : Nat) (c : Int) (ea : Option Addr) (el ec : Nat) (hf : fl ≤ 9223372036854775807) (he : el ≤ 9223372036854775807) (w : World) : Calls Try.prog 74 #[.agg #[.int .i64 k, .int .i64 s, .bool p, .slice fa fl fc, .int .i64 c, .slice ea el ec]] w (Gives w (.bool (onlyB k s p fl c el))) := by
  have hA : ∀ {x y : Bool}, x = y → ∀ {cs : Array Value}, Calls Try.prog 74 cs w (Gives w (.bool x)) → Calls Try.prog 74 cs w (Gives w (.bool y)) := fun h => by subst h; exact id
  by_cases k1 : k = 1
  · subst k1
    cases p
    · cases q1 : ((fl : Int) == 0)
      · exact hA (by simp only [onlyB]; simp_all [← nat_eq0, ← nat_eq1]) (only_3 s true fa fl fc c ea el ec hf he w q1)
      · cases q2 : (c == 0)
        · exact hA (by simp only [onlyB]; simp_all [← nat_eq0, ← nat_eq1]) (only_4 s true fa fl fc c ea el ec hf he w q1 q2)
        · cases q3 : ((el : Int) == 0)
          · exact hA (by simp only [onlyB]; simp_all [← nat_eq0, ← nat_eq1]) (only_5 s true fa fl fc c ea el ec hf he w q1 q2 q3)
          · exact hA (by simp only [onlyB]; simp_all [← nat_eq0, ← nat_eq1]) (only_6 s true fa fl fc c ea el ec hf he w q1 q2 q3)
    · exact hA (by simp only [onlyB]; simp_all [← nat_eq0, ← nat_eq1]) (only_2 s true fa fl fc c ea el ec hf he w )
  by_cases k2 : k = 2
  · subst k2
    cases p
    · cases q1 : ((fl : Int) == 0)
      · exact hA (by simp only [onlyB]; simp_all [← nat_eq0, ← nat_eq1]) (only_8 s true fa fl fc c ea el ec hf he w q1)
      · cases q2 : (c == 0)
        · exact hA (by simp only [onlyB]; simp_all [← nat_eq0, ← nat_eq1]) (only_9 s true fa fl fc c ea el ec hf he w q1 q2)
        · cases q3 : ((el : Int) == 0)
          · exact hA (by simp only [onlyB]; simp_all [← nat_eq0, ← nat_eq1]) (only_10 s true fa fl fc c ea el ec hf he w q1 q2 q3)
          · exact hA (by simp only [onlyB]; simp_all [← nat_eq0, ← nat_eq1]) (only_11 s true fa fl fc c ea el ec hf he w q1 q2 q3)
    · exact hA (by simp only [onlyB]; simp_all [← nat_eq0, ← nat_eq1]) (only_7 s true fa fl fc c ea el ec hf he w )
  by_cases k3 : k = 3
  · subst k3
    cases q1 : (s == 0)
    · exact hA (by simp only [onlyB]; simp_all [← nat_eq0, ← nat_eq1]) (only_12 s p fa fl fc c ea el ec hf he w q1)
    · cases q2 : (c == 0)
      · exact hA (by simp only [onlyB]; simp_all [← nat_eq0, ← nat_eq1]) (only_13 s p fa fl fc c ea el ec hf he w q1 q2)
      · cases q3 : ((el : Int) == 0)
        · exact hA (by simp only [onlyB]; simp_all [← nat_eq0, ← nat_eq1]) (only_14 s p fa fl fc c ea el ec hf he w q1 q2 q3)
        · exact hA (by simp only [onlyB]; simp_all [← nat_eq0, ← nat_eq1]) (only_15 s p fa fl fc c ea el ec hf he w q1 q2 q3)
  by_cases k4 : k = 4
  · subst k4
    cases q1 : (s == 0)
    · exact hA (by simp only [onlyB]; simp_all [← nat_eq0, ← nat_eq1]) (only_16 s p fa fl fc c ea el ec hf he w q1)
    · cases q2 : (c == 0)
      · exact hA (by simp only [onlyB]; simp_all [← nat_eq0, ← nat_eq1]) (only_17 s p fa fl fc c ea el ec hf he w q1 q2)
      · cases q3 : ((el : Int) == 0)
        · exact hA (by simp only [onlyB]; simp_all [← nat_eq0, ← nat_eq1]) (only_18 s p fa fl fc c ea el ec hf he w q1 q2 q3)
        · exact hA (by simp only [onlyB]; simp_all [← nat_eq0, ← nat_eq1]) (only_19 s p fa fl fc c ea el ec hf he w q1 q2 q3)
  by_cases k5 : k = 5
  · subst k5
    cases q1 : (s == 0)
    · exact hA (by simp only [onlyB]; simp_all [← nat_eq0, ← nat_eq1]) (only_20 s p fa fl fc c ea el ec hf he w q1)
    · cases p
      · cases q2 : ((fl : Int) == 0)
        · exact hA (by simp only [onlyB]; simp_all [← nat_eq0, ← nat_eq1]) (only_22 s true fa fl fc c ea el ec hf he w q1 q2)
        · cases q3 : ((el : Int) == 1)
          · exact hA (by simp only [onlyB]; simp_all [← nat_eq0, ← nat_eq1]) (only_23 s true fa fl fc c ea el ec hf he w q1 q2 q3)
          · exact hA (by simp only [onlyB]; simp_all [← nat_eq0, ← nat_eq1]) (only_24 s true fa fl fc c ea el ec hf he w q1 q2 q3)
      · exact hA (by simp only [onlyB]; simp_all [← nat_eq0, ← nat_eq1]) (only_21 s true fa fl fc c ea el ec hf he w q1)
  exact hA (by simp only [onlyB]; simp_all [← nat_eq0, ← nat_eq1]) (only_1 k s p fa fl fc c ea el ec hf he w (beq_eq_false_iff_ne.2 k1) (beq_eq_false_iff_ne.2 k2) (beq_eq_false_iff_ne.2 k3) (beq_eq_false_iff_ne.2 k4) (beq_eq_false_iff_ne.2 k5))
end Go.Proofs.Ytlbkloamabomcaa
