/- Whether two types are one: the document's Same, one level. Conditions: the types lie in memory; what it calls is given. -/
import Derived.Test.YtjioinmiglblmaaKindSame3
import Derived.BigRegion
namespace Go.Proofs.Ytjioinmiglblmaa
open Go.RowKit Go.Sort
set_option linter.unusedVariables false
set_option linter.unusedSimpArgs false

theorem refsame_0 (k s : Int) (p : Bool) (fa : Option Addr) (fl fc : Nat) (c : Int) (ea : Option Addr) (el ec : Nat) (k2 s2 : Int) (p2 : Bool) (fa2 : Option Addr) (fl2 fc2 : Nat) (c2 : Int) (ea2 : Option Addr) (el2 ec2 : Nat) (w : World) (hfl : fl ≤ 9223372036854775807) (hel : el ≤ 9223372036854775807) (hfl2 : fl2 ≤ 9223372036854775807) (hel2 : el2 ≤ 9223372036854775807)  (h0 : (k != k2) = true) : Calls Try.prog 27 #[.agg #[.int .i64 k, .int .i64 s, .bool p, .slice fa fl fc, .int .i64 c, .slice ea el ec], .agg #[.int .i64 k2, .int .i64 s2, .bool p2, .slice fa2 fl2 fc2, .int .i64 c2, .slice ea2 el2 ec2]] w (Gives w (.bool false)) := by
  go_enter Try.func27, Try.ntmps27
  go_wp2_with fail
  go_ret
  exact Gives.mk rfl (by repeat (first | exact Below.refl _ _ | refine below_mo ?_ _ | refine below_al ?_ _))
theorem refsame_1 (k s : Int) (p : Bool) (fa : Option Addr) (fl fc : Nat) (c : Int) (ea : Option Addr) (el ec : Nat) (k2 s2 : Int) (p2 : Bool) (fa2 : Option Addr) (fl2 fc2 : Nat) (c2 : Int) (ea2 : Option Addr) (el2 ec2 : Nat) (w : World) (hfl : fl ≤ 9223372036854775807) (hel : el ≤ 9223372036854775807) (hfl2 : fl2 ≤ 9223372036854775807) (hel2 : el2 ≤ 9223372036854775807) (h0 : (k != k2) = false) (h1 : (s != s2) = true) : Calls Try.prog 27 #[.agg #[.int .i64 k, .int .i64 s, .bool p, .slice fa fl fc, .int .i64 c, .slice ea el ec], .agg #[.int .i64 k2, .int .i64 s2, .bool p2, .slice fa2 fl2 fc2, .int .i64 c2, .slice ea2 el2 ec2]] w (Gives w (.bool false)) := by
  go_enter Try.func27, Try.ntmps27
  go_wp2_with fail
  go_ret
  exact Gives.mk rfl (by repeat (first | exact Below.refl _ _ | refine below_mo ?_ _ | refine below_al ?_ _))
theorem refsame_2a (k s : Int)  (fa : Option Addr) (fl fc : Nat) (c : Int) (ea : Option Addr) (el ec : Nat) (k2 s2 : Int)  (fa2 : Option Addr) (fl2 fc2 : Nat) (c2 : Int) (ea2 : Option Addr) (el2 ec2 : Nat) (w : World) (hfl : fl ≤ 9223372036854775807) (hel : el ≤ 9223372036854775807) (hfl2 : fl2 ≤ 9223372036854775807) (hel2 : el2 ≤ 9223372036854775807) (h0 : (k != k2) = false)(h1 : (s != s2) = false) : Calls Try.prog 27 #[.agg #[.int .i64 k, .int .i64 s, .bool true, .slice fa fl fc, .int .i64 c, .slice ea el ec], .agg #[.int .i64 k2, .int .i64 s2, .bool false, .slice fa2 fl2 fc2, .int .i64 c2, .slice ea2 el2 ec2]] w (Gives w (.bool false)) := by
  go_enter Try.func27, Try.ntmps27
  go_wp2_with fail
  go_ret
  exact Gives.mk rfl (by repeat (first | exact Below.refl _ _ | refine below_mo ?_ _ | refine below_al ?_ _))
theorem refsame_2b (k s : Int)  (fa : Option Addr) (fl fc : Nat) (c : Int) (ea : Option Addr) (el ec : Nat) (k2 s2 : Int)  (fa2 : Option Addr) (fl2 fc2 : Nat) (c2 : Int) (ea2 : Option Addr) (el2 ec2 : Nat) (w : World) (hfl : fl ≤ 9223372036854775807) (hel : el ≤ 9223372036854775807) (hfl2 : fl2 ≤ 9223372036854775807) (hel2 : el2 ≤ 9223372036854775807) (h0 : (k != k2) = false)(h1 : (s != s2) = false) : Calls Try.prog 27 #[.agg #[.int .i64 k, .int .i64 s, .bool false, .slice fa fl fc, .int .i64 c, .slice ea el ec], .agg #[.int .i64 k2, .int .i64 s2, .bool true, .slice fa2 fl2 fc2, .int .i64 c2, .slice ea2 el2 ec2]] w (Gives w (.bool false)) := by
  go_enter Try.func27, Try.ntmps27
  go_wp2_with fail
  go_ret
  exact Gives.mk rfl (by repeat (first | exact Below.refl _ _ | refine below_mo ?_ _ | refine below_al ?_ _))
theorem refsame_3 (k s : Int)  (fa : Option Addr) (fl fc : Nat) (c : Int) (ea : Option Addr) (el ec : Nat) (k2 s2 : Int)  (fa2 : Option Addr) (fl2 fc2 : Nat) (c2 : Int) (ea2 : Option Addr) (el2 ec2 : Nat) (w : World) (hfl : fl ≤ 9223372036854775807) (hel : el ≤ 9223372036854775807) (hfl2 : fl2 ≤ 9223372036854775807) (hel2 : el2 ≤ 9223372036854775807) (h0 : (k != k2) = false)(h1 : (s != s2) = false) (h3 : (c != c2) = true) : Calls Try.prog 27 #[.agg #[.int .i64 k, .int .i64 s, .bool true, .slice fa fl fc, .int .i64 c, .slice ea el ec], .agg #[.int .i64 k2, .int .i64 s2, .bool true, .slice fa2 fl2 fc2, .int .i64 c2, .slice ea2 el2 ec2]] w (Gives w (.bool false)) := by
  go_enter Try.func27, Try.ntmps27
  go_wp2_with fail
  go_ret
  exact Gives.mk rfl (by repeat (first | exact Below.refl _ _ | refine below_mo ?_ _ | refine below_al ?_ _))
theorem refsame_4 (k s : Int)  (fa : Option Addr) (fl fc : Nat) (c : Int) (ea : Option Addr) (el ec : Nat) (k2 s2 : Int)  (fa2 : Option Addr) (fl2 fc2 : Nat) (c2 : Int) (ea2 : Option Addr) (el2 ec2 : Nat) (w : World) (hfl : fl ≤ 9223372036854775807) (hel : el ≤ 9223372036854775807) (hfl2 : fl2 ≤ 9223372036854775807) (hel2 : el2 ≤ 9223372036854775807) (h0 : (k != k2) = false)(h1 : (s != s2) = false)(h3 : (c != c2) = false) (h4 : ((fl : Int) != fl2) = true) : Calls Try.prog 27 #[.agg #[.int .i64 k, .int .i64 s, .bool true, .slice fa fl fc, .int .i64 c, .slice ea el ec], .agg #[.int .i64 k2, .int .i64 s2, .bool true, .slice fa2 fl2 fc2, .int .i64 c2, .slice ea2 el2 ec2]] w (Gives w (.bool false)) := by
  go_enter Try.func27, Try.ntmps27
  go_wp2_with fail
  go_ret
  exact Gives.mk rfl (by repeat (first | exact Below.refl _ _ | refine below_mo ?_ _ | refine below_al ?_ _))
theorem refsame_5 (k s : Int)  (fa : Option Addr) (fl fc : Nat) (c : Int) (ea : Option Addr) (el ec : Nat) (k2 s2 : Int)  (fa2 : Option Addr) (fl2 fc2 : Nat) (c2 : Int) (ea2 : Option Addr) (el2 ec2 : Nat) (w : World) (hfl : fl ≤ 9223372036854775807) (hel : el ≤ 9223372036854775807) (hfl2 : fl2 ≤ 9223372036854775807) (hel2 : el2 ≤ 9223372036854775807) (h0 : (k != k2) = false)(h1 : (s != s2) = false)(h3 : (c != c2) = false) (h4 : ((fl : Int) != fl2) = false) (h5 : ((el : Int) != el2) = true) : Calls Try.prog 27 #[.agg #[.int .i64 k, .int .i64 s, .bool true, .slice fa fl fc, .int .i64 c, .slice ea el ec], .agg #[.int .i64 k2, .int .i64 s2, .bool true, .slice fa2 fl2 fc2, .int .i64 c2, .slice ea2 el2 ec2]] w (Gives w (.bool false)) := by
  go_enter Try.func27, Try.ntmps27
  go_wp2_with fail
  go_ret
  exact Gives.mk rfl (by repeat (first | exact Below.refl _ _ | refine below_mo ?_ _ | refine below_al ?_ _))
theorem refsame_3f (k s : Int)  (fa : Option Addr) (fl fc : Nat) (c : Int) (ea : Option Addr) (el ec : Nat) (k2 s2 : Int)  (fa2 : Option Addr) (fl2 fc2 : Nat) (c2 : Int) (ea2 : Option Addr) (el2 ec2 : Nat) (w : World) (hfl : fl ≤ 9223372036854775807) (hel : el ≤ 9223372036854775807) (hfl2 : fl2 ≤ 9223372036854775807) (hel2 : el2 ≤ 9223372036854775807) (h0 : (k != k2) = false)(h1 : (s != s2) = false) (h3 : (c != c2) = true) : Calls Try.prog 27 #[.agg #[.int .i64 k, .int .i64 s, .bool false, .slice fa fl fc, .int .i64 c, .slice ea el ec], .agg #[.int .i64 k2, .int .i64 s2, .bool false, .slice fa2 fl2 fc2, .int .i64 c2, .slice ea2 el2 ec2]] w (Gives w (.bool false)) := by
  go_enter Try.func27, Try.ntmps27
  go_wp2_with fail
  go_ret
  exact Gives.mk rfl (by repeat (first | exact Below.refl _ _ | refine below_mo ?_ _ | refine below_al ?_ _))
theorem refsame_4f (k s : Int)  (fa : Option Addr) (fl fc : Nat) (c : Int) (ea : Option Addr) (el ec : Nat) (k2 s2 : Int)  (fa2 : Option Addr) (fl2 fc2 : Nat) (c2 : Int) (ea2 : Option Addr) (el2 ec2 : Nat) (w : World) (hfl : fl ≤ 9223372036854775807) (hel : el ≤ 9223372036854775807) (hfl2 : fl2 ≤ 9223372036854775807) (hel2 : el2 ≤ 9223372036854775807) (h0 : (k != k2) = false)(h1 : (s != s2) = false)(h3 : (c != c2) = false) (h4 : ((fl : Int) != fl2) = true) : Calls Try.prog 27 #[.agg #[.int .i64 k, .int .i64 s, .bool false, .slice fa fl fc, .int .i64 c, .slice ea el ec], .agg #[.int .i64 k2, .int .i64 s2, .bool false, .slice fa2 fl2 fc2, .int .i64 c2, .slice ea2 el2 ec2]] w (Gives w (.bool false)) := by
  go_enter Try.func27, Try.ntmps27
  go_wp2_with fail
  go_ret
  exact Gives.mk rfl (by repeat (first | exact Below.refl _ _ | refine below_mo ?_ _ | refine below_al ?_ _))
theorem refsame_5f (k s : Int)  (fa : Option Addr) (fl fc : Nat) (c : Int) (ea : Option Addr) (el ec : Nat) (k2 s2 : Int)  (fa2 : Option Addr) (fl2 fc2 : Nat) (c2 : Int) (ea2 : Option Addr) (el2 ec2 : Nat) (w : World) (hfl : fl ≤ 9223372036854775807) (hel : el ≤ 9223372036854775807) (hfl2 : fl2 ≤ 9223372036854775807) (hel2 : el2 ≤ 9223372036854775807) (h0 : (k != k2) = false)(h1 : (s != s2) = false)(h3 : (c != c2) = false) (h4 : ((fl : Int) != fl2) = false) (h5 : ((el : Int) != el2) = true) : Calls Try.prog 27 #[.agg #[.int .i64 k, .int .i64 s, .bool false, .slice fa fl fc, .int .i64 c, .slice ea el ec], .agg #[.int .i64 k2, .int .i64 s2, .bool false, .slice fa2 fl2 fc2, .int .i64 c2, .slice ea2 el2 ec2]] w (Gives w (.bool false)) := by
  go_enter Try.func27, Try.ntmps27
  go_wp2_with fail
  go_ret
  exact Gives.mk rfl (by repeat (first | exact Below.refl _ _ | refine below_mo ?_ _ | refine below_al ?_ _))
end Go.Proofs.Ytjioinmiglblmaa
