/- Plain laws on spans: when two have a byte in common, when one lies in the other. -/
import Derived.Test.YtigbdndjlkmemaaSpanLaws
namespace Go.Proofs.Ytigbdndjlkmemaa
theorem bool_of_iff {a b : Bool} (h : a = true ↔ b = true) : a = b := Bool.eq_iff_iff.2 h
theorem meets_law (a l b m : Int) : ((hasB a l b && decide (0 < m) && sndB b m) || (hasB b m a && decide (0 < l) && sndB a l)) = meetsB a l b m := by
  apply bool_of_iff
  unfold meetsB hasB bLo bHi loI hiI
  cases h1 : sndB a l <;> cases h2 : sndB b m
  · simp
  · have := sndB_yes h2; simp; omega
  · have := sndB_yes h1; simp; omega
  · have := sndB_yes h1; have := sndB_yes h2; simp; omega
theorem within_law (a l b m : Int) : (!sndB a l || l == 0 || (hasB b m a && hasB b m (a + l - 1))) = withinB a l b m := by
  apply bool_of_iff
  unfold withinB hasB bLo bHi loI hiI
  cases h1 : sndB a l <;> cases h2 : sndB b m
  · simp
  · have := sndB_yes h2; simp
  · have := sndB_yes h1; simp; omega
  · have := sndB_yes h1; have := sndB_yes h2; simp; omega
theorem aligns_law (a l : Int) : (sndB a l && powB l && a % l == 0) = algB a l := rfl
end Go.Proofs.Ytigbdndjlkmemaa
