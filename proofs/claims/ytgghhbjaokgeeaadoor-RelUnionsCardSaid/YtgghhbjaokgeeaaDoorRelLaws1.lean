/- Walks: the statements on what comes back, and on one relation behind the other. Condition: the library's table is laid. -/
import Derived.Test.YtgghhbjaokgeeaaDoorRelAwake
import Derived.Test.YtgghhbjaokgeeaaDoorRelRAcy
import Derived.Test.YtgghhbjaokgeeaaDoorRelRPlus
import Derived.Test.YtgghhbjaokgeeaaDoorRelRThen
import Derived.Test.YtgghhbjaokgeeaaDoorRelIs
namespace Go.Proofs.YtgghhbjaokgeeaaDoor
open Go.RowKit Go.Sort Go.Lib
set_option linter.unusedVariables false
set_option linter.unusedSimpArgs false
theorem acyB_iff {n : Nat} {f : Nat → Nat → Bool} (h0 : ∀ a c, n ≤ c → f a c = false) (h0r : ∀ a c, n ≤ a → f a c = false) : acyB n f = true ↔ ∀ x, ¬ Rch f x x := by
  unfold acyB
  rw [List.all_eq_true]
  constructor
  · intro h x hx
    obtain ⟨t, ht⟩ := rch_row hx
    have hxn : x < n := by
      rcases Nat.lt_or_ge x n with h1 | h1
      · exact h1
      · rw [h0r x t h1] at ht; cases ht
    have := h x (by simpa using hxn)
    rw [war_iff h0, rchB_iff.2 hx] at this
    cases this
  · intro h x hx
    rw [war_iff h0]
    have : rchB f x x = false := by
      rw [Bool.eq_false_iff]
      exact fun h1 => h x (rchB_iff.1 h1)
    rw [this]
    rfl
theorem onF_c {len : Nat} {r : Nat → Nat} : ∀ a c, sz len ≤ c → onF len r a c = false := fun a c h => onF_out (.inr h)
theorem onF_r {len : Nat} {r : Nat → Nat} : ∀ a c, sz len ≤ a → onF len r a c = false := fun a c h => onF_out (.inl h)
theorem relAcyclics_go (v : Value) (len : Nat) (r : Nat → Nat) (w : World) (h : Sl w v len r) (hT : Tab w) : Calls Tryd.prog 6 #[v] w (Gives w (.bool true)) := by
  have AW := Lib.hid (awake_any w hT)
  have AC := Lib.hid (fun p => acyclic_any v len r (more w p) (h.more p))
  have OF := Lib.hid (fun p q => of_any v len r (more (more w p) q) ((h.more p).more q))
  have RA := Lib.hid (fun b W hG => racy_any b (sz len) (onF len r) (sz_le len) onF_r W hG)
  have HI := Lib.hid (acyB_iff (n := sz len) (f := onF len r) onF_c onF_r)
  clear h hT
  generalize acyB (sz len) (onF len r) = x at *
  generalize onF len r = f at *
  generalize sz len = n at *
  go_enter Tryd.func6, Tryd.ntmps6
  go_wp2_with (first
    | (go_at_call 14; refine (AW.out).mono ?_; rintro e w1 ⟨rfl, p1, rfl⟩)
    | (go_at_call 25; refine (AC.out _).mono ?_; rintro e w1 ⟨rfl, p2, rfl⟩)
    | (go_at_call 11; refine (OF.out _ _).mono ?_; rintro e w1 ⟨b, rfl, ⟨p3, rfl⟩, _, hg⟩)
    | (go_at_call 26; refine (RA.out _ _ hg).mono ?_; rintro e w1 ⟨y, rfl, hy, p4, rfl⟩; obtain rfl : x = y := Bool.eq_iff_iff.2 (HI.out.trans hy.symm)))
  go_ret
  exact Gives.mk (by simp) (below_mo (below_mo (below_mo (more_below w p1) p2) p3) p4)
end Go.Proofs.YtgghhbjaokgeeaaDoor
