/- Walk: what a letter's field has (the document's answer). Condition: the number fits. -/
import Derived.Test.YtfijppclaahkmaaA64Enc
import Derived.Test.YtfijppclaahkmaaA64MayMath
namespace Go.Proofs.Ytfijppclaahkmaa
open Go.RowKit Go.Sort
set_option linter.unusedVariables false
set_option linter.unusedSimpArgs false
theorem rnum_any (i : Ins) (hi : i.rng) (c : Nat) (hc : c < 256) (hb : c = 98 → 0 ≤ i.imm ∧ i.imm ≤ 2) (hk : c = 107 → 0 ≤ i.e ∧ i.e ≤ 3) (w : World) : Calls Try.prog 30 #[.agg #[.int .i64 i.op, .int .i64 i.d, .int .i64 i.n, .int .i64 i.m, .int .i64 i.e, .int .i64 i.sz, .int .i64 i.imm], .int .u8 c] w (Gives w (.int .i64 (numR i c))) := by
  have HB := Lib.hid hb
  have HK := Lib.hid hk
  have HN : Hid (numR i c = if c = 100 then i.d else if c = 110 ∨ c = 97 then i.n else if c = 109 then i.m else if c = 101 ∨ c = 113 then i.e else if c = 107 then i.e.tdiv 2 * 2 + 1 - i.e.tmod 2
    else if c = 115 then i.sz else if c = 98 then ((barN i.imm : Nat) : Int) else i.imm) := Lib.hid rfl
  generalize numR i c = V at HN ⊢
  clear hb hk hi
  obtain ⟨op, d, n, m, e, sz, imm⟩ := i
  simp only at HB HK HN ⊢
  by_cases h1 : c = 100
  · subst h1
    have hv := HN.out
    rw [if_pos rfl] at hv
    subst hv
    clear HN
    go_enter Try.func30, Try.ntmps30
    go_wp2
    go_ret
    exact Gives.mk rfl (by repeat (first | exact Below.refl _ _ | refine below_al ?_ _))
  by_cases h2 : c = 110 ∨ c = 97
  · have hv := HN.out
    rw [if_neg h1, if_pos h2] at hv
    subst hv
    clear HN
    rcases h2 with rfl | rfl
    all_goals
      go_enter Try.func30, Try.ntmps30
      go_wp2
      go_ret
      exact Gives.mk rfl (by repeat (first | exact Below.refl _ _ | refine below_al ?_ _))
  by_cases h3 : c = 109
  · have hv := HN.out
    rw [if_neg h1, if_neg h2, if_pos h3] at hv
    subst hv h3
    clear HN
    go_enter Try.func30, Try.ntmps30
    go_wp2
    go_ret
    exact Gives.mk rfl (by repeat (first | exact Below.refl _ _ | refine below_al ?_ _))
  by_cases h4 : c = 101 ∨ c = 113
  · have hv := HN.out
    rw [if_neg h1, if_neg h2, if_neg h3, if_pos h4] at hv
    subst hv
    clear HN
    rcases h4 with rfl | rfl
    all_goals
      go_enter Try.func30, Try.ntmps30
      go_wp2
      go_ret
      exact Gives.mk rfl (by repeat (first | exact Below.refl _ _ | refine below_al ?_ _))
  by_cases h5 : c = 107
  · have hv := HN.out
    rw [if_neg h1, if_neg h2, if_neg h3, if_neg h4, if_pos h5] at hv
    subst hv
    obtain ⟨he1, he2⟩ := HK.out h5
    subst h5
    clear HN
    have he : e = 0 ∨ e = 1 ∨ e = 2 ∨ e = 3 := by omega
    rcases he with rfl | rfl | rfl | rfl
    all_goals
      go_enter Try.func30, Try.ntmps30
      go_wp2
      go_ret
      exact Gives.mk rfl (by repeat (first | exact Below.refl _ _ | refine below_al ?_ _))
  by_cases h6 : c = 115
  · have hv := HN.out
    rw [if_neg h1, if_neg h2, if_neg h3, if_neg h4, if_neg h5, if_pos h6] at hv
    subst hv h6
    clear HN
    go_enter Try.func30, Try.ntmps30
    go_wp2
    go_ret
    exact Gives.mk rfl (by repeat (first | exact Below.refl _ _ | refine below_al ?_ _))
  by_cases h7 : c = 98
  · have hv := HN.out
    rw [if_neg h1, if_neg h2, if_neg h3, if_neg h4, if_neg h5, if_neg h6, if_pos h7] at hv
    subst hv
    obtain ⟨he1, he2⟩ := HB.out h7
    subst h7
    clear HN
    have he : imm = 0 ∨ imm = 1 ∨ imm = 2 := by omega
    rcases he with rfl | rfl | rfl
    all_goals
      go_enter Try.func30, Try.ntmps30
      go_wp2
      go_ret
      exact Gives.mk rfl (by repeat (first | exact Below.refl _ _ | refine below_al ?_ _))
  · have hv := HN.out
    rw [if_neg h1, if_neg h2, if_neg h3, if_neg h4, if_neg h5, if_neg h6, if_neg h7] at hv
    subst hv
    clear HN
    have b1 : ((c : Int) == 100) = false := by simp; omega
    have b2 : ((c : Int) == 110) = false := by simp; omega
    have b3 : ((c : Int) == 97) = false := by simp; omega
    have b4 : ((c : Int) == 109) = false := by simp; omega
    have b5 : ((c : Int) == 101) = false := by simp; omega
    have b6 : ((c : Int) == 113) = false := by simp; omega
    have b7 : ((c : Int) == 107) = false := by simp; omega
    have b8 : ((c : Int) == 115) = false := by simp; omega
    have b9 : ((c : Int) == 98) = false := by simp; omega
    clear h1 h2 h3 h4 h5 h6 h7
    go_enter Try.func30, Try.ntmps30
    go_wp2
    go_ret
    exact Gives.mk rfl (by repeat (first | exact Below.refl _ _ | refine below_al ?_ _))
end Go.Proofs.Ytfijppclaahkmaa
