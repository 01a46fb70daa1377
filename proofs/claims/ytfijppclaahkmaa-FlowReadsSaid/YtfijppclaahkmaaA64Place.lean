/- Walks: a letter's field, and where an instruction keeps its number. No condition. -/
import Derived.Test.YtfijppclaahkmaaA64Ops
import Derived.Test.YtfijppclaahkmaaMore
import Derived.Test.YtfijppclaahkmaaProg
import Derived.Handy
namespace Go.Proofs.Ytfijppclaahkmaa
open Go.RowKit Go.Sort
set_option linter.unusedVariables false
set_option linter.unusedSimpArgs false

def fvF (f : Fl) : Value := .agg #[.int .i64 f.lo, .int .i64 f.n, .bool (f.kd == 1), .int .u32 (if f.kd = 2 then 1 else 0), .int .i64 f.most]
theorem place_d (w : World) : Calls Try.prog 43 #[.int .u8 100] w (Gives w (fvF ⟨0, 5, 1, 0, 31⟩)) := by
  go_enter Try.func43, Try.ntmps43
  go_wp2
  go_returns
  exact Gives.mk rfl (by repeat (first | exact Below.refl _ _ | refine below_mo ?_ _ | refine below_al ?_ _))
theorem at_d (b : Nat) (w : World) : Calls Try.prog 44 #[.pointer (some ⟨b, 0, none⟩), .int .u8 100] w (Gives w (.pointer (some ⟨b, 1, none⟩))) := by
  go_enter Try.func44, Try.ntmps44
  go_wp2
  go_returns
  exact Gives.mk rfl (by repeat (first | exact Below.refl _ _ | refine below_mo ?_ _ | refine below_al ?_ _))
theorem place_n (w : World) : Calls Try.prog 43 #[.int .u8 110] w (Gives w (fvF ⟨5, 5, 2, 0, 31⟩)) := by
  go_enter Try.func43, Try.ntmps43
  go_wp2
  go_returns
  exact Gives.mk rfl (by repeat (first | exact Below.refl _ _ | refine below_mo ?_ _ | refine below_al ?_ _))
theorem at_n (b : Nat) (w : World) : Calls Try.prog 44 #[.pointer (some ⟨b, 0, none⟩), .int .u8 110] w (Gives w (.pointer (some ⟨b, 2, none⟩))) := by
  go_enter Try.func44, Try.ntmps44
  go_wp2
  go_returns
  exact Gives.mk rfl (by repeat (first | exact Below.refl _ _ | refine below_mo ?_ _ | refine below_al ?_ _))
theorem place_a (w : World) : Calls Try.prog 43 #[.int .u8 97] w (Gives w (fvF ⟨5, 5, 2, 0, 30⟩)) := by
  go_enter Try.func43, Try.ntmps43
  go_wp2
  go_returns
  exact Gives.mk rfl (by repeat (first | exact Below.refl _ _ | refine below_mo ?_ _ | refine below_al ?_ _))
theorem at_a (b : Nat) (w : World) : Calls Try.prog 44 #[.pointer (some ⟨b, 0, none⟩), .int .u8 97] w (Gives w (.pointer (some ⟨b, 2, none⟩))) := by
  go_enter Try.func44, Try.ntmps44
  go_wp2
  go_returns
  exact Gives.mk rfl (by repeat (first | exact Below.refl _ _ | refine below_mo ?_ _ | refine below_al ?_ _))
theorem place_m (w : World) : Calls Try.prog 43 #[.int .u8 109] w (Gives w (fvF ⟨16, 5, 3, 0, 31⟩)) := by
  go_enter Try.func43, Try.ntmps43
  go_wp2
  go_returns
  exact Gives.mk rfl (by repeat (first | exact Below.refl _ _ | refine below_mo ?_ _ | refine below_al ?_ _))
theorem at_m (b : Nat) (w : World) : Calls Try.prog 44 #[.pointer (some ⟨b, 0, none⟩), .int .u8 109] w (Gives w (.pointer (some ⟨b, 3, none⟩))) := by
  go_enter Try.func44, Try.ntmps44
  go_wp2
  go_returns
  exact Gives.mk rfl (by repeat (first | exact Below.refl _ _ | refine below_mo ?_ _ | refine below_al ?_ _))
theorem place_e (w : World) : Calls Try.prog 43 #[.int .u8 101] w (Gives w (fvF ⟨10, 5, 4, 0, 31⟩)) := by
  go_enter Try.func43, Try.ntmps43
  go_wp2
  go_returns
  exact Gives.mk rfl (by repeat (first | exact Below.refl _ _ | refine below_mo ?_ _ | refine below_al ?_ _))
theorem at_e (b : Nat) (w : World) : Calls Try.prog 44 #[.pointer (some ⟨b, 0, none⟩), .int .u8 101] w (Gives w (.pointer (some ⟨b, 4, none⟩))) := by
  go_enter Try.func44, Try.ntmps44
  go_wp2
  go_returns
  exact Gives.mk rfl (by repeat (first | exact Below.refl _ _ | refine below_mo ?_ _ | refine below_al ?_ _))
theorem place_q (w : World) : Calls Try.prog 43 #[.int .u8 113] w (Gives w (fvF ⟨21, 2, 4, 0, 3⟩)) := by
  go_enter Try.func43, Try.ntmps43
  go_wp2
  go_returns
  exact Gives.mk rfl (by repeat (first | exact Below.refl _ _ | refine below_mo ?_ _ | refine below_al ?_ _))
theorem at_q (b : Nat) (w : World) : Calls Try.prog 44 #[.pointer (some ⟨b, 0, none⟩), .int .u8 113] w (Gives w (.pointer (some ⟨b, 4, none⟩))) := by
  go_enter Try.func44, Try.ntmps44
  go_wp2
  go_returns
  exact Gives.mk rfl (by repeat (first | exact Below.refl _ _ | refine below_mo ?_ _ | refine below_al ?_ _))
theorem place_c (w : World) : Calls Try.prog 43 #[.int .u8 99] w (Gives w (fvF ⟨0, 2, 4, 0, 3⟩)) := by
  go_enter Try.func43, Try.ntmps43
  go_wp2
  go_returns
  exact Gives.mk rfl (by repeat (first | exact Below.refl _ _ | refine below_mo ?_ _ | refine below_al ?_ _))
theorem at_c (b : Nat) (w : World) : Calls Try.prog 44 #[.pointer (some ⟨b, 0, none⟩), .int .u8 99] w (Gives w (.pointer (some ⟨b, 4, none⟩))) := by
  go_enter Try.func44, Try.ntmps44
  go_wp2
  go_returns
  exact Gives.mk rfl (by repeat (first | exact Below.refl _ _ | refine below_mo ?_ _ | refine below_al ?_ _))
theorem place_k (w : World) : Calls Try.prog 43 #[.int .u8 107] w (Gives w (fvF ⟨12, 2, 4, 2, 3⟩)) := by
  go_enter Try.func43, Try.ntmps43
  go_wp2
  go_returns
  exact Gives.mk rfl (by repeat (first | exact Below.refl _ _ | refine below_mo ?_ _ | refine below_al ?_ _))
theorem at_k (b : Nat) (w : World) : Calls Try.prog 44 #[.pointer (some ⟨b, 0, none⟩), .int .u8 107] w (Gives w (.pointer (some ⟨b, 4, none⟩))) := by
  go_enter Try.func44, Try.ntmps44
  go_wp2
  go_returns
  exact Gives.mk rfl (by repeat (first | exact Below.refl _ _ | refine below_mo ?_ _ | refine below_al ?_ _))
theorem place_s (w : World) : Calls Try.prog 43 #[.int .u8 115] w (Gives w (fvF ⟨30, 2, 5, 0, 3⟩)) := by
  go_enter Try.func43, Try.ntmps43
  go_wp2
  go_returns
  exact Gives.mk rfl (by repeat (first | exact Below.refl _ _ | refine below_mo ?_ _ | refine below_al ?_ _))
theorem at_s (b : Nat) (w : World) : Calls Try.prog 44 #[.pointer (some ⟨b, 0, none⟩), .int .u8 115] w (Gives w (.pointer (some ⟨b, 5, none⟩))) := by
  go_enter Try.func44, Try.ntmps44
  go_wp2
  go_returns
  exact Gives.mk rfl (by repeat (first | exact Below.refl _ _ | refine below_mo ?_ _ | refine below_al ?_ _))
theorem place_i (w : World) : Calls Try.prog 43 #[.int .u8 105] w (Gives w (fvF ⟨5, 16, 6, 0, 65535⟩)) := by
  go_enter Try.func43, Try.ntmps43
  go_wp2
  go_returns
  exact Gives.mk rfl (by repeat (first | exact Below.refl _ _ | refine below_mo ?_ _ | refine below_al ?_ _))
theorem at_i (b : Nat) (w : World) : Calls Try.prog 44 #[.pointer (some ⟨b, 0, none⟩), .int .u8 105] w (Gives w (.pointer (some ⟨b, 6, none⟩))) := by
  go_enter Try.func44, Try.ntmps44
  go_wp2
  go_returns
  exact Gives.mk rfl (by repeat (first | exact Below.refl _ _ | refine below_mo ?_ _ | refine below_al ?_ _))
theorem place_o (w : World) : Calls Try.prog 43 #[.int .u8 111] w (Gives w (fvF ⟨10, 12, 6, 0, 4095⟩)) := by
  go_enter Try.func43, Try.ntmps43
  go_wp2
  go_returns
  exact Gives.mk rfl (by repeat (first | exact Below.refl _ _ | refine below_mo ?_ _ | refine below_al ?_ _))
theorem at_o (b : Nat) (w : World) : Calls Try.prog 44 #[.pointer (some ⟨b, 0, none⟩), .int .u8 111] w (Gives w (.pointer (some ⟨b, 6, none⟩))) := by
  go_enter Try.func44, Try.ntmps44
  go_wp2
  go_returns
  exact Gives.mk rfl (by repeat (first | exact Below.refl _ _ | refine below_mo ?_ _ | refine below_al ?_ _))
theorem place_b (w : World) : Calls Try.prog 43 #[.int .u8 98] w (Gives w (fvF ⟨0, 26, 6, 1, 0⟩)) := by
  go_enter Try.func43, Try.ntmps43
  go_wp2
  go_returns
  exact Gives.mk rfl (by repeat (first | exact Below.refl _ _ | refine below_mo ?_ _ | refine below_al ?_ _))
theorem at_b (b : Nat) (w : World) : Calls Try.prog 44 #[.pointer (some ⟨b, 0, none⟩), .int .u8 98] w (Gives w (.pointer (some ⟨b, 6, none⟩))) := by
  go_enter Try.func44, Try.ntmps44
  go_wp2
  go_returns
  exact Gives.mk rfl (by repeat (first | exact Below.refl _ _ | refine below_mo ?_ _ | refine below_al ?_ _))
theorem place_x (w : World) : Calls Try.prog 43 #[.int .u8 120] w (Gives w (fvF ⟨5, 19, 6, 1, 0⟩)) := by
  go_enter Try.func43, Try.ntmps43
  go_wp2
  go_returns
  exact Gives.mk rfl (by repeat (first | exact Below.refl _ _ | refine below_mo ?_ _ | refine below_al ?_ _))
theorem at_x (b : Nat) (w : World) : Calls Try.prog 44 #[.pointer (some ⟨b, 0, none⟩), .int .u8 120] w (Gives w (.pointer (some ⟨b, 6, none⟩))) := by
  go_enter Try.func44, Try.ntmps44
  go_wp2
  go_returns
  exact Gives.mk rfl (by repeat (first | exact Below.refl _ _ | refine below_mo ?_ _ | refine below_al ?_ _))
theorem place_f (w : World) : Calls Try.prog 43 #[.int .u8 102] w (Gives w (fvF ⟨8, 4, 6, 3, 2⟩)) := by
  go_enter Try.func43, Try.ntmps43
  go_wp2
  go_returns
  exact Gives.mk rfl (by repeat (first | exact Below.refl _ _ | refine below_mo ?_ _ | refine below_al ?_ _))
theorem at_f (b : Nat) (w : World) : Calls Try.prog 44 #[.pointer (some ⟨b, 0, none⟩), .int .u8 102] w (Gives w (.pointer (some ⟨b, 6, none⟩))) := by
  go_enter Try.func44, Try.ntmps44
  go_wp2
  go_returns
  exact Gives.mk rfl (by repeat (first | exact Below.refl _ _ | refine below_mo ?_ _ | refine below_al ?_ _))
theorem place_any (c : Nat) (f : Fl) (h : fl c = some f) (w : World) : Calls Try.prog 43 #[.int .u8 c] w (Gives w (.agg #[.int .i64 f.lo, .int .i64 f.n, .bool (f.kd == 1), .int .u32 (if f.kd = 2 then 1 else 0), .int .i64 f.most])) := by
  unfold fl at h
  by_cases h100 : c = 100
  · rw [if_pos h100] at h
    cases h
    subst h100
    exact place_d w
  rw [if_neg h100] at h
  by_cases h110 : c = 110
  · rw [if_pos h110] at h
    cases h
    subst h110
    exact place_n w
  rw [if_neg h110] at h
  by_cases h97 : c = 97
  · rw [if_pos h97] at h
    cases h
    subst h97
    exact place_a w
  rw [if_neg h97] at h
  by_cases h109 : c = 109
  · rw [if_pos h109] at h
    cases h
    subst h109
    exact place_m w
  rw [if_neg h109] at h
  by_cases h101 : c = 101
  · rw [if_pos h101] at h
    cases h
    subst h101
    exact place_e w
  rw [if_neg h101] at h
  by_cases h113 : c = 113
  · rw [if_pos h113] at h
    cases h
    subst h113
    exact place_q w
  rw [if_neg h113] at h
  by_cases h99 : c = 99
  · rw [if_pos h99] at h
    cases h
    subst h99
    exact place_c w
  rw [if_neg h99] at h
  by_cases h107 : c = 107
  · rw [if_pos h107] at h
    cases h
    subst h107
    exact place_k w
  rw [if_neg h107] at h
  by_cases h115 : c = 115
  · rw [if_pos h115] at h
    cases h
    subst h115
    exact place_s w
  rw [if_neg h115] at h
  by_cases h105 : c = 105
  · rw [if_pos h105] at h
    cases h
    subst h105
    exact place_i w
  rw [if_neg h105] at h
  by_cases h111 : c = 111
  · rw [if_pos h111] at h
    cases h
    subst h111
    exact place_o w
  rw [if_neg h111] at h
  by_cases h98 : c = 98
  · rw [if_pos h98] at h
    cases h
    subst h98
    exact place_b w
  rw [if_neg h98] at h
  by_cases h120 : c = 120
  · rw [if_pos h120] at h
    cases h
    subst h120
    exact place_x w
  rw [if_neg h120] at h
  by_cases h102 : c = 102
  · rw [if_pos h102] at h
    cases h
    subst h102
    exact place_f w
  rw [if_neg h102] at h
  cases h
theorem at_any (c : Nat) (f : Fl) (h : fl c = some f) (b : Nat) (w : World) : Calls Try.prog 44 #[.pointer (some ⟨b, 0, none⟩), .int .u8 c] w (Gives w (.pointer (some ⟨b, f.idx, none⟩))) := by
  unfold fl at h
  by_cases h100 : c = 100
  · rw [if_pos h100] at h
    cases h
    subst h100
    exact at_d b w
  rw [if_neg h100] at h
  by_cases h110 : c = 110
  · rw [if_pos h110] at h
    cases h
    subst h110
    exact at_n b w
  rw [if_neg h110] at h
  by_cases h97 : c = 97
  · rw [if_pos h97] at h
    cases h
    subst h97
    exact at_a b w
  rw [if_neg h97] at h
  by_cases h109 : c = 109
  · rw [if_pos h109] at h
    cases h
    subst h109
    exact at_m b w
  rw [if_neg h109] at h
  by_cases h101 : c = 101
  · rw [if_pos h101] at h
    cases h
    subst h101
    exact at_e b w
  rw [if_neg h101] at h
  by_cases h113 : c = 113
  · rw [if_pos h113] at h
    cases h
    subst h113
    exact at_q b w
  rw [if_neg h113] at h
  by_cases h99 : c = 99
  · rw [if_pos h99] at h
    cases h
    subst h99
    exact at_c b w
  rw [if_neg h99] at h
  by_cases h107 : c = 107
  · rw [if_pos h107] at h
    cases h
    subst h107
    exact at_k b w
  rw [if_neg h107] at h
  by_cases h115 : c = 115
  · rw [if_pos h115] at h
    cases h
    subst h115
    exact at_s b w
  rw [if_neg h115] at h
  by_cases h105 : c = 105
  · rw [if_pos h105] at h
    cases h
    subst h105
    exact at_i b w
  rw [if_neg h105] at h
  by_cases h111 : c = 111
  · rw [if_pos h111] at h
    cases h
    subst h111
    exact at_o b w
  rw [if_neg h111] at h
  by_cases h98 : c = 98
  · rw [if_pos h98] at h
    cases h
    subst h98
    exact at_b b w
  rw [if_neg h98] at h
  by_cases h120 : c = 120
  · rw [if_pos h120] at h
    cases h
    subst h120
    exact at_x b w
  rw [if_neg h120] at h
  by_cases h102 : c = 102
  · rw [if_pos h102] at h
    cases h
    subst h102
    exact at_f b w
  rw [if_neg h102] at h
  cases h
end Go.Proofs.Ytfijppclaahkmaa
