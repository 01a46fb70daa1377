/- Whether a type may be: the document's inner, one level. Conditions: what it calls is given. -/
import Derived.Test.YtlbkloamabomcaaKindSound3
namespace Go.Proofs.Ytlbkloamabomcaa
open Go.RowKit Go.Sort
set_option linter.unusedVariables false
set_option linter.unusedSimpArgs false

set_option maxRecDepth 1000000 in
theorem inner_1  (s : Int) (fa : Option Addr) (fl fc : Nat) (c : Int) (ea : Option Addr) (el ec : Nat)  (w : World) (hf : fl ≤ 9223372036854775807) (he : el ≤ 9223372036854775807)  :
    Calls Try.prog 44 #[.agg #[.int .i64 1, .int .i64 s, .bool true, .slice fa fl fc, .int .i64 c, .slice ea el ec]] w (Gives w (.int .i64 8)) := by
  go_enter Try.func44, Try.ntmps44
  go_wp2_with fail
  go_ret
  exact Gives.mk rfl (by repeat (first | exact Below.refl _ _ | refine below_mo ?_ _ | refine below_al ?_ _))
set_option maxRecDepth 1000000 in
theorem inner_2  (s : Int) (fa : Option Addr) (fl fc : Nat) (c : Int) (ea : Option Addr) (el ec : Nat)  (w : World) (hf : fl ≤ 9223372036854775807) (he : el ≤ 9223372036854775807) (g0 : (0 : Int) < fl) :
    Calls Try.prog 44 #[.agg #[.int .i64 1, .int .i64 s, .bool false, .slice fa fl fc, .int .i64 c, .slice ea el ec]] w (Gives w (.int .i64 8)) := by
  go_enter Try.func44, Try.ntmps44
  go_wp2_with fail
  go_ret
  exact Gives.mk rfl (by repeat (first | exact Below.refl _ _ | refine below_mo ?_ _ | refine below_al ?_ _))
set_option maxRecDepth 1000000 in
theorem inner_3  (s : Int) (fa : Option Addr) (fl fc : Nat) (c : Int) (ea : Option Addr) (el ec : Nat)  (w : World) (hf : fl ≤ 9223372036854775807) (he : el ≤ 9223372036854775807) (g0 : ¬ (0 : Int) < fl) (g1 : (c != 0) = true) :
    Calls Try.prog 44 #[.agg #[.int .i64 1, .int .i64 s, .bool false, .slice fa fl fc, .int .i64 c, .slice ea el ec]] w (Gives w (.int .i64 8)) := by
  go_enter Try.func44, Try.ntmps44
  go_wp2_with fail
  go_ret
  exact Gives.mk rfl (by repeat (first | exact Below.refl _ _ | refine below_mo ?_ _ | refine below_al ?_ _))
set_option maxRecDepth 1000000 in
theorem inner_4  (s : Int) (fa : Option Addr) (fl fc : Nat) (c : Int) (ea : Option Addr) (el ec : Nat)  (w : World) (hf : fl ≤ 9223372036854775807) (he : el ≤ 9223372036854775807) (g0 : ¬ (0 : Int) < fl) (g1 : (c != 0) = false) (g2 : (0 : Int) < el) :
    Calls Try.prog 44 #[.agg #[.int .i64 1, .int .i64 s, .bool false, .slice fa fl fc, .int .i64 c, .slice ea el ec]] w (Gives w (.int .i64 8)) := by
  go_enter Try.func44, Try.ntmps44
  go_wp2_with fail
  go_ret
  exact Gives.mk rfl (by repeat (first | exact Below.refl _ _ | refine below_mo ?_ _ | refine below_al ?_ _))
set_option maxRecDepth 1000000 in
theorem inner_5  (s : Int) (fa : Option Addr) (fl fc : Nat) (c : Int) (ea : Option Addr) (el ec : Nat)  (w : World) (hf : fl ≤ 9223372036854775807) (he : el ≤ 9223372036854775807) (g0 : ¬ (0 : Int) < fl) (g1 : (c != 0) = false) (g2 : ¬ (0 : Int) < el) (g3 : powN s 8 = true) :
    Calls Try.prog 44 #[.agg #[.int .i64 1, .int .i64 s, .bool false, .slice fa fl fc, .int .i64 c, .slice ea el ec]] w (Gives w (.int .i64 0)) := by
  have PW := refsize_any s 8 (.inl rfl)
  rw [g3] at PW
  have HP := Lib.hid PW
  clear PW g3
  go_enter Try.func44, Try.ntmps44
  go_wp2_with (go_at_call 66; refine (HP.out _).mono ?_; rintro e w1 ⟨rfl, p1, rfl⟩)
  go_ret
  exact Gives.mk rfl (by repeat (first | exact Below.refl _ _ | refine below_mo ?_ _ | refine below_al ?_ _))
set_option maxRecDepth 1000000 in
theorem inner_6  (s : Int) (fa : Option Addr) (fl fc : Nat) (c : Int) (ea : Option Addr) (el ec : Nat)  (w : World) (hf : fl ≤ 9223372036854775807) (he : el ≤ 9223372036854775807) (g0 : ¬ (0 : Int) < fl) (g1 : (c != 0) = false) (g2 : ¬ (0 : Int) < el) (g3 : powN s 8 = false) :
    Calls Try.prog 44 #[.agg #[.int .i64 1, .int .i64 s, .bool false, .slice fa fl fc, .int .i64 c, .slice ea el ec]] w (Gives w (.int .i64 9)) := by
  have PW := refsize_any s 8 (.inl rfl)
  rw [g3] at PW
  have HP := Lib.hid PW
  clear PW g3
  go_enter Try.func44, Try.ntmps44
  go_wp2_with (go_at_call 66; refine (HP.out _).mono ?_; rintro e w1 ⟨rfl, p1, rfl⟩)
  go_ret
  exact Gives.mk rfl (by repeat (first | exact Below.refl _ _ | refine below_mo ?_ _ | refine below_al ?_ _))
set_option maxRecDepth 1000000 in
theorem inner_7  (s : Int) (fa : Option Addr) (fl fc : Nat) (c : Int) (ea : Option Addr) (el ec : Nat)  (w : World) (hf : fl ≤ 9223372036854775807) (he : el ≤ 9223372036854775807)  :
    Calls Try.prog 44 #[.agg #[.int .i64 2, .int .i64 s, .bool true, .slice fa fl fc, .int .i64 c, .slice ea el ec]] w (Gives w (.int .i64 8)) := by
  go_enter Try.func44, Try.ntmps44
  go_wp2_with fail
  go_ret
  exact Gives.mk rfl (by repeat (first | exact Below.refl _ _ | refine below_mo ?_ _ | refine below_al ?_ _))
set_option maxRecDepth 1000000 in
theorem inner_8  (s : Int) (fa : Option Addr) (fl fc : Nat) (c : Int) (ea : Option Addr) (el ec : Nat)  (w : World) (hf : fl ≤ 9223372036854775807) (he : el ≤ 9223372036854775807) (g0 : (0 : Int) < fl) :
    Calls Try.prog 44 #[.agg #[.int .i64 2, .int .i64 s, .bool false, .slice fa fl fc, .int .i64 c, .slice ea el ec]] w (Gives w (.int .i64 8)) := by
  go_enter Try.func44, Try.ntmps44
  go_wp2_with fail
  go_ret
  exact Gives.mk rfl (by repeat (first | exact Below.refl _ _ | refine below_mo ?_ _ | refine below_al ?_ _))
set_option maxRecDepth 1000000 in
theorem inner_9  (s : Int) (fa : Option Addr) (fl fc : Nat) (c : Int) (ea : Option Addr) (el ec : Nat)  (w : World) (hf : fl ≤ 9223372036854775807) (he : el ≤ 9223372036854775807) (g0 : ¬ (0 : Int) < fl) (g1 : (c != 0) = true) :
    Calls Try.prog 44 #[.agg #[.int .i64 2, .int .i64 s, .bool false, .slice fa fl fc, .int .i64 c, .slice ea el ec]] w (Gives w (.int .i64 8)) := by
  go_enter Try.func44, Try.ntmps44
  go_wp2_with fail
  go_ret
  exact Gives.mk rfl (by repeat (first | exact Below.refl _ _ | refine below_mo ?_ _ | refine below_al ?_ _))
set_option maxRecDepth 1000000 in
theorem inner_10  (s : Int) (fa : Option Addr) (fl fc : Nat) (c : Int) (ea : Option Addr) (el ec : Nat)  (w : World) (hf : fl ≤ 9223372036854775807) (he : el ≤ 9223372036854775807) (g0 : ¬ (0 : Int) < fl) (g1 : (c != 0) = false) (g2 : (0 : Int) < el) :
    Calls Try.prog 44 #[.agg #[.int .i64 2, .int .i64 s, .bool false, .slice fa fl fc, .int .i64 c, .slice ea el ec]] w (Gives w (.int .i64 8)) := by
  go_enter Try.func44, Try.ntmps44
  go_wp2_with fail
  go_ret
  exact Gives.mk rfl (by repeat (first | exact Below.refl _ _ | refine below_mo ?_ _ | refine below_al ?_ _))
set_option maxRecDepth 1000000 in
theorem inner_11  (s : Int) (fa : Option Addr) (fl fc : Nat) (c : Int) (ea : Option Addr) (el ec : Nat)  (w : World) (hf : fl ≤ 9223372036854775807) (he : el ≤ 9223372036854775807) (g0 : ¬ (0 : Int) < fl) (g1 : (c != 0) = false) (g2 : ¬ (0 : Int) < el) (g3 : powN s 16 = true) :
    Calls Try.prog 44 #[.agg #[.int .i64 2, .int .i64 s, .bool false, .slice fa fl fc, .int .i64 c, .slice ea el ec]] w (Gives w (.int .i64 0)) := by
  have PW := refsize_any s 16 (.inr rfl)
  rw [g3] at PW
  have HP := Lib.hid PW
  clear PW g3
  go_enter Try.func44, Try.ntmps44
  go_wp2_with (go_at_call 66; refine (HP.out _).mono ?_; rintro e w1 ⟨rfl, p1, rfl⟩)
  go_ret
  exact Gives.mk rfl (by repeat (first | exact Below.refl _ _ | refine below_mo ?_ _ | refine below_al ?_ _))
set_option maxRecDepth 1000000 in
theorem inner_12  (s : Int) (fa : Option Addr) (fl fc : Nat) (c : Int) (ea : Option Addr) (el ec : Nat)  (w : World) (hf : fl ≤ 9223372036854775807) (he : el ≤ 9223372036854775807) (g0 : ¬ (0 : Int) < fl) (g1 : (c != 0) = false) (g2 : ¬ (0 : Int) < el) (g3 : powN s 16 = false) :
    Calls Try.prog 44 #[.agg #[.int .i64 2, .int .i64 s, .bool false, .slice fa fl fc, .int .i64 c, .slice ea el ec]] w (Gives w (.int .i64 9)) := by
  have PW := refsize_any s 16 (.inr rfl)
  rw [g3] at PW
  have HP := Lib.hid PW
  clear PW g3
  go_enter Try.func44, Try.ntmps44
  go_wp2_with (go_at_call 66; refine (HP.out _).mono ?_; rintro e w1 ⟨rfl, p1, rfl⟩)
  go_ret
  exact Gives.mk rfl (by repeat (first | exact Below.refl _ _ | refine below_mo ?_ _ | refine below_al ?_ _))
set_option maxRecDepth 1000000 in
theorem inner_13  (s : Int) (fa : Option Addr) (fl fc : Nat) (c : Int) (ea : Option Addr) (el ec : Nat)  (w : World) (hf : fl ≤ 9223372036854775807) (he : el ≤ 9223372036854775807)  :
    Calls Try.prog 44 #[.agg #[.int .i64 5, .int .i64 s, .bool true, .slice fa fl fc, .int .i64 c, .slice ea el ec]] w (Gives w (.int .i64 8)) := by
  go_enter Try.func44, Try.ntmps44
  go_wp2_with fail
  go_ret
  exact Gives.mk rfl (by repeat (first | exact Below.refl _ _ | refine below_mo ?_ _ | refine below_al ?_ _))
set_option maxRecDepth 1000000 in
theorem inner_14  (s : Int) (fa : Option Addr) (fl fc : Nat) (c : Int) (ea : Option Addr) (el ec : Nat)  (w : World) (hf : fl ≤ 9223372036854775807) (he : el ≤ 9223372036854775807) (g0 : (0 : Int) < fl) :
    Calls Try.prog 44 #[.agg #[.int .i64 5, .int .i64 s, .bool false, .slice fa fl fc, .int .i64 c, .slice ea el ec]] w (Gives w (.int .i64 8)) := by
  go_enter Try.func44, Try.ntmps44
  go_wp2_with fail
  go_ret
  exact Gives.mk rfl (by repeat (first | exact Below.refl _ _ | refine below_mo ?_ _ | refine below_al ?_ _))
set_option maxRecDepth 1000000 in
theorem inner_15  (s : Int) (fa : Option Addr) (fl fc : Nat) (c : Int) (ea : Option Addr) (el ec : Nat)  (w : World) (hf : fl ≤ 9223372036854775807) (he : el ≤ 9223372036854775807) (g0 : ¬ (0 : Int) < fl) (g1 : (s != 0) = true) :
    Calls Try.prog 44 #[.agg #[.int .i64 5, .int .i64 s, .bool false, .slice fa fl fc, .int .i64 c, .slice ea el ec]] w (Gives w (.int .i64 8)) := by
  go_enter Try.func44, Try.ntmps44
  go_wp2_with fail
  go_ret
  exact Gives.mk rfl (by repeat (first | exact Below.refl _ _ | refine below_mo ?_ _ | refine below_al ?_ _))
set_option maxRecDepth 1000000 in
theorem inner_16  (s : Int) (fa : Option Addr) (fl fc : Nat) (c : Int) (ea : Option Addr) (el ec : Nat)  (w : World) (hf : fl ≤ 9223372036854775807) (he : el ≤ 9223372036854775807) (g0 : ¬ (0 : Int) < fl) (g1 : (s != 0) = false) (g2 : ((el : Int) != 1) = true) :
    Calls Try.prog 44 #[.agg #[.int .i64 5, .int .i64 s, .bool false, .slice fa fl fc, .int .i64 c, .slice ea el ec]] w (Gives w (.int .i64 8)) := by
  go_enter Try.func44, Try.ntmps44
  go_wp2_with fail
  go_ret
  exact Gives.mk rfl (by repeat (first | exact Below.refl _ _ | refine below_mo ?_ _ | refine below_al ?_ _))
set_option maxRecDepth 1000000 in
theorem inner_17  (s : Int) (fa : Option Addr) (fl fc : Nat) (c : Int) (ea : Option Addr) (el ec : Nat)  (w : World) (hf : fl ≤ 9223372036854775807) (he : el ≤ 9223372036854775807) (g0 : ¬ (0 : Int) < fl) (g1 : (s != 0) = false) (g2 : ((el : Int) != 1) = false) (g3 : c < 1) :
    Calls Try.prog 44 #[.agg #[.int .i64 5, .int .i64 s, .bool false, .slice fa fl fc, .int .i64 c, .slice ea el ec]] w (Gives w (.int .i64 9)) := by
  go_enter Try.func44, Try.ntmps44
  go_wp2_with fail
  go_ret
  exact Gives.mk rfl (by repeat (first | exact Below.refl _ _ | refine below_mo ?_ _ | refine below_al ?_ _))
set_option maxRecDepth 1000000 in
theorem inner_18  (s : Int) (fa : Option Addr) (fl fc : Nat) (c : Int) (ea : Option Addr) (el ec : Nat)  (w : World) (hf : fl ≤ 9223372036854775807) (he : el ≤ 9223372036854775807) (g0 : ¬ (0 : Int) < fl) (g1 : (s != 0) = false) (g2 : ((el : Int) != 1) = false) (g3 : 1 ≤ c) (g4 : 65536 < c) :
    Calls Try.prog 44 #[.agg #[.int .i64 5, .int .i64 s, .bool false, .slice fa fl fc, .int .i64 c, .slice ea el ec]] w (Gives w (.int .i64 9)) := by
  go_enter Try.func44, Try.ntmps44
  go_wp2_with fail
  go_ret
  exact Gives.mk rfl (by repeat (first | exact Below.refl _ _ | refine below_mo ?_ _ | refine below_al ?_ _))
set_option maxRecDepth 1000000 in
theorem inner_19  (s : Int) (fa : Option Addr) (fl fc : Nat) (c : Int) (ea : Option Addr) (el ec : Nat) (eE : Int) (w : World) (hf : fl ≤ 9223372036854775807) (he : el ≤ 9223372036854775807) (g0 : ¬ (0 : Int) < fl) (g1 : (s != 0) = false) (g2 : ((el : Int) != 1) = false) (g3 : 1 ≤ c) (g4 : c ≤ 65536) (g5 : ∃ b off q0 q1 q2 q3 q4 q5 q6 q7 q8 q9, ea = some ⟨b, off, none⟩ ∧ b < w.heap.size ∧ w.cell? ⟨b, off, none⟩ = some (.int .i64 q0) ∧ w.cell? ⟨b, off + 1, none⟩ = some (.int .i64 q1) ∧ w.cell? ⟨b, off + 2, none⟩ = some (.bool q2) ∧ w.cell? ⟨b, off + 3, none⟩ = some (.slice q3 q4 q5) ∧ w.cell? ⟨b, off + 4, none⟩ = some (.int .i64 q6) ∧ w.cell? ⟨b, off + 5, none⟩ = some (.slice q7 q8 q9) ∧ ∀ W, Below w.heap.size w W → Calls Try.prog 44 #[.agg #[.int .i64 q0, .int .i64 q1, .bool q2, .slice q3 q4 q5, .int .i64 q6, .slice q7 q8 q9]] W (Gives W (.int .i64 eE))) :
    Calls Try.prog 44 #[.agg #[.int .i64 5, .int .i64 s, .bool false, .slice fa fl fc, .int .i64 c, .slice ea el ec]] w (Gives w (.int .i64 eE)) := by
  obtain ⟨b, off, q0, q1, q2, q3, q4, q5, q6, q7, q8, q9, rfl, hb, c0, c1, c2, c3, c4, c5, SE⟩ := g5
  have HS := Lib.hid SE
  have hel : 1 ≤ el := by simp at g2; omega
  clear SE
  go_enter Try.func44, Try.ntmps44
  go_wp2_with (go_at_call 44; refine (HS.out _ (by repeat (first | exact Below.refl _ _ | refine below_mo ?_ _ | refine below_al ?_ _))).mono ?_; rintro e w1 ⟨rfl, p1, rfl⟩)
  go_ret
  exact Gives.mk rfl (by repeat (first | exact Below.refl _ _ | refine below_mo ?_ _ | refine below_al ?_ _))
set_option maxRecDepth 1000000 in
theorem inner_20 (p : Bool) (s : Int) (fa : Option Addr) (fl fc : Nat) (c : Int) (ea : Option Addr) (el ec : Nat)  (w : World) (hf : fl ≤ 9223372036854775807) (he : el ≤ 9223372036854775807) (g0 : (s != 0) = true) :
    Calls Try.prog 44 #[.agg #[.int .i64 3, .int .i64 s, .bool p, .slice fa fl fc, .int .i64 c, .slice ea el ec]] w (Gives w (.int .i64 8)) := by
  go_enter Try.func44, Try.ntmps44
  go_wp2_with fail
  go_ret
  exact Gives.mk rfl (by repeat (first | exact Below.refl _ _ | refine below_mo ?_ _ | refine below_al ?_ _))
set_option maxRecDepth 1000000 in
theorem inner_21 (p : Bool) (s : Int) (fa : Option Addr) (fl fc : Nat) (c : Int) (ea : Option Addr) (el ec : Nat)  (w : World) (hf : fl ≤ 9223372036854775807) (he : el ≤ 9223372036854775807) (g0 : (s != 0) = false) (g1 : (c != 0) = true) :
    Calls Try.prog 44 #[.agg #[.int .i64 3, .int .i64 s, .bool p, .slice fa fl fc, .int .i64 c, .slice ea el ec]] w (Gives w (.int .i64 8)) := by
  go_enter Try.func44, Try.ntmps44
  go_wp2_with fail
  go_ret
  exact Gives.mk rfl (by repeat (first | exact Below.refl _ _ | refine below_mo ?_ _ | refine below_al ?_ _))
set_option maxRecDepth 1000000 in
theorem inner_22 (p : Bool) (s : Int) (fa : Option Addr) (fl fc : Nat) (c : Int) (ea : Option Addr) (el ec : Nat)  (w : World) (hf : fl ≤ 9223372036854775807) (he : el ≤ 9223372036854775807) (g0 : (s != 0) = false) (g1 : (c != 0) = false) (g2 : (0 : Int) < el) :
    Calls Try.prog 44 #[.agg #[.int .i64 3, .int .i64 s, .bool p, .slice fa fl fc, .int .i64 c, .slice ea el ec]] w (Gives w (.int .i64 8)) := by
  go_enter Try.func44, Try.ntmps44
  go_wp2_with fail
  go_ret
  exact Gives.mk rfl (by repeat (first | exact Below.refl _ _ | refine below_mo ?_ _ | refine below_al ?_ _))
set_option maxRecDepth 1000000 in
theorem inner_23 (p : Bool) (s : Int) (fa : Option Addr) (fl fc : Nat) (c : Int) (ea : Option Addr) (el ec : Nat)  (w : World) (hf : fl ≤ 9223372036854775807) (he : el ≤ 9223372036854775807) (g0 : (s != 0) = false) (g1 : (c != 0) = false) (g2 : ¬ (0 : Int) < el) (g3 : ((fl : Int) == 0) = true) :
    Calls Try.prog 44 #[.agg #[.int .i64 3, .int .i64 s, .bool p, .slice fa fl fc, .int .i64 c, .slice ea el ec]] w (Gives w (.int .i64 12)) := by
  go_enter Try.func44, Try.ntmps44
  go_wp2_with fail
  go_ret
  exact Gives.mk rfl (by repeat (first | exact Below.refl _ _ | refine below_mo ?_ _ | refine below_al ?_ _))
set_option maxRecDepth 1000000 in
theorem inner_24 (p : Bool) (s : Int) (fa : Option Addr) (fl fc : Nat) (c : Int) (ea : Option Addr) (el ec : Nat)  (w : World) (hf : fl ≤ 9223372036854775807) (he : el ≤ 9223372036854775807) (g0 : (s != 0) = false) (g1 : (c != 0) = false) (g2 : ¬ (0 : Int) < el) (g3 : ((fl : Int) == 0) = false) (g4 : (32 : Int) < fl) :
    Calls Try.prog 44 #[.agg #[.int .i64 3, .int .i64 s, .bool p, .slice fa fl fc, .int .i64 c, .slice ea el ec]] w (Gives w (.int .i64 12)) := by
  go_enter Try.func44, Try.ntmps44
  go_wp2_with fail
  go_ret
  exact Gives.mk rfl (by repeat (first | exact Below.refl _ _ | refine below_mo ?_ _ | refine below_al ?_ _))
set_option maxRecDepth 1000000 in
theorem inner_25 (p : Bool) (s : Int) (fa : Option Addr) (fl fc : Nat) (c : Int) (ea : Option Addr) (el ec : Nat)  (w : World) (hf : fl ≤ 9223372036854775807) (he : el ≤ 9223372036854775807) (g0 : (s != 0) = true) :
    Calls Try.prog 44 #[.agg #[.int .i64 4, .int .i64 s, .bool p, .slice fa fl fc, .int .i64 c, .slice ea el ec]] w (Gives w (.int .i64 8)) := by
  go_enter Try.func44, Try.ntmps44
  go_wp2_with fail
  go_ret
  exact Gives.mk rfl (by repeat (first | exact Below.refl _ _ | refine below_mo ?_ _ | refine below_al ?_ _))
set_option maxRecDepth 1000000 in
theorem inner_26 (p : Bool) (s : Int) (fa : Option Addr) (fl fc : Nat) (c : Int) (ea : Option Addr) (el ec : Nat)  (w : World) (hf : fl ≤ 9223372036854775807) (he : el ≤ 9223372036854775807) (g0 : (s != 0) = false) (g1 : (c != 0) = true) :
    Calls Try.prog 44 #[.agg #[.int .i64 4, .int .i64 s, .bool p, .slice fa fl fc, .int .i64 c, .slice ea el ec]] w (Gives w (.int .i64 8)) := by
  go_enter Try.func44, Try.ntmps44
  go_wp2_with fail
  go_ret
  exact Gives.mk rfl (by repeat (first | exact Below.refl _ _ | refine below_mo ?_ _ | refine below_al ?_ _))
set_option maxRecDepth 1000000 in
theorem inner_27 (p : Bool) (s : Int) (fa : Option Addr) (fl fc : Nat) (c : Int) (ea : Option Addr) (el ec : Nat)  (w : World) (hf : fl ≤ 9223372036854775807) (he : el ≤ 9223372036854775807) (g0 : (s != 0) = false) (g1 : (c != 0) = false) (g2 : (0 : Int) < el) :
    Calls Try.prog 44 #[.agg #[.int .i64 4, .int .i64 s, .bool p, .slice fa fl fc, .int .i64 c, .slice ea el ec]] w (Gives w (.int .i64 8)) := by
  go_enter Try.func44, Try.ntmps44
  go_wp2_with fail
  go_ret
  exact Gives.mk rfl (by repeat (first | exact Below.refl _ _ | refine below_mo ?_ _ | refine below_al ?_ _))
set_option maxRecDepth 1000000 in
theorem inner_28 (p : Bool) (s : Int) (fa : Option Addr) (fl fc : Nat) (c : Int) (ea : Option Addr) (el ec : Nat)  (w : World) (hf : fl ≤ 9223372036854775807) (he : el ≤ 9223372036854775807) (g0 : (s != 0) = false) (g1 : (c != 0) = false) (g2 : ¬ (0 : Int) < el) (g3 : ((fl : Int) == 0) = true) :
    Calls Try.prog 44 #[.agg #[.int .i64 4, .int .i64 s, .bool p, .slice fa fl fc, .int .i64 c, .slice ea el ec]] w (Gives w (.int .i64 12)) := by
  go_enter Try.func44, Try.ntmps44
  go_wp2_with fail
  go_ret
  exact Gives.mk rfl (by repeat (first | exact Below.refl _ _ | refine below_mo ?_ _ | refine below_al ?_ _))
set_option maxRecDepth 1000000 in
theorem inner_29 (p : Bool) (s : Int) (fa : Option Addr) (fl fc : Nat) (c : Int) (ea : Option Addr) (el ec : Nat)  (w : World) (hf : fl ≤ 9223372036854775807) (he : el ≤ 9223372036854775807) (g0 : (s != 0) = false) (g1 : (c != 0) = false) (g2 : ¬ (0 : Int) < el) (g3 : ((fl : Int) == 0) = false) (g4 : (32 : Int) < fl) :
    Calls Try.prog 44 #[.agg #[.int .i64 4, .int .i64 s, .bool p, .slice fa fl fc, .int .i64 c, .slice ea el ec]] w (Gives w (.int .i64 12)) := by
  go_enter Try.func44, Try.ntmps44
  go_wp2_with fail
  go_ret
  exact Gives.mk rfl (by repeat (first | exact Below.refl _ _ | refine below_mo ?_ _ | refine below_al ?_ _))
set_option maxRecDepth 1000000 in
theorem inner_30 (k : Int) (p : Bool) (s : Int) (fa : Option Addr) (fl fc : Nat) (c : Int) (ea : Option Addr) (el ec : Nat)  (w : World) (hf : fl ≤ 9223372036854775807) (he : el ≤ 9223372036854775807) (g0 : (k == 1) = false) (g1 : (k == 2) = false) (g2 : (k == 5) = false) (g3 : (k == 3) = false) (g4 : (k == 4) = false) :
    Calls Try.prog 44 #[.agg #[.int .i64 k, .int .i64 s, .bool p, .slice fa fl fc, .int .i64 c, .slice ea el ec]] w (Gives w (.int .i64 8)) := by
  go_enter Try.func44, Try.ntmps44
  go_wp2_with fail
  go_ret
  exact Gives.mk rfl (by repeat (first | exact Below.refl _ _ | refine below_mo ?_ _ | refine below_al ?_ _))
theorem inner_one (k s : Int) (p : Bool) (fa : Option Addr) (fl fc : Nat) (c : Int) (ea : Option Addr) (el ec : Nat) (gE eE : Int) (w : World) (hf : fl ≤ 9223372036854775807) (he : el ≤ 9223372036854775807)
    (G : k = 3 ∨ k = 4 → (s != 0) = false → (c != 0) = false → ¬ (0 : Int) < el → 1 ≤ fl → fl ≤ 32 → Calls Try.prog 44 #[.agg #[.int .i64 k, .int .i64 s, .bool p, .slice fa fl fc, .int .i64 c, .slice ea el ec]] w (Gives w (.int .i64 gE)))
    (E : el = 1 → ∃ b off q0 q1 q2 q3 q4 q5 q6 q7 q8 q9, ea = some ⟨b, off, none⟩ ∧ b < w.heap.size ∧ w.cell? ⟨b, off, none⟩ = some (.int .i64 q0) ∧ w.cell? ⟨b, off + 1, none⟩ = some (.int .i64 q1) ∧ w.cell? ⟨b, off + 2, none⟩ = some (.bool q2) ∧ w.cell? ⟨b, off + 3, none⟩ = some (.slice q3 q4 q5) ∧ w.cell? ⟨b, off + 4, none⟩ = some (.int .i64 q6) ∧ w.cell? ⟨b, off + 5, none⟩ = some (.slice q7 q8 q9) ∧ ∀ W, Below w.heap.size w W → Calls Try.prog 44 #[.agg #[.int .i64 q0, .int .i64 q1, .bool q2, .slice q3 q4 q5, .int .i64 q6, .slice q7 q8 q9]] W (Gives W (.int .i64 eE))) :
    Calls Try.prog 44 #[.agg #[.int .i64 k, .int .i64 s, .bool p, .slice fa fl fc, .int .i64 c, .slice ea el ec]] w (Gives w (.int .i64 (
      if onlyB k s p fl c el = false then 8 else if k = 1 then (if powN s 8 = true then 0 else 9) else if k = 2 then (if powN s 16 = true then 0 else 9) else if k = 5 then (if c < 1 ∨ 65536 < c then 9 else eE) else (if fl < 1 ∨ 32 < fl then 12 else gE)))) := by
  by_cases k1 : k = 1
  · subst k1
    cases p
    · by_cases f0 : (0 : Int) < fl
      · exact gives_eq (by rw [if_pos (by simp [onlyB]; omega)]) (inner_2  s fa fl fc c ea el ec  w hf he f0)
      cases h1 : (c != 0)
      · by_cases l0 : (0 : Int) < el
        · exact gives_eq (by rw [if_pos (by simp [onlyB]; omega)]) (inner_4  s fa fl fc c ea el ec  w hf he f0 h1 l0)
        have c0 : c = 0 := by simpa using h1
        have f1 : fl = 0 := by omega
        have l1 : el = 0 := by omega
        cases hp : powN s 8
        · exact gives_eq (by simp [onlyB, c0, f1, l1, hp]) (inner_6  s fa fl fc c ea el ec  w hf he f0 h1 l0 hp)
        · exact gives_eq (by simp [onlyB, c0, f1, l1, hp]) (inner_5  s fa fl fc c ea el ec  w hf he f0 h1 l0 hp)
      · have c0 : ¬ c = 0 := by simpa using h1
        exact gives_eq (by rw [if_pos (by simp [onlyB]; omega)]) (inner_3  s fa fl fc c ea el ec  w hf he f0 h1)
    · exact gives_eq (by rw [if_pos (by simp [onlyB])]) (inner_1  s fa fl fc c ea el ec  w hf he )
  by_cases k2 : k = 2
  · subst k2
    cases p
    · by_cases f0 : (0 : Int) < fl
      · exact gives_eq (by rw [if_pos (by simp [onlyB]; omega)]) (inner_8  s fa fl fc c ea el ec  w hf he f0)
      cases h1 : (c != 0)
      · by_cases l0 : (0 : Int) < el
        · exact gives_eq (by rw [if_pos (by simp [onlyB]; omega)]) (inner_10  s fa fl fc c ea el ec  w hf he f0 h1 l0)
        have c0 : c = 0 := by simpa using h1
        have f1 : fl = 0 := by omega
        have l1 : el = 0 := by omega
        cases hp : powN s 16
        · exact gives_eq (by simp [onlyB, c0, f1, l1, hp]) (inner_12  s fa fl fc c ea el ec  w hf he f0 h1 l0 hp)
        · exact gives_eq (by simp [onlyB, c0, f1, l1, hp]) (inner_11  s fa fl fc c ea el ec  w hf he f0 h1 l0 hp)
      · have c0 : ¬ c = 0 := by simpa using h1
        exact gives_eq (by rw [if_pos (by simp [onlyB]; omega)]) (inner_9  s fa fl fc c ea el ec  w hf he f0 h1)
    · exact gives_eq (by rw [if_pos (by simp [onlyB])]) (inner_7  s fa fl fc c ea el ec  w hf he )
  by_cases k5 : k = 5
  · subst k5
    cases p
    · by_cases f0 : (0 : Int) < fl
      · exact gives_eq (by rw [if_pos (by simp [onlyB]; omega)]) (inner_14  s fa fl fc c ea el ec  w hf he f0)
      have f1 : fl = 0 := by omega
      cases h1 : (s != 0)
      · have s0 : s = 0 := by simpa using h1
        cases h2 : ((el : Int) != 1)
        · have l1 : el = 1 := by simp at h2; omega
          rcases Int.lt_or_le c 1 with g1 | g1
          · exact gives_eq (by simp [onlyB, s0, f1, l1, g1]) (inner_17  s fa fl fc c ea el ec  w hf he f0 h1 h2 g1)
          rcases Int.lt_or_le 65536 c with g2 | g2
          · exact gives_eq (by simp [onlyB, s0, f1, l1, g2]) (inner_18  s fa fl fc c ea el ec  w hf he f0 h1 h2 g1 g2)
          · exact gives_eq (by rw [if_neg (by simp [onlyB, s0, f1, l1]), if_neg (by omega), if_neg (by omega), if_pos rfl, if_neg (by omega)]) (inner_19  s fa fl fc c ea el ec eE w hf he f0 h1 h2 g1 g2 (E l1))
        · have l1 : ¬ el = 1 := by simp at h2; omega
          exact gives_eq (by rw [if_pos (by simp [onlyB]; omega)]) (inner_16  s fa fl fc c ea el ec  w hf he f0 h1 h2)
      · have s0 : ¬ s = 0 := by simpa using h1
        exact gives_eq (by rw [if_pos (by simp [onlyB]; omega)]) (inner_15  s fa fl fc c ea el ec  w hf he f0 h1)
    · exact gives_eq (by rw [if_pos (by simp [onlyB])]) (inner_13  s fa fl fc c ea el ec  w hf he )
  by_cases k3 : k = 3
  · subst k3
    cases h1 : (s != 0)
    · have s0 : s = 0 := by simpa using h1
      cases h2 : (c != 0)
      · have c0 : c = 0 := by simpa using h2
        by_cases l0 : (0 : Int) < el
        · exact gives_eq (by rw [if_pos (by simp [onlyB]; omega)]) (inner_22 p s fa fl fc c ea el ec  w hf he h1 h2 l0)
        have l1 : el = 0 := by omega
        cases h3 : ((fl : Int) == 0)
        · have f1 : ¬ (fl : Int) = 0 := by simpa using h3
          by_cases f2 : (32 : Int) < fl
          · exact gives_eq (by rw [if_neg (by simp [onlyB, s0, c0, l1]), if_neg (by omega), if_neg (by omega), if_neg (by omega), if_pos (by omega)]) (inner_24 p s fa fl fc c ea el ec  w hf he h1 h2 l0 h3 f2)
          · exact gives_eq (by rw [if_neg (by simp [onlyB, s0, c0, l1]), if_neg (by omega), if_neg (by omega), if_neg (by omega), if_neg (by omega)]) (G (.inl rfl) h1 h2 l0 (by omega) (by omega))
        · have f1 : (fl : Int) = 0 := by simpa using h3
          exact gives_eq (by rw [if_neg (by simp [onlyB, s0, c0, l1]), if_neg (by omega), if_neg (by omega), if_neg (by omega), if_pos (by omega)]) (inner_23 p s fa fl fc c ea el ec  w hf he h1 h2 l0 h3)
      · have c0 : ¬ c = 0 := by simpa using h2
        exact gives_eq (by rw [if_pos (by simp [onlyB]; omega)]) (inner_21 p s fa fl fc c ea el ec  w hf he h1 h2)
    · have s0 : ¬ s = 0 := by simpa using h1
      exact gives_eq (by rw [if_pos (by simp [onlyB]; omega)]) (inner_20 p s fa fl fc c ea el ec  w hf he h1)
  by_cases k4 : k = 4
  · subst k4
    cases h1 : (s != 0)
    · have s0 : s = 0 := by simpa using h1
      cases h2 : (c != 0)
      · have c0 : c = 0 := by simpa using h2
        by_cases l0 : (0 : Int) < el
        · exact gives_eq (by rw [if_pos (by simp [onlyB]; omega)]) (inner_27 p s fa fl fc c ea el ec  w hf he h1 h2 l0)
        have l1 : el = 0 := by omega
        cases h3 : ((fl : Int) == 0)
        · have f1 : ¬ (fl : Int) = 0 := by simpa using h3
          by_cases f2 : (32 : Int) < fl
          · exact gives_eq (by rw [if_neg (by simp [onlyB, s0, c0, l1]), if_neg (by omega), if_neg (by omega), if_neg (by omega), if_pos (by omega)]) (inner_29 p s fa fl fc c ea el ec  w hf he h1 h2 l0 h3 f2)
          · exact gives_eq (by rw [if_neg (by simp [onlyB, s0, c0, l1]), if_neg (by omega), if_neg (by omega), if_neg (by omega), if_neg (by omega)]) (G (.inr rfl) h1 h2 l0 (by omega) (by omega))
        · have f1 : (fl : Int) = 0 := by simpa using h3
          exact gives_eq (by rw [if_neg (by simp [onlyB, s0, c0, l1]), if_neg (by omega), if_neg (by omega), if_neg (by omega), if_pos (by omega)]) (inner_28 p s fa fl fc c ea el ec  w hf he h1 h2 l0 h3)
      · have c0 : ¬ c = 0 := by simpa using h2
        exact gives_eq (by rw [if_pos (by simp [onlyB]; omega)]) (inner_26 p s fa fl fc c ea el ec  w hf he h1 h2)
    · have s0 : ¬ s = 0 := by simpa using h1
      exact gives_eq (by rw [if_pos (by simp [onlyB]; omega)]) (inner_25 p s fa fl fc c ea el ec  w hf he h1)
  · exact gives_eq (by rw [if_pos (by simp [onlyB]; omega)]) (inner_30 k p s fa fl fc c ea el ec  w hf he (by simpa using k1) (by simpa using k2) (by simpa using k5) (by simpa using k3) (by simpa using k4))
end Go.Proofs.Ytlbkloamabomcaa
