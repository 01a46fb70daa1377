/- Whether two types are one: the program's walk, its calls given. Conditions: the types lie in memory. -/
import Derived.Test.YtjioinmiglblmaaKindSpec
import Derived.Test.YtjioinmiglblmaaKindDepth
namespace Go.Proofs.Ytjioinmiglblmaa
open Go.RowKit Go.Sort
set_option linter.unusedVariables false
set_option linter.unusedSimpArgs false
def allK (g : Nat → Bool) : Nat → Bool
  | 0 => true
  | k + 1 => allK g k && g k
theorem allK_hit (g : Nat → Bool) (k : Nat) (h : g k = false) : ∀ m, k < m → allK g m = false
  | 0, hm => by omega
  | m + 1, hm => by
    unfold allK
    by_cases e : k = m
    · subst e; rw [h, Bool.and_false]
    · rw [allK_hit g k h m (by omega), Bool.false_and]
theorem allK_all (g : Nat → Bool) : ∀ m, (∀ j, j < m → g j = true) → allK g m = true
  | 0, _ => rfl
  | m + 1, h => by
    unfold allK
    rw [allK_all g m (fun j hj => h j (by omega)), h m (by omega)]; rfl
theorem allK_eq (g : Nat → Bool) : ∀ m, allK g m = true → ∀ j, j < m → g j = true
  | 0, _, j, hj => by omega
  | m + 1, h, j, hj => by
    unfold allK at h
    rw [Bool.and_eq_true] at h
    by_cases e : j = m
    · subst e; exact h.2
    · exact allK_eq g m h.1 j (by omega)
/-- two slices of types, and what their elements give. -/
def TwoTy (F : Nat) (w : World) (ea ea2 : Option Addr) (i : Nat) (gi : Bool) : Prop :=
  ∃ (b off b2 off2 : Nat) (q q2 : Raw), ea = some ⟨b, off, none⟩ ∧ ea2 = some ⟨b2, off2, none⟩ ∧ b < w.heap.size ∧ b2 < w.heap.size ∧
    w.cell? ⟨b, off + i * 6, none⟩ = some (.int .i64 q.kind) ∧ w.cell? ⟨b, off + i * 6 + 1, none⟩ = some (.int .i64 q.size) ∧ w.cell? ⟨b, off + i * 6 + 2, none⟩ = some (.bool q.packed) ∧
    w.cell? ⟨b, off + i * 6 + 3, none⟩ = some (.slice q.fa q.fl q.fc) ∧ w.cell? ⟨b, off + i * 6 + 4, none⟩ = some (.int .i64 q.count) ∧ w.cell? ⟨b, off + i * 6 + 5, none⟩ = some (.slice q.ea q.el q.ec) ∧
    w.cell? ⟨b2, off2 + i * 6, none⟩ = some (.int .i64 q2.kind) ∧ w.cell? ⟨b2, off2 + i * 6 + 1, none⟩ = some (.int .i64 q2.size) ∧ w.cell? ⟨b2, off2 + i * 6 + 2, none⟩ = some (.bool q2.packed) ∧
    w.cell? ⟨b2, off2 + i * 6 + 3, none⟩ = some (.slice q2.fa q2.fl q2.fc) ∧ w.cell? ⟨b2, off2 + i * 6 + 4, none⟩ = some (.int .i64 q2.count) ∧ w.cell? ⟨b2, off2 + i * 6 + 5, none⟩ = some (.slice q2.ea q2.el q2.ec) ∧
    ∀ W, Below w.heap.size w W → Calls Try.prog F #[.agg #[.int .i64 q.kind, .int .i64 q.size, .bool q.packed, .slice q.fa q.fl q.fc, .int .i64 q.count, .slice q.ea q.el q.ec], .agg #[.int .i64 q2.kind, .int .i64 q2.size, .bool q2.packed, .slice q2.fa q2.fl q2.fc, .int .i64 q2.count, .slice q2.ea q2.el q2.ec]] W (Gives W (.bool gi))
set_option maxHeartbeats 1000000 in
theorem eqtypes_any (ea ea2 : Option Addr) (el ec el2 ec2 : Nat) (g : Nat → Bool) (w : World) (h1 : el ≤ ec) (h2 : ec ≤ 9223372036854775807) (h3 : el2 ≤ ec2) (h4 : ec2 ≤ 9223372036854775807)
    (H : el = el2 → ∀ i, i < el → TwoTy 26 w ea ea2 i (g i)) :
    Calls Try.prog 36 #[.slice ea el ec, .slice ea2 el2 ec2, .func (Fn.func 26) #[] #[]] w (Gives w (.bool (el == el2 && allK g el))) := by
  have HH := Lib.hid (allK_hit g)
  have HA := Lib.hid (allK_all g)
  by_cases hn : el = el2
  · subst hn
    have HT := Lib.hid (H rfl)
    clear H
    have HR : Hid ((el == el && allK g el) = allK g el) := Lib.hid (by simp)
    generalize (el == el && allK g el) = R at *
    go_enter Try.func36, Try.ntmps36
    go_wp2_with fail
    go_loopw [7, 8, 9, 17] (fun _ _ _ i wr => ∃ k : Nat, k ≤ el ∧ i = .int .i64 k ∧ (∀ j, j < k → g j = true) ∧ ∃ p : Regrown, wr = more w p) (fun _ _ _ i _ => el - (intOf i).toNat)
    case atStart => exact ⟨0, by omega, rfl, fun j hj => by omega, more_of_below (Below.refl _ _)⟩
    case round =>
      obtain ⟨k, hk, rfl, hall, p, rfl⟩ := hrel
      have HL := Lib.hid hall
      clear hall
      by_cases hlt : (k : Int) < el
      · obtain ⟨b, off, b2, off2, q, q2, rfl, rfl, hb, hb2, c0, c1, c2, c3, c4, c5, d0, d1, d2, d3, d4, d5, hS⟩ := HT.out k (by omega)
        cases hg : g k
        · rw [hg] at hS
          have HS := Lib.hid hS
          have HR2 : Hid (R = false) := Lib.hid (HR.out.trans (HH.out k hg el (by omega)))
          clear hg hS
          go_wp2_with (go_at_call 26; refine (HS.out _ (by repeat (first | exact Below.refl _ _ | refine below_mo ?_ _ | refine below_al ?_ _))).mono ?_; rintro e w1 ⟨rfl, p1, rfl⟩)
          go_ret
          exact Gives.mk (ret_bool (by rw [HR2.out])) (by repeat (first | exact Below.refl _ _ | refine below_mo ?_ _ | refine below_al ?_ _))
        · rw [hg] at hS
          have HS := Lib.hid hS
          have HL2 : Hid (∀ j, j < k + 1 → g j = true) := Lib.hid (fun j hj => by
            rcases Nat.lt_or_ge j k with h | h
            · exact HL.out j h
            · obtain rfl : j = k := by omega
              exact hg)
          clear hg hS
          go_wp2_with (go_at_call 26; refine (HS.out _ (by repeat (first | exact Below.refl _ _ | refine below_mo ?_ _ | refine below_al ?_ _))).mono ?_; rintro e w1 ⟨rfl, p1, rfl⟩)
          go_roundw
          case rel => exact ⟨k + 1, by omega, by go_num, HL2.out, more_of_below (by repeat (first | exact Below.refl _ _ | refine below_mo ?_ _ | refine below_al ?_ _))⟩
          case measure => simp [intOf]; omega
      · obtain rfl : k = el := by omega
        have HR2 : Hid (R = true) := Lib.hid (HR.out.trans (HA.out k HL.out))
        go_wp2_with fail
        go_ret
        exact Gives.mk (ret_bool (by rw [HR2.out])) (by repeat (first | exact Below.refl _ _ | refine below_mo ?_ _ | refine below_al ?_ _))
  · have hne : ((el : Int) != el2) = true := by simp; omega
    have HR : Hid ((el == el2 && allK g el) = false) := Lib.hid (by simp [hn])
    generalize (el == el2 && allK g el) = R at *
    clear H
    go_enter Try.func36, Try.ntmps36
    go_wp2_with fail
    go_ret
    exact Gives.mk (ret_bool (by rw [HR.out])) (by repeat (first | exact Below.refl _ _ | refine below_mo ?_ _ | refine below_al ?_ _))
end Go.Proofs.Ytjioinmiglblmaa
