/- Whether two fields are one; whether two lists of fields are: the program's walk, its calls given. Conditions: the fields lie in memory. -/
import Derived.Test.YtjioinmiglblmaaKindSame
namespace Go.Proofs.Ytjioinmiglblmaa
open Go.RowKit Go.Sort
set_option linter.unusedVariables false
set_option linter.unusedSimpArgs false
def sameFd (s s2 : ByteArray) (bt bt2 : Bool) (wd wd2 : Int) (x : Bool) : Bool := (s.toList == s2.toList) && (bt == bt2) && (wd == wd2) && x
theorem fsame_any (s s2 : ByteArray) (q q2 : Raw) (bt bt2 : Bool) (wd wd2 : Int) (x : Bool) (w : World)
    (S : ∀ W, Below w.heap.size w W → Calls Try.prog 26 #[.agg #[.int .i64 q.kind, .int .i64 q.size, .bool q.packed, .slice q.fa q.fl q.fc, .int .i64 q.count, .slice q.ea q.el q.ec], .agg #[.int .i64 q2.kind, .int .i64 q2.size, .bool q2.packed, .slice q2.fa q2.fl q2.fc, .int .i64 q2.count, .slice q2.ea q2.el q2.ec]] W (Gives W (.bool x))) :
    Calls Try.prog 38 #[.agg #[.string s, .int .i64 q.kind, .int .i64 q.size, .bool q.packed, .slice q.fa q.fl q.fc, .int .i64 q.count, .slice q.ea q.el q.ec, .bool bt, .int .i64 wd], .agg #[.string s2, .int .i64 q2.kind, .int .i64 q2.size, .bool q2.packed, .slice q2.fa q2.fl q2.fc, .int .i64 q2.count, .slice q2.ea q2.el q2.ec, .bool bt2, .int .i64 wd2]] w (Gives w (.bool (sameFd s s2 bt bt2 wd wd2 x))) := by
  have HS := Lib.hid S
  clear S
  obtain ⟨k1, z1, p1, a1, l1, m1, n1, e1, f1, g1⟩ := q
  obtain ⟨k2, z2, p2, a2, l2, m2, n2, e2, f2, g2⟩ := q2
  simp only at HS ⊢
  unfold sameFd
  cases h0 : (s.toList == s2.toList)
  · simp only [Bool.false_and]
    go_enter Try.func38, Try.ntmps38
    go_wp2_with fail
    go_ret
    exact Gives.mk rfl (by repeat (first | exact Below.refl _ _ | refine below_mo ?_ _ | refine below_al ?_ _))
  simp only [Bool.true_and]
  cases bt <;> cases bt2
  · simp only [beq_self_eq_true, Bool.true_and]
    cases h1 : (wd == wd2)
    · simp only [Bool.false_and]
      go_enter Try.func38, Try.ntmps38
      go_wp2_with fail
      go_ret
      exact Gives.mk rfl (by repeat (first | exact Below.refl _ _ | refine below_mo ?_ _ | refine below_al ?_ _))
    · simp only [Bool.true_and]
      go_enter Try.func38, Try.ntmps38
      go_wp2_with (go_at_call 26; refine (HS.out _ (by repeat (first | exact Below.refl _ _ | refine below_mo ?_ _ | refine below_al ?_ _))).mono ?_; rintro e w1 ⟨rfl, p1, rfl⟩)
      go_ret
      exact Gives.mk rfl (by repeat (first | exact Below.refl _ _ | refine below_mo ?_ _ | refine below_al ?_ _))
  · rw [show (false == true) = false from rfl]
    simp only [Bool.false_and]
    go_enter Try.func38, Try.ntmps38
    go_wp2_with fail
    go_ret
    exact Gives.mk rfl (by repeat (first | exact Below.refl _ _ | refine below_mo ?_ _ | refine below_al ?_ _))
  · rw [show (true == false) = false from rfl]
    simp only [Bool.false_and]
    go_enter Try.func38, Try.ntmps38
    go_wp2_with fail
    go_ret
    exact Gives.mk rfl (by repeat (first | exact Below.refl _ _ | refine below_mo ?_ _ | refine below_al ?_ _))
  · simp only [beq_self_eq_true, Bool.true_and]
    cases h1 : (wd == wd2)
    · simp only [Bool.false_and]
      go_enter Try.func38, Try.ntmps38
      go_wp2_with fail
      go_ret
      exact Gives.mk rfl (by repeat (first | exact Below.refl _ _ | refine below_mo ?_ _ | refine below_al ?_ _))
    · simp only [Bool.true_and]
      go_enter Try.func38, Try.ntmps38
      go_wp2_with (go_at_call 26; refine (HS.out _ (by repeat (first | exact Below.refl _ _ | refine below_mo ?_ _ | refine below_al ?_ _))).mono ?_; rintro e w1 ⟨rfl, p1, rfl⟩)
      go_ret
      exact Gives.mk rfl (by repeat (first | exact Below.refl _ _ | refine below_mo ?_ _ | refine below_al ?_ _))
/-- two slices of fields, and what their elements give. -/
def TwoFd (F : Nat) (w : World) (ea ea2 : Option Addr) (i : Nat) (gi : Bool) : Prop :=
  ∃ (b off b2 off2 : Nat) (s s2 : ByteArray) (bt bt2 : Bool) (wd wd2 : Int) (q q2 : Raw) (x : Bool), ea = some ⟨b, off, none⟩ ∧ ea2 = some ⟨b2, off2, none⟩ ∧ b < w.heap.size ∧ b2 < w.heap.size ∧
    w.cell? ⟨b, off + i * 9, none⟩ = some (.string s) ∧ w.cell? ⟨b, off + i * 9 + 1, none⟩ = some (.int .i64 q.kind) ∧ w.cell? ⟨b, off + i * 9 + 2, none⟩ = some (.int .i64 q.size) ∧ w.cell? ⟨b, off + i * 9 + 3, none⟩ = some (.bool q.packed) ∧ w.cell? ⟨b, off + i * 9 + 4, none⟩ = some (.slice q.fa q.fl q.fc) ∧ w.cell? ⟨b, off + i * 9 + 5, none⟩ = some (.int .i64 q.count) ∧ w.cell? ⟨b, off + i * 9 + 6, none⟩ = some (.slice q.ea q.el q.ec) ∧ w.cell? ⟨b, off + i * 9 + 7, none⟩ = some (.bool bt) ∧ w.cell? ⟨b, off + i * 9 + 8, none⟩ = some (.int .i64 wd) ∧
    w.cell? ⟨b2, off2 + i * 9, none⟩ = some (.string s2) ∧ w.cell? ⟨b2, off2 + i * 9 + 1, none⟩ = some (.int .i64 q2.kind) ∧ w.cell? ⟨b2, off2 + i * 9 + 2, none⟩ = some (.int .i64 q2.size) ∧ w.cell? ⟨b2, off2 + i * 9 + 3, none⟩ = some (.bool q2.packed) ∧ w.cell? ⟨b2, off2 + i * 9 + 4, none⟩ = some (.slice q2.fa q2.fl q2.fc) ∧ w.cell? ⟨b2, off2 + i * 9 + 5, none⟩ = some (.int .i64 q2.count) ∧ w.cell? ⟨b2, off2 + i * 9 + 6, none⟩ = some (.slice q2.ea q2.el q2.ec) ∧ w.cell? ⟨b2, off2 + i * 9 + 7, none⟩ = some (.bool bt2) ∧ w.cell? ⟨b2, off2 + i * 9 + 8, none⟩ = some (.int .i64 wd2) ∧
    (∀ W, Below w.heap.size w W → Calls Try.prog F #[.agg #[.int .i64 q.kind, .int .i64 q.size, .bool q.packed, .slice q.fa q.fl q.fc, .int .i64 q.count, .slice q.ea q.el q.ec], .agg #[.int .i64 q2.kind, .int .i64 q2.size, .bool q2.packed, .slice q2.fa q2.fl q2.fc, .int .i64 q2.count, .slice q2.ea q2.el q2.ec]] W (Gives W (.bool x))) ∧ gi = sameFd s s2 bt bt2 wd wd2 x
set_option maxHeartbeats 1000000 in
theorem eqfields_any (ea ea2 : Option Addr) (el ec el2 ec2 : Nat) (g : Nat → Bool) (w : World) (h1 : el ≤ ec) (h2 : ec ≤ 9223372036854775807) (h3 : el2 ≤ ec2) (h4 : ec2 ≤ 9223372036854775807)
    (H : el = el2 → ∀ i, i < el → TwoFd 26 w ea ea2 i (g i)) :
    Calls Try.prog 37 #[.slice ea el ec, .slice ea2 el2 ec2, .func (Fn.func 38) #[] #[]] w (Gives w (.bool (el == el2 && allK g el))) := by
  have HH := Lib.hid (allK_hit g)
  have HA := Lib.hid (allK_all g)
  by_cases hn : el = el2
  · subst hn
    have HT := Lib.hid (H rfl)
    clear H
    have HR : Hid ((el == el && allK g el) = allK g el) := Lib.hid (by simp)
    generalize (el == el && allK g el) = R at *
    go_enter Try.func37, Try.ntmps37
    go_wp2_with fail
    go_loopw [7, 8, 9, 17] (fun _ _ _ i wr => ∃ k : Nat, k ≤ el ∧ i = .int .i64 k ∧ (∀ j, j < k → g j = true) ∧ ∃ p : Regrown, wr = more w p) (fun _ _ _ i _ => el - (intOf i).toNat)
    case atStart => exact ⟨0, by omega, rfl, fun j hj => by omega, more_of_below (Below.refl _ _)⟩
    case round =>
      obtain ⟨k, hk, rfl, hall, p, rfl⟩ := hrel
      have HL := Lib.hid hall
      clear hall
      by_cases hlt : (k : Int) < el
      · obtain ⟨b, off, b2, off2, s, s2, bt, bt2, wd, wd2, q, q2, x, rfl, rfl, hb, hb2, c0, c1, c2, c3, c4, c5, c6, c7, c8, d0, d1, d2, d3, d4, d5, d6, d7, d8, hS0, hx⟩ := HT.out k (by omega)
        have hS := fun W (hW : Below w.heap.size w W) => fsame_any s s2 q q2 bt bt2 wd wd2 x W (fun W' hW' => hS0 W' (below_next hW hW'))
        clear hS0
        rw [← hx] at hS
        clear hx
        cases hg : g k
        · rw [hg] at hS
          have HS := Lib.hid hS
          have HR2 : Hid (R = false) := Lib.hid (HR.out.trans (HH.out k hg el (by omega)))
          clear hg hS
          go_wp2_with (go_at_call 38; refine (HS.out _ (by repeat (first | exact Below.refl _ _ | refine below_mo ?_ _ | refine below_al ?_ _))).mono ?_; rintro e w1 ⟨rfl, p1, rfl⟩)
          go_ret
          exact Gives.mk (ret_bool (by rw [HR2.out])) (by repeat (first | exact Below.refl _ _ | refine below_mo ?_ _ | refine below_al ?_ _))
        · rw [hg] at hS
          have HS := Lib.hid hS
          have HL2 : Hid (∀ j, j < k + 1 → g j = true) := Lib.hid (fun j hj => by
            rcases Nat.lt_or_ge j k with h | h
            · exact HL.out j h
            · obtain rfl : j = k := by omega
              exact hg)
          clear hg hS
          go_wp2_with (go_at_call 38; refine (HS.out _ (by repeat (first | exact Below.refl _ _ | refine below_mo ?_ _ | refine below_al ?_ _))).mono ?_; rintro e w1 ⟨rfl, p1, rfl⟩)
          go_roundw
          case rel => exact ⟨k + 1, by omega, by go_num, HL2.out, more_of_below (by repeat (first | exact Below.refl _ _ | refine below_mo ?_ _ | refine below_al ?_ _))⟩
          case measure => simp [intOf]; omega
      · obtain rfl : k = el := by omega
        have HR2 : Hid (R = true) := Lib.hid (HR.out.trans (HA.out k HL.out))
        go_wp2_with fail
        go_ret
        exact Gives.mk (ret_bool (by rw [HR2.out])) (by repeat (first | exact Below.refl _ _ | refine below_mo ?_ _ | refine below_al ?_ _))
  · have hne : ((el : Int) != el2) = true := by simp; omega
    have HR : Hid ((el == el2 && allK g el) = false) := Lib.hid (by simp [hn])
    generalize (el == el2 && allK g el) = R at *
    clear H
    go_enter Try.func37, Try.ntmps37
    go_wp2_with fail
    go_ret
    exact Gives.mk (ret_bool (by rw [HR.out])) (by repeat (first | exact Below.refl _ _ | refine below_mo ?_ _ | refine below_al ?_ _))
end Go.Proofs.Ytjioinmiglblmaa
