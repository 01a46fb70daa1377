/- Walks: whether an Atom of more than a byte is in a type, and whether a Packed one has such an Atom: the document's Big and Torn. Conditions: the type lies in memory. -/
import Derived.Test.YtlbkloamabomcaaLayMath
namespace Go.Proofs.Ytlbkloamabomcaa
open Go.RowKit Go.Sort
set_option linter.unusedVariables false
set_option linter.unusedSimpArgs false
/-- whether one of the first k is such a one. -/
def anyK {α : Type} (P : α → Bool) (l : List α) (k : Nat) : Bool := (l.take k).any P
theorem anyK_zero {α : Type} (P : α → Bool) (l : List α) : anyK P l 0 = false := by simp [anyK]
theorem anyK_succ {α : Type} (P : α → Bool) (l : List α) (k : Nat) (a : α) (h : l[k]? = some a) : anyK P l (k + 1) = (anyK P l k || P a) := by
  unfold anyK
  rw [List.take_add_one, h]
  simp
theorem anyK_all {α : Type} (P : α → Bool) (l : List α) : anyK P l l.length = l.any P := by simp [anyK]
set_option maxHeartbeats 2000000 in
set_option maxRecDepth 100000 in
theorem big_any : ∀ (n : Nat) (t : Ty n) (r : Raw) (w : World), TyAt w n t r → Calls Try.prog 45 #[r.val] w (Gives w (.bool (looseF n t)))
  | 0, t, _, _, _ => nomatch t
  | n + 1, (t : TyF (Ty n)), r, w, hT => by
    have IH := Lib.hid (big_any n)
    have HT := Lib.hid hT
    obtain ⟨e1, e2, e3, e4, e5, e6, e7, e8, e9, hf, he⟩ := hT
    obtain ⟨rk, rs, rp, fa, fl, fc, rc, ea, el, ec⟩ := r
    simp only at e1 e2 e3 e4 e5 e6 hf he
    have HF := Lib.hid hf.2.2
    have HE := Lib.hid he.2.2
    have hfc := hf.1
    have hfm := hf.2.1
    have hec := he.1
    have hem := he.2.1
    have E4 := Lib.hid e4
    have E6 := Lib.hid e6
    clear hf he e4 e6 e5 e7 e8 e9
    have HU : Hid (looseF (n + 1) t = ((rk == 2 && decide (1 < rs)) || t.elem.any (looseF n) || t.fields.any (fun f => looseF n f.type))) := by rw [looseF_succ, e1, e2]; exact Lib.hid rfl
    clear e1 e2 e3
    unfold Raw.val
    simp only
    have hA : (rk = 2 ∧ 1 < rs ∧ (rk == 2 && decide (1 < rs)) = true) ∨ (rk = 2 ∧ rs ≤ 1 ∧ (rk == 2 && decide (1 < rs)) = false) ∨ (rk ≠ 2 ∧ (rk == 2 && decide (1 < rs)) = false) := by
      by_cases h1 : rk = 2 <;> by_cases h2 : 1 < rs <;> simp [h1, h2] <;> omega
    generalize (rk == 2 && decide (1 < rs)) = A at *
    generalize looseF (n + 1) t = U at *
    clear HT
    rcases hA with ⟨rfl, h2, rfl⟩ | ⟨rfl, h2, rfl⟩ | ⟨h1, rfl⟩
    · skip
      go_enter Try.func45, Try.ntmps45
      go_wp2_with fail
      go_loopw [3, 4] (fun o i wr => ∃ j : Nat, j ≤ el ∧ i = .int .i64 j ∧ o = .bool (true || anyK (looseF n) t.elem j) ∧
          ∃ p : Regrown, wr = more (w.alloc (.cells #[.int .i64 2, .int .i64 rs, .bool rp, .slice fa fl fc, .int .i64 rc, .slice ea el ec] 25)) p) (fun _ i _ => el - (intOf i).toNat)
      case atStart => exact ⟨0, by omega, rfl, by rw [anyK_zero]; first | rfl | (simp; omega), more_of_below (by repeat (first | exact Below.refl _ _ | refine below_mo ?_ _ | refine below_al ?_ _))⟩
      case round =>
        obtain ⟨j, hj, rfl, rfl, p, rfl⟩ := hrel
        by_cases hlt : (j : Int) < el
        · obtain ⟨b, off, rfl, hb, hc⟩ := HE.out (by omega)
          obtain ⟨f, hfk⟩ := get_some t.elem j (by have := E6.out; omega)
          obtain ⟨q, hq, c0, c1, c2, c3, c4, c5⟩ := hc j f hfk
          have HQ := Lib.hid hq
          have HS := Lib.hid (anyK_succ (looseF n) t.elem j f hfk)
          clear hq hc hfk
          obtain ⟨qk, qs, qp, qfa, qfl, qfc, qc, qea, qel, qec⟩ := q
          simp only at c0 c1 c2 c3 c4 c5
          have HO : Hid (∃ O, O = (true || anyK (looseF n) t.elem j)) := Lib.hid ⟨_, rfl⟩
          obtain ⟨O, hO⟩ := HO.out
          clear HO
          rw [← hO]
          have HO := Lib.hid hO
          clear hO
          cases O with
          | true =>
            go_wp2_with fail
            go_roundw
            case rel => exact ⟨j + 1, by omega, by go_num, by rw [HS.out, ← Bool.or_assoc, ← HO.out]; rfl, more_of_below (by repeat (first | exact Below.refl _ _ | refine below_mo ?_ _ | refine below_al ?_ _))⟩
            case measure => simp [intOf]; omega
          | false =>
            cases hV : looseF n f
            all_goals
              have HV := Lib.hid hV
              clear hV
              go_wp2_with (go_at_call 45; refine (IH.out f ⟨qk, qs, qp, qfa, qfl, qfc, qc, qea, qel, qec⟩ _ (TyAt.below (w := w) (by repeat (first | exact Below.refl _ _ | refine below_mo ?_ _ | refine below_al ?_ _)) HQ.out)).mono ?_; rw [HV.out]; rintro e w1 ⟨rfl, p1, rfl⟩)
              go_roundw
              case rel => exact ⟨j + 1, by omega, by go_num, by rw [HS.out, ← Bool.or_assoc, ← HO.out, HV.out]; rfl, more_of_below (by repeat (first | exact Below.refl _ _ | refine below_mo ?_ _ | refine below_al ?_ _))⟩
              case measure => simp [intOf]; omega
        · obtain rfl : j = el := by omega
          have HM : Hid (∃ M, M = (true || anyK (looseF n) t.elem j)) := Lib.hid ⟨_, rfl⟩
          obtain ⟨M, hM⟩ := HM.out
          clear HM
          rw [← hM]
          have HM := Lib.hid hM
          clear hM
          go_wp2_with fail
          go_loopw [3, 5] (fun o i wr => ∃ k : Nat, k ≤ fl ∧ i = .int .i64 k ∧ o = .bool (M || anyK (fun f : FdF (Ty n) => looseF n f.type) t.fields k) ∧
              ∃ p : Regrown, wr = more (w.alloc (.cells #[.int .i64 2, .int .i64 rs, .bool rp, .slice fa fl fc, .int .i64 rc, .slice ea j ec] 25)) p) (fun _ i _ => fl - (intOf i).toNat)
          case atStart => exact ⟨0, by omega, rfl, by rw [anyK_zero]; simp, more_of_below (by repeat (first | exact Below.refl _ _ | refine below_mo ?_ _ | refine below_al ?_ _))⟩
          case round =>
            obtain ⟨k, hk, rfl, rfl, p, rfl⟩ := hrel
            by_cases hlt : (k : Int) < fl
            · obtain ⟨b, off, rfl, hb, hc⟩ := HF.out (by omega)
              obtain ⟨f, hfk⟩ := get_some t.fields k (by have := E4.out; omega)
              obtain ⟨q, hq, g1, g2, c0, c1, c2, c3, c4, c5, c6, c7, c8⟩ := hc k f hfk
              have HQ := Lib.hid hq
              have HS := Lib.hid (anyK_succ (fun f : FdF (Ty n) => looseF n f.type) t.fields k f hfk)
              clear hq hc hfk
              obtain ⟨qk, qs, qp, qfa, qfl, qfc, qc, qea, qel, qec⟩ := q
              simp only at c1 c2 c3 c4 c5 c6
              have HO : Hid (∃ O, O = (M || anyK (fun f : FdF (Ty n) => looseF n f.type) t.fields k)) := Lib.hid ⟨_, rfl⟩
              obtain ⟨O, hO⟩ := HO.out
              clear HO
              rw [← hO]
              have HO := Lib.hid hO
              clear hO
              cases O with
              | true =>
                go_wp2_with fail
                go_roundw
                case rel => exact ⟨k + 1, by omega, by go_num, by rw [HS.out, ← Bool.or_assoc, ← HO.out]; rfl, more_of_below (by repeat (first | exact Below.refl _ _ | refine below_mo ?_ _ | refine below_al ?_ _))⟩
                case measure => simp [intOf]; omega
              | false =>
                cases hV : looseF n f.type
                all_goals
                  have HV := Lib.hid hV
                  clear hV
                  go_wp2_with (go_at_call 45; refine (IH.out f.type ⟨qk, qs, qp, qfa, qfl, qfc, qc, qea, qel, qec⟩ _ (TyAt.below (w := w) (by repeat (first | exact Below.refl _ _ | refine below_mo ?_ _ | refine below_al ?_ _)) HQ.out)).mono ?_; rw [HV.out]; rintro e w1 ⟨rfl, p1, rfl⟩)
                  go_roundw
                  case rel => exact ⟨k + 1, by omega, by go_num, by rw [HS.out, ← Bool.or_assoc, ← HO.out, HV.out]; rfl, more_of_below (by repeat (first | exact Below.refl _ _ | refine below_mo ?_ _ | refine below_al ?_ _))⟩
                  case measure => simp [intOf]; omega
            · obtain rfl : k = fl := by omega
              have HG : Hid (U = (M || anyK (fun f : FdF (Ty n) => looseF n f.type) t.fields k)) := by
                rw [HU.out, HM.out, ← anyK_all, ← anyK_all, ← E4.out, ← E6.out]
                exact Lib.hid rfl
              generalize (M || anyK (fun f : FdF (Ty n) => looseF n f.type) t.fields k) = O at *
              go_wp2_with fail
              go_ret
              exact Gives.mk (ret_bool (by rw [HG.out])) (by repeat (first | exact Below.refl _ _ | refine below_mo ?_ _ | refine below_al ?_ _))
    · skip
      go_enter Try.func45, Try.ntmps45
      go_wp2_with fail
      go_loopw [3, 4] (fun o i wr => ∃ j : Nat, j ≤ el ∧ i = .int .i64 j ∧ o = .bool (false || anyK (looseF n) t.elem j) ∧
          ∃ p : Regrown, wr = more (w.alloc (.cells #[.int .i64 2, .int .i64 rs, .bool rp, .slice fa fl fc, .int .i64 rc, .slice ea el ec] 25)) p) (fun _ i _ => el - (intOf i).toNat)
      case atStart => exact ⟨0, by omega, rfl, by rw [anyK_zero]; first | rfl | (simp; omega), more_of_below (by repeat (first | exact Below.refl _ _ | refine below_mo ?_ _ | refine below_al ?_ _))⟩
      case round =>
        obtain ⟨j, hj, rfl, rfl, p, rfl⟩ := hrel
        by_cases hlt : (j : Int) < el
        · obtain ⟨b, off, rfl, hb, hc⟩ := HE.out (by omega)
          obtain ⟨f, hfk⟩ := get_some t.elem j (by have := E6.out; omega)
          obtain ⟨q, hq, c0, c1, c2, c3, c4, c5⟩ := hc j f hfk
          have HQ := Lib.hid hq
          have HS := Lib.hid (anyK_succ (looseF n) t.elem j f hfk)
          clear hq hc hfk
          obtain ⟨qk, qs, qp, qfa, qfl, qfc, qc, qea, qel, qec⟩ := q
          simp only at c0 c1 c2 c3 c4 c5
          have HO : Hid (∃ O, O = (false || anyK (looseF n) t.elem j)) := Lib.hid ⟨_, rfl⟩
          obtain ⟨O, hO⟩ := HO.out
          clear HO
          rw [← hO]
          have HO := Lib.hid hO
          clear hO
          cases O with
          | true =>
            go_wp2_with fail
            go_roundw
            case rel => exact ⟨j + 1, by omega, by go_num, by rw [HS.out, ← Bool.or_assoc, ← HO.out]; rfl, more_of_below (by repeat (first | exact Below.refl _ _ | refine below_mo ?_ _ | refine below_al ?_ _))⟩
            case measure => simp [intOf]; omega
          | false =>
            cases hV : looseF n f
            all_goals
              have HV := Lib.hid hV
              clear hV
              go_wp2_with (go_at_call 45; refine (IH.out f ⟨qk, qs, qp, qfa, qfl, qfc, qc, qea, qel, qec⟩ _ (TyAt.below (w := w) (by repeat (first | exact Below.refl _ _ | refine below_mo ?_ _ | refine below_al ?_ _)) HQ.out)).mono ?_; rw [HV.out]; rintro e w1 ⟨rfl, p1, rfl⟩)
              go_roundw
              case rel => exact ⟨j + 1, by omega, by go_num, by rw [HS.out, ← Bool.or_assoc, ← HO.out, HV.out]; rfl, more_of_below (by repeat (first | exact Below.refl _ _ | refine below_mo ?_ _ | refine below_al ?_ _))⟩
              case measure => simp [intOf]; omega
        · obtain rfl : j = el := by omega
          have HM : Hid (∃ M, M = (false || anyK (looseF n) t.elem j)) := Lib.hid ⟨_, rfl⟩
          obtain ⟨M, hM⟩ := HM.out
          clear HM
          rw [← hM]
          have HM := Lib.hid hM
          clear hM
          go_wp2_with fail
          go_loopw [3, 5] (fun o i wr => ∃ k : Nat, k ≤ fl ∧ i = .int .i64 k ∧ o = .bool (M || anyK (fun f : FdF (Ty n) => looseF n f.type) t.fields k) ∧
              ∃ p : Regrown, wr = more (w.alloc (.cells #[.int .i64 2, .int .i64 rs, .bool rp, .slice fa fl fc, .int .i64 rc, .slice ea j ec] 25)) p) (fun _ i _ => fl - (intOf i).toNat)
          case atStart => exact ⟨0, by omega, rfl, by rw [anyK_zero]; simp, more_of_below (by repeat (first | exact Below.refl _ _ | refine below_mo ?_ _ | refine below_al ?_ _))⟩
          case round =>
            obtain ⟨k, hk, rfl, rfl, p, rfl⟩ := hrel
            by_cases hlt : (k : Int) < fl
            · obtain ⟨b, off, rfl, hb, hc⟩ := HF.out (by omega)
              obtain ⟨f, hfk⟩ := get_some t.fields k (by have := E4.out; omega)
              obtain ⟨q, hq, g1, g2, c0, c1, c2, c3, c4, c5, c6, c7, c8⟩ := hc k f hfk
              have HQ := Lib.hid hq
              have HS := Lib.hid (anyK_succ (fun f : FdF (Ty n) => looseF n f.type) t.fields k f hfk)
              clear hq hc hfk
              obtain ⟨qk, qs, qp, qfa, qfl, qfc, qc, qea, qel, qec⟩ := q
              simp only at c1 c2 c3 c4 c5 c6
              have HO : Hid (∃ O, O = (M || anyK (fun f : FdF (Ty n) => looseF n f.type) t.fields k)) := Lib.hid ⟨_, rfl⟩
              obtain ⟨O, hO⟩ := HO.out
              clear HO
              rw [← hO]
              have HO := Lib.hid hO
              clear hO
              cases O with
              | true =>
                go_wp2_with fail
                go_roundw
                case rel => exact ⟨k + 1, by omega, by go_num, by rw [HS.out, ← Bool.or_assoc, ← HO.out]; rfl, more_of_below (by repeat (first | exact Below.refl _ _ | refine below_mo ?_ _ | refine below_al ?_ _))⟩
                case measure => simp [intOf]; omega
              | false =>
                cases hV : looseF n f.type
                all_goals
                  have HV := Lib.hid hV
                  clear hV
                  go_wp2_with (go_at_call 45; refine (IH.out f.type ⟨qk, qs, qp, qfa, qfl, qfc, qc, qea, qel, qec⟩ _ (TyAt.below (w := w) (by repeat (first | exact Below.refl _ _ | refine below_mo ?_ _ | refine below_al ?_ _)) HQ.out)).mono ?_; rw [HV.out]; rintro e w1 ⟨rfl, p1, rfl⟩)
                  go_roundw
                  case rel => exact ⟨k + 1, by omega, by go_num, by rw [HS.out, ← Bool.or_assoc, ← HO.out, HV.out]; rfl, more_of_below (by repeat (first | exact Below.refl _ _ | refine below_mo ?_ _ | refine below_al ?_ _))⟩
                  case measure => simp [intOf]; omega
            · obtain rfl : k = fl := by omega
              have HG : Hid (U = (M || anyK (fun f : FdF (Ty n) => looseF n f.type) t.fields k)) := by
                rw [HU.out, HM.out, ← anyK_all, ← anyK_all, ← E4.out, ← E6.out]
                exact Lib.hid rfl
              generalize (M || anyK (fun f : FdF (Ty n) => looseF n f.type) t.fields k) = O at *
              go_wp2_with fail
              go_ret
              exact Gives.mk (ret_bool (by rw [HG.out])) (by repeat (first | exact Below.refl _ _ | refine below_mo ?_ _ | refine below_al ?_ _))
    · skip
      go_enter Try.func45, Try.ntmps45
      go_wp2_with fail
      go_loopw [3, 4] (fun o i wr => ∃ j : Nat, j ≤ el ∧ i = .int .i64 j ∧ o = .bool (false || anyK (looseF n) t.elem j) ∧
          ∃ p : Regrown, wr = more (w.alloc (.cells #[.int .i64 rk, .int .i64 rs, .bool rp, .slice fa fl fc, .int .i64 rc, .slice ea el ec] 25)) p) (fun _ i _ => el - (intOf i).toNat)
      case atStart => exact ⟨0, by omega, rfl, by rw [anyK_zero]; first | rfl | (simp; omega), more_of_below (by repeat (first | exact Below.refl _ _ | refine below_mo ?_ _ | refine below_al ?_ _))⟩
      case round =>
        obtain ⟨j, hj, rfl, rfl, p, rfl⟩ := hrel
        by_cases hlt : (j : Int) < el
        · obtain ⟨b, off, rfl, hb, hc⟩ := HE.out (by omega)
          obtain ⟨f, hfk⟩ := get_some t.elem j (by have := E6.out; omega)
          obtain ⟨q, hq, c0, c1, c2, c3, c4, c5⟩ := hc j f hfk
          have HQ := Lib.hid hq
          have HS := Lib.hid (anyK_succ (looseF n) t.elem j f hfk)
          clear hq hc hfk
          obtain ⟨qk, qs, qp, qfa, qfl, qfc, qc, qea, qel, qec⟩ := q
          simp only at c0 c1 c2 c3 c4 c5
          have HO : Hid (∃ O, O = (false || anyK (looseF n) t.elem j)) := Lib.hid ⟨_, rfl⟩
          obtain ⟨O, hO⟩ := HO.out
          clear HO
          rw [← hO]
          have HO := Lib.hid hO
          clear hO
          cases O with
          | true =>
            go_wp2_with fail
            go_roundw
            case rel => exact ⟨j + 1, by omega, by go_num, by rw [HS.out, ← Bool.or_assoc, ← HO.out]; rfl, more_of_below (by repeat (first | exact Below.refl _ _ | refine below_mo ?_ _ | refine below_al ?_ _))⟩
            case measure => simp [intOf]; omega
          | false =>
            cases hV : looseF n f
            all_goals
              have HV := Lib.hid hV
              clear hV
              go_wp2_with (go_at_call 45; refine (IH.out f ⟨qk, qs, qp, qfa, qfl, qfc, qc, qea, qel, qec⟩ _ (TyAt.below (w := w) (by repeat (first | exact Below.refl _ _ | refine below_mo ?_ _ | refine below_al ?_ _)) HQ.out)).mono ?_; rw [HV.out]; rintro e w1 ⟨rfl, p1, rfl⟩)
              go_roundw
              case rel => exact ⟨j + 1, by omega, by go_num, by rw [HS.out, ← Bool.or_assoc, ← HO.out, HV.out]; rfl, more_of_below (by repeat (first | exact Below.refl _ _ | refine below_mo ?_ _ | refine below_al ?_ _))⟩
              case measure => simp [intOf]; omega
        · obtain rfl : j = el := by omega
          have HM : Hid (∃ M, M = (false || anyK (looseF n) t.elem j)) := Lib.hid ⟨_, rfl⟩
          obtain ⟨M, hM⟩ := HM.out
          clear HM
          rw [← hM]
          have HM := Lib.hid hM
          clear hM
          go_wp2_with fail
          go_loopw [3, 5] (fun o i wr => ∃ k : Nat, k ≤ fl ∧ i = .int .i64 k ∧ o = .bool (M || anyK (fun f : FdF (Ty n) => looseF n f.type) t.fields k) ∧
              ∃ p : Regrown, wr = more (w.alloc (.cells #[.int .i64 rk, .int .i64 rs, .bool rp, .slice fa fl fc, .int .i64 rc, .slice ea j ec] 25)) p) (fun _ i _ => fl - (intOf i).toNat)
          case atStart => exact ⟨0, by omega, rfl, by rw [anyK_zero]; simp, more_of_below (by repeat (first | exact Below.refl _ _ | refine below_mo ?_ _ | refine below_al ?_ _))⟩
          case round =>
            obtain ⟨k, hk, rfl, rfl, p, rfl⟩ := hrel
            by_cases hlt : (k : Int) < fl
            · obtain ⟨b, off, rfl, hb, hc⟩ := HF.out (by omega)
              obtain ⟨f, hfk⟩ := get_some t.fields k (by have := E4.out; omega)
              obtain ⟨q, hq, g1, g2, c0, c1, c2, c3, c4, c5, c6, c7, c8⟩ := hc k f hfk
              have HQ := Lib.hid hq
              have HS := Lib.hid (anyK_succ (fun f : FdF (Ty n) => looseF n f.type) t.fields k f hfk)
              clear hq hc hfk
              obtain ⟨qk, qs, qp, qfa, qfl, qfc, qc, qea, qel, qec⟩ := q
              simp only at c1 c2 c3 c4 c5 c6
              have HO : Hid (∃ O, O = (M || anyK (fun f : FdF (Ty n) => looseF n f.type) t.fields k)) := Lib.hid ⟨_, rfl⟩
              obtain ⟨O, hO⟩ := HO.out
              clear HO
              rw [← hO]
              have HO := Lib.hid hO
              clear hO
              cases O with
              | true =>
                go_wp2_with fail
                go_roundw
                case rel => exact ⟨k + 1, by omega, by go_num, by rw [HS.out, ← Bool.or_assoc, ← HO.out]; rfl, more_of_below (by repeat (first | exact Below.refl _ _ | refine below_mo ?_ _ | refine below_al ?_ _))⟩
                case measure => simp [intOf]; omega
              | false =>
                cases hV : looseF n f.type
                all_goals
                  have HV := Lib.hid hV
                  clear hV
                  go_wp2_with (go_at_call 45; refine (IH.out f.type ⟨qk, qs, qp, qfa, qfl, qfc, qc, qea, qel, qec⟩ _ (TyAt.below (w := w) (by repeat (first | exact Below.refl _ _ | refine below_mo ?_ _ | refine below_al ?_ _)) HQ.out)).mono ?_; rw [HV.out]; rintro e w1 ⟨rfl, p1, rfl⟩)
                  go_roundw
                  case rel => exact ⟨k + 1, by omega, by go_num, by rw [HS.out, ← Bool.or_assoc, ← HO.out, HV.out]; rfl, more_of_below (by repeat (first | exact Below.refl _ _ | refine below_mo ?_ _ | refine below_al ?_ _))⟩
                  case measure => simp [intOf]; omega
            · obtain rfl : k = fl := by omega
              have HG : Hid (U = (M || anyK (fun f : FdF (Ty n) => looseF n f.type) t.fields k)) := by
                rw [HU.out, HM.out, ← anyK_all, ← anyK_all, ← E4.out, ← E6.out]
                exact Lib.hid rfl
              generalize (M || anyK (fun f : FdF (Ty n) => looseF n f.type) t.fields k) = O at *
              go_wp2_with fail
              go_ret
              exact Gives.mk (ret_bool (by rw [HG.out])) (by repeat (first | exact Below.refl _ _ | refine below_mo ?_ _ | refine below_al ?_ _))
set_option maxHeartbeats 2000000 in
set_option maxRecDepth 100000 in
theorem rtorn_any : ∀ (n : Nat) (t : Ty n) (r : Raw) (w : World), TyAt w n t r → Calls Try.prog 31 #[r.val] w (Gives w (.bool (tornF n t)))
  | 0, t, _, _, _ => nomatch t
  | n + 1, (t : TyF (Ty n)), r, w, hT => by
    have IH := Lib.hid (rtorn_any n)
    have HT := Lib.hid hT
    obtain ⟨e1, e2, e3, e4, e5, e6, e7, e8, e9, hf, he⟩ := hT
    obtain ⟨rk, rs, rp, fa, fl, fc, rc, ea, el, ec⟩ := r
    simp only at e1 e2 e3 e4 e5 e6 hf he
    have HF := Lib.hid hf.2.2
    have HE := Lib.hid he.2.2
    have hfc := hf.1
    have hfm := hf.2.1
    have hec := he.1
    have hem := he.2.1
    have E4 := Lib.hid e4
    have E6 := Lib.hid e6
    clear hf he e4 e6 e5 e7 e8 e9
    have HU : Hid (tornF (n + 1) t = ((rp && looseF (n + 1) t) || t.elem.any (tornF n) || t.fields.any (fun f => tornF n f.type))) := by rw [tornF_succ, e3]; exact Lib.hid rfl
    clear e1 e2 e3
    have BI := Lib.hid (fun W (hW : Below w.heap.size w W) => big_any (n + 1) t _ W (TyAt.below hW HT.out))
    unfold Raw.val at BI ⊢
    simp only at BI ⊢
    generalize looseF (n + 1) t = V at *
    have hA : (rp = false ∧ (rp && V) = false) ∨ (rp = true ∧ V = true ∧ (rp && V) = true) ∨ (rp = true ∧ V = false ∧ (rp && V) = false) := by
      cases rp <;> cases V <;> simp
    generalize (rp && V) = A at *
    generalize tornF (n + 1) t = U at *
    clear HT
    rcases hA with ⟨rfl, rfl⟩ | ⟨rfl, rfl, rfl⟩ | ⟨rfl, rfl, rfl⟩
    · skip
      go_enter Try.func31, Try.ntmps31
      go_wp2_with (first | (go_at_call 45; refine (BI.out _ (by repeat (first | exact Below.refl _ _ | refine below_mo ?_ _ | refine below_al ?_ _))).mono ?_; rintro e w1 ⟨rfl, p1, rfl⟩))
      go_loopw [3, 4] (fun o i wr => ∃ j : Nat, j ≤ el ∧ i = .int .i64 j ∧ o = .bool (false || anyK (tornF n) t.elem j) ∧
          ∃ p : Regrown, wr = more (w.alloc (.cells #[.int .i64 rk, .int .i64 rs, .bool false, .slice fa fl fc, .int .i64 rc, .slice ea el ec] 25)) p) (fun _ i _ => el - (intOf i).toNat)
      case atStart => exact ⟨0, by omega, rfl, by rw [anyK_zero]; first | rfl | (simp; omega), more_of_below (by repeat (first | exact Below.refl _ _ | refine below_mo ?_ _ | refine below_al ?_ _))⟩
      case round =>
        obtain ⟨j, hj, rfl, rfl, p, rfl⟩ := hrel
        by_cases hlt : (j : Int) < el
        · obtain ⟨b, off, rfl, hb, hc⟩ := HE.out (by omega)
          obtain ⟨f, hfk⟩ := get_some t.elem j (by have := E6.out; omega)
          obtain ⟨q, hq, c0, c1, c2, c3, c4, c5⟩ := hc j f hfk
          have HQ := Lib.hid hq
          have HS := Lib.hid (anyK_succ (tornF n) t.elem j f hfk)
          clear hq hc hfk
          obtain ⟨qk, qs, qp, qfa, qfl, qfc, qc, qea, qel, qec⟩ := q
          simp only at c0 c1 c2 c3 c4 c5
          have HO : Hid (∃ O, O = (false || anyK (tornF n) t.elem j)) := Lib.hid ⟨_, rfl⟩
          obtain ⟨O, hO⟩ := HO.out
          clear HO
          rw [← hO]
          have HO := Lib.hid hO
          clear hO
          cases O with
          | true =>
            go_wp2_with fail
            go_roundw
            case rel => exact ⟨j + 1, by omega, by go_num, by rw [HS.out, ← Bool.or_assoc, ← HO.out]; rfl, more_of_below (by repeat (first | exact Below.refl _ _ | refine below_mo ?_ _ | refine below_al ?_ _))⟩
            case measure => simp [intOf]; omega
          | false =>
            cases hV : tornF n f
            all_goals
              have HV := Lib.hid hV
              clear hV
              go_wp2_with (go_at_call 31; refine (IH.out f ⟨qk, qs, qp, qfa, qfl, qfc, qc, qea, qel, qec⟩ _ (TyAt.below (w := w) (by repeat (first | exact Below.refl _ _ | refine below_mo ?_ _ | refine below_al ?_ _)) HQ.out)).mono ?_; rw [HV.out]; rintro e w1 ⟨rfl, p1, rfl⟩)
              go_roundw
              case rel => exact ⟨j + 1, by omega, by go_num, by rw [HS.out, ← Bool.or_assoc, ← HO.out, HV.out]; rfl, more_of_below (by repeat (first | exact Below.refl _ _ | refine below_mo ?_ _ | refine below_al ?_ _))⟩
              case measure => simp [intOf]; omega
        · obtain rfl : j = el := by omega
          have HM : Hid (∃ M, M = (false || anyK (tornF n) t.elem j)) := Lib.hid ⟨_, rfl⟩
          obtain ⟨M, hM⟩ := HM.out
          clear HM
          rw [← hM]
          have HM := Lib.hid hM
          clear hM
          go_wp2_with fail
          go_loopw [3, 5] (fun o i wr => ∃ k : Nat, k ≤ fl ∧ i = .int .i64 k ∧ o = .bool (M || anyK (fun f : FdF (Ty n) => tornF n f.type) t.fields k) ∧
              ∃ p : Regrown, wr = more (w.alloc (.cells #[.int .i64 rk, .int .i64 rs, .bool false, .slice fa fl fc, .int .i64 rc, .slice ea j ec] 25)) p) (fun _ i _ => fl - (intOf i).toNat)
          case atStart => exact ⟨0, by omega, rfl, by rw [anyK_zero]; simp, more_of_below (by repeat (first | exact Below.refl _ _ | refine below_mo ?_ _ | refine below_al ?_ _))⟩
          case round =>
            obtain ⟨k, hk, rfl, rfl, p, rfl⟩ := hrel
            by_cases hlt : (k : Int) < fl
            · obtain ⟨b, off, rfl, hb, hc⟩ := HF.out (by omega)
              obtain ⟨f, hfk⟩ := get_some t.fields k (by have := E4.out; omega)
              obtain ⟨q, hq, g1, g2, c0, c1, c2, c3, c4, c5, c6, c7, c8⟩ := hc k f hfk
              have HQ := Lib.hid hq
              have HS := Lib.hid (anyK_succ (fun f : FdF (Ty n) => tornF n f.type) t.fields k f hfk)
              clear hq hc hfk
              obtain ⟨qk, qs, qp, qfa, qfl, qfc, qc, qea, qel, qec⟩ := q
              simp only at c1 c2 c3 c4 c5 c6
              have HO : Hid (∃ O, O = (M || anyK (fun f : FdF (Ty n) => tornF n f.type) t.fields k)) := Lib.hid ⟨_, rfl⟩
              obtain ⟨O, hO⟩ := HO.out
              clear HO
              rw [← hO]
              have HO := Lib.hid hO
              clear hO
              cases O with
              | true =>
                go_wp2_with fail
                go_roundw
                case rel => exact ⟨k + 1, by omega, by go_num, by rw [HS.out, ← Bool.or_assoc, ← HO.out]; rfl, more_of_below (by repeat (first | exact Below.refl _ _ | refine below_mo ?_ _ | refine below_al ?_ _))⟩
                case measure => simp [intOf]; omega
              | false =>
                cases hV : tornF n f.type
                all_goals
                  have HV := Lib.hid hV
                  clear hV
                  go_wp2_with (go_at_call 31; refine (IH.out f.type ⟨qk, qs, qp, qfa, qfl, qfc, qc, qea, qel, qec⟩ _ (TyAt.below (w := w) (by repeat (first | exact Below.refl _ _ | refine below_mo ?_ _ | refine below_al ?_ _)) HQ.out)).mono ?_; rw [HV.out]; rintro e w1 ⟨rfl, p1, rfl⟩)
                  go_roundw
                  case rel => exact ⟨k + 1, by omega, by go_num, by rw [HS.out, ← Bool.or_assoc, ← HO.out, HV.out]; rfl, more_of_below (by repeat (first | exact Below.refl _ _ | refine below_mo ?_ _ | refine below_al ?_ _))⟩
                  case measure => simp [intOf]; omega
            · obtain rfl : k = fl := by omega
              have HG : Hid (U = (M || anyK (fun f : FdF (Ty n) => tornF n f.type) t.fields k)) := by
                rw [HU.out, HM.out, ← anyK_all, ← anyK_all, ← E4.out, ← E6.out]
                exact Lib.hid rfl
              generalize (M || anyK (fun f : FdF (Ty n) => tornF n f.type) t.fields k) = O at *
              go_wp2_with fail
              go_ret
              exact Gives.mk (ret_bool (by rw [HG.out])) (by repeat (first | exact Below.refl _ _ | refine below_mo ?_ _ | refine below_al ?_ _))
    · skip
      go_enter Try.func31, Try.ntmps31
      go_wp2_with (first | (go_at_call 45; refine (BI.out _ (by repeat (first | exact Below.refl _ _ | refine below_mo ?_ _ | refine below_al ?_ _))).mono ?_; rintro e w1 ⟨rfl, p1, rfl⟩))
      go_loopw [3, 4] (fun o i wr => ∃ j : Nat, j ≤ el ∧ i = .int .i64 j ∧ o = .bool (true || anyK (tornF n) t.elem j) ∧
          ∃ p : Regrown, wr = more (w.alloc (.cells #[.int .i64 rk, .int .i64 rs, .bool true, .slice fa fl fc, .int .i64 rc, .slice ea el ec] 25)) p) (fun _ i _ => el - (intOf i).toNat)
      case atStart => exact ⟨0, by omega, rfl, by rw [anyK_zero]; first | rfl | (simp; omega), more_of_below (by repeat (first | exact Below.refl _ _ | refine below_mo ?_ _ | refine below_al ?_ _))⟩
      case round =>
        obtain ⟨j, hj, rfl, rfl, p, rfl⟩ := hrel
        by_cases hlt : (j : Int) < el
        · obtain ⟨b, off, rfl, hb, hc⟩ := HE.out (by omega)
          obtain ⟨f, hfk⟩ := get_some t.elem j (by have := E6.out; omega)
          obtain ⟨q, hq, c0, c1, c2, c3, c4, c5⟩ := hc j f hfk
          have HQ := Lib.hid hq
          have HS := Lib.hid (anyK_succ (tornF n) t.elem j f hfk)
          clear hq hc hfk
          obtain ⟨qk, qs, qp, qfa, qfl, qfc, qc, qea, qel, qec⟩ := q
          simp only at c0 c1 c2 c3 c4 c5
          have HO : Hid (∃ O, O = (true || anyK (tornF n) t.elem j)) := Lib.hid ⟨_, rfl⟩
          obtain ⟨O, hO⟩ := HO.out
          clear HO
          rw [← hO]
          have HO := Lib.hid hO
          clear hO
          cases O with
          | true =>
            go_wp2_with fail
            go_roundw
            case rel => exact ⟨j + 1, by omega, by go_num, by rw [HS.out, ← Bool.or_assoc, ← HO.out]; rfl, more_of_below (by repeat (first | exact Below.refl _ _ | refine below_mo ?_ _ | refine below_al ?_ _))⟩
            case measure => simp [intOf]; omega
          | false =>
            cases hV : tornF n f
            all_goals
              have HV := Lib.hid hV
              clear hV
              go_wp2_with (go_at_call 31; refine (IH.out f ⟨qk, qs, qp, qfa, qfl, qfc, qc, qea, qel, qec⟩ _ (TyAt.below (w := w) (by repeat (first | exact Below.refl _ _ | refine below_mo ?_ _ | refine below_al ?_ _)) HQ.out)).mono ?_; rw [HV.out]; rintro e w1 ⟨rfl, p1, rfl⟩)
              go_roundw
              case rel => exact ⟨j + 1, by omega, by go_num, by rw [HS.out, ← Bool.or_assoc, ← HO.out, HV.out]; rfl, more_of_below (by repeat (first | exact Below.refl _ _ | refine below_mo ?_ _ | refine below_al ?_ _))⟩
              case measure => simp [intOf]; omega
        · obtain rfl : j = el := by omega
          have HM : Hid (∃ M, M = (true || anyK (tornF n) t.elem j)) := Lib.hid ⟨_, rfl⟩
          obtain ⟨M, hM⟩ := HM.out
          clear HM
          rw [← hM]
          have HM := Lib.hid hM
          clear hM
          go_wp2_with fail
          go_loopw [3, 5] (fun o i wr => ∃ k : Nat, k ≤ fl ∧ i = .int .i64 k ∧ o = .bool (M || anyK (fun f : FdF (Ty n) => tornF n f.type) t.fields k) ∧
              ∃ p : Regrown, wr = more (w.alloc (.cells #[.int .i64 rk, .int .i64 rs, .bool true, .slice fa fl fc, .int .i64 rc, .slice ea j ec] 25)) p) (fun _ i _ => fl - (intOf i).toNat)
          case atStart => exact ⟨0, by omega, rfl, by rw [anyK_zero]; simp, more_of_below (by repeat (first | exact Below.refl _ _ | refine below_mo ?_ _ | refine below_al ?_ _))⟩
          case round =>
            obtain ⟨k, hk, rfl, rfl, p, rfl⟩ := hrel
            by_cases hlt : (k : Int) < fl
            · obtain ⟨b, off, rfl, hb, hc⟩ := HF.out (by omega)
              obtain ⟨f, hfk⟩ := get_some t.fields k (by have := E4.out; omega)
              obtain ⟨q, hq, g1, g2, c0, c1, c2, c3, c4, c5, c6, c7, c8⟩ := hc k f hfk
              have HQ := Lib.hid hq
              have HS := Lib.hid (anyK_succ (fun f : FdF (Ty n) => tornF n f.type) t.fields k f hfk)
              clear hq hc hfk
              obtain ⟨qk, qs, qp, qfa, qfl, qfc, qc, qea, qel, qec⟩ := q
              simp only at c1 c2 c3 c4 c5 c6
              have HO : Hid (∃ O, O = (M || anyK (fun f : FdF (Ty n) => tornF n f.type) t.fields k)) := Lib.hid ⟨_, rfl⟩
              obtain ⟨O, hO⟩ := HO.out
              clear HO
              rw [← hO]
              have HO := Lib.hid hO
              clear hO
              cases O with
              | true =>
                go_wp2_with fail
                go_roundw
                case rel => exact ⟨k + 1, by omega, by go_num, by rw [HS.out, ← Bool.or_assoc, ← HO.out]; rfl, more_of_below (by repeat (first | exact Below.refl _ _ | refine below_mo ?_ _ | refine below_al ?_ _))⟩
                case measure => simp [intOf]; omega
              | false =>
                cases hV : tornF n f.type
                all_goals
                  have HV := Lib.hid hV
                  clear hV
                  go_wp2_with (go_at_call 31; refine (IH.out f.type ⟨qk, qs, qp, qfa, qfl, qfc, qc, qea, qel, qec⟩ _ (TyAt.below (w := w) (by repeat (first | exact Below.refl _ _ | refine below_mo ?_ _ | refine below_al ?_ _)) HQ.out)).mono ?_; rw [HV.out]; rintro e w1 ⟨rfl, p1, rfl⟩)
                  go_roundw
                  case rel => exact ⟨k + 1, by omega, by go_num, by rw [HS.out, ← Bool.or_assoc, ← HO.out, HV.out]; rfl, more_of_below (by repeat (first | exact Below.refl _ _ | refine below_mo ?_ _ | refine below_al ?_ _))⟩
                  case measure => simp [intOf]; omega
            · obtain rfl : k = fl := by omega
              have HG : Hid (U = (M || anyK (fun f : FdF (Ty n) => tornF n f.type) t.fields k)) := by
                rw [HU.out, HM.out, ← anyK_all, ← anyK_all, ← E4.out, ← E6.out]
                exact Lib.hid rfl
              generalize (M || anyK (fun f : FdF (Ty n) => tornF n f.type) t.fields k) = O at *
              go_wp2_with fail
              go_ret
              exact Gives.mk (ret_bool (by rw [HG.out])) (by repeat (first | exact Below.refl _ _ | refine below_mo ?_ _ | refine below_al ?_ _))
    · skip
      go_enter Try.func31, Try.ntmps31
      go_wp2_with (first | (go_at_call 45; refine (BI.out _ (by repeat (first | exact Below.refl _ _ | refine below_mo ?_ _ | refine below_al ?_ _))).mono ?_; rintro e w1 ⟨rfl, p1, rfl⟩))
      go_loopw [3, 4] (fun o i wr => ∃ j : Nat, j ≤ el ∧ i = .int .i64 j ∧ o = .bool (false || anyK (tornF n) t.elem j) ∧
          ∃ p : Regrown, wr = more (w.alloc (.cells #[.int .i64 rk, .int .i64 rs, .bool true, .slice fa fl fc, .int .i64 rc, .slice ea el ec] 25)) p) (fun _ i _ => el - (intOf i).toNat)
      case atStart => exact ⟨0, by omega, rfl, by rw [anyK_zero]; first | rfl | (simp; omega), more_of_below (by repeat (first | exact Below.refl _ _ | refine below_mo ?_ _ | refine below_al ?_ _))⟩
      case round =>
        obtain ⟨j, hj, rfl, rfl, p, rfl⟩ := hrel
        by_cases hlt : (j : Int) < el
        · obtain ⟨b, off, rfl, hb, hc⟩ := HE.out (by omega)
          obtain ⟨f, hfk⟩ := get_some t.elem j (by have := E6.out; omega)
          obtain ⟨q, hq, c0, c1, c2, c3, c4, c5⟩ := hc j f hfk
          have HQ := Lib.hid hq
          have HS := Lib.hid (anyK_succ (tornF n) t.elem j f hfk)
          clear hq hc hfk
          obtain ⟨qk, qs, qp, qfa, qfl, qfc, qc, qea, qel, qec⟩ := q
          simp only at c0 c1 c2 c3 c4 c5
          have HO : Hid (∃ O, O = (false || anyK (tornF n) t.elem j)) := Lib.hid ⟨_, rfl⟩
          obtain ⟨O, hO⟩ := HO.out
          clear HO
          rw [← hO]
          have HO := Lib.hid hO
          clear hO
          cases O with
          | true =>
            go_wp2_with fail
            go_roundw
            case rel => exact ⟨j + 1, by omega, by go_num, by rw [HS.out, ← Bool.or_assoc, ← HO.out]; rfl, more_of_below (by repeat (first | exact Below.refl _ _ | refine below_mo ?_ _ | refine below_al ?_ _))⟩
            case measure => simp [intOf]; omega
          | false =>
            cases hV : tornF n f
            all_goals
              have HV := Lib.hid hV
              clear hV
              go_wp2_with (go_at_call 31; refine (IH.out f ⟨qk, qs, qp, qfa, qfl, qfc, qc, qea, qel, qec⟩ _ (TyAt.below (w := w) (by repeat (first | exact Below.refl _ _ | refine below_mo ?_ _ | refine below_al ?_ _)) HQ.out)).mono ?_; rw [HV.out]; rintro e w1 ⟨rfl, p1, rfl⟩)
              go_roundw
              case rel => exact ⟨j + 1, by omega, by go_num, by rw [HS.out, ← Bool.or_assoc, ← HO.out, HV.out]; rfl, more_of_below (by repeat (first | exact Below.refl _ _ | refine below_mo ?_ _ | refine below_al ?_ _))⟩
              case measure => simp [intOf]; omega
        · obtain rfl : j = el := by omega
          have HM : Hid (∃ M, M = (false || anyK (tornF n) t.elem j)) := Lib.hid ⟨_, rfl⟩
          obtain ⟨M, hM⟩ := HM.out
          clear HM
          rw [← hM]
          have HM := Lib.hid hM
          clear hM
          go_wp2_with fail
          go_loopw [3, 5] (fun o i wr => ∃ k : Nat, k ≤ fl ∧ i = .int .i64 k ∧ o = .bool (M || anyK (fun f : FdF (Ty n) => tornF n f.type) t.fields k) ∧
              ∃ p : Regrown, wr = more (w.alloc (.cells #[.int .i64 rk, .int .i64 rs, .bool true, .slice fa fl fc, .int .i64 rc, .slice ea j ec] 25)) p) (fun _ i _ => fl - (intOf i).toNat)
          case atStart => exact ⟨0, by omega, rfl, by rw [anyK_zero]; simp, more_of_below (by repeat (first | exact Below.refl _ _ | refine below_mo ?_ _ | refine below_al ?_ _))⟩
          case round =>
            obtain ⟨k, hk, rfl, rfl, p, rfl⟩ := hrel
            by_cases hlt : (k : Int) < fl
            · obtain ⟨b, off, rfl, hb, hc⟩ := HF.out (by omega)
              obtain ⟨f, hfk⟩ := get_some t.fields k (by have := E4.out; omega)
              obtain ⟨q, hq, g1, g2, c0, c1, c2, c3, c4, c5, c6, c7, c8⟩ := hc k f hfk
              have HQ := Lib.hid hq
              have HS := Lib.hid (anyK_succ (fun f : FdF (Ty n) => tornF n f.type) t.fields k f hfk)
              clear hq hc hfk
              obtain ⟨qk, qs, qp, qfa, qfl, qfc, qc, qea, qel, qec⟩ := q
              simp only at c1 c2 c3 c4 c5 c6
              have HO : Hid (∃ O, O = (M || anyK (fun f : FdF (Ty n) => tornF n f.type) t.fields k)) := Lib.hid ⟨_, rfl⟩
              obtain ⟨O, hO⟩ := HO.out
              clear HO
              rw [← hO]
              have HO := Lib.hid hO
              clear hO
              cases O with
              | true =>
                go_wp2_with fail
                go_roundw
                case rel => exact ⟨k + 1, by omega, by go_num, by rw [HS.out, ← Bool.or_assoc, ← HO.out]; rfl, more_of_below (by repeat (first | exact Below.refl _ _ | refine below_mo ?_ _ | refine below_al ?_ _))⟩
                case measure => simp [intOf]; omega
              | false =>
                cases hV : tornF n f.type
                all_goals
                  have HV := Lib.hid hV
                  clear hV
                  go_wp2_with (go_at_call 31; refine (IH.out f.type ⟨qk, qs, qp, qfa, qfl, qfc, qc, qea, qel, qec⟩ _ (TyAt.below (w := w) (by repeat (first | exact Below.refl _ _ | refine below_mo ?_ _ | refine below_al ?_ _)) HQ.out)).mono ?_; rw [HV.out]; rintro e w1 ⟨rfl, p1, rfl⟩)
                  go_roundw
                  case rel => exact ⟨k + 1, by omega, by go_num, by rw [HS.out, ← Bool.or_assoc, ← HO.out, HV.out]; rfl, more_of_below (by repeat (first | exact Below.refl _ _ | refine below_mo ?_ _ | refine below_al ?_ _))⟩
                  case measure => simp [intOf]; omega
            · obtain rfl : k = fl := by omega
              have HG : Hid (U = (M || anyK (fun f : FdF (Ty n) => tornF n f.type) t.fields k)) := by
                rw [HU.out, HM.out, ← anyK_all, ← anyK_all, ← E4.out, ← E6.out]
                exact Lib.hid rfl
              generalize (M || anyK (fun f : FdF (Ty n) => tornF n f.type) t.fields k) = O at *
              go_wp2_with fail
              go_ret
              exact Gives.mk (ret_bool (by rw [HG.out])) (by repeat (first | exact Below.refl _ _ | refine below_mo ?_ _ | refine below_al ?_ _))
end Go.Proofs.Ytlbkloamabomcaa
