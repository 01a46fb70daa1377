/- Walk: whether a union is in a type: the statement's own function. Conditions: the type lies in memory. -/
import Derived.Test.YtlbkloamabomcaaLayApartT
import Derived.Test.YtlbkloamabomcaaLayRefBig
namespace Go.Proofs.Ytlbkloamabomcaa
open Go.RowKit Go.Sort
set_option linter.unusedVariables false
set_option linter.unusedSimpArgs false
set_option maxHeartbeats 2000000 in
set_option maxRecDepth 100000 in
theorem union_any : ∀ (n : Nat) (t : Ty n) (r : Raw) (w : World), TyAt w n t r → Calls Try.prog 19 #[r.val] w (Gives w (.bool (unionF n t)))
  | 0, t, _, _, _ => nomatch t
  | n + 1, (t : TyF (Ty n)), r, w, hT => by
    have IH := Lib.hid (union_any n)
    have HT := Lib.hid hT
    obtain ⟨e1, e2, e3, e4, e5, e6, e7, e8, e9, hf, he⟩ := hT
    obtain ⟨rk, rs, rp, fa, fl, fc, rc, ea, el, ec⟩ := r
    simp only at e1 e2 e3 e4 e5 e6 hf he
    have HF := Lib.hid hf.2.2
    have HE := Lib.hid he.2.2
    have hfc := hf.1
    have hfm := hf.2.1
    have hec := he.1
    have hem := he.2.1
    have E4 := Lib.hid e4
    have E6 := Lib.hid e6
    clear hf he e4 e6 e5 e7 e8 e9
    have HU : Hid (unionF (n + 1) t = (rk == 4 || t.elem.any (unionF n) || t.fields.any (fun f => unionF n f.type))) := by rw [unionF_succ, e1]; exact Lib.hid rfl
    clear e1 e2 e3
    unfold Raw.val
    simp only
    have hA : (rk = 4 ∧ (rk == 4) = true) ∨ (rk ≠ 4 ∧ (rk == 4) = false) := by
      by_cases h1 : rk = 4 <;> simp [h1]
    generalize (rk == 4) = A at *
    generalize unionF (n + 1) t = U at *
    clear HT
    rcases hA with ⟨rfl, rfl⟩ | ⟨h1, rfl⟩
    · skip
      go_enter Try.func19, Try.ntmps19
      go_wp2_with fail
      go_loopw [3, 4] (fun o i wr => ∃ j : Nat, j ≤ el ∧ i = .int .i64 j ∧ o = .bool (true || anyK (unionF n) t.elem j) ∧
          ∃ p : Regrown, wr = more (w.alloc (.cells #[.int .i64 4, .int .i64 rs, .bool rp, .slice fa fl fc, .int .i64 rc, .slice ea el ec] 25)) p) (fun _ i _ => el - (intOf i).toNat)
      case atStart => exact ⟨0, by omega, rfl, by rw [anyK_zero]; first | rfl | (simp; omega), more_of_below (by repeat (first | exact Below.refl _ _ | refine below_mo ?_ _ | refine below_al ?_ _))⟩
      case round =>
        obtain ⟨j, hj, rfl, rfl, p, rfl⟩ := hrel
        by_cases hlt : (j : Int) < el
        · obtain ⟨b, off, rfl, hb, hc⟩ := HE.out (by omega)
          obtain ⟨f, hfk⟩ := get_some t.elem j (by have := E6.out; omega)
          obtain ⟨q, hq, c0, c1, c2, c3, c4, c5⟩ := hc j f hfk
          have HQ := Lib.hid hq
          have HS := Lib.hid (anyK_succ (unionF n) t.elem j f hfk)
          clear hq hc hfk
          obtain ⟨qk, qs, qp, qfa, qfl, qfc, qc, qea, qel, qec⟩ := q
          simp only at c0 c1 c2 c3 c4 c5
          have HO : Hid (∃ O, O = (true || anyK (unionF n) t.elem j)) := Lib.hid ⟨_, rfl⟩
          obtain ⟨O, hO⟩ := HO.out
          clear HO
          rw [← hO]
          have HO := Lib.hid hO
          clear hO
          cases O with
          | true =>
            go_wp2_with fail
            go_roundw
            case rel => exact ⟨j + 1, by omega, by go_num, by rw [HS.out, ← Bool.or_assoc, ← HO.out]; rfl, more_of_below (by repeat (first | exact Below.refl _ _ | refine below_mo ?_ _ | refine below_al ?_ _))⟩
            case measure => simp [intOf]; omega
          | false =>
            cases hV : unionF n f
            all_goals
              have HV := Lib.hid hV
              clear hV
              go_wp2_with (go_at_call 19; refine (IH.out f ⟨qk, qs, qp, qfa, qfl, qfc, qc, qea, qel, qec⟩ _ (TyAt.below (w := w) (by repeat (first | exact Below.refl _ _ | refine below_mo ?_ _ | refine below_al ?_ _)) HQ.out)).mono ?_; rw [HV.out]; rintro e w1 ⟨rfl, p1, rfl⟩)
              go_roundw
              case rel => exact ⟨j + 1, by omega, by go_num, by rw [HS.out, ← Bool.or_assoc, ← HO.out, HV.out]; rfl, more_of_below (by repeat (first | exact Below.refl _ _ | refine below_mo ?_ _ | refine below_al ?_ _))⟩
              case measure => simp [intOf]; omega
        · obtain rfl : j = el := by omega
          have HM : Hid (∃ M, M = (true || anyK (unionF n) t.elem j)) := Lib.hid ⟨_, rfl⟩
          obtain ⟨M, hM⟩ := HM.out
          clear HM
          rw [← hM]
          have HM := Lib.hid hM
          clear hM
          go_wp2_with fail
          go_loopw [3, 5] (fun o i wr => ∃ k : Nat, k ≤ fl ∧ i = .int .i64 k ∧ o = .bool (M || anyK (fun f : FdF (Ty n) => unionF n f.type) t.fields k) ∧
              ∃ p : Regrown, wr = more (w.alloc (.cells #[.int .i64 4, .int .i64 rs, .bool rp, .slice fa fl fc, .int .i64 rc, .slice ea j ec] 25)) p) (fun _ i _ => fl - (intOf i).toNat)
          case atStart => exact ⟨0, by omega, rfl, by rw [anyK_zero]; simp, more_of_below (by repeat (first | exact Below.refl _ _ | refine below_mo ?_ _ | refine below_al ?_ _))⟩
          case round =>
            obtain ⟨k, hk, rfl, rfl, p, rfl⟩ := hrel
            by_cases hlt : (k : Int) < fl
            · obtain ⟨b, off, rfl, hb, hc⟩ := HF.out (by omega)
              obtain ⟨f, hfk⟩ := get_some t.fields k (by have := E4.out; omega)
              obtain ⟨q, hq, g1, g2, c0, c1, c2, c3, c4, c5, c6, c7, c8⟩ := hc k f hfk
              have HQ := Lib.hid hq
              have HS := Lib.hid (anyK_succ (fun f : FdF (Ty n) => unionF n f.type) t.fields k f hfk)
              clear hq hc hfk
              obtain ⟨qk, qs, qp, qfa, qfl, qfc, qc, qea, qel, qec⟩ := q
              simp only at c1 c2 c3 c4 c5 c6
              have HO : Hid (∃ O, O = (M || anyK (fun f : FdF (Ty n) => unionF n f.type) t.fields k)) := Lib.hid ⟨_, rfl⟩
              obtain ⟨O, hO⟩ := HO.out
              clear HO
              rw [← hO]
              have HO := Lib.hid hO
              clear hO
              cases O with
              | true =>
                go_wp2_with fail
                go_roundw
                case rel => exact ⟨k + 1, by omega, by go_num, by rw [HS.out, ← Bool.or_assoc, ← HO.out]; rfl, more_of_below (by repeat (first | exact Below.refl _ _ | refine below_mo ?_ _ | refine below_al ?_ _))⟩
                case measure => simp [intOf]; omega
              | false =>
                cases hV : unionF n f.type
                all_goals
                  have HV := Lib.hid hV
                  clear hV
                  go_wp2_with (go_at_call 19; refine (IH.out f.type ⟨qk, qs, qp, qfa, qfl, qfc, qc, qea, qel, qec⟩ _ (TyAt.below (w := w) (by repeat (first | exact Below.refl _ _ | refine below_mo ?_ _ | refine below_al ?_ _)) HQ.out)).mono ?_; rw [HV.out]; rintro e w1 ⟨rfl, p1, rfl⟩)
                  go_roundw
                  case rel => exact ⟨k + 1, by omega, by go_num, by rw [HS.out, ← Bool.or_assoc, ← HO.out, HV.out]; rfl, more_of_below (by repeat (first | exact Below.refl _ _ | refine below_mo ?_ _ | refine below_al ?_ _))⟩
                  case measure => simp [intOf]; omega
            · obtain rfl : k = fl := by omega
              have HG : Hid (U = (M || anyK (fun f : FdF (Ty n) => unionF n f.type) t.fields k)) := by
                rw [HU.out, HM.out, ← anyK_all, ← anyK_all, ← E4.out, ← E6.out]
                exact Lib.hid rfl
              generalize (M || anyK (fun f : FdF (Ty n) => unionF n f.type) t.fields k) = O at *
              go_wp2_with fail
              go_ret
              exact Gives.mk (ret_bool (by rw [HG.out])) (by repeat (first | exact Below.refl _ _ | refine below_mo ?_ _ | refine below_al ?_ _))
    · skip
      go_enter Try.func19, Try.ntmps19
      go_wp2_with fail
      go_loopw [3, 4] (fun o i wr => ∃ j : Nat, j ≤ el ∧ i = .int .i64 j ∧ o = .bool (false || anyK (unionF n) t.elem j) ∧
          ∃ p : Regrown, wr = more (w.alloc (.cells #[.int .i64 rk, .int .i64 rs, .bool rp, .slice fa fl fc, .int .i64 rc, .slice ea el ec] 25)) p) (fun _ i _ => el - (intOf i).toNat)
      case atStart => exact ⟨0, by omega, rfl, by rw [anyK_zero]; first | rfl | (simp; omega), more_of_below (by repeat (first | exact Below.refl _ _ | refine below_mo ?_ _ | refine below_al ?_ _))⟩
      case round =>
        obtain ⟨j, hj, rfl, rfl, p, rfl⟩ := hrel
        by_cases hlt : (j : Int) < el
        · obtain ⟨b, off, rfl, hb, hc⟩ := HE.out (by omega)
          obtain ⟨f, hfk⟩ := get_some t.elem j (by have := E6.out; omega)
          obtain ⟨q, hq, c0, c1, c2, c3, c4, c5⟩ := hc j f hfk
          have HQ := Lib.hid hq
          have HS := Lib.hid (anyK_succ (unionF n) t.elem j f hfk)
          clear hq hc hfk
          obtain ⟨qk, qs, qp, qfa, qfl, qfc, qc, qea, qel, qec⟩ := q
          simp only at c0 c1 c2 c3 c4 c5
          have HO : Hid (∃ O, O = (false || anyK (unionF n) t.elem j)) := Lib.hid ⟨_, rfl⟩
          obtain ⟨O, hO⟩ := HO.out
          clear HO
          rw [← hO]
          have HO := Lib.hid hO
          clear hO
          cases O with
          | true =>
            go_wp2_with fail
            go_roundw
            case rel => exact ⟨j + 1, by omega, by go_num, by rw [HS.out, ← Bool.or_assoc, ← HO.out]; rfl, more_of_below (by repeat (first | exact Below.refl _ _ | refine below_mo ?_ _ | refine below_al ?_ _))⟩
            case measure => simp [intOf]; omega
          | false =>
            cases hV : unionF n f
            all_goals
              have HV := Lib.hid hV
              clear hV
              go_wp2_with (go_at_call 19; refine (IH.out f ⟨qk, qs, qp, qfa, qfl, qfc, qc, qea, qel, qec⟩ _ (TyAt.below (w := w) (by repeat (first | exact Below.refl _ _ | refine below_mo ?_ _ | refine below_al ?_ _)) HQ.out)).mono ?_; rw [HV.out]; rintro e w1 ⟨rfl, p1, rfl⟩)
              go_roundw
              case rel => exact ⟨j + 1, by omega, by go_num, by rw [HS.out, ← Bool.or_assoc, ← HO.out, HV.out]; rfl, more_of_below (by repeat (first | exact Below.refl _ _ | refine below_mo ?_ _ | refine below_al ?_ _))⟩
              case measure => simp [intOf]; omega
        · obtain rfl : j = el := by omega
          have HM : Hid (∃ M, M = (false || anyK (unionF n) t.elem j)) := Lib.hid ⟨_, rfl⟩
          obtain ⟨M, hM⟩ := HM.out
          clear HM
          rw [← hM]
          have HM := Lib.hid hM
          clear hM
          go_wp2_with fail
          go_loopw [3, 5] (fun o i wr => ∃ k : Nat, k ≤ fl ∧ i = .int .i64 k ∧ o = .bool (M || anyK (fun f : FdF (Ty n) => unionF n f.type) t.fields k) ∧
              ∃ p : Regrown, wr = more (w.alloc (.cells #[.int .i64 rk, .int .i64 rs, .bool rp, .slice fa fl fc, .int .i64 rc, .slice ea j ec] 25)) p) (fun _ i _ => fl - (intOf i).toNat)
          case atStart => exact ⟨0, by omega, rfl, by rw [anyK_zero]; simp, more_of_below (by repeat (first | exact Below.refl _ _ | refine below_mo ?_ _ | refine below_al ?_ _))⟩
          case round =>
            obtain ⟨k, hk, rfl, rfl, p, rfl⟩ := hrel
            by_cases hlt : (k : Int) < fl
            · obtain ⟨b, off, rfl, hb, hc⟩ := HF.out (by omega)
              obtain ⟨f, hfk⟩ := get_some t.fields k (by have := E4.out; omega)
              obtain ⟨q, hq, g1, g2, c0, c1, c2, c3, c4, c5, c6, c7, c8⟩ := hc k f hfk
              have HQ := Lib.hid hq
              have HS := Lib.hid (anyK_succ (fun f : FdF (Ty n) => unionF n f.type) t.fields k f hfk)
              clear hq hc hfk
              obtain ⟨qk, qs, qp, qfa, qfl, qfc, qc, qea, qel, qec⟩ := q
              simp only at c1 c2 c3 c4 c5 c6
              have HO : Hid (∃ O, O = (M || anyK (fun f : FdF (Ty n) => unionF n f.type) t.fields k)) := Lib.hid ⟨_, rfl⟩
              obtain ⟨O, hO⟩ := HO.out
              clear HO
              rw [← hO]
              have HO := Lib.hid hO
              clear hO
              cases O with
              | true =>
                go_wp2_with fail
                go_roundw
                case rel => exact ⟨k + 1, by omega, by go_num, by rw [HS.out, ← Bool.or_assoc, ← HO.out]; rfl, more_of_below (by repeat (first | exact Below.refl _ _ | refine below_mo ?_ _ | refine below_al ?_ _))⟩
                case measure => simp [intOf]; omega
              | false =>
                cases hV : unionF n f.type
                all_goals
                  have HV := Lib.hid hV
                  clear hV
                  go_wp2_with (go_at_call 19; refine (IH.out f.type ⟨qk, qs, qp, qfa, qfl, qfc, qc, qea, qel, qec⟩ _ (TyAt.below (w := w) (by repeat (first | exact Below.refl _ _ | refine below_mo ?_ _ | refine below_al ?_ _)) HQ.out)).mono ?_; rw [HV.out]; rintro e w1 ⟨rfl, p1, rfl⟩)
                  go_roundw
                  case rel => exact ⟨k + 1, by omega, by go_num, by rw [HS.out, ← Bool.or_assoc, ← HO.out, HV.out]; rfl, more_of_below (by repeat (first | exact Below.refl _ _ | refine below_mo ?_ _ | refine below_al ?_ _))⟩
                  case measure => simp [intOf]; omega
            · obtain rfl : k = fl := by omega
              have HG : Hid (U = (M || anyK (fun f : FdF (Ty n) => unionF n f.type) t.fields k)) := by
                rw [HU.out, HM.out, ← anyK_all, ← anyK_all, ← E4.out, ← E6.out]
                exact Lib.hid rfl
              generalize (M || anyK (fun f : FdF (Ty n) => unionF n f.type) t.fields k) = O at *
              go_wp2_with fail
              go_ret
              exact Gives.mk (ret_bool (by rw [HG.out])) (by repeat (first | exact Below.refl _ _ | refine below_mo ?_ _ | refine below_al ?_ _))
end Go.Proofs.Ytlbkloamabomcaa
