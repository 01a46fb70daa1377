/- How deep types stand: the program's and the document's walk. Conditions: the type lies in memory; no more than 100 levels are asked. -/
import Derived.Test.YtlbkloamabomcaaProg
import Derived.Test.YtlbkloamabomcaaKindTy
namespace Go.Proofs.Ytlbkloamabomcaa
open Go.RowKit Go.Sort
set_option linter.unusedVariables false
set_option linter.unusedSimpArgs false
theorem ret_int {k : IntKind} {a b : Int} (h : a = b) : Ending.returned (.int k a) = .returned (.int k b) := by rw [h]
theorem ret_bool {a b : Bool} (h : a = b) : Ending.returned (.bool a) = .returned (.bool b) := by rw [h]
/-- a fold over the first k of a list. -/
def foldK {α β : Type} (g : β → α → β) (o : β) (l : List α) (k : Nat) : β := (l.take k).foldl g o
theorem foldK_zero {α β : Type} (g : β → α → β) (o : β) (l : List α) : foldK g o l 0 = o := by simp [foldK]
theorem foldK_succ {α β : Type} (g : β → α → β) (o : β) (l : List α) (k : Nat) (a : α) (h : l[k]? = some a) : foldK g o l (k + 1) = g (foldK g o l k) a := by
  unfold foldK
  rw [List.take_add_one, h]
  simp
theorem foldK_all {α β : Type} (g : β → α → β) (o : β) (l : List α) : foldK g o l l.length = l.foldl g o := by simp [foldK]
theorem get_some {α : Type} (l : List α) (k : Nat) (h : k < l.length) : ∃ a, l[k]? = some a := ⟨l[k], List.getElem?_eq_getElem h⟩
def depthF : (n : Nat) → Ty n → Int → Int
  | 0, t, _ => nomatch t
  | n + 1, (t : TyF (Ty n)), most =>
    (if 1 < most then t.elem.foldl (fun o e => max o (depthF n e (most - 1))) (t.fields.foldl (fun o f => max o (depthF n f.type (most - 1))) 0) else 0) + 1
theorem depthF_succ (n : Nat) (t : TyF (Ty n)) (most : Int) : depthF (n + 1) t most =
    (if 1 < most then t.elem.foldl (fun o e => max o (depthF n e (most - 1))) (t.fields.foldl (fun o f => max o (depthF n f.type (most - 1))) 0) else 0) + 1 := rfl
theorem foldl_max_le {α : Type} (g : α → Int) (B : Int) (h : ∀ a, 1 ≤ g a ∧ g a ≤ B) : ∀ (l : List α) (o : Int), 0 ≤ o → o ≤ B → 0 ≤ l.foldl (fun o a => max o (g a)) o ∧ l.foldl (fun o a => max o (g a)) o ≤ B
  | [], o, h0, h1 => ⟨h0, h1⟩
  | a :: l, o, h0, h1 => by
    have := h a
    exact foldl_max_le g B h l (max o (g a)) (by omega) (by omega)
theorem depthF_rng : ∀ (n : Nat) (t : Ty n) (most : Int), 1 ≤ most → 1 ≤ depthF n t most ∧ depthF n t most ≤ most
  | 0, t, _, _ => nomatch t
  | n + 1, (t : TyF (Ty n)), most, hm => by
    rw [depthF_succ]
    by_cases h : 1 < most
    · rw [if_pos h]
      have h1 := foldl_max_le (fun f : FdF (Ty n) => depthF n f.type (most - 1)) (most - 1) (fun f => depthF_rng n f.type (most - 1) (by omega)) t.fields 0 (by omega) (by omega)
      have h2 := foldl_max_le (fun e : Ty n => depthF n e (most - 1)) (most - 1) (fun e => depthF_rng n e (most - 1) (by omega)) t.elem _ h1.1 h1.2
      omega
    · rw [if_neg h]; omega
theorem foldK_max_rng {α : Type} (g : α → Int) (B : Int) (h : ∀ a, 1 ≤ g a ∧ g a ≤ B) (l : List α) (o : Int) (h0 : 0 ≤ o) (h1 : o ≤ B) (k : Nat) : 0 ≤ foldK (fun o a => max o (g a)) o l k ∧ foldK (fun o a => max o (g a)) o l k ≤ B :=
  foldl_max_le g B h (l.take k) o h0 h1
set_option maxHeartbeats 2000000 in
set_option maxRecDepth 100000 in
theorem depth_any : ∀ (n : Nat) (t : Ty n) (r : Raw) (most : Int) (w : World), 1 ≤ most → most ≤ 100 → TyAt w n t r →
    Calls Try.prog 73 #[r.val, .int .i64 most] w (Gives w (.int .i64 (depthF n t most)))
  | 0, t, _, _, _, _, _, _ => nomatch t
  | n + 1, (t : TyF (Ty n)), r, most, w, hm0, hm1, hT => by
    have IH := Lib.hid (depth_any n)
    have HT := hT
    obtain ⟨e1, e2, e3, e4, e5, e6, e7, e8, e9, hf, he⟩ := hT
    obtain ⟨rk, rs, rp, fa, fl, fc, rc, ea, el, ec⟩ := r
    simp only at e1 e2 e3 e4 e5 e6 hf he
    unfold Raw.val
    simp only
    by_cases hgt : 1 < most
    · have HF := Lib.hid hf.2.2
      have HE := Lib.hid he.2.2
      have hfc := hf.1
      have hfm := hf.2.1
      have hec := he.1
      have hem := he.2.1
      have E4 := Lib.hid e4
      have E6 := Lib.hid e6
      clear hf he e1 e2 e3 e4 e5 e6 e7 e8 e9 HT
      go_enter Try.func73, Try.ntmps73
      have HB1 := Lib.hid (foldK_max_rng (fun f : FdF (Ty n) => depthF n f.type (most - 1)) (most - 1) (fun f => depthF_rng n f.type (most - 1) (by omega)) t.fields 0 (by omega) (by omega))
      go_wp2_with fail
      go_loopw [5, 15] (fun o i wr => ∃ k : Nat, k ≤ fl ∧ i = .int .i64 k ∧ o = .int .i64 (foldK (fun o f => max o (depthF n f.type (most - 1))) 0 t.fields k) ∧
          ∃ p : Regrown, wr = more (w.alloc (.cells #[.int .i64 rk, .int .i64 rs, .bool rp, .slice fa fl fc, .int .i64 rc, .slice ea el ec] 25)) p) (fun _ i _ => fl - (intOf i).toNat)
      case atStart => exact ⟨0, by omega, rfl, by rw [foldK_zero], more_of_below (Below.refl _ _)⟩
      case round =>
        obtain ⟨k, hk, rfl, rfl, p, rfl⟩ := hrel
        by_cases hlt : (k : Int) < fl
        · obtain ⟨b, off, rfl, hb, hc⟩ := HF.out (by omega)
          obtain ⟨f, hfk⟩ := get_some t.fields k (by have := E4.out; omega)
          obtain ⟨q, hq, g1, g2, c0, c1, c2, c3, c4, c5, c6, c7, c8⟩ := hc k f hfk
          have HQ := Lib.hid hq
          have HS := Lib.hid (foldK_succ (fun o f => max o (depthF n f.type (most - 1))) 0 t.fields k f hfk)
          have hr1 := HB1.out k
          have hr2 := depthF_rng n f.type (most - 1) (by omega)
          clear hq hc hfk
          obtain ⟨qk, qs, qp, qfa, qfl, qfc, qc, qea, qel, qec⟩ := q
          simp only at c1 c2 c3 c4 c5 c6
          generalize hD : depthF n f.type (most - 1) = D at *
          generalize hO : foldK (fun o f => max o (depthF n f.type (most - 1))) 0 t.fields k = O at *
          have HD := Lib.hid hD
          clear hD hO
          rcases Int.lt_or_le O D with h3 | h3
          · go_wp2_with (go_at_call 73; refine (IH.out f.type ⟨qk, qs, qp, qfa, qfl, qfc, qc, qea, qel, qec⟩ (most - 1) _ (by omega) (by omega) (TyAt.below (w := w) (by repeat (first | exact Below.refl _ _ | refine below_mo ?_ _ | refine below_al ?_ _)) HQ.out)).mono ?_; rw [HD.out]; rintro e w1 ⟨rfl, p1, rfl⟩)
            go_roundw
            case rel => exact ⟨k + 1, by omega, by go_num, by rw [HS.out, show max O D = D by omega], more_of_below (by repeat (first | exact Below.refl _ _ | refine below_mo ?_ _ | refine below_al ?_ _))⟩
            case measure => simp [intOf]; omega
          · go_wp2_with (go_at_call 73; refine (IH.out f.type ⟨qk, qs, qp, qfa, qfl, qfc, qc, qea, qel, qec⟩ (most - 1) _ (by omega) (by omega) (TyAt.below (w := w) (by repeat (first | exact Below.refl _ _ | refine below_mo ?_ _ | refine below_al ?_ _)) HQ.out)).mono ?_; rw [HD.out]; rintro e w1 ⟨rfl, p1, rfl⟩)
            go_roundw
            case rel => exact ⟨k + 1, by omega, by go_num, by rw [HS.out, show max O D = O by omega], more_of_below (by repeat (first | exact Below.refl _ _ | refine below_mo ?_ _ | refine below_al ?_ _))⟩
            case measure => simp [intOf]; omega
        · obtain rfl : k = fl := by omega
          have HB2 := Lib.hid (foldK_max_rng (fun e : Ty n => depthF n e (most - 1)) (most - 1) (fun e => depthF_rng n e (most - 1) (by omega)) t.elem (foldK (fun o f => max o (depthF n f.type (most - 1))) 0 t.fields k) (HB1.out k).1 (HB1.out k).2)
          go_wp2_with fail
          go_loopw [5, 30] (fun o i wr => ∃ j : Nat, j ≤ el ∧ i = .int .i64 j ∧ o = .int .i64 (foldK (fun o e => max o (depthF n e (most - 1))) (foldK (fun o f => max o (depthF n f.type (most - 1))) 0 t.fields k) t.elem j) ∧
              ∃ p : Regrown, wr = more (w.alloc (.cells #[.int .i64 rk, .int .i64 rs, .bool rp, .slice fa k fc, .int .i64 rc, .slice ea el ec] 25)) p) (fun _ i _ => el - (intOf i).toNat)
          case atStart => exact ⟨0, by omega, rfl, by rw [foldK_zero], more_of_below (by repeat (first | exact Below.refl _ _ | refine below_mo ?_ _ | refine below_al ?_ _))⟩
          case round =>
            obtain ⟨j, hj, rfl, rfl, p, rfl⟩ := hrel
            by_cases hlt : (j : Int) < el
            · obtain ⟨b, off, rfl, hb, hc⟩ := HE.out (by omega)
              obtain ⟨f, hfk⟩ := get_some t.elem j (by have := E6.out; omega)
              obtain ⟨q, hq, c0, c1, c2, c3, c4, c5⟩ := hc j f hfk
              have HQ := Lib.hid hq
              have HS := Lib.hid (foldK_succ (fun o e => max o (depthF n e (most - 1))) (foldK (fun o f => max o (depthF n f.type (most - 1))) 0 t.fields k) t.elem j f hfk)
              have hr1 := HB2.out j
              have hr2 := depthF_rng n f (most - 1) (by omega)
              clear hq hc hfk
              obtain ⟨qk, qs, qp, qfa, qfl, qfc, qc, qea, qel, qec⟩ := q
              simp only at c0 c1 c2 c3 c4 c5
              generalize hD : depthF n f (most - 1) = D at *
              generalize hO : foldK (fun o e => max o (depthF n e (most - 1))) (foldK (fun o f => max o (depthF n f.type (most - 1))) 0 t.fields k) t.elem j = O at *
              have HD := Lib.hid hD
              clear hD hO
              rcases Int.lt_or_le O D with h3 | h3
              · go_wp2_with (go_at_call 73; refine (IH.out f ⟨qk, qs, qp, qfa, qfl, qfc, qc, qea, qel, qec⟩ (most - 1) _ (by omega) (by omega) (TyAt.below (w := w) (by repeat (first | exact Below.refl _ _ | refine below_mo ?_ _ | refine below_al ?_ _)) HQ.out)).mono ?_; rw [HD.out]; rintro e w1 ⟨rfl, p1, rfl⟩)
                go_roundw
                case rel => exact ⟨j + 1, by omega, by go_num, by rw [HS.out, show max O D = D by omega], more_of_below (by repeat (first | exact Below.refl _ _ | refine below_mo ?_ _ | refine below_al ?_ _))⟩
                case measure => simp [intOf]; omega
              · go_wp2_with (go_at_call 73; refine (IH.out f ⟨qk, qs, qp, qfa, qfl, qfc, qc, qea, qel, qec⟩ (most - 1) _ (by omega) (by omega) (TyAt.below (w := w) (by repeat (first | exact Below.refl _ _ | refine below_mo ?_ _ | refine below_al ?_ _)) HQ.out)).mono ?_; rw [HD.out]; rintro e w1 ⟨rfl, p1, rfl⟩)
                go_roundw
                case rel => exact ⟨j + 1, by omega, by go_num, by rw [HS.out, show max O D = O by omega], more_of_below (by repeat (first | exact Below.refl _ _ | refine below_mo ?_ _ | refine below_al ?_ _))⟩
                case measure => simp [intOf]; omega
            · obtain rfl : j = el := by omega
              have hr1 := HB2.out j
              have HG : Hid (depthF (n + 1) t most = foldK (fun o e => max o (depthF n e (most - 1))) (foldK (fun o f => max o (depthF n f.type (most - 1))) 0 t.fields k) t.elem j + 1) := by
                have := E4.out
                have := E6.out
                rw [depthF_succ, if_pos hgt, ← foldK_all, ← foldK_all, ← E4.out, ← E6.out]
                exact Lib.hid rfl
              generalize hO : foldK (fun o e => max o (depthF n e (most - 1))) (foldK (fun o f => max o (depthF n f.type (most - 1))) 0 t.fields k) t.elem j = O at *
              clear hO
              go_wp2_with fail
              go_ret
              exact Gives.mk (ret_int (by rw [HG.out])) (by repeat (first | exact Below.refl _ _ | refine below_mo ?_ _ | refine below_al ?_ _))
    · have HG : Hid (depthF (n + 1) t most = 1) := by rw [depthF_succ, if_neg hgt]; exact Lib.hid rfl
      clear hf he e1 e2 e3 e4 e5 e6 e7 e8 e9 HT
      go_enter Try.func73, Try.ntmps73
      go_wp2_with fail
      go_ret
      exact Gives.mk (ret_int (by rw [HG.out])) (by repeat (first | exact Below.refl _ _ | refine below_mo ?_ _ | refine below_al ?_ _))
end Go.Proofs.Ytlbkloamabomcaa
