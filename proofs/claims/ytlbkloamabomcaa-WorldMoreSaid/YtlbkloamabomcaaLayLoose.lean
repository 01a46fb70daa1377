/- Walks: whether an Atom of more than a byte is in a type, and whether a Packed one has such an Atom: the program's loose and torn. Conditions: the type lies in memory. -/
import Derived.Test.YtlbkloamabomcaaLayMath
namespace Go.Proofs.Ytlbkloamabomcaa
open Go.RowKit Go.Sort
set_option linter.unusedVariables false
set_option linter.unusedSimpArgs false
theorem int_ge (r : Int) : decide (r ≥ 0) = decide (0 ≤ r) := rfl

set_option maxHeartbeats 1000000 in
theorem idxT_loose (n : Nat) (l : List (Ty n)) (ea : Option Addr) (ec : Nat) (w : World)
    (IH : ∀ (e : Ty n) (r : Raw) (W : World), TyAt W n e r → Calls Try.prog 62 #[r.val] W (Gives W (.bool (looseF n e))))
    (hm : l.length ≤ ec ∧ ec ≤ 9223372036854775807) (h : 0 < l.length → ∃ b off, ea = some ⟨b, off, none⟩ ∧ b < w.heap.size ∧ ∀ i e, l[i]? = some e → ∃ q : Raw, TyAt w n e q ∧ w.cell? ⟨b, off + i * 6, none⟩ = some (.int .i64 q.kind) ∧ w.cell? ⟨b, off + i * 6 + 1, none⟩ = some (.int .i64 q.size) ∧
        w.cell? ⟨b, off + i * 6 + 2, none⟩ = some (.bool q.packed) ∧ w.cell? ⟨b, off + i * 6 + 3, none⟩ = some (.slice q.fa q.fl q.fc) ∧ w.cell? ⟨b, off + i * 6 + 4, none⟩ = some (.int .i64 q.count) ∧
        w.cell? ⟨b, off + i * 6 + 5, none⟩ = some (.slice q.ea q.el q.ec)) :
    Calls Try.prog 78 #[.slice ea l.length ec, .func (.func 62) #[] #[]] w fun e w' => (∃ r : Int, e = .returned (.int .i64 r) ∧ -1 ≤ r ∧ r ≤ 9223372036854775807 ∧ decide (0 ≤ r) = l.any (looseF n)) ∧ ∃ p : Regrown, w' = more w p := by
  have IH := Lib.hid IH
  have HE := Lib.hid h
  obtain ⟨hm1, hm2⟩ := hm
  clear h
  have HL : Hid (∃ N, N = l.length) := Lib.hid ⟨_, rfl⟩
  obtain ⟨N, hN⟩ := HL.out
  clear HL
  rw [← hN] at HE hm1 ⊢
  have HN := Lib.hid hN
  clear hN
  go_enter Try.func78, Try.ntmps78
  go_wp2_with fail
  go_loopw [8] (fun i wr => ∃ k : Nat, k ≤ N ∧ i = .int .i64 k ∧ (∀ j e, j < k → l[j]? = some e → looseF n e = false) ∧ ∃ p : Regrown, wr = more w p) (fun i _ => N - (intOf i).toNat)
  case atStart => exact ⟨0, by omega, rfl, fun j e hj => by omega, more_of_below (by repeat (first | exact Below.refl _ _ | refine below_mo ?_ _ | refine below_al ?_ _))⟩
  case round =>
    obtain ⟨k, hk, rfl, hl, p, rfl⟩ := hrel
    have HP := Lib.hid hl
    clear hl
    by_cases hlt : (k : Int) < N
    · obtain ⟨b, off, rfl, hb, hc⟩ := HE.out (by omega)
      obtain ⟨f, hfk⟩ := get_some l k (by have := HN.out; omega)
      obtain ⟨q, hq, c0, c1, c2, c3, c4, c5⟩ := hc k f hfk
      have HQ := Lib.hid hq
      have HF := Lib.hid hfk
      clear hq hc hfk
      obtain ⟨qk, qs, qp, qfa, qfl, qfc, qc, qea, qel, qec⟩ := q
      simp only at c0 c1 c2 c3 c4 c5
      unfold Raw.val at IH
      cases hv : looseF n f with
      | true =>
        have HV := Lib.hid hv
        clear hv
        go_wp2_with (go_at_call 62; refine (IH.out _ _ _ (TyAt.below (w := w) (by repeat (first | exact Below.refl _ _ | refine below_mo ?_ _ | refine below_al ?_ _)) HQ.out)).mono ?_; rw [HV.out]; rintro e w1 ⟨rfl, p1, rfl⟩)
        go_ret
        exact ⟨⟨_, rfl, by omega, by omega, by
          rw [show decide ((0 : Int) ≤ k) = true by simp]
          exact (List.any_eq_true.2 ⟨f, List.mem_of_getElem? HF.out, HV.out⟩).symm⟩, more_of_below (by repeat (first | exact Below.refl _ _ | refine below_mo ?_ _ | refine below_al ?_ _))⟩
      | false =>
        have HV := Lib.hid hv
        clear hv
        go_wp2_with (go_at_call 62; refine (IH.out _ _ _ (TyAt.below (w := w) (by repeat (first | exact Below.refl _ _ | refine below_mo ?_ _ | refine below_al ?_ _)) HQ.out)).mono ?_; rw [HV.out]; rintro e w1 ⟨rfl, p1, rfl⟩)
        go_roundw
        case rel => exact ⟨k + 1, by omega, by go_num, fun j e hj he => by
          rcases Nat.lt_or_ge j k with hjk | hjk
          · exact HP.out j e hjk he
          · obtain rfl : j = k := by omega
            have := HF.out
            rw [he] at this
            cases this
            exact HV.out, more_of_below (by repeat (first | exact Below.refl _ _ | refine below_mo ?_ _ | refine below_al ?_ _))⟩
        case measure => simp [intOf]; omega
    · obtain rfl : k = N := by omega
      go_wp2_with fail
      go_ret
      exact ⟨⟨_, rfl, by omega, by omega, by
        rw [show decide ((0 : Int) ≤ -1) = false by decide]
        refine (List.any_eq_false.2 fun e he => ?_).symm
        obtain ⟨j, hj⟩ := List.getElem?_of_mem he
        have hjl : j < l.length := (List.getElem?_eq_some_iff.1 hj).1
        have := HP.out j e (by have := HN.out; omega) hj
        simpa using this⟩, more_of_below (by repeat (first | exact Below.refl _ _ | refine below_mo ?_ _ | refine below_al ?_ _))⟩
theorem hasT_loose (n : Nat) (l : List (Ty n)) (ea : Option Addr) (ec : Nat) (w : World)
    (IH : ∀ (e : Ty n) (r : Raw) (W : World), TyAt W n e r → Calls Try.prog 62 #[r.val] W (Gives W (.bool (looseF n e))))
    (hm : l.length ≤ ec ∧ ec ≤ 9223372036854775807) (h : 0 < l.length → ∃ b off, ea = some ⟨b, off, none⟩ ∧ b < w.heap.size ∧ ∀ i e, l[i]? = some e → ∃ q : Raw, TyAt w n e q ∧ w.cell? ⟨b, off + i * 6, none⟩ = some (.int .i64 q.kind) ∧ w.cell? ⟨b, off + i * 6 + 1, none⟩ = some (.int .i64 q.size) ∧
        w.cell? ⟨b, off + i * 6 + 2, none⟩ = some (.bool q.packed) ∧ w.cell? ⟨b, off + i * 6 + 3, none⟩ = some (.slice q.fa q.fl q.fc) ∧ w.cell? ⟨b, off + i * 6 + 4, none⟩ = some (.int .i64 q.count) ∧
        w.cell? ⟨b, off + i * 6 + 5, none⟩ = some (.slice q.ea q.el q.ec)) :
    Calls Try.prog 63 #[.slice ea l.length ec, .func (.func 62) #[] #[]] w (Gives w (.bool (l.any (looseF n)))) := by
  have IX := Lib.hid (idxT_loose n l ea ec w IH hm h)
  clear h IH
  generalize l.any (looseF n) = v at *
  go_enter Try.func63, Try.ntmps63
  go_wp2_with (go_at_call 78; refine (IX.out).mono ?_; rintro e w1 ⟨⟨r, rfl, hr1, hr2, hr⟩, p1, rfl⟩; rcases Int.lt_or_le r 0 with hr0 | hr0)
  all_goals go_ret
  all_goals exact Gives.mk (ret_bool (by rw [← hr]; first | done | (simp; try omega))) (by repeat (first | exact Below.refl _ _ | refine below_mo ?_ _ | refine below_al ?_ _))
theorem fld_loose (n : Nat) (s : ByteArray) (bt : Bool) (wd : Int) (t : Ty n) (r : Raw) (w : World) (IH : ∀ W : World, Below w.heap.size w W → Calls Try.prog 62 #[r.val] W (Gives W (.bool (looseF n t)))) :
    Calls Try.prog 77 #[.agg #[.string s, .int .i64 r.kind, .int .i64 r.size, .bool r.packed, .slice r.fa r.fl r.fc, .int .i64 r.count, .slice r.ea r.el r.ec, .bool bt, .int .i64 wd]] w (Gives w (.bool (looseF n t))) := by
  have IH := Lib.hid IH
  obtain ⟨rk, rs, rp, fa, fl, fc, rc, ea, el, ec⟩ := r
  unfold Raw.val at IH
  simp only at IH ⊢
  generalize looseF n t = v at *
  go_enter Try.func77, Try.ntmps77
  go_wp2_with (go_at_call 62; refine (IH.out _ (by repeat (first | exact Below.refl _ _ | refine below_mo ?_ _ | refine below_al ?_ _))).mono ?_; rintro e w1 ⟨rfl, p1, rfl⟩)
  go_ret
  exact Gives.mk rfl (by repeat (first | exact Below.refl _ _ | refine below_mo ?_ _ | refine below_al ?_ _))
set_option maxHeartbeats 1000000 in
theorem idxF_loose (n : Nat) (l : List (FdF (Ty n))) (ea : Option Addr) (ec : Nat) (w : World)
    (IH : ∀ (e : Ty n) (r : Raw) (W : World), TyAt W n e r → Calls Try.prog 62 #[r.val] W (Gives W (.bool (looseF n e))))
    (hm : l.length ≤ ec ∧ ec ≤ 9223372036854775807) (h : 0 < l.length → ∃ b off, ea = some ⟨b, off, none⟩ ∧ b < w.heap.size ∧ ∀ i e, l[i]? = some e → ∃ q : Raw, TyAt w n e.type q ∧ rng e.width ∧ e.name.size ≤ 9223372036854775807 ∧
        w.cell? ⟨b, off + i * 9, none⟩ = some (.string e.name) ∧ w.cell? ⟨b, off + i * 9 + 1, none⟩ = some (.int .i64 q.kind) ∧ w.cell? ⟨b, off + i * 9 + 2, none⟩ = some (.int .i64 q.size) ∧
        w.cell? ⟨b, off + i * 9 + 3, none⟩ = some (.bool q.packed) ∧ w.cell? ⟨b, off + i * 9 + 4, none⟩ = some (.slice q.fa q.fl q.fc) ∧ w.cell? ⟨b, off + i * 9 + 5, none⟩ = some (.int .i64 q.count) ∧
        w.cell? ⟨b, off + i * 9 + 6, none⟩ = some (.slice q.ea q.el q.ec) ∧ w.cell? ⟨b, off + i * 9 + 7, none⟩ = some (.bool e.isBits) ∧ w.cell? ⟨b, off + i * 9 + 8, none⟩ = some (.int .i64 e.width)) :
    Calls Try.prog 58 #[.slice ea l.length ec, .func (.func 77) #[] #[]] w fun e w' => (∃ r : Int, e = .returned (.int .i64 r) ∧ -1 ≤ r ∧ r ≤ 9223372036854775807 ∧ decide (0 ≤ r) = l.any (fun f => looseF n f.type)) ∧ ∃ p : Regrown, w' = more w p := by
  have IH := Lib.hid IH
  have HE := Lib.hid h
  obtain ⟨hm1, hm2⟩ := hm
  clear h
  have HL : Hid (∃ N, N = l.length) := Lib.hid ⟨_, rfl⟩
  obtain ⟨N, hN⟩ := HL.out
  clear HL
  rw [← hN] at HE hm1 ⊢
  have HN := Lib.hid hN
  clear hN
  go_enter Try.func58, Try.ntmps58
  go_wp2_with fail
  go_loopw [8] (fun i wr => ∃ k : Nat, k ≤ N ∧ i = .int .i64 k ∧ (∀ j e, j < k → l[j]? = some e → looseF n e.type = false) ∧ ∃ p : Regrown, wr = more w p) (fun i _ => N - (intOf i).toNat)
  case atStart => exact ⟨0, by omega, rfl, fun j e hj => by omega, more_of_below (by repeat (first | exact Below.refl _ _ | refine below_mo ?_ _ | refine below_al ?_ _))⟩
  case round =>
    obtain ⟨k, hk, rfl, hl, p, rfl⟩ := hrel
    have HP := Lib.hid hl
    clear hl
    by_cases hlt : (k : Int) < N
    · obtain ⟨b, off, rfl, hb, hc⟩ := HE.out (by omega)
      obtain ⟨f, hfk⟩ := get_some l k (by have := HN.out; omega)
      obtain ⟨q, hq, g1, g2, c0, c1, c2, c3, c4, c5, c6, c7, c8⟩ := hc k f hfk
      have HQ := Lib.hid hq
      have HF := Lib.hid hfk
      clear hq hc hfk
      obtain ⟨qk, qs, qp, qfa, qfl, qfc, qc, qea, qel, qec⟩ := q
      simp only at c1 c2 c3 c4 c5 c6
      unfold Raw.val at IH
      cases hv : looseF n f.type with
      | true =>
        have HV := Lib.hid hv
        clear hv
        go_wp2_with (go_at_call 77; refine (fld_loose n _ _ _ _ ⟨qk, qs, qp, qfa, qfl, qfc, qc, qea, qel, qec⟩ _ (fun W hW => IH.out _ _ W (TyAt.below (w := w) (below_next (by repeat (first | exact Below.refl _ _ | refine below_mo ?_ _ | refine below_al ?_ _)) hW) HQ.out))).mono ?_; rw [HV.out]; rintro e w1 ⟨rfl, p1, rfl⟩)
        go_ret
        exact ⟨⟨_, rfl, by omega, by omega, by
          rw [show decide ((0 : Int) ≤ k) = true by simp]
          exact (List.any_eq_true.2 ⟨f, List.mem_of_getElem? HF.out, HV.out⟩).symm⟩, more_of_below (by repeat (first | exact Below.refl _ _ | refine below_mo ?_ _ | refine below_al ?_ _))⟩
      | false =>
        have HV := Lib.hid hv
        clear hv
        go_wp2_with (go_at_call 77; refine (fld_loose n _ _ _ _ ⟨qk, qs, qp, qfa, qfl, qfc, qc, qea, qel, qec⟩ _ (fun W hW => IH.out _ _ W (TyAt.below (w := w) (below_next (by repeat (first | exact Below.refl _ _ | refine below_mo ?_ _ | refine below_al ?_ _)) hW) HQ.out))).mono ?_; rw [HV.out]; rintro e w1 ⟨rfl, p1, rfl⟩)
        go_roundw
        case rel => exact ⟨k + 1, by omega, by go_num, fun j e hj he => by
          rcases Nat.lt_or_ge j k with hjk | hjk
          · exact HP.out j e hjk he
          · obtain rfl : j = k := by omega
            have := HF.out
            rw [he] at this
            cases this
            exact HV.out, more_of_below (by repeat (first | exact Below.refl _ _ | refine below_mo ?_ _ | refine below_al ?_ _))⟩
        case measure => simp [intOf]; omega
    · obtain rfl : k = N := by omega
      go_wp2_with fail
      go_ret
      exact ⟨⟨_, rfl, by omega, by omega, by
        rw [show decide ((0 : Int) ≤ -1) = false by decide]
        refine (List.any_eq_false.2 fun e he => ?_).symm
        obtain ⟨j, hj⟩ := List.getElem?_of_mem he
        have hjl : j < l.length := (List.getElem?_eq_some_iff.1 hj).1
        have := HP.out j e (by have := HN.out; omega) hj
        simpa using this⟩, more_of_below (by repeat (first | exact Below.refl _ _ | refine below_mo ?_ _ | refine below_al ?_ _))⟩
theorem hasF_loose (n : Nat) (l : List (FdF (Ty n))) (ea : Option Addr) (ec : Nat) (w : World)
    (IH : ∀ (e : Ty n) (r : Raw) (W : World), TyAt W n e r → Calls Try.prog 62 #[r.val] W (Gives W (.bool (looseF n e))))
    (hm : l.length ≤ ec ∧ ec ≤ 9223372036854775807) (h : 0 < l.length → ∃ b off, ea = some ⟨b, off, none⟩ ∧ b < w.heap.size ∧ ∀ i e, l[i]? = some e → ∃ q : Raw, TyAt w n e.type q ∧ rng e.width ∧ e.name.size ≤ 9223372036854775807 ∧
        w.cell? ⟨b, off + i * 9, none⟩ = some (.string e.name) ∧ w.cell? ⟨b, off + i * 9 + 1, none⟩ = some (.int .i64 q.kind) ∧ w.cell? ⟨b, off + i * 9 + 2, none⟩ = some (.int .i64 q.size) ∧
        w.cell? ⟨b, off + i * 9 + 3, none⟩ = some (.bool q.packed) ∧ w.cell? ⟨b, off + i * 9 + 4, none⟩ = some (.slice q.fa q.fl q.fc) ∧ w.cell? ⟨b, off + i * 9 + 5, none⟩ = some (.int .i64 q.count) ∧
        w.cell? ⟨b, off + i * 9 + 6, none⟩ = some (.slice q.ea q.el q.ec) ∧ w.cell? ⟨b, off + i * 9 + 7, none⟩ = some (.bool e.isBits) ∧ w.cell? ⟨b, off + i * 9 + 8, none⟩ = some (.int .i64 e.width)) :
    Calls Try.prog 64 #[.slice ea l.length ec, .func (.func 77) #[] #[]] w (Gives w (.bool (l.any (fun f => looseF n f.type)))) := by
  have IX := Lib.hid (idxF_loose n l ea ec w IH hm h)
  clear h IH
  generalize l.any (fun f => looseF n f.type) = v at *
  go_enter Try.func64, Try.ntmps64
  go_wp2_with (go_at_call 58; refine (IX.out).mono ?_; rintro e w1 ⟨⟨r, rfl, hr1, hr2, hr⟩, p1, rfl⟩; rcases Int.lt_or_le r 0 with hr0 | hr0)
  all_goals go_ret
  all_goals exact Gives.mk (ret_bool (by rw [← hr]; first | done | (simp; try omega))) (by repeat (first | exact Below.refl _ _ | refine below_mo ?_ _ | refine below_al ?_ _))
set_option maxHeartbeats 1000000 in
theorem loose_any : ∀ (n : Nat) (t : Ty n) (r : Raw) (w : World), TyAt w n t r → Calls Try.prog 62 #[r.val] w (Gives w (.bool (looseF n t)))
  | 0, t, _, _, _ => nomatch t
  | n + 1, (t : TyF (Ty n)), r, w, hT => by
    have IH := loose_any n
    have HT := Lib.hid hT
    obtain ⟨e1, e2, e3, e4, e5, e6, e7, e8, e9, hf, he⟩ := hT
    obtain ⟨rk, rs, rp, fa, fl, fc, rc, ea, el, ec⟩ := r
    simp only at e1 e2 e3 e4 e5 e6 hf he
    subst e1 e2 e3 e4 e5 e6
    have TE := Lib.hid (fun W (hW : Below w.heap.size w W) => hasT_loose n t.elem ea ec W IH ⟨he.1, he.2.1⟩ (by
      obtain ⟨_, _, _, _, _, _, _, _, _, _, he'⟩ := TyAt.below hW HT.out
      exact he'.2.2))
    have TF := Lib.hid (fun W (hW : Below w.heap.size w W) => hasF_loose n t.fields fa fc W IH ⟨hf.1, hf.2.1⟩ (by
      obtain ⟨_, _, _, _, _, _, _, _, _, hf', _⟩ := TyAt.below hW HT.out
      exact hf'.2.2))
    have hl1 := hf.1
    have hl2 := hf.2.1
    have hl3 := he.1
    have hl4 := he.2.1
    have HU : Hid (looseF (n + 1) t = _) := Lib.hid (looseF_succ n t)
    generalize looseF (n + 1) t = U at *
    clear he hf e7 e8 e9 HT IH
    unfold Raw.val
    simp only
    obtain ⟨k, s, pk, fs, ct, es⟩ := t
    simp only at *
    generalize es.length = el at *
    generalize fs.length = fl at *
    have hA : Hid ((k == 2 && decide (1 < s)) = (k == 2 && decide (1 < s))) := Lib.hid rfl
    by_cases hk : k = 2
    · subst hk
      by_cases hs : 1 < s
      · have hU : Hid (U = true) := by rw [HU.out]; simp [hs]; exact Lib.hid trivial
        clear HU hA
        go_enter Try.func62, Try.ntmps62
        go_wp2_with fail
        go_ret
        exact Gives.mk (ret_bool (by rw [hU.out])) (by repeat (first | exact Below.refl _ _ | refine below_mo ?_ _ | refine below_al ?_ _))
      · cases hB : es.any (looseF n) <;> cases hC : fs.any (fun f => looseF n f.type)
        all_goals
          have HB := Lib.hid hB
          have HC := Lib.hid hC
          have hU : Hid (U = (es.any (looseF n) || fs.any (fun f => looseF n f.type))) := by rw [HU.out]; simp [hs]; exact Lib.hid trivial
          rw [hB, hC] at hU
          clear HU hA hB hC
          go_enter Try.func62, Try.ntmps62
          go_wp2_with (first | (go_at_call 63; refine (TE.out _ (by repeat (first | exact Below.refl _ _ | refine below_mo ?_ _ | refine below_al ?_ _))).mono ?_; rw [HB.out]; rintro e w1 ⟨rfl, p1, rfl⟩) | (go_at_call 64; refine (TF.out _ (by repeat (first | exact Below.refl _ _ | refine below_mo ?_ _ | refine below_al ?_ _))).mono ?_; rw [HC.out]; rintro e w1 ⟨rfl, p1, rfl⟩))
          go_ret
          exact Gives.mk (ret_bool (by rw [hU.out]; simp)) (by repeat (first | exact Below.refl _ _ | refine below_mo ?_ _ | refine below_al ?_ _))
    · cases hB : es.any (looseF n) <;> cases hC : fs.any (fun f => looseF n f.type)
      all_goals
        have HB := Lib.hid hB
        have HC := Lib.hid hC
        have hU : Hid (U = (es.any (looseF n) || fs.any (fun f => looseF n f.type))) := by rw [HU.out, show (k == 2) = false by simpa using hk]; exact Lib.hid (by simp)
        rw [hB, hC] at hU
        clear HU hA hB hC
        go_enter Try.func62, Try.ntmps62
        go_wp2_with (first | (go_at_call 63; refine (TE.out _ (by repeat (first | exact Below.refl _ _ | refine below_mo ?_ _ | refine below_al ?_ _))).mono ?_; rw [HB.out]; rintro e w1 ⟨rfl, p1, rfl⟩) | (go_at_call 64; refine (TF.out _ (by repeat (first | exact Below.refl _ _ | refine below_mo ?_ _ | refine below_al ?_ _))).mono ?_; rw [HC.out]; rintro e w1 ⟨rfl, p1, rfl⟩))
        go_ret
        exact Gives.mk (ret_bool (by rw [hU.out]; simp)) (by repeat (first | exact Below.refl _ _ | refine below_mo ?_ _ | refine below_al ?_ _))
set_option maxHeartbeats 1000000 in
theorem idxT_torn (n : Nat) (l : List (Ty n)) (ea : Option Addr) (ec : Nat) (w : World)
    (IH : ∀ (e : Ty n) (r : Raw) (W : World), TyAt W n e r → Calls Try.prog 41 #[r.val] W (Gives W (.bool (tornF n e))))
    (hm : l.length ≤ ec ∧ ec ≤ 9223372036854775807) (h : 0 < l.length → ∃ b off, ea = some ⟨b, off, none⟩ ∧ b < w.heap.size ∧ ∀ i e, l[i]? = some e → ∃ q : Raw, TyAt w n e q ∧ w.cell? ⟨b, off + i * 6, none⟩ = some (.int .i64 q.kind) ∧ w.cell? ⟨b, off + i * 6 + 1, none⟩ = some (.int .i64 q.size) ∧
        w.cell? ⟨b, off + i * 6 + 2, none⟩ = some (.bool q.packed) ∧ w.cell? ⟨b, off + i * 6 + 3, none⟩ = some (.slice q.fa q.fl q.fc) ∧ w.cell? ⟨b, off + i * 6 + 4, none⟩ = some (.int .i64 q.count) ∧
        w.cell? ⟨b, off + i * 6 + 5, none⟩ = some (.slice q.ea q.el q.ec)) :
    Calls Try.prog 78 #[.slice ea l.length ec, .func (.func 41) #[] #[]] w fun e w' => (∃ r : Int, e = .returned (.int .i64 r) ∧ -1 ≤ r ∧ r ≤ 9223372036854775807 ∧ decide (0 ≤ r) = l.any (tornF n)) ∧ ∃ p : Regrown, w' = more w p := by
  have IH := Lib.hid IH
  have HE := Lib.hid h
  obtain ⟨hm1, hm2⟩ := hm
  clear h
  have HL : Hid (∃ N, N = l.length) := Lib.hid ⟨_, rfl⟩
  obtain ⟨N, hN⟩ := HL.out
  clear HL
  rw [← hN] at HE hm1 ⊢
  have HN := Lib.hid hN
  clear hN
  go_enter Try.func78, Try.ntmps78
  go_wp2_with fail
  go_loopw [8] (fun i wr => ∃ k : Nat, k ≤ N ∧ i = .int .i64 k ∧ (∀ j e, j < k → l[j]? = some e → tornF n e = false) ∧ ∃ p : Regrown, wr = more w p) (fun i _ => N - (intOf i).toNat)
  case atStart => exact ⟨0, by omega, rfl, fun j e hj => by omega, more_of_below (by repeat (first | exact Below.refl _ _ | refine below_mo ?_ _ | refine below_al ?_ _))⟩
  case round =>
    obtain ⟨k, hk, rfl, hl, p, rfl⟩ := hrel
    have HP := Lib.hid hl
    clear hl
    by_cases hlt : (k : Int) < N
    · obtain ⟨b, off, rfl, hb, hc⟩ := HE.out (by omega)
      obtain ⟨f, hfk⟩ := get_some l k (by have := HN.out; omega)
      obtain ⟨q, hq, c0, c1, c2, c3, c4, c5⟩ := hc k f hfk
      have HQ := Lib.hid hq
      have HF := Lib.hid hfk
      clear hq hc hfk
      obtain ⟨qk, qs, qp, qfa, qfl, qfc, qc, qea, qel, qec⟩ := q
      simp only at c0 c1 c2 c3 c4 c5
      unfold Raw.val at IH
      cases hv : tornF n f with
      | true =>
        have HV := Lib.hid hv
        clear hv
        go_wp2_with (go_at_call 41; refine (IH.out _ _ _ (TyAt.below (w := w) (by repeat (first | exact Below.refl _ _ | refine below_mo ?_ _ | refine below_al ?_ _)) HQ.out)).mono ?_; rw [HV.out]; rintro e w1 ⟨rfl, p1, rfl⟩)
        go_ret
        exact ⟨⟨_, rfl, by omega, by omega, by
          rw [show decide ((0 : Int) ≤ k) = true by simp]
          exact (List.any_eq_true.2 ⟨f, List.mem_of_getElem? HF.out, HV.out⟩).symm⟩, more_of_below (by repeat (first | exact Below.refl _ _ | refine below_mo ?_ _ | refine below_al ?_ _))⟩
      | false =>
        have HV := Lib.hid hv
        clear hv
        go_wp2_with (go_at_call 41; refine (IH.out _ _ _ (TyAt.below (w := w) (by repeat (first | exact Below.refl _ _ | refine below_mo ?_ _ | refine below_al ?_ _)) HQ.out)).mono ?_; rw [HV.out]; rintro e w1 ⟨rfl, p1, rfl⟩)
        go_roundw
        case rel => exact ⟨k + 1, by omega, by go_num, fun j e hj he => by
          rcases Nat.lt_or_ge j k with hjk | hjk
          · exact HP.out j e hjk he
          · obtain rfl : j = k := by omega
            have := HF.out
            rw [he] at this
            cases this
            exact HV.out, more_of_below (by repeat (first | exact Below.refl _ _ | refine below_mo ?_ _ | refine below_al ?_ _))⟩
        case measure => simp [intOf]; omega
    · obtain rfl : k = N := by omega
      go_wp2_with fail
      go_ret
      exact ⟨⟨_, rfl, by omega, by omega, by
        rw [show decide ((0 : Int) ≤ -1) = false by decide]
        refine (List.any_eq_false.2 fun e he => ?_).symm
        obtain ⟨j, hj⟩ := List.getElem?_of_mem he
        have hjl : j < l.length := (List.getElem?_eq_some_iff.1 hj).1
        have := HP.out j e (by have := HN.out; omega) hj
        simpa using this⟩, more_of_below (by repeat (first | exact Below.refl _ _ | refine below_mo ?_ _ | refine below_al ?_ _))⟩
theorem hasT_torn (n : Nat) (l : List (Ty n)) (ea : Option Addr) (ec : Nat) (w : World)
    (IH : ∀ (e : Ty n) (r : Raw) (W : World), TyAt W n e r → Calls Try.prog 41 #[r.val] W (Gives W (.bool (tornF n e))))
    (hm : l.length ≤ ec ∧ ec ≤ 9223372036854775807) (h : 0 < l.length → ∃ b off, ea = some ⟨b, off, none⟩ ∧ b < w.heap.size ∧ ∀ i e, l[i]? = some e → ∃ q : Raw, TyAt w n e q ∧ w.cell? ⟨b, off + i * 6, none⟩ = some (.int .i64 q.kind) ∧ w.cell? ⟨b, off + i * 6 + 1, none⟩ = some (.int .i64 q.size) ∧
        w.cell? ⟨b, off + i * 6 + 2, none⟩ = some (.bool q.packed) ∧ w.cell? ⟨b, off + i * 6 + 3, none⟩ = some (.slice q.fa q.fl q.fc) ∧ w.cell? ⟨b, off + i * 6 + 4, none⟩ = some (.int .i64 q.count) ∧
        w.cell? ⟨b, off + i * 6 + 5, none⟩ = some (.slice q.ea q.el q.ec)) :
    Calls Try.prog 63 #[.slice ea l.length ec, .func (.func 41) #[] #[]] w (Gives w (.bool (l.any (tornF n)))) := by
  have IX := Lib.hid (idxT_torn n l ea ec w IH hm h)
  clear h IH
  generalize l.any (tornF n) = v at *
  go_enter Try.func63, Try.ntmps63
  go_wp2_with (go_at_call 78; refine (IX.out).mono ?_; rintro e w1 ⟨⟨r, rfl, hr1, hr2, hr⟩, p1, rfl⟩; rcases Int.lt_or_le r 0 with hr0 | hr0)
  all_goals go_ret
  all_goals exact Gives.mk (ret_bool (by rw [← hr]; first | done | (simp; try omega))) (by repeat (first | exact Below.refl _ _ | refine below_mo ?_ _ | refine below_al ?_ _))
theorem fld_torn (n : Nat) (s : ByteArray) (bt : Bool) (wd : Int) (t : Ty n) (r : Raw) (w : World) (IH : ∀ W : World, Below w.heap.size w W → Calls Try.prog 41 #[r.val] W (Gives W (.bool (tornF n t)))) :
    Calls Try.prog 65 #[.agg #[.string s, .int .i64 r.kind, .int .i64 r.size, .bool r.packed, .slice r.fa r.fl r.fc, .int .i64 r.count, .slice r.ea r.el r.ec, .bool bt, .int .i64 wd]] w (Gives w (.bool (tornF n t))) := by
  have IH := Lib.hid IH
  obtain ⟨rk, rs, rp, fa, fl, fc, rc, ea, el, ec⟩ := r
  unfold Raw.val at IH
  simp only at IH ⊢
  generalize tornF n t = v at *
  go_enter Try.func65, Try.ntmps65
  go_wp2_with (go_at_call 41; refine (IH.out _ (by repeat (first | exact Below.refl _ _ | refine below_mo ?_ _ | refine below_al ?_ _))).mono ?_; rintro e w1 ⟨rfl, p1, rfl⟩)
  go_ret
  exact Gives.mk rfl (by repeat (first | exact Below.refl _ _ | refine below_mo ?_ _ | refine below_al ?_ _))
set_option maxHeartbeats 1000000 in
theorem idxF_torn (n : Nat) (l : List (FdF (Ty n))) (ea : Option Addr) (ec : Nat) (w : World)
    (IH : ∀ (e : Ty n) (r : Raw) (W : World), TyAt W n e r → Calls Try.prog 41 #[r.val] W (Gives W (.bool (tornF n e))))
    (hm : l.length ≤ ec ∧ ec ≤ 9223372036854775807) (h : 0 < l.length → ∃ b off, ea = some ⟨b, off, none⟩ ∧ b < w.heap.size ∧ ∀ i e, l[i]? = some e → ∃ q : Raw, TyAt w n e.type q ∧ rng e.width ∧ e.name.size ≤ 9223372036854775807 ∧
        w.cell? ⟨b, off + i * 9, none⟩ = some (.string e.name) ∧ w.cell? ⟨b, off + i * 9 + 1, none⟩ = some (.int .i64 q.kind) ∧ w.cell? ⟨b, off + i * 9 + 2, none⟩ = some (.int .i64 q.size) ∧
        w.cell? ⟨b, off + i * 9 + 3, none⟩ = some (.bool q.packed) ∧ w.cell? ⟨b, off + i * 9 + 4, none⟩ = some (.slice q.fa q.fl q.fc) ∧ w.cell? ⟨b, off + i * 9 + 5, none⟩ = some (.int .i64 q.count) ∧
        w.cell? ⟨b, off + i * 9 + 6, none⟩ = some (.slice q.ea q.el q.ec) ∧ w.cell? ⟨b, off + i * 9 + 7, none⟩ = some (.bool e.isBits) ∧ w.cell? ⟨b, off + i * 9 + 8, none⟩ = some (.int .i64 e.width)) :
    Calls Try.prog 58 #[.slice ea l.length ec, .func (.func 65) #[] #[]] w fun e w' => (∃ r : Int, e = .returned (.int .i64 r) ∧ -1 ≤ r ∧ r ≤ 9223372036854775807 ∧ decide (0 ≤ r) = l.any (fun f => tornF n f.type)) ∧ ∃ p : Regrown, w' = more w p := by
  have IH := Lib.hid IH
  have HE := Lib.hid h
  obtain ⟨hm1, hm2⟩ := hm
  clear h
  have HL : Hid (∃ N, N = l.length) := Lib.hid ⟨_, rfl⟩
  obtain ⟨N, hN⟩ := HL.out
  clear HL
  rw [← hN] at HE hm1 ⊢
  have HN := Lib.hid hN
  clear hN
  go_enter Try.func58, Try.ntmps58
  go_wp2_with fail
  go_loopw [8] (fun i wr => ∃ k : Nat, k ≤ N ∧ i = .int .i64 k ∧ (∀ j e, j < k → l[j]? = some e → tornF n e.type = false) ∧ ∃ p : Regrown, wr = more w p) (fun i _ => N - (intOf i).toNat)
  case atStart => exact ⟨0, by omega, rfl, fun j e hj => by omega, more_of_below (by repeat (first | exact Below.refl _ _ | refine below_mo ?_ _ | refine below_al ?_ _))⟩
  case round =>
    obtain ⟨k, hk, rfl, hl, p, rfl⟩ := hrel
    have HP := Lib.hid hl
    clear hl
    by_cases hlt : (k : Int) < N
    · obtain ⟨b, off, rfl, hb, hc⟩ := HE.out (by omega)
      obtain ⟨f, hfk⟩ := get_some l k (by have := HN.out; omega)
      obtain ⟨q, hq, g1, g2, c0, c1, c2, c3, c4, c5, c6, c7, c8⟩ := hc k f hfk
      have HQ := Lib.hid hq
      have HF := Lib.hid hfk
      clear hq hc hfk
      obtain ⟨qk, qs, qp, qfa, qfl, qfc, qc, qea, qel, qec⟩ := q
      simp only at c1 c2 c3 c4 c5 c6
      unfold Raw.val at IH
      cases hv : tornF n f.type with
      | true =>
        have HV := Lib.hid hv
        clear hv
        go_wp2_with (go_at_call 65; refine (fld_torn n _ _ _ _ ⟨qk, qs, qp, qfa, qfl, qfc, qc, qea, qel, qec⟩ _ (fun W hW => IH.out _ _ W (TyAt.below (w := w) (below_next (by repeat (first | exact Below.refl _ _ | refine below_mo ?_ _ | refine below_al ?_ _)) hW) HQ.out))).mono ?_; rw [HV.out]; rintro e w1 ⟨rfl, p1, rfl⟩)
        go_ret
        exact ⟨⟨_, rfl, by omega, by omega, by
          rw [show decide ((0 : Int) ≤ k) = true by simp]
          exact (List.any_eq_true.2 ⟨f, List.mem_of_getElem? HF.out, HV.out⟩).symm⟩, more_of_below (by repeat (first | exact Below.refl _ _ | refine below_mo ?_ _ | refine below_al ?_ _))⟩
      | false =>
        have HV := Lib.hid hv
        clear hv
        go_wp2_with (go_at_call 65; refine (fld_torn n _ _ _ _ ⟨qk, qs, qp, qfa, qfl, qfc, qc, qea, qel, qec⟩ _ (fun W hW => IH.out _ _ W (TyAt.below (w := w) (below_next (by repeat (first | exact Below.refl _ _ | refine below_mo ?_ _ | refine below_al ?_ _)) hW) HQ.out))).mono ?_; rw [HV.out]; rintro e w1 ⟨rfl, p1, rfl⟩)
        go_roundw
        case rel => exact ⟨k + 1, by omega, by go_num, fun j e hj he => by
          rcases Nat.lt_or_ge j k with hjk | hjk
          · exact HP.out j e hjk he
          · obtain rfl : j = k := by omega
            have := HF.out
            rw [he] at this
            cases this
            exact HV.out, more_of_below (by repeat (first | exact Below.refl _ _ | refine below_mo ?_ _ | refine below_al ?_ _))⟩
        case measure => simp [intOf]; omega
    · obtain rfl : k = N := by omega
      go_wp2_with fail
      go_ret
      exact ⟨⟨_, rfl, by omega, by omega, by
        rw [show decide ((0 : Int) ≤ -1) = false by decide]
        refine (List.any_eq_false.2 fun e he => ?_).symm
        obtain ⟨j, hj⟩ := List.getElem?_of_mem he
        have hjl : j < l.length := (List.getElem?_eq_some_iff.1 hj).1
        have := HP.out j e (by have := HN.out; omega) hj
        simpa using this⟩, more_of_below (by repeat (first | exact Below.refl _ _ | refine below_mo ?_ _ | refine below_al ?_ _))⟩
theorem hasF_torn (n : Nat) (l : List (FdF (Ty n))) (ea : Option Addr) (ec : Nat) (w : World)
    (IH : ∀ (e : Ty n) (r : Raw) (W : World), TyAt W n e r → Calls Try.prog 41 #[r.val] W (Gives W (.bool (tornF n e))))
    (hm : l.length ≤ ec ∧ ec ≤ 9223372036854775807) (h : 0 < l.length → ∃ b off, ea = some ⟨b, off, none⟩ ∧ b < w.heap.size ∧ ∀ i e, l[i]? = some e → ∃ q : Raw, TyAt w n e.type q ∧ rng e.width ∧ e.name.size ≤ 9223372036854775807 ∧
        w.cell? ⟨b, off + i * 9, none⟩ = some (.string e.name) ∧ w.cell? ⟨b, off + i * 9 + 1, none⟩ = some (.int .i64 q.kind) ∧ w.cell? ⟨b, off + i * 9 + 2, none⟩ = some (.int .i64 q.size) ∧
        w.cell? ⟨b, off + i * 9 + 3, none⟩ = some (.bool q.packed) ∧ w.cell? ⟨b, off + i * 9 + 4, none⟩ = some (.slice q.fa q.fl q.fc) ∧ w.cell? ⟨b, off + i * 9 + 5, none⟩ = some (.int .i64 q.count) ∧
        w.cell? ⟨b, off + i * 9 + 6, none⟩ = some (.slice q.ea q.el q.ec) ∧ w.cell? ⟨b, off + i * 9 + 7, none⟩ = some (.bool e.isBits) ∧ w.cell? ⟨b, off + i * 9 + 8, none⟩ = some (.int .i64 e.width)) :
    Calls Try.prog 64 #[.slice ea l.length ec, .func (.func 65) #[] #[]] w (Gives w (.bool (l.any (fun f => tornF n f.type)))) := by
  have IX := Lib.hid (idxF_torn n l ea ec w IH hm h)
  clear h IH
  generalize l.any (fun f => tornF n f.type) = v at *
  go_enter Try.func64, Try.ntmps64
  go_wp2_with (go_at_call 58; refine (IX.out).mono ?_; rintro e w1 ⟨⟨r, rfl, hr1, hr2, hr⟩, p1, rfl⟩; rcases Int.lt_or_le r 0 with hr0 | hr0)
  all_goals go_ret
  all_goals exact Gives.mk (ret_bool (by rw [← hr]; first | done | (simp; try omega))) (by repeat (first | exact Below.refl _ _ | refine below_mo ?_ _ | refine below_al ?_ _))
set_option maxHeartbeats 1000000 in
theorem torn_any : ∀ (n : Nat) (t : Ty n) (r : Raw) (w : World), TyAt w n t r → Calls Try.prog 41 #[r.val] w (Gives w (.bool (tornF n t)))
  | 0, t, _, _, _ => nomatch t
  | n + 1, (t : TyF (Ty n)), r, w, hT => by
    have IH := torn_any n
    have HT := Lib.hid hT
    obtain ⟨e1, e2, e3, e4, e5, e6, e7, e8, e9, hf, he⟩ := hT
    obtain ⟨rk, rs, rp, fa, fl, fc, rc, ea, el, ec⟩ := r
    simp only at e1 e2 e3 e4 e5 e6 hf he
    subst e1 e2 e3 e4 e5 e6
    have TE := Lib.hid (fun W (hW : Below w.heap.size w W) => hasT_torn n t.elem ea ec W IH ⟨he.1, he.2.1⟩ (by
      obtain ⟨_, _, _, _, _, _, _, _, _, _, he'⟩ := TyAt.below hW HT.out
      exact he'.2.2))
    have TF := Lib.hid (fun W (hW : Below w.heap.size w W) => hasF_torn n t.fields fa fc W IH ⟨hf.1, hf.2.1⟩ (by
      obtain ⟨_, _, _, _, _, _, _, _, _, hf', _⟩ := TyAt.below hW HT.out
      exact hf'.2.2))
    have hl1 := hf.1
    have hl2 := hf.2.1
    have hl3 := he.1
    have hl4 := he.2.1
    have HU : Hid (tornF (n + 1) t = _) := Lib.hid (tornF_succ n t)
    have LO := Lib.hid (fun W (hW : Below w.heap.size w W) => loose_any (n + 1) t _ W (TyAt.below hW HT.out))
    generalize tornF (n + 1) t = U at *
    generalize looseF (n + 1) t = V at *
    clear he hf e7 e8 e9 HT IH
    unfold Raw.val at *
    simp only at *
    obtain ⟨k, s, pk, fs, ct, es⟩ := t
    simp only at *
    generalize es.length = el at *
    generalize fs.length = fl at *
    cases pk <;> cases V <;> cases hB : es.any (tornF n) <;> cases hC : fs.any (fun f => tornF n f.type)
    all_goals
      have HB := Lib.hid hB
      have HC := Lib.hid hC
      have hU := HU.out
      rw [hB, hC] at hU
      simp at hU
      clear HU hB hC
      have hU := Lib.hid hU
      go_enter Try.func41, Try.ntmps41
      go_wp2_with (first | (go_at_call 62; refine (LO.out _ (by repeat (first | exact Below.refl _ _ | refine below_mo ?_ _ | refine below_al ?_ _))).mono ?_; rintro e w1 ⟨rfl, p1, rfl⟩) | (go_at_call 63; refine (TE.out _ (by repeat (first | exact Below.refl _ _ | refine below_mo ?_ _ | refine below_al ?_ _))).mono ?_; rw [HB.out]; rintro e w1 ⟨rfl, p1, rfl⟩) | (go_at_call 64; refine (TF.out _ (by repeat (first | exact Below.refl _ _ | refine below_mo ?_ _ | refine below_al ?_ _))).mono ?_; rw [HC.out]; rintro e w1 ⟨rfl, p1, rfl⟩))
      go_ret
      exact Gives.mk (ret_bool (by rw [hU.out])) (by repeat (first | exact Below.refl _ _ | refine below_mo ?_ _ | refine below_al ?_ _))
end Go.Proofs.Ytlbkloamabomcaa
