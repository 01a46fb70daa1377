/- Whether two types are one: the program's Same. Conditions: the types lie in memory. -/
import Derived.Test.YtjioinmiglblmaaKindSame2
namespace Go.Proofs.Ytjioinmiglblmaa
open Go.RowKit Go.Sort
set_option linter.unusedVariables false
set_option linter.unusedSimpArgs false
set_option maxRecDepth 100000 in
theorem same_one (k s : Int) (p : Bool) (fa : Option Addr) (fl fc : Nat) (c : Int) (ea : Option Addr) (el ec : Nat) (k2 s2 : Int) (p2 : Bool) (fa2 : Option Addr) (fl2 fc2 : Nat) (c2 : Int) (ea2 : Option Addr) (el2 ec2 : Nat) (x y : Bool) (w : World)
    (HE0 : ∀ W, Below w.heap.size w W → Calls Try.prog 36 #[.slice ea el ec, .slice ea2 el2 ec2, .func (Fn.func 26) #[] #[]] W (Gives W (.bool x)))
    (HF0 : ∀ W, Below w.heap.size w W → Calls Try.prog 37 #[.slice fa fl fc, .slice fa2 fl2 fc2, .func (Fn.func 38) #[] #[]] W (Gives W (.bool y))) :
    Calls Try.prog 26 #[.agg #[.int .i64 k, .int .i64 s, .bool p, .slice fa fl fc, .int .i64 c, .slice ea el ec], .agg #[.int .i64 k2, .int .i64 s2, .bool p2, .slice fa2 fl2 fc2, .int .i64 c2, .slice ea2 el2 ec2]] w (Gives w (.bool ((k == k2) && (s == s2) && (p == p2) && (c == c2) && x && y))) := by
  have HE := Lib.hid HE0
  have HF := Lib.hid HF0
  clear HE0 HF0
  cases h0 : (k == k2)
  · simp only [Bool.false_and]
    go_enter Try.func26, Try.ntmps26
    go_wp2_with fail
    go_ret
    exact Gives.mk rfl (by repeat (first | exact Below.refl _ _ | refine below_mo ?_ _ | refine below_al ?_ _))
  simp only [Bool.true_and]
  cases h1 : (s == s2)
  · simp only [Bool.false_and]
    go_enter Try.func26, Try.ntmps26
    go_wp2_with fail
    go_ret
    exact Gives.mk rfl (by repeat (first | exact Below.refl _ _ | refine below_mo ?_ _ | refine below_al ?_ _))
  simp only [Bool.true_and]
  cases p <;> cases p2
  · as_aux_lemma =>
      simp only [beq_self_eq_true, Bool.true_and]
      cases h3 : (c == c2)
      · simp only [Bool.false_and]
        go_enter Try.func26, Try.ntmps26
        go_wp2_with fail
        go_ret
        exact Gives.mk rfl (by repeat (first | exact Below.refl _ _ | refine below_mo ?_ _ | refine below_al ?_ _))
      · simp only [Bool.true_and]
        cases x
        · simp only [Bool.false_and]
          go_enter Try.func26, Try.ntmps26
          go_wp2_with (first | (go_at_call 36; refine (HE.out _ (by repeat (first | exact Below.refl _ _ | refine below_mo ?_ _ | refine below_al ?_ _))).mono ?_; rintro e w1 ⟨rfl, p1, rfl⟩))
          go_ret
          exact Gives.mk rfl (by repeat (first | exact Below.refl _ _ | refine below_mo ?_ _ | refine below_al ?_ _))
        · simp only [Bool.true_and]
          go_enter Try.func26, Try.ntmps26
          go_wp2_with (first | (go_at_call 36; refine (HE.out _ (by repeat (first | exact Below.refl _ _ | refine below_mo ?_ _ | refine below_al ?_ _))).mono ?_; rintro e w1 ⟨rfl, p1, rfl⟩) | (go_at_call 37; refine (HF.out _ (by repeat (first | exact Below.refl _ _ | refine below_mo ?_ _ | refine below_al ?_ _))).mono ?_; rintro e w1 ⟨rfl, p2, rfl⟩))
          go_ret
          exact Gives.mk rfl (by repeat (first | exact Below.refl _ _ | refine below_mo ?_ _ | refine below_al ?_ _))
  · rw [show (false == true) = false from rfl]
    simp only [Bool.false_and]
    go_enter Try.func26, Try.ntmps26
    go_wp2_with fail
    go_ret
    exact Gives.mk rfl (by repeat (first | exact Below.refl _ _ | refine below_mo ?_ _ | refine below_al ?_ _))
  · rw [show (true == false) = false from rfl]
    simp only [Bool.false_and]
    go_enter Try.func26, Try.ntmps26
    go_wp2_with fail
    go_ret
    exact Gives.mk rfl (by repeat (first | exact Below.refl _ _ | refine below_mo ?_ _ | refine below_al ?_ _))
  · as_aux_lemma =>
      simp only [beq_self_eq_true, Bool.true_and]
      cases h3 : (c == c2)
      · simp only [Bool.false_and]
        go_enter Try.func26, Try.ntmps26
        go_wp2_with fail
        go_ret
        exact Gives.mk rfl (by repeat (first | exact Below.refl _ _ | refine below_mo ?_ _ | refine below_al ?_ _))
      · simp only [Bool.true_and]
        cases x
        · simp only [Bool.false_and]
          go_enter Try.func26, Try.ntmps26
          go_wp2_with (first | (go_at_call 36; refine (HE.out _ (by repeat (first | exact Below.refl _ _ | refine below_mo ?_ _ | refine below_al ?_ _))).mono ?_; rintro e w1 ⟨rfl, p1, rfl⟩))
          go_ret
          exact Gives.mk rfl (by repeat (first | exact Below.refl _ _ | refine below_mo ?_ _ | refine below_al ?_ _))
        · simp only [Bool.true_and]
          go_enter Try.func26, Try.ntmps26
          go_wp2_with (first | (go_at_call 36; refine (HE.out _ (by repeat (first | exact Below.refl _ _ | refine below_mo ?_ _ | refine below_al ?_ _))).mono ?_; rintro e w1 ⟨rfl, p1, rfl⟩) | (go_at_call 37; refine (HF.out _ (by repeat (first | exact Below.refl _ _ | refine below_mo ?_ _ | refine below_al ?_ _))).mono ?_; rintro e w1 ⟨rfl, p2, rfl⟩))
          go_ret
          exact Gives.mk rfl (by repeat (first | exact Below.refl _ _ | refine below_mo ?_ _ | refine below_al ?_ _))
/-- whether two types are one. -/
def sameF : (n m : Nat) → Ty n → Ty m → Bool
  | 0, _, t, _ => nomatch t
  | n + 1, 0, _, u => nomatch u
  | n + 1, m + 1, (t : TyF (Ty n)), (u : TyF (Ty m)) =>
    (t.kind == u.kind) && (t.size == u.size) && (t.packed == u.packed) && (t.count == u.count) &&
      (t.elem.length == u.elem.length && allK (fun i => match t.elem[i]?, u.elem[i]? with | some a, some b => sameF n m a b | _, _ => true) t.elem.length) &&
      (t.fields.length == u.fields.length && allK (fun i => match t.fields[i]?, u.fields[i]? with | some a, some b => sameFd a.name b.name a.isBits b.isBits a.width b.width (sameF n m a.type b.type) | _, _ => true) t.fields.length)
theorem same_any : ∀ (n m : Nat) (t : Ty n) (u : Ty m) (r r2 : Raw) (w : World), TyAt w n t r → TyAt w m u r2 → Calls Try.prog 26 #[r.val, r2.val] w (Gives w (.bool (sameF n m t u)))
  | 0, _, t, _, _, _, _, _, _ => nomatch t
  | n + 1, 0, _, u, _, _, _, _, _ => nomatch u
  | n + 1, m + 1, (t : TyF (Ty n)), (u : TyF (Ty m)), r, r2, w, hT, hU => by
    have IH := same_any n m
    obtain ⟨e1, e2, e3, e4, e5, e6, e7, e8, e9, hf, he⟩ := hT
    obtain ⟨rk, rs, rp, fa, fl, fc, rc, ea, el, ec⟩ := r
    simp only at e1 e2 e3 e4 e5 e6 hf he
    subst e1 e2 e3 e4 e5 e6
    obtain ⟨e1, e2, e3, e4, e5, e6, e7', e8', e9', hf2, he2⟩ := hU
    obtain ⟨rk2, rs2, rp2, fa2, fl2, fc2, rc2, ea2, el2, ec2⟩ := r2
    simp only at e1 e2 e3 e4 e5 e6 hf2 he2
    subst e1 e2 e3 e4 e5 e6
    have key := same_one t.kind t.size t.packed fa t.fields.length fc t.count ea t.elem.length ec u.kind u.size u.packed fa2 u.fields.length fc2 u.count ea2 u.elem.length ec2
      (t.elem.length == u.elem.length && allK (fun i => match t.elem[i]?, u.elem[i]? with | some a, some b => sameF n m a b | _, _ => true) t.elem.length)
      (t.fields.length == u.fields.length && allK (fun i => match t.fields[i]?, u.fields[i]? with | some a, some b => sameFd a.name b.name a.isBits b.isBits a.width b.width (sameF n m a.type b.type) | _, _ => true) t.fields.length) w
      (fun W hW => eqtypes_any ea ea2 t.elem.length ec u.elem.length ec2 _ W he.1 he.2.1 he2.1 he2.2.1 (fun hl i hi => by
        obtain ⟨b, off, rfl, hb, hc⟩ := he.2.2 (by omega)
        obtain ⟨b2, off2, rfl, hb2, hc2⟩ := he2.2.2 (by omega)
        obtain ⟨a, ha⟩ := get_some t.elem i hi
        obtain ⟨a2, ha2⟩ := get_some u.elem i (by omega)
        obtain ⟨q, hq, c0, c1, c2, c3, c4, c5⟩ := hc i a ha
        obtain ⟨q2, hq2, d0, d1, d2, d3, d4, d5⟩ := hc2 i a2 ha2
        have hz := hW.size
        have KB := fun o => hW.cell (p := ⟨b, o, none⟩) hb
        have KB2 := fun o => hW.cell (p := ⟨b2, o, none⟩) hb2
        refine ⟨b, off, b2, off2, q, q2, rfl, rfl, by omega, by omega, (KB _).trans c0, (KB _).trans c1, (KB _).trans c2, (KB _).trans c3, (KB _).trans c4, (KB _).trans c5, (KB2 _).trans d0, (KB2 _).trans d1, (KB2 _).trans d2, (KB2 _).trans d3, (KB2 _).trans d4, (KB2 _).trans d5, fun W' hW' => ?_⟩
        simp only [ha, ha2]
        exact IH a a2 q q2 W' (TyAt.below (below_next hW hW') hq) (TyAt.below (below_next hW hW') hq2)))
      (fun W hW => eqfields_any fa fa2 t.fields.length fc u.fields.length fc2 _ W hf.1 hf.2.1 hf2.1 hf2.2.1 (fun hl i hi => by
        obtain ⟨b, off, rfl, hb, hc⟩ := hf.2.2 (by omega)
        obtain ⟨b2, off2, rfl, hb2, hc2⟩ := hf2.2.2 (by omega)
        obtain ⟨a, ha⟩ := get_some t.fields i hi
        obtain ⟨a2, ha2⟩ := get_some u.fields i (by omega)
        obtain ⟨q, hq, _, _, c0, c1, c2, c3, c4, c5, c6, c7, c8⟩ := hc i a ha
        obtain ⟨q2, hq2, _, _, d0, d1, d2, d3, d4, d5, d6, d7, d8⟩ := hc2 i a2 ha2
        have hz := hW.size
        have KB := fun o => hW.cell (p := ⟨b, o, none⟩) hb
        have KB2 := fun o => hW.cell (p := ⟨b2, o, none⟩) hb2
        refine ⟨b, off, b2, off2, a.name, a2.name, a.isBits, a2.isBits, a.width, a2.width, q, q2, sameF n m a.type a2.type, rfl, rfl, by omega, by omega, (KB _).trans c0, (KB _).trans c1, (KB _).trans c2, (KB _).trans c3, (KB _).trans c4, (KB _).trans c5, (KB _).trans c6, (KB _).trans c7, (KB _).trans c8, (KB2 _).trans d0, (KB2 _).trans d1, (KB2 _).trans d2, (KB2 _).trans d3, (KB2 _).trans d4, (KB2 _).trans d5, (KB2 _).trans d6, (KB2 _).trans d7, (KB2 _).trans d8, fun W' hW' => ?_, ?_⟩
        · exact IH a.type a2.type q q2 W' (TyAt.below (below_next hW hW') hq) (TyAt.below (below_next hW hW') hq2)
        · simp only [ha, ha2]))
    exact key
end Go.Proofs.Ytjioinmiglblmaa
