/- Walks: may a type be laid; its size and alignment; where its fields lie: the program's check, Of, Fields. Conditions: the type lies in memory. -/
import Derived.Test.YtlbkloamabomcaaLayOf
import Derived.Test.YtlbkloamabomcaaLayLoose
namespace Go.Proofs.Ytlbkloamabomcaa
open Go.RowKit Go.Sort
set_option linter.unusedVariables false
set_option linter.unusedSimpArgs false
/-- why a type may not be laid; 0: it may. -/
def checkF (n : Nat) (t : Ty n) : Int := if SoundF n t ≠ 0 then SoundF n t else if tornF n t = true then 10 else if (formF n t).isNone = true then 9 else 0
/-- what check gives back beside it. -/
def formOf (n : Nat) (t : Ty n) : Int × Int := if checkF n t = 0 then (formF n t).getD (0, 0) else (0, 0)
theorem SoundF_zero {n : Nat} {t : Ty n} (h : SoundF n t = 0) : soundF n t = 0 := by
  unfold SoundF at h
  split at h
  · cases h
  · exact h
theorem checkF_zero {n : Nat} {t : Ty n} (h : checkF n t = 0) : SoundF n t = 0 ∧ soundF n t = 0 ∧ tornF n t = false ∧ ∃ g, formF n t = some g ∧ formOf n t = g := by
  have h0 := h
  unfold checkF at h
  split at h
  · rename_i h1; exact absurd h h1
  · rename_i h1
    have h1 : SoundF n t = 0 := by simpa using h1
    split at h
    · cases h
    · rename_i h2
      split at h
      · cases h
      · rename_i h3
        cases hF : formF n t with
        | none => rw [hF] at h3; simp at h3
        | some g => exact ⟨h1, SoundF_zero h1, by simpa using h2, g, rfl, by unfold formOf; rw [if_pos h0, hF]; rfl⟩
set_option maxRecDepth 100000 in
set_option maxHeartbeats 1600000 in
theorem check_any (n : Nat) (t : Ty n) (r : Raw) (w : World) (hT : TyAt w n t r) : Calls Try.prog 29 #[r.val] w (Gives w (.tuple #[.agg #[.int .i64 (formOf n t).1, .int .i64 (formOf n t).2], .int .i64 (checkF n t)])) := by
  have S := Lib.hid (fun W (hW : Below w.heap.size w W) => Sound_any n t r W (hT.below hW))
  have T := Lib.hid (fun W (hW : Below w.heap.size w W) => torn_any n t r W (hT.below hW))
  have O := Lib.hid (fun (hs : soundF n t = 0) W (hW : Below w.heap.size w W) => of_any n t r W hs (hT.below hW))
  have hcs : (SoundF n t ≠ 0 ∧ checkF n t = SoundF n t ∧ formOf n t = (0, 0)) ∨ (SoundF n t = 0 ∧ tornF n t = true ∧ checkF n t = 10 ∧ formOf n t = (0, 0)) ∨ (SoundF n t = 0 ∧ tornF n t = false ∧ formF n t = none ∧ checkF n t = 9 ∧ formOf n t = (0, 0)) ∨ (SoundF n t = 0 ∧ tornF n t = false ∧ ∃ g, formF n t = some g ∧ checkF n t = 0 ∧ formOf n t = g) := by
    by_cases h1 : SoundF n t = 0
    · cases h2 : tornF n t with
      | true =>
        have h3 : checkF n t = 10 := by unfold checkF; simp [h1, h2]
        exact .inr (.inl ⟨h1, rfl, h3, by unfold formOf; simp [h3]⟩)
      | false =>
        cases h4 : formF n t with
        | none =>
          have h3 : checkF n t = 9 := by unfold checkF; simp [h1, h2, h4]
          exact .inr (.inr (.inl ⟨h1, rfl, rfl, h3, by unfold formOf; simp [h3]⟩))
        | some g =>
          have h3 : checkF n t = 0 := by unfold checkF; simp [h1, h2, h4]
          exact .inr (.inr (.inr ⟨h1, rfl, g, rfl, h3, by unfold formOf; simp [h3, h4]⟩))
    · have h3 : checkF n t = SoundF n t := by unfold checkF; simp [h1]
      exact .inl ⟨h1, h3, by unfold formOf; simp [h3, h1]⟩
  have SZ := Lib.hid (fun h : SoundF n t = 0 => O.out (SoundF_zero h))
  clear O hT
  obtain ⟨rk, rs, rp, fa, fl, fc, rc, ea, el, ec⟩ := r
  unfold Raw.val at *
  simp only at *
  generalize SoundF n t = A at *
  generalize tornF n t = B at *
  generalize formF n t = F at *
  generalize checkF n t = E at *
  generalize formOf n t = G at *
  rcases hcs with ⟨h1, rfl, rfl⟩ | ⟨rfl, rfl, rfl, rfl⟩ | ⟨rfl, rfl, rfl, rfl, rfl⟩ | ⟨rfl, rfl, g, rfl, rfl, hGg⟩
  · go_enter Try.func29, Try.ntmps29
    go_wp2_with (go_at_call 40; refine (S.out _ (by repeat (first | exact Below.refl _ _ | refine below_mo ?_ _ | refine below_al ?_ _))).mono ?_; rintro e w1 ⟨rfl, pA, rfl⟩)
    refine bodyPost_ret (v := .tuple #[.agg #[.int .i64 0, .int .i64 0], .int .i64 E]) ?hresA rfl ?postA
    case hresA =>
      refine ret_ct (cs := [.int .i64 0, .int .i64 0]) (t := 3) (c := 2) rfl rfl rfl Try.underlying84 rfl (by kernel_rfl) (range2 ?_ ?_)
      all_goals simp [go_sem, ↓IntWalk.iteOmega, cell_upd2]
    case postA => exact Gives.mk rfl (by repeat (first | with_reducible exact Below.refl _ _ | with_reducible refine below_mo ?_ _ | with_reducible refine below_al ?_ _ | with_reducible refine below_dr ?_ | with_reducible refine below_st ?_ (by simp <;> omega) _))
  · go_enter Try.func29, Try.ntmps29
    go_wp2_with (first
      | (go_at_call 40; refine (S.out _ (by repeat (first | exact Below.refl _ _ | refine below_mo ?_ _ | refine below_al ?_ _))).mono ?_; rintro e w1 ⟨rfl, pA, rfl⟩)
      | (go_at_call 41; refine (T.out _ (by repeat (first | exact Below.refl _ _ | refine below_mo ?_ _ | refine below_al ?_ _))).mono ?_; rintro e w1 ⟨rfl, pB, rfl⟩))
    refine bodyPost_ret (v := .tuple #[.agg #[.int .i64 0, .int .i64 0], .int .i64 10]) ?hresB rfl ?postB
    case hresB =>
      refine ret_ct (cs := [.int .i64 0, .int .i64 0]) (t := 3) (c := 2) rfl rfl rfl Try.underlying84 rfl (by kernel_rfl) (range2 ?_ ?_)
      all_goals simp [go_sem, ↓IntWalk.iteOmega, cell_upd2]
    case postB => exact Gives.mk rfl (by repeat (first | with_reducible exact Below.refl _ _ | with_reducible refine below_mo ?_ _ | with_reducible refine below_al ?_ _ | with_reducible refine below_dr ?_ | with_reducible refine below_st ?_ (by simp <;> omega) _))
  · have O := Lib.hid (SZ.out rfl)
    go_enter Try.func29, Try.ntmps29
    go_wp2_with (first
      | (go_at_call 40; refine (S.out _ (by repeat (first | exact Below.refl _ _ | refine below_mo ?_ _ | refine below_al ?_ _))).mono ?_; rintro e w1 ⟨rfl, pA, rfl⟩)
      | (go_at_call 41; refine (T.out _ (by repeat (first | exact Below.refl _ _ | refine below_mo ?_ _ | refine below_al ?_ _))).mono ?_; rintro e w1 ⟨rfl, pB, rfl⟩)
      | (go_at_call 42; refine (O.out _ (by repeat (first | exact Below.refl _ _ | refine below_mo ?_ _ | refine below_al ?_ _))).mono ?_; rintro e w1 ⟨⟨s, a, bb, rfl, rfl, hg⟩, pC, rfl⟩))
    refine bodyPost_ret (v := .tuple #[.agg #[.int .i64 0, .int .i64 0], .int .i64 9]) ?hresC rfl ?postC
    case hresC =>
      refine ret_ct (cs := [.int .i64 0, .int .i64 0]) (t := 3) (c := 2) rfl rfl rfl Try.underlying84 rfl (by kernel_rfl) (range2 ?_ ?_)
      all_goals simp [go_sem, ↓IntWalk.iteOmega, cell_upd2]
    case postC => exact Gives.mk rfl (by repeat (first | with_reducible exact Below.refl _ _ | with_reducible refine below_mo ?_ _ | with_reducible refine below_al ?_ _ | with_reducible refine below_dr ?_ | with_reducible refine below_st ?_ (by simp <;> omega) _))
  · subst hGg
    have O : Hid (∀ W, Below w.heap.size w W → Calls Try.prog 42 #[.agg #[.int .i64 rk, .int .i64 rs, .bool rp, .slice fa fl fc, .int .i64 rc, .slice ea el ec]] W fun e w' => e = .returned (.tuple #[.agg #[.int .i64 G.1, .int .i64 G.2], .bool true]) ∧ ∃ p : Regrown, w' = more W p) := Lib.hid (fun W hW => (SZ.out rfl W hW).mono (by
      rintro e w1 ⟨⟨s, a, bb, rfl, rfl, hg⟩, p1, rfl⟩
      obtain ⟨rfl, rfl⟩ := hg _ rfl
      exact ⟨rfl, p1, rfl⟩))
    obtain ⟨ga, gb⟩ := G
    simp only at *
    go_enter Try.func29, Try.ntmps29
    go_wp2_with (first
      | (go_at_call 40; refine (S.out _ (by repeat (first | exact Below.refl _ _ | refine below_mo ?_ _ | refine below_al ?_ _))).mono ?_; rintro e w1 ⟨rfl, pA, rfl⟩)
      | (go_at_call 41; refine (T.out _ (by repeat (first | exact Below.refl _ _ | refine below_mo ?_ _ | refine below_al ?_ _))).mono ?_; rintro e w1 ⟨rfl, pB, rfl⟩)
      | (go_at_call 42; refine (O.out _ (by repeat (first | exact Below.refl _ _ | refine below_mo ?_ _ | refine below_al ?_ _))).mono ?_; rintro e w1 ⟨rfl, pC, rfl⟩))
    refine bodyPost_ret (v := .tuple #[.agg #[.int .i64 ga, .int .i64 gb], .int .i64 0]) ?hresD rfl ?postD
    case hresD =>
      refine ret_ct (cs := [.int .i64 ga, .int .i64 gb]) (t := 3) (c := 2) rfl rfl rfl Try.underlying84 rfl (by kernel_rfl) (range2 ?_ ?_)
      all_goals simp [go_sem, ↓IntWalk.iteOmega, cell_upd2]
    case postD => exact Gives.mk rfl (by repeat (first | with_reducible exact Below.refl _ _ | with_reducible refine below_mo ?_ _ | with_reducible refine below_al ?_ _ | with_reducible refine below_dr ?_ | with_reducible refine below_st ?_ (by simp <;> omega) _))
set_option maxRecDepth 100000 in
set_option maxHeartbeats 1600000 in
theorem Of_any (n : Nat) (t : Ty n) (r : Raw) (w : World) (hT : TyAt w n t r) : Calls Try.prog 13 #[r.val] w (Gives w (.tuple #[.int .i64 (formOf n t).1, .int .i64 (formOf n t).2, .int .i64 (checkF n t)])) := by
  have C := Lib.hid (fun W (hW : Below w.heap.size w W) => check_any n t r W (hT.below hW))
  clear hT
  obtain ⟨rk, rs, rp, fa, fl, fc, rc, ea, el, ec⟩ := r
  unfold Raw.val at *
  simp only at *
  generalize checkF n t = E at *
  generalize formOf n t = G at *
  obtain ⟨ga, gb⟩ := G
  simp only at *
  go_enter Try.func13, Try.ntmps13
  go_wp2_with (go_at_call 29; refine (C.out _ (by repeat (first | exact Below.refl _ _ | refine below_mo ?_ _ | refine below_al ?_ _))).mono ?_; rintro e w1 ⟨rfl, pA, rfl⟩)
  go_quiet (fail)
  go_wp2_with fail
  go_returns
  exact Gives.mk rfl (by repeat (first | with_reducible exact Below.refl _ _ | with_reducible refine below_mo ?_ _ | with_reducible refine below_al ?_ _ | with_reducible refine below_dr ?_ | with_reducible refine below_dn ?_ _))
/-- why fields may not be told; 0: they may. -/
def fieldsE (n : Nat) (t : Ty n) : Int := if checkF n t ≠ 0 then checkF n t else if tkind n t = 3 ∨ tkind n t = 4 then 0 else 8
/-- the spots of a group's fields. -/
def spotsF : (n : Nat) → Ty n → List Sp
  | 0, t => nomatch t
  | n + 1, (t : TyF (Ty n)) => spK (formF n) (tsize n) (tkind n) t t.fields.length
/-- what Fields gives back. -/
def FieldsC (w : World) (E : Int) (sp : List Sp) (e : Ending) (w' : World) : Prop :=
  (∃ (ad : Option Addr) (l c : Nat), e = .returned (.tuple #[.slice ad l c, .int .i64 E]) ∧ (E ≠ 0 → l = 0) ∧ (E = 0 → l = sp.length ∧ w'.ownsRow w.heap.size 42 6 (.slice ad l c) l (sp.flatMap Sp.cs))) ∧ ∃ p : Regrown, w' = more w p
set_option maxRecDepth 100000 in
set_option maxHeartbeats 1600000 in
theorem Fields_any (n : Nat) (t : Ty n) (r : Raw) (w : World) (hT : TyAt w n t r) : Calls Try.prog 17 #[r.val] w (FieldsC w (fieldsE n t) (spotsF n t)) := by
  match n, t with
  | n + 1, (t : TyF (Ty n)) =>
    have C := Lib.hid (fun W (hW : Below w.heap.size w W) => check_any (n + 1) t r W (hT.below hW))
    have P := Lib.hid (fun (hs : soundF (n + 1) t = 0) (hk : t.kind = 3 ∨ t.kind = 4) W (hW : Below w.heap.size w W) => place_any n t r W hs hk (hT.below hW))
    have ek : r.kind = t.kind := hT.1
    have hsp : spotsF (n + 1) t = spK (formF n) (tsize n) (tkind n) t t.fields.length := rfl
    have hcs : (checkF (n + 1) t ≠ 0 ∧ fieldsE (n + 1) t = checkF (n + 1) t) ∨ (checkF (n + 1) t = 0 ∧ t.kind ≠ 3 ∧ t.kind ≠ 4 ∧ fieldsE (n + 1) t = 8) ∨ (checkF (n + 1) t = 0 ∧ (t.kind = 3 ∨ t.kind = 4) ∧ fieldsE (n + 1) t = 0) := by
      have e : tkind (n + 1) t = t.kind := rfl
      by_cases h1 : checkF (n + 1) t = 0
      · by_cases h2 : t.kind = 3 ∨ t.kind = 4
        · exact .inr (.inr ⟨h1, h2, by unfold fieldsE; rw [e]; simp [h1, h2]⟩)
        · exact .inr (.inl ⟨h1, by omega, by omega, by unfold fieldsE; rw [e]; simp [h1, h2]⟩)
      · exact .inl ⟨h1, by unfold fieldsE; simp [h1]⟩
    have PL : Hid (checkF (n + 1) t = 0 → (t.kind = 3 ∨ t.kind = 4) → ∀ W, Below w.heap.size w W → Calls Try.prog 32 #[r.val] W fun e w' => (∃ (s a b : Int) (ad : Option Addr) (l c : Nat) (ok : Bool), e = .returned (.tuple #[.agg #[.int .i64 s, .int .i64 a, .slice ad l c, .int .i64 b], .bool ok]) ∧ l = (spotsF (n + 1) t).length ∧ w'.ownsRow W.heap.size 42 6 (.slice ad l c) l ((spotsF (n + 1) t).flatMap Sp.cs)) ∧ ∃ p : Regrown, w' = more W p) := Lib.hid (fun h hk W hW => by
      obtain ⟨_, hs, _, g, hg, _⟩ := checkF_zero h
      have hF : formF (n + 1) t = (plK (formF n) (tsize n) t t.fields.length).bind finF := by
        rw [formF_succ]; unfold formOne; rw [if_neg (by omega), if_neg (by omega)]
      rw [hF] at hg
      obtain ⟨p, hp, _⟩ := Option.bind_eq_some_iff.1 hg
      refine (P.out hs hk W hW).mono ?_
      rintro e w1 ⟨⟨s, a, b, ad, l, c, ok, rfl, _, hq⟩, pr⟩
      obtain ⟨_, _, _, h4, h5⟩ := hq p hp
      exact ⟨⟨s, a, b, ad, l, c, ok, rfl, by rw [hsp]; exact h4, by rw [hsp]; exact h5⟩, pr⟩)
    clear P hT
    obtain ⟨rk, rs, rp, fa, fl, fc, rc, ea, el, ec⟩ := r
    unfold Raw.val at *
    simp only at *
    rw [← ek] at hcs PL
    clear ek hsp
    generalize checkF (n + 1) t = A at *
    generalize formOf (n + 1) t = G at *
    generalize fieldsE (n + 1) t = E at *
    generalize spotsF (n + 1) t = sp at *
    obtain ⟨ga, gb⟩ := G
    simp only at *
    rcases hcs with ⟨h1, rfl⟩ | ⟨rfl, h2, h3, rfl⟩ | ⟨rfl, hk, rfl⟩
    · go_enter Try.func17, Try.ntmps17
      go_wp2_with (go_at_call 29; refine (C.out _ (by repeat (first | exact Below.refl _ _ | refine below_mo ?_ _ | refine below_al ?_ _))).mono ?_; rintro e w1 ⟨rfl, pA, rfl⟩)
      go_returns
      exact ⟨⟨none, 0, 0, rfl, fun _ => rfl, fun h => absurd h h1⟩, more_of_below (by repeat (first | with_reducible exact Below.refl _ _ | with_reducible refine below_mo ?_ _ | with_reducible refine below_al ?_ _))⟩
    · have b3 : (rk != 3) = true := by simp [h2]
      have b4 : (rk != 4) = true := by simp [h3]
      clear PL h2 h3
      go_enter Try.func17, Try.ntmps17
      go_wp2_with (go_at_call 29; refine (C.out _ (by repeat (first | exact Below.refl _ _ | refine below_mo ?_ _ | refine below_al ?_ _))).mono ?_; rintro e w1 ⟨rfl, pA, rfl⟩)
      go_returns
      exact ⟨⟨none, 0, 0, rfl, fun _ => rfl, fun h => by cases h⟩, more_of_below (by repeat (first | with_reducible exact Below.refl _ _ | with_reducible refine below_mo ?_ _ | with_reducible refine below_al ?_ _))⟩
    · replace PL := Lib.hid (PL.out rfl hk)
      rcases hk with rfl | rfl
      all_goals
        go_enter Try.func17, Try.ntmps17
        go_wp2_with (first
          | (go_at_call 29; refine (C.out _ (by repeat (first | exact Below.refl _ _ | refine below_mo ?_ _ | refine below_al ?_ _))).mono ?_; rintro e w1 ⟨rfl, pA, rfl⟩)
          | (go_at_call 32; refine (PL.out _ (by repeat (first | exact Below.refl _ _ | refine below_mo ?_ _ | refine below_al ?_ _))).mono ?_; rintro e w1 ⟨⟨s, a, b, ad, l, c, ok, rfl, hl, ho⟩, pB, rfl⟩; have HO := Lib.hid ho; have HL := Lib.hid hl; clear ho hl))
        go_returns
        refine ⟨⟨ad, l, c, rfl, fun h => absurd rfl h, fun _ => ⟨HL.out, ?_⟩⟩, more_of_below (by repeat (first | with_reducible exact Below.refl _ _ | with_reducible refine below_mo ?_ _ | with_reducible refine below_al ?_ _))⟩
        exact ownsRow_base (by simp [go_sem]; omega) (HO.out.alloc _)
end Go.Proofs.Ytlbkloamabomcaa
