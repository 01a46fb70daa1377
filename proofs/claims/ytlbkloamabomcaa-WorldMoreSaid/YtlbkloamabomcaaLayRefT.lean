/- Walk: where a group's fields lie, bit by bit: the document's Lay. Conditions: the type lies in memory and is sound. Walks: how any sound type lies, by the document; whether it may be laid: the document's Lay, Check. Conditions: the type lies in memory. Walk: where a field lies, by the document's Spot. Conditions: the type and the rows lie in memory. -/
import Derived.Test.YtlbkloamabomcaaLayRefLay3
import Derived.Test.YtlbkloamabomcaaLayRefLay4
import Derived.Test.YtlbkloamabomcaaLayRefBig
import Derived.Test.YtlbkloamabomcaaLayCheck
import Derived.Test.YtlbkloamabomcaaKindRefSound
namespace Go.Proofs.Ytlbkloamabomcaa
open Go.RowKit Go.Sort
set_option linter.unusedVariables false
set_option linter.unusedSimpArgs false
theorem lay_step (n : Nat) (LYI : ∀ (t : Ty n) (r : Raw) (w : World), soundF n t = 0 → TyAt w n t r → Calls Try.prog 16 #[r.val] w (LayC n t w))
    (t : TyF (Ty n)) (r : Raw) (w : World) (hs : soundF (n + 1) t = 0) (hk : t.kind = 3 ∨ t.kind = 4) (hT : TyAt w (n + 1) t r) :
    Calls Try.prog 16 #[r.val] w (LayC (n + 1) t w) := by
  rcases hk with hk | hk
  · exact lay_step3 n LYI t r w hs hk hT
  · exact lay_step4 n LYI t r w hs hk hT
end Go.Proofs.Ytlbkloamabomcaa
namespace Go.Proofs.Ytlbkloamabomcaa
open Go.RowKit Go.Sort
set_option linter.unusedVariables false
set_option linter.unusedSimpArgs false
set_option maxRecDepth 100000 in
set_option maxHeartbeats 3200000 in
theorem lay_num (n : Nat) (t : TyF (Ty n)) (r : Raw) (w : World) (hk : t.kind = 1 ∨ t.kind = 2) (hT : TyAt w (n + 1) t r) : Calls Try.prog 16 #[r.val] w (LayC (n + 1) t w) := by
  have hF : Hid (formF (n + 1) t = some (t.size, t.size)) := Lib.hid (by rw [formF_succ]; unfold formOne; rw [if_pos hk])
  have hG : Hid (¬ grpOk (n + 1) t) := Lib.hid (fun h => by have := h.1; omega)
  obtain ⟨e1, e2, e3, e4, e5, e6, e7, e8, e9, hf, he⟩ := hT
  obtain ⟨rk, rs, rp, fa, fl, fc, rc, ea, el, ec⟩ := r
  simp only at e1 e2
  rw [← e1] at hk
  rw [← e2] at hF
  clear hf he e4 e6 e5 e7 e8 e9 e1 e2 e3
  unfold Raw.val
  simp only
  rcases hk with rfl | rfl
  all_goals
    go_enter Try.func16, Try.ntmps16
    go_wp2_with fail
    refine bodyPost_ret (v := .agg #[.int .i64 rs, .int .i64 rs, .slice none 0 0, .slice none 0 0, .bool false]) ?hresA rfl ?postA
    case hresA =>
      refine ret_c (cs := [.int .i64 rs, .int .i64 rs, .slice none 0 0, .slice none 0 0, .bool false]) (c := 2) rfl rfl Try.underlying33 rfl (by kernel_rfl) (range5 ?_ ?_ ?_ ?_ ?_)
      all_goals simp [go_sem, ↓IntWalk.iteOmega, cell_upd2]
    case postA =>
      refine ⟨⟨rs, rs, none, 0, 0, none, 0, 0, false, rfl, (by rw [hF.out]; rfl), (fun g hg => by rw [hF.out] at hg; cases hg; exact ⟨rfl, rfl⟩), fun h => absurd h hG.out⟩, more_of_below ?_⟩
      repeat (first | with_reducible exact Below.refl _ _ | with_reducible refine below_mo ?_ _ | with_reducible refine below_al ?_ _ | with_reducible refine below_dr ?_ | with_reducible refine below_st ?_ (by simp <;> omega) _)
set_option maxRecDepth 100000 in
set_option maxHeartbeats 3200000 in
theorem lay_arr (n : Nat) (IH : ∀ (t : Ty n) (r : Raw) (w : World), soundF n t = 0 → TyAt w n t r → Calls Try.prog 16 #[r.val] w (LayC n t w))
    (t : TyF (Ty n)) (r : Raw) (w : World) (hk : t.kind = 5) (e : Ty n) (hel : t.elem = [e]) (hs : soundF n e = 0) (hc : 1 ≤ t.count ∧ t.count ≤ 65536) (hT : TyAt w (n + 1) t r) : Calls Try.prog 16 #[r.val] w (LayC (n + 1) t w) := by
  have hF : formF (n + 1) t = (formF n e).bind fun g => if g.1 * t.count ≤ 65536 then some (g.1 * t.count, g.2) else none := by
    rw [formF_succ]; unfold formOne; rw [if_neg (by omega), if_pos hk, hel]; rfl
  have hG : Hid (¬ grpOk (n + 1) t) := Lib.hid (fun h => by have := h.1; omega)
  obtain ⟨e1, e2, e3, e4, e5, e6, e7, e8, e9, hf, he⟩ := hT
  obtain ⟨rk, rs, rp, fa, fl, fc, rc, ea, el, ec⟩ := r
  simp only at e1 e2 e5 e6 he
  rw [hel] at e6
  obtain rfl : el = 1 := by simpa using e6
  obtain ⟨b, off, rfl, hb, hcs⟩ := he.2.2 (by omega)
  obtain ⟨q, hq, c0, c1, c2, c3, c4, c5⟩ := hcs 0 e (by rw [hel]; rfl)
  have OFK := Lib.hid (fun W (hW : Below w.heap.size w W) => IH e q W hs (hq.below hW))
  have hec := he.1
  have hem := he.2.1
  rw [← e1] at hk
  rw [← e5] at hc hF
  subst hk
  simp only [Nat.zero_mul, Nat.add_zero] at c0 c1 c2 c3 c4 c5
  have HFO := Lib.hid (form_ok n e hs)
  clear hf he hcs e4 e6 e5 e7 e8 e9 e1 e2 e3 hq IH
  obtain ⟨qk, qs, qp, qfa, qfl, qfc, qc, qea, qel, qec⟩ := q
  unfold Raw.val at OFK ⊢
  simp only at OFK c0 c1 c2 c3 c4 c5 ⊢
  cases hE : formF n e with
  | none =>
    rw [hE] at hF
    have hFN : Hid (formF (n + 1) t = none) := Lib.hid (by rw [hF]; rfl)
    have LY : Hid (∀ W, Below w.heap.size w W → Calls Try.prog 16 #[.agg #[.int .i64 qk, .int .i64 qs, .bool qp, .slice qfa qfl qfc, .int .i64 qc, .slice qea qel qec]] W fun e w' => ∃ (s a : Int) (a2 : Option Addr) (n2 k2 : Nat) (a3 : Option Addr) (n3 k3 : Nat), e = .returned (.agg #[.int .i64 s, .int .i64 a, .slice a2 n2 k2, .slice a3 n3 k3, .bool true]) ∧ ∃ p : Regrown, w' = more W p) := Lib.hid (fun W hW => (OFK.out W hW).mono (by
      rintro e w1 ⟨⟨s, a, a2, n2, k2, a3, n3, k3, L, rfl, rfl, _, _⟩, p1, rfl⟩
      rw [hE]
      exact ⟨s, a, a2, n2, k2, a3, n3, k3, rfl, p1, rfl⟩))
    clear hF hE OFK HFO
    go_enter Try.func16, Try.ntmps16
    go_wp2_with (go_at_call 16; refine (LY.out _ (by repeat (first | exact Below.refl _ _ | refine below_mo ?_ _ | refine below_al ?_ _))).mono ?_; rintro e w1 ⟨s, a, a2, n2, k2, a3, n3, k3, rfl, pA, rfl⟩)
    refine bodyPost_ret (v := .agg #[.int .i64 0, .int .i64 a, .slice none 0 0, .slice none 0 0, .bool true]) ?hresB rfl ?postB
    case hresB =>
      refine ret_c (cs := [.int .i64 0, .int .i64 a, .slice none 0 0, .slice none 0 0, .bool true]) (c := 2) rfl rfl Try.underlying33 rfl (by kernel_rfl) (range5 ?_ ?_ ?_ ?_ ?_)
      all_goals simp [go_sem, ↓IntWalk.iteOmega, cell_upd2]
    case postB =>
      refine ⟨⟨0, a, none, 0, 0, none, 0, 0, true, rfl, (by rw [hFN.out]; rfl), (fun g hg => by rw [hFN.out] at hg; cases hg), fun h => absurd h hG.out⟩, more_of_below ?_⟩
      repeat (first | with_reducible exact Below.refl _ _ | with_reducible refine below_mo ?_ _ | with_reducible refine below_al ?_ _ | with_reducible refine below_dr ?_ | with_reducible refine below_st ?_ (by simp <;> omega) _)
  | some g =>
    have hg1 := HFO.out g hE
    rw [hE] at hF
    have LY : Hid (∀ W, Below w.heap.size w W → Calls Try.prog 16 #[.agg #[.int .i64 qk, .int .i64 qs, .bool qp, .slice qfa qfl qfc, .int .i64 qc, .slice qea qel qec]] W fun e w' => ∃ (a2 : Option Addr) (n2 k2 : Nat) (a3 : Option Addr) (n3 k3 : Nat), e = .returned (.agg #[.int .i64 g.1, .int .i64 g.2, .slice a2 n2 k2, .slice a3 n3 k3, .bool false]) ∧ ∃ p : Regrown, w' = more W p) := Lib.hid (fun W hW => (OFK.out W hW).mono (by
      rintro e w1 ⟨⟨s, a, a2, n2, k2, a3, n3, k3, L, rfl, rfl, hg, _⟩, p1, rfl⟩
      obtain ⟨rfl, rfl⟩ := hg _ hE
      rw [hE]
      exact ⟨a2, n2, k2, a3, n3, k3, rfl, p1, rfl⟩))
    clear hE HFO OFK
    obtain ⟨ga, gb⟩ := g
    simp only [Option.bind_some] at *
    have h0 : 0 ≤ ga * rc := Int.mul_nonneg hg1.1 (by omega)
    have h1 : ga * rc ≤ 65536 * 65536 := Int.mul_le_mul hg1.2.1 hc.2 (by omega) (by omega)
    clear hg1
    have hcm : ga * rc ≤ 65536 ∨ 65536 < ga * rc := by omega
    rcases hcm with hle | hgt
    · have hFN : Hid (formF (n + 1) t = some (ga * rc, gb)) := Lib.hid (by rw [hF, if_pos hle])
      clear hF
      go_enter Try.func16, Try.ntmps16
      go_wp2_with (go_at_call 16; refine (LY.out _ (by repeat (first | exact Below.refl _ _ | refine below_mo ?_ _ | refine below_al ?_ _))).mono ?_; rintro e w1 ⟨a2, n2, k2, a3, n3, k3, rfl, pA, rfl⟩)
      refine bodyPost_ret (v := .agg #[.int .i64 (ga * rc), .int .i64 gb, .slice none 0 0, .slice none 0 0, .bool false]) ?hresC rfl ?postC
      case hresC =>
        refine ret_c (cs := [.int .i64 (ga * rc), .int .i64 gb, .slice none 0 0, .slice none 0 0, .bool false]) (c := 2) rfl rfl Try.underlying33 rfl (by kernel_rfl) (range5 ?_ ?_ ?_ ?_ ?_)
        all_goals simp [go_sem, ↓IntWalk.iteOmega, cell_upd2]
      case postC =>
        refine ⟨⟨ga * rc, gb, none, 0, 0, none, 0, 0, false, rfl, (by rw [hFN.out]; rfl), (fun g hg => by rw [hFN.out] at hg; cases hg; exact ⟨rfl, rfl⟩), fun h => absurd h hG.out⟩, more_of_below ?_⟩
        repeat (first | with_reducible exact Below.refl _ _ | with_reducible refine below_mo ?_ _ | with_reducible refine below_al ?_ _ | with_reducible refine below_dr ?_ | with_reducible refine below_st ?_ (by simp <;> omega) _)
    · have hFN : Hid (formF (n + 1) t = none) := Lib.hid (by rw [hF, if_neg (by omega)])
      clear hF
      go_enter Try.func16, Try.ntmps16
      go_wp2_with (go_at_call 16; refine (LY.out _ (by repeat (first | exact Below.refl _ _ | refine below_mo ?_ _ | refine below_al ?_ _))).mono ?_; rintro e w1 ⟨a2, n2, k2, a3, n3, k3, rfl, pA, rfl⟩)
      refine bodyPost_ret (v := .agg #[.int .i64 0, .int .i64 gb, .slice none 0 0, .slice none 0 0, .bool true]) ?hresD rfl ?postD
      case hresD =>
        refine ret_c (cs := [.int .i64 0, .int .i64 gb, .slice none 0 0, .slice none 0 0, .bool true]) (c := 2) rfl rfl Try.underlying33 rfl (by kernel_rfl) (range5 ?_ ?_ ?_ ?_ ?_)
        all_goals simp [go_sem, ↓IntWalk.iteOmega, cell_upd2]
      case postD =>
        refine ⟨⟨0, gb, none, 0, 0, none, 0, 0, true, rfl, (by rw [hFN.out]; rfl), (fun g hg => by rw [hFN.out] at hg; cases hg), fun h => absurd h hG.out⟩, more_of_below ?_⟩
        repeat (first | with_reducible exact Below.refl _ _ | with_reducible refine below_mo ?_ _ | with_reducible refine below_al ?_ _ | with_reducible refine below_dr ?_ | with_reducible refine below_st ?_ (by simp <;> omega) _)
/-- how any sound type lies. -/
theorem lay_any : ∀ (n : Nat) (t : Ty n) (r : Raw) (w : World), soundF n t = 0 → TyAt w n t r → Calls Try.prog 16 #[r.val] w (LayC n t w)
  | 0, t, _, _, _, _ => nomatch t
  | n + 1, (t : TyF (Ty n)), r, w, hs, hT => by
    rcases sound_cases n t hs with ⟨hk, _⟩ | ⟨hk, _, _, _, c0, c1, e, he, hse⟩ | ⟨hk, _⟩
    · exact lay_num n t r w hk hT
    · exact lay_arr n (lay_any n) t r w hk e he hse ⟨c0, c1⟩ hT
    · exact lay_step n (lay_any n) t r w hs hk hT
theorem field_laid (s a : Int) (a2 : Option Addr) (n2 k2 : Nat) (a3 : Option Addr) (n3 k3 : Nat) (L : Bool) (w : World) : (Instr.field 33 (.agg #[.int .i64 s, .int .i64 a, .slice a2 n2 k2, .slice a3 n3 k3, .bool L]) 4).run Try.prog w = .ok (.bool L) w := by kernel_rfl
set_option maxRecDepth 100000 in
set_option maxHeartbeats 1600000 in
theorem rcheck_any (n : Nat) (t : Ty n) (r : Raw) (w : World) (hT : TyAt w n t r) : Calls Try.prog 14 #[r.val] w (Gives w (.int .i64 (checkF n t))) := by
  have S := Lib.hid (fun W (hW : Below w.heap.size w W) => refSound_any n t r W (hT.below hW))
  have T := Lib.hid (fun W (hW : Below w.heap.size w W) => rtorn_any n t r W (hT.below hW))
  have O := Lib.hid (fun (hs : soundF n t = 0) W (hW : Below w.heap.size w W) => lay_any n t r W hs (hT.below hW))
  have hcs : (SoundF n t ≠ 0 ∧ checkF n t = SoundF n t) ∨ (SoundF n t = 0 ∧ tornF n t = true ∧ checkF n t = 10) ∨ (SoundF n t = 0 ∧ tornF n t = false ∧ (formF n t).isNone = true ∧ checkF n t = 9) ∨ (SoundF n t = 0 ∧ tornF n t = false ∧ (formF n t).isNone = false ∧ checkF n t = 0) := by
    by_cases h1 : SoundF n t = 0
    · cases h2 : tornF n t with
      | true => exact .inr (.inl ⟨h1, rfl, by unfold checkF; simp [h1, h2]⟩)
      | false =>
        cases h4 : formF n t with
        | none => exact .inr (.inr (.inl ⟨h1, rfl, rfl, by unfold checkF; simp [h1, h2, h4]⟩))
        | some g => exact .inr (.inr (.inr ⟨h1, rfl, rfl, by unfold checkF; simp [h1, h2, h4]⟩))
    · exact .inl ⟨h1, by unfold checkF; simp [h1]⟩
  have SZ : Hid (∀ h : SoundF n t = 0, ∀ W, Below w.heap.size w W → Calls Try.prog 16 #[r.val] W fun e w' => ∃ (s a : Int) (a2 : Option Addr) (n2 k2 : Nat) (a3 : Option Addr) (n3 k3 : Nat), e = .returned (.agg #[.int .i64 s, .int .i64 a, .slice a2 n2 k2, .slice a3 n3 k3, .bool (formF n t).isNone]) ∧ ∃ p : Regrown, w' = more W p) := Lib.hid (fun h W hW => (O.out (SoundF_zero h) W hW).mono (by
    rintro e w1 ⟨⟨s, a, a2, n2, k2, a3, n3, k3, L, rfl, rfl, _, _⟩, p1, rfl⟩
    exact ⟨s, a, a2, n2, k2, a3, n3, k3, rfl, p1, rfl⟩))
  clear O hT
  have hfl := field_laid
  obtain ⟨rk, rs, rp, fa, fl, fc, rc, ea, el, ec⟩ := r
  unfold Raw.val at SZ S T ⊢
  simp only at SZ S T ⊢
  generalize SoundF n t = A at *
  generalize tornF n t = B at *
  generalize (formF n t).isNone = F at *
  generalize checkF n t = E at *
  rcases hcs with ⟨h1, rfl⟩ | ⟨rfl, rfl, rfl⟩ | ⟨rfl, rfl, rfl, rfl⟩ | ⟨rfl, rfl, rfl, rfl⟩
  · have hb0 : (E == 0) = false := by simpa using h1
    go_enter Try.func14, Try.ntmps14
    go_wp2_with (go_at_call 30; refine (S.out _ (by repeat (first | exact Below.refl _ _ | refine below_mo ?_ _ | refine below_al ?_ _))).mono ?_; rintro e w1 ⟨rfl, pA, rfl⟩)
    go_ret
    exact Gives.mk rfl (by repeat (first | with_reducible exact Below.refl _ _ | with_reducible refine below_mo ?_ _ | with_reducible refine below_al ?_ _))
  · go_enter Try.func14, Try.ntmps14
    go_wp2_with (first
      | (go_at_call 30; refine (S.out _ (by repeat (first | exact Below.refl _ _ | refine below_mo ?_ _ | refine below_al ?_ _))).mono ?_; rintro e w1 ⟨rfl, pA, rfl⟩)
      | (go_at_call 31; refine (T.out _ (by repeat (first | exact Below.refl _ _ | refine below_mo ?_ _ | refine below_al ?_ _))).mono ?_; rintro e w1 ⟨rfl, pB, rfl⟩))
    go_ret
    exact Gives.mk rfl (by repeat (first | with_reducible exact Below.refl _ _ | with_reducible refine below_mo ?_ _ | with_reducible refine below_al ?_ _))
  all_goals
    have O := Lib.hid (SZ.out rfl)
    go_enter Try.func14, Try.ntmps14
    go_wp2_with (first
      | (go_at_call 30; refine (S.out _ (by repeat (first | exact Below.refl _ _ | refine below_mo ?_ _ | refine below_al ?_ _))).mono ?_; rintro e w1 ⟨rfl, pA, rfl⟩)
      | (go_at_call 31; refine (T.out _ (by repeat (first | exact Below.refl _ _ | refine below_mo ?_ _ | refine below_al ?_ _))).mono ?_; rintro e w1 ⟨rfl, pB, rfl⟩)
      | (go_at_call 16; refine (O.out _ (by repeat (first | exact Below.refl _ _ | refine below_mo ?_ _ | refine below_al ?_ _))).mono ?_; rintro e w1 ⟨s, a, a2, n2, k2, a3, n3, k3, rfl, pC, rfl⟩))
    go_ret
    exact Gives.mk rfl (by repeat (first | with_reducible exact Below.refl _ _ | with_reducible refine below_mo ?_ _ | with_reducible refine below_al ?_ _))
end Go.Proofs.Ytlbkloamabomcaa
namespace Go.Proofs.Ytlbkloamabomcaa
open Go.RowKit Go.Sort
set_option linter.unusedVariables false
set_option linter.unusedSimpArgs false
/-- a spot, out of where it begins and how many bits it has. -/
def spotOf (bt : Bool) (kd x y : Int) : Sp := if bt = true then bitSp x y else ⟨x / 8, y / 8, kd, false, 0, 0⟩
theorem spotF_of {α : Type} (pk uni : Bool) (f : FdF α) (ts kd : Int) (g : Int × Int) (p : Pl) : spotF pk uni f ts kd g p = spotOf f.isBits kd (begF pk uni f ts g p) (numF f g) := by
  unfold spotF spotOf numF
  cases hb : f.isBits
  · simp
    try omega
  · simp
    try rfl
theorem range6 {w : World} {b : Nat} {v0 v1 v2 v3 v4 v5 : Value} (h0 : w.cell? ⟨b, 0, none⟩ = some v0) (h1 : w.cell? ⟨b, 1, none⟩ = some v1) (h2 : w.cell? ⟨b, 2, none⟩ = some v2) (h3 : w.cell? ⟨b, 3, none⟩ = some v3) (h4 : w.cell? ⟨b, 4, none⟩ = some v4) (h5 : w.cell? ⟨b, 5, none⟩ = some v5) : w.rangeAt b 0 [v0, v1, v2, v3, v4, v5] := fun j v hv => by
  match j with
  | 0 => cases hv; exact h0
  | 1 => cases hv; exact h1
  | 2 => cases hv; exact h2
  | 3 => cases hv; exact h3
  | 4 => cases hv; exact h4
  | 5 => cases hv; exact h5
  | n + 6 => simp at hv
set_option maxRecDepth 100000 in
set_option maxHeartbeats 3200000 in
theorem spot_any (n : Nat) (t : TyF (Ty n)) (r : Raw) (w : World) (hT : TyAt w (n + 1) t r) (i : Nat) (f : FdF (Ty n)) (hi : t.fields[i]? = some f) (s a : Int) (g2 g3 N k2 k3 : Nat) (L : Bool) (x y : Int) (hx0 : 0 ≤ x) (hx1 : x ≤ 100000000) (hy0 : 0 ≤ y) (hy1 : y ≤ 100000000) (hN : i < N) (hk2 : N ≤ k2) (hk3 : N ≤ k3)
    (h2 : w.cell? ⟨g2, i, none⟩ = some (.int .i64 x)) (h3 : w.cell? ⟨g3, i, none⟩ = some (.int .i64 y)) :
    Calls Try.prog 18 #[r.val, .agg #[.int .i64 s, .int .i64 a, .slice (some ⟨g2, 0, none⟩) N k2, .slice (some ⟨g3, 0, none⟩) N k3, .bool L], .int .i64 i] w (Gives w (.agg (spotOf f.isBits (tkind n f.type) x y).cs.toArray)) := by
  obtain ⟨e1, e2, e3, e4, e5, e6, e7, e8, e9, hf, he⟩ := hT
  obtain ⟨rk, rs, rp, fa, fl, fc, rc, ea, el, ec⟩ := r
  simp only at e4 hf
  have hil : i < fl := by rw [e4]; exact (List.getElem?_eq_some_iff.1 hi).1
  obtain ⟨b, off, rfl, hb, hc⟩ := hf.2.2 (by omega)
  obtain ⟨q, hq, g1, gg2, c0, c1, c2, c3, c4, c5, c6, c7, c8⟩ := hc i f hi
  have hqk := (tyAt_parts hq).1
  have hfc := hf.1
  have hfm := hf.2.1
  have hl2 := cell_lt2 h2
  have hl3 := cell_lt2 h3
  rw [← hqk]
  clear hf hc hq e1 e2 e3 e4 e5 e6 e7 e8 e9 he hqk hi
  have hi0 : (0 : Int) ≤ (i : Int) := Int.natCast_nonneg _
  have hiN : (i : Int) < (N : Int) := by omega
  have hifl : (i : Int) < (fl : Int) := by omega
  obtain ⟨qk, qs, qp, qfa, qfl, qfc, qc, qea, qel, qec⟩ := q
  obtain ⟨nm, ty, bt, wd⟩ := f
  unfold Raw.val
  simp only at *
  have ht1 : Int.tdiv x 8 = x / 8 := tdiv_eq hx0
  have ht2 : Int.tdiv y 8 = y / 8 := tdiv_eq hy0
  have ht3 : Int.tmod x 8 = x % 8 := Int.tmod_eq_emod_of_nonneg hx0
  cases bt with
  | false =>
    have hR : Hid ((spotOf false qk x y).cs = [.int .i64 (x / 8), .int .i64 (y / 8), .int .i64 qk, .bool false, .int .i64 0, .int .i64 0]) := Lib.hid rfl
    go_enter Try.func18, Try.ntmps18
    go_wp2_with fail
    go_quiet (fail)
    go_wp2_with fail
    refine bodyPost_ret (v := .agg (spotOf false qk x y).cs.toArray) ?hresA rfl ?postA
    case hresA =>
      rw [hR.out]
      refine ret_c (cs := [.int .i64 (x / 8), .int .i64 (y / 8), .int .i64 qk, .bool false, .int .i64 0, .int .i64 0]) (c := 6) rfl rfl Try.underlying42 rfl (by kernel_rfl) (range6 ?_ ?_ ?_ ?_ ?_ ?_)
      all_goals simp [go_sem, ↓IntWalk.iteOmega, cell_upd2]
    case postA => exact Gives.mk rfl (by repeat (first | with_reducible exact Below.refl _ _ | with_reducible refine below_mo ?_ _ | with_reducible refine below_al ?_ _ | with_reducible refine below_dr ?_ | with_reducible refine below_dn ?_ _ | with_reducible refine below_st ?_ (by simp <;> omega) _))
  | true =>
    have hyc : y = 0 ∨ 0 < y := by omega
    rcases hyc with rfl | hy
    · have hR : Hid ((spotOf true qk x 0).cs = [.int .i64 (x / 8), .int .i64 0, .int .i64 1, .bool true, .int .i64 (x % 8), .int .i64 0]) := Lib.hid rfl
      go_enter Try.func18, Try.ntmps18
      go_wp2_with fail
      go_quiet (fail)
      go_wp2_with fail
      refine bodyPost_ret (v := .agg (spotOf true qk x 0).cs.toArray) ?hresB rfl ?postB
      case hresB =>
        rw [hR.out]
        refine ret_c (cs := [.int .i64 (x / 8), .int .i64 0, .int .i64 1, .bool true, .int .i64 (x % 8), .int .i64 0]) (c := 6) rfl rfl Try.underlying42 rfl (by kernel_rfl) (range6 ?_ ?_ ?_ ?_ ?_ ?_)
        all_goals simp [go_sem, ↓IntWalk.iteOmega, cell_upd2]
      case postB => exact Gives.mk rfl (by repeat (first | with_reducible exact Below.refl _ _ | with_reducible refine below_mo ?_ _ | with_reducible refine below_al ?_ _ | with_reducible refine below_dr ?_ | with_reducible refine below_dn ?_ _ | with_reducible refine below_st ?_ (by simp <;> omega) _))
    · have hR : Hid ((spotOf true qk x y).cs = [.int .i64 (x / 8), .int .i64 ((x + y - 1) / 8 - x / 8 + 1), .int .i64 1, .bool true, .int .i64 (x % 8), .int .i64 y]) := Lib.hid (by
        unfold spotOf bitSp Sp.cs
        rw [if_pos rfl, if_neg (by omega)])
      have ht4 : Int.tdiv (x + y - 1) 8 = (x + y - 1) / 8 := tdiv_eq (by omega)
      go_enter Try.func18, Try.ntmps18
      go_wp2_with fail
      go_quiet (fail)
      go_wp2_with fail
      refine bodyPost_ret (v := .agg (spotOf true qk x y).cs.toArray) ?hresC rfl ?postC
      case hresC =>
        rw [hR.out]
        refine ret_c (cs := [.int .i64 (x / 8), .int .i64 ((x + y - 1) / 8 - x / 8 + 1), .int .i64 1, .bool true, .int .i64 (x % 8), .int .i64 y]) (c := 6) rfl rfl Try.underlying42 rfl (by kernel_rfl) (range6 ?_ ?_ ?_ ?_ ?_ ?_)
        all_goals simp [go_sem, ↓IntWalk.iteOmega, cell_upd2]
      case postC => exact Gives.mk rfl (by repeat (first | with_reducible exact Below.refl _ _ | with_reducible refine below_mo ?_ _ | with_reducible refine below_al ?_ _ | with_reducible refine below_dr ?_ | with_reducible refine below_dn ?_ _ | with_reducible refine below_st ?_ (by simp <;> omega) _))
end Go.Proofs.Ytlbkloamabomcaa
