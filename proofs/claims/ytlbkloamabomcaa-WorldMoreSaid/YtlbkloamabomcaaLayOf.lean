/- Walk: size and alignment of any sound type: the program's of and place. Conditions: the type lies in memory and is sound. -/
import Derived.Test.YtlbkloamabomcaaLayPlace
namespace Go.Proofs.Ytlbkloamabomcaa
open Go.RowKit Go.Sort
set_option linter.unusedVariables false
set_option linter.unusedSimpArgs false
set_option maxRecDepth 100000 in
set_option maxHeartbeats 3200000 in
theorem of_num (n : Nat) (t : TyF (Ty n)) (r : Raw) (w : World) (hk : t.kind = 1 ∨ t.kind = 2) (hT : TyAt w (n + 1) t r) : Calls Try.prog 42 #[r.val] w (OfC w (formF (n + 1) t)) := by
  have hF : formF (n + 1) t = some (t.size, t.size) := by rw [formF_succ]; unfold formOne; rw [if_pos hk]
  rw [hF]
  obtain ⟨e1, e2, e3, e4, e5, e6, e7, e8, e9, hf, he⟩ := hT
  obtain ⟨rk, rs, rp, fa, fl, fc, rc, ea, el, ec⟩ := r
  simp only at e1 e2
  rw [← e1] at hk
  rw [← e2]
  clear hf he e4 e6 e5 e7 e8 e9 e1 e2 e3 hF
  unfold Raw.val
  simp only
  rcases hk with rfl | rfl
  all_goals
    go_enter Try.func42, Try.ntmps42
    go_wp2_with fail
    refine bodyPost_ret (v := .tuple #[.agg #[.int .i64 rs, .int .i64 rs], .bool true]) ?hresA rfl ?postA
    case hresA =>
      refine ret_ct (cs := [.int .i64 rs, .int .i64 rs]) (t := 3) (c := 2) rfl rfl rfl Try.underlying84 rfl (by kernel_rfl) (range2 ?_ ?_)
      all_goals simp [go_sem, ↓IntWalk.iteOmega, cell_upd2]
    case postA =>
      refine ⟨⟨rs, rs, true, rfl, rfl, fun g hg => by cases hg; exact ⟨rfl, rfl⟩⟩, more_of_below ?_⟩
      repeat (first | with_reducible exact Below.refl _ _ | with_reducible refine below_mo ?_ _ | with_reducible refine below_al ?_ _ | with_reducible refine below_dr ?_ | with_reducible refine below_st ?_ (by simp <;> omega) _)
set_option maxRecDepth 100000 in
set_option maxHeartbeats 3200000 in
theorem of_arr (n : Nat) (IH : ∀ (t : Ty n) (r : Raw) (w : World), soundF n t = 0 → TyAt w n t r → Calls Try.prog 42 #[r.val] w (OfC w (formF n t)))
    (t : TyF (Ty n)) (r : Raw) (w : World) (hk : t.kind = 5) (e : Ty n) (hel : t.elem = [e]) (hs : soundF n e = 0) (hc : 1 ≤ t.count ∧ t.count ≤ 65536) (hT : TyAt w (n + 1) t r) : Calls Try.prog 42 #[r.val] w (OfC w (formF (n + 1) t)) := by
  have hF : formF (n + 1) t = (formF n e).bind fun g => if g.1 * t.count ≤ 65536 then some (g.1 * t.count, g.2) else none := by
    rw [formF_succ]; unfold formOne; rw [if_neg (by omega), if_pos hk, hel]; rfl
  rw [hF]
  have HT := Lib.hid hT
  obtain ⟨e1, e2, e3, e4, e5, e6, e7, e8, e9, hf, he⟩ := hT
  obtain ⟨rk, rs, rp, fa, fl, fc, rc, ea, el, ec⟩ := r
  simp only at e1 e2 e5 e6 he
  rw [hel] at e6
  obtain rfl : el = 1 := by simpa using e6
  obtain ⟨b, off, rfl, hb, hcs⟩ := he.2.2 (by omega)
  obtain ⟨q, hq, c0, c1, c2, c3, c4, c5⟩ := hcs 0 e (by rw [hel]; rfl)
  have OFK := Lib.hid (fun W (hW : Below w.heap.size w W) => IH e q W hs (hq.below hW))
  have hec := he.1
  have hem := he.2.1
  rw [← e1] at hk
  rw [← e5] at hc ⊢
  subst hk
  simp only [Nat.zero_mul, Nat.add_zero] at c0 c1 c2 c3 c4 c5
  have HFO := Lib.hid (form_ok n e hs)
  clear hf he hcs e4 e6 e5 e7 e8 e9 e1 e2 e3 hF hq IH HT
  obtain ⟨qk, qs, qp, qfa, qfl, qfc, qc, qea, qel, qec⟩ := q
  unfold Raw.val at OFK ⊢
  simp only at OFK c0 c1 c2 c3 c4 c5 ⊢
  cases hF : formF n e with
  | none =>
    rw [hF] at OFK
    clear hF
    simp only [Option.bind_none]
    go_enter Try.func42, Try.ntmps42
    go_wp2_with (go_at_call 42; refine (OFK.out _ (by repeat (first | exact Below.refl _ _ | refine below_mo ?_ _ | refine below_al ?_ _))).mono ?_; rintro e w1 ⟨⟨s, a, bb, rfl, rfl, hg⟩, pA, rfl⟩)
    go_region
    all_goals try go_wp2_with fail
    all_goals
      refine bodyPost_ret (v := .tuple #[.agg #[.int .i64 (wrap64 (s * rc)), .int .i64 a], .bool false]) ?hresB rfl ?postB
      case hresB =>
        refine ret_ct (cs := [.int .i64 (wrap64 (s * rc)), .int .i64 a]) (t := 3) (c := 2) rfl rfl rfl Try.underlying84 rfl (by kernel_rfl) (range2 ?_ ?_)
        all_goals simp [go_sem, ↓IntWalk.iteOmega, cell_upd2]
      case postB =>
        refine ⟨⟨wrap64 (s * rc), a, false, rfl, rfl, fun g hg => by cases hg⟩, more_of_below ?_⟩
        repeat (first | with_reducible exact Below.refl _ _ | with_reducible refine below_mo ?_ _ | with_reducible refine below_al ?_ _ | with_reducible refine below_dr ?_ | with_reducible refine below_st ?_ (by simp <;> omega) _)
  | some g =>
    rw [hF] at OFK
    have hg1 := HFO.out g hF
    replace OFK : Hid (∀ W, Below w.heap.size w W → Calls Try.prog 42 #[.agg #[.int .i64 qk, .int .i64 qs, .bool qp, .slice qfa qfl qfc, .int .i64 qc, .slice qea qel qec]] W fun e w' => e = .returned (.tuple #[.agg #[.int .i64 g.1, .int .i64 g.2], .bool true]) ∧ ∃ p : Regrown, w' = more W p) := Lib.hid (fun W hW => (OFK.out W hW).mono (by
      rintro e w1 ⟨⟨s, a, bb, rfl, rfl, hg⟩, p1, rfl⟩
      obtain ⟨rfl, rfl⟩ := hg _ rfl
      exact ⟨rfl, p1, rfl⟩))
    clear hF HFO
    obtain ⟨ga, gb⟩ := g
    simp only [Option.bind_some] at *
    have h0 : 0 ≤ ga * rc := Int.mul_nonneg hg1.1 (by omega)
    have h1 : ga * rc ≤ 65536 * 65536 := Int.mul_le_mul hg1.2.1 hc.2 (by omega) (by omega)
    have hR : Hid (∀ b : Bool, b = decide (ga * rc ≤ 65536) → b = (if ga * rc ≤ 65536 then some (ga * rc, gb) else none).isSome ∧ ∀ g, (if ga * rc ≤ 65536 then some (ga * rc, gb) else none) = some g → ga * rc = g.1 ∧ gb = g.2) := Lib.hid (fun b hb => by
      subst hb
      split
      · rename_i h
        exact ⟨by simp [h], fun g hg => by cases hg; exact ⟨rfl, rfl⟩⟩
      · rename_i h
        exact ⟨by simp [h], fun g hg => by cases hg⟩)
    clear hg1
    have hM : Hid (∃ M, M = ga * rc) := Lib.hid ⟨_, rfl⟩
    by_cases hle : ga * rc ≤ 65536
    all_goals
      have hRR := Lib.hid (hR.out _ rfl)
      clear hR hM
      go_enter Try.func42, Try.ntmps42
      go_wp2_with (go_at_call 42; refine (OFK.out _ (by repeat (first | exact Below.refl _ _ | refine below_mo ?_ _ | refine below_al ?_ _))).mono ?_; rintro e w1 ⟨rfl, pA, rfl⟩)
      go_region
      all_goals try go_wp2_with fail
      all_goals
        refine bodyPost_ret (v := .tuple #[.agg #[.int .i64 (ga * rc), .int .i64 gb], .bool (decide (ga * rc ≤ 65536))]) ?hresC rfl ?postC
        case hresC =>
          refine ret_ct (cs := [.int .i64 (ga * rc), .int .i64 gb]) (t := 3) (c := 2) rfl rfl ?hsl Try.underlying84 rfl (by kernel_rfl) (range2 ?_ ?_)
          case hsl => first | rfl | simp [hle]
          all_goals simp [go_sem, ↓IntWalk.iteOmega, cell_upd2]
        case postC =>
          refine ⟨⟨ga * rc, gb, _, rfl, by first | exact hRR.out.1 | simp [hle], by first | exact hRR.out.2 | (intro g hg; cases hg; exact ⟨rfl, rfl⟩) | (intro g hg; cases hg)⟩, more_of_below ?_⟩
          repeat (first | with_reducible exact Below.refl _ _ | with_reducible refine below_mo ?_ _ | with_reducible refine below_al ?_ _ | with_reducible refine below_dr ?_ | with_reducible refine below_st ?_ (by simp <;> omega) _)
set_option maxRecDepth 100000 in
set_option maxHeartbeats 3200000 in
theorem of_group (n : Nat) (t : TyF (Ty n)) (r : Raw) (w : World) (hk : t.kind = 3 ∨ t.kind = 4)
    (PL : ∀ W, Below w.heap.size w W → Calls Try.prog 32 #[r.val] W (PlaceC W (plK (formF n) (tsize n) t t.fields.length) (spK (formF n) (tsize n) (tkind n) t t.fields.length)))
    (hT : TyAt w (n + 1) t r) : Calls Try.prog 42 #[r.val] w (OfC w (formF (n + 1) t)) := by
  have hF : formF (n + 1) t = (plK (formF n) (tsize n) t t.fields.length).bind finF := by
    rw [formF_succ]; unfold formOne; rw [if_neg (by omega), if_neg (by omega)]
  rw [hF]
  obtain ⟨e1, e2, e3, e4, e5, e6, e7, e8, e9, hf, he⟩ := hT
  obtain ⟨rk, rs, rp, fa, fl, fc, rc, ea, el, ec⟩ := r
  simp only at e1
  rw [← e1] at hk
  clear hf he e4 e6 e5 e7 e8 e9 e1 e2 e3 hF
  unfold Raw.val at PL ⊢
  simp only at PL ⊢
  generalize plK (formF n) (tsize n) t t.fields.length = pl at *
  generalize spK (formF n) (tsize n) (tkind n) t t.fields.length = sp at *
  replace PL := Lib.hid PL
  rcases hk with rfl | rfl
  all_goals
    go_enter Try.func42, Try.ntmps42
    go_wp2_with (go_at_call 32; refine (PL.out _ (by repeat (first | exact Below.refl _ _ | refine below_mo ?_ _ | refine below_al ?_ _))).mono ?_; rintro e w1 ⟨⟨s, a, b, ad, l, c, ok, rfl, hn, hp⟩, pA, rfl⟩)
    refine bodyPost_ret (v := .tuple #[.agg #[.int .i64 s, .int .i64 a], .bool ok]) ?hresC rfl ?postC
    case hresC =>
      refine ret_ct (cs := [.int .i64 s, .int .i64 a]) (t := 3) (c := 2) rfl rfl rfl Try.underlying84 rfl (by kernel_rfl) (range2 ?_ ?_)
      all_goals simp [go_sem, ↓IntWalk.iteOmega, cell_upd2]
    case postC =>
      refine ⟨⟨s, a, ok, rfl, ?_, fun g hg => ?_⟩, more_of_below ?_⟩
      · cases pl with
        | none => rw [hn rfl]; rfl
        | some p =>
          rw [(hp p rfl).1]
          simp only [Option.bind_some, finF]
          split <;> simp_all
      · cases pl with
        | none => cases hg
        | some p =>
          obtain ⟨h1, h2, h3, _⟩ := hp p rfl
          simp only [Option.bind_some, finF] at hg
          split at hg
          · cases hg; exact ⟨h2, h3⟩
          · cases hg
      · repeat (first | with_reducible exact Below.refl _ _ | with_reducible refine below_mo ?_ _ | with_reducible refine below_al ?_ _ | with_reducible refine below_dr ?_ | with_reducible refine below_st ?_ (by simp <;> omega) _)
/-- size and alignment of any sound type. -/
theorem of_any : ∀ (n : Nat) (t : Ty n) (r : Raw) (w : World), soundF n t = 0 → TyAt w n t r → Calls Try.prog 42 #[r.val] w (OfC w (formF n t))
  | 0, t, _, _, _, _ => nomatch t
  | n + 1, (t : TyF (Ty n)), r, w, hs, hT => by
    rcases sound_cases n t hs with ⟨hk, _⟩ | ⟨hk, _, _, _, c0, c1, e, he, hse⟩ | ⟨hk, _⟩
    · exact of_num n t r w hk hT
    · exact of_arr n (of_any n) t r w hk e he hse ⟨c0, c1⟩ hT
    · exact of_group n t r w hk (fun W hW => place_step n (of_any n) t r W hs hk (hT.below hW)) hT
theorem place_any (n : Nat) (t : TyF (Ty n)) (r : Raw) (w : World) (hs : soundF (n + 1) t = 0) (hk : t.kind = 3 ∨ t.kind = 4) (hT : TyAt w (n + 1) t r) :
    Calls Try.prog 32 #[r.val] w (PlaceC w (plK (formF n) (tsize n) t t.fields.length) (spK (formF n) (tsize n) (tkind n) t t.fields.length)) :=
  place_step n (of_any n) t r w hs hk hT
end Go.Proofs.Ytlbkloamabomcaa
