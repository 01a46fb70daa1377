/- Walk: the statement on arrays, over what the program's functions give. Conditions: what came in lies in memory. -/
import Derived.Test.YtlbkloamabomcaaLayLawApart
import Derived.Test.YtlbkloamabomcaaKindDeepMath
namespace Go.Proofs.Ytlbkloamabomcaa
open Go.RowKit Go.Sort
set_option linter.unusedVariables false
set_option linter.unusedSimpArgs false
theorem depth_arrT {n : Nat} (c : Int) (t : Ty n) (most : Int) : depthF (n + 1) (arrT c t) most = if 1 < most then max 0 (depthF n t (most - 1)) + 1 else 1 := by
  unfold arrT; rw [depthF_succ]; split <;> simp
theorem check_arrT {n : Nat} (c : Int) (hc : 1 ≤ c ∧ c ≤ 5) (t : Ty n) (h : checkF (n + 1) (arrT c t) = 0) : checkF n t = 0 ∧ ∀ g, formF n t = some g → formOf (n + 1) (arrT c t) = (g.1 * c, g.2) := by
  obtain ⟨h1, h2, h3, g, h4, h5⟩ := checkF_zero h
  rw [sound_arrT c hc] at h2
  have hF : formF (n + 1) (arrT c t) = (formF n t).bind fun g => if g.1 * c ≤ 65536 then some (g.1 * c, g.2) else none := by
    show formOne (formF n) (tsize n) (⟨5, 0, false, [], c, [t]⟩ : TyF (Ty n)) = _
    unfold formOne
    rw [if_neg (by simp)]
    rfl
  have hd : ¬ 64 < depthF n t 65 := by
    intro hd
    have hm := depth_min n t 64 65 (by decide) (by decide)
    have hD : ¬ 64 < depthF (n + 1) (arrT c t) 65 := by
      unfold SoundF at h1
      split at h1
      · omega
      · assumption
    rw [depth_arrT, if_pos (by decide)] at hD
    rw [show (65 : Int) - 1 = 64 by decide, hm] at hD
    omega
  have hS : SoundF n t = 0 := by unfold SoundF; rw [if_neg hd]; exact h2
  have hT : tornF n t = false := by
    have h3 : ((false && looseF (n + 1) (arrT c t)) || [t].any (tornF n) || ([] : List (FdF (Ty n))).any (fun f => tornF n f.type)) = false := h3
    simpa using h3
  rw [hF] at h4
  obtain ⟨g', hg', h4⟩ := Option.bind_eq_some_iff.1 h4
  refine ⟨by unfold checkF; simp [hS, hT, hg'], fun g2 hg2 => ?_⟩
  rw [hg'] at hg2
  cases hg2
  rw [h5]
  split at h4
  · exact (Option.some.inj h4).symm
  · cases h4
theorem arrT_at {W : World} {B n : Nat} {t : Ty n} {q : Raw} {c : Int} (hT : TyAt W n t q) (hc : rng c) (hB : TyB6 W B q.kind q.size q.packed q.fa q.fl q.fc q.count q.ea q.el q.ec) : TyAt W (n + 1) (arrT c t) ⟨5, 0, false, none, 0, 0, c, some ⟨B, 0, none⟩, 1, 1⟩ := by
  obtain ⟨c0, c1, c2, c3, c4, c5⟩ := hB
  refine ⟨rfl, rfl, rfl, rfl, rfl, rfl, (by decide : -9223372036854775808 ≤ (5 : Int) ∧ (5 : Int) ≤ 9223372036854775807), (by decide : -9223372036854775808 ≤ (0 : Int) ∧ (0 : Int) ≤ 9223372036854775807), hc, ⟨by simp, by simp, fun h => by simp at h⟩, ⟨by simp, by simp, fun _ => ⟨B, 0, rfl, cell_lt2 c0, fun i e hi => ?_⟩⟩⟩
  match i, hi with
  | 0, hi =>
    cases hi
    exact ⟨q, hT, c0, c1, c2, c3, c4, c5⟩
  | i + 1, hi => simp [arrT] at hi
theorem locs_uni {w w' : World} {E : Int} {R : List (Int × Int)} {e : Ending} (h : LocD w E R e w') : ∃ (ad : Option Addr) (c : Nat), e = .returned (.tuple #[.slice ad R.length c, .int .i64 E]) ∧ (R ≠ [] → ∃ S, ad = some ⟨S, 0, none⟩ ∧ R.length ≤ c ∧ c ≤ maxLen ∧ SnAt w' S R) ∧ ∃ p : Regrown, w' = more w p := by
  obtain ⟨⟨ad, c, rfl, ho⟩, hp⟩ := h
  exact ⟨ad, c, rfl, fun hR => spans_at ho hR, hp⟩
set_option maxRecDepth 100000 in
set_option maxHeartbeats 3200000 in
theorem layoutArrays_walk (n : Nat) (t : Ty n) (r : Raw) (k : Nat) (hk : k < 256) (w : World) (hT : TyAt w n t r) : Calls Try.prog 6 #[r.val, .int .u8 k] w fun e w' => e = .returned (.bool true) ∧ Below w.heap.size w w' := by
  have A := Lib.hid awakeL_any
  have ht : Int.tmod (k : Int) 5 = (k : Int) % 5 := Int.tmod_eq_emod_of_nonneg (by omega)
  have hcr : 1 ≤ (k : Int) % 5 + 1 ∧ (k : Int) % 5 + 1 ≤ 5 := by omega
  have O := Lib.hid (fun W (hW : Below w.heap.size w W) => Of_any n t r W (hT.below hW))
  have O2 := Lib.hid (fun (c : Int) (r2 : Raw) W (hW : TyAt W (n + 1) (arrT c t) r2) => Of_any (n + 1) (arrT c t) r2 W hW)
  have L := Lib.hid (fun W (hW : Below w.heap.size w W) => (Locations_any n t r W (hT.below hW)).mono (fun _ _ h => locs_uni h.det))
  have L2 := Lib.hid (fun (c : Int) (r2 : Raw) W (hW : TyAt W (n + 1) (arrT c t) r2) => (Locations_any (n + 1) (arrT c t) r2 W hW).mono (fun _ _ h => locs_uni h.det))
  have CA := Lib.hid (fun c hc => check_arrT (n := n) c hc t)
  have HT := Lib.hid hT
  clear hT
  obtain ⟨rk, rs, rp, fa, fl, fc, rc, ea, el, ec⟩ := r
  have AT := Lib.hid (fun W B c (hW : Below w.heap.size w W) hc hB => arrT_at (W := W) (B := B) (c := c) (HT.out.below hW) hc hB)
  unfold Raw.val at O L ⊢
  simp only at O L AT ⊢
  clear HT
  go_enter Try.func6, Try.ntmps6
  go_upto_region 3 with fail
  obtain ⟨c, hcq⟩ : ∃ c, c = (k : Int) % 5 + 1 := ⟨_, rfl⟩
  rw [← hcq] at hcr
  refine wp_letter (R := fun W => Below w.heap.size w W ∧ TyB6 W w.heap.size rk rs rp fa fl fc rc ea el ec ∧ TyB6 W (w.heap.size + 1) rk rs rp fa fl fc rc ea el ec ∧ TyB6 W (w.heap.size + 1 + 1) 5 0 false none 0 0 ((k : Int) % 5 + 1) (some ⟨w.heap.size + 1, 0, none⟩) 1 1) ?letA ?_
  case letA =>
    refine ⟨?_, ⟨?_, ?_, ?_, ?_, ?_, ?_⟩, ⟨?_, ?_, ?_, ?_, ?_, ?_⟩, ⟨?_, ?_, ?_, ?_, ?_, ?_⟩⟩
    · repeat (first | with_reducible exact Below.refl _ _ | with_reducible refine below_mo ?_ _ | with_reducible refine below_al ?_ _)
    all_goals (simp [go_sem, ↓IntWalk.iteOmega]; done)
  rintro wA ⟨hA1, ⟨y0, y1, y2, y3, y4, y5⟩, hA2, ⟨z0, z1, z2, z3, z4, z5⟩⟩
  rw [← hcq] at z4 ⊢
  have hTU := AT.out wA _ c hA1 (by unfold rng; omega) hA2
  have O2K := Lib.hid (fun W (hW : Below wA.heap.size wA W) => O2.out c _ W (hTU.below hW))
  have L2K := Lib.hid (fun W (hW : Below wA.heap.size wA W) => L2.out c _ W (hTU.below hW))
  have hCA := CA.out c hcr
  have HA1 := Lib.hid hA1
  have hbs := hA1.size
  have hlT := cell_lt2 y0
  have hlU := cell_lt2 z0
  unfold Raw.val at O2K L2K
  simp only at O2K L2K
  clear hA1 hA2 hTU O2 L2 CA AT hcq ht
  by_cases hF : checkF (n + 1) (arrT c t) = 0
  · obtain ⟨hE, hfo⟩ := hCA hF
    obtain ⟨_, hs, _, g, hg, hg2⟩ := checkF_zero hE
    have hfo := hfo g hg
    obtain ⟨SL, hSL, hcat⟩ := locs_arr n t hs g hg c hcr
    have hgo := form_ok n t hs g hg
    have hin : InM 0 g.1 SL := by rw [hSL]; exact fun x hx => marks_in n t 0 hs g hg x ((strL_mem _ x).1 hx)
    rw [hE, hg2] at O
    rw [hF, hfo] at O2K
    have hlc := catL_len SL g.1 c.toNat
    have HCG := Lib.hid (catL_get SL g.1 c.toNat)
    have HIN := Lib.hid hin
    unfold locE locR at L L2K
    rw [hE, ← hSL] at L
    rw [hF, hcat] at L2K
    simp only [ne_eq, not_true_eq_false, if_false] at L L2K
    rw [hlc] at L2K
    clear hCA hF hE hs hg hg2 hfo hSL hcat hin
    generalize catL SL g.1 c.toNat = CL at *
    obtain ⟨ga, gb⟩ := g
    simp only at *
    have hmul : ga * c = c * ga := Int.mul_comm _ _
    have hm0 : 0 ≤ c * ga := Int.mul_nonneg (by omega) hgo.1
    have hm1 : c * ga ≤ 5 * 65536 := Int.mul_le_mul hcr.2 hgo.2.1 hgo.1 (by omega)
    rw [hmul] at O2K
    have hcc : ((c.toNat * SL.length : Nat) : Int) = c * (SL.length : Int) := by rw [Int.natCast_mul, Int.toNat_of_nonneg (by omega)]
    have hcle : SL.length ≤ c.toNat * SL.length := by
      have : 1 * SL.length ≤ c.toNat * SL.length := Nat.mul_le_mul_right _ (by omega)
      omega
    clear hmul
    by_cases h1 : 4096 < SL.length
    · have h2 : 4096 < c.toNat * SL.length := by omega
      simp only [if_pos h1] at L
      simp only [if_pos h2] at L2K
      simp only [List.length_nil] at L L2K
      generalize hP : c * ga = P at *
      go_wp2_with (first
        | (go_at_call 15; refine (A.out _).mono ?_; rintro e w1 ⟨rfl, p1, rfl⟩)
        | (go_at_call_of 13 (Value.int IntKind.i64 rc); refine (O.out _ (by repeat (first | with_reducible exact HA1.out | with_reducible refine below_mo ?_ _ | with_reducible refine below_al ?_ _))).mono ?_; rintro e w1 ⟨rfl, p2, rfl⟩)
        | (go_at_call_of 13 (Value.int IntKind.i64 c); refine (O2K.out _ (by repeat (first | with_reducible exact Below.refl _ _ | with_reducible refine below_mo ?_ _ | with_reducible refine below_al ?_ _))).mono ?_; rintro e w1 ⟨rfl, p3, rfl⟩)
        | (go_at_call_of 20 (Value.int IntKind.i64 rc); refine (L.out _ (by repeat (first | with_reducible exact HA1.out | with_reducible refine below_mo ?_ _ | with_reducible refine below_al ?_ _))).mono ?_; rintro e w1 ⟨ad1, c1, rfl, hn1, p4, rfl⟩)
        | (go_at_call_of 20 (Value.int IntKind.i64 c); refine (L2K.out _ (by repeat (first | with_reducible exact Below.refl _ _ | with_reducible refine below_mo ?_ _ | with_reducible refine below_al ?_ _))).mono ?_; rintro e w1 ⟨ad2, c2, rfl, hn2, p5, rfl⟩))
      go_ret
      exact ⟨by simp, (by repeat (first | with_reducible exact HA1.out | with_reducible refine below_mo ?_ _ | with_reducible refine below_al ?_ _))⟩
    · simp only [if_neg h1] at L
      by_cases h2 : 4096 < c.toNat * SL.length
      · simp only [if_pos h2] at L2K
        simp only [List.length_nil] at L2K
        generalize hP : c * ga = P at *
        go_wp2_with (first
          | (go_at_call 15; refine (A.out _).mono ?_; rintro e w1 ⟨rfl, p1, rfl⟩)
          | (go_at_call_of 13 (Value.int IntKind.i64 rc); refine (O.out _ (by repeat (first | with_reducible exact HA1.out | with_reducible refine below_mo ?_ _ | with_reducible refine below_al ?_ _))).mono ?_; rintro e w1 ⟨rfl, p2, rfl⟩)
          | (go_at_call_of 13 (Value.int IntKind.i64 c); refine (O2K.out _ (by repeat (first | with_reducible exact Below.refl _ _ | with_reducible refine below_mo ?_ _ | with_reducible refine below_al ?_ _))).mono ?_; rintro e w1 ⟨rfl, p3, rfl⟩)
          | (go_at_call_of 20 (Value.int IntKind.i64 rc); refine (L.out _ (by repeat (first | with_reducible exact HA1.out | with_reducible refine below_mo ?_ _ | with_reducible refine below_al ?_ _))).mono ?_; rintro e w1 ⟨ad1, c1, rfl, hn1, p4, rfl⟩)
          | (go_at_call_of 20 (Value.int IntKind.i64 c); refine (L2K.out _ (by repeat (first | with_reducible exact Below.refl _ _ | with_reducible refine below_mo ?_ _ | with_reducible refine below_al ?_ _))).mono ?_; rintro e w1 ⟨ad2, c2, rfl, hn2, p5, rfl⟩))
        go_ret
        exact ⟨by simp, (by repeat (first | with_reducible exact HA1.out | with_reducible refine below_mo ?_ _ | with_reducible refine below_al ?_ _))⟩
      · simp only [if_neg h2] at L2K
        rw [hlc] at L2K
        clear hlc
        by_cases h3 : 500 < SL.length
        · generalize hP : c * ga = P at *
          go_wp2_with (first
            | (go_at_call 15; refine (A.out _).mono ?_; rintro e w1 ⟨rfl, p1, rfl⟩)
            | (go_at_call_of 13 (Value.int IntKind.i64 rc); refine (O.out _ (by repeat (first | with_reducible exact HA1.out | with_reducible refine below_mo ?_ _ | with_reducible refine below_al ?_ _))).mono ?_; rintro e w1 ⟨rfl, p2, rfl⟩)
            | (go_at_call_of 13 (Value.int IntKind.i64 c); refine (O2K.out _ (by repeat (first | with_reducible exact Below.refl _ _ | with_reducible refine below_mo ?_ _ | with_reducible refine below_al ?_ _))).mono ?_; rintro e w1 ⟨rfl, p3, rfl⟩)
            | (go_at_call_of 20 (Value.int IntKind.i64 rc); refine (L.out _ (by repeat (first | with_reducible exact HA1.out | with_reducible refine below_mo ?_ _ | with_reducible refine below_al ?_ _))).mono ?_; rintro e w1 ⟨ad1, c1, rfl, hn1, p4, rfl⟩)
            | (go_at_call_of 20 (Value.int IntKind.i64 c); refine (L2K.out _ (by repeat (first | with_reducible exact Below.refl _ _ | with_reducible refine below_mo ?_ _ | with_reducible refine below_al ?_ _))).mono ?_; rintro e w1 ⟨ad2, c2, rfl, hn2, p5, rfl⟩))
          go_ret
          exact ⟨by simp, (by repeat (first | with_reducible exact HA1.out | with_reducible refine below_mo ?_ _ | with_reducible refine below_al ?_ _))⟩
        · generalize hP : c * ga = P at *
          generalize c.toNat * SL.length = CN at *
          replace hcc := hcc.symm
          go_wp2_with (first
            | (go_at_call 15; refine (A.out _).mono ?_; rintro e w1 ⟨rfl, p1, rfl⟩)
            | (go_at_call_of 13 (Value.int IntKind.i64 rc); refine (O.out _ (by repeat (first | with_reducible exact HA1.out | with_reducible refine below_mo ?_ _ | with_reducible refine below_al ?_ _))).mono ?_; rintro e w1 ⟨rfl, p2, rfl⟩)
            | (go_at_call_of 13 (Value.int IntKind.i64 c); refine (O2K.out _ (by repeat (first | with_reducible exact Below.refl _ _ | with_reducible refine below_mo ?_ _ | with_reducible refine below_al ?_ _))).mono ?_; rintro e w1 ⟨rfl, p3, rfl⟩)
            | (go_at_call_of 20 (Value.int IntKind.i64 rc); refine (L.out _ (by repeat (first | with_reducible exact HA1.out | with_reducible refine below_mo ?_ _ | with_reducible refine below_al ?_ _))).mono ?_; rintro e w1 ⟨ad1, c1, rfl, hn1, p4, rfl⟩; have HN1 := Lib.hid hn1; clear hn1)
            | (go_at_call_of 20 (Value.int IntKind.i64 c); refine (L2K.out _ (by repeat (first | with_reducible exact Below.refl _ _ | with_reducible refine below_mo ?_ _ | with_reducible refine below_al ?_ _))).mono ?_; rintro e w1 ⟨ad2, c2, rfl, hn2, p5, rfl⟩; have HN2 := Lib.hid hn2; clear hn2))
          refine wp_letter (R := fun W => Below w.heap.size w W ∧ (¬ SL = [] → ∃ S, ad1 = some ⟨S, 0, none⟩ ∧ SL.length ≤ c1 ∧ c1 ≤ maxLen ∧ SnAt W S SL) ∧ (¬ CL = [] → ∃ S, ad2 = some ⟨S, 0, none⟩ ∧ CN ≤ c2 ∧ c2 ≤ maxLen ∧ SnAt W S CL)) ?letB ?_
          case letB =>
            refine ⟨by repeat (first | with_reducible exact HA1.out | with_reducible refine below_mo ?_ _ | with_reducible refine below_al ?_ _), fun h => ?_, fun h => HN2.out h⟩
            obtain ⟨S, e1, e2, e3, e4⟩ := HN1.out h
            exact ⟨S, e1, e2, e3, e4.below (more_below _ _)⟩
          rintro wB ⟨hB1, hB2, hB3⟩
          have HB1 := Lib.hid hB1
          have HB2 := Lib.hid hB2
          have HB3 := Lib.hid hB3
          have HNQ := neq_spn
          have HGQ := guard_spn
          clear hB1 hB2 hB3 HN1 HN2 L L2K O O2K hfo
          go_loopw [17] (fun v17 wr => ∃ i : Nat, i ≤ CN ∧ v17 = .int .i64 i ∧ ∃ p : Regrown, wr = more wB p) (fun v17 _ => CN - (intOf v17).toNat)
          case atStart => exact ⟨0, by omega, rfl, more_of_below (Below.refl _ _)⟩
          case round =>
            obtain ⟨i, hil, rfl, p9, rfl⟩ := hrel
            by_cases hlt : (i : Int) < CN
            · obtain ⟨x, hx1, hx2⟩ := HCG.out i (by omega)
              have hS0 : ¬ SL = [] := fun h => by rw [h] at hx1; simp at hx1
              have hC0 : ¬ CL = [] := fun h => by rw [h] at hx2; simp at hx2
              have hlen : 0 < SL.length := List.length_pos_iff.2 hS0
              obtain ⟨S1, rfl, hc1, hc2, hlS1, hs1⟩ := HB2.out hS0
              obtain ⟨S2, rfl, hc3, hc4, hlS2, hs2⟩ := HB3.out hC0
              obtain ⟨t0, t1⟩ := hs1 _ x hx1
              obtain ⟨u0, u1⟩ := hs2 _ _ hx2
              have hxi := HIN.out x (List.mem_of_getElem? hx1)
              have hmd : Int.tmod (i : Int) (SL.length : Int) = ((i % SL.length : Nat) : Int) := by rw [Int.tmod_eq_emod_of_nonneg (by omega)]; rfl
              have hdv : Int.tdiv (i : Int) (SL.length : Int) = ((i / SL.length : Nat) : Int) := by rw [Int.tdiv_eq_ediv_of_nonneg (by omega)]; rfl
              have hml : i % SL.length < SL.length := Nat.mod_lt _ hlen
              have hdl : i / SL.length ≤ i := Nat.div_le_self _ _
              have hz : ((SL.length : Int) == 0) = false := by simp; omega
              obtain ⟨xa, xl⟩ := x
              simp only at t0 t1 u0 u1 hxi
              clear hx1 hx2 hs1 hs2
              generalize i % SL.length = im at *
              generalize i / SL.length = iv at *
              have hp0 : 0 ≤ (iv : Int) * ga := Int.mul_nonneg (by omega) hgo.1
              have hp1 : (iv : Int) * ga ≤ 4096 * 65536 := Int.mul_le_mul (by omega) hgo.2.1 hgo.1 (by omega)
              go_upto_region 19 with fail
              refine wp_quiet_more (by kernel_rfl) (by kernel_rfl) ?_
              repeat (go_big_quiet_step (fail))
              refine wpQuiet_nil ?_
              intro p8
              go_wp2_with fail
              go_roundw
              case rel => exact ⟨i + 1, by omega, by go_num, more_of_below (by repeat (first | with_reducible exact Below.refl _ _ | with_reducible refine below_mo ?_ _ | with_reducible refine below_al ?_ _))⟩
              case measure => simp [intOf]; omega
            · obtain rfl : i = CN := by omega
              go_wp2_with fail
              go_ret
              exact ⟨by simp, by repeat (first | with_reducible exact HB1.out | with_reducible refine below_mo ?_ _ | with_reducible refine below_al ?_ _)⟩
  · have hE2 : checkF n t ≠ 0 → checkF (n + 1) (arrT c t) ≠ 0 := fun _ => hF
    clear hE2 hCA L L2K
    generalize formOf n t = G1 at *
    generalize checkF n t = E at *
    generalize formOf (n + 1) (arrT c t) = G2 at *
    generalize checkF (n + 1) (arrT c t) = F at *
    obtain ⟨ga, gb⟩ := G1
    obtain ⟨ha, hb⟩ := G2
    simp only at *
    have f0 : (F == 0) = false := by simpa using hF
    have f1 : (F != 0) = true := by simpa using hF
    by_cases hE : E = 0
    · subst hE
      go_wp2_with (first
        | (go_at_call 15; refine (A.out _).mono ?_; rintro e w1 ⟨rfl, p1, rfl⟩)
        | (go_at_call_of 13 (Value.int IntKind.i64 rc); refine (O.out _ (by repeat (first | with_reducible exact HA1.out | with_reducible refine below_mo ?_ _ | with_reducible refine below_al ?_ _))).mono ?_; rintro e w1 ⟨rfl, p2, rfl⟩)
        | (go_at_call_of 13 (Value.int IntKind.i64 c); refine (O2K.out _ (by repeat (first | with_reducible exact Below.refl _ _ | with_reducible refine below_mo ?_ _ | with_reducible refine below_al ?_ _))).mono ?_; rintro e w1 ⟨rfl, p3, rfl⟩))
      go_ret
      exact ⟨by simp, (by repeat (first | with_reducible exact HA1.out | with_reducible refine below_mo ?_ _ | with_reducible refine below_al ?_ _))⟩
    · have e0 : (E == 0) = false := by simpa using hE
      have e1 : (E != 0) = true := by simpa using hE
      go_wp2_with (first
        | (go_at_call 15; refine (A.out _).mono ?_; rintro e w1 ⟨rfl, p1, rfl⟩)
        | (go_at_call_of 13 (Value.int IntKind.i64 rc); refine (O.out _ (by repeat (first | with_reducible exact HA1.out | with_reducible refine below_mo ?_ _ | with_reducible refine below_al ?_ _))).mono ?_; rintro e w1 ⟨rfl, p2, rfl⟩)
        | (go_at_call_of 13 (Value.int IntKind.i64 c); refine (O2K.out _ (by repeat (first | with_reducible exact Below.refl _ _ | with_reducible refine below_mo ?_ _ | with_reducible refine below_al ?_ _))).mono ?_; rintro e w1 ⟨rfl, p3, rfl⟩))
      go_ret
      exact ⟨by simp, (by repeat (first | with_reducible exact HA1.out | with_reducible refine below_mo ?_ _ | with_reducible refine below_al ?_ _))⟩
end Go.Proofs.Ytlbkloamabomcaa
