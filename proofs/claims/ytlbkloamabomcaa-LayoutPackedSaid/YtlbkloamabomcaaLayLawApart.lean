/- Walk: the statement on fields and locations that lie apart, over what the program's functions give. Conditions: what came in lies in memory. -/
import Derived.Test.YtlbkloamabomcaaLayLocsT
import Derived.Test.YtlbkloamabomcaaLayApartT
import Derived.Test.YtlbkloamabomcaaLayUnion
import Derived.Test.YtlbkloamabomcaaKindOpen
namespace Go.Proofs.Ytlbkloamabomcaa
open Go.RowKit Go.Sort
set_option linter.unusedVariables false
set_option linter.unusedSimpArgs false
/-- a row of spans lies so. -/
def SnAt (w : World) (S : Nat) (R : List (Int × Int)) : Prop := S < w.heap.size ∧ ∀ (i : Nat) x, R[i]? = some x → w.cell? ⟨S, i * 2, none⟩ = some (.int .i64 x.1) ∧ w.cell? ⟨S, i * 2 + 1, none⟩ = some (.int .i64 x.2)
theorem SnAt.below {w w' : World} {S : Nat} {R : List (Int × Int)} (hb : Below w.heap.size w w') (h : SnAt w S R) : SnAt w' S R := by
  obtain ⟨h1, h2⟩ := h
  refine ⟨Nat.lt_of_lt_of_le h1 hb.size, fun i x hi => ?_⟩
  rw [hb.cell (p := ⟨S, i * 2, none⟩) h1, hb.cell (p := ⟨S, i * 2 + 1, none⟩) h1]
  exact h2 i x hi
theorem spans_at {w : World} {B c : Nat} {a : Option Addr} {R : List (Int × Int)} (h : w.ownsRow B 40 2 (.slice a R.length c) R.length (R.flatMap spnC)) (hne : R ≠ []) : ∃ S, a = some ⟨S, 0, none⟩ ∧ R.length ≤ c ∧ c ≤ maxLen ∧ SnAt w S R := by
  obtain ⟨g, rfl⟩ := row_form h hne
  obtain ⟨_, b2, b3, _, cur, b5, _, b7⟩ := blk_of h
  refine ⟨g, rfl, b2, b3, (h.lt g rfl).2, fun i x hi => ?_⟩
  rw [b5.cell, b5.cell]
  exact b7 i x hi
theorem apart_get {R : List (Int × Int)} (h : Apart R) {i : Nat} {x y : Int × Int} (hx : R[i]? = some x) (hy : R[i + 1]? = some y) : x.1 + x.2 ≤ y.1 := by
  obtain ⟨h1, e1⟩ := List.getElem?_eq_some_iff.1 hx
  obtain ⟨h2, e2⟩ := List.getElem?_eq_some_iff.1 hy
  have := List.pairwise_iff_getElem.1 h i (i + 1) h1 h2 (by omega)
  rw [e1, e2] at this
  exact this
/-- a type's six cells lie in a block. -/
def TyB6 (w : World) (b : Nat) (k s : Int) (p : Bool) (fa : Option Addr) (fl fc : Nat) (c : Int) (ea : Option Addr) (el ec : Nat) : Prop := w.cell? ⟨b, 0, none⟩ = some (.int .i64 k) ∧ w.cell? ⟨b, 1, none⟩ = some (.int .i64 s) ∧ w.cell? ⟨b, 2, none⟩ = some (.bool p) ∧ w.cell? ⟨b, 3, none⟩ = some (.slice fa fl fc) ∧ w.cell? ⟨b, 4, none⟩ = some (.int .i64 c) ∧ w.cell? ⟨b, 5, none⟩ = some (.slice ea el ec)
/-- a size is a multiple of the alignment. -/
theorem form_mod : ∀ (n : Nat) (t : Ty n), soundF n t = 0 → ∀ g, formF n t = some g → g.1 % g.2 = 0
  | 0, t, _, _, _ => nomatch t
  | n + 1, (t : TyF (Ty n)), h, g, hg => by
    have IH := form_mod n
    rw [formF_succ] at hg
    unfold formOne at hg
    rcases sound_cases n t h with ⟨hk, h1, _⟩ | ⟨hk, _, _, _, c0, c1, e, he, hs⟩ | ⟨hk, _⟩
    · rw [if_pos hk] at hg
      cases hg
      exact Int.emod_self
    · rw [if_neg (by omega), if_pos hk, he] at hg
      simp only [List.head?_cons, Option.bind_some] at hg
      obtain ⟨g', hg', hg⟩ := Option.bind_eq_some_iff.1 hg
      have h2 := IH e hs g' hg'
      split at hg
      · cases hg
        exact Int.emod_eq_zero_of_dvd (Int.dvd_trans (Int.dvd_of_emod_eq_zero h2) (Int.dvd_mul_right _ _))
      · cases hg
    · rw [if_neg (by omega), if_neg (by omega)] at hg
      obtain ⟨p, hp, hg⟩ := Option.bind_eq_some_iff.1 hg
      unfold finF at hg
      split at hg
      · cases hg
        exact upF_mod
      · cases hg
/-- what Fields gives back of a type that may be laid, and what is known of it. -/
theorem fields_uni (n : Nat) (t : Ty n) (hE : checkF n t = 0) (g : Int × Int) (hg : formF n t = some g) : ∃ sp : List Sp, (∀ (r : Raw) (W : World), TyAt W n t r → Calls Try.prog 17 #[r.val] W fun e w' => ∃ (ad : Option Addr) (c : Nat) (err : Int), e = .returned (.tuple #[.slice ad sp.length c, .int .i64 err]) ∧ (0 < sp.length → err = 0 ∧ ∃ S, ad = some ⟨S, 0, none⟩ ∧ sp.length ≤ c ∧ c ≤ maxLen ∧ SpAt w' S sp) ∧ ∃ p : Regrown, w' = more W p) ∧
    (∀ (i : Nat) s, sp[i]? = some s → SpOk s g.1) ∧ (tkind n t = 3 → ∀ (i : Nat) s s', sp[i]? = some s → sp[i + 1]? = some s' → begS s + sizS s ≤ begS s') ∧ (∀ s, sp[0]? = some s → 0 ≤ begS s) ∧ sp.length ≤ 32 := by
  match n, t with
  | n + 1, (t : TyF (Ty n)) =>
    obtain ⟨_, hs, _, g', hg', _⟩ := checkF_zero hE
    have e : tkind (n + 1) t = t.kind := rfl
    by_cases hk : t.kind = 3 ∨ t.kind = 4
    · obtain ⟨q, hq, hq1, hq2, hq3⟩ := grp_parts n t hk hg
      have hFE : fieldsE (n + 1) t = 0 := by
        unfold fieldsE
        rw [e]
        simp [hE, hk]
      have hls : (spotsF (n + 1) t).length = t.fields.length := spK_len _ _ _ t _ q hq
      have hlen : 1 ≤ t.fields.length ∧ t.fields.length ≤ 32 := by
        rcases sound_cases n t hs with ⟨h, _⟩ | ⟨h, _⟩ | ⟨_, _, _, _, h1, h2, _⟩
        · omega
        · omega
        · exact ⟨h1, h2⟩
      rw [hq1] at hq3
      refine ⟨spotsF (n + 1) t, fun r W hT => (Fields_any (n + 1) t r W hT).mono ?_, fun i s hi => ?_, fun h3 i s s' hi hi' => spots_next n t hs h3 hq i s s' hi hi', fun s hi => spots_first n t hs hk hq hq3 s hi, by omega⟩
      · rintro e w1 ⟨⟨ad, l, c, rfl, _, h2⟩, hp⟩
        rw [hFE] at h2 ⊢
        obtain ⟨h3, h4⟩ := h2 rfl
        obtain ⟨h5, S, rfl, h6, h7, h8⟩ := spots_at h4 (fun h => by rw [h] at hls; simp at hls; omega)
        subst h3
        exact ⟨_, c, 0, rfl, fun _ => ⟨rfl, S, rfl, h6, h7, h8⟩, hp⟩
      · rw [hq1]
        exact spots_ok n t hs hk hq hq3 i s hi
    · have hFE : fieldsE (n + 1) t = 8 := by
        unfold fieldsE
        rw [e]
        simp [hE, hk]
      refine ⟨[], fun r W hT => (Fields_any (n + 1) t r W hT).mono ?_, fun i s hi => by simp at hi, fun _ i s s' hi => by simp at hi, fun s hi => by simp at hi, by simp⟩
      rintro e w1 ⟨⟨ad, l, c, rfl, h1, _⟩, hp⟩
      rw [hFE] at h1 ⊢
      obtain rfl := h1 (by decide)
      exact ⟨ad, c, 8, rfl, fun h => by simp at h, hp⟩
set_option maxRecDepth 100000 in
set_option maxHeartbeats 1600000 in
theorem layoutApart_no (n : Nat) (t : Ty n) (r : Raw) (w : World) (hT : TyAt w n t r) (hE : checkF n t ≠ 0) : Calls Try.prog 5 #[r.val] w fun e w' => e = .returned (.bool true) ∧ Below w.heap.size w w' := by
  have A := Lib.hid awakeL_any
  have O := Lib.hid (fun W (hW : Below w.heap.size w W) => Of_any n t r W (hT.below hW))
  clear hT
  generalize checkF n t = E at *
  generalize formOf n t = G at *
  obtain ⟨ga, gb⟩ := G
  obtain ⟨rk, rs, rp, fa, fl, fc, rc, ea, el, ec⟩ := r
  unfold Raw.val at *
  simp only at *
  have hb1 : (E != 0) = true := by simpa using hE
  go_enter Try.func5, Try.ntmps5
  go_wp2_with (first
    | (go_at_call 15; refine (A.out _).mono ?_; rintro e w1 ⟨rfl, p1, rfl⟩)
    | (go_at_call 13; refine (O.out _ (by repeat (first | with_reducible exact Below.refl _ _ | with_reducible refine below_mo ?_ _ | with_reducible refine below_al ?_ _))).mono ?_; rintro e w1 ⟨rfl, p2, rfl⟩))
  go_ret
  exact ⟨by simp, by repeat (first | with_reducible exact Below.refl _ _ | with_reducible refine below_mo ?_ _ | with_reducible refine below_al ?_ _)⟩
set_option maxRecDepth 100000 in
set_option maxHeartbeats 3200000 in
theorem layoutApart_yes (n : Nat) (t : Ty n) (r : Raw) (w : World) (hT : TyAt w n t r) (hE : checkF n t = 0) : Calls Try.prog 5 #[r.val] w fun e w' => e = .returned (.bool true) ∧ Below w.heap.size w w' := by
  have A := Lib.hid awakeL_any
  obtain ⟨_, hs, _, g, hg, hg2⟩ := checkF_zero hE
  obtain ⟨sp, F, FO, NX, FST, hN⟩ := fields_uni n t hE g hg
  have O := Lib.hid (fun W (hW : Below w.heap.size w W) => Of_any n t r W (hT.below hW))
  rw [hE, hg2] at O
  have F' := Lib.hid (fun W (hW : Below w.heap.size w W) => F r W (hT.below hW))
  have U := Lib.hid (fun W (hW : Below w.heap.size w W) => union_any n t r W (hT.below hW))
  have L := Lib.hid (fun W (hW : Below w.heap.size w W) => (Locations_any n t r W (hT.below hW)).mono (fun _ _ h => h.det))
  rw [hE] at L
  have LA : Hid (unionF n t = false → InM 0 g.1 (locR 0 (marksF n t 0)) ∧ Apart (locR 0 (marksF n t 0)) ∧ (locR 0 (marksF n t 0) ≠ [] → locE 0 (marksF n t 0) = 0)) := Lib.hid (fun hu => locs_apart n t hs g hg hu _ rfl)
  have hgo := form_ok n t hs g hg
  have hgm : Hid (g.1 % g.2 = 0) := by
    match n, t, hs, hg with
    | n + 1, (t : TyF (Ty n)), hs, hg => exact Lib.hid (form_mod (n + 1) t hs g hg)
  have ek : r.kind = tkind n t := by
    match n, t, hT with
    | n + 1, (t : TyF (Ty n)), hT => exact hT.1
  rw [← ek] at NX
  clear hT hE hs hg hg2 F ek
  generalize unionF n t = un at *
  generalize locE 0 (marksF n t 0) = LE at *
  generalize locR 0 (marksF n t 0) = R at *
  have HFO := Lib.hid FO
  have HNX := Lib.hid NX
  have HFST := Lib.hid FST
  clear FO NX FST
  obtain ⟨ga, gb⟩ := g
  obtain ⟨rk, rs, rp, fa, fl, fc, rc, ea, el, ec⟩ := r
  unfold Raw.val at *
  simp only at *
  have hgp := hgo.2.2.pos
  have htm : Int.tmod ga gb = 0 := by rw [Int.tmod_eq_emod_of_nonneg hgo.1]; exact hgm.out
  have hgz : (gb == 0) = false := by simp; omega
  go_enter Try.func5, Try.ntmps5
  go_wp2_with (first
    | (go_at_call 15; refine (A.out _).mono ?_; rintro e w1 ⟨rfl, p1, rfl⟩)
    | (go_at_call 13; refine (O.out _ (by repeat (first | with_reducible exact Below.refl _ _ | with_reducible refine below_mo ?_ _ | with_reducible refine below_al ?_ _))).mono ?_; rintro e w1 ⟨rfl, p2, rfl⟩)
    | (go_at_call 17; refine (F'.out _ (by repeat (first | with_reducible exact Below.refl _ _ | with_reducible refine below_mo ?_ _ | with_reducible refine below_al ?_ _))).mono ?_; rintro e w1 ⟨ad, c, err, rfl, hf, p3, rfl⟩; have HF := Lib.hid hf; clear hf))
  refine wp_letter (R := fun W => Below w.heap.size w W ∧ TyB6 W w.heap.size rk rs rp fa fl fc rc ea el ec ∧ (0 < sp.length → err = 0 ∧ ∃ S, ad = some ⟨S, 0, none⟩ ∧ sp.length ≤ c ∧ c ≤ maxLen ∧ SpAt W S sp)) ?letA ?_
  case letA =>
    refine ⟨?_, ⟨?_, ?_, ?_, ?_, ?_, ?_⟩, HF.out⟩
    · repeat (first | with_reducible exact Below.refl _ _ | with_reducible refine below_mo ?_ _ | with_reducible refine below_al ?_ _)
    all_goals (simp [go_sem, ↓IntWalk.iteOmega]; done)
  rintro wA ⟨hA1, ⟨y0, y1, y2, y3, y4, y5⟩, hA3⟩
  have HA1 := Lib.hid hA1
  have HA3 := Lib.hid hA3
  have hbs := hA1.size
  have hlT := cell_lt2 y0
  clear hA1 hA3 HF
  go_loopw [8, 9] (fun v8 v9 wr => ∃ (i : Nat) (e : Int), i ≤ sp.length ∧ v9 = .int .i64 i ∧ v8 = .int .i64 e ∧ (rk = 3 → ∀ s, sp[i]? = some s → e ≤ begS s) ∧ ∃ p : Regrown, wr = more wA p) (fun _ v9 _ => sp.length - (intOf v9).toNat)
  case atStart => exact ⟨0, 0, by omega, rfl, rfl, fun _ s hs => HFST.out s hs, more_of_below (Below.refl _ _)⟩
  case round =>
    obtain ⟨i, e, hil, rfl, rfl, he, p, rfl⟩ := hrel
    have HE := Lib.hid he
    clear he
    by_cases hlt : (i : Int) < sp.length
    · obtain ⟨rfl, S, rfl, hc1, hc2, hlS, hcs⟩ := HA3.out (by omega)
      obtain ⟨s, hs⟩ : ∃ s, sp[i]? = some s := ⟨sp[i]'(by omega), List.getElem?_eq_getElem (by omega : i < sp.length)⟩
      obtain ⟨s0, s1, s2, s3, s4, s5⟩ := hcs i s hs
      obtain ⟨o1, o2, o3, o4, o5⟩ := HFO.out i s hs
      have HNI : Hid (rk = 3 → ∀ s', sp[i + 1]? = some s' → begS s + sizS s ≤ begS s') := Lib.hid (fun h3 s' hs' => HNX.out h3 i s s' hs hs')
      have HEI := Lib.hid (fun h3 => HE.out h3 s hs)
      clear hcs hs HE
      obtain ⟨z0, z1, z2, z3, z4, z5⟩ := s
      unfold begS sizS at HNI o5
      unfold begS at HEI
      simp only at s0 s1 s2 s3 s4 s5 o1 o2 o3 o4 o5 HNI HEI
      by_cases hk3 : rk = 3
      all_goals
        cases z3
        all_goals
          first
            | (have hei := HEI.out hk3; subst hk3)
            | skip
          simp only [Bool.false_eq_true, if_true, if_false] at o5 HNI
          go_wp2_with fail
          go_roundw
          case rel =>
            refine ⟨i + 1, _, by omega, by go_num, by go_num, ?_, more_of_below (by repeat (first | with_reducible exact Below.refl _ _ | with_reducible refine below_mo ?_ _ | with_reducible refine below_al ?_ _))⟩
            intro h3 s' hs'
            first | exact HNI.out h3 s' hs' | exact absurd h3 hk3
          case measure => simp [intOf]; omega
    · obtain rfl : i = sp.length := by omega
      clear HE HFO HNX HFST
      cases un with
      | true =>
        go_wp2_with (go_at_call 19; refine (U.out _ (by repeat (first | with_reducible exact HA1.out | with_reducible refine below_mo ?_ _ | with_reducible refine below_al ?_ _))).mono ?_; rintro e w1 ⟨rfl, p5, rfl⟩)
        go_ret
        exact ⟨by simp, by repeat (first | with_reducible exact HA1.out | with_reducible refine below_mo ?_ _ | with_reducible refine below_al ?_ _)⟩
      | false =>
        obtain ⟨l1, l2, l3⟩ := LA.out rfl
        have HL1 := Lib.hid l1
        have HL2 := Lib.hid l2
        have HL3 := Lib.hid l3
        clear l1 l2 l3 LA
        by_cases hR : R = []
        · subst hR
          go_wp2_with (first
            | (go_at_call 19; refine (U.out _ (by repeat (first | with_reducible exact HA1.out | with_reducible refine below_mo ?_ _ | with_reducible refine below_al ?_ _))).mono ?_; rintro e w1 ⟨rfl, p5, rfl⟩)
            | (go_at_call 20; refine (L.out _ (by repeat (first | with_reducible exact HA1.out | with_reducible refine below_mo ?_ _ | with_reducible refine below_al ?_ _))).mono ?_; rintro e w1 ⟨⟨ad2, c2, rfl, _⟩, p6, rfl⟩))
          refine wp_loop_rounds 1 ?_
          rw [rounds_succ]
          go_wp2_with fail
          refine wp_quiet_more (by kernel_rfl) (by kernel_rfl) ?_
          repeat (go_big_quiet_step (fail))
          refine wpQuiet_nil ?_
          intro p8
          go_wp2_with fail
          go_ret
          exact ⟨by simp, by repeat (first | with_reducible exact HA1.out | with_reducible refine below_mo ?_ _ | with_reducible refine below_al ?_ _)⟩
        · obtain rfl := HL3.out hR
          have hR0 : 0 < R.length := List.length_pos_iff.2 hR
          have L' : Hid (∀ W, Below w.heap.size w W → Calls Try.prog 20 #[.agg #[.int .i64 rk, .int .i64 rs, .bool rp, .slice fa fl fc, .int .i64 rc, .slice ea el ec]] W fun e w' => ∃ S c, e = .returned (.tuple #[.slice (some ⟨S, 0, none⟩) R.length c, .int .i64 0]) ∧ R.length ≤ c ∧ c ≤ maxLen ∧ SnAt w' S R ∧ ∃ p : Regrown, w' = more W p) := Lib.hid (fun W hW => (L.out W hW).mono (by
            rintro e w1 ⟨⟨ad, c, rfl, ho⟩, hp⟩
            obtain ⟨S, rfl, h1, h2, h3⟩ := spans_at ho hR
            exact ⟨S, c, rfl, h1, h2, h3, hp⟩))
          clear L
          go_wp2_with (first
            | (go_at_call 19; refine (U.out _ (by repeat (first | with_reducible exact HA1.out | with_reducible refine below_mo ?_ _ | with_reducible refine below_al ?_ _))).mono ?_; rintro e w1 ⟨rfl, p5, rfl⟩)
            | (go_at_call 20; refine (L'.out _ (by repeat (first | with_reducible exact HA1.out | with_reducible refine below_mo ?_ _ | with_reducible refine below_al ?_ _))).mono ?_; rintro e w1 ⟨S2, c2, rfl, hc3, hc4, hsn, p6, rfl⟩; have HSN := Lib.hid hsn; clear hsn))
          refine wp_letter (R := fun W => Below w.heap.size w W ∧ SnAt W S2 R) ?letB ?_
          case letB => exact ⟨by repeat (first | with_reducible exact HA1.out | with_reducible refine below_mo ?_ _ | with_reducible refine below_al ?_ _), HSN.out⟩
          rintro wB ⟨hB1, hlS2, hsn⟩
          have hc5 : c2 ≤ 9223372036854775807 := hc4
          have HB1 := Lib.hid hB1
          have HSB := Lib.hid hsn
          clear hB1 hsn HSN U L'
          go_loopw [15] (fun v15 wr => ∃ i : Nat, i + 1 ≤ R.length ∧ v15 = .int .i64 ((i : Int) + 1) ∧ ∃ p : Regrown, wr = more wB p) (fun v15 _ => R.length - (intOf v15).toNat)
          case atStart => exact ⟨0, by omega, rfl, more_of_below (Below.refl _ _)⟩
          case round =>
            obtain ⟨i, hil, rfl, p9, rfl⟩ := hrel
            obtain ⟨x, hx⟩ : ∃ x, R[i]? = some x := ⟨R[i]'(by omega), List.getElem?_eq_getElem (by omega : i < R.length)⟩
            obtain ⟨t0, t1⟩ := HSB.out i x hx
            have hxi := HL1.out x (List.mem_of_getElem? hx)
            by_cases hlt : (i : Int) + 1 < R.length
            · obtain ⟨y, hy⟩ : ∃ y, R[i + 1]? = some y := ⟨R[i + 1]'(by omega), List.getElem?_eq_getElem (by omega : i + 1 < R.length)⟩
              obtain ⟨u0, u1⟩ := HSB.out (i + 1) y hy
              have hyi := HL1.out y (List.mem_of_getElem? hy)
              have hxy : x.1 + x.2 ≤ y.1 := apart_get HL2.out hx hy
              obtain ⟨xa, xl⟩ := x
              obtain ⟨ya, yl⟩ := y
              simp only at t0 t1 u0 u1 hxi hyi hxy
              have hi1 : (i : Int) + 1 - 1 = i := by omega
              have hi2 : (0 : Int) ≤ (i : Int) := by omega
              have hi3 : (i : Int) < R.length := by omega
              have hd : decide (ya < xa + xl) = false := by simp; omega
              clear hx hy
              go_upto_region 23 with fail
              refine wp_quiet_more (by kernel_rfl) (by kernel_rfl) ?_
              repeat (go_big_quiet_step (fail))
              refine wpQuiet_nil ?_
              intro p8
              go_wp2_with fail
              go_roundw
              case rel => exact ⟨i + 1, by omega, by go_num, more_more _ _ _⟩
              case measure => simp [intOf]; omega
            · have hiR : R.length = i + 1 := by omega
              obtain ⟨xa, xl⟩ := x
              simp only at t0 t1 hxi
              clear hx
              have hi1 : (i : Int) + 1 - 1 = i := by omega
              have hi2 : (0 : Int) ≤ (i : Int) := by omega
              have hi3 : (i : Int) < (i : Int) + 1 := by omega
              have hz1 : ((i : Int) + 1 == 0) = false := by simp; omega
              have hz2 : ¬ ((i : Int) + 1 = 0) := by omega
              have hd : decide (xa + xl ≤ ga) = true := by simp; omega
              rw [hiR] at hc3 ⊢
              go_wp2_with fail
              refine wp_quiet_more (by kernel_rfl) (by kernel_rfl) ?_
              repeat (go_big_quiet_step (fail))
              refine wpQuiet_nil ?_
              intro p8
              go_wp2_with fail
              go_ret
              exact ⟨by simp, by repeat (first | with_reducible exact HB1.out | with_reducible refine below_mo ?_ _ | with_reducible refine below_al ?_ _)⟩
theorem layoutApart_walk (n : Nat) (t : Ty n) (r : Raw) (w : World) (hT : TyAt w n t r) : Calls Try.prog 5 #[r.val] w fun e w' => e = .returned (.bool true) ∧ Below w.heap.size w w' := by
  by_cases hE : checkF n t = 0
  · exact layoutApart_yes n t r w hT hE
  · exact layoutApart_no n t r w hT hE
end Go.Proofs.Ytlbkloamabomcaa
