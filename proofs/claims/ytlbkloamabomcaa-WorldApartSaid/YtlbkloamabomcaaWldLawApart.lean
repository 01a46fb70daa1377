/- Walk: the statement WorldApart. Conditions: what came in lies in memory, and a row of as many globals fits. -/
import Derived.Test.YtlbkloamabomcaaWldLawMaps
import Derived.Deep.RegionHeld3
namespace Go.Proofs.Ytlbkloamabomcaa
open Go.RowKit Go.Sort
set_option linter.unusedVariables false
set_option linter.unusedSimpArgs false
section
variable {n : Nat}
def Rise (R : List (Int × Int)) : Prop := R.Pairwise fun x y => x.1 ≤ y.1
theorem shM_in {d a s : Int} {R : List (Int × Int)} (h : InM a s R) : InM (d + a) s (shM d R) := fun x hx => by
  obtain ⟨y, hy, rfl⟩ := (shM_mem d R x).1 hx
  have := h y hy
  simp only
  omega
theorem rise_of {R : List (Int × Int)} (h : Strict R) : Rise R := h.imp (fun {x y} hxy => by
  unfold ltS at hxy
  simp at hxy
  omega)
theorem rise_sh {d : Int} {R : List (Int × Int)} (h : Rise R) : Rise (shM d R) := List.pairwise_map.2 (h.imp (fun {x y} hxy => by simp only; omega))
/-- all locations lie within; they rise. -/
theorem outK_in (l : List (Vr n)) (hE : worldE l = 0) : ∀ k, k ≤ l.length → InM 65536 (atK l k) (outK l k) ∧ Rise (outK l k)
  | 0, _ => ⟨InM.nil, List.Pairwise.nil⟩
  | k + 1, hk => by
    obtain ⟨hok, hA⟩ := worldE_zero l hE
    obtain ⟨v, hv⟩ := get_some l k (by omega)
    obtain ⟨i1, i2⟩ := outK_in l hE k (by omega)
    have hc := hok k v hv
    obtain ⟨j1, j2, _⟩ := lR_in hc
    obtain ⟨_, s1, _⟩ := st_eq l hok hA k v hv
    have hf := vF_ok hc
    rw [outK_succ l hv, atK_succ l hv]
    have e1 : InM (65536 + stW (atK l k) (vF v)) (vF v).1 (shM (65536 + stW (atK l k) (vF v)) (lR v)) := by
      have := shM_in (d := 65536 + stW (atK l k) (vF v)) j1
      rw [Int.add_zero] at this
      exact this
    refine ⟨(i1.mono (Int.le_refl _) (by omega)).app (e1.mono (by have := (atK_bound l k (fun j u _ hu => hok j u hu)).1; omega) (by omega)), ?_⟩
    refine List.pairwise_append.2 ⟨i2, rise_sh (rise_of j2), fun x hx y hy => ?_⟩
    have a1 := i1 x hx
    have a2 := e1 y hy
    omega
def lastK (R : List (Int × Int)) : Nat → Int
  | 0 => 0
  | j + 1 => match R[j]? with
    | some x => x.1
    | none => 0
theorem lastK_le {a s : Int} {R : List (Int × Int)} (h : Rise R) (hI : InM a s R) (ha : 0 ≤ a) {j : Nat} {x : Int × Int} (hx : R[j]? = some x) : 0 ≤ lastK R j ∧ lastK R j ≤ x.1 ∧ lastK R (j + 1) = x.1 := by
  have hj : j < R.length := (List.getElem?_eq_some_iff.1 hx).1
  have h0 := hI x (List.mem_of_getElem? hx)
  refine ⟨?_, ?_, by show (match R[j]? with | some x => x.1 | none => 0) = _; rw [hx]⟩
  · match j with
    | 0 => exact Int.le_refl _
    | j + 1 =>
      obtain ⟨y, hy⟩ := get_some R j (by omega)
      show 0 ≤ (match R[j]? with | some x => x.1 | none => 0)
      rw [hy]
      have := hI y (List.mem_of_getElem? hy)
      simp only
      omega
  · match j, hx, hj with
    | 0, _, _ => show (0 : Int) ≤ _; omega
    | j + 1, hx, hj =>
      obtain ⟨y, hy⟩ := get_some R j (by omega)
      show (match R[j]? with | some x => x.1 | none => 0) ≤ _
      rw [hy]
      obtain ⟨q1, e1⟩ := List.getElem?_eq_some_iff.1 hy
      obtain ⟨q2, e2⟩ := List.getElem?_eq_some_iff.1 hx
      have := List.pairwise_iff_getElem.1 h j (j + 1) q1 q2 (by omega)
      rw [e1, e2] at this
      exact this
theorem mod_at {x a : Int} (h : Pow a) (hx : 0 ≤ x) (hm : x % a = 0) : Int.tmod (65536 + x) a = 0 := by
  rw [Int.tmod_eq_emod_of_nonneg (by omega)]
  rcases h with rfl | rfl | rfl | rfl | rfl <;> omega
/-- the document's Lay, of a type that may be laid. -/
theorem lay_yes (v : Vr n) (r : Raw) (w W : World) (hE : checkF n v.type = 0) (hT : TyAt w n v.type r) (hW : Below w.heap.size w W) : Calls Try.prog 16 #[r.val] W fun e w' => ∃ a2 n2 k2 a3 n3 k3 L, e = .returned (.agg #[.int .i64 (vF v).1, .int .i64 (vF v).2, .slice a2 n2 k2, .slice a3 n3 k3, .bool L]) ∧ ∃ p : Regrown, w' = more W p := by
  obtain ⟨_, hs, _, g, hg, hg2⟩ := checkF_zero hE
  refine (lay_any n v.type r W hs (hT.below hW)).mono (fun e w' (h : LayC n v.type W e w') => ?_)
  obtain ⟨⟨s, a, a2, n2, k2, a3, n3, k3, L, he, _, h2, _⟩, hp⟩ := h
  obtain ⟨rfl, rfl⟩ := h2 g hg
  unfold vF
  rw [hg2]
  exact ⟨a2, n2, k2, a3, n3, k3, L, he, hp⟩
theorem wlE_cases (l : List (Vr n)) (h : worldE l = 0) : wlE l = 0 ∨ (wlE l = 12 ∧ wlR l = []) := by
  unfold wlR wlE
  rw [if_neg (by simp [h])]
  split
  · exact .inl rfl
  · exact .inr ⟨rfl, by rw [if_pos (by decide)]⟩
theorem field_al (s a : Int) (a2 : Option Addr) (n2 k2 : Nat) (a3 : Option Addr) (n3 k3 : Nat) (L : Bool) (w : World) : (Instr.field 33 (.agg #[.int .i64 s, .int .i64 a, .slice a2 n2 k2, .slice a3 n3 k3, .bool L]) 1).run Try.prog w = .ok (.int .i64 a) w := by kernel_rfl
set_option maxRecDepth 100000 in
set_option maxHeartbeats 6400000 in
theorem worldApart_walk (l : List (Vr n)) (a : Option Addr) (c : Nat) (w : World) (hV : VrsAt w l a c) (hr : l.length * 32 ≤ 140737488355328) : Calls Try.prog 10 #[.slice a l.length c] w (Gives w (.bool true)) := by
  have AW := Lib.hid awakeW_any
  have hc1 := hV.1
  have hc2 := hV.2.1
  by_cases hE : worldE l = 0
  · have MP := Lib.hid (fun W hW => (map_yes l a c w W hV hr hE hW).mono (fun _ _ h => h.row))
    obtain ⟨hok, hA⟩ := worldE_zero l hE
    have HOK := Lib.hid hok
    have HST := Lib.hid (st_eq l hok hA)
    have HPR := Lib.hid (atK_pre l hok hA)
    have HAB := Lib.hid (fun k => atK_bound l k (fun j u _ hu => hok j u hu))
    have HG := Lib.hid (glK_get l l.length (Nat.le_refl _))
    have HV := Lib.hid hV.2.2
    have HVV := Lib.hid hV
    have LO := Lib.hid (fun W (hW : Below w.heap.size w W) => wLoc_any l a c W (hV.below hW) hr)
    have HWE := Lib.hid (wlE_cases l hE)
    have HIN := Lib.hid (outK_in l hE l.length (Nat.le_refl _))
    have HWR : Hid (wlR l = [] ∨ wlR l = outK l l.length) := Lib.hid (by unfold wlR; split; exact .inl rfl; exact .inr rfl)
    have LY := Lib.hid (fun (v : Vr n) r W hE hT hW => lay_yes v r w W hE hT hW)
    go_enter Try.func10, Try.ntmps10
    clear hV hok hE
    go_wp2_with (first
      | (go_at_call 21; refine (MP.out _ (Below.refl _ _)).mono ?_; rintro e w1 ⟨ad, cg, rfl, hg, p1, rfl⟩; have HG1 := Lib.hid hg; clear hg)
      | (go_at_call 23; refine (AW.out _).mono ?_; rintro e w1 ⟨rfl, p3, rfl⟩))
    refine wp_letter (R := fun W => Below w.heap.size w W ∧ GlRow W l ad cg) ?letA ?_
    case letA => exact ⟨below_mo (below_mo (Below.refl _ _) _) _, HG1.out.below (more_below _ _)⟩
    rintro wA ⟨hA1, hg1⟩
    have HA := Lib.hid hA1
    have HG3 := Lib.hid hg1
    have hbs := hA1.size
    clear hA1 hg1 HG1 MP
    go_loopw [6, 7] (fun v6 v7 wr => ∃ i : Nat, i ≤ l.length ∧ v7 = .int .i64 i ∧ v6 = .int .i64 (65536 + atK l i) ∧ ∃ p : Regrown, wr = more wA p) (fun _ v7 _ => l.length - (intOf v7).toNat)
    case atStart => exact ⟨0, by omega, rfl, rfl, more_of_below (Below.refl _ _)⟩
    case round =>
      obtain ⟨i, hil, rfl, rfl, p0, rfl⟩ := hrel
      have hab := HAB.out i
      by_cases hlt : (i : Int) < l.length
      · obtain ⟨S, rfl, k1, k2, hS, hSc⟩ := HG3.out (by omega)
        obtain ⟨v, hv⟩ := get_some l i (by omega)
        obtain ⟨b, off, rfl, hb, hcs⟩ := HV.out (by omega)
        obtain ⟨q, hq, hnm, c0, c1', c2', c3, c4, c5, c6⟩ := hcs i v hv
        obtain ⟨s0, s1, s2⟩ := hSc i _ (HG.out i v (by omega) hv)
        simp only at s0 s1 s2
        have hck := HOK.out i v hv
        have hst := HST.out i v hv
        have hpr := HPR.out (i + 1) (by omega)
        have hat := atK_succ l hv
        have hvf := vF_ok hck
        have hmd : Int.tmod (65536 + stW (atK l i) (vF v)) (vF v).2 = 0 := mod_at hvf.2.2 (by omega) (by rw [hst.1]; exact upF_mod)
        have hpos := hvf.2.2.pos
        have hgs0 := hvf.1
        have hcm : cg ≤ 9223372036854775807 := k2
        rw [hat] at hpr
        have LYK := Lib.hid (fun W hW => LY.out v q W hck hq hW)
        have HNX : Hid (atK l (i + 1) = stW (atK l i) (vF v) + (vF v).1) := Lib.hid hat
        have hst2 := hst.2
        have hb2 : b < wA.heap.size := by omega
        have hcA : ∀ (o : Nat) (x : Value), w.cell? ⟨b, o, none⟩ = some x → wA.cell? ⟨b, o, none⟩ = some x := fun o x hx => (HA.out.cell (p := ⟨b, o, none⟩) hb).trans hx
        replace c0 := hcA _ _ c0
        replace c1' := hcA _ _ c1'
        replace c2' := hcA _ _ c2'
        replace c3 := hcA _ _ c3
        replace c4 := hcA _ _ c4
        replace c5 := hcA _ _ c5
        replace c6 := hcA _ _ c6
        generalize stW (atK l i) (vF v) = ST at *
        generalize (vF v).1 = gs at *
        generalize (vF v).2 = ga at *
        generalize v.name = vn at *
        clear hSc hcs hv hck hst hat hq hcA LY hvf
        generalize atK l i = AT at *
        have hgz : (ga == 0) = false := by simp; omega
        have hgn : ¬ ga = 0 := by omega
        have hgm : ¬ ga = -1 := by omega
        have hg1 : (ga == -1) = false := by simp; omega
        have hwr : IntKind.i64.wrap 0 = 0 := by rfl
        have hfal := field_al
        have hlt2 : decide (ST < AT) = false := by simp; omega
        have hlt3 : ¬ (ST < AT) := by omega
        obtain ⟨qk, qs, qp, qfa, qfl, qfc, qc, qea, qel, qec⟩ := q
        unfold Raw.val at LYK
        simp only at c1' c2' c3 c4 c5 c6 LYK
        go_upto_region 8 with fail
        go_region_held3 (fun W => W.cell? ⟨S, i * 3, none⟩ = some (.string vn) ∧ W.cell? ⟨S, i * 3 + 1, none⟩ = some (.int .i64 (65536 + ST)) ∧ W.cell? ⟨b, off + i * 7, none⟩ = some (.string vn) ∧ W.cell? ⟨b, off + i * 7 + 1, none⟩ = some (.int .i64 qk) ∧ W.cell? ⟨b, off + i * 7 + 2, none⟩ = some (.int .i64 qs) ∧ W.cell? ⟨b, off + i * 7 + 3, none⟩ = some (.bool qp) ∧ W.cell? ⟨b, off + i * 7 + 4, none⟩ = some (.slice qfa qfl qfc) ∧ W.cell? ⟨b, off + i * 7 + 5, none⟩ = some (.int .i64 qc) ∧ W.cell? ⟨b, off + i * 7 + 6, none⟩ = some (.slice qea qel qec))
          (first | (go_keep; done) | (simp [go_sem, ↓IntWalk.iteOmega, s0, s1, c0, c1', c2', c3, c4, c5, c6]; done))
          (first
            | (go_at_call 16; refine (LYK.out _ (by repeat (first | with_reducible exact HA.out | with_reducible refine below_mo ?_ _ | with_reducible refine below_al ?_ _ | with_reducible refine below_dr ?_))).mono ?_; rintro e w9 ⟨ya, yn, yk, za, zn, zk, yL, rfl, p7, rfl⟩))
        all_goals
          go_upto_region 10 with fail
          refine wp_quiet_more (by kernel_rfl) (by kernel_rfl) ?_
          repeat (go_big_quiet_step (fail))
          refine wpQuiet_nil ?_
          intro p8
          go_wp2_with fail
          go_roundw
          case rel => exact ⟨i + 1, by omega, by go_num, by rw [HNX.out]; go_num, more_of_below (by repeat (first | with_reducible exact Below.refl _ _ | with_reducible refine below_mo ?_ _ | with_reducible refine below_al ?_ _ | with_reducible refine below_dr ?_))⟩
          case measure => first | (simp [intOf]; done) | (simp [intOf]; omega)
      · obtain rfl : i = l.length := by omega
        have HIR : Hid (InM 65536 (atK l l.length) (wlR l) ∧ Rise (wlR l)) := Lib.hid (by
          rcases HWR.out with h | h
          · rw [h]; exact ⟨InM.nil, List.Pairwise.nil⟩
          · rw [h]; exact HIN.out)
        have HAR : Hid (wlR l ≠ [] → wlE l = 0) := Lib.hid (fun h => by
          rcases HWE.out with h1 | ⟨_, h1⟩
          · exact h1
          · exact absurd h1 h)
        have hwe : wlE l = 0 ∨ wlE l = 12 := HWE.out.imp id (fun h => h.1)
        have LO2 : Hid (∀ W, Below w.heap.size w W → Calls Try.prog 28 #[.slice a l.length c] W fun e w' => ∃ (ad : Option Addr) (c : Nat), e = .returned (.tuple #[.slice ad (wlR l).length c, .int .i64 (wlE l)]) ∧ (wlR l ≠ [] → ∃ S, ad = some ⟨S, 0, none⟩ ∧ (wlR l).length ≤ c ∧ c ≤ maxLen ∧ SnAt w' S (wlR l)) ∧ ∃ p : Regrown, w' = more W p) := Lib.hid (fun W hW => (LO.out W hW).mono (fun e w1 h => by
          obtain ⟨⟨ad, c, rfl, ho⟩, hp⟩ := h
          exact ⟨ad, c, rfl, fun hR => spans_at ho hR, hp⟩))
        clear HIN HWR HWE LO HOK HST HPR HG HV LY HVV HG3
        generalize wlR l = R at *
        generalize wlE l = E at *
        generalize atK l l.length = AT at *
        go_wp2_with (go_at_call 28; refine (LO2.out _ (below_mo HA.out _)).mono ?_; rintro e w1 ⟨ad, cR, rfl, hs, p1, rfl⟩; have HS := Lib.hid hs; clear hs)
        refine wp_letter (R := fun W => Below w.heap.size w W ∧ (R ≠ [] → ∃ S, ad = some ⟨S, 0, none⟩ ∧ R.length ≤ cR ∧ cR ≤ maxLen ∧ SnAt W S R)) ?letB ?_
        case letB => exact ⟨below_mo (below_mo HA.out _) _, HS.out⟩
        rintro wB ⟨hB1, hs1⟩
        have HB := Lib.hid hB1
        have HS1 := Lib.hid hs1
        clear hB1 hs1 HS LO2
        go_loopw [10, 11] (fun v10 v11 wr => ∃ j : Nat, j ≤ R.length ∧ v11 = .int .i64 j ∧ v10 = .int .i64 (lastK R j) ∧ ∃ p : Regrown, wr = more wB p) (fun _ v11 _ => R.length - (intOf v11).toNat)
        case atStart => exact ⟨0, by omega, rfl, rfl, more_of_below (Below.refl _ _)⟩
        case round =>
          obtain ⟨j, hjl, rfl, rfl, p5, rfl⟩ := hrel
          by_cases hltj : (j : Int) < R.length
          · obtain ⟨x, hx⟩ := get_some R j (by omega)
            have hne : R ≠ [] := fun h => by rw [h] at hltj; simp at hltj; omega
            obtain ⟨S, rfl, k1, k2, hS, hSc⟩ := HS1.out hne
            obtain ⟨s0, s1⟩ := hSc j x hx
            have hE0 := HAR.out hne
            subst hE0
            have hxi := HIR.out.1 x (List.mem_of_getElem? hx)
            have hla := lastK_le HIR.out.2 HIR.out.1 (by decide) hx
            have HLA : Hid (lastK R (j + 1) = x.1) := Lib.hid hla.2.2
            have hla1 := hla.1
            have hla2 := hla.2.1
            have hcm : cR ≤ 9223372036854775807 := k2
            obtain ⟨x1, x2⟩ := x
            simp only at s0 s1 hxi hla2 HLA
            clear hSc hx hla hne
            generalize lastK R j = LA at *
            have d1 : decide (x1 < 65536) = false := by simp; omega
            have d2 : decide (65536 + AT < x1 + x2) = false := by simp; omega
            have d3 : decide (x1 < LA) = false := by simp; omega
            have e1 : ¬ (x1 < 65536) := by omega
            have e2 : ¬ (65536 + AT < x1 + x2) := by omega
            have e3 : ¬ (x1 < LA) := by omega
            go_upto_region 16 with fail
            refine wp_quiet_more (by kernel_rfl) (by kernel_rfl) ?_
            repeat (go_big_quiet_step (fail))
            refine wpQuiet_nil ?_
            intro p8
            go_wp2_with fail
            go_roundw
            case rel => exact ⟨j + 1, by omega, by go_num, by rw [HLA.out], more_more _ _ _⟩
            case measure => first | (simp [intOf]; done) | (simp [intOf]; omega)
          · obtain rfl : j = R.length := by omega
            clear hil hlt hjl
            rcases hwe with rfl | rfl
            all_goals
              have hz1 : (AT == 65536 + AT - 65536) = true := by simp; omega
              go_upto_region 19 with fail
              go_wp2_with fail
              go_ret
              exact Gives.mk (by simp) (by repeat (first | with_reducible exact HB.out | with_reducible refine below_mo ?_ _))
  · have MP := Lib.hid (fun W hW => map_no l a c w W hV hr hE hW)
    clear hV
    generalize worldE l = E at *
    have hb1 : (E != 0) = true := by simpa using hE
    go_enter Try.func10, Try.ntmps10
    go_wp2_with (first
      | (go_at_call 21; refine (MP.out _ (Below.refl _ _)).mono ?_; rintro e w1 ⟨rfl, p1, rfl⟩)
      | (go_at_call 23; refine (AW.out _).mono ?_; rintro e w1 ⟨rfl, p3, rfl⟩))
    go_ret
    exact Gives.mk rfl (by repeat (first | with_reducible exact Below.refl _ _ | with_reducible refine below_mo ?_ _))
end
end Go.Proofs.Ytlbkloamabomcaa
