/- Walk: where registers are needed. Conditions: numbers fit, no more than 61 steps, no more than 300 registers. -/
import Derived.Test.YtajaglhlmoblnaaLiveInt0
import Derived.Test.YtajaglhlmoblnaaLiveRows
namespace Go.Proofs.Ytajaglhlmoblnaa
open Go.RowKit Go.Sort Go.Lib
set_option linter.unusedVariables false
set_option linter.unusedSimpArgs false
/-- Concat of two rows. -/
theorem cat_any (S b1 b2 : Nat) (l1 l2 rs : List Int) (hrs : rs = l1 ++ l2) (hl1 : l1.length ≤ 3) (hl2 : l2.length ≤ 3) (w : World) (h0 : w.cell? ⟨S, 0, none⟩ = some (.slice (some ⟨b1, 0, none⟩) l1.length 3)) (h1 : w.cell? ⟨S, 1, none⟩ = some (.slice (some ⟨b2, 0, none⟩) l2.length 2)) (hn1 : NumsAt w b1 l1) (hn2 : NumsAt w b2 l2) (hb1 : b1 < w.heap.size) (hb2 : b2 < w.heap.size) :
    Calls Try.prog 14 #[.slice (some ⟨S, 0, none⟩) 2 2] w fun e w' => ∃ (A : Option Addr) (G : Nat), e = .returned (.slice A rs.length G) ∧ (∃ p : Regrown, w' = more w p) ∧ rs.length ≤ G ∧ G ≤ 9223372036854775807 ∧ (0 < rs.length → ∃ b, A = some ⟨b, 0, none⟩ ∧ NumsAt w' b rs ∧ w.heap.size ≤ b) := by
  subst hrs
  by_cases hpos : 0 < l1.length + l2.length
  · refine (cat_pos S b1 b2 3 2 l1 l2 hl1 hl2 hpos w h0 h1 hn1 hn2 hb1 hb2).mono ?_
    rintro e w' ⟨b, G, rfl, hp, hn, hbw, hG, hGm⟩
    exact ⟨some ⟨b, 0, none⟩, G, by rw [List.length_append], hp, by rw [List.length_append]; exact hG, hGm, fun _ => ⟨b, rfl, hn, hbw⟩⟩
  · have e1 : l1 = [] := List.length_eq_zero_iff.1 (by omega)
    have e2 : l2 = [] := List.length_eq_zero_iff.1 (by omega)
    subst e1 e2
    refine (cat_zero S b1 b2 3 2 w h0 h1).mono ?_
    rintro e w' ⟨rfl, rfl⟩
    exact ⟨none, 0, rfl, more_of_below (Below.refl _ _), by simp, by simp, fun h => by simp at h⟩
theorem nums_mo {w : World} {b : Nat} {l : List Int} (h : NumsAt w b l) (p : Regrown) : NumsAt (more w p) b l := h.below (more_below w p)
theorem nums_al {w : World} {b : Nat} {l : List Int} (h : NumsAt w b l) (o : Obj) : NumsAt (w.alloc o) b l := h.below (below_al (Below.refl _ _) o)
theorem nums_dr {w : World} {b : Nat} {l : List Int} (h : NumsAt w b l) : NumsAt w.drew b l := h
theorem evs_take (R i : Int) (S : Iv) (l : List Int) (j : Nat) (r : Int) (h : l[j]? = some r) : evs R i S (l.take (j + 1)) = ev R i (evs R i S (l.take j)) r := by
  unfold evs
  rw [List.take_add_one, h, List.foldl_append]
  rfl
theorem info_iv : (Try.prog.info? 35).map (fun i => (i.zero, i.size, i.bytes)) = some (some (.agg #[.int .i64 0, .int .i64 0, .int .i64 0]), 3, 24) := by kernel_rfl
/-- the world while the steps are gone through. -/
structure L1W (w wr : World) (Y : Nat) (X off N : Nat) (ops : Nat → LOp) (n : Nat) (S : Iv) : Prop where
  iv : IvW w wr w.heap.size Y n S
  ops_ : ∀ k, k < N → OAt wr X (off + k * 13) (ops k)
theorem L1W.next {w wr wy : World} {Y X off N n : Nat} {ops : Nat → LOp} {S : Iv} (h : L1W w wr Y X off N ops n S) (hb : Below wr.heap.size wr wy) : L1W w wy Y X off N ops n S :=
  ⟨h.iv.next hb, fun k hk => (h.ops_ k hk).below hb⟩
set_option maxHeartbeats 4000000 in
theorem intervals_any (A : Option Addr) (X off N cap : Nat) (ops : Nat → LOp) (R : Int) (hA : 0 < N → A = some ⟨X, off, none⟩) (hN : N ≤ 61) (hcap : N ≤ cap) (hcm : cap ≤ 9223372036854775807) (hR : R ≤ 300) (hRr : -9223372036854775808 ≤ R) (hops : ∀ k, k < N → (ops k).ok) (w : World) (hO : ∀ k, k < N → OAt w X (off + k * 13) (ops k)) :
    Calls Try.prog 12 #[.slice A N cap, .int .i64 R] w fun e w' => ∃ (A' : Option Addr) (g c' : Nat) (r : List Tri), e = .returned (.slice A' r.length c') ∧ (∃ p : Regrown, w' = more w p) ∧ Stops (lpN ops N) (outN (ivsN R ops N) R.toNat) r ∧ (0 < r.length → A' = some ⟨g, 0, none⟩ ∧ g < w'.heap.size) ∧ w.heap.size ≤ g ∧ r.length ≤ c' ∧ c' ≤ 9223372036854775807 ∧ RowAt w' g r := by
  have HO := Lib.hid hO
  have hmm := @run_makeMap Try.prog
  have US := Lib.hid (fun o W => uses_any o W)
  have SE := Lib.hid (fun o W => sets_any o W)
  have HOK := Lib.hid hops
  have H0 : Hid (L1W w (w.alloc (.map #[] 0)) w.heap.size X off N ops 0 (fun _ => none)) := Lib.hid
    ⟨⟨below_al (Below.refl _ _) _, Nat.le_refl _, _, pmap_made w, ⟨fun _ _ => rfl, fun r b h => by cases h⟩⟩, fun k hk => (hO k hk).below (below_al (Below.refl _ _) _)⟩
  clear hO hops
  go_enter Try.func12, Try.ntmps12
  go_wp2_with fail
  go_loopw [6, 20] (fun _ v20 wr => ∃ k : Nat, k ≤ N ∧ v20 = .int .i64 k ∧ L1W w wr w.heap.size X off N ops (5 * k) (ivsN R ops k)) (fun _ v20 _ => N - (intOf v20).toNat)
  case atStart => exact ⟨0, by omega, rfl, H0.out⟩
  case round =>
    obtain ⟨k, hk, rfl, hW⟩ := hrel
    have HW := Lib.hid hW
    clear hW H0
    by_cases hlt : (k : Int) < N
    · obtain rfl := hA (by omega)
      have hO := HW.out.ops_ k (by omega)
      unfold OAt at hO
      obtain ⟨c0, c1, c2, c3, c4, c5, c6, c7, c8, c9, c10, c11, c12⟩ := hO
      have U1 := Lib.hid (fun W => US.out (ops k) W)
      have S1 := Lib.hid (fun W => SE.out (ops k) W)
      unfold lopV LOp.cs at U1 S1
      have l1 : (usesL (ops k)).length ≤ 3 := kept_len _ 3
      have l2 : (setsL (ops k)).length ≤ 3 := Nat.le_trans (kept_len _ 2) (by omega)
      obtain ⟨rs, hrs⟩ : ∃ rs, rs = regsL (ops k) := ⟨_, rfl⟩
      have hrl : rs.length ≤ 5 := by
        have h2 : (setsL (ops k)).length ≤ 2 := kept_len _ 2
        rw [hrs]
        unfold regsL
        rw [List.length_append]
        omega
      have hsz : Hid (∀ (S b1 b2 : Nat) (w : World) (h0 : w.cell? ⟨S, 0, none⟩ = some (.slice (some ⟨b1, 0, none⟩) (usesL (ops k)).length 3)) (h1 : w.cell? ⟨S, 1, none⟩ = some (.slice (some ⟨b2, 0, none⟩) (setsL (ops k)).length 2)) (hn1 : NumsAt w b1 (usesL (ops k))) (hn2 : NumsAt w b2 (setsL (ops k))) (hb1 : b1 < w.heap.size) (hb2 : b2 < w.heap.size), _) := Lib.hid (fun S b1 b2 w h0 h1 hn1 hn2 hb1 hb2 => cat_any S b1 b2 (usesL (ops k)) (setsL (ops k)) rs hrs l1 l2 w h0 h1 hn1 hn2 hb1 hb2)
      replace hrs := Lib.hid hrs
      go_upto_region 5 with fail
      clear c0 c1 c2 c3 c4 c5 c6 c7 c8 c9 c10 c11 c12
      generalize usesL (ops k) = us at *
      generalize setsL (ops k) = ss at *
      go_cut [30, 31, 32] from 25 to 57 (fun t30 t31 t32 W => ∃ (A : Option Addr) (G : Nat), t30 = .slice A rs.length G ∧ t31 = .int .i64 (rs.length : Nat) ∧ t32 = .int .i64 0 ∧ Below wr.heap.size wr W ∧ rs.length ≤ G ∧ G ≤ 9223372036854775807 ∧ (0 < rs.length → ∃ b, A = some ⟨b, 0, none⟩ ∧ NumsAt W b rs ∧ wr.heap.size ≤ b))
      case first =>
        go_region_with (first
          | (go_at_call 9; refine (U1.out _).mono ?_; rintro e w1 ⟨b1, rfl, ⟨p1, rfl⟩, hn1, hb1, hl1⟩)
          | (go_at_call 11; refine (S1.out _).mono ?_; rintro e w1 ⟨b2, rfl, ⟨p2, rfl⟩, hn2, hb2, hl2⟩)
          | (go_at_call 14; refine (hsz.out _ b1 b2 _ (by simp [go_sem]) (by simp [go_sem]) (by repeat (first | with_reducible exact hn1 | with_reducible refine nums_mo ?_ _ | with_reducible refine nums_al ?_ _ | with_reducible refine nums_dr ?_)) (by repeat (first | with_reducible exact hn2 | with_reducible refine nums_mo ?_ _ | with_reducible refine nums_al ?_ _ | with_reducible refine nums_dr ?_)) (by simp [go_sem] at hl1 hl2 ⊢; omega) (by simp [go_sem] at hl1 hl2 ⊢; omega)).mono ?_; rintro e w1 ⟨A2, G, rfl, ⟨p3, rfl⟩, hG, hGm, hA2⟩))
        all_goals
          go_wp2_with fail
          go_meet
          refine ⟨A2, G, rfl, rfl, rfl, ?_, hG, hGm, fun h => ?_⟩
          · repeat (first | with_reducible exact Below.refl _ _ | with_reducible refine below_mo ?_ _ | with_reducible refine below_al ?_ _ | with_reducible refine below_dr ?_)
          · obtain ⟨b3, e3, h3, h4⟩ := hA2 h
            refine ⟨b3, e3, h3, ?_⟩
            simp [go_sem] at h4
            omega
      case rest =>
        obtain ⟨A2, G, rfl, rfl, rfl, hbl, hG, hGm, hA2⟩ := hcut
        have hrw : Hid (∀ x ∈ rs, wfI x) := Lib.hid (by rw [hrs.out]; exact regs_wf (HOK.out k (by omega)))
        obtain ⟨Y, hY⟩ : ∃ Y, 0 < rs.length → A2 = some ⟨Y, 0, none⟩ ∧ NumsAt wc Y rs ∧ wr.heap.size ≤ Y := by
          by_cases h : 0 < rs.length
          · obtain ⟨b, h1, h2, h3⟩ := hA2 h
            exact ⟨b, fun _ => ⟨h1, h2, h3⟩⟩
          · exact ⟨0, fun h' => absurd h' h⟩
        have HW2 : Hid (∃ Y', (0 < rs.length → Y' = Y) ∧ L1W w wc Y' X off N ops (5 * k) (ivsN R ops k)) := Lib.hid (by
          by_cases h : 0 < rs.length
          · exact ⟨Y, fun _ => rfl, HW.out.iv.apart hbl (hY h).2.2, fun q hq => (HW.out.ops_ q hq).below hbl⟩
          · exact ⟨w.heap.size, fun h' => absurd h' h, (HW.out.next hbl).iv, (HW.out.next hbl).ops_⟩)
        have HA2 : Hid (0 < rs.length → A2 = some ⟨Y, 0, none⟩ ∧ NumsAt wc Y rs) := Lib.hid (fun h => ⟨(hY h).1, (hY h).2.1⟩)
        have hXw : X < w.heap.size := cell_lt2 (HO.out k (by omega)).1
        obtain ⟨bl0, hp0, _⟩ := HW.out.iv.ex
        have HYB : Hid (0 < rs.length → Y ≠ w.heap.size) := Lib.hid (fun h => by have h1 := (hY h).2.2; have h2 := hp0.lt; omega)
        clear hA2 hY hbl HW U1 S1 hsz US SE hp0
        go_wp2_with fail
        go_loopw [9, 32] (fun _ v32 w3 => ∃ j : Nat, j ≤ rs.length ∧ v32 = .int .i64 j ∧ (∃ Y', (0 < rs.length → Y' = Y) ∧ L1W w w3 Y' X off N ops (5 * k + j) (evs R k (ivsN R ops k) (rs.take j))) ∧ (0 < rs.length → A2 = some ⟨Y, 0, none⟩ ∧ NumsAt w3 Y rs)) (fun _ v32 _ => rs.length - (intOf v32).toNat)
        case atStart => exact ⟨0, by omega, rfl, HW2.out, HA2.out⟩
        case round =>
          obtain ⟨j, hj, rfl, ⟨Y', hYY, hW3⟩, hA3⟩ := hrel
          have HW3 := Lib.hid hW3
          clear hW3 HW2 HA2
          by_cases hjl : (j : Int) < rs.length
          · obtain ⟨rfl, hn⟩ := hA3 (by omega)
            obtain rfl := hYY (by omega)
            obtain ⟨r, hr⟩ : ∃ r, rs[j]? = some r := ⟨_, List.getElem?_eq_getElem (by omega)⟩
            have hcr := hn j r hr
            have hrf := hrw.out r (List.mem_of_getElem? hr)
            have HEV := Lib.hid (evs_take R k (ivsN R ops k) rs j r hr)
            have HN := Lib.hid hn
            clear hn hr hA3
            by_cases hRr : R ≤ r
            · go_wp2_with fail
              go_roundw
              case rel => exact ⟨j + 1, by omega, by go_num, by rw [HEV.out, ev_skip _ _ _ _ hRr]; exact ⟨_, fun _ => rfl, HW3.out.iv.mono (by omega), HW3.out.ops_⟩, fun _ => ⟨by simp, HN.out⟩⟩
              case measure => simp [intOf]; omega
            · obtain ⟨bl, hpm, hib⟩ := HW3.out.iv.ex
              cases hbr : bl r with
              | some b' =>
                obtain ⟨f, t, hS, h1, h2, hY2, c0, c1, c2, z⟩ := hib.some_ r b' hbr
                have hlook := hpm.look r hrf
                rw [hbr] at hlook
                unfold ptrV at hlook
                have HT := Lib.hid (IvW.touch HW3.out.iv.below (Nat.le_refl _) hpm hib (R := R) (i := k) hRr hbr)
                clear hpm hib hS c0 c1
                go_wp2_with fail
                go_roundw
                case rel => exact ⟨j + 1, by omega, by go_num, ⟨_, fun _ => rfl, by rw [HEV.out]; exact ⟨HT.out.mono (by omega), fun q hq => (HW3.out.ops_ q hq).set (by omega)⟩⟩, fun _ => ⟨by simp, HN.out.set (fun e => hY2 e.symm)⟩⟩
                case measure => simp [intOf]; omega
              | none =>
                have hlook := hpm.look r hrf
                rw [hbr] at hlook
                unfold ptrV at hlook
                have HPM := Lib.hid hpm
                have HIB := Lib.hid hib
                have hBl := hpm.lt
                have hYl := cell_lt2 hcr
                clear hpm hib
                go_upto_region 11 with (at_mapUpdate; go_loud (refine wpList_put rfl _ _ _ rfl w.heap.size (5 * k + j) bl rfl (HPM.out.below (below_al (Below.refl _ _) _)) (by unfold maxLen; omega) r rfl hrf wr.heap.size rfl ?_); intro w2 pm2 grow2; go_frame)
                have HF := Lib.hid (IvB.fresh (R := R) (i := k) HW3.out.iv.below.size hBl hYl HIB.out (by omega) hbr grow2)
                have HB2 := Lib.hid (below_grown (below_al HW3.out.iv.below _) grow2 (Nat.le_refl _))
                have hlook2 := pm2.look r hrf
                simp only [if_true] at hlook2
                unfold ptrV at hlook2
                obtain ⟨f, t, hS, h1, h2, hY2, c0, c1, c2, z⟩ := HF.out.some_ r wr.heap.size (by simp)
                have HT := Lib.hid (IvW.touch HB2.out (Nat.le_refl _) pm2 HF.out (R := R) (i := k) (by omega) (b := wr.heap.size) (by simp))
                have HOP := Lib.hid (fun q hq => ((HW3.out.ops_ q hq).below (below_al (Below.refl _ _) (.cells #[.int .i64 r, .int .i64 k, .int .i64 k] 35))).grown grow2 (by omega))
                have HN2 := Lib.hid ((nums_al HN.out (.cells #[.int .i64 r, .int .i64 k, .int .i64 k] 35)).grown grow2 (HYB.out (by omega)))
                clear pm2 grow2 hS c0 c1 hlook
                go_wp2_with fail
                go_roundw
                case rel => exact ⟨j + 1, by omega, by go_num, ⟨_, fun _ => rfl, by rw [HEV.out]; exact ⟨by have := HT.out; rw [ev_twice] at this; exact this.mono (by omega), fun q hq => (HOP.out q hq).set (by omega)⟩⟩, fun _ => ⟨by simp, HN2.out.set (fun e => hY2 e.symm)⟩⟩
                case measure => simp [intOf]; omega
          · obtain rfl : j = rs.length := by omega
            go_wp2_with fail
            go_roundw
            case rel =>
              have h := (HW3.out.iv.plain).mono (m := 5 * (k + 1)) (by omega)
              rw [List.take_length, hrs.out] at h
              exact ⟨k + 1, by omega, by go_num, h, HW3.out.ops_⟩
            case measure => simp [intOf]; omega
    · obtain rfl : k = N := by omega
      generalize hS : ivsN R ops k = S at HW
      replace hS := Lib.hid hS
      clear US SE
      obtain ⟨bl, hpm, hib⟩ := HW.out.iv.ex
      have HPM := Lib.hid hpm
      have HIB := Lib.hid hib
      clear hpm hib
      obtain ⟨M, hM⟩ : ∃ M : Nat, (M : Int) = max R 0 := ⟨R.toNat, by omega⟩
      have hM300 : M ≤ 300 := by omega
      obtain ⟨i0, hi, hz0, hz1, hz2⟩ := info_parts info_iv
      generalize hw1 : wr = w1 at *
      clear hw1
      go_upto_region 15 with fail
      go_cut [59, 60] from 58 to 60 (fun t59 t60 W => t59 = .int .i64 M ∧ t60 = .int .i64 0 ∧ W = w1)
      case first =>
        by_cases h0 : 0 ≤ R
        · have hMR : (M : Int) = R := by omega
          go_wp2_with fail
          go_meet
          exact ⟨by rw [hMR], rfl, rfl⟩
        · have hM0 : (M : Int) = 0 := by omega
          go_wp2_with fail
          go_meet
          exact ⟨by rw [hM0], rfl, rfl⟩
      case rest =>
        obtain ⟨rfl, rfl, hwc⟩ := hcut
        subst hwc
        go_wp2_with fail
        go_loopw [10, 11, 12, 60] (fun v10 _ _ v60 wr => ∃ q : Nat, q ≤ M ∧ v60 = .int .i64 q ∧ Below wc.heap.size wc wr ∧ wr.ownsRow wc.heap.size 35 3 v10 (outN S q).length ((outN S q).flatMap ivC)) (fun _ _ _ v60 _ => M - (intOf v60).toNat)
        case atStart => exact ⟨0, by omega, rfl, Below.refl _ _, rfl, .inl ⟨rfl, rfl⟩⟩
        case round =>
          obtain ⟨q, hq, rfl, hb, how⟩ := hrel
          have HOW := Lib.hid how
          have HBL := Lib.hid hb
          clear how
          by_cases hqM : (q : Int) < M
          · have hqf : wfI (q : Int) := WalkArith.wf_i64 (by omega)
            have hlook := (HPM.out.below hb).look (q : Int) hqf
            cases hbq : bl (q : Int) with
            | none =>
              rw [hbq] at hlook
              unfold ptrV at hlook
              have HS := Lib.hid (outN_none (HIB.out.none_ _ hbq))
              go_wp2_with fail
              go_roundw
              case rel => exact ⟨q + 1, by omega, by go_num, HBL.out, by rw [HS.out]; exact HOW.out⟩
              case measure => simp [intOf]; omega
            | some b =>
              rw [hbq] at hlook
              unfold ptrV at hlook
              obtain ⟨f, t, hSq, h1, h2, hY2, c0, c1, c2, z⟩ := HIB.out.some_ _ b hbq
              replace c0 := cell_below c0 hb
              replace c1 := cell_below c1 hb
              replace c2 := cell_below c2 hb
              have HS := Lib.hid (outN_some hSq)
              have hlen := outN_len S q
              generalize hnq : (outN S q).length = nq at *
              generalize hcs : (outN S q).flatMap ivC = cs at *
              have HE : Hid ((outN S (q + 1)).length = nq + 1 ∧ (outN S (q + 1)).flatMap ivC = cs ++ [.int .i64 q, .int .i64 f, .int .i64 t]) := Lib.hid (by
                rw [HS.out, List.flatMap_append, hcs]
                exact ⟨by simp [hnq], rfl⟩)
              clear hSq hnq hcs HS
              have hszw : wc.heap.size ≤ wr.heap.size := hb.size
              go_wp2_with (at_builtin; refine wpList_append_own _ rfl _ _ 32 rfl wc.heap.size 35 i0 (.agg #[.int .i64 0, .int .i64 0, .int .i64 0]) 3 24 Try.underlying32 hi hz0 hz1 hz2 rfl (by decide) _ _ _ rfl (HOW.out.alloc _) ⟨wr.heap.size, 0, none⟩ 1 1 [.int .i64 q, .int .i64 f, .int .i64 t] rfl rfl ?a1 ?a2 ?a3 ?a4 ?a5 ?_)
              case a2 => exact ⟨rfl, rfl, rfl⟩
              case a3 => unfold maxLen; omega
              case a4 => omega
              case a5 => omega
              intro v' w' own grow hnil
              have HB2 := Lib.hid (own_below (below_al HBL.out _) (HOW.out.alloc _) grow (Nat.le_refl _))
              clear grow hnil
              go_wp2_with fail
              go_roundw
              case rel => exact ⟨q + 1, by omega, by go_num, HB2.out, by rw [HE.out.1, HE.out.2]; exact own⟩
              case measure => simp [intOf]; omega
          · have hqm : q = M := by omega
            subst hqm
            have hqR : q = R.toNat := by omega
            have HB0 := Lib.hid (below_next HW.out.iv.below HBL.out)
            have HOP := Lib.hid (fun j hj => (HO.out j hj).below HB0.out)
            obtain ⟨A1, g1, c1, rfl, hA1, hg1, hg2, hc1, hcm1, hrow⟩ := owns_rowAt HOW.out hb.size
            have LP := Lib.hid (fun W hO => loops_any A X off k cap ops hA hN hcap hcm (fun j hj => (HOK.out j hj).2.2.2.2.2) W hO)
            have hL0 := outN_len S q
            have HL0 : Hid (outN S q = outN (ivsN R ops k) R.toNat) := Lib.hid (by rw [hS.out, hqR])
            have HROW := Lib.hid hrow
            have hwc : w.heap.size ≤ wc.heap.size := HW.out.iv.below.size
            clear hrow HOW HBL HPM HIB HW
            generalize outN S q = L0 at *
            go_upto_region 23 with (go_at_call 15; refine (LP.out _ HOP.out).mono ?_; rintro e w1 ⟨v13, rfl, ⟨p, rfl⟩, hlo⟩)
            have hlle := lpN_le ops k
            have hlln := lpN_len ops k
            have HSR : Hid (∀ r, Stops (lpN ops k) L0 r → Stops (lpN ops k) (outN (ivsN R ops k) R.toNat) r) := Lib.hid (fun r h => by rw [← HL0.out]; exact h)
            generalize hlp : lpN ops k = lps at *
            replace hlp := Lib.hid hlp
            have HLE := Lib.hid (fun x hx => Int.le_trans (hlle x hx) (show (k : Int) ≤ 1000 by omega))
            obtain ⟨A2, g2, c2, rfl, hA2, hg3, hc2, hcm2, hlps⟩ := owns_loops hlo
            have STR : Hid (∀ (l : List Tri) (lf lt : Int), l.length = L0.length → ∀ W : World, (0 < l.length → g1 < W.heap.size) → RowAt W g1 l → Calls Try.prog 16 #[.slice A1 L0.length c1, .agg #[.int .i64 lf, .int .i64 lt]] W fun e w' => e = .returned (.bool (l.any (cond1 lf lt))) ∧ Onto g1 W w' ∧ RowAt w' g1 (l.map (st1 lf lt))) := Lib.hid (fun l lf lt hln W hg hR => by
              rw [← hln]
              exact stretch_any A1 g1 c1 l lf lt (fun h => (hA1 (by omega)).1) (by omega) (by omega) hcm1 W hg hR)
            have HR4 := Lib.hid (HROW.out.mo p)
            have HLP := Lib.hid hlps
            have hsz4 : wr.heap.size ≤ (more wr p).heap.size := by rw [more_size]; omega
            have HB4 := Lib.hid (below_mo HB0.out p)
            generalize more wr p = w4 at *
            clear hlo hlps HROW
            go_wp2_with fail
            go_loopg [14, 16] (pot L0 + 1) (fun gg v14 _ w5 => ∃ (l : List Tri) (b : Bool), v14 = .bool b ∧ l.length = L0.length ∧ (pot l + (if b then 1 else 0)) ≤ gg ∧ Onto g1 w4 w5 ∧ RowAt w5 g1 l ∧ (∀ r, Stops lps l r → Stops lps (outN (ivsN R ops k) R.toNat) r) ∧ (b = false → anyM lps l = false))
            case atStart => exact ⟨L0, true, rfl, rfl, by simp, Onto.refl, HR4.out, HSR.out, fun h => by cases h⟩
            case round =>
              obtain ⟨l, b, rfl, hln, hgg, ho, hr, hst, hbf⟩ := hrel
              have HO5 := Lib.hid ho
              have HR5 := Lib.hid hr
              have HST := Lib.hid hst
              have HBF := Lib.hid hbf
              clear ho hr hst hbf HR4
              cases b with
              | false =>
                go_wp2_with fail
                go_ret
                refine ⟨A1, g1, c1, l, by rw [hln]; rfl, more_of_below (HO5.out.under HB4.out (by omega)), by rw [hlp.out]; exact HST.out l (.stop (by have h9 := HBF.out; simpa using h9)), fun h => ⟨(hA1 (by omega)).1, ?_⟩, by omega, by omega, hcm1, HR5.out⟩
                have h1 := (hA1 (by omega)).2
                have h2 := HO5.out.size
                omega
              | true =>
                go_wp2_with fail
                go_loopw [14, 16, 80] (fun v14 _ v80 w6 => ∃ j : Nat, j ≤ lps.length ∧ v80 = .int .i64 j ∧ v14 = .bool (anyM (lps.take j) l) ∧ Onto g1 w4 w6 ∧ RowAt w6 g1 (pass (lps.take j) l)) (fun _ _ v80 _ => lps.length - (intOf v80).toNat)
                case atStart => exact ⟨0, by omega, rfl, rfl, HO5.out, by simpa [pass] using HR5.out⟩
                case round =>
                  obtain ⟨j, hj, rfl, rfl, ho, hr⟩ := hrel
                  have HO6 := Lib.hid ho
                  have HR6 := Lib.hid hr
                  have hs6 := ho.size
                  clear ho hr HO5 HR5
                  by_cases hjl : (j : Int) < lps.length
                  · obtain ⟨rfl, hg24⟩ := hA2 (by omega)
                    obtain ⟨x, hx⟩ : ∃ x, lps[j]? = some x := ⟨_, List.getElem?_eq_getElem (by omega)⟩
                    obtain ⟨c0, c1'⟩ := HLP.out.onto HO6.out (by omega) j x hx
                    have HP := Lib.hid (pass_take lps l j x hx)
                    have HM := Lib.hid (anyM_take lps l j x hx)
                    have hpl := pass_len (lps.take j) l
                    obtain ⟨xf, xt⟩ := x
                    simp only at c0 c1' HP HM
                    have S1 := Lib.hid (fun W hg hR => STR.out (pass (lps.take j) l) xf xt (by omega) W hg hR)
                    generalize pass (lps.take j) l = pl at *
                    generalize anyM (lps.take j) l = am at *
                    have lg : g2 < wr.heap.size := by omega
                    have HG : Hid (0 < pl.length → g1 < wr.heap.size + 1) := Lib.hid (fun h => by have h1 := (hA1 (by omega)).2; omega)
                    cases hb1 : pl.any (cond1 xf xt)
                    all_goals
                      rw [hb1] at S1 HM
                      go_wp2_with (go_at_call 16; refine (S1.out _ (fun h => by have h9 := HG.out h; simp; omega) (HR6.out.onto_new _)).mono ?_; rintro e w1 ⟨rfl, hoo, hrr⟩)
                      · have HO7 := Lib.hid (Onto.trans (Onto.alloc HO6.out _) hoo)
                        have HR7 := Lib.hid hrr
                        clear hoo hrr
                        go_roundw
                        case rel => exact ⟨j + 1, by omega, by go_num, by rw [HM.out]; simp, HO7.out, by rw [HP.out]; exact HR7.out⟩
                        case measure => simp [intOf]; omega
                  · have hje : j = lps.length := by omega
                    subst hje
                    rw [List.take_length] at HR6
                    have hpp := pass_pot lps l HLE.out
                    have hpl := pass_len lps l
                    go_wp2_with fail
                    go_roundg (pot (pass lps l) + (if anyM lps l then 1 else 0))
                    case measure =>
                      cases hm : anyM lps l with
                      | true => have := hpp.2 hm; simp at hgg ⊢; omega
                      | false => simp at hgg ⊢; omega
                    case rel =>
                      refine ⟨pass lps l, anyM lps l, rfl, by omega, Nat.le_refl _, HO6.out, HR6.out, fun r h => ?_, fun h => ?_⟩
                      · cases hm : anyM lps l with
                        | true => exact HST.out r (.go hm h)
                        | false => rw [pass_still hm] at h; exact HST.out r h
                      · rw [pass_still h]; exact h
end Go.Proofs.Ytajaglhlmoblnaa
