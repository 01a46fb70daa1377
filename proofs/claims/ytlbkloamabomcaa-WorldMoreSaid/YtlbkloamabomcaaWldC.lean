/- Walk: where variables lie: the program's Map. Conditions: they lie in memory, and a row of as many globals fits. Walk: where variables lie: the document's Map. Conditions: they lie in memory, and a row of as many globals fits. Walk: the locations of all variables: the program's Locations. Conditions: they lie in memory, and a row of as many globals fits. -/
import Derived.Test.YtlbkloamabomcaaWldA
import Derived.Test.YtlbkloamabomcaaLayRefT
import Derived.Test.YtlbkloamabomcaaQuietTail
import Derived.Test.YtlbkloamabomcaaLayApartT
namespace Go.Proofs.Ytlbkloamabomcaa
open Go.RowKit Go.Sort
set_option linter.unusedVariables false
set_option linter.unusedSimpArgs false
def SnAt (w : World) (S : Nat) (R : List (Int × Int)) : Prop := S < w.heap.size ∧ ∀ (i : Nat) x, R[i]? = some x → w.cell? ⟨S, i * 2, none⟩ = some (.int .i64 x.1) ∧ w.cell? ⟨S, i * 2 + 1, none⟩ = some (.int .i64 x.2)
theorem SnAt.below {w w' : World} {S : Nat} {R : List (Int × Int)} (hb : Below w.heap.size w w') (h : SnAt w S R) : SnAt w' S R := by
  obtain ⟨h1, h2⟩ := h
  refine ⟨Nat.lt_of_lt_of_le h1 hb.size, fun i x hi => ?_⟩
  rw [hb.cell (p := ⟨S, i * 2, none⟩) h1, hb.cell (p := ⟨S, i * 2 + 1, none⟩) h1]
  exact h2 i x hi
theorem spans_at {w : World} {B c : Nat} {a : Option Addr} {R : List (Int × Int)} (h : w.ownsRow B 40 2 (.slice a R.length c) R.length (R.flatMap spnC)) (hne : R ≠ []) : ∃ S, a = some ⟨S, 0, none⟩ ∧ R.length ≤ c ∧ c ≤ maxLen ∧ SnAt w S R := by
  obtain ⟨g, rfl⟩ := row_form h hne
  obtain ⟨_, b2, b3, _, cur, b5, _, b7⟩ := blk_of h
  refine ⟨g, rfl, b2, b3, (h.lt g rfl).2, fun i x hi => ?_⟩
  rw [b5.cell, b5.cell]
  exact b7 i x hi
theorem apart_get {R : List (Int × Int)} (h : Apart R) {i : Nat} {x y : Int × Int} (hx : R[i]? = some x) (hy : R[i + 1]? = some y) : x.1 + x.2 ≤ y.1 := by
  obtain ⟨h1, e1⟩ := List.getElem?_eq_some_iff.1 hx
  obtain ⟨h2, e2⟩ := List.getElem?_eq_some_iff.1 hy
  have := List.pairwise_iff_getElem.1 h i (i + 1) h1 h2 (by omega)
  rw [e1, e2] at this
  exact this
set_option maxRecDepth 100000 in
set_option maxHeartbeats 3200000 in
theorem Map_any {n : Nat} (l : List (Vr n)) (a : Option Addr) (c : Nat) (w : World) (hV : VrsAt w l a c) (hr : l.length * 32 ≤ 140737488355328) :
    Calls Try.prog 21 #[.slice a l.length c] w (MapC w (worldE l) (atK l l.length) (glK l l.length)) := by
  have OF := Lib.hid (fun (t : Ty n) (r : Raw) (W : World) (hT : TyAt w n t r) (hW : Below w.heap.size w W) => Of_any n t r W (hT.below hW))
  obtain ⟨i0, hi, hz0, hz1, hz2⟩ := info_parts gl_info
  have HV := Lib.hid hV.2.2
  have hc1 := hV.1
  have hc2 := hV.2.1
  clear hV
  go_enter Try.func21, Try.ntmps21
  go_wp2_with fail
  go_loopw [5, 6, 14] (fun v5 v6 v14 wr => ∃ i : Nat, i ≤ l.length ∧ v14 = .int .i64 i ∧ v6 = .int .i64 (atK l i) ∧ (∀ j u, j < i → l[j]? = some u → checkF n u.type = 0) ∧ ∃ (ad : Option Addr) (cp : Nat), v5 = .slice ad i cp ∧ wr.ownsRow w.heap.size 58 3 (.slice ad i cp) i ((glK l i).flatMap glC) ∧ Below w.heap.size w wr) (fun _ _ v14 _ => l.length - (intOf v14).toNat)
  case atStart => exact ⟨0, by omega, rfl, rfl, fun j u hj _ => by omega, none, 0, rfl, World.ownsRow_nil _ _ _ _, Below.refl _ _⟩
  case round =>
    obtain ⟨i, hil, rfl, rfl, hok, ad, cp, rfl, hrow, hbw⟩ := hrel
    have HOK := Lib.hid hok
    have HRW := Lib.hid hrow
    have HBW := Lib.hid hbw
    have hbs := hbw.size
    have hab := atK_bound l i hok
    clear hok hrow hbw
    by_cases hlt : (i : Int) < l.length
    · obtain ⟨b, off, rfl, hb, hcs⟩ := HV.out (by omega)
      obtain ⟨v, hv⟩ : ∃ v, l[i]? = some v := ⟨l[i], List.getElem?_eq_getElem (by omega : i < l.length)⟩
      obtain ⟨q, hq, hnm, c0, c1, c2, c3, c4, c5, c6⟩ := hcs i v hv
      have hcc : ∀ (o : Nat) (x : Value), w.cell? ⟨b, o, none⟩ = some x → wr.cell? ⟨b, o, none⟩ = some x := fun o x hx => (HBW.out.cell (p := ⟨b, o, none⟩) hb).trans hx
      replace c0 := hcc _ _ c0
      replace c1 := hcc _ _ c1
      replace c2 := hcc _ _ c2
      replace c3 := hcc _ _ c3
      replace c4 := hcc _ _ c4
      replace c5 := hcc _ _ c5
      replace c6 := hcc _ _ c6
      have hbr : b < wr.heap.size := by omega
      have OFK := Lib.hid (fun W (hW : Below w.heap.size w W) => OF.out v.type q W hq hW)
      have HS1 := Lib.hid (atK_succ l hv)
      have HS2 := Lib.hid (glK_succ l hv)
      have hvf : formOf n v.type = vF v := rfl
      rw [hvf] at OFK
      have HBAD := Lib.hid (errF_bad l i v HOK.out hv)
      have HGD := Lib.hid (fun h : checkF n v.type = 0 => vF_ok h)
      have HNX : Hid (checkF n v.type = 0 → ∀ j u, j < i + 1 → l[j]? = some u → checkF n u.type = 0) := Lib.hid (fun h0 j u hj hu => by
        rcases Nat.lt_or_ge j i with h1 | h1
        · exact HOK.out j u h1 hu
        · obtain rfl : j = i := by omega
          rw [hv] at hu
          cases hu
          exact h0)
      obtain ⟨nm, ty⟩ := v
      simp only at c0 OFK HS1 HS2 HBAD HGD HNX
      clear hcs hcc hq hvf hnm hv
      obtain ⟨qk, qs, qp, qfa, qfl, qfc, qc, qea, qel, qec⟩ := q
      unfold Raw.val at OFK
      simp only at OFK c1 c2 c3 c4 c5 c6
      generalize checkF n ty = E at *
      generalize vF (Vr.mk nm ty) = G at *
      obtain ⟨gs, ga⟩ := G
      simp only at OFK HS1 HS2 HGD
      by_cases hE : E = 0
      · subst hE
        obtain ⟨hg0, hg1, hg2⟩ := HGD.out rfl
        have hgp := hg2.pos
        replace HNX := Lib.hid (HNX.out rfl)
        have hsb := stW_bound (g := (gs, ga)) hg2 hab.1
        have huf := upF_ge (n := atK l i) hgp.1
        have HST : Hid (stW (atK l i) (gs, ga) = if 65536 < upF (atK l i) ga then 65537 else upF (atK l i) ga) := Lib.hid rfl
        have hq : (atK l i + ga - 1) / ga * ga = upF (atK l i) ga := rfl
        have hq0 : 0 ≤ (atK l i + ga - 1) / ga := Int.ediv_nonneg (by omega) (by omega)
        have hq1 : (atK l i + ga - 1) / ga ≤ atK l i + ga - 1 := Int.ediv_le_self _ (by omega)
        have ht : Int.tdiv (atK l i + ga - 1) ga = (atK l i + ga - 1) / ga := tdiv_eq (by omega)
        have hs : (ga == 0) = false := by simp; omega
        generalize stW (atK l i) (gs, ga) = S at *
        generalize upF (atK l i) ga = U at *
        generalize hA : atK l i = A at *
        clear hA
        go_upto_region 10 with (go_at_call 13; refine (OFK.out _ (below_al HBW.out _)).mono ?_; rintro e w1 ⟨rfl, pA, rfl⟩)
        by_cases hov : 65536 < U
        · rw [if_pos hov] at HST
          have hST := HST.out
          subst hST
          clear HST
          go_upto_region 12 with fail
          refine wp_letter (R := fun W => Below w.heap.size w W ∧ W.ownsRow w.heap.size 58 3 (.slice ad i cp) i ((glK l i).flatMap glC) ∧ W.cell? ⟨wr.heap.size, 0, none⟩ = some (.string nm)) ?letA ?_
          case letA =>
            refine ⟨?_, World.ownsRow.alloc HRW.out _ |> (fun h => ownsRow_mo h _), by simp [go_sem, ↓IntWalk.iteOmega]⟩
            repeat (first | with_reducible exact HBW.out | with_reducible refine below_mo ?_ _ | with_reducible refine below_al ?_ _)
          rintro wA ⟨hA1, hA2, y0⟩
          have HA1 := Lib.hid hA1
          have HA2 := Lib.hid hA2
          have hlA := cell_lt2 y0
          have hbs2 := hA1.size
          clear hA1 hA2
          go_wp2_with (at_builtin; refine wpList_append_lies _ rfl _ _ 54 rfl w.heap.size 58 i0 (.agg #[.string .empty, .int .i64 0, .int .i64 0]) 3 32 Try.underlying54 hi hz0 hz1 hz2 rfl (by decide) (.slice ad i cp) i ((glK l i).flatMap glC) (by rfl) (HA2.out.alloc _) ⟨wA.heap.size, 0, none⟩ 1 1 [.string nm, .int .i64 131073, .int .i64 gs] (by rfl) (by rfl) (World.news_of_block (cs := #[.string nm, .int .i64 131073, .int .i64 gs]) (t := 58) (fr := (0, 0)) (heap_alloc_new wA _)) (by simp [Value.oneCell']) (by omega) (by unfold maxLen; omega) (by omega) (by simp; omega) (wA.heap.size + 1) (by simp) ?_)
          intro gg cap w6 hown6 hgrow hat hlt6
          have HB6 : Hid (Below w.heap.size w w6) := Lib.hid (Below.grown (HA1.out.alloc (by omega) _) hgrow (by simp; omega) (fun k hk => (HA2.out.lt k hk).1))
          have HO6 := Lib.hid hown6
          clear hown6 hgrow hat
          go_wp2_with fail
          go_roundw
          case rel =>
            refine ⟨i + 1, by omega, by go_num, by first | (rw [HS1.out]; done) | (rw [HS1.out]; go_num), HNX.out, some ⟨gg, 0, none⟩, cap, rfl, ?_, HB6.out⟩
            rw [HS2.out, List.flatMap_append]
            exact HO6.out
          case measure => simp [intOf]; omega
        · rw [if_neg hov] at HST
          have hST := HST.out
          subst hST
          clear HST
          go_upto_region 12 with fail
          refine wp_letter (R := fun W => Below w.heap.size w W ∧ W.ownsRow w.heap.size 58 3 (.slice ad i cp) i ((glK l i).flatMap glC) ∧ W.cell? ⟨wr.heap.size, 0, none⟩ = some (.string nm)) ?letB ?_
          case letB =>
            refine ⟨?_, World.ownsRow.alloc HRW.out _ |> (fun h => ownsRow_mo h _), by simp [go_sem, ↓IntWalk.iteOmega]⟩
            repeat (first | with_reducible exact HBW.out | with_reducible refine below_mo ?_ _ | with_reducible refine below_al ?_ _)
          rintro wA ⟨hA1, hA2, y0⟩
          have HA1 := Lib.hid hA1
          have HA2 := Lib.hid hA2
          have hlA := cell_lt2 y0
          have hbs2 := hA1.size
          clear hA1 hA2
          go_wp2_with (at_builtin; refine wpList_append_lies _ rfl _ _ 54 rfl w.heap.size 58 i0 (.agg #[.string .empty, .int .i64 0, .int .i64 0]) 3 32 Try.underlying54 hi hz0 hz1 hz2 rfl (by decide) (.slice ad i cp) i ((glK l i).flatMap glC) (by rfl) (HA2.out.alloc _) ⟨wA.heap.size, 0, none⟩ 1 1 [.string nm, .int .i64 (65536 + S), .int .i64 gs] (by rfl) (by rfl) (World.news_of_block (cs := #[.string nm, .int .i64 (65536 + S), .int .i64 gs]) (t := 58) (fr := (0, 0)) (heap_alloc_new wA _)) (by simp [Value.oneCell']) (by omega) (by unfold maxLen; omega) (by omega) (by simp; omega) (wA.heap.size + 1) (by simp) ?_)
          intro gg cap w6 hown6 hgrow hat hlt6
          have HB6 : Hid (Below w.heap.size w w6) := Lib.hid (Below.grown (HA1.out.alloc (by omega) _) hgrow (by simp; omega) (fun k hk => (HA2.out.lt k hk).1))
          have HO6 := Lib.hid hown6
          clear hown6 hgrow hat
          go_wp2_with fail
          go_roundw
          case rel =>
            refine ⟨i + 1, by omega, by go_num, by first | (rw [HS1.out]; done) | (rw [HS1.out]; go_num), HNX.out, some ⟨gg, 0, none⟩, cap, rfl, ?_, HB6.out⟩
            rw [HS2.out, List.flatMap_append]
            exact HO6.out
          case measure => simp [intOf]; omega
      · have hb1 : (E != 0) = true := by simpa using hE
        go_wp2_with (go_at_call 13; refine (OFK.out _ (below_al HBW.out _)).mono ?_; rintro e w1 ⟨rfl, pA, rfl⟩)
        go_returns
        have hw : worldE l = E := by unfold worldE; rw [HBAD.out hE, if_pos hE]
        refine ⟨⟨none, 0, 0, by rw [hw, if_neg hE]; rfl, fun _ => ⟨rfl, rfl, rfl⟩, fun h => absurd h (by rw [hw]; exact hE)⟩, more_of_below ?_⟩
        repeat (first | with_reducible exact HBW.out | with_reducible refine below_mo ?_ _ | with_reducible refine below_al ?_ _)
    · obtain rfl : i = l.length := by omega
      have hef := errF_ok l (fun j u hu => HOK.out j u (by have := (List.getElem?_eq_some_iff.1 hu).1; omega) hu)
      have hw : worldE l = if 65536 < atK l l.length then 9 else 0 := by unfold worldE; rw [hef]; simp
      have hgl := glK_len l l.length (Nat.le_refl _)
      by_cases hov : 65536 < atK l l.length
      · rw [if_pos hov] at hw
        rw [hw]
        generalize atK l l.length = A at *
        go_wp2_with fail
        go_returns
        exact ⟨⟨none, 0, 0, rfl, fun _ => ⟨rfl, rfl, rfl⟩, fun h => by cases h⟩, more_of_below HBW.out⟩
      · rw [if_neg hov] at hw
        rw [hw]
        generalize atK l l.length = A at *
        go_wp2_with fail
        go_returns
        exact ⟨⟨ad, l.length, cp, rfl, fun h => absurd rfl h, fun _ => ⟨hgl.symm, HRW.out⟩⟩, more_of_below HBW.out⟩
end Go.Proofs.Ytlbkloamabomcaa
namespace Go.Proofs.Ytlbkloamabomcaa
open Go.RowKit Go.Sort
set_option linter.unusedVariables false
set_option linter.unusedSimpArgs false
set_option maxRecDepth 100000 in
set_option maxHeartbeats 3200000 in
theorem rMap_any {n : Nat} (l : List (Vr n)) (a : Option Addr) (c : Nat) (w : World) (hV : VrsAt w l a c) (hr : l.length * 32 ≤ 140737488355328) :
    Calls Try.prog 22 #[.slice a l.length c] w (MapC w (worldE l) (atK l l.length) (glK l l.length)) := by
  have CF := Lib.hid (fun (t : Ty n) (r : Raw) (W : World) (hT : TyAt w n t r) (hW : Below w.heap.size w W) => rcheck_any n t r W (hT.below hW))
  have LF : Hid (∀ (v : Vr n) (r : Raw) (W : World), checkF n v.type = 0 → TyAt w n v.type r → Below w.heap.size w W → Calls Try.prog 16 #[r.val] W fun e w' => ∃ a2 n2 k2 a3 n3 k3 L, e = .returned (.agg #[.int .i64 (vF v).1, .int .i64 (vF v).2, .slice a2 n2 k2, .slice a3 n3 k3, .bool L]) ∧ ∃ p : Regrown, w' = more W p) := Lib.hid (fun v r W hE hT hW => by
    obtain ⟨_, hs, _, g, hg, hg2⟩ := checkF_zero hE
    refine (lay_any n v.type r W hs (hT.below hW)).mono (fun e w' (h : LayC n v.type W e w') => ?_)
    obtain ⟨⟨s, a, a2, n2, k2, a3, n3, k3, L, he, _, h2, _⟩, hp⟩ := h
    obtain ⟨rfl, rfl⟩ := h2 g hg
    unfold vF
    rw [hg2]
    exact ⟨a2, n2, k2, a3, n3, k3, L, he, hp⟩)
  obtain ⟨i0, hi, hz0, hz1, hz2⟩ := info_parts gl_info
  have HV := Lib.hid hV.2.2
  have hc1 := hV.1
  have hc2 := hV.2.1
  clear hV
  go_enter Try.func22, Try.ntmps22
  go_wp2_with fail
  go_loopw [6] (fun v6 wr => ∃ i : Nat, i ≤ l.length ∧ v6 = .int .i64 i ∧ (∀ j u, j < i → l[j]? = some u → checkF n u.type = 0) ∧ ∃ p : Regrown, wr = more w p) (fun v6 _ => l.length - (intOf v6).toNat)
  case atStart => exact ⟨0, by omega, rfl, fun j u hj _ => by omega, more_of_below (Below.refl _ _)⟩
  case round =>
    obtain ⟨i, hil, rfl, hok, p0, rfl⟩ := hrel
    have HOK := Lib.hid hok
    clear hok
    by_cases hlt : (i : Int) < l.length
    · obtain ⟨b, off, rfl, hb, hcs⟩ := HV.out (by omega)
      obtain ⟨v, hv⟩ : ∃ v, l[i]? = some v := ⟨l[i], List.getElem?_eq_getElem (by omega : i < l.length)⟩
      obtain ⟨q, hq, hnm, c0, c1, c2, c3, c4, c5, c6⟩ := hcs i v hv
      have CFK := Lib.hid (fun W (hW : Below w.heap.size w W) => CF.out v.type q W hq hW)
      have HBAD := Lib.hid (errF_bad l i v HOK.out hv)
      have HNX : Hid (checkF n v.type = 0 → ∀ j u, j < i + 1 → l[j]? = some u → checkF n u.type = 0) := Lib.hid (fun h0 j u hj hu => by
        rcases Nat.lt_or_ge j i with h1 | h1
        · exact HOK.out j u h1 hu
        · obtain rfl : j = i := by omega
          rw [hv] at hu
          cases hu
          exact h0)
      clear hcs hq hnm hv
      obtain ⟨qk, qs, qp, qfa, qfl, qfc, qc, qea, qel, qec⟩ := q
      unfold Raw.val at CFK
      simp only at CFK c1 c2 c3 c4 c5 c6
      generalize checkF n v.type = E at *
      by_cases hE : E = 0
      · subst hE
        replace HNX := Lib.hid (HNX.out rfl)
        go_wp2_with (go_at_call 14; refine (CFK.out _ (below_mo (Below.refl _ _) _)).mono ?_; rintro e w1 ⟨rfl, pA, rfl⟩)
        go_roundw
        case rel => exact ⟨i + 1, by omega, by go_num, HNX.out, more_of_below (below_mo (below_mo (Below.refl _ _) _) _)⟩
        case measure => simp [intOf]; omega
      · have hb1 : (E != 0) = true := by simpa using hE
        go_wp2_with (go_at_call 14; refine (CFK.out _ (below_mo (Below.refl _ _) _)).mono ?_; rintro e w1 ⟨rfl, pA, rfl⟩)
        go_returns
        have hw : worldE l = E := by unfold worldE; rw [HBAD.out hE, if_pos hE]
        refine ⟨⟨none, 0, 0, by rw [hw, if_neg hE]; rfl, fun _ => ⟨rfl, rfl, rfl⟩, fun h => absurd h (by rw [hw]; exact hE)⟩, more_of_below ?_⟩
        repeat (first | with_reducible exact Below.refl _ _ | with_reducible refine below_mo ?_ _ | with_reducible refine below_al ?_ _)
    · obtain rfl : i = l.length := by omega
      have hef := errF_ok l (fun j u hu => HOK.out j u (by have := (List.getElem?_eq_some_iff.1 hu).1; omega) hu)
      have hw : worldE l = if 65536 < atK l l.length then 9 else 0 := by unfold worldE; rw [hef]; simp
      have HW := Lib.hid hw
      have hgl := glK_len l l.length (Nat.le_refl _)
      have HGL := Lib.hid hgl
      have HALL : Hid (∀ (j : Nat) u, l[j]? = some u → checkF n u.type = 0) := Lib.hid (fun j u hu => HOK.out j u (by have := (List.getElem?_eq_some_iff.1 hu).1; omega) hu)
      clear hef hw hgl HOK CF
      refine wp_letter (R := fun W => Below w.heap.size w W) (below_mo (Below.refl _ _) _) ?_
      rintro wB hB
      have HB := Lib.hid hB
      have hbsB := hB.size
      clear hB
      go_wp2_with fail
      go_loopw [5, 8, 9] (fun v5 v8 v9 wr => ∃ i : Nat, i ≤ l.length ∧ v9 = .int .i64 i ∧ v8 = .int .i64 (atK l i) ∧ atK l i ≤ 65536 ∧ ∃ (ad : Option Addr) (cp : Nat), v5 = .slice ad i cp ∧ wr.ownsRow w.heap.size 58 3 (.slice ad i cp) i ((glK l i).flatMap glC) ∧ Below w.heap.size w wr) (fun _ _ v9 _ => l.length - (intOf v9).toNat)
      case atStart => exact ⟨0, by omega, rfl, rfl, by show (0 : Int) ≤ 65536; decide, none, 0, rfl, World.ownsRow_nil _ _ _ _, HB.out⟩
      case round =>
        obtain ⟨i, hil, rfl, rfl, hA6, ad, cp, rfl, hrow, hbw⟩ := hrel
        have HRW := Lib.hid hrow
        have HBW := Lib.hid hbw
        have hbs := hbw.size
        have hab := atK_bound l i (fun j u _ hu => HALL.out j u hu)
        clear hrow hbw
        by_cases hlt : (i : Int) < l.length
        · obtain ⟨b, off, rfl, hb, hcs⟩ := HV.out (by omega)
          obtain ⟨v, hv⟩ : ∃ v, l[i]? = some v := ⟨l[i], List.getElem?_eq_getElem (by omega : i < l.length)⟩
          obtain ⟨q, hq, hnm, c0, c1, c2, c3, c4, c5, c6⟩ := hcs i v hv
          have hcc : ∀ (o : Nat) (x : Value), w.cell? ⟨b, o, none⟩ = some x → wr.cell? ⟨b, o, none⟩ = some x := fun o x hx => (HBW.out.cell (p := ⟨b, o, none⟩) hb).trans hx
          have HC0 : Hid (∀ W, Below w.heap.size w W → W.cell? ⟨b, off + i * 7, none⟩ = some (.string v.name)) := Lib.hid (fun W hW => (hW.cell (p := ⟨b, off + i * 7, none⟩) hb).trans c0)
          replace c1 := hcc _ _ c1
          replace c2 := hcc _ _ c2
          replace c3 := hcc _ _ c3
          replace c4 := hcc _ _ c4
          replace c5 := hcc _ _ c5
          replace c6 := hcc _ _ c6
          have hbr : b < wr.heap.size := by omega
          have LFK := Lib.hid (fun W (hW : Below w.heap.size w W) => LF.out v q W (HALL.out i v hv) hq hW)
          have HS1 := Lib.hid (atK_succ l hv)
          have HS2 := Lib.hid (glK_succ l hv)
          obtain ⟨hg0, hg1, hg2⟩ := vF_ok (HALL.out i v hv)
          have HOV : Hid (65536 < atK l (i + 1) → 65536 < atK l l.length) := Lib.hid (fun h => by
            have := atK_over l h (l.length - (i + 1)) (fun j u _ hu => HALL.out j u hu)
            rwa [Nat.add_sub_cancel' (by omega)] at this)
          obtain ⟨nm, ty⟩ := v
          simp only at HC0 LFK HS1 HS2 hg0 hg1 hg2
          clear hcs hcc hq hnm hv c0
          obtain ⟨qk, qs, qp, qfa, qfl, qfc, qc, qea, qel, qec⟩ := q
          unfold Raw.val at LFK
          simp only at LFK c1 c2 c3 c4 c5 c6
          generalize vF (Vr.mk nm ty) = G at *
          obtain ⟨gs, ga⟩ := G
          simp only at LFK HS1 HS2 hg0 hg1 hg2
          have hgp := hg2.pos
          have hsb := (stW_bound (g := (gs, ga)) hg2 hab.1).2.2.1 hA6
          have huf := upF_ge (n := atK l i) hgp.1
          have hum := upF_mod (n := atK l i) (s := ga)
          have HLE := Lib.hid (fun b => upF_least (n := atK l i) (s := ga) (b := b) hgp.1)
          rw [hsb.1] at HS1 HS2
          replace hsb := hsb.2
          generalize upF (atK l i) ga = U at *
          generalize hA : atK l i = A at *
          clear hA
          go_upto_region 13 with (go_at_call 16; refine (LFK.out _ HBW.out).mono ?_; rintro e w1 ⟨a2, n2, k2, a3, n3, k3, L, rfl, pA, rfl⟩)
          refine wp_letter (R := fun W => Below w.heap.size w W ∧ W.ownsRow w.heap.size 58 3 (.slice ad i cp) i ((glK l i).flatMap glC) ∧ W.cell? ⟨wr.heap.size + pA.os.size, 0, none⟩ = some (.int .i64 gs) ∧ W.cell? ⟨wr.heap.size + pA.os.size, 1, none⟩ = some (.int .i64 ga)) ?letA ?_
          case letA =>
            refine ⟨?_, World.ownsRow.alloc (ownsRow_mo HRW.out _) _, by simp [go_sem, ↓IntWalk.iteOmega], by simp [go_sem, ↓IntWalk.iteOmega]⟩
            repeat (first | with_reducible exact HBW.out | with_reducible refine below_mo ?_ _ | with_reducible refine below_al ?_ _)
          rintro wA ⟨hA1, hA2, y0, y1⟩
          have HA1 := Lib.hid hA1
          have HA2 := Lib.hid hA2
          have hlA := cell_lt2 y0
          have hbs2 := hA1.size
          have y2 := HC0.out wA hA1
          have hbA : b < wA.heap.size := by omega
          have hX : wr.heap.size ≤ wr.heap.size + pA.os.size := by omega
          generalize wr.heap.size + pA.os.size = X at *
          clear hA1 hA2
          go_loopw [8] (fun v8 wx => ∃ B : Int, v8 = .int .i64 B ∧ A ≤ B ∧ B ≤ U ∧ wx = wA) (fun v8 _ => (U - intOf v8).toNat)
          case atStart => exact ⟨A, rfl, by omega, by omega, rfl⟩
          case round =>
            obtain ⟨B, rfl, hB1, hB2, hwx⟩ := hrel
            subst hwx
            have ht : Int.tmod B ga = B % ga := Int.tmod_eq_emod_of_nonneg (by omega)
            have hs : (ga == 0) = false := by simp; omega
            by_cases hz : B % ga = 0
            · obtain rfl := HLE.out B hB1 hB2 hz
              go_upto_region 15 with fail
              have hne2 : some X ≠ (Value.slice ad i cp).ownBlock := fun e => by
                have := (HRW.out.lt _ e.symm).2
                omega
              have hgr : ∀ (w1 : World), (wr.alloc (.cells #[.string nm, .int .i64 (65536 + B), .int .i64 gs] 58)).drew.grownBy w1 (Value.slice ad i cp).ownBlock → w1.cell? ⟨X, 0, none⟩ = some (.int .i64 gs) ∧ X < w1.heap.size ∧ Below w.heap.size w w1 := fun w1 hg => by
                have h0 : X < (wr.alloc (.cells #[.string nm, .int .i64 (65536 + B), .int .i64 gs] 58)).drew.heap.size := by simp; omega
                refine ⟨?_, Nat.lt_of_lt_of_le h0 hg.size, Below.grown (below_dr (below_al HA1.out _)) hg (by simp; omega) (fun k hk => (HA2.out.lt k hk).1)⟩
                rw [hg.cell_far ⟨X, 0, none⟩ h0 hne2]
                simp [go_sem, ↓IntWalk.iteOmega, y0]
              have HG := Lib.hid hgr
              clear hgr
              have hw10 : IntKind.i64.wrap (65536 + B) = 65536 + B := IntWalk.i64_in _ (by omega)
              go_region_law ((refine step_append_lies _ rfl (.tmp 45) (.tmp 57) 54 rfl w.heap.size 58 i0 _ 3 32 Try.underlying54 hi hz0 hz1 hz2 rfl (by decide) (.slice ad i cp) i ((glK l i).flatMap glC) (by simp [Act.eval, Act.put]) ((HA2.out.alloc _).drew) ⟨wr.heap.size, 0, none⟩ 1 1 [.string nm, .int .i64 (65536 + B), .int .i64 gs] (by simp [Act.eval, Act.put]) rfl (World.news_of_block (cs := #[.string nm, .int .i64 (65536 + B), .int .i64 gs]) (t := 58) (fr := (0, 0)) (heap_alloc_new wr _)) (by simp [Value.oneCell']) (by omega) (by unfold maxLen; omega) (by omega) (by simp; omega) (wr.heap.size + 1) (by simp) ?_; intro gg cap w1 hown1 hgrow hat hlt; obtain ⟨k0, k1, k2⟩ := HG.out w1 hgrow))
              all_goals
                have HO6 := Lib.hid hown1
                have HB6 := Lib.hid k2
                clear hown1 hgrow hat hlt k2
                by_cases hov : 65536 < B + gs
                · go_wp2_with fail
                  go_returns
                  have hw := HW.out
                  rw [if_pos (HOV.out (by rw [HS1.out]; exact hov))] at hw
                  rw [hw]
                  exact ⟨⟨none, 0, 0, rfl, fun _ => ⟨rfl, rfl, rfl⟩, fun h => by cases h⟩, more_of_below HB6.out⟩
                · go_wp2_with fail
                  go_roundw
                  case rel =>
                    refine ⟨i + 1, by omega, by go_num, by first | (rw [HS1.out]; done) | (rw [HS1.out]; go_num), by rw [HS1.out]; omega, some ⟨gg, 0, none⟩, cap, rfl, ?_, HB6.out⟩
                    rw [HS2.out, List.flatMap_append]
                    exact HO6.out
                  case measure => simp [intOf]; omega
            · have hne : B < U := by
                rcases Int.lt_or_le B U with h | h
                · exact h
                · obtain rfl : B = U := by omega
                  exact absurd hum hz
              have hbz : (B % ga != 0) = true := by simpa using hz
              go_wp2_with fail
              go_roundw
              case rel => exact ⟨B + 1, by go_num, by omega, by omega, by first | rfl | trivial⟩
              case measure => simp [intOf]; omega
        · obtain rfl : i = l.length := by omega
          have hw := HW.out
          rw [if_neg (by omega)] at hw
          rw [hw]
          generalize atK l l.length = A at *
          go_wp2_with fail
          go_returns
          exact ⟨⟨ad, l.length, cp, rfl, fun h => absurd rfl h, fun _ => ⟨HGL.out.symm, HRW.out⟩⟩, more_of_below HBW.out⟩
end Go.Proofs.Ytlbkloamabomcaa
namespace Go.Proofs.Ytlbkloamabomcaa
open Go.RowKit Go.Sort
set_option linter.unusedVariables false
set_option linter.unusedSimpArgs false
/-- a row of globals lies so. -/
def GlAt (w : World) (S : Nat) (G : List Gl) : Prop := S < w.heap.size ∧ ∀ (i : Nat) g, G[i]? = some g → w.cell? ⟨S, i * 3, none⟩ = some (.string g.name) ∧ w.cell? ⟨S, i * 3 + 1, none⟩ = some (.int .i64 g.at_) ∧ w.cell? ⟨S, i * 3 + 2, none⟩ = some (.int .i64 g.size)
theorem GlAt.below {w w' : World} {S : Nat} {G : List Gl} (hb : Below w.heap.size w w') (h : GlAt w S G) : GlAt w' S G := by
  obtain ⟨h1, h2⟩ := h
  refine ⟨Nat.lt_of_lt_of_le h1 hb.size, fun i x hi => ?_⟩
  rw [hb.cell (p := ⟨S, i * 3, none⟩) h1, hb.cell (p := ⟨S, i * 3 + 1, none⟩) h1, hb.cell (p := ⟨S, i * 3 + 2, none⟩) h1]
  exact h2 i x hi
theorem gls_at {w : World} {B l c : Nat} {e : TypeId} {a : Option Addr} {G : List Gl} (h : w.ownsRow B e 3 (.slice a l c) l (G.flatMap glC)) (hne : G ≠ []) : l = G.length ∧ ∃ S, a = some ⟨S, 0, none⟩ ∧ l ≤ c ∧ c ≤ maxLen ∧ B ≤ S ∧ GlAt w S G := by
  have hl : G.length = l := by have := h.1; rw [glC_len] at this; omega
  refine ⟨hl.symm, ?_⟩
  rcases h.2 with ⟨e0, e1⟩ | ⟨g, cap, cur, e0, hb, hg, hn, hm, hs, ht⟩
  · have : G.length = 0 := by omega
    exact absurd (List.eq_nil_of_length_eq_zero this) hne
  · injection e0 with e1 _ e3
    refine ⟨g, e1, by omega, by omega, (h.lt g (by rw [e1]; rfl)).1, (h.lt g (by rw [e1]; rfl)).2, fun i s hi => ?_⟩
    have hj : i < G.length := (List.getElem?_eq_some_iff.1 hi).1
    have e4 : ∀ j, j < 3 → w.cell? ⟨g, i * 3 + j, none⟩ = (glC s)[j]? := fun j hj2 => by
      rw [show w.cell? ⟨g, i * 3 + j, none⟩ = cur[i * 3 + j]? by simp [World.cell?, hg], ← glC_get G i s hi j hj2, ← ht, List.getElem?_take, if_pos (by omega), Array.getElem?_toList]
    exact ⟨e4 0 (by omega), e4 1 (by omega), e4 2 (by omega)⟩
theorem owns_base {w : World} {B B' : Nat} {e : TypeId} {sz n : Nat} {v : Value} {xs : List Value} (h : w.ownsRow B e sz v n xs) (hB : B' ≤ B) : w.ownsRow B' e sz v n xs := by
  refine ⟨h.1, h.2.imp id ?_⟩
  rintro ⟨g, cap, cur, e0, hb, r⟩
  exact ⟨g, cap, cur, e0, Nat.le_trans hB hb, r⟩
/-- Map's contract, by cells. -/
theorem MapC.cells {w w' : World} {E N : Int} {G : List Gl} {e : Ending} (h : MapC w E N G e w') : ∃ (ad : Option Addr) (m c : Nat), e = .returned (.tuple #[.slice ad m c, .int .i64 (if E = 0 then N else 0), .int .i64 E]) ∧ (E ≠ 0 → m = 0 ∧ ad = none ∧ c = 0) ∧ (E = 0 → m = G.length ∧ (G ≠ [] → ∃ S, ad = some ⟨S, 0, none⟩ ∧ m ≤ c ∧ c ≤ maxLen ∧ w.heap.size ≤ S ∧ GlAt w' S G)) ∧ ∃ p : Regrown, w' = more w p := by
  obtain ⟨⟨ad, m, c, he, h1, h2⟩, hp⟩ := h
  refine ⟨ad, m, c, he, h1, fun h0 => ⟨(h2 h0).1, fun hG => ?_⟩, hp⟩
  obtain ⟨_, S, k1, k2, k3, k4, k5⟩ := gls_at (h2 h0).2 hG
  exact ⟨S, k1, k2, k3, k4, k5⟩
section
variable {n : Nat}
def lE (v : Vr n) : Int := locE 0 (marksF n v.type 0)
def lR (v : Vr n) : List (Int × Int) := locR 0 (marksF n v.type 0)
def outK (l : List (Vr n)) : Nat → List (Int × Int)
  | 0 => []
  | k + 1 => match l[k]? with
    | some v => outK l k ++ shM (65536 + stW (atK l k) (vF v)) (lR v)
    | none => outK l k
def wlE (l : List (Vr n)) : Int := if worldE l ≠ 0 then worldE l else if l.all (fun v => lE v == 0) = true then 0 else 12
def wlR (l : List (Vr n)) : List (Int × Int) := if wlE l ≠ 0 then [] else outK l l.length
theorem outK_succ (l : List (Vr n)) {k : Nat} {v : Vr n} (h : l[k]? = some v) : outK l (k + 1) = outK l k ++ shM (65536 + stW (atK l k) (vF v)) (lR v) := by
  show (match l[k]? with | some v => outK l k ++ shM (65536 + stW (atK l k) (vF v)) (lR v) | none => outK l k) = _
  rw [h]
theorem lE_cases (v : Vr n) : lE v = 12 ∨ lE v = 0 := by
  unfold lE locE
  rw [if_neg (by simp)]
  split
  · exact .inl rfl
  · exact .inr rfl
theorem lR_in {v : Vr n} (h : checkF n v.type = 0) : InM 0 (vF v).1 (lR v) ∧ Strict (lR v) ∧ (lR v).length ≤ 4096 := by
  obtain ⟨_, hs, _, g, hg, hg2⟩ := checkF_zero h
  have hI := marks_in n v.type 0 hs g hg
  unfold lR locR vF
  rw [hg2, if_neg (by simp)]
  split
  · exact ⟨InM.nil, List.Pairwise.nil, by simp⟩
  · exact ⟨fun x hx => hI x ((strL_mem _ x).1 hx), strL_strict _, by omega⟩
theorem lR_len {v : Vr n} (h : checkF n v.type = 0) : ((lR v).length : Int) ≤ 4096 * (vF v).1 := by
  obtain ⟨h1, _, h3⟩ := lR_in h
  have hv := vF_ok h
  cases hl : lR v with
  | nil => simp; omega
  | cons x r =>
    rw [hl] at h1 h3
    have := h1 x (List.mem_cons_self ..)
    have : (1 : Int) ≤ (vF v).1 := by omega
    omega
theorem atK_pre (l : List (Vr n)) (hok : ∀ (j : Nat) u, l[j]? = some u → checkF n u.type = 0) (hA : atK l l.length ≤ 65536) (k : Nat) (hk : k ≤ l.length) : atK l k ≤ 65536 := by
  rcases Int.lt_or_le 65536 (atK l k) with h | h
  · have := atK_over l h (l.length - k) (fun j u _ hu => hok j u hu)
    rw [Nat.add_sub_cancel' hk] at this
    omega
  · exact h
theorem st_eq (l : List (Vr n)) (hok : ∀ (j : Nat) u, l[j]? = some u → checkF n u.type = 0) (hA : atK l l.length ≤ 65536) (k : Nat) (v : Vr n) (hv : l[k]? = some v) : stW (atK l k) (vF v) = upF (atK l k) (vF v).2 ∧ atK l k ≤ stW (atK l k) (vF v) ∧ stW (atK l k) (vF v) ≤ 65536 := by
  have hk : k < l.length := (List.getElem?_eq_some_iff.1 hv).1
  have h1 := vF_ok (hok k v hv)
  have h0 := atK_bound l k (fun j u _ hu => hok j u hu)
  have h2 := (stW_bound (g := vF v) h1.2.2 h0.1).2.2.1 (atK_pre l hok hA k (by omega))
  have h3 := upF_ge (n := atK l k) h1.2.2.pos.1
  rw [h2.1]
  exact ⟨rfl, h3.1, h2.2⟩
theorem outK_len (l : List (Vr n)) (hok : ∀ (j : Nat) u, l[j]? = some u → checkF n u.type = 0) (hA : atK l l.length ≤ 65536) : ∀ k, k ≤ l.length → ((outK l k).length : Int) ≤ 4096 * atK l k
  | 0, _ => by show ((0 : Nat) : Int) ≤ 4096 * 0; decide
  | k + 1, hk => by
    have hv : l[k]? = some l[k] := List.getElem?_eq_getElem (by omega : k < l.length)
    have ih := outK_len l hok hA k (by omega)
    have h1 := lR_len (hok k _ hv)
    have h2 := st_eq l hok hA k _ hv
    rw [outK_succ l hv, atK_succ l hv, List.length_append]
    have : (shM (65536 + stW (atK l k) (vF l[k])) (lR l[k])).length = (lR l[k]).length := by simp [shM]
    rw [this]
    omega
theorem lE_bad (l : List (Vr n)) (k : Nat) (v : Vr n) (hv : l[k]? = some v) (h : lE v ≠ 0) (hw : worldE l = 0) : wlE l = 12 ∧ lE v = 12 := by
  refine ⟨?_, by rcases lE_cases v with h1 | h1; exact h1; exact absurd h1 h⟩
  unfold wlE
  rw [if_neg (by simp [hw]), if_neg]
  intro hall
  have := List.all_eq_true.1 hall v (List.mem_of_getElem? hv)
  exact h (by simpa using this)
theorem lE_good (l : List (Vr n)) (h : ∀ j u, j < l.length → l[j]? = some u → lE u = 0) (hw : worldE l = 0) : wlE l = 0 := by
  unfold wlE
  rw [if_neg (by simp [hw]), if_pos]
  refine List.all_eq_true.2 fun v hv => ?_
  obtain ⟨j, hj⟩ := List.getElem?_of_mem hv
  have := h j v (List.getElem?_eq_some_iff.1 hj).1 hj
  simp [this]
theorem worldE_zero (l : List (Vr n)) (h : worldE l = 0) : (∀ (j : Nat) u, l[j]? = some u → checkF n u.type = 0) ∧ atK l l.length ≤ 65536 := by
  unfold worldE at h
  by_cases he : errF l = 0
  · rw [if_neg (by simp [he])] at h
    split at h
    · cases h
    · exact ⟨errF_zero l he, by omega⟩
  · rw [if_pos he] at h
    exact absurd h he
end
theorem shM_take (d : Int) (R : List (Int × Int)) (j : Nat) (x : Int × Int) (h : R[j]? = some x) : shM d (R.take (j + 1)) = shM d (R.take j) ++ [(x.1 + d, x.2)] := by
  rw [List.take_add_one, h, shM_app]
  rfl
theorem spn_info : (Try.prog.info? 40).map (fun i => (i.zero, i.size, i.bytes)) = some (some (.agg #[.int .i64 0, .int .i64 0]), 2, 16) := by kernel_rfl
set_option maxRecDepth 100000 in
set_option maxHeartbeats 6400000 in
theorem wLoc_any {n : Nat} (l : List (Vr n)) (a : Option Addr) (c : Nat) (w : World) (hV : VrsAt w l a c) (hr : l.length * 32 ≤ 140737488355328) :
    Calls Try.prog 28 #[.slice a l.length c] w (LocD w (wlE l) (wlR l)) := by
  have MP := Lib.hid (fun W (hW : Below w.heap.size w W) => (Map_any l a c W (hV.below hW) hr).mono (fun _ _ h => h.cells))
  have LO : Hid (∀ (v : Vr n) (r : Raw) (W : World), checkF n v.type = 0 → TyAt w n v.type r → Below w.heap.size w W → Calls Try.prog 20 #[r.val] W fun e w' => ∃ (ad : Option Addr) (c : Nat), e = .returned (.tuple #[.slice ad (lR v).length c, .int .i64 (lE v)]) ∧ (lR v ≠ [] → ∃ S, ad = some ⟨S, 0, none⟩ ∧ W.heap.size ≤ S ∧ (lR v).length ≤ c ∧ c ≤ maxLen ∧ SnAt w' S (lR v)) ∧ ∃ p : Regrown, w' = more W p) := Lib.hid (fun v r W hE hT hW => (Locations_any n v.type r W (hT.below hW)).mono (fun e w1 h => by
    have h := h.det
    rw [hE] at h
    obtain ⟨⟨ad, c, rfl, ho⟩, hp⟩ := h
    refine ⟨ad, c, rfl, fun hR => ?_, hp⟩
    obtain ⟨S, rfl, h1, h2, h3⟩ := spans_at ho hR
    exact ⟨S, rfl, (ho.lt S rfl).1, h1, h2, h3⟩))
  have HV := Lib.hid hV.2.2
  have hc1 := hV.1
  have hc2 := hV.2.1
  clear hV
  by_cases hE : worldE l = 0
  · obtain ⟨hok, hA⟩ := worldE_zero l hE
    have hgl := glK_len l l.length (Nat.le_refl _)
    rw [hE] at MP
    have MP2 : Hid (∀ W, Below w.heap.size w W → Calls Try.prog 21 #[.slice a l.length c] W fun e w' => ∃ (ad : Option Addr) (c : Nat), e = .returned (.tuple #[.slice ad l.length c, .int .i64 (atK l l.length), .int .i64 0]) ∧ (0 < l.length → ∃ S, ad = some ⟨S, 0, none⟩ ∧ l.length ≤ c ∧ c ≤ maxLen ∧ W.heap.size ≤ S ∧ GlAt w' S (glK l l.length)) ∧ ∃ p : Regrown, w' = more W p) := Lib.hid (fun W hW => (MP.out W hW).mono (by
      rintro e w1 ⟨ad, m, c, rfl, _, h2, hp⟩
      obtain ⟨rfl, h3⟩ := h2 rfl
      rw [hgl] at h3 ⊢
      exact ⟨ad, c, rfl, fun h0 => h3 (fun h => by rw [h] at hgl; simp at hgl; omega), hp⟩))
    clear MP
    have HOK := Lib.hid hok
    have HOL := Lib.hid (outK_len l hok hA)
    have HST := Lib.hid (st_eq l hok hA)
    have HPR := Lib.hid (atK_pre l hok hA)
    have HG := Lib.hid (glK_get l l.length (Nat.le_refl _))
    have HBAD := Lib.hid (fun k v hv h => lE_bad l k v hv h hE)
    have HGOOD := Lib.hid (fun h => lE_good l h hE)
    obtain ⟨i0, hi, hz0, hz1, hz2⟩ := info_parts spn_info
    clear hok hgl hE
    go_enter Try.func28, Try.ntmps28
    go_wp2_with (go_at_call 21; refine (MP2.out _ (Below.refl _ _)).mono ?_; rintro e w1 ⟨ad, cg, rfl, hm, p1, rfl⟩; have HM := Lib.hid hm; clear hm)
    refine wp_letter (R := fun W => Below w.heap.size w W ∧ (0 < l.length → ∃ S, ad = some ⟨S, 0, none⟩ ∧ l.length ≤ cg ∧ cg ≤ maxLen ∧ w.heap.size ≤ S ∧ GlAt W S (glK l l.length))) ⟨more_below _ _, HM.out⟩ ?_
    rintro wA ⟨hA1, hA2⟩
    have HA1 := Lib.hid hA1
    have HA2 := Lib.hid hA2
    have hbs := hA1.size
    clear hA1 hA2 HM MP2
    go_loopw [7, 25] (fun v7 v25 wr => ∃ i : Nat, i ≤ l.length ∧ v25 = .int .i64 i ∧ (∀ j u, j < i → l[j]? = some u → lE u = 0) ∧ ∃ (ao : Option Addr) (co : Nat), v7 = .slice ao (outK l i).length co ∧ wr.ownsRow wA.heap.size 40 2 (.slice ao (outK l i).length co) (outK l i).length ((outK l i).flatMap spnC) ∧ Below wA.heap.size wA wr) (fun _ v25 _ => l.length - (intOf v25).toNat)
    case atStart => exact ⟨0, by omega, rfl, fun j u hj _ => by omega, none, 0, rfl, World.ownsRow_nil _ _ _ _, Below.refl _ _⟩
    case round =>
      obtain ⟨i, hil, rfl, hlz, ao, co, rfl, hrow, hbw⟩ := hrel
      have HLZ := Lib.hid hlz
      have HRW := Lib.hid hrow
      have HBW := Lib.hid hbw
      have hbs2 := hbw.size
      clear hlz hrow hbw
      by_cases hlt : (i : Int) < l.length
      · obtain ⟨b, off, rfl, hb, hcs⟩ := HV.out (by omega)
        obtain ⟨Sg, rfl, hcg1, hcg2, hSg, hlSg, hgc⟩ := HA2.out (by omega)
        obtain ⟨v, hv⟩ : ∃ v, l[i]? = some v := ⟨l[i], List.getElem?_eq_getElem (by omega : i < l.length)⟩
        obtain ⟨q, hq, hnm, c0, c1, c2, c3, c4, c5, c6⟩ := hcs i v hv
        have hcc : ∀ (o : Nat) (x : Value), w.cell? ⟨b, o, none⟩ = some x → wr.cell? ⟨b, o, none⟩ = some x := fun o x hx => (HBW.out.cell (p := ⟨b, o, none⟩) (show b < wA.heap.size by omega)).trans ((HA1.out.cell (p := ⟨b, o, none⟩) hb).trans hx)
        replace c0 := hcc _ _ c0
        replace c1 := hcc _ _ c1
        replace c2 := hcc _ _ c2
        replace c3 := hcc _ _ c3
        replace c4 := hcc _ _ c4
        replace c5 := hcc _ _ c5
        replace c6 := hcc _ _ c6
        have hbr : b < wr.heap.size := by omega
        have hg := hgc i _ (HG.out i v (by omega) hv)
        have HGA : Hid (∀ W, Below wA.heap.size wA W → W.cell? ⟨Sg, i * 3 + 1, none⟩ = some (.int .i64 (65536 + stW (atK l i) (vF v)))) := Lib.hid (fun W hW => (hW.cell (p := ⟨Sg, i * 3 + 1, none⟩) hlSg).trans hg.2.1)
        have LOK := Lib.hid (fun W (hW : Below w.heap.size w W) => LO.out v q W (HOK.out i v hv) hq hW)
        obtain ⟨hst1, hst2, hst3⟩ := HST.out i v hv
        have hst0 := (atK_bound l i (fun j u _ hu => HOK.out j u hu)).1
        have HLIN := Lib.hid (lR_in (HOK.out i v hv))
        have hvf := vF_ok (HOK.out i v hv)
        have HS1 := Lib.hid (outK_succ l hv)
        have hol := HOL.out i hil
        have hap := HPR.out i hil
        have HBD := Lib.hid (HBAD.out i v hv)
        have HNX : Hid (lE v = 0 → ∀ j u, j < i + 1 → l[j]? = some u → lE u = 0) := Lib.hid (fun h0 j u hj hu => by
          rcases Nat.lt_or_ge j i with h1 | h1
          · exact HLZ.out j u h1 hu
          · obtain rfl : j = i := by omega
            rw [hv] at hu
            cases hu
            exact h0)
        clear hcs hcc hq hnm hv hg hgc hst1
        obtain ⟨qk, qs, qp, qfa, qfl, qfc, qc, qea, qel, qec⟩ := q
        unfold Raw.val at LOK
        simp only at LOK c1 c2 c3 c4 c5 c6
        generalize stW (atK l i) (vF v) = ST at *
        generalize atK l i = AT at *
        generalize (vF v).1 = VS at *
        generalize outK l i = OU at *
        generalize lR v = LR at *
        generalize lE v = EV at *
        by_cases hEV : EV = 0
        · subst hEV
          go_upto_region 11 with (go_at_call 20; refine (LOK.out _ (below_al (HA1.out.trans (HBW.out.mono hbs)) _)).mono ?_; rintro e w1 ⟨ad2, c2, rfl, hl2, pA, rfl⟩; have HL2 := Lib.hid hl2; clear hl2)
          refine wp_letter (R := fun W => Below wA.heap.size wA W ∧ W.ownsRow wA.heap.size 40 2 (.slice ao OU.length co) OU.length (OU.flatMap spnC) ∧ (LR ≠ [] → ∃ S, ad2 = some ⟨S, 0, none⟩ ∧ wr.heap.size + 1 ≤ S ∧ LR.length ≤ c2 ∧ c2 ≤ maxLen ∧ SnAt W S LR)) ?letB ?_
          case letB =>
            refine ⟨?_, ownsRow_mo (HRW.out.alloc _) _, by simpa using HL2.out⟩
            repeat (first | with_reducible exact HBW.out | with_reducible refine below_mo ?_ _ | with_reducible refine below_al ?_ _)
          rintro wB ⟨hB1, hB2, hB3⟩
          have HB1 := Lib.hid hB1
          have HB2 := Lib.hid hB2
          have HB3 := Lib.hid hB3
          have hbsB := hB1.size
          have hne0 : ∀ g, (Value.slice ao OU.length co).ownBlock = some g → g < wr.heap.size := fun g hg => (HRW.out.lt g hg).2
          have HNE0 := Lib.hid hne0
          clear hB1 hB2 hB3 hne0 HL2
          go_wp2_with fail
          go_loopw [7, 41] (fun v7 v41 wq => ∃ j : Nat, j ≤ LR.length ∧ v41 = .int .i64 j ∧ ∃ (ao : Option Addr) (co : Nat), v7 = .slice ao (OU.length + j) co ∧ wq.ownsRow wA.heap.size 40 2 (.slice ao (OU.length + j) co) (OU.length + j) ((OU ++ shM (65536 + ST) (LR.take j)).flatMap spnC) ∧ Below wA.heap.size wA wq ∧ (LR ≠ [] → ∃ S, ad2 = some ⟨S, 0, none⟩ ∧ (Value.slice ao (OU.length + j) co).ownBlock ≠ some S ∧ SnAt wq S LR)) (fun _ v41 _ => LR.length - (intOf v41).toNat)
          case atStart =>
            refine ⟨0, by omega, rfl, ao, co, rfl, by simpa [shM] using HB2.out, HB1.out, fun hR => ?_⟩
            obtain ⟨S, e1, e2, _, _, e5⟩ := HB3.out hR
            exact ⟨S, e1, fun e => by have := HNE0.out S e; omega, e5⟩
          case round =>
            obtain ⟨j, hjl, rfl, ao', co', rfl, hrow, hbw, hsn⟩ := hrel
            have HRQ := Lib.hid hrow
            have HBQ := Lib.hid hbw
            have hbsQ := hbw.size
            have HSQ := Lib.hid hsn
            clear hrow hbw hsn
            by_cases hltj : (j : Int) < LR.length
            · have hRn : LR ≠ [] := fun h => by rw [h] at hltj; simp at hltj; omega
              obtain ⟨S, rfl, hneS, hlS, hsc⟩ := HSQ.out hRn
              obtain ⟨x, hx⟩ : ∃ x, LR[j]? = some x := ⟨LR[j]'(by omega), List.getElem?_eq_getElem (by omega : j < LR.length)⟩
              obtain ⟨s0, s1⟩ := hsc j x hx
              have hxi := HLIN.out.1 x (List.mem_of_getElem? hx)
              obtain ⟨S', hS2, hS3, hc3, hc4, _⟩ := HB3.out hRn
              cases hS2
              have hc5 : c2 ≤ 9223372036854775807 := hc4
              have HTK := Lib.hid (shM_take (65536 + ST) LR j x hx)
              have hl4 := HLIN.out.2.2
              have g1 := HGA.out wr HBQ.out
              have hlg : Sg < wr.heap.size := by omega
              have HSC := Lib.hid hsc
              clear hsc hx
              obtain ⟨xa, xl⟩ := x
              simp only at s0 s1 hxi HTK
              go_upto_region 14 with fail
              refine wp_letter (R := fun W => Below wA.heap.size wA W ∧ W.ownsRow wA.heap.size 40 2 (.slice ao' (OU.length + j) co') (OU.length + j) ((OU ++ shM (65536 + ST) (LR.take j)).flatMap spnC) ∧ SnAt W S LR ∧ W.cell? ⟨Sg, i * 3 + 1, none⟩ = some (.int .i64 (65536 + ST)) ∧ W.cell? ⟨wr.heap.size, 0, none⟩ = some (.int .i64 xa) ∧ W.cell? ⟨wr.heap.size, 1, none⟩ = some (.int .i64 xl)) ?letC ?_
              case letC =>
                refine ⟨below_al HBQ.out _, HRQ.out.alloc _, SnAt.below (below_al (Below.refl _ _) _) ⟨hlS, HSC.out⟩, HGA.out _ (below_al HBQ.out _), by simp [go_sem, ↓IntWalk.iteOmega], by simp [go_sem, ↓IntWalk.iteOmega]⟩
              rintro wC ⟨hC1, hC2, hC3, hC4, hC5, hC6⟩
              have HC1 := Lib.hid hC1
              have HC2 := Lib.hid hC2
              have HC3 := Lib.hid hC3
              have hlC := cell_lt2 hC5
              have hlCg := cell_lt2 hC4
              have hbsC := hC1.size
              clear hC1 hC2 hC3 g1 s0 s1
              have hgr : ∀ (w1 : World), (wC.alloc (.cells #[.int .i64 (65536 + ST + xa), .int .i64 xl] 40)).drew.grownBy w1 (Value.slice ao' (OU.length + j) co').ownBlock → SnAt w1 S LR ∧ Below wA.heap.size wA w1 := fun w1 hg => by
                have h0 : S < (wC.alloc (.cells #[.int .i64 (65536 + ST + xa), .int .i64 xl] 40)).drew.heap.size := by have := HC3.out.1; simp; omega
                refine ⟨⟨Nat.lt_of_lt_of_le h0 hg.size, fun i x hi => ?_⟩, Below.grown (below_dr (below_al HC1.out _)) hg (by simp; omega) (fun k hk => (HC2.out.lt k hk).1)⟩
                have hs := (SnAt.below (below_dr (below_al (Below.refl _ _) (.cells #[.int .i64 (65536 + ST + xa), .int .i64 xl] 40))) HC3.out).2 i x hi
                rw [hg.cell_far ⟨S, i * 2, none⟩ h0 (fun e => hneS e.symm), hg.cell_far ⟨S, i * 2 + 1, none⟩ h0 (fun e => hneS e.symm)]
                exact hs
              have HGR := Lib.hid hgr
              clear hgr
              have hw10 : IntKind.i64.wrap (65536 + ST + xa) = 65536 + ST + xa := IntWalk.i64_in _ (by omega)
              go_region_law ((refine step_append_lies _ rfl (.tmp 45) (.tmp 58) 44 rfl wA.heap.size 40 i0 _ 2 16 Try.underlying44 hi hz0 hz1 hz2 rfl (by decide) (.slice ao' (OU.length + j) co') (OU.length + j) ((OU ++ shM (65536 + ST) (LR.take j)).flatMap spnC) (by simp [Act.eval, Act.put]) ((HC2.out.alloc _).drew) ⟨wC.heap.size, 0, none⟩ 1 1 [.int .i64 (65536 + ST + xa), .int .i64 xl] (by simp [Act.eval, Act.put]) rfl (World.news_of_block (cs := #[.int .i64 (65536 + ST + xa), .int .i64 xl]) (t := 40) (fr := (0, 0)) (heap_alloc_new wC _)) (by simp [Value.oneCell']) (by omega) (by unfold maxLen; omega) (by omega) (by simp; omega) (wC.heap.size + 1) (by simp) ?_; intro gg cap w1 hown1 hgrow hat hlt9; obtain ⟨k0, k1⟩ := HGR.out w1 hgrow))
              all_goals
                have HO6 := Lib.hid hown1
                have HB6 := Lib.hid k1
                have HS6 := Lib.hid k0
                have hnew : gg ≠ S := by
                  rcases hat with h9 | h9
                  · exact fun e => hneS (by rw [h9, e])
                  · have := HC3.out.1
                    omega
                clear hown1 hgrow hat hlt9 k0 k1
                go_wp2_with fail
                go_roundw
                case rel =>
                  refine ⟨j + 1, by omega, by go_num, some ⟨gg, 0, none⟩, cap, rfl, ?_, HB6.out, fun _ => ⟨S, rfl, fun e => hnew (Option.some.inj e), HS6.out⟩⟩
                  rw [HTK.out, ← List.append_assoc, List.flatMap_append, Int.add_comm xa]
                  exact HO6.out
                case measure => simp [intOf]; omega
            · obtain rfl : j = LR.length := by omega
              have HRF : Hid (OU ++ shM (65536 + ST) (LR.take LR.length) = outK l (i + 1)) := Lib.hid (by rw [HS1.out, List.take_length])
              have hlen : OU.length + LR.length = (outK l (i + 1)).length := by rw [HS1.out, List.length_append]; simp [shM]
              have HRZ := HRQ.out
              rw [HRF.out] at HRZ
              have HRY := Lib.hid HRZ
              clear HRZ
              rw [hlen] at HRY ⊢
              clear hlen
              go_wp2_with fail
              go_roundw
              case rel => exact ⟨i + 1, by omega, by go_num, HNX.out (by trivial), ao', co', rfl, HRY.out, HBQ.out⟩
              case measure => simp [intOf]; omega
        · obtain ⟨hw12, rfl⟩ := HBD.out hEV
          go_wp2_with (go_at_call 20; refine (LOK.out _ (below_al (HA1.out.trans (HBW.out.mono hbs)) _)).mono ?_; rintro e w1 ⟨ad2, c2, rfl, hl2, pA, rfl⟩)
          go_returns
          refine ⟨⟨none, 0, by unfold wlR; rw [hw12]; rfl, by unfold wlR; rw [hw12]; exact World.ownsRow_nil _ _ _ _⟩, more_of_below ?_⟩
          repeat (first | with_reducible exact HA1.out.trans (HBW.out.mono hbs) | with_reducible refine below_mo ?_ _ | with_reducible refine below_al ?_ _)
      · obtain rfl : i = l.length := by omega
        have hw := HGOOD.out HLZ.out
        have hwr : wlR l = outK l l.length := by unfold wlR; rw [hw]; rfl
        rw [hw, hwr]
        generalize outK l l.length = OU at *
        go_wp2_with fail
        go_returns
        exact ⟨⟨ao, co, rfl, owns_base HRW.out hbs⟩, more_of_below (HA1.out.trans (HBW.out.mono hbs))⟩
  · have hw : wlE l = worldE l := by unfold wlE; rw [if_pos hE]
    have hwr : wlR l = [] := by unfold wlR; rw [hw, if_pos hE]
    rw [hw, hwr]
    generalize worldE l = E at *
    have hb1 : (E != 0) = true := by simpa using hE
    have MP2 : Hid (∀ W, Below w.heap.size w W → Calls Try.prog 21 #[.slice a l.length c] W fun e w' => e = .returned (.tuple #[.slice none 0 0, .int .i64 0, .int .i64 E]) ∧ ∃ p : Regrown, w' = more W p) := Lib.hid (fun W hW => (MP.out W hW).mono (by
      rintro e w1 ⟨ad, m, c, rfl, h1, _, hp⟩
      obtain ⟨rfl, rfl, rfl⟩ := h1 hE
      rw [if_neg hE]
      exact ⟨rfl, hp⟩))
    clear MP
    go_enter Try.func28, Try.ntmps28
    go_wp2_with (go_at_call 21; refine (MP2.out _ (Below.refl _ _)).mono ?_; rintro e w1 ⟨rfl, p1, rfl⟩)
    go_returns
    exact ⟨⟨none, 0, rfl, World.ownsRow_nil _ _ _ _⟩, more_of_below (more_below _ _)⟩
end Go.Proofs.Ytlbkloamabomcaa
