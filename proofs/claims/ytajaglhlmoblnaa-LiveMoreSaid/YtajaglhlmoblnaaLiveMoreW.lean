/- Walk: the statement on what intervals are like. Condition: numbers fit. -/
import Derived.Test.YtajaglhlmoblnaaLiveRoom
import Derived.Test.YtajaglhlmoblnaaLiveAwake
namespace Go.Proofs.Ytajaglhlmoblnaa
open Go.RowKit Go.Sort Go.Lib
set_option linter.unusedVariables false
set_option linter.unusedSimpArgs false
def OpS (W : World) (X p : Nat) (o : LOp) : Prop := OAt W X p o
set_option maxRecDepth 100000 in
set_option maxHeartbeats 8000000 in
theorem liveMore_go (A : Option Addr) (X off N0 cap : Nat) (ops : Nat → LOp) (R0 : Int) (hA : 0 < N0 → A = some ⟨X, off, none⟩) (hcap0 : N0 ≤ cap) (hcm : cap ≤ 9223372036854775807) (hRr0 : -9223372036854775808 ≤ R0) (hRr1 : R0 ≤ 9223372036854775807) (hops : ∀ k, (ops k).ok) (w : World) (hO : ∀ k, k < N0 → OAt w X (off + k * 13) (ops k)) :
    Calls Try.prog 5 #[.slice A N0 cap, .int .i64 R0] w (Gives w (.bool true)) := by
  have AW := Lib.hid (fun W => awake_any W)
  have US := Lib.hid (fun o W => uses_room o W)
  have SE := Lib.hid (fun o W => sets_any o W)
  obtain ⟨N, hN⟩ : ∃ N : Nat, N = min N0 60 := ⟨_, rfl⟩
  obtain ⟨R, hR⟩ : ∃ R : Int, R = min R0 300 := ⟨_, rfl⟩
  have hA' : 0 < N → A = some ⟨X, off, none⟩ := fun h => hA (by omega)
  have HO := Lib.hid (fun k (hk : k < N) => hO k (by omega))
  have IN := Lib.hid (fun W hO => intervals_any A X off N cap ops R hA' (by omega) (by omega) hcm (by omega) (by omega) (fun k _ => hops k) W hO)
  have hN60 : N ≤ 60 := by omega
  have hNc : N ≤ cap := by omega
  have hR300 : R ≤ 300 := by omega
  have hR1 : -9223372036854775808 ≤ R := by omega
  replace hN := Lib.hid hN
  replace hR := Lib.hid hR
  clear hO hops
  go_enter Try.func5, Try.ntmps5
  go_upto_if 16 with fail
  go_cut [0] from 14 to 18 (fun t0 W => t0 = .slice A N cap ∧ W = w)
  case first =>
    by_cases h : 60 < N0
    · obtain rfl : N = 60 := by have := hN.out; omega
      obtain rfl := hA (by omega)
      go_wp2_with fail
      go_meet
      exact ⟨rfl, rfl⟩
    · obtain rfl : N = N0 := by have := hN.out; omega
      go_wp2_with fail
      go_meet
      exact ⟨rfl, rfl⟩
  case rest =>
  obtain ⟨rfl, hwc⟩ := hcut
  subst hwc
  go_upto_if 20 with fail
  go_cut [1] from 19 to 20 (fun t1 W => t1 = .int .i64 R ∧ W = wc)
  case first =>
    by_cases h : 300 < R0
    · obtain rfl : R = 300 := by have := hR.out; omega
      go_wp2_with fail
      go_meet
      exact ⟨rfl, rfl⟩
    · obtain rfl : R = R0 := by have := hR.out; omega
      go_wp2_with fail
      go_meet
      exact ⟨rfl, rfl⟩
  case rest =>
  obtain ⟨rfl, hwc⟩ := hcut
  subst hwc
  clear hN hR hA hcap0 hRr0 hRr1
  go_upto_region 6 with (go_at_call 12; refine (IN.out _ HO.out).mono ?_; rintro e w1 ⟨A5, g5, c5, rr, rfl, ⟨p1, rfl⟩, hst, h5, hg5, hc5, hcm5, hrow⟩)
  have HK := Lib.hid (rowOk hR300 hst)
  have HOA := Lib.hid (fun k hk => (HO.out k hk).below (more_below wc p1))
  have HBA := Lib.hid (more_below wc p1)
  have HRR := Lib.hid hrow
  have hXw : 0 < N → X < wc.heap.size := fun h => cell_lt2 (HO.out 0 h).1
  have hzA : wc.heap.size ≤ (more wc p1).heap.size := (more_below wc p1).size
  generalize more wc p1 = wA at *
  clear hst hrow HO IN
  have hrl := HK.out.len
  go_wp2_with fail
  go_loopw [6, 7] (fun v6 v7 wr => ∃ (q : Nat) (la : Int), q ≤ rr.length ∧ v7 = .int .i64 q ∧ v6 = .int .i64 la ∧ Below wA.heap.size wA wr ∧ (∀ x, rr[q]? = some x → la < x.1)) (fun _ v7 _ => rr.length - (intOf v7).toNat)
  case atStart => exact ⟨0, -1, by omega, rfl, rfl, Below.refl _ _, fun x hx => by have := HK.out.rng 0 x hx; omega⟩
  case round =>
    obtain ⟨q, la, hq, rfl, rfl, hb, hla⟩ := hrel
    have HB := Lib.hid hb
    have hzr := hb.size
    clear hb
    by_cases hqR : (q : Int) < rr.length
    · obtain ⟨x, hx⟩ : ∃ x, rr[q]? = some x := ⟨_, List.getElem?_eq_getElem (by omega)⟩
      obtain ⟨rfl, _⟩ := h5 (by omega)
      obtain ⟨a0, a1, a2, _⟩ := (HRR.out.below HB.out) q x hx
      have s1 := cell_lt2 a0
      have hl := hla x hx
      obtain ⟨g1, g2, g3, g4, g5'⟩ := HK.out.rng q x hx
      have HU := Lib.hid (fun y hy => HK.out.up q x y hx hy)
      clear hla hx
      obtain ⟨xa, xb, xc⟩ := x
      simp only at a0 a1 a2 hl g1 g2 g3 g4 g5' HU
      go_wp2_with fail
      go_roundw
      case rel => exact ⟨q + 1, xa, by omega, by go_num, rfl, below_al HB.out _, HU.out⟩
      case measure => simp [intOf]; omega
    · clear hla
      go_wp2_with fail
      go_loopw [9] (fun v9 wr => ∃ i : Nat, i ≤ N ∧ v9 = .int .i64 i ∧ Below wA.heap.size wA wr) (fun v9 _ => N - (intOf v9).toNat)
      case atStart => exact ⟨0, by omega, rfl, HB.out⟩
      case round =>
        obtain ⟨i, hi, rfl, hb2⟩ := hrel
        have HB2 := Lib.hid hb2
        have hz2 := hb2.size
        clear hb2
        by_cases hiN : (i : Int) < N
        · obtain rfl := hA' (by omega)
          obtain ⟨wi, rfl⟩ : ∃ wi : World, wi = wr := ⟨_, rfl⟩
          have hO := (HOA.out i (by omega)).below HB2.out
          unfold OAt at hO
          have HHas := Lib.hid (fun r (h1 : r ∈ regsL (ops i)) h2 => HK.out.has i r (by omega) h1 h2)
          obtain ⟨l1, hl1⟩ : ∃ l1, l1 = usesL (ops i) := ⟨_, rfl⟩
          obtain ⟨l2, hl2⟩ : ∃ l2, l2 = setsL (ops i) := ⟨_, rfl⟩
          have n1 : l1.length ≤ 3 := by rw [hl1]; exact kept_len _ _
          have n2 : l2.length ≤ 2 := by rw [hl2]; exact kept_len _ _
          have e12 : regsL (ops i) = l1 ++ l2 := by rw [hl1, hl2]; rfl
          have US1 := Lib.hid (fun W => US.out (ops i) W)
          have SE1 := Lib.hid (fun W => SE.out (ops i) W)
          rw [e12] at HHas
          rw [← hl1] at US1
          rw [← hl2] at SE1
          clear hl1 hl2 e12
          generalize ops i = o at *
          obtain ⟨k, d, d2, a, b, c, n, op, sz, od, tgt, st, ln⟩ := o
          simp only at hO
          unfold lopV LOp.cs at US1 SE1
          simp only at US1 SE1
          obtain ⟨c0, c1, c2, c3, c4, c5', c6, c7, c8, c9, c10, c11, c12⟩ := hO
          have hX2 := cell_lt2 c0
          obtain ⟨w0, rfl⟩ : ∃ w0 : World, w0 = wc := ⟨_, rfl⟩
          go_wp2_with fail
          go_cut [10] from 65 to 75 (fun t10 W => ∃ g cp, t10 = .slice (some ⟨g, 0, none⟩) (l1 ++ l2).length cp ∧ NumsAt W g (l1 ++ l2) ∧ Below wi.heap.size wi W)
          case first =>
            go_region_held3 (fun W => W.cell? ⟨X, off + i * 13, none⟩ = some (.int .i64 k) ∧ W.cell? ⟨X, off + i * 13 + 1, none⟩ = some (.int .i64 d) ∧ W.cell? ⟨X, off + i * 13 + 2, none⟩ = some (.int .i64 d2) ∧ W.cell? ⟨X, off + i * 13 + 3, none⟩ = some (.int .i64 a) ∧ W.cell? ⟨X, off + i * 13 + 4, none⟩ = some (.int .i64 b) ∧ W.cell? ⟨X, off + i * 13 + 5, none⟩ = some (.int .i64 c) ∧ W.cell? ⟨X, off + i * 13 + 6, none⟩ = some (.int .u64 n) ∧ W.cell? ⟨X, off + i * 13 + 7, none⟩ = some (.int .i64 op) ∧ W.cell? ⟨X, off + i * 13 + 8, none⟩ = some (.int .i64 sz) ∧ W.cell? ⟨X, off + i * 13 + 9, none⟩ = some (.int .i64 od) ∧ W.cell? ⟨X, off + i * 13 + 10, none⟩ = some (.int .i64 tgt) ∧ W.cell? ⟨X, off + i * 13 + 11, none⟩ = some (.int .i64 st) ∧ W.cell? ⟨X, off + i * 13 + 12, none⟩ = some (.int .i64 ln)) (first | assumption | (simp [go_sem, ↓IntWalk.iteOmega, *]; done)) (first
              | (go_at_call 9; refine (US1.out _).mono ?_; rintro e w9 ⟨b2, rfl, ⟨p2, rfl⟩, n2', hq2, _, r2⟩; replace n2' := Lib.hid n2'; replace r2 := Lib.hid r2)
              | (go_at_call 11; refine (SE1.out _).mono ?_; rintro e w9 ⟨b4, rfl, ⟨p4, rfl⟩, n4', hq4, _⟩; replace n4' := Lib.hid n4')
              | (refine step_append_two rfl (.tmp 69) (.tmp 74) rfl b2 b4 l1 l2 n1 n2 (by simp [Act.eval, Act.put]) (by simp [Act.eval, Act.put]) (by first | with_reducible exact n2'.out | exact NumsAt.below n2'.out (more_below _ _)) (by first | with_reducible exact n4'.out | exact NumsAt.below n4'.out (more_below _ _)) (by first | with_reducible exact r2.out | exact r2.out.more _) (fun W => OAt W X (off + i * 13) ⟨k, d, d2, a, b, c, n, op, sz, od, tgt, st, ln⟩) (fun w' ho => OAt.onto (by assumption) ho (by have e1 : wi.drew.heap.size = wi.heap.size := rfl; (try simp only [more_size] at hq2); omega)) ?_; intro g cp w3 n6 ho6 hS3))
            all_goals
              go_wp2_with fail
              go_meet
              exact ⟨g, cp, by simp, n6, ho6.under (below_mo (below_mo (below_dr (Below.refl _ _)) _) _) (by have e1 : wi.drew.heap.size = wi.heap.size := rfl; (try simp only [more_size] at hq2); omega)⟩
          case rest =>
          obtain ⟨g, cp, rfl, hn, hb3⟩ := hcut
          have hll : (l1 ++ l2).length ≤ 5 := by rw [List.length_append]; omega
          have hz3 := hb3.size
          have HN3 := Lib.hid hn
          have HB3 := Lib.hid (below_next HB2.out hb3)
          clear hn hb3 c0 c1 c2 c3 c4 c5' c6 c7 c8 c9 c10 c11 c12 US1 SE1 n1 n2
          generalize l1 ++ l2 = L at *
          obtain ⟨w3, rfl⟩ : ∃ w3 : World, w3 = wc := ⟨_, rfl⟩
          go_wp2_with fail
          go_loopw [11] (fun v11 wr => ∃ j : Nat, j ≤ L.length ∧ v11 = .int .i64 j ∧ Below w3.heap.size w3 wr) (fun v11 _ => L.length - (intOf v11).toNat)
          case atStart => exact ⟨0, by omega, rfl, Below.refl _ _⟩
          case round =>
            obtain ⟨j, hj, rfl, hb4⟩ := hrel
            have HB4 := Lib.hid hb4
            have hz4 := hb4.size
            have HN4 := Lib.hid (HN3.out.below hb4)
            clear hb4
            obtain ⟨w4, rfl⟩ : ∃ w4 : World, w4 = wr := ⟨_, rfl⟩
            by_cases hjl : (j : Int) < L.length
            · obtain ⟨x, hx⟩ : ∃ x, L[j]? = some x := ⟨_, List.getElem?_eq_getElem (by omega)⟩
              have cx := HN4.out j x hx
              have hgl := cell_lt2 cx
              obtain ⟨kk, hkk⟩ : ∃ kk : Nat, ¬ R ≤ x → ∃ y : Tri, rr[kk]? = some y ∧ y.1 = x ∧ y.2.1 ≤ i ∧ (i : Int) ≤ y.2.2 := by
                by_cases h : R ≤ x
                · exact ⟨0, fun h2 => absurd h h2⟩
                · obtain ⟨kk, y, h1⟩ := HHas.out x (List.mem_of_getElem? hx) (by omega)
                  exact ⟨kk, fun _ => ⟨y, h1⟩⟩
              have HKK := Lib.hid hkk
              have HR4 := Lib.hid (HRR.out.below (below_next HB3.out HB4.out))
              clear hkk hx
              go_upto_region 21 with fail
              go_cut [12] from 82 to 87 (fun t12 W => t12 = .bool (decide (R ≤ x)) ∧ W = w4)
              case first =>
                by_cases h : R ≤ x
                · go_wp2_with fail
                  go_meet
                  exact ⟨by simp [h], rfl⟩
                · go_wp2_with fail
                  go_meet
                  exact ⟨by simp; omega, rfl⟩
              case rest =>
              obtain ⟨rfl, hwc⟩ := hcut
              subst hwc
              obtain ⟨w5, rfl⟩ : ∃ w5 : World, w5 = wc := ⟨_, rfl⟩
              go_wp2_with fail
              go_loopw [12, 13] (fun v12 v13 w6 => ∃ (b : Bool) (k : Nat), k ≤ rr.length ∧ v13 = .int .i64 k ∧ v12 = .bool b ∧ Below w5.heap.size w5 w6 ∧ (R ≤ x ∨ kk < k → b = true)) (fun _ v13 _ => rr.length - (intOf v13).toNat)
              case atStart => exact ⟨_, 0, by omega, rfl, rfl, Below.refl _ _, fun h => by simp; omega⟩
              case round =>
                obtain ⟨b, k, hk, rfl, rfl, hb6, hbt⟩ := hrel
                have HB6 := Lib.hid hb6
                have HBT := Lib.hid hbt
                have cx6 := cell_below cx hb6
                have hz6 := hb6.size
                by_cases hkl : (k : Int) < rr.length
                · obtain ⟨y, hy⟩ : ∃ y, rr[k]? = some y := ⟨_, List.getElem?_eq_getElem (by omega)⟩
                  obtain ⟨rfl, _⟩ := h5 (by omega)
                  obtain ⟨a0, a1, a2, _⟩ := (HR4.out.below hb6) k y hy
                  have s1 := cell_lt2 a0
                  have HKY : Hid (k = kk → R ≤ x ∨ (y.1 = x ∧ y.2.1 ≤ i ∧ (i : Int) ≤ y.2.2)) := Lib.hid (fun e => by
                    subst e
                    by_cases h : R ≤ x
                    · exact .inl h
                    · obtain ⟨y', h1, h2⟩ := HKK.out (by omega)
                      rw [hy] at h1
                      cases h1
                      exact .inr h2)
                  clear hb6 hbt hy cx
                  obtain ⟨ya, yf, yt⟩ := y
                  simp only at a0 a1 a2 HKY
                  cases b with
                  | true =>
                    go_upto_region 25 with fail
                    refine wp_quiet_more (by kernel_rfl) (by kernel_rfl) ?_
                    repeat (go_big_quiet_step (fail))
                    refine wpQuiet_nil ?_
                    intro p
                    go_wp2_with fail
                    go_roundw
                    case rel => exact ⟨true, k + 1, by omega, by go_num, rfl, below_mo HB6.out p, fun _ => rfl⟩
                    case measure => simp [intOf]; omega
                  | false =>
                    have hno : ¬ (R ≤ x ∨ kk < k) := fun h => by have := HBT.out h; simp at this
                    by_cases hA1 : ya = x
                    · by_cases hF : yf ≤ i
                      · by_cases hT : (i : Int) ≤ yt
                        · rw [hA1] at a0
                          have d1 : decide (yf ≤ (i : Int)) = true := decide_eq_true hF
                          have d2 : decide ((i : Int) ≤ yt) = true := decide_eq_true hT
                          clear HKY
                          go_upto_region 25 with fail
                          refine wp_quiet_more (by kernel_rfl) (by kernel_rfl) ?_
                          repeat (go_big_quiet_step (fail))
                          refine wpQuiet_nil ?_
                          intro p
                          go_wp2_with fail
                          go_roundw
                          case rel => exact ⟨true, k + 1, by omega, by go_num, rfl, below_mo HB6.out p, fun _ => rfl⟩
                          case measure => simp [intOf]; omega
                        · have hne : k ≠ kk := fun e => by have := HKY.out e; omega
                          rw [hA1] at a0
                          have d1 : decide (yf ≤ (i : Int)) = true := decide_eq_true hF
                          have d2 : decide ((i : Int) ≤ yt) = false := decide_eq_false hT
                          clear HKY
                          go_upto_region 25 with fail
                          refine wp_quiet_more (by kernel_rfl) (by kernel_rfl) ?_
                          repeat (go_big_quiet_step (fail))
                          refine wpQuiet_nil ?_
                          intro p
                          go_wp2_with fail
                          go_roundw
                          case rel => exact ⟨false, k + 1, by omega, by go_num, rfl, below_mo HB6.out p, fun h => by omega⟩
                          case measure => simp [intOf]; omega
                      · have hne : k ≠ kk := fun e => by have := HKY.out e; omega
                        rw [hA1] at a0
                        have d1 : decide (yf ≤ (i : Int)) = false := decide_eq_false hF
                        clear HKY
                        go_upto_region 25 with fail
                        refine wp_quiet_more (by kernel_rfl) (by kernel_rfl) ?_
                        repeat (go_big_quiet_step (fail))
                        refine wpQuiet_nil ?_
                        intro p
                        go_wp2_with fail
                        go_roundw
                        case rel => exact ⟨false, k + 1, by omega, by go_num, rfl, below_mo HB6.out p, fun h => by omega⟩
                        case measure => simp [intOf]; omega
                    · have hne : k ≠ kk := fun e => by have := HKY.out e; omega
                      have b1 : (ya == x) = false := by simpa using hA1
                      clear HKY
                      go_upto_region 25 with fail
                      refine wp_quiet_more (by kernel_rfl) (by kernel_rfl) ?_
                      repeat (go_big_quiet_step (fail))
                      refine wpQuiet_nil ?_
                      intro p
                      go_wp2_with fail
                      go_roundw
                      case rel => exact ⟨false, k + 1, by omega, by go_num, rfl, below_mo HB6.out p, fun h => by omega⟩
                      case measure => simp [intOf]; omega
                · obtain rfl : b = true := hbt (by
                    by_cases h : R ≤ x
                    · exact .inl h
                    · obtain ⟨y', h1, _⟩ := HKK.out (by omega)
                      have := (List.getElem?_eq_some_iff.1 h1).1
                      exact .inr (by omega))
                  clear hb6 hbt cx
                  go_wp2_with fail
                  go_roundw
                  case rel => exact ⟨j + 1, by omega, by go_num, below_next HB4.out HB6.out⟩
                  case measure => simp [intOf]; omega
            · go_wp2_with fail
              go_roundw
              case rel => exact ⟨i + 1, by omega, by go_num, below_next HB3.out HB4.out⟩
              case measure => simp [intOf]; omega
        · go_wp2_with (go_at_call 7; refine (AW.out _).mono ?_; rintro e w1 ⟨rfl, p2, rfl⟩)
          go_ret
          exact Gives.mk rfl (below_mo (below_next HBA.out HB2.out) _)
end Go.Proofs.Ytajaglhlmoblnaa
