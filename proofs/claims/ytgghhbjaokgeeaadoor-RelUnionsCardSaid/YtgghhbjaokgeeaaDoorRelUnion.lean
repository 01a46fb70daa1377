/- Walk: all of some relations. Conditions: they are few; numbers fit. -/
import Derived.Test.YtgghhbjaokgeeaaDoorRelPlus
namespace Go.Proofs.YtgghhbjaokgeeaaDoor
open Go.RowKit Go.Sort Go.Lib
set_option linter.unusedVariables false
set_option linter.unusedSimpArgs false
def mx (L : Nat → Nat) : Nat → Nat
  | 0 => 0
  | m + 1 => max (mx L m) (sz (L m))
theorem mx_le (L : Nat → Nat) : ∀ m, mx L m ≤ 64
  | 0 => by simp [mx]
  | m + 1 => by have := mx_le L m; have := sz_le (L m); unfold mx; omega
theorem mx_ge (L : Nat → Nat) : ∀ m j, j < m → sz (L j) ≤ mx L m
  | 0, j, h => by omega
  | m + 1, j, h => by
    unfold mx
    by_cases e : j = m
    · subst e; omega
    · have := mx_ge L m j (by omega); omega
def unF (F : Nat → Nat → Nat → Bool) : Nat → Nat → Nat → Bool
  | 0 => fun _ _ => false
  | m + 1 => fun i k => unF F m i k || F m i k
theorem un_step (N n : Nat) (u f : Nat → Bool) (hn : n ≤ N) (hf : ∀ k, n ≤ k → f k = false) : rowN N u ||| rowN n f = rowN N (fun k => u k || f k) := row_eq fun k => by
  rw [Nat.testBit_or, rowN_tb, rowN_tb]
  by_cases h : k < n
  · simp [h, show k < N by omega]
  · simp [h, hf k (by omega)]
/-- values lie so. -/
def ValsAt (w : World) (B m : Nat) (V : Nat → Value) : Prop := ∀ j, j < m → w.cell? ⟨B, j, none⟩ = some (V j)
set_option maxHeartbeats 1000000 in
theorem union_any (A : Option Addr) (B m c : Nat) (V : Nat → Value) (L : Nat → Nat) (R : Nat → Nat → Nat) (hm : m ≤ 3) (hc : m ≤ c) (hcm : c ≤ 9223372036854775807) (hA : 0 < m → A = some ⟨B, 0, none⟩) (w : World) (hV : ValsAt w B m V) (hS : ∀ j, j < m → Sl w (V j) (L j) (R j)) :
    Calls Tryd.prog 18 #[.slice A m c] w (GivesRows w (mx L m) (unF (fun j => onF (L j) (R j)) m)) := by
  have SZ := Lib.hid (fun j (hj : j < m) W (hb : Below w.heap.size w W) => size_any (V j) (L j) (R j) W ((hS j hj).below hb))
  have CL := Lib.hid (fun j (hj : j < m) W (hs : Sl W (V j) (L j) (R j)) => clean_any (V j) (L j) (R j) (sz (L j)) (Nat.le_refl _) (sz_le (L j)) W hs)
  have SZ2 := Lib.hid (fun j (hj : j < m) W (hs : Sl W (V j) (L j) (R j)) => size_any (V j) (L j) (R j) W hs)
  have h64 := mx_le L m
  have HG := Lib.hid (mx_ge L m)
  have HV := Lib.hid hV
  have HS := Lib.hid hS
  have HSZ := Lib.hid (fun j => sz_le (L j))
  have HON := Lib.hid (fun j i k h => @onF_out (L j) (R j) i k h)
  have HBl : Hid (∀ j, j < m → B < w.heap.size) := Lib.hid (fun j hj => cell_lt2 (hV j hj))
  clear hV hS
  generalize hF : (fun j => onF (L j) (R j)) = F at *
  have hFj : ∀ j, onF (L j) (R j) = F j := fun j => by rw [← hF]
  replace hFj := Lib.hid hFj
  clear hF
  go_enter Tryd.func18, Tryd.ntmps18
  go_wp2_with fail
  go_loopw [3, 13] (fun v3 v13 wr => ∃ j : Nat, j ≤ m ∧ v13 = .int .i64 j ∧ v3 = .int .i64 (mx L j) ∧ w = wr) (fun _ v13 _ => m - (intOf v13).toNat)
  case atStart => exact ⟨0, by omega, rfl, rfl, rfl⟩
  case round =>
    obtain ⟨j, hj, rfl, rfl, rfl⟩ := hrel
    by_cases hlt : (j : Int) < m
    · obtain rfl := hA (by omega)
      have cj := HV.out j (by omega)
      have hBs := HBl.out j (by omega)
      have S1 := Lib.hid (SZ.out j (by omega))
      obtain ⟨q2, hq2⟩ : ∃ q2, q2 = mx L (j + 1) := ⟨_, rfl⟩
      have hmx : mx L (j + 1) = max (mx L j) (sz (L j)) := rfl
      have HM : Hid ((mx L j < sz (L j) → sz (L j) = q2) ∧ (sz (L j) ≤ mx L j → mx L j = q2)) := Lib.hid (by omega)
      replace hq2 := Lib.hid hq2
      clear hmx
      generalize mx L j = q at *
      generalize sz (L j) = s at *
      by_cases hl : q < s
      · obtain rfl := HM.out.1 hl
        go_wp2_with (go_at_call 31; refine (S1.out _ (Below.refl _ _)).mono ?_; rintro e w1 ⟨rfl, rfl⟩)
        go_roundw
        case rel => exact ⟨j + 1, by omega, by go_num, by rw [hq2.out], trivial⟩
        case measure => simp [intOf]; omega
      · obtain rfl := HM.out.2 (by omega)
        go_wp2_with (go_at_call 31; refine (S1.out _ (Below.refl _ _)).mono ?_; rintro e w1 ⟨rfl, rfl⟩)
        go_roundw
        case rel => exact ⟨j + 1, by omega, by go_num, by rw [hq2.out], trivial⟩
        case measure => simp [intOf]; omega
    · obtain rfl : j = m := by omega
      clear SZ
      generalize mx L j = N at *
      obtain ⟨m, rfl⟩ : ∃ m : Nat, m = j := ⟨_, rfl⟩
      have HZ := Lib.hid (rows_zero (w := w) (n := N))
      go_wp2_with ((with_reducible refine wpList_rows rfl _ _ rfl N h64 rfl rfl ?_))
      have HB := Lib.hid (below_al (Below.refl _ w) (.cells (zrow N) 36))
      have hzA : w.heap.size < (w.alloc (.cells (zrow N) 36)).heap.size := by simp
      have HVA : Hid (∀ j, j < m → (w.alloc (.cells (zrow N) 36)).cell? ⟨B, j, none⟩ = some (V j)) := Lib.hid (fun j hj => cell_below (HV.out j hj) HB.out)
      have HSA : Hid (∀ j, j < m → Sl (w.alloc (.cells (zrow N) 36)) (V j) (L j) (R j)) := Lib.hid (fun j hj => (HS.out j hj).below HB.out)
      have HSO : Hid (∀ j, j < m → ∀ w', Onto w.heap.size (w.alloc (.cells (zrow N) 36)) w' → Sl w' (V j) (L j) (R j)) := Lib.hid (fun j hj w' ho => by
        obtain ⟨A', X, of', cp, e1, e2, e3, e4, e5, e6⟩ := HS.out j hj
        refine ⟨A', X, of', cp, e1, e2, e3, e4, fun i hi => ?_, e6⟩
        have := cell_lt2 (e5 i hi)
        rw [ho.cell (by simp; omega) (by omega)]
        exact cell_below (e5 i hi) HB.out)
      clear HV HS HSA
      generalize w.alloc (.cells (zrow N) 36) = wA at *
      go_loopw [26] (fun v26 wr => ∃ j : Nat, j ≤ m ∧ v26 = .int .i64 j ∧ Onto w.heap.size wA wr ∧ RowsU wr w.heap.size N (fun i => rowN N (unF F j i))) (fun v26 _ => m - (intOf v26).toNat)
      case atStart => exact ⟨0, by omega, rfl, Onto.refl, HZ.out.congr fun i _ => row_eq fun k => by simp [unF]⟩
      case round =>
        obtain ⟨j, hj, rfl, ho, hw⟩ := hrel
        have HO := Lib.hid ho
        have HW := Lib.hid hw
        have hsz := ho.size
        obtain ⟨w1, rfl⟩ : ∃ w1 : World, w1 = wr := ⟨_, rfl⟩
        by_cases hlt : (j : Int) < m
        · obtain rfl := hA (by omega)
          have hBs := HBl.out j (by omega)
          have cj : w1.cell? ⟨B, j, none⟩ = some (V j) := (ho.cell (by omega) (by omega)).trans (HVA.out j (by omega))
          have hBs1 : B < w1.heap.size := by omega
          have HSj := Lib.hid (HSO.out j (by omega) w1 ho)
          have S1 := Lib.hid (SZ2.out j (by omega) w1 HSj.out)
          have C1 := Lib.hid (CL.out j (by omega) w1 HSj.out)
          have hsN := HG.out j (by omega)
          have hs64 := HSZ.out j
          have HU := Lib.hid (fun i => un_step N (sz (L j)) (unF F j i) (F j i) hsN (fun k hk => by rw [← hFj.out]; exact HON.out j i k (.inr hk)))
          have HU2 : Hid (∀ i, sz (L j) ≤ i → rowN N (unF F j i) = rowN N (unF F (j + 1) i)) := Lib.hid (fun i hi => rowN_congr fun k _ => by
            show unF F j i k = (unF F j i k || F j i k)
            rw [show F j i k = false by rw [← hFj.out]; exact HON.out j i k (.inl hi)]
            simp)
          have HU3 : Hid (∀ i, rowN N (fun k => unF F j i k || F j i k) = rowN N (unF F (j + 1) i)) := Lib.hid (fun i => rfl)
          rw [hFj.out] at C1
          clear ho hw SZ2 CL
          obtain ⟨u2, hu2⟩ : ∃ u2, u2 = unF F (j + 1) := ⟨_, rfl⟩
          rw [← hu2] at HU2 HU3
          replace hu2 := Lib.hid hu2
          generalize unF F j = u at *
          generalize F j = f at *
          generalize sz (L j) = n at *
          generalize V j = vj at *
          go_wp2_with (first
            | (go_at_call 31; refine (S1.out).mono ?_; rintro e w9 ⟨rfl, rfl⟩)
            | (go_at_call 30; refine (C1.out).mono ?_; rintro e w9 ⟨g, rfl, ⟨p1, rfl⟩, hg1, hg2, hrow⟩))
          have HR := Lib.hid hrow
          have HO1 := Lib.hid (HO.out.more p1)
          have HW1 := Lib.hid (HW.out.more p1)
          clear hrow HO HW S1 C1
          generalize more w1 p1 = wB at *
          go_loopw [35] (fun v35 wr => ∃ i : Nat, i ≤ n ∧ v35 = .int .i64 i ∧ Onto w.heap.size wA wr ∧ Onto w.heap.size wB wr ∧ RowsU wr w.heap.size N (fun t => if t < i then rowN N (u2 t) else rowN N (u t))) (fun v35 _ => n - (intOf v35).toNat)
          case atStart => exact ⟨0, by omega, rfl, HO1.out, Onto.refl, HW1.out.congr fun t _ => by simp⟩
          case round =>
            obtain ⟨i, hi, rfl, ho2, ho3, hw2⟩ := hrel
            have HO2 := Lib.hid ho2
            have HO3 := Lib.hid ho3
            have HW2 := Lib.hid hw2
            have hsz2 : w.heap.size < wr.heap.size := Nat.lt_of_lt_of_le hzA ho2.size
            by_cases hlt2 : (i : Int) < n
            · have c1 := ((HR.out.onto ho3 (by omega)) i (by omega)).1
              have hgl := cell_lt2 c1
              obtain ⟨d1, d2⟩ := hw2 i (by omega)
              simp only [Nat.lt_irrefl, if_false] at d1
              have KO : bits .or .u64 ((rowN N (u i) : Nat) : Int) ((rowN n (f i) : Nat) : Int) = ((rowN N (u2 i) : Nat) : Int) := by
                rw [u64_or_nat _ _ (rowN_64 h64 _) (rowN_64 hs64 _), HU.out, HU3.out]
              clear ho2 ho3 hw2
              go_wp2_with (first | simp only [KO])
              go_roundw
              case rel => exact ⟨i + 1, by omega, by go_num, HO2.out.set i _, HO3.out.set i _, (HW2.out.set i (by omega) _).congr fun t _ => by
                by_cases e : t = i
                · subst e; simp
                · simp [e, show (t < i + 1) = (t < i) by simp; omega]⟩
              case measure => simp [intOf]; omega
            · obtain rfl : i = n := by omega
              clear ho2 ho3 hw2
              go_wp2_with fail
              go_roundw
              case rel => exact ⟨j + 1, by omega, by go_num, HO2.out, HW2.out.congr fun t ht => by
                rw [← hu2.out]
                by_cases e : t < i
                · simp [e]
                · simp [e, HU2.out t (by omega)]⟩
              case measure => simp [intOf]; omega
        · obtain rfl : j = m := by omega
          clear ho hw
          go_wp2_with fail
          go_ret
          exact ⟨w.heap.size, rfl, more_of_below (HO.out.under HB.out (Nat.le_refl _)), Nat.le_refl _, by omega, HW.out⟩
end Go.Proofs.YtgghhbjaokgeeaaDoor
