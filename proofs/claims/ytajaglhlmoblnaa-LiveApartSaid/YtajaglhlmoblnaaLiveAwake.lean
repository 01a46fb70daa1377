/- Walk: the fixed fact of the statements on where registers are needed. No condition. -/
import Derived.Test.YtajaglhlmoblnaaLiveInt
import Derived.Test.YtajaglhlmoblnaaLiveInts
import Derived.Deep.RegionHeld3
namespace Go.Proofs.Ytajaglhlmoblnaa
open Go.RowKit Go.Sort Go.Lib
set_option linter.unusedVariables false
set_option linter.unusedSimpArgs false
def awO (k : Nat) : LOp := if k = 0 then ⟨1, 0, -1, -1, -1, -1, 0, 0, 0, 0, 0, 0, 0⟩ else if k = 1 then ⟨14, -1, -1, -1, -1, -1, 0, 0, 0, 0, 1, 0, 0⟩ else if k = 2 then ⟨3, 1, -1, 0, 0, -1, 0, 0, 0, 0, 0, 0, 0⟩ else ⟨15, -1, -1, -1, -1, -1, 0, 0, 0, 0, 1, 0, 0⟩
theorem awO_ok (k : Nat) : (awO k).ok := by
  unfold awO LOp.ok wfI
  split
  · decide
  · split
    · decide
    · split <;> decide
theorem aw_stops : Stops (lpN awO 4) (outN (ivsN 2 awO 4) (2 : Int).toNat) [(0, 0, 3), (1, 2, 2)] := by
  refine .go (by decide +kernel) ?_
  have e : pass (lpN awO 4) (outN (ivsN 2 awO 4) (2 : Int).toNat) = [(0, 0, 3), (1, 2, 2)] := by decide +kernel
  rw [e]
  exact .stop (by decide +kernel)
theorem eql_iv (a b c d e f : Int) (w : World) : (binOp .eql 35 (.agg #[.int .i64 a, .int .i64 b, .int .i64 c]) (.agg #[.int .i64 d, .int .i64 e, .int .i64 f])).run Try.prog w = .ok (.bool (a == d && (b == e && c == f))) w := by
  have h1 : Try.prog.stoodInHeld 35 = false := by kernel_rfl
  by_cases h : a = d <;> by_cases k : b = e <;> by_cases j : c = f <;> simp [go_sem, h1, h, k, j]
theorem aw_uses : usesL (awO 2) = [0, 0] := by decide +kernel
theorem aw_sets : setsL (awO 2) = [1] := by decide +kernel
set_option maxHeartbeats 1000000 in
theorem aw_int (X : Nat) (w : World) (hO : ∀ k, k < 4 → OAt w X (k * 13) (awO k)) :
    Calls Try.prog 12 #[.slice (some ⟨X, 0, none⟩) 4 4, .int .i64 2] w fun e w' => ∃ (p : Regrown) (g c' : Nat), e = .returned (.slice (some ⟨g, 0, none⟩) 2 c') ∧ w' = more w p ∧ g < w.heap.size + p.os.size ∧ w.heap.size ≤ g ∧ 2 ≤ c' ∧ c' ≤ 9223372036854775807
      ∧ w'.cell? ⟨g, 0, none⟩ = some (.int .i64 0) ∧ w'.cell? ⟨g, 1, none⟩ = some (.int .i64 0) ∧ w'.cell? ⟨g, 2, none⟩ = some (.int .i64 3) ∧ w'.cell? ⟨g, 3, none⟩ = some (.int .i64 1) ∧ w'.cell? ⟨g, 4, none⟩ = some (.int .i64 2) ∧ w'.cell? ⟨g, 5, none⟩ = some (.int .i64 2) := by
  refine (intervals_any (some ⟨X, 0, none⟩) X 0 4 4 awO 2 (fun _ => rfl) (by omega) (by omega) (by omega) (by omega) (by omega) (fun k _ => awO_ok k) w (fun k hk => by rw [Nat.zero_add]; exact hO k hk)).mono ?_
  rintro e w' ⟨A', g, c', r, rfl, ⟨p, rfl⟩, hs, hg, hlo, hc, hcm, hr⟩
  have e := aw_stops.unique hs
  subst e
  obtain ⟨rfl, hlt⟩ := hg (by simp)
  obtain ⟨c0, c1, c2, _⟩ := hr 0 (0, 0, 3) rfl
  obtain ⟨d0, d1, d2, _⟩ := hr 1 (1, 2, 2) rfl
  exact ⟨p, g, c', rfl, rfl, by simpa [go_sem] using hlt, hlo, hc, hcm, c0, c1, c2, d0, d1, d2⟩
set_option maxHeartbeats 4000000 in
theorem awake_any (w : World) : Calls Try.prog 7 #[] w (Gives w (.bool true)) := by
  have IN := Lib.hid (fun X W hc => aw_int X W hc)
  have US := Lib.hid (fun W => uses_any (awO 2) W)
  have SE := Lib.hid (fun W => sets_any (awO 2) W)
  rw [aw_uses] at US
  rw [aw_sets] at SE
  have SA := Lib.hid (fun A1 A2 b1 b2 l c1 c2 hl W h1 h2 => ints_same A1 A2 b1 b2 l c1 c2 hl W h1 h2)
  have I2 := Lib.hid (fun b1 b2 (x y : Int) c1 c2 W h1 h2 => SA.out (some ⟨b1, 0, none⟩) (some ⟨b2, 0, none⟩) b1 b2 [x, y] c1 c2 (by simp) W (fun _ => ⟨rfl, h1⟩) (fun _ => ⟨rfl, h2⟩))
  have I1 := Lib.hid (fun b1 b2 (x : Int) c1 c2 W h1 h2 => SA.out (some ⟨b1, 0, none⟩) (some ⟨b2, 0, none⟩) b1 b2 [x] c1 c2 (by simp) W (fun _ => ⟨rfl, h1⟩) (fun _ => ⟨rfl, h2⟩))
  clear SA
  have eq1 := eql_iv
  go_enter Try.func7, Try.ntmps7
  go_wp2_with (go_at_call 12; refine (IN.out w.heap.size _ ?_).mono ?_)
  · intro k hk
    rcases (show k = 0 ∨ k = 1 ∨ k = 2 ∨ k = 3 by omega) with rfl | rfl | rfl | rfl
    all_goals (unfold OAt awO; simp [go_sem])
  · rintro e w1 ⟨p, g, c', rfl, rfl, hlt, hlo, hc, hcm, c0, c1, c2, d0, d1, d2⟩
    go_wp2_with (go_at_call 9; refine (US.out _).mono ?_)
    rintro e w2 ⟨b2, rfl, ⟨p2, rfl⟩, n2, hb2, hlt2⟩
    have N2 := Lib.hid n2
    clear n2
    go_wp2_with (go_at_call 8; refine (I2.out b2 _ 0 0 _ _ _ ?_ ?_).mono ?_)
    · exact N2.out.below (below_al (Below.refl _ _) _)
    · intro t x ht
      rcases t with _ | _ | t
      · simp at ht; subst ht; simp [go_sem]
      · simp at ht; subst ht; simp [go_sem]
      · simp at ht
    · rintro e w3 ⟨rfl, p3, rfl⟩
      clear N2
      go_wp2_with (go_at_call 11; refine (SE.out _).mono ?_)
      rintro e w4 ⟨b4, rfl, ⟨p4, rfl⟩, n4, hb4, hlt4⟩
      have N4 := Lib.hid n4
      clear n4
      go_wp2_with (go_at_call 8; refine (I1.out b4 _ 1 _ _ _ ?_ ?_).mono ?_)
      · exact N4.out.below (below_al (Below.refl _ _) _)
      · intro t x ht
        rcases t with _ | t
        · simp at ht; subst ht; simp [go_sem]
        · simp at ht
      · rintro e w5 ⟨rfl, p5, rfl⟩
        clear N4
        go_wp2_with fail
        go_ret
        exact Gives.mk rfl (by repeat (first | with_reducible exact Below.refl _ _ | with_reducible refine below_mo ?_ _ | with_reducible refine below_al ?_ _))
end Go.Proofs.Ytajaglhlmoblnaa
