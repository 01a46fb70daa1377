/- Walk: whether a relation of the document's is just some rows. Conditions: numbers fit. -/
import Derived.Test.YtgghhbjaokgeeaaDoorRelOf
import Derived.Test.YtgghhbjaokgeeaaDoorRelLine
namespace Go.Proofs.YtgghhbjaokgeeaaDoor
open Go.RowKit Go.Sort Go.Lib
set_option linter.unusedVariables false
set_option linter.unusedSimpArgs false
set_option maxHeartbeats 2000000 in
theorem is_any (b n : Nat) (f : Nat → Nat → Bool) (v : Value) (len : Nat) (r : Nat → Nat) (hn : n ≤ 64) (w : World) (hG : GridAt w b n f) (h : Sl w v len r) :
    Calls Tryd.prog 15 #[.pointer (some ⟨b, 0, none⟩), v] w (GivesB w (IsP n f len r)) := by
  obtain ⟨A, X, off, cap, rfl, hA, hc, hm, hcell, hr⟩ := h
  have HC := Lib.hid hcell
  have HG := Lib.hid hG
  have hn_ := hG.n_
  have hlt0 := hG.lt
  have HK1 := Lib.hid (fun i k hk h => is_key k hk (f i) h)
  have HK0 := Lib.hid (fun i k h => is_not k (f i) h)
  clear hcell hG
  by_cases hl : len = n
  · subst hl
    clear hr
    go_enter Tryd.func15, Tryd.ntmps15
    go_wp2_with fail
    go_loopw [5] (fun v5 wr => ∃ i : Nat, i ≤ len ∧ v5 = .int .i64 i ∧ w = wr ∧ ∀ j, j < i → r j = rowN len (f j)) (fun v5 _ => len - (intOf v5).toNat)
    case atStart => exact ⟨0, by omega, rfl, rfl, fun j hj => by omega⟩
    case round =>
      obtain ⟨i, hi, rfl, rfl, hq⟩ := hrel
      have HQ := Lib.hid hq
      clear hq
      by_cases hlt : (i : Int) < len
      · go_wp2_with fail
        go_loopw [6, 7] (fun v6 v7 wr => ∃ k : Nat, k ≤ len ∧ v7 = .int .i64 k ∧ v6 = .int .u64 (rowN k (f i) : Nat) ∧ w = wr) (fun _ v7 _ => len - (intOf v7).toNat)
        case atStart => exact ⟨0, by omega, rfl, rfl, rfl⟩
        case round =>
          obtain ⟨k, hk, rfl, rfl, rfl⟩ := hrel
          by_cases hltk : (k : Int) < len
          · have d1 := HG.out.on_ i k (by omega) (by omega)
            have hk64 : k < 64 := by omega
            have hi64 : i < 64 := by omega
            cases hb : f i k with
            | true =>
              rw [hb] at d1
              have key := HK1.out i k hk64 hb
              clear hb
              go_wp2_with (first | simp only [key])
              go_roundw
              case rel => exact ⟨k + 1, by omega, by go_num, rfl, trivial⟩
              case measure => simp [intOf]; omega
            | false =>
              rw [hb] at d1
              have HE := Lib.hid (HK0.out i k hb)
              clear hb
              go_wp2_with fail
              go_roundw
              case rel => exact ⟨k + 1, by omega, by go_num, by rw [HE.out], trivial⟩
              case measure => simp [intOf]; omega
          · obtain rfl : k = len := by omega
            obtain rfl := hA (by omega)
            have c1 := HC.out i (by omega)
            have hX := cell_lt2 c1
            by_cases he : r i = rowN k (f i)
            · rw [he] at c1
              have HS : Hid (∀ j, j < i + 1 → r j = rowN k (f j)) := Lib.hid (fun j hj => by
                by_cases e : j = i
                · rw [e]; exact he
                · exact HQ.out j (by omega))
              clear he
              go_wp2_with fail
              go_roundw
              case rel => exact ⟨i + 1, by omega, by go_num, trivial, HS.out⟩
              case measure => simp [intOf]; omega
            · have HN : Hid (¬ IsP k f k r) := Lib.hid (fun h => he (h.2 i (by omega)))
              have b1 : (((r i : Nat) : Int) != ((rowN k (f i) : Nat) : Int)) = true := by simp; omega
              clear he
              go_wp2_with fail
              go_ret
              exact GivesB.no HN.out (Below.refl _ _)
      · obtain rfl : i = len := by omega
        have HY : Hid (IsP i f i r) := Lib.hid ⟨rfl, HQ.out⟩
        go_wp2_with fail
        go_ret
        exact GivesB.yes HY.out (Below.refl _ _)
  · have HN : Hid (¬ IsP n f len r) := Lib.hid (fun h => hl h.1)
    have b1 : ((len : Int) != (n : Int)) = true := by simp; omega
    clear hl
    go_enter Tryd.func15, Tryd.ntmps15
    go_wp2_with fail
    go_ret
    exact GivesB.no HN.out (Below.refl _ _)
end Go.Proofs.YtgghhbjaokgeeaaDoor
