/- Walks: those of some registers that are any (slices.IndexFunc, slices.DeleteFunc over whether a number is below 0). Conditions: numbers fit. -/
import Derived.Test.YtajaglhlmoblnaaOnto
import Derived.Test.YtajaglhlmoblnaaProg
import Derived.Handy
import Derived.Lib.SliceRun
namespace Go.Proofs.Ytajaglhlmoblnaa
open Go.RowKit Go.Sort Go.Lib
set_option linter.unusedVariables false
set_option linter.unusedSimpArgs false
theorem neg_any (x : Int) (w : World) : Calls Try.prog 18 #[.int .i64 x] w fun e w' => e = .returned (.bool (decide (x < 0))) ∧ w = w' := by
  go_enter Try.func18, Try.ntmps18
  go_wp2
  go_ret
  exact ⟨rfl, rfl⟩
/-- the first that is below 0. -/
def Fst (L : Nat → Int) (n : Nat) (r : Int) : Prop := (r = -1 ∧ ∀ j, j < n → 0 ≤ L j) ∨ ∃ k : Nat, k < n ∧ r = k ∧ L k < 0 ∧ ∀ j, j < k → 0 ≤ L j
set_option maxHeartbeats 1000000 in
theorem index_any (L : Nat → Int) (n b cap : Nat) (hn : n ≤ 100) (w : World) (hc : ∀ j, j < n → w.cell? ⟨b, j, none⟩ = some (.int .i64 (L j))) :
    Calls Try.prog 20 #[.slice (some ⟨b, 0, none⟩) n cap, .func (.func 18) #[] #[]] w fun e w' => (∃ r, e = .returned (.int .i64 r) ∧ Fst L n r) ∧ w = w' := by
  have NE := Lib.hid (fun x W => neg_any x W)
  have HC := Lib.hid hc
  clear hc
  go_enter Try.func20, Try.ntmps20
  go_wp2
  go_loop [8] (fun i => ∃ k : Nat, k ≤ n ∧ i = .int .i64 k ∧ ∀ j, j < k → 0 ≤ L j) (fun i => n - (intOf i).toNat)
  case atStart => exact ⟨0, by omega, rfl, fun j hj => by omega⟩
  case round =>
    obtain ⟨k, hk, rfl, hl⟩ := hrel
    have HL := Lib.hid hl
    clear hl
    by_cases hlt : (k : Int) < n
    · have hck := HC.out k (by omega)
      by_cases h0 : L k < 0
      · have hd : decide (L k < 0) = true := by simpa using h0
        have HR := Lib.hid h0
        generalize L k = x at hck h0 hd
        go_wp2_with (go_at_call 18; refine (NE.out _ _).mono ?_; rintro e w1 ⟨rfl, rfl⟩)
        go_ret
        exact ⟨⟨_, rfl, Or.inr ⟨k, by omega, rfl, HR.out, HL.out⟩⟩, rfl⟩
      · have hd : decide (L k < 0) = false := by simpa using h0
        have HR := Lib.hid h0
        generalize L k = x at hck h0 hd
        go_wp2_with (go_at_call 18; refine (NE.out _ _).mono ?_; rintro e w1 ⟨rfl, rfl⟩)
        go_round
        case rel => exact ⟨k + 1, by omega, by go_num, fun j hj => by
          rcases Nat.lt_or_ge j k with h | h
          · exact HL.out j h
          · obtain rfl : j = k := by omega
            have := HR.out
            omega⟩
        case measure => simp [intOf]; omega
    · obtain rfl : k = n := by omega
      go_wp2
      go_ret
      exact ⟨⟨_, rfl, Or.inl ⟨rfl, HL.out⟩⟩, rfl⟩
def kept (L : Nat → Int) (n : Nat) : List Int := ((List.range n).map L).filter (fun x => decide (0 ≤ x))
theorem kept_succ (L : Nat → Int) (n : Nat) : kept L (n + 1) = if 0 ≤ L n then kept L n ++ [L n] else kept L n := by
  unfold kept
  rw [List.range_succ, List.map_append, List.filter_append]
  by_cases h : 0 ≤ L n <;> simp [h]
theorem kept_len (L : Nat → Int) (n : Nat) : (kept L n).length ≤ n := by
  unfold kept
  refine Nat.le_trans (List.length_filter_le _ _) (by simp)
theorem kept_all (L : Nat → Int) (n : Nat) (h : ∀ j, j < n → 0 ≤ L j) : kept L n = (List.range n).map L := by
  unfold kept
  refine List.filter_eq_self.2 fun x hx => ?_
  obtain ⟨j, hj, rfl⟩ := List.mem_map.1 hx
  simpa using h j (List.mem_range.1 hj)
/-- the row while it is rewritten. -/
structure DelW (w wr : World) (L : Nat → Int) (n b j : Nat) : Prop where
  onto : Onto b w wr
  low : ∀ t x, (kept L j)[t]? = some x → wr.cell? ⟨b, t, none⟩ = some (.int .i64 x)
  high : ∀ t, j ≤ t → t < n → wr.cell? ⟨b, t, none⟩ = some (.int .i64 (L t))
  there : ∀ t, t < n → (wr.cell? ⟨b, t, none⟩).isSome = true ∧ wr.frozen? ⟨b, t, none⟩ = false
  less : (kept L j).length < j
theorem DelW.skip {w wr : World} {L : Nat → Int} {n b j : Nat} (h : DelW w wr L n b j) (hx : L j < 0) : DelW w wr L n b (j + 1) := by
  have e : kept L (j + 1) = kept L j := by rw [kept_succ, if_neg (by omega)]
  refine ⟨h.onto, ?_, fun t h1 h2 => h.high t (by omega) h2, h.there, ?_⟩
  · rw [e]; exact h.low
  · rw [e]; have := h.less; omega
theorem DelW.keep {w wr : World} {L : Nat → Int} {n b j : Nat} (h : DelW w wr L n b j) (hj : j < n) (hx : 0 ≤ L j) : DelW w (wr.setCell ⟨b, (kept L j).length, none⟩ (.int .i64 (L j))) L n b (j + 1) := by
  have e : kept L (j + 1) = kept L j ++ [L j] := by rw [kept_succ, if_pos hx]
  have hl := h.less
  have hv := h.there (kept L j).length (by omega)
  obtain ⟨u, hu⟩ := Option.isSome_iff_exists.1 hv.1
  refine ⟨h.onto.set _ _, ?_, ?_, ?_, ?_⟩
  · rw [e]
    intro t x ht
    by_cases htl : t < (kept L j).length
    · rw [List.getElem?_append_left htl] at ht
      rw [World.cell?_setCell_other _ _ _ _ (fun e => by have := congrArg Addr.off e; simp at this; omega)]
      exact h.low t x ht
    · rw [List.getElem?_append_right (by omega)] at ht
      have htt : t = (kept L j).length := by
        have := (List.getElem?_eq_some_iff.1 ht).1
        simp at this
        omega
      subst htt
      simp at ht
      subst ht
      exact World.cell?_setCell_same _ _ _ hu
  · intro t h1 h2
    rw [World.cell?_setCell_other _ _ _ _ (fun e => by have := congrArg Addr.off e; simp at this; omega)]
    exact h.high t (by omega) h2
  · intro t ht
    rw [World.frozen?_setCell]
    refine ⟨?_, (h.there t ht).2⟩
    by_cases htt : t = (kept L j).length
    · subst htt
      rw [World.cell?_setCell_same _ _ _ hu]
      rfl
    · rw [World.cell?_setCell_other _ _ _ _ (fun e => by have := congrArg Addr.off e; simp at this; omega)]
      exact (h.there t ht).1
  · rw [e]
    simp
    omega
end Go.Proofs.Ytajaglhlmoblnaa
