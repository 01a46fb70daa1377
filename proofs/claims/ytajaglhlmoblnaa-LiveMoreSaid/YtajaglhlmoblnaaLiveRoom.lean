/- Walk: the registers that a step reads, with the room behind them; one row of numbers behind another in a region that draws its order. Conditions: numbers fit. -/
import Derived.Test.YtajaglhlmoblnaaLiveMoreM
import Derived.Deep.RegionHeld3
import Derived.ArgAppend
namespace Go.Proofs.Ytajaglhlmoblnaa
open Go.RowKit Go.Sort Go.Lib
set_option linter.unusedVariables false
set_option linter.unusedSimpArgs false
theorem Onto.there {B : Nat} {a b : World} (h : Onto B a b) {c k : Nat} (hc : (a.cell? ⟨c, k, none⟩).isSome = true) : (b.cell? ⟨c, k, none⟩).isSome = true := by
  induction h with
  | refl => exact hc
  | @set w1 _ j v ih =>
    by_cases e : (⟨B, j, none⟩ : Addr) = ⟨c, k, none⟩
    · rw [e]
      obtain ⟨u, hu⟩ := Option.isSome_iff_exists.1 ih
      rw [World.cell?_setCell_same _ _ _ hu]
      rfl
    · rw [World.cell?_setCell_other _ _ _ _ e]
      exact ih
  | more _ p ih =>
    obtain ⟨u, hu⟩ := Option.isSome_iff_exists.1 ih
    rw [cell_below hu (more_below _ p)]
    rfl
  | alloc _ o ih =>
    obtain ⟨u, hu⟩ := Option.isSome_iff_exists.1 ih
    rw [cell_below hu (below_al (Below.refl _ _) o)]
    rfl
/-- three cells are there, and may be written. -/
def Room (w : World) (b : Nat) : Prop := ∀ j, j < 3 → (w.cell? ⟨b, j, none⟩).isSome = true ∧ w.frozen? ⟨b, j, none⟩ = false
theorem Room.below {w w' : World} {b : Nat} (h : Room w b) (hb : Below w.heap.size w w') : Room w' b := fun j hj => by
  obtain ⟨h1, h2⟩ := h j hj
  obtain ⟨u, hu⟩ := Option.isSome_iff_exists.1 h1
  refine ⟨by rw [cell_below hu hb]; rfl, ?_⟩
  rw [hb.frozen (p := ⟨b, j, none⟩) (cell_lt2 hu)]
  exact h2
theorem Room.more {w : World} {b : Nat} (h : Room w b) (p : Regrown) : Room (more w p) b := h.below (more_below w p)
set_option maxHeartbeats 1000000 in
theorem uses_room (o : LOp) (w : World) : Calls Try.prog 9 #[lopV o] w fun e w' => ∃ b, e = .returned (.slice (some ⟨b, 0, none⟩) (usesL o).length 3) ∧ (∃ p : Regrown, w' = more w p) ∧ NumsAt w' b (usesL o) ∧ w.heap.size ≤ b ∧ b < w'.heap.size ∧ Room w' b := by
  have TH := Lib.hid (fun b W hc => there_any (three o.a o.b o.c) 3 b (by omega) W hc)
  obtain ⟨k, d, d2, a, b, c, n, op, sz, od, tgt, st, ln⟩ := o
  unfold lopV LOp.cs
  unfold usesL
  simp only at *
  have hl := kept_len (three a b c) 3
  generalize hk : kept (three a b c) 3 = l at TH hl ⊢
  replace hk := Lib.hid hk
  go_enter Try.func9, Try.ntmps9
  go_wp2_with (go_at_call 13; refine (TH.out (w.heap.size + 1) _ ?_).mono ?_)
  · intro j hj
    rcases (show j = 0 ∨ j = 1 ∨ j = 2 by omega) with rfl | rfl | rfl
    all_goals (unfold three; simp [go_sem])
  · rintro e w1 ⟨rfl, ho, hn⟩
    go_wp2
    go_ret
    refine ⟨w.heap.size + 1, rfl, more_of_below (ho.under (below_al (below_al (Below.refl _ _) _) _) (by omega)), hn, by omega, ?_, ?_⟩
    · have := ho.size
      simp at this
      omega
    · intro j hj
      refine ⟨ho.there ?_, (ho.frozen ?_).trans ?_⟩
      · rcases (show j = 0 ∨ j = 1 ∨ j = 2 by omega) with rfl | rfl | rfl
        all_goals simp [go_sem]
      · simp
      · simp [go_sem]
theorem ints_one (l : List Int) : ∀ u ∈ l.map (Value.int .i64), u.oneCell' = true := ints_oneCell .i64 l
/-- a row of numbers with room for three, another one behind it. -/
theorem step_append_two {ops : Array Oper} {o : Oper} {a : Act} {w : World} {K : Act → World → Prop} {Q : Exit → Act → World → Prop} {E : Prop} (hgd : o.guard = none) (s x : Operand)
    (ho : o.op = .call { callee := .builtin .append, args := #[s, x], argTypes := #[27, 27] })
    (b1 b2 : Nat) (l1 l2 : List Int) (h1 : l1.length ≤ 3) (h2 : l2.length ≤ 2) (hs : a.eval s = .slice (some ⟨b1, 0, none⟩) l1.length 3) (hx : a.eval x = .slice (some ⟨b2, 0, none⟩) l2.length 2)
    (hn1 : NumsAt w b1 l1) (hn2 : NumsAt w b2 l2) (hr : Room w b1) (S : World → Prop) (hS : ∀ w', Onto b1 w w' → S w')
    (h : ∀ g cap w', NumsAt w' g (l1 ++ l2) → Onto b1 w w' → S w' → K (a.put o.dst (.slice (some ⟨g, 0, none⟩) (l1.length + l2.length) cap)) w') :
    if Region.wanted o (yielded ops a.tmps) = true then Oper.wp Try.prog o a w K Q else E := by
  have hw : Region.wanted o (yielded ops a.tmps) = true := by simp [Region.wanted, hgd]
  rw [if_pos hw]
  obtain ⟨i0, hi, hz0, hz1, hz2⟩ := info_parts info_int
  by_cases hroom : l1.length + l2.length ≤ 3
  · have hrun := run_append_room_cells (P := Try.prog) w 27 o.type 3 i0 Try.underlying27 hi b1 0 l1.length 3 ⟨b2, 0, none⟩ l2.length 2 (l2.map (Value.int .i64)) (by simp [hz1]) hn2.news (ints_one l2) hroom (fun j hj => (hr _ (by simp at hj; rw [hz1]; omega)).1) (fun j hj => (hr _ (by simp at hj; rw [hz1]; omega)).2)
    have ho2 : Onto b1 w (w.setCells b1 (0 + l1.length * i0.size) (l2.map (Value.int .i64))) := Onto.setCells _ _ _ Onto.refl
    have hcs : NumsAt (w.setCells b1 (0 + l1.length * i0.size) (l2.map (Value.int .i64))) b1 (l1 ++ l2) := by
      rw [hz1, Nat.zero_add, Nat.mul_one]
      intro j y hj
      rw [List.getElem?_append] at hj
      split at hj
      · rename_i hlt
        rw [World.cell?_setCells_out b1 _ _ _ _ (fun _ _ => Or.inl hlt)]
        exact hn1 j y hj
      · rename_i hge
        have hjl := (List.getElem?_eq_some_iff.1 hj).1
        have := World.cell?_setCells_in b1 (l2.map (Value.int .i64)) l1.length w (fun t ht => (hr _ (by simp at ht; omega)).1) (j - l1.length) (by simpa using hjl)
        rw [show l1.length + (j - l1.length) = j by omega] at this
        rw [this]
        simpa using (List.getElem?_eq_some_iff.1 hj).2
    unfold Oper.wp
    simp [execOp, ho, resolve, invoke, builtin, hs, hx, hrun, Result.andThen]
    rw [Nat.zero_add] at hcs ho2
    exact h b1 3 _ hcs ho2 (hS _ ho2)
  · obtain ⟨v', w', hrun, r1, r2⟩ := run_append_arg_grows (P := Try.prog) w 27 o.type 3 i0 _ 1 8 Try.underlying27 hi hz0 hz1 hz2 rfl (by decide) ⟨b1, 0, none⟩ l1.length 3 (l1.map (Value.int .i64)) (by simp) hn1.news ⟨b2, 0, none⟩ l2.length 2 (l2.map (Value.int .i64)) (by simp) hn2.news (by omega) (by unfold maxLen; omega) (by omega)
    have hb : Below w.heap.size w w' := (Below.refl _ w).grown r2 (Nat.le_refl _) (fun k hk => by cases hk)
    obtain ⟨p, rfl⟩ := more_of_below hb
    have ho2 : Onto b1 w (more w p) := Onto.refl.more p
    obtain ⟨g, cap, rfl⟩ : ∃ g cap, v' = .slice (some ⟨g, 0, none⟩) (l1.length + l2.length) cap := by
      rcases r1.2 with ⟨_, h0⟩ | ⟨g, cap, _, e, _⟩
      · omega
      · exact ⟨g, cap, e⟩
    unfold Oper.wp
    simp [execOp, ho, resolve, invoke, builtin, hs, hx, hrun, Result.andThen]
    exact h g cap _ (owns_nums r1 (by simp)) ho2 (hS _ ho2)
end Go.Proofs.Ytajaglhlmoblnaa
