/- Walk: what is needed ahead of a loop, and in it, is needed to its end. Conditions: numbers fit. -/
import Derived.Test.YtajaglhlmoblnaaLiveIv
namespace Go.Proofs.Ytajaglhlmoblnaa
open Go.RowKit Go.Sort Go.Lib
set_option linter.unusedVariables false
set_option linter.unusedSimpArgs false
def cond1 (lf lt : Int) (x : Int × Int × Int) : Bool := decide (x.2.1 < lf ∧ lf ≤ x.2.2 ∧ x.2.2 < lt)
def st1 (lf lt : Int) (x : Int × Int × Int) : Int × Int × Int := if cond1 lf lt x then (x.1, x.2.1, lt) else x
/-- intervals lie so, and may be written. -/
def RowAt (w : World) (g : Nat) (l : List (Int × Int × Int)) : Prop := ∀ j x, l[j]? = some x → w.cell? ⟨g, j * 3, none⟩ = some (.int .i64 x.1) ∧ w.cell? ⟨g, j * 3 + 1, none⟩ = some (.int .i64 x.2.1) ∧ w.cell? ⟨g, j * 3 + 2, none⟩ = some (.int .i64 x.2.2) ∧ w.frozen? ⟨g, j * 3 + 2, none⟩ = false
theorem RowAt.below {w w' : World} {g : Nat} {l : List (Int × Int × Int)} (h : RowAt w g l) (hb : Below w.heap.size w w') : RowAt w' g l := fun j x hj => by
  obtain ⟨c0, c1, c2, z⟩ := h j x hj
  exact ⟨cell_below c0 hb, cell_below c1 hb, cell_below c2 hb, by rw [hb.frozen (cell_lt2 c2)]; exact z⟩
theorem take_set {l : List (Int × Int × Int)} {j : Nat} {x : Int × Int × Int} (h : l[j]? = some x) (f : Int × Int × Int → Int × Int × Int) (i : Nat) :
    ((l.take (j + 1)).map f ++ l.drop (j + 1))[i]? = if i = j then some (f x) else ((l.take j).map f ++ l.drop j)[i]? := by
  have hj := (List.getElem?_eq_some_iff.1 h).1
  by_cases hij : i = j
  · subst hij
    rw [if_pos rfl, List.getElem?_append_left (by simp; omega), List.getElem?_map, List.getElem?_take_of_lt (by omega), h]
    rfl
  · rw [if_neg hij]
    rcases Nat.lt_or_ge i j with hlt | hge
    · rw [List.getElem?_append_left (by simp; omega), List.getElem?_append_left (by simp; omega), List.getElem?_map, List.getElem?_map, List.getElem?_take_of_lt (by omega), List.getElem?_take_of_lt (by omega)]
    · rw [List.getElem?_append_right (by simp; omega), List.getElem?_append_right (by simp; omega), List.getElem?_drop, List.getElem?_drop]
      congr 1
      simp
      omega
theorem RowAt.step {w : World} {g : Nat} {l : List (Int × Int × Int)} {j : Nat} {x : Int × Int × Int} {lf lt : Int} (hj : l[j]? = some x) (h : RowAt w g ((l.take j).map (st1 lf lt) ++ l.drop j)) (hc : cond1 lf lt x = true) :
    RowAt (w.setCell ⟨g, j * 3 + 2, none⟩ (.int .i64 lt)) g ((l.take (j + 1)).map (st1 lf lt) ++ l.drop (j + 1)) := fun i y hi => by
  have hjl := (List.getElem?_eq_some_iff.1 hj).1
  have hx0 : ((l.take j).map (st1 lf lt) ++ l.drop j)[j]? = some x := by
    rw [List.getElem?_append_right (by simp; omega), List.getElem?_drop]
    simp
    rw [show j + (j - min j l.length) = j by omega]
    exact hj
  rw [take_set hj] at hi
  have hoth : ∀ k, k ≠ j * 3 + 2 → (w.setCell ⟨g, j * 3 + 2, none⟩ (.int .i64 lt)).cell? ⟨g, k, none⟩ = w.cell? ⟨g, k, none⟩ := fun k hk =>
    World.cell?_setCell_other _ _ _ _ (fun e => hk (congrArg Addr.off e).symm)
  by_cases hij : i = j
  · subst hij
    rw [if_pos rfl] at hi
    obtain ⟨c0, c1, c2, z⟩ := h i x hx0
    have hy : y = (x.1, x.2.1, lt) := by
      have := Option.some.inj hi
      rw [← this]
      unfold st1
      rw [if_pos hc]
    subst hy
    exact ⟨by rw [hoth _ (by omega)]; exact c0, by rw [hoth _ (by omega)]; exact c1, World.cell?_setCell_same _ _ _ c2, by rw [World.frozen?_setCell]; exact z⟩
  · rw [if_neg hij] at hi
    obtain ⟨c0, c1, c2, z⟩ := h i y hi
    exact ⟨by rw [hoth _ (by omega)]; exact c0, by rw [hoth _ (by omega)]; exact c1, by rw [hoth _ (by omega)]; exact c2, by rw [World.frozen?_setCell]; exact z⟩
theorem RowAt.stay {w : World} {g : Nat} {l : List (Int × Int × Int)} {j : Nat} {x : Int × Int × Int} {lf lt : Int} (hj : l[j]? = some x) (h : RowAt w g ((l.take j).map (st1 lf lt) ++ l.drop j)) (hc : cond1 lf lt x = false) :
    RowAt w g ((l.take (j + 1)).map (st1 lf lt) ++ l.drop (j + 1)) := fun i y hi => by
  have hjl := (List.getElem?_eq_some_iff.1 hj).1
  rw [take_set hj] at hi
  by_cases hij : i = j
  · subst hij
    rw [if_pos rfl] at hi
    have hy : y = x := by
      have := Option.some.inj hi
      rw [← this]
      unfold st1
      rw [if_neg (by rw [hc]; decide)]
    subst hy
    refine h i y ?_
    rw [List.getElem?_append_right (by simp; omega), List.getElem?_drop]
    simp
    rw [show i + (i - min i l.length) = i by omega]
    exact hj
  · rw [if_neg hij] at hi
    exact h i y hi
theorem any_take (l : List (Int × Int × Int)) (p : Int × Int × Int → Bool) (j : Nat) (x : Int × Int × Int) (h : l[j]? = some x) : (l.take (j + 1)).any p = ((l.take j).any p || p x) := by
  rw [List.take_add_one, h, List.any_append]
  simp
end Go.Proofs.Ytajaglhlmoblnaa
