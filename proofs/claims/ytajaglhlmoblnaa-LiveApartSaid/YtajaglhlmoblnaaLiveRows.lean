/- Rows that are owned, as intervals and as loops. No condition. -/
import Derived.Test.YtajaglhlmoblnaaLiveFix
namespace Go.Proofs.Ytajaglhlmoblnaa
open Go.RowKit Go.Sort Go.Lib
set_option linter.unusedVariables false
set_option linter.unusedSimpArgs false
theorem flat3 : ∀ (l : List Tri) (j : Nat) (x : Tri), l[j]? = some x → (l.flatMap ivC)[j * 3]? = some (.int .i64 x.1) ∧ (l.flatMap ivC)[j * 3 + 1]? = some (.int .i64 x.2.1) ∧ (l.flatMap ivC)[j * 3 + 2]? = some (.int .i64 x.2.2)
  | [], j, x, h => by simp at h
  | y :: r, 0, x, h => by
    simp at h
    subst h
    exact ⟨rfl, rfl, rfl⟩
  | y :: r, j + 1, x, h => by
    have ih := flat3 r j x (by simpa using h)
    have e : ∀ t, ((y :: r).flatMap ivC)[(j + 1) * 3 + t]? = (r.flatMap ivC)[j * 3 + t]? := fun t => by
      rw [List.flatMap_cons, List.getElem?_append_right (by simp [ivC]; omega)]
      congr 1
      simp [ivC]
      omega
    exact ⟨(e 0).trans ih.1, (e 1).trans ih.2.1, (e 2).trans ih.2.2⟩
theorem flat2 : ∀ (l : List (Int × Int)) (j : Nat) (x : Int × Int), l[j]? = some x → (l.flatMap lpC)[j * 2]? = some (.int .i64 x.1) ∧ (l.flatMap lpC)[j * 2 + 1]? = some (.int .i64 x.2)
  | [], j, x, h => by simp at h
  | y :: r, 0, x, h => by
    simp at h
    subst h
    exact ⟨rfl, rfl⟩
  | y :: r, j + 1, x, h => by
    have ih := flat2 r j x (by simpa using h)
    have e : ∀ t, ((y :: r).flatMap lpC)[(j + 1) * 2 + t]? = (r.flatMap lpC)[j * 2 + t]? := fun t => by
      rw [List.flatMap_cons, List.getElem?_append_right (by simp [lpC]; omega)]
      congr 1
      simp [lpC]
      omega
    exact ⟨(e 0).trans ih.1, (e 1).trans ih.2⟩
theorem own_frozen {w : World} {base size n cap g : Nat} {e : TypeId} {xs : List Value} (h : w.ownsRow base e size (.slice (some ⟨g, 0, none⟩) n cap) n xs) (k : Nat) : w.frozen? ⟨g, k, none⟩ = false := by
  rcases h.2 with ⟨h, _⟩ | ⟨g', cap', cur, h, _, hg, _⟩
  · simp at h
  · simp only [Value.slice.injEq, Option.some.injEq, Addr.mk.injEq, and_true, true_and] at h
    obtain ⟨rfl, _⟩ := h
    simp [World.frozen?, hg]
/-- loops lie so. -/
def LoopsAt (w : World) (g : Nat) (l : List (Int × Int)) : Prop := ∀ j x, l[j]? = some x → w.cell? ⟨g, j * 2, none⟩ = some (.int .i64 x.1) ∧ w.cell? ⟨g, j * 2 + 1, none⟩ = some (.int .i64 x.2)
theorem owns_rowAt {w : World} {base : Nat} {v : Value} {l : List Tri} (h : w.ownsRow base 35 3 v l.length (l.flatMap ivC)) (hb : base ≤ w.heap.size) :
    ∃ (A : Option Addr) (g cap : Nat), v = .slice A l.length cap ∧ (0 < l.length → A = some ⟨g, 0, none⟩ ∧ g < w.heap.size) ∧ base ≤ g ∧ g ≤ w.heap.size ∧ l.length ≤ cap ∧ cap ≤ 9223372036854775807 ∧ RowAt w g l := by
  rcases h.2 with ⟨h1, h2⟩ | ⟨g, cap, cur, h1, h2, h3, h4, h5, h6, h7⟩
  · have e : l = [] := List.length_eq_zero_iff.1 h2
    subst e
    exact ⟨none, base, 0, h1, fun h => by simp at h, Nat.le_refl _, hb, by simp, by simp, fun j x hj => by simp at hj⟩
  · subst h1
    refine ⟨some ⟨g, 0, none⟩, g, cap, rfl, fun _ => ⟨rfl, (Array.getElem?_eq_some_iff.1 h3).1⟩, h2, Nat.le_of_lt (Array.getElem?_eq_some_iff.1 h3).1, h4, h5, fun j x hj => ?_⟩
    have hjl := (List.getElem?_eq_some_iff.1 hj).1
    obtain ⟨f0, f1, f2⟩ := flat3 l j x hj
    exact ⟨(h.cellAt (j * 3) (by omega)).trans f0, (h.cellAt (j * 3 + 1) (by omega)).trans f1, (h.cellAt (j * 3 + 2) (by omega)).trans f2, own_frozen h _⟩
theorem owns_loops {w : World} {base : Nat} {v : Value} {l : List (Int × Int)} (h : w.ownsRow base 43 2 v l.length (l.flatMap lpC)) :
    ∃ (A : Option Addr) (g cap : Nat), v = .slice A l.length cap ∧ (0 < l.length → A = some ⟨g, 0, none⟩ ∧ g < w.heap.size) ∧ base ≤ g ∧ l.length ≤ cap ∧ cap ≤ 9223372036854775807 ∧ LoopsAt w g l := by
  rcases h.2 with ⟨h1, h2⟩ | ⟨g, cap, cur, h1, h2, h3, h4, h5, h6, h7⟩
  · have e : l = [] := List.length_eq_zero_iff.1 h2
    subst e
    exact ⟨none, base, 0, h1, fun h => by simp at h, Nat.le_refl _, by simp, by simp, fun j x hj => by simp at hj⟩
  · subst h1
    refine ⟨some ⟨g, 0, none⟩, g, cap, rfl, fun _ => ⟨rfl, (Array.getElem?_eq_some_iff.1 h3).1⟩, h2, h4, h5, fun j x hj => ?_⟩
    have hjl := (List.getElem?_eq_some_iff.1 hj).1
    obtain ⟨f0, f1⟩ := flat2 l j x hj
    exact ⟨(h.cellAt (j * 2) (by omega)).trans f0, (h.cellAt (j * 2 + 1) (by omega)).trans f1⟩
theorem LoopsAt.onto {w w' : World} {g B : Nat} {l : List (Int × Int)} (h : LoopsAt w g l) (ho : Onto B w w') (hne : g ≠ B) : LoopsAt w' g l := fun j x hj => by
  obtain ⟨c0, c1⟩ := h j x hj
  exact ⟨(ho.cell (cell_lt2 c0) hne).trans c0, (ho.cell (cell_lt2 c1) hne).trans c1⟩
end Go.Proofs.Ytajaglhlmoblnaa
