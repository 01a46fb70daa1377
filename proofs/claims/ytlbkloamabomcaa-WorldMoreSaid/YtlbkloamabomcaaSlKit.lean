/- A slice of numbers that came in, opened. No condition. -/
import Derived.Test.YtlbkloamabomcaaLawKit
import Derived.Test.YtlbkloamabomcaaProg
import Derived.Deep.Slices
namespace Go.Proofs.Ytlbkloamabomcaa
open Go.ChangeShapes Go.WideShapes Go.ChangeAt Go.RowKit
set_option maxRecDepth 100000
set_option linter.unusedVariables false
theorem sl_lt {w : World} {b o : Nat} {v : Value} (h : w.cell? ⟨b, o, none⟩ = some v) : b < w.heap.size := by
  rcases Nat.lt_or_ge b w.heap.size with hlt | hge
  · exact hlt
  · have : w.heap[b]? = none := Array.getElem?_eq_none hge
    simp [World.cell?, this] at h
theorem sl_spot {w : World} {a : Addr} {v : Value} (h : w.cell? a = some v) : a = ⟨a.block, a.off, none⟩ := by
  obtain ⟨b, o, s⟩ := a
  cases s with
  | none => rfl
  | some s =>
    unfold World.cell? at h
    simp only at h
    split at h <;> simp at h
theorem sl_cells {w : World} {base : Nat} {a : Addr} {n : Nat} {cs : List Value} (h : w.cells? base a n = some cs) : cs.length = n ∧ ∀ i (v : Value), cs[i]? = some v → w.cell? (a.add i) = some v := by
  unfold World.cells? at h
  split at h
  · have hl := mapM_some_length h
    simp at hl
    refine ⟨hl, fun i v hv => ?_⟩
    have hi : i < n := by
      rcases Nat.lt_or_ge i n with hh | hh
      · exact hh
      · rw [List.getElem?_eq_none (by omega)] at hv; cases hv
    have := mapM_some_get h i i (by simp [hi])
    rw [this]; exact hv
  · cases h
theorem sl_list {α : Type} (n : Nat) (p : Nat → α → Prop) (h : ∀ i, i < n → ∃ x, p i x) : ∃ l : List α, l.length = n ∧ ∀ (i : Nat) x, l[i]? = some x → p i x := by
  induction n with
  | zero => exact ⟨[], rfl, fun i x hx => by simp at hx⟩
  | succ n ih =>
    obtain ⟨l, hl, hp⟩ := ih (fun i hi => h i (by omega))
    obtain ⟨x, hx⟩ := h n (by omega)
    refine ⟨l ++ [x], by simp [hl], fun i y hy => ?_⟩
    rcases Nat.lt_or_ge i n with hh | hh
    · rw [List.getElem?_append_left (by omega)] at hy
      exact hp i y hy
    · rw [List.getElem?_append_right (by omega)] at hy
      by_cases e : i = n
      · subst e
        rw [hl, Nat.sub_self] at hy
        simp at hy
        subst hy
        exact hx
      · rw [List.getElem?_eq_none (by simp; omega)] at hy
        cases hy
/-- a row of numbers lies so. -/
def IntsAt (w : World) (k : IntKind) (a : Option Addr) (l : List Int) (c : Nat) : Prop :=
  l.length ≤ c ∧ c ≤ 9223372036854775807 ∧ (0 < l.length → ∃ b off, a = some ⟨b, off, none⟩ ∧ b < w.heap.size ∧ ∀ (i : Nat) x, l[i]? = some x → w.cell? ⟨b, off + i, none⟩ = some (.int k x)) ∧ ∀ x ∈ l, (Lit.int k x).wf = true
theorem IntsAt.below {w w' : World} (hb : Below w.heap.size w w') {k : IntKind} {a : Option Addr} {l : List Int} {c : Nat} (h : IntsAt w k a l c) : IntsAt w' k a l c := by
  obtain ⟨h1, h2, h3, h4⟩ := h
  refine ⟨h1, h2, fun h0 => ?_, h4⟩
  obtain ⟨b, off, e, hlt, hc⟩ := h3 h0
  exact ⟨b, off, e, Nat.lt_of_lt_of_le hlt hb.size, fun i x hi => (hb.cell (p := ⟨b, off + i, none⟩) hlt).trans (hc i x hi)⟩
section
variable {H : Type} {enc : TypeId × Value → H} {W : World}
theorem ints_open {k : IntKind} {t e : TypeId} (ht : Try.prog.underlying t = some (.slice e)) (he : Try.prog.underlying e = some (.int k)) (hc : Try.prog.cellsOf e = 1) {r : Reach} {b0 : Nat} {v : Value} {d : DataW H} {p : List MemPlace} (hv : Value.okWide Try.prog W r b0 t v) (h : DataW.Trod enc Try.prog W 0 (fun _ => true) true t v d p) :
    ∃ (l : List Int) (a : Option Addr) (c : Nat), v = .slice a l.length c ∧ IntsAt W k a l c := by
  obtain ⟨fuel, hf⟩ := h
  obtain ⟨a0, n0, c0, rfl⟩ := okWide_slice ht hv
  rcases DataW.trod_slice ht hf with h0 | ⟨a, len, cap, elems, rest, n, rfl, hcs, hx, hb, hl, hm, hlen, hel, _, _⟩
  · have h1 := h0.1
    simp [Value.cells] at h1
    obtain ⟨rfl, rfl, rfl⟩ := h1
    exact ⟨[], none, 0, rfl, by simp, by simp, fun h => by simp at h, by simp⟩
  · simp [Value.cells] at hcs
    obtain ⟨rfl, rfl, rfl⟩ := hcs
    obtain ⟨l, hlen2, hp⟩ := sl_list n0 (fun i (x : Int) => (Lit.int k x).wf = true ∧ W.cell? (a.add i) = some (.int k x)) (fun i hi => by
      have := hel i hi
      rw [List.getElem?_eq_getElem (by omega : i < elems.length)] at this
      obtain ⟨cs', h1, h2⟩ := Option.bind_eq_some_iff.1 this
      rw [hc] at h1
      obtain ⟨hcl, hcv⟩ := sl_cells h1
      obtain ⟨x, e1, _, w1⟩ := DataW.trod_int he h2
      subst e1
      refine ⟨x, w1, ?_⟩
      have := hcv 0 _ rfl
      rw [Nat.mul_one] at this
      exact this)
    subst hlen2
    refine ⟨l, some a, c0, rfl, hl, by unfold maxLen at hm; exact hm, fun hpos => ?_, fun x hx => ?_⟩
    · have ha : a = ⟨a.block, a.off, none⟩ := by
        have := (hp 0 l[0] (List.getElem?_eq_getElem hpos)).2
        rw [show a.add 0 = a from rfl] at this
        exact sl_spot this
      refine ⟨a.block, a.off, by rw [← ha], ?_, fun i x hi => ?_⟩
      · have := (hp 0 l[0] (List.getElem?_eq_getElem hpos)).2
        rw [show a.add 0 = a from rfl, ha] at this
        exact sl_lt this
      · have := (hp i x hi).2
        rw [ha] at this
        simpa only [add_plain] using this
    · obtain ⟨i, hi⟩ := List.getElem?_of_mem hx
      exact (hp i x hi).1
end
end Go.Proofs.Ytlbkloamabomcaa
