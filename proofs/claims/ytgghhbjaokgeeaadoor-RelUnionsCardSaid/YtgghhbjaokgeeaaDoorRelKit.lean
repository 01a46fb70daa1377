/- Rows of bits in memory; what make lays. No condition. -/
import Derived.Test.YtgghhbjaokgeeaaDoorRelMath
import Derived.Test.YtgghhbjaokgeeaaDoorOnto
import Derived.Test.YtgghhbjaokgeeaaDoorProg
import Derived.Deep.CutRange
import Derived.Deep.LoopGhost
namespace Go.Proofs.YtgghhbjaokgeeaaDoor
open Go.RowKit Go.Sort Go.Lib
set_option linter.unusedVariables false
set_option linter.unusedSimpArgs false
theorem cell_below {w w' : World} {c k : Nat} {v : Value} (h : w.cell? ⟨c, k, none⟩ = some v) (hb : Below w.heap.size w w') : w'.cell? ⟨c, k, none⟩ = some v := (hb.cell (p := ⟨c, k, none⟩) (cell_lt2 h)).trans h
/-- rows that came in, or were made. -/
def Sl (w : World) (v : Value) (len : Nat) (r : Nat → Nat) : Prop :=
  ∃ A X off cap, v = .slice A len cap ∧ (0 < len → A = some ⟨X, off, none⟩) ∧ len ≤ cap ∧ cap ≤ 9223372036854775807 ∧ (∀ i, i < len → w.cell? ⟨X, off + i, none⟩ = some (.int .u64 (r i))) ∧ ∀ i, r i < 18446744073709551616
theorem Sl.below {w w' : World} {v : Value} {len : Nat} {r : Nat → Nat} (h : Sl w v len r) (hb : Below w.heap.size w w') : Sl w' v len r := by
  obtain ⟨A, X, off, cap, h1, h2, h3, h4, h5, h6⟩ := h
  exact ⟨A, X, off, cap, h1, h2, h3, h4, fun i hi => cell_below (h5 i hi) hb, h6⟩
theorem Sl.more {w : World} {v : Value} {len : Nat} {r : Nat → Nat} (h : Sl w v len r) (p : Regrown) : Sl (more w p) v len r := h.below (more_below w p)
/-- rows in a new block, that may be written. -/
def RowsU (w : World) (g n : Nat) (l : Nat → Nat) : Prop := ∀ i, i < n → w.cell? ⟨g, i, none⟩ = some (.int .u64 (l i)) ∧ w.frozen? ⟨g, i, none⟩ = false
theorem RowsU.below {w w' : World} {g n : Nat} {l : Nat → Nat} (h : RowsU w g n l) (hb : Below w.heap.size w w') : RowsU w' g n l := fun i hi => by
  obtain ⟨h1, h2⟩ := h i hi
  refine ⟨cell_below h1 hb, ?_⟩
  rw [hb.frozen (p := ⟨g, i, none⟩) (cell_lt2 h1)]
  exact h2
theorem RowsU.more {w : World} {g n : Nat} {l : Nat → Nat} (h : RowsU w g n l) (p : Regrown) : RowsU (more w p) g n l := h.below (more_below w p)
theorem RowsU.onto {w w' : World} {g n B : Nat} {l : Nat → Nat} (h : RowsU w g n l) (ho : Onto B w w') (hne : g ≠ B) : RowsU w' g n l := fun i hi => by
  obtain ⟨h1, h2⟩ := h i hi
  exact ⟨(ho.cell (cell_lt2 h1) hne).trans h1, (ho.frozen (cell_lt2 h1)).trans h2⟩
theorem RowsU.set {w : World} {g n : Nat} {l : Nat → Nat} (h : RowsU w g n l) (t : Nat) (ht : t < n) (x : Nat) : RowsU (w.setCell ⟨g, t, none⟩ (.int .u64 x)) g n (fun i => if i = t then x else l i) := fun i hi => by
  obtain ⟨h1, h2⟩ := h i hi
  refine ⟨?_, by rw [World.frozen?_setCell]; exact h2⟩
  by_cases e : i = t
  · subst e
    simp only [if_true]
    exact World.cell?_setCell_same _ _ _ h1
  · simp only [if_neg e]
    rw [World.cell?_setCell_other _ _ _ _ (by simp [Ne.symm e] <;> omega)]
    exact h1
theorem RowsU.congr {w : World} {g n : Nat} {l l' : Nat → Nat} (h : RowsU w g n l) (e : ∀ i, i < n → l i = l' i) : RowsU w g n l' := fun i hi => by rw [← e i hi]; exact h i hi
theorem RowsU.sl {w : World} {g n : Nat} {f : Nat → Nat → Bool} (hn : n ≤ 64) (h : RowsU w g n (fun i => rowN n (f i))) : Sl w (.slice (some ⟨g, 0, none⟩) n n) n (fun i => rowN n (f i)) :=
  ⟨_, g, 0, n, rfl, fun _ => rfl, Nat.le_refl _, by omega, fun i hi => by rw [Nat.zero_add]; exact (h i hi).1, fun i => rowN_64 hn _⟩
theorem Sl.onto {w w' : World} {v : Value} {len B : Nat} {r : Nat → Nat} (h : Sl w v len r) (ho : Onto B w w') (hB : w.heap.size ≤ B) : Sl w' v len r := by
  obtain ⟨A, X, off, cap, h1, h2, h3, h4, h5, h6⟩ := h
  refine ⟨A, X, off, cap, h1, h2, h3, h4, fun i hi => ?_, h6⟩
  have := cell_lt2 (h5 i hi)
  exact (ho.cell this (by omega)).trans (h5 i hi)
/-- it gives back new rows. -/
def GivesRows (w : World) (n : Nat) (f : Nat → Nat → Bool) (e : Ending) (w' : World) : Prop :=
  ∃ g, e = .returned (.slice (some ⟨g, 0, none⟩) n n) ∧ (∃ p : Regrown, w' = more w p) ∧ w.heap.size ≤ g ∧ g < w'.heap.size ∧ RowsU w' g n (fun i => rowN n (f i))
/-- n rows of nothing. -/
def zrow (n : Nat) : Array Value := Array.replicate n (.int .u64 0)
@[go_sem] theorem zrow_get (n i : Nat) : (zrow n)[i]? = if i < n then some (.int .u64 0) else none := by
  unfold zrow
  rw [Array.getElem?_replicate]
theorem info_u64 : (Tryd.prog.info? 36).map (fun i => (i.zero, i.size, i.bytes)) = some (some (.int .u64 0), 1, 8) := by kernel_rfl
theorem run_rows (n : Nat) (hn : n ≤ 64) (w : World) : (Instr.makeSlice 22 (.int .i64 n) (.int .i64 n)).run Tryd.prog w = .ok (.slice (some ⟨w.heap.size, 0, none⟩) n n) (w.alloc (.cells (zrow n) 36)) := by
  obtain ⟨i0, hi, hz0, hz1, hz2⟩ := info_parts info_u64
  have h := run_makeSlice (P := Tryd.prog) w 22 36 i0 (.int .u64 0) Tryd.underlying22 hi hz0 .i64 .i64 n n (by omega) (Int.le_refl _) (by rw [hz1]; simp; omega) (by rw [hz2]; omega) (by omega)
  rw [Int.toNat_natCast, hz1, Nat.mul_one] at h
  have e : madeCells (Value.int .u64 0).cells n = zrow n := by
    unfold zrow madeCells
    apply Array.ext
    · simp
    · intro i h1 h2
      simp [Value.cells, Nat.mod_one]
  rw [e] at h
  exact h
theorem wpList_rows {ops : Array Oper} {rest : List Oper} {o : Oper} {a : Act} {Q : Exit → Act → World → Prop} {w : World}
    (hg : o.guard = none) (x y : Operand) (hop : o.op = Op.makeSlice 22 x y) (n : Nat) (hn : n ≤ 64) (hx : a.eval x = .int .i64 n) (hy : a.eval y = .int .i64 n)
    (hK : wpList Tryd.prog ops Q rest (a.put o.dst (.slice (some ⟨w.heap.size, 0, none⟩) n n)) (w.alloc (.cells (zrow n) 36))) :
    wpList Tryd.prog ops Q (o :: rest) a w := by
  refine wpList_plain hg fun K' hK' => ?_
  have hrun := run_rows n hn w
  unfold Oper.wp
  simp [execOp, hop, hx, hy] at hrun ⊢
  simp [hrun, Result.andThen]
  exact hK' _ _ hK
theorem rows_zero {w : World} {n : Nat} : RowsU (w.alloc (.cells (zrow n) 36)) w.heap.size n (fun _ => 0) := fun i hi => by
  refine ⟨?_, ?_⟩
  · rw [alloc_cell, if_neg (by omega), if_pos rfl, zrow_get, if_pos hi]
    rfl
  · rw [alloc_frozen, if_neg (by omega)]
end Go.Proofs.YtgghhbjaokgeeaaDoor
