/- Small lemmas: a cell behind a store; what a function gives back out of a block and a slot. No condition. -/
import Derived.Test.YtlbkloamabomcaaMore
import Derived.Test.YtlbkloamabomcaaProg
import Derived.Deep.MidRow
namespace Go.Proofs.Ytlbkloamabomcaa
open Go.RowKit Go.Sort
set_option linter.unusedVariables false
set_option linter.unusedSimpArgs false
theorem cell_upd2 (w : World) (b i c j : Nat) (v : Value) : ((w.setCell ⟨b, i, none⟩ v).cell? ⟨c, j, none⟩) = if b = c ∧ i = j then (w.cell? ⟨c, j, none⟩).map (fun _ => v) else w.cell? ⟨c, j, none⟩ := by
  by_cases h : b = c ∧ i = j
  · obtain ⟨rfl, rfl⟩ := h
    rw [if_pos ⟨rfl, rfl⟩]
    cases hc : w.cell? ⟨b, i, none⟩ with
    | some u => exact World.cell?_setCell_same _ _ _ hc
    | none =>
      simp only [Option.map_none]
      unfold World.cell? at hc ⊢
      simp only [World.setCell, Array.getElem?_modify]
      cases hb : w.heap[b]? with
      | none => simp [hb]
      | some o =>
        simp only [hb] at hc
        cases o with
        | cells c e f =>
          have hc2 : c[i]? = none := by simpa using hc
          have : c.size ≤ i := by simpa using hc2
          simp
          omega
        | _ => simp
  · rw [if_neg h]
    exact World.cell?_setCell_other _ _ _ _ (fun e => h ⟨congrArg Addr.block e, congrArg Addr.off e⟩)
theorem range4 {w : World} {b : Nat} {v0 v1 v2 v3 : Value} (h0 : w.cell? ⟨b, 0, none⟩ = some v0) (h1 : w.cell? ⟨b, 1, none⟩ = some v1) (h2 : w.cell? ⟨b, 2, none⟩ = some v2) (h3 : w.cell? ⟨b, 3, none⟩ = some v3) : w.rangeAt b 0 [v0, v1, v2, v3] := fun j v hv => by
  match j with
  | 0 => cases hv; exact h0
  | 1 => cases hv; exact h1
  | 2 => cases hv; exact h2
  | 3 => cases hv; exact h3
  | n + 4 => simp at hv
theorem range2 {w : World} {b : Nat} {v0 v1 : Value} (h0 : w.cell? ⟨b, 0, none⟩ = some v0) (h1 : w.cell? ⟨b, 1, none⟩ = some v1) : w.rangeAt b 0 [v0, v1] := fun j v hv => by
  match j with
  | 0 => cases hv; exact h0
  | 1 => cases hv; exact h1
  | n + 2 => simp at hv
/-- a struct out of a block, and a slot. -/
theorem ret_ct {P : Program} {fn : Func} {tmps : Array Value} {w : World} {T : TypeId} {c t B : Nat} {x : Value} {cs : List Value} {d : TypeDesc} (hr : fn.results = #[.cell c T, .tmp t]) (hp : tmps.getD c undef = .pointer (some ⟨B, 0, none⟩)) (hx : tmps.getD t undef = x)
    (hu : P.underlying T = some d) (hd : d.isRow = true) (hi : (P.info? T).map (·.size) = some cs.length) (hc : w.rangeAt B 0 cs) : (results fn tmps).run P w = .ok (.tuple #[.agg cs.toArray, x]) w := by
  have hl := run_loadVar_mid (P := P) w B 0 T cs d hc hu hd hi
  unfold results
  rw [hr]
  have hp2 : (tmps[c]?).getD undef = .pointer (some ⟨B, 0, none⟩) := by simpa [Array.getD_eq_getD_getElem?] using hp
  have hx2 : (tmps[t]?).getD undef = x := by simpa [Array.getD_eq_getD_getElem?] using hx
  simp [hp2, hx2, asAddr, hl]
theorem wp_letter {P : Program} {c : Code} {Q : Exit → Act → World → Prop} {a : Act} {wx : World} (R : World → Prop) (h : R wx) (k : ∀ wy, R wy → c.wp P Q a wy) : c.wp P Q a wx := k wx h
end Go.Proofs.Ytlbkloamabomcaa
