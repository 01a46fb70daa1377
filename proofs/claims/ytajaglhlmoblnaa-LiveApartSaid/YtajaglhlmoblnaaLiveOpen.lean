/- A step that came in, opened; steps that came in, opened. No condition. -/
import Derived.Test.YtajaglhlmoblnaaLiveInt0
import Derived.Test.YtajaglhlmoblnaaSlKit
import Derived.Deep.Slices
import Derived.Deep.Fields
import Derived.ChangeSame
namespace Go.Proofs.Ytajaglhlmoblnaa
open Go.ChangeShapes Go.WideShapes Go.ChangeAt Go.RowKit Go.Deep
set_option linter.unusedVariables false
set_option linter.unusedSimpArgs false
theorem op_cells : Try.prog.cellsOf 24 = 13 := by kernel_rfl
theorem tint_cells : Try.prog.cellsOf 3 = 1 := by kernel_rfl
theorem tu64_cells : Try.prog.cellsOf 22 = 1 := by kernel_rfl
section
variable {H : Type} {enc : TypeId × Value → H} {W : World}
theorem lop_of {base : Nat} {sp : Nat → Bool} {hd : Bool} {fuel : Nat} {cs : List Value} {x : DataW H × List MemPlace} (h : DataW.trod enc Try.prog W base sp hd fuel 24 cs = some x) :
    ∃ o : LOp, cs = o.cs.toList ∧ o.ok := by
  obtain ⟨xs, n, _, _, hl, hlen, hfs⟩ := DataW.trod_struct Try.underlying24 h
  rw [op_cells] at hl
  simp at hfs
  match xs, hlen, cs, hl with
  | [y0, y1, y2, y3, y4, y5, y6, y7, y8, y9, y10, y11, y12], _, [v0, v1, v2, v3, v4, v5, v6, v7, v8, v9, v10, v11, v12], _ =>
    have h0 := hfs 0 _ rfl
    have h1 := hfs 1 _ rfl
    have h2 := hfs 2 _ rfl
    have h3 := hfs 3 _ rfl
    have h4 := hfs 4 _ rfl
    have h5 := hfs 5 _ rfl
    have h6 := hfs 6 _ rfl
    have h7 := hfs 7 _ rfl
    have h8 := hfs 8 _ rfl
    have h9 := hfs 9 _ rfl
    have h10 := hfs 10 _ rfl
    have h11 := hfs 11 _ rfl
    have h12 := hfs 12 _ rfl
    simp [tint_cells, tu64_cells] at h0 h1 h2 h3 h4 h5 h6 h7 h8 h9 h10 h11 h12
    obtain ⟨k0, e0, _, w0⟩ := DataW.trod_int Try.underlying3 h0
    obtain ⟨k1, e1, _, w1⟩ := DataW.trod_int Try.underlying3 h1
    obtain ⟨k2, e2, _, w2⟩ := DataW.trod_int Try.underlying3 h2
    obtain ⟨k3, e3, _, w3⟩ := DataW.trod_int Try.underlying3 h3
    obtain ⟨k4, e4, _, w4⟩ := DataW.trod_int Try.underlying3 h4
    obtain ⟨k5, e5, _, w5⟩ := DataW.trod_int Try.underlying3 h5
    obtain ⟨k6, e6, _, w6⟩ := DataW.trod_int Try.underlying22 h6
    obtain ⟨k7, e7, _, w7⟩ := DataW.trod_int Try.underlying3 h7
    obtain ⟨k8, e8, _, w8⟩ := DataW.trod_int Try.underlying3 h8
    obtain ⟨k9, e9, _, w9⟩ := DataW.trod_int Try.underlying3 h9
    obtain ⟨k10, e10, _, w10⟩ := DataW.trod_int Try.underlying3 h10
    obtain ⟨k11, e11, _, w11⟩ := DataW.trod_int Try.underlying3 h11
    obtain ⟨k12, e12, _, w12⟩ := DataW.trod_int Try.underlying3 h12
    simp at e0 e1 e2 e3 e4 e5 e6 e7 e8 e9 e10 e11 e12
    subst e0 e1 e2 e3 e4 e5 e6 e7 e8 e9 e10 e11 e12
    exact ⟨⟨k0, k1, k2, k3, k4, k5, k6, k7, k8, k9, k10, k11, k12⟩, rfl, w3, w4, w5, w1, w2, w10⟩
theorem lop_open {r : Reach} {b0 : Nat} {v : Value} {d : DataW H} {p : List MemPlace} (hv : Value.okWide Try.prog W r b0 24 v) (h : DataW.Trod enc Try.prog W 0 (fun _ => true) true 24 v d p) :
    ∃ o : LOp, v = lopV o ∧ o.ok := by
  obtain ⟨cs, rfl, _⟩ := okWide_struct Try.underlying24 hv
  obtain ⟨fuel, hf⟩ := h
  obtain ⟨o, ho, hok⟩ := lop_of hf
  refine ⟨o, ?_, hok⟩
  unfold lopV
  congr 1
  exact Array.toList_inj.1 (by simpa [Value.cells] using ho)
def op0 : LOp := ⟨1, 0, -1, -1, -1, -1, 0, 0, 0, 0, 0, 0, 0⟩
theorem op0_ok : op0.ok := by unfold op0 LOp.ok wfI; decide
/-- steps that came in. -/
theorem ops_open {r : Reach} {b0 : Nat} {v : Value} {d : DataW H} {p : List MemPlace} (hv : Value.okWide Try.prog W r b0 31 v) (h : DataW.Trod enc Try.prog W 0 (fun _ => true) true 31 v d p) :
    ∃ (A : Option Addr) (X off N cap : Nat) (ops : Nat → LOp), v = .slice A N cap ∧ (0 < N → A = some ⟨X, off, none⟩) ∧ N ≤ cap ∧ cap ≤ 9223372036854775807 ∧ (∀ k, (ops k).ok) ∧ (∀ k, k < N → OAt W X (off + k * 13) (ops k)) := by
  obtain ⟨fuel, hf⟩ := h
  obtain ⟨a0, n0, c0, rfl⟩ := okWide_slice Try.underlying31 hv
  rcases DataW.trod_slice Try.underlying31 hf with h0 | ⟨a, len, cap, elems, rest, n, rfl, hcs, hx, hb, hl, hm, hlen, hel, _, _⟩
  · have h1 := h0.1
    simp [Value.cells] at h1
    obtain ⟨rfl, rfl, rfl⟩ := h1
    exact ⟨none, 0, 0, 0, 0, fun _ => op0, rfl, fun h => by omega, by omega, by omega, fun _ => op0_ok, fun k hk => by omega⟩
  · simp [Value.cells] at hcs
    obtain ⟨rfl, rfl, rfl⟩ := hcs
    have key : ∀ i, ∃ o : LOp, o.ok ∧ (i < n0 → ∀ j v, o.cs.toList[j]? = some v → W.cell? (a.add (i * 13 + j)) = some v) := fun i => by
      by_cases hi : i < n0
      · have := hel i hi
        rw [List.getElem?_eq_getElem (by omega : i < elems.length)] at this
        obtain ⟨cs', h1, h2⟩ := Option.bind_eq_some_iff.1 this
        rw [op_cells] at h1
        obtain ⟨hcl, hcv⟩ := sl_cells h1
        obtain ⟨o, rfl, hok⟩ := lop_of h2
        refine ⟨o, hok, fun _ j v hj => ?_⟩
        rw [← Go.Deep.add_add]
        exact hcv j v hj
      · exact ⟨op0, op0_ok, fun h => absurd h hi⟩
    let ops : Nat → LOp := fun i => Classical.choose (key i)
    have hops : ∀ i, (ops i).ok ∧ (i < n0 → ∀ j v, (ops i).cs.toList[j]? = some v → W.cell? (a.add (i * 13 + j)) = some v) := fun i => Classical.choose_spec (key i)
    clear_value ops
    refine ⟨some a, a.block, a.off, n0, c0, ops, rfl, fun hpos => ?_, hl, by unfold maxLen at hm; exact hm, fun i => (hops i).1, fun k hk => ?_⟩
    · have := (hops 0).2 hpos 0 _ rfl
      rw [show a.add (0 * 13 + 0) = a from rfl] at this
      rw [← sl_spot this]
    · have ha : a = ⟨a.block, a.off, none⟩ := by
        have := (hops 0).2 (by omega) 0 _ rfl
        rw [show a.add (0 * 13 + 0) = a from rfl] at this
        exact sl_spot this
      have hc := (hops k).2 hk
      rw [ha] at hc
      simp only [add_plain] at hc
      unfold OAt
      refine ⟨hc 0 _ rfl, hc 1 _ rfl, hc 2 _ rfl, hc 3 _ rfl, hc 4 _ rfl, hc 5 _ rfl, hc 6 _ rfl, hc 7 _ rfl, hc 8 _ rfl, hc 9 _ rfl, hc 10 _ rfl, hc 11 _ rfl, hc 12 _ rfl⟩
end
end Go.Proofs.Ytajaglhlmoblnaa
