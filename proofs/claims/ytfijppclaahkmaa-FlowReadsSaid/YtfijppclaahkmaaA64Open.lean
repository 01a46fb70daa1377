/- An instruction that came in, opened. No condition. -/
import Derived.Test.YtfijppclaahkmaaA64Enc
import Derived.Test.YtfijppclaahkmaaSlKit
namespace Go.Proofs.Ytfijppclaahkmaa
open Go.ChangeShapes Go.WideShapes Go.ChangeAt Go.RowKit
set_option linter.unusedVariables false
set_option linter.unusedSimpArgs false
theorem in_cells : Try.prog.cellsOf 29 = 7 := by kernel_rfl
theorem tint_cells : Try.prog.cellsOf 3 = 1 := by kernel_rfl
section
variable {H : Type} {enc : TypeId × Value → H} {W : World}
theorem ins_open {r : Reach} {b0 : Nat} {v : Value} {d : DataW H} {p : List MemPlace} (hv : Value.okWide Try.prog W r b0 29 v) (h : DataW.Trod enc Try.prog W 0 (fun _ => true) true 29 v d p) :
    ∃ i : Ins, v = insV i ∧ i.rng := by
  obtain ⟨cs, rfl, _⟩ := okWide_struct Try.underlying29 hv
  obtain ⟨fuel, hf⟩ := h
  obtain ⟨xs, n, rfl, _, hl, hlen, hfs⟩ := DataW.trod_struct Try.underlying29 hf
  rw [in_cells] at hl
  obtain ⟨cl⟩ := cs
  simp [Value.cells] at hl hfs
  match xs, hlen, cl, hl with
  | [y0, y1, y2, y3, y4, y5, y6], _, [v0, v1, v2, v3, v4, v5, v6], _ =>
    have h0 := hfs 0 _ rfl
    have h1 := hfs 1 _ rfl
    have h2 := hfs 2 _ rfl
    have h3 := hfs 3 _ rfl
    have h4 := hfs 4 _ rfl
    have h5 := hfs 5 _ rfl
    have h6 := hfs 6 _ rfl
    simp [tint_cells] at h0 h1 h2 h3 h4 h5 h6
    obtain ⟨k0, e0, _, w0⟩ := DataW.trod_int Try.underlying3 h0
    obtain ⟨k1, e1, _, w1⟩ := DataW.trod_int Try.underlying3 h1
    obtain ⟨k2, e2, _, w2⟩ := DataW.trod_int Try.underlying3 h2
    obtain ⟨k3, e3, _, w3⟩ := DataW.trod_int Try.underlying3 h3
    obtain ⟨k4, e4, _, w4⟩ := DataW.trod_int Try.underlying3 h4
    obtain ⟨k5, e5, _, w5⟩ := DataW.trod_int Try.underlying3 h5
    obtain ⟨k6, e6, _, w6⟩ := DataW.trod_int Try.underlying3 h6
    simp at e0 e1 e2 e3 e4 e5 e6
    subst e0 e1 e2 e3 e4 e5 e6
    refine ⟨⟨k0, k1, k2, k3, k4, k5, k6⟩, rfl, fun k hk => ?_⟩
    match k, hk with
    | 0, _ => exact rng_i64 w0
    | 1, _ => exact rng_i64 w1
    | 2, _ => exact rng_i64 w2
    | 3, _ => exact rng_i64 w3
    | 4, _ => exact rng_i64 w4
    | 5, _ => exact rng_i64 w5
    | 6, _ => exact rng_i64 w6
end
end Go.Proofs.Ytfijppclaahkmaa
