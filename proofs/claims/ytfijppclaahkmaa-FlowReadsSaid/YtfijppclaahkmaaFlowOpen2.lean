/- Two numbers side by side that came in, opened. No condition. -/
import Derived.Test.YtfijppclaahkmaaFlowOpen
namespace Go.Proofs.Ytfijppclaahkmaa
open Go.ChangeShapes Go.WideShapes Go.ChangeAt Go.RowKit
set_option linter.unusedVariables false
set_option linter.unusedSimpArgs false
section
variable {H : Type} {enc : TypeId × Value → H} {W : World}
theorem two_open {r : Reach} {b0 : Nat} {v : Value} {d : DataW H} {p : List MemPlace} (hv : Value.okWide Try.prog W r b0 30 v) (h : DataW.Trod enc Try.prog W 0 (fun _ => true) true 30 v d p) :
    ∃ g : Nat × Nat, v = .agg #[.int .u64 (g.1 : Nat), .int .u64 (g.2 : Nat)] ∧ g.1 < 18446744073709551616 ∧ g.2 < 18446744073709551616 := by
  have hv2 := hv
  simp only [Value.okWide, Try.underlying30] at hv2
  obtain ⟨cs, rfl, _⟩ := hv2
  obtain ⟨fuel, hf⟩ := h
  obtain ⟨ys, n2, rfl, _, hl2, hlen2, hfs2⟩ := DataW.trod_array Try.underlying30 hf
  simp only [tu64_cells, Nat.mul_one] at hfs2 hl2
  obtain ⟨cl⟩ := cs
  simp [Value.cells] at hl2 hfs2
  have hx : ∀ k, k < 2 → ∃ m : Nat, cl[k]? = some (.int .u64 (m : Int)) ∧ m < 2 ^ 64 := by
    intro k hk
    have hk2 := hfs2 k hk
    rw [List.getElem?_eq_getElem (by rw [hlen2]; exact hk)] at hk2
    obtain ⟨q, eq, _, wq⟩ := DataW.trod_int Try.underlying22 hk2
    obtain ⟨m, rfl, hm⟩ := nat_u64 wq
    exact ⟨m, take_one eq, hm⟩
  obtain ⟨a, ha, ha2⟩ := hx 0 (by omega)
  obtain ⟨b, hb, hb2⟩ := hx 1 (by omega)
  have hl3 : cl.length = 2 := by rw [hl2]; kernel_rfl
  have he : cl = [.int .u64 (a : Nat), .int .u64 (b : Nat)] := by
    apply List.ext_getElem?
    intro k
    match k with
    | 0 => exact ha
    | 1 => exact hb
    | k + 2 => rw [List.getElem?_eq_none (by omega), List.getElem?_eq_none (by simp)]
  subst he
  exact ⟨(a, b), rfl, ha2, hb2⟩
end
end Go.Proofs.Ytfijppclaahkmaa
