/- A slice of bytes that came in, opened. No condition. -/
import Derived.Test.YtigbdndjlkmemaaBitsLaws3
import Derived.Test.YtigbdndjlkmemaaLawKit
namespace Go.Proofs.Ytigbdndjlkmemaa
open Go.ChangeShapes Go.WideShapes Go.ChangeAt Go.RowKit
theorem u8_cells : Try.prog.cellsOf 5 = 1 := by kernel_rfl
theorem lt_of_cell {w : World} {b o : Nat} {v : Value} (h : w.cell? ⟨b, o, none⟩ = some v) : b < w.heap.size := by
  rcases Nat.lt_or_ge b w.heap.size with hlt | hge
  · exact hlt
  · have : w.heap[b]? = none := Array.getElem?_eq_none hge
    simp [World.cell?, this] at h
theorem byteSl_open {H : Type} {enc : TypeId × Value → H} {W : World} {r : Reach} {b0 : Nat} {v : Value} {d : DataW H} {p : List MemPlace}
    (hv : Value.okWide Try.prog W r b0 29 v) (h : DataW.Trod enc Try.prog W 0 (fun _ => true) true 29 v d p) : ∃ l, ByteSl W v l := by
  obtain ⟨a0, len, cap, rfl⟩ := okWide_slice Try.underlying29 hv
  obtain ⟨fuel, hf⟩ := h
  rcases open_ints Try.underlying29 Try.underlying5 u8_cells hf with ⟨hcs, _⟩ | ⟨a, len', cap', zs, hcs, _, hl, hm, hz, _, hcell, hwz⟩
  · simp [Value.cells] at hcs
    obtain ⟨rfl, rfl, rfl⟩ := hcs
    exact ⟨[], fun k => by simp, .inl ⟨_, 0, rfl, by omega, rfl⟩⟩
  · simp [Value.cells] at hcs
    obtain ⟨rfl, rfl, rfl⟩ := hcs
    unfold maxLen at hm
    simp only [if_true] at hz
    have hs : ∀ k : Nat, 0 ≤ zs.getD k 0 ∧ zs.getD k 0 ≤ 255 := fun k => by
      by_cases h : k < zs.length
      · have := bounds_u8 (hwz zs[k] (List.getElem_mem h))
        simpa [List.getD, h] using this
      · simp [List.getD, h]
    have hg : ∀ k : Nat, k < len → ((zs.take len).map Int.toNat).getD k 0 = (zs.getD k 0).toNat := fun k hk => by
      have : k < zs.length := by omega
      simp [List.getD, hk, this]
    have hsm : Small ((zs.take len).map Int.toNat) := fun k => by
      by_cases h : k < len
      · rw [hg k h]; have := hs k; omega
      · rw [getD_past _ _ (by simp; omega)]; decide
    refine ⟨(zs.take len).map Int.toNat, hsm, ?_⟩
    by_cases h0 : len = 0
    · subst h0
      exact .inl ⟨_, cap, rfl, hm, by simp⟩
    · obtain ⟨b, off, rfl, hc⟩ := ints_at hcell (by omega)
      refine .inr ⟨b, off, len, cap, rfl, by simp; omega, hl, hm, lt_of_cell (hc 0 (by omega)), fun k hk => ?_⟩
      rw [hc k (by omega)]
      unfold byteC
      rw [hg k hk, Int.toNat_of_nonneg (hs k).1]
end Go.Proofs.Ytigbdndjlkmemaa
