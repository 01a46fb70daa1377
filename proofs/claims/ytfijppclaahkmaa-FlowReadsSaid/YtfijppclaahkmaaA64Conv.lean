/- A text's bytes as a slice: where they lie. No condition. -/
import Derived.Test.YtfijppclaahkmaaA64Of
import Derived.Lib.ConvBytes
namespace Go.Proofs.Ytfijppclaahkmaa
open Go.RowKit Go.Sort
set_option linter.unusedVariables false
set_option linter.unusedSimpArgs false
theorem bytes_below (w : World) (e : TypeId) (s : ByteArray) : Below w.heap.size w (Lib.bytesWorld w e s) :=
  ⟨rfl, rfl, rfl, by rw [Lib.bytesWorld_size]; omega, fun k hk => Lib.bytesWorld_at_old w e s k hk⟩
theorem strB_size (ls : List Nat) : (strB ls).size = ls.length := by
  unfold strB
  simp [ByteArray.size]
theorem conv_any (w : World) (B : Nat) (hB : w.heap.size = B) (ls : List Nat) (hl : ∀ c ∈ ls, c < 256) : ∃ (c : Nat) (wb : World), (convert 9 79 (.string (strB ls))).run Try.prog w = .ok (.slice (some ⟨B, 0, none⟩) ls.length c) wb ∧
    Below w.heap.size w wb ∧ wb.heap.size = B + 1 ∧ ∀ (j x : Nat), ls[j]? = some x → wb.cell? ⟨B, j, none⟩ = some (.int .u8 x) := by
  subst hB
  have h := Lib.run_convert_string_bytes (P := Try.prog) w 9 79 5 (strB ls) Try.underlying9 Try.underlying79 Try.underlying5
  rw [strB_size] at h
  refine ⟨_, _, h, bytes_below _ _ _, Lib.bytesWorld_size _ _ _, fun j x hx => ?_⟩
  obtain ⟨hj, hx2⟩ := List.getElem?_eq_some_iff.mp hx
  rw [Lib.bytesWorld_cell _ _ _ j (by rw [strB_size]; exact hj)]
  have hlt := hl x (List.mem_of_getElem? hx)
  have e : (strB ls).data.toList.getD j 0 = UInt8.ofNat x := by
    unfold strB
    simp [List.getD, hx]
  rw [e]
  have : (UInt8.ofNat x).toNat = x := by simp; omega
  rw [this]
end Go.Proofs.Ytfijppclaahkmaa
