/- The fixed fact of the statements on types: its types as data. No condition. -/
import Derived.Test.YtjioinmiglblmaaKindRefSound
import Derived.Test.YtjioinmiglblmaaKindSame3
import Derived.Laws.OwnMore
namespace Go.Proofs.Ytjioinmiglblmaa
open Go.RowKit Go.Sort
set_option linter.unusedVariables false
set_option linter.unusedSimpArgs false
def tI : Ty 1 := (⟨1, 1, false, [], 0, []⟩ : TyF (Ty 0))
def fA : FdF (Ty 1) := ⟨⟨#[97]⟩, tI, false, 0⟩
def tA (l : List (FdF (Ty 1))) : Ty 2 := (⟨3, 0, false, l, 0, []⟩ : TyF (Ty 1))
theorem aw1 : SoundF 2 (tA [fA]) = 0 := by kernel_rfl
theorem aw2 : SoundF 2 (tA [fA, fA]) = 7 := by kernel_rfl
theorem aw3 : depthF 2 (tA [fA, fA]) 65 = 2 := by kernel_rfl
theorem aw4 : sameF 2 2 (tA [fA, fA]) (tA [fA, fA]) = true := by kernel_rfl
theorem aw5 : nameB ⟨#[97, 95, 49]⟩ = true := by decide
theorem aw6 : nameB ⟨#[49, 97]⟩ = false := by kernel_rfl
/-- the cells of field number i. -/
def FdA (w : World) (b off : Nat) : Prop :=
  w.cell? ⟨b, off, none⟩ = some (.string ⟨#[97]⟩) ∧ w.cell? ⟨b, off + 1, none⟩ = some (.int .i64 1) ∧ w.cell? ⟨b, off + 2, none⟩ = some (.int .i64 1) ∧
    w.cell? ⟨b, off + 3, none⟩ = some (.bool false) ∧ w.cell? ⟨b, off + 4, none⟩ = some (.slice none 0 0) ∧ w.cell? ⟨b, off + 5, none⟩ = some (.int .i64 0) ∧
    w.cell? ⟨b, off + 6, none⟩ = some (.slice none 0 0) ∧ w.cell? ⟨b, off + 7, none⟩ = some (.bool false) ∧ w.cell? ⟨b, off + 8, none⟩ = some (.int .i64 0)
theorem tI_at (w : World) : TyAt w 1 tI ⟨1, 1, false, none, 0, 0, 0, none, 0, 0⟩ :=
  ⟨rfl, rfl, rfl, rfl, rfl, rfl, by unfold rng; decide, by unfold rng; decide, by unfold rng; decide, ⟨by simp, by simp, fun h => by simp at h⟩, ⟨by simp, by simp, fun h => by simp at h⟩⟩
theorem tA_at (w : World) (b fc : Nat) (l : List (FdF (Ty 1))) (hl : ∀ (i : Nat) (f : FdF (Ty 1)), l[i]? = some f → f = fA) (hb : b < w.heap.size) (h1 : l.length ≤ fc) (h2 : fc ≤ 9223372036854775807) (hc : ∀ i, i < l.length → FdA w b (0 + i * 9)) :
    TyAt w 2 (tA l) ⟨3, 0, false, some ⟨b, 0, none⟩, l.length, fc, 0, none, 0, 0⟩ :=
  ⟨rfl, rfl, rfl, rfl, rfl, rfl, (by decide : -9223372036854775808 ≤ (3 : Int) ∧ (3 : Int) ≤ 9223372036854775807), (by decide : -9223372036854775808 ≤ (0 : Int) ∧ (0 : Int) ≤ 9223372036854775807), (by decide : -9223372036854775808 ≤ (0 : Int) ∧ (0 : Int) ≤ 9223372036854775807), ⟨h1, h2, fun _ => ⟨b, 0, rfl, hb, fun i f hi => by
    have hi : l[i]? = some f := hi
    obtain rfl := hl i f hi
    have hlt : i < l.length := by
      rcases Nat.lt_or_ge i l.length with h | h
      · exact h
      · rw [List.getElem?_eq_none h] at hi; simp at hi
    obtain ⟨c0, c1, c2, c3, c4, c5, c6, c7, c8⟩ := hc i hlt
    exact ⟨⟨1, 1, false, none, 0, 0, 0, none, 0, 0⟩, tI_at w, by unfold rng; decide, by decide, c0, c1, c2, c3, c4, c5, c6, c7, c8⟩⟩⟩, ⟨by simp, by simp, fun h => by simp at h⟩⟩
end Go.Proofs.Ytjioinmiglblmaa
