/- What the listed variable's condition gives the walks: the library's table is laid. No condition. -/
import Derived.Test.YtgghhbjaokgeeaaDoorRelTz
import Derived.Test.YtgghhbjaokgeeaaDoorRows
import Derived.ProofKit
import Derived.LaidMore
import Derived.OpenShut
import Derived.Stop.Joined
namespace Go.Proofs.YtgghhbjaokgeeaaDoor
open Go.ChangeShapes Go.WideShapes Go.ChangeAt Go.WideMaps Go.WideElems Go.RowKit
abbrev laidT : List (String × DataW Unit) := [("math/bits.deBruijn64tab", Rows.laid_math_bits_deBruijn64tab)]
theorem gTab : Tryd.prog.globalNamed "math/bits.deBruijn64tab" = some 0 := by kernel_rfl
theorem tTab : (Tryd.prog.globals[0]?).map (·.type) = some 57 := by kernel_rfl
theorem laid_eq : (Rows.laid_math_bits_deBruijn64tab : DataW Unit) = .agg (Lib.deBruijn64tab.map fun n => .lit (.int .u8 (n : Nat))) := by rfl
theorem of_laid {W : World} (h : laidMetH Tryd.prog laidT W) : Tab W := by
  rw [MakeChecks.laidMetH_plain _ _ _ (by kernel_rfl)] at h
  obtain ⟨ps, ⟨g0, t0, cs0, f0, p0, q0, hg0, ht0, hv0, hd0, _⟩, _, _⟩ := h
  obtain rfl := Option.some.inj (gTab.symm.trans hg0)
  obtain rfl := Option.some.inj (tTab.symm.trans ht0)
  obtain ⟨xs, m1, rfl, hx1, hlen, hn3, hel⟩ := DataW.trod_array Tryd.underlying57 hd0
  have c1 : Tryd.prog.cellsOf 5 = 1 := by kernel_rfl
  rw [laid_eq] at hx1
  simp only [Prod.mk.injEq, DataW.agg.injEq] at hx1
  intro j hj
  have hjl : j < Lib.deBruijn64tab.length := by simpa [Lib.deBruijn64tab] using hj
  have hel := hel j hj
  rw [List.getElem?_eq_getElem (by omega : j < xs.length)] at hel
  obtain ⟨k, e1, e2, _⟩ := DataW.trod_int Tryd.underlying5 hel
  have hk : k = (Lib.deBruijn64tab.getD j 0 : Nat) := by
    have h1 := congrArg (fun l => l[j]?) hx1.1
    simp only [List.getElem?_map] at h1
    rw [List.getElem?_eq_getElem (by omega : j < xs.length), List.getElem?_eq_getElem hjl] at h1
    simp [e2] at h1
    rw [List.getD_eq_getElem?_getD, List.getElem?_eq_getElem hjl]
    simp [h1]
  subst hk
  have hc := World.var?_cell hg0 hv0 j
  obtain ⟨l1⟩ := cs0
  rw [c1] at e1
  simp at e1
  have h2 : l1[j]? = some (.int .u8 (Lib.deBruijn64tab.getD j 0 : Nat)) := by
    have := congrArg (fun l => l[0]?) e1
    rw [List.getD_eq_getElem?_getD]
    simpa [List.getElem?_take, List.getElem?_drop] using this
  rw [hc]
  simpa using h2
end Go.Proofs.YtgghhbjaokgeeaaDoor
