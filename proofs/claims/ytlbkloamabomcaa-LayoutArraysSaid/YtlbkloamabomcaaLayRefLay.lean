/- Walk: where a group's fields lie, bit by bit: the document's Lay. Conditions: the type lies in memory and is sound. -/
import Derived.Test.YtlbkloamabomcaaLayRefLay3
import Derived.Test.YtlbkloamabomcaaLayRefLay4
namespace Go.Proofs.Ytlbkloamabomcaa
open Go.RowKit Go.Sort
set_option linter.unusedVariables false
set_option linter.unusedSimpArgs false
theorem lay_step (n : Nat) (LYI : ∀ (t : Ty n) (r : Raw) (w : World), soundF n t = 0 → TyAt w n t r → Calls Try.prog 16 #[r.val] w (LayC n t w))
    (t : TyF (Ty n)) (r : Raw) (w : World) (hs : soundF (n + 1) t = 0) (hk : t.kind = 3 ∨ t.kind = 4) (hT : TyAt w (n + 1) t r) :
    Calls Try.prog 16 #[r.val] w (LayC (n + 1) t w) := by
  rcases hk with hk | hk
  · exact lay_step3 n LYI t r w hs hk hT
  · exact lay_step4 n LYI t r w hs hk hT
end Go.Proofs.Ytlbkloamabomcaa
