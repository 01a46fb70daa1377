/- What the document's walk over a group's fields finds. No condition. -/
import Derived.Test.YtlbkloamabomcaaKindSound3
import Derived.Test.YtlbkloamabomcaaKindRefName
namespace Go.Proofs.Ytlbkloamabomcaa
open Go.RowKit Go.Sort
set_option linter.unusedVariables false
/-- what the walk over fields finds. -/
def FieldsIn (F : Nat) (w : World) (b off fl fc : Nat) (rp : Bool) (nm : Nat → ByteArray) (g : Nat → Int) : Prop :=
  ∀ i, i < fl → ∃ (s : ByteArray) (q : Raw) (bt : Bool) (wd e : Int), FieldIn w b off fl fc i s q bt wd nm ∧
    (∀ W, Below w.heap.size w W → Calls Try.prog F #[.agg #[.int .i64 q.kind, .int .i64 q.size, .bool q.packed, .slice q.fa q.fl q.fc, .int .i64 q.count, .slice q.ea q.el q.ec]] W (Gives W (.int .i64 e))) ∧
    (e = 0 → q.kind = 1 → 1 ≤ q.size ∧ q.size ≤ 8) ∧ g i = fieldE rp s (anyB nm s i) e bt wd q.kind q.size
theorem anyB_none (nm : Nat → ByteArray) (s : ByteArray) (m : Nat) (ha : ∀ j, j < m → ((nm j).toList == s.toList) = false) : anyB nm s m = false := by
  unfold anyB
  rw [List.any_eq_false]
  intro j hj
  simpa using ha j (List.mem_range.1 hj)
theorem anyB_hit (nm : Nat → ByteArray) (s : ByteArray) (m k : Nat) (hk : k < m) (h : ((nm k).toList == s.toList) = true) : anyB nm s m = true := by
  unfold anyB
  rw [List.any_eq_true]
  exact ⟨k, List.mem_range.2 hk, h⟩
end Go.Proofs.Ytlbkloamabomcaa
