/- Walk: the fixed fact. No condition. -/
import Derived.Test.YtfijppclaahkmaaFlowNextB
import Derived.Test.YtfijppclaahkmaaFlowAsk
import Derived.Test.YtfijppclaahkmaaFlowRow
namespace Go.Proofs.Ytfijppclaahkmaa
open Go.RowKit Go.Sort
set_option linter.unusedVariables false
set_option linter.unusedSimpArgs false
def sAw : St := ⟨fun k => if k = 1 then 5 else if k = 2 then 7 else 0, 3, false, false, 0, 0⟩
def iAdd : Ins := ⟨3, 0, 1, 2, 0, 0, 0⟩
def iStr : Ins := ⟨18, 1, 2, 0, 0, 1, 3⟩
def fAw : Nat → Value := upd (upd sP3.f 1 (.int .u64 5)) 2 (.int .u64 7)
theorem fAw_eq : stC fAw = stC sAw.f := by kernel_rfl
theorem sAw_ok : sAw.ok := by
  refine ⟨fun k => ?_, by unfold rngI sAw; simp, by unfold rngI sAw; simp, by unfold rngI sAw; simp⟩
  unfold sAw
  simp only
  split
  · omega
  · split <;> omega
theorem ins_small (i : Ins) (h : (List.range 7).all (fun k => decide (0 ≤ i.get k) && decide (i.get k ≤ 100)) = true) : i.rng := fun k hk => by
  have := List.all_eq_true.1 h k (List.mem_range.2 hk)
  simp at this
  unfold rngI
  omega
theorem enc_add : ∃ v, enc iAdd = some v := Option.isSome_iff_exists.1 (by decide +kernel)
theorem enc_str : ∃ v, enc iStr = some v := Option.isSome_iff_exists.1 (by decide +kernel)
theorem t0_aw : (nextS sAw iAdd 0 0 true).f 0 = .int .u64 12 := by kernel_rfl
theorem t31_aw : (nextS sAw iAdd 0 0 true).f 31 = .int .i64 4 := by kernel_rfl
theorem ask_aw : accV (wrB iStr.op) (spanA sAw iStr) (lenI iStr) (exB iStr.op) (acqB iStr.op) (relB iStr.op) (ask0 sAw iStr) (ask1 sAw iStr) = accV true 13 2 false false false 5 0 := by kernel_rfl
theorem st_new2 (w : World) (s : St) (f : Nat → Value) (t : TypeId) (h : stC f = stC s.f) : StAt (w.alloc (.cells (stC f) t)) w.heap.size s := by
  rw [h]
  exact st_new w s t
end Go.Proofs.Ytfijppclaahkmaa
