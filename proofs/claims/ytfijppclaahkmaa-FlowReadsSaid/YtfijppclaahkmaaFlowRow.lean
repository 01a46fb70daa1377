/- Whole threads in variables: made, stored, read. No condition. -/
import Derived.Test.YtfijppclaahkmaaFlowNextA
namespace Go.Proofs.Ytfijppclaahkmaa
open Go.RowKit Go.Sort
set_option linter.unusedVariables false
set_option linter.unusedSimpArgs false
def sP3 : St := { St.zero with pc := 3 }
theorem wpList_build_pc (s : St) (hs : s = sP3) {ops : Array Oper} {rest : List Oper} {op : Oper} {a : Act} {w : World} {Q : Exit → Act → World → Prop} (hgd : op.guard = none) (ho : op.op = .build 27 #[(1, .const (.int .i64 3))])
    (h : wpList Try.prog ops Q rest (a.put op.dst (stV s)) w) : wpList Try.prog ops Q (op :: rest) a w :=
  wpList_plain hgd fun K hK => by
    subst hs
    have e : ∀ W, (Instr.build 27 #[(1, .int .i64 3)]).run Try.prog W = .ok (stV sP3) W := fun W => by kernel_rfl
    unfold Oper.wp execOp
    simp only [ho, List.map_toArray, List.map_cons, List.map_nil, Act.eval, Sem.run_bind, Sem.run_pure, Result.andThen_ok, e]
    exact hK _ _ h
theorem wpList_alloc_st {ops : Array Oper} {rest : List Oper} {op : Oper} {a : Act} {w : World} {Q : Exit → Act → World → Prop} (hgd : op.guard = none) (ho : op.op = .alloc 27)
    (h : wpList Try.prog ops Q rest (a.put op.dst (.pointer (some ⟨w.heap.size, 0, none⟩))) (w.alloc (.cells (stC St.zero.f) 27))) : wpList Try.prog ops Q (op :: rest) a w :=
  wpList_plain hgd fun K hK => by
    have e := zero_st
    unfold Oper.wp execOp
    unfold stV at e
    simp only [ho, Instr.alloc, newVar, Sem.run_bind, Sem.run_pure, Result.andThen_ok, e]
    exact hK _ _ h
theorem wpList_store_new {ops : Array Oper} {rest : List Oper} {op : Oper} {a : Act} {w : World} {Q : Exit → Act → World → Prop} {s : St} {f : Nat → Value} {b : Nat} (x y : Operand) (hgd : op.guard = none) (ho : op.op = .store 27 x y) (hx : a.eval x = .pointer (some ⟨b, 0, none⟩)) (hb : b = w.heap.size) (hy : a.eval y = stV s)
    (h : wpList Try.prog ops Q rest (a.put op.dst undef) (w.alloc (.cells (stC s.f) 27))) : wpList Try.prog ops Q (op :: rest) a (w.alloc (.cells (stC f) 27)) :=
  wpList_plain hgd fun K hK => by
    subst hb
    have e := run_storeAt_new (P := Try.prog) w 27 (stC f) (stC s.f) (by rw [stC_size]; exact info_st) (by rw [stC_size, stC_size]) (stC_one s)
    unfold Oper.wp execOp
    unfold stV at hy
    simp only [ho, hx, hy, Sem.run_bind, Sem.run_pure, Result.andThen_ok, e]
    exact hK _ _ h
end Go.Proofs.Ytfijppclaahkmaa
