/- A map of the call's own from numbers to numbers. No condition. -/
import Derived.Test.YtajaglhlmoblnaaLiveIv
import Derived.Maps.OwnSet
namespace Go.Proofs.Ytajaglhlmoblnaa
open Go.RowKit Go.Sort Go.Maps
set_option linter.unusedVariables false
set_option linter.unusedSimpArgs false
/-- block B is a map of at most n entries; at r there is this number, or nothing. -/
def IMap (w : World) (B n : Nat) (am : Int → Option Int) : Prop :=
  ∃ D : DataW Unit, w.ownsMap Try.prog 3 (plainElem Try.prog 3) B n D ∧ (∀ r, Maps.has D (.int .i64 r) = (am r).isSome) ∧ ∀ r v, am r = some v → D.atKey (.int .i64 r) (.lit (.int .i64 0)) = .lit (.int .i64 v)
theorem imap_made (w : World) : IMap (w.alloc (.map #[] 0)) w.heap.size 0 (fun _ => none) := ⟨_, World.ownsMap_made _ _ _ _, fun _ => rfl, fun _ _ h => by cases h⟩
theorem IMap.lt {w : World} {B n : Nat} {am : Int → Option Int} (h : IMap w B n am) : B < w.heap.size := by
  obtain ⟨D, h, _⟩ := h
  exact h.lt
theorem IMap.keep {w w' : World} {B n : Nat} {am : Int → Option Int} (h : IMap w B n am) (hk : w'.heap[B]? = w.heap[B]?) : IMap w' B n am := by
  obtain ⟨D, ⟨es, clock, hb, r⟩, hD⟩ := h
  exact ⟨D, ⟨es, clock, hk.trans hb, r⟩, hD⟩
theorem IMap.below {w w' : World} {B n : Nat} {am : Int → Option Int} (h : IMap w B n am) (hb : Below w.heap.size w w') : IMap w' B n am := h.keep (hb.block B h.lt)
theorem IMap.mono {w : World} {B n m : Nat} {am : Int → Option Int} (h : IMap w B n am) (hm : n ≤ m) : IMap w B m am := by
  obtain ⟨D, h, hD⟩ := h
  exact ⟨D, h.mono hm, hD⟩
theorem IMap.look {w : World} {B n : Nat} {am : Int → Option Int} (h : IMap w B n am) (r : Int) (hr : (Lit.int .i64 r).wf = true) :
    ∃ c : Int, (Instr.lookup 49 (.map (some B)) (.int .i64 r) true).run Try.prog w = .ok (.tuple #[.int .i64 c, .bool (am r).isSome]) w ∧ ∀ v, am r = some v → c = v := by
  obtain ⟨D, h, hh, hD⟩ := h
  obtain ⟨v, ps, hrun, hv⟩ := h.look_ok (int_keyed Try.underlying3) Try.underlying49 (z := .int .i64 0) (by kernel_rfl) (zd := .lit (.int .i64 0)) (zp := []) (plainElem_int Try.underlying3 (by decide)) (keyOf_int_mk Try.underlying3 hr)
  obtain ⟨c, rfl, hc, _⟩ := plainElem_int_inv Try.underlying3 hv
  rw [hh r] at hrun
  refine ⟨c, hrun, fun v hv => ?_⟩
  have := congrArg Prod.fst hc
  rw [show (D.atKey (.int .i64 r) (.lit (.int .i64 0)), ps).1 = D.atKey (.int .i64 r) (.lit (.int .i64 0)) from rfl, hD r v hv] at this
  simp at this
  exact this.symm
theorem IMap.store {w : World} {B n : Nat} {am : Int → Option Int} (h : IMap w B n am) (hn : n < maxLen) (r : Int) (hr : (Lit.int .i64 r).wf = true) (v : Int) (hv : (Lit.int .i64 v).wf = true) :
    ∃ w', (Instr.mapUpdate 49 (.map (some B)) (.int .i64 r) (.int .i64 v)).run Try.prog w = .ok () w' ∧ IMap w' B (n + 1) (fun q => if q = r then some v else am q) ∧ w.grownBy w' (some B) := by
  obtain ⟨D, h, hh, hD⟩ := h
  obtain ⟨w', hrun, ho, hg⟩ := h.update (int_keyed Try.underlying3) Try.underlying49 hn (keyOf_int_mk Try.underlying3 hr) (plainElem_int Try.underlying3 hv)
  refine ⟨w', hrun, ⟨_, ho, fun q => ?_, fun q u hq => ?_⟩, hg⟩
  · by_cases hqr : q = r
    · subst hqr
      simp only [if_true, Option.isSome_some]
      exact Maps.has_put_same h.isMap (by trivial) _
    · simp only [if_neg hqr]
      rw [Maps.has_put_other (fun e => hqr (by simpa using e))]
      exact hh q
  · by_cases hqr : q = r
    · subst hqr
      simp only [if_true] at hq
      obtain rfl := Option.some.inj hq
      exact Maps.atKey_put_same h.isMap (by trivial) _ _
    · simp only [if_neg hqr] at hq
      rw [Maps.atKey_put_other (fun e => hqr (by simpa using e))]
      exact hD q u hq
theorem wpList_iput {w : World} {ops : Array Oper} {rest : List Oper} {o : Oper} {a : Act} {Q : Exit → Act → World → Prop}
    (hg : o.guard = none) (m x v : Operand) (hop : o.op = Op.mapUpdate 49 m x v) (B n : Nat) (am : Int → Option Int) (hm : a.eval m = .map (some B)) (hp : IMap w B n am) (hn : n < maxLen) (r : Int) (hx : a.eval x = .int .i64 r) (hr : (Lit.int .i64 r).wf = true) (u : Int) (hv : a.eval v = .int .i64 u) (hu : (Lit.int .i64 u).wf = true)
    (hK : ∀ w', IMap w' B (n + 1) (fun q => if q = r then some u else am q) → w.grownBy w' (some B) → wpList Try.prog ops Q rest (a.put o.dst undef) w') :
    wpList Try.prog ops Q (o :: rest) a w := by
  refine wpList_plain hg fun K' hK' => ?_
  obtain ⟨w', hrun, r1, r2⟩ := hp.store hn r hr u hu
  unfold Oper.wp
  simp [execOp, hop, hm, hx, hv]
  rw [hrun]
  simp [Result.andThen]
  exact hK' _ _ (hK w' r1 r2)
end Go.Proofs.Ytajaglhlmoblnaa
