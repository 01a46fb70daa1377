/- The last step of a statement's row, for every statement of this seat; numbers' bounds. No condition. -/
import Derived.Test.YtlbkloamabomcaaKit
import Derived.ProofKit
import Derived.OpenShut
namespace Go.Proofs.Ytlbkloamabomcaa
open Go.ChangeShapes Go.WideShapes Go.ChangeAt Go.RowKit
section
variable {H : Type} {enc : TypeId × Value → H} {P : Program}
theorem trodAll_below (hl : laidOutB P = true) {W W' : World} (hb : Below W.heap.size W W') : ∀ {ts : List TypeId} {vs : List Value} {ds : List (DataW H)} {ps : List MemPlace},
    (ts.all fun t => P.readableRec t && decide (t < P.types.size)) = true → DataW.TrodAll enc P W 0 (fun _ => true) true ts vs ds ps → (∀ x ∈ ps, x.block < W.heap.size) →
    DataW.TrodAll enc P W' 0 (fun b => decide (b < W.heap.size)) true ts vs ds ps
  | [], _, _, _, _, h, _ => by
    obtain ⟨rfl, rfl, rfl⟩ := trodAll_nil h
    exact trodAll_mk0
  | t :: ts, _, _, _, hr, h, hlt => by
    obtain ⟨v, vs', d, ds', p, q, rfl, rfl, rfl, h0, h1⟩ := trodAll_cons h
    simp only [List.all_cons, Bool.and_eq_true, decide_eq_true_eq] at hr
    exact trodAll_cons_mk (Below.trod hl hr.1.1 hr.1.2 h0 hb fun x hx => hlt x (List.mem_append_left _ hx)) (trodAll_below hl hb hr.2 h1 fun x hx => hlt x (List.mem_append_right _ hx))
theorem law_end {f : Func} {s : ChangeSpec} {apart fresh handsOn : Bool} {W W' : World} {args : Array Value} {ds gs : List (DataW H)} {before : List MemPlace} {tb : TypeId}
    (hW : DataW.Whole enc P f.params.toList s.vars apart W args.toList ds gs before) (hs : s.vars = []) (hfr : (s.fn H (ds ++ gs)).results = [.lit (.bool true)]) (hfa : (s.fn H (ds ++ gs)).args = ds)
    (hfv : (s.fn H (ds ++ gs)).vars = []) (hl : laidOutB P = true) (hread : (f.params.toList.all fun t => P.readableRec t && decide (t < P.types.size)) = true)
    (hrt : f.resultTypes = #[tb]) (htb : P.underlying tb = some .bool) (hb : Below W.heap.size W W') : s.post enc P f apart fresh handsOn false W args (.bool true) W' := by
  have hlt := hW.lt
  obtain ⟨p, q, hA, hV, rfl, _, _⟩ := hW
  have hV' := hV
  rw [hs] at hV
  cases gs with
  | cons g gs => exact absurd hV (by simp [DataW.TrodVars])
  | nil =>
    have hq : q = [] := hV
    subst hq
    refine ⟨ds, [], _, [], p, [], ⟨p, [], hA, hV', rfl, ‹_›, ‹_›⟩, ?_, ?_, ?_, hb.frame _, fun h => by cases h⟩
    · rw [hfr, hrt]
      exact trodAll_cons_mk (shut_bool htb _) trodAll_mk0
    · rw [hfa]
      exact trodAll_below hl hb hread hA fun x hx => hlt x (List.mem_append_left _ hx)
    · rw [hfv, hs]
      rfl
end
theorem nat_u64 {n : Int} (h : (Lit.int .u64 n).wf = true) : ∃ m : Nat, n = m ∧ m < 2 ^ 64 := by
  have h1 : 0 ≤ n ∧ n ≤ 18446744073709551615 := by simpa [Lit.wf, IntKind.min, IntKind.max, IntKind.bits, IntKind.signed] using h
  exact ⟨n.toNat, by omega, by omega⟩
theorem nat_u32 {n : Int} (h : (Lit.int .u32 n).wf = true) : ∃ m : Nat, n = m ∧ m < 2 ^ 32 := by
  have h1 : 0 ≤ n ∧ n ≤ 4294967295 := by simpa [Lit.wf, IntKind.min, IntKind.max, IntKind.bits, IntKind.signed] using h
  exact ⟨n.toNat, by omega, by omega⟩
theorem nat_u16 {n : Int} (h : (Lit.int .u16 n).wf = true) : ∃ m : Nat, n = m ∧ m < 65536 := by
  have h1 : 0 ≤ n ∧ n ≤ 65535 := by simpa [Lit.wf, IntKind.min, IntKind.max, IntKind.bits, IntKind.signed] using h
  exact ⟨n.toNat, by omega, by omega⟩
theorem nat_u8 {n : Int} (h : (Lit.int .u8 n).wf = true) : ∃ m : Nat, n = m ∧ m < 256 := by
  have h1 : 0 ≤ n ∧ n ≤ 255 := by simpa [Lit.wf, IntKind.min, IntKind.max, IntKind.bits, IntKind.signed] using h
  exact ⟨n.toNat, by omega, by omega⟩
theorem rng_i64 {n : Int} (h : (Lit.int .i64 n).wf = true) : -9223372036854775808 ≤ n ∧ n ≤ 9223372036854775807 := bounds_i64 h
end Go.Proofs.Ytlbkloamabomcaa
