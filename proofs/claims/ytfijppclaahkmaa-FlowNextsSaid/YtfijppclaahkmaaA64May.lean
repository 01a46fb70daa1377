/- Walk: may an instruction be (the document's answer)? Condition: the numbers' bounds. -/
import Derived.Test.YtfijppclaahkmaaA64MayP
import Derived.Test.YtfijppclaahkmaaA64MayQ
namespace Go.Proofs.Ytfijppclaahkmaa
open Go.RowKit Go.Sort
set_option linter.unusedVariables false
set_option linter.unusedSimpArgs false
theorem rmay_empty (i : Ins) (hn : patI i.op = []) (w : World) : Calls Try.prog 28 #[.agg #[.int .i64 i.op, .int .i64 i.d, .int .i64 i.n, .int .i64 i.m, .int .i64 i.e, .int .i64 i.sz, .int .i64 i.imm]] w (Gives w (.bool false)) := by
  have O := Lib.hid (fun W => rpattern_any i.op W)
  rw [hn] at O
  clear hn
  obtain ⟨op, d, n, m, e, sz, imm⟩ := i
  simp only at O ⊢
  have hs : (strB []).toList.isEmpty = true := by rw [ByteArray.toList_eq]; rfl
  go_enter Try.func28, Try.ntmps28
  go_wp2_with (first | (go_at_call 29; refine (O.out _).mono ?_; rintro e w1 ⟨rfl, p1, rfl⟩))
  go_ret
  exact Gives.mk rfl (by repeat (first | exact Below.refl _ _ | refine below_mo ?_ _ | refine below_al ?_ _))
theorem rmay_any (i : Ins) (hi : i.rng) (w : World) : Calls Try.prog 28 #[.agg #[.int .i64 i.op, .int .i64 i.d, .int .i64 i.n, .int .i64 i.m, .int .i64 i.e, .int .i64 i.sz, .int .i64 i.imm]] w (Gives w (.bool (mayB i))) := by
  by_cases hn : patI i.op = []
  · have e1 : mayB i = false := by
      unfold mayB
      rw [hn]
      rfl
    rw [e1]
    exact rmay_empty i hn w
  have M := may_iff i hn
  have F : ∀ {X : Prop}, (mayB i = true → X) → ¬ X → mayB i = false := fun {X} h1 h2 => by
    cases h : mayB i
    · rfl
    · exact absurd (h1 h) h2
  by_cases A0 : 0 ≤ i.d ∧ i.d ≤ 31 ∧ (0 < cntR i.op 100 ∨ i.d = 0)
  case neg =>
    rw [F (fun h => (M.1 h).1) A0]
    exact rmay_0 i hi hn A0 w
  by_cases A1 : 0 ≤ i.n ∧ i.n ≤ 31 ∧ (0 < cntR i.op 110 + cntR i.op 97 ∨ i.n = 0)
  case neg =>
    rw [F (fun h => (M.1 h).2.1) A1]
    exact rmay_1 i hi hn A0 A1 w
  by_cases A2 : 0 ≤ i.m ∧ i.m ≤ 31 ∧ (0 < cntR i.op 109 ∨ i.m = 0)
  case neg =>
    rw [F (fun h => (M.1 h).2.2.1) A2]
    exact rmay_2 i hi hn A0 A1 A2 w
  by_cases A3 : 0 ≤ i.e ∧ i.e ≤ 31 ∧ (0 < cntR i.op 101 + cntR i.op 113 + cntR i.op 107 ∨ i.e = 0)
  case neg =>
    rw [F (fun h => (M.1 h).2.2.2.1) A3]
    exact rmay_3 i hi hn A0 A1 A2 A3 w
  by_cases A4 : 0 ≤ i.sz ∧ i.sz ≤ 3 ∧ (0 < cntR i.op 115 ∨ i.sz = 0)
  case neg =>
    rw [F (fun h => (M.1 h).2.2.2.2.1) A4]
    exact rmay_4 i hi hn A0 A1 A2 A3 A4 w
  have Z : mayB i = true ↔ (¬ (0 < cntR i.op 97 ∧ i.n = 31) ∧ ¬ (0 < cntR i.op 113 + cntR i.op 107 ∧ 3 < i.e) ∧ (0 < cntR i.op 98 → 0 ≤ i.imm ∧ i.imm ≤ 2) ∧ (¬ 0 < cntR i.op 98 → (13 ≤ i.op ∧ i.op ≤ 16) → -((2 ^ ((cntR i.op 105).toNat - 1) : Nat) : Int) ≤ i.imm ∧ i.imm < ((2 ^ ((cntR i.op 105).toNat - 1) : Nat) : Int)) ∧ (¬ 0 < cntR i.op 98 → ¬ (13 ≤ i.op ∧ i.op ≤ 16) → 0 ≤ i.imm ∧ i.imm < ((2 ^ (cntR i.op 105).toNat : Nat) : Int))) := ⟨fun h => (M.1 h).2.2.2.2.2, fun h => M.2 ⟨A0, A1, A2, A3, A4, h⟩⟩
  by_cases q98 : 0 < cntR i.op 98
  · exact rmay_5 i hi hn (mayB i) A0 A1 A2 A3 A4 q98 Z w
  · by_cases qop : 13 ≤ i.op ∧ i.op ≤ 16
    · exact rmay_6 i hi hn (mayB i) A0 A1 A2 A3 A4 ⟨q98, qop⟩ Z w
    · exact rmay_7 i hi hn (mayB i) A0 A1 A2 A3 A4 ⟨q98, qop⟩ Z w
end Go.Proofs.Ytfijppclaahkmaa
