/- The document's 'may' is the program's: operation by operation. No condition. -/
import Derived.Test.YtfijppclaahkmaaA64RefMath
namespace Go.Proofs.Ytfijppclaahkmaa
set_option linter.unusedVariables false
set_option linter.unusedSimpArgs false
def cntR (op : Int) (c : Nat) : Int := ((patI op).count c : Nat)
def regB (x : Int) (on : Bool) (most : Int) : Bool := (decide (0 ≤ x) && decide (x ≤ most)) && (on || x == 0)
def fineB (i : Ins) : Bool := regB i.d (decide (0 < cntR i.op 100)) 31 && regB i.n (decide (0 < cntR i.op 110 + cntR i.op 97)) 31 && regB i.m (decide (0 < cntR i.op 109)) 31 && regB i.e (decide (0 < cntR i.op 101 + cntR i.op 113 + cntR i.op 107)) 31 && regB i.sz (decide (0 < cntR i.op 115)) 3
def immB (i : Ins) : Bool :=
  if 0 < cntR i.op 98 then decide (0 ≤ i.imm) && decide (i.imm ≤ 2)
  else if 13 ≤ i.op ∧ i.op ≤ 16 then decide (-(2 ^ ((cntR i.op 105).toNat - 1) : Nat) ≤ i.imm) && decide (i.imm < (2 ^ ((cntR i.op 105).toNat - 1) : Nat))
  else decide (0 ≤ i.imm) && decide (i.imm < (2 ^ (cntR i.op 105).toNat : Nat))
def mayB (i : Ins) : Bool := !(patI i.op).isEmpty && (fineB i && !(decide (0 < cntR i.op 97) && i.n == 31) && !(decide (0 < cntR i.op 113 + cntR i.op 107) && decide (3 < i.e)) && immB i)
def fitsB (i : Ins) : Bool := (fls i.op).all (fun f => fitF f (i.get f.idx))
def hasB (op : Int) (k : Nat) : Bool := (fls op).any (fun f => f.idx == k)
def zerosB (i : Ins) : Bool := (hasB i.op 1 || i.d == 0) && (hasB i.op 2 || i.n == 0) && (hasB i.op 3 || i.m == 0) && (hasB i.op 4 || i.e == 0) && (hasB i.op 5 || i.sz == 0) && (hasB i.op 6 || i.imm == 0)
theorem has_iff (op : Int) (k : Nat) : hasB op k = true ↔ ∃ f ∈ fls op, f.idx = k := by
  unfold hasB
  rw [List.any_eq_true]
  simp
theorem enc_is (i : Ins) (hl : lets i.op ≠ []) : (enc i).isSome = (fitsB i && zerosB i) := by
  rw [Bool.eq_iff_iff, Option.isSome_iff_exists]
  constructor
  · rintro ⟨w, h⟩
    have h2 := ((enc_some i w).1 h).2
    rw [encL_some _ _ _ (fls_ok _) (fls_pair _)] at h2
    obtain ⟨h3, _, h5⟩ := h2
    rw [Bool.and_eq_true]
    refine ⟨List.all_eq_true.2 h3, ?_⟩
    have g : ∀ k, 0 < k → k < 7 → hasB i.op k = true ∨ i.get k = 0 := fun k h0 hk => by
      have := h5 k hk
      rw [Ins.zero_get _ _ hk, if_neg (by omega)] at this
      by_cases hx : ∃ f ∈ fls i.op, f.idx = k
      · exact .inl ((has_iff _ _).2 hx)
      · rw [if_neg hx] at this
        exact .inr this.symm
    have g1 := g 1 (by omega) (by omega)
    have g2 := g 2 (by omega) (by omega)
    have g3 := g 3 (by omega) (by omega)
    have g4 := g 4 (by omega) (by omega)
    have g5 := g 5 (by omega) (by omega)
    have g6 := g 6 (by omega) (by omega)
    simp only [Ins.get] at g1 g2 g3 g4 g5 g6
    unfold zerosB
    simp only [Bool.and_eq_true, Bool.or_eq_true, beq_iff_eq]
    exact ⟨⟨⟨⟨⟨g1, g2⟩, g3⟩, g4⟩, g5⟩, g6⟩
  · intro h
    rw [Bool.and_eq_true] at h
    obtain ⟨h3, h5⟩ := h
    refine ⟨_, (enc_some i _).2 ⟨hl, (encL_some _ _ _ (fls_ok _) (fls_pair _) _ _).2 ⟨List.all_eq_true.1 h3, rfl, fun k hk => ?_⟩⟩⟩
    unfold zerosB at h5
    simp only [Bool.and_eq_true, Bool.or_eq_true, beq_iff_eq] at h5
    obtain ⟨⟨⟨⟨⟨g1, g2⟩, g3⟩, g4⟩, g5⟩, g6⟩ := h5
    rw [Ins.zero_get _ _ hk]
    have g : ∀ (hx : hasB i.op k = true ∨ i.get k = 0) (h0 : k ≠ 0), (if k = 0 then i.op else 0) = if ∃ f ∈ fls i.op, f.idx = k then 0 else i.get k := fun hx h0 => by
      rw [if_neg h0]
      by_cases hy : ∃ f ∈ fls i.op, f.idx = k
      · rw [if_pos hy]
      · rw [if_neg hy]
        exact (hx.resolve_left (fun e => hy ((has_iff _ _).1 e))).symm
    match k, hk with
    | 0, _ =>
      rw [if_pos rfl, if_neg (fun ⟨f, hf, h⟩ => by have := (fls_ok _ f hf).idx.1; omega)]
      rfl
    | 1, _ => exact g g1 (by omega)
    | 2, _ => exact g g2 (by omega)
    | 3, _ => exact g g3 (by omega)
    | 4, _ => exact g g4 (by omega)
    | 5, _ => exact g g5 (by omega)
    | 6, _ => exact g g6 (by omega)
theorem may_1 (d n m e sz imm : Int) : mayB ⟨1, d, n, m, e, sz, imm⟩ = (enc ⟨1, d, n, m, e, sz, imm⟩).isSome := by
  rw [enc_is ⟨1, d, n, m, e, sz, imm⟩ (lets_some 0 (by omega))]
  have e1 : fls 1 = [⟨0, 5, 1, 0, 31⟩, ⟨5, 16, 6, 0, 65535⟩, ⟨21, 2, 4, 0, 3⟩] := by rfl
  have c100 : cntR 1 100 = 5 := by decide
  have c110 : cntR 1 110 = 0 := by decide
  have c97 : cntR 1 97 = 0 := by decide
  have c109 : cntR 1 109 = 0 := by decide
  have c101 : cntR 1 101 = 0 := by decide
  have c113 : cntR 1 113 = 2 := by decide
  have c107 : cntR 1 107 = 0 := by decide
  have c115 : cntR 1 115 = 0 := by decide
  have c98 : cntR 1 98 = 0 := by decide
  have c105 : cntR 1 105 = 16 := by decide
  have pe : (patI 1).isEmpty = false := by decide
  rw [Bool.eq_iff_iff]
  simp only [mayB, fineB, immB, regB, fitsB, zerosB, hasB, e1, pe, c100, c110, c97, c109, c101, c113, c107, c115, c98, c105, List.all_cons, List.all_nil, List.any_cons, List.any_nil]
  simp [fitF, Ins.get]
  try omega
theorem may_2 (d n m e sz imm : Int) : mayB ⟨2, d, n, m, e, sz, imm⟩ = (enc ⟨2, d, n, m, e, sz, imm⟩).isSome := by
  rw [enc_is ⟨2, d, n, m, e, sz, imm⟩ (lets_some 1 (by omega))]
  have e1 : fls 2 = [⟨0, 5, 1, 0, 31⟩, ⟨5, 16, 6, 0, 65535⟩, ⟨21, 2, 4, 0, 3⟩] := by rfl
  have c100 : cntR 2 100 = 5 := by decide
  have c110 : cntR 2 110 = 0 := by decide
  have c97 : cntR 2 97 = 0 := by decide
  have c109 : cntR 2 109 = 0 := by decide
  have c101 : cntR 2 101 = 0 := by decide
  have c113 : cntR 2 113 = 2 := by decide
  have c107 : cntR 2 107 = 0 := by decide
  have c115 : cntR 2 115 = 0 := by decide
  have c98 : cntR 2 98 = 0 := by decide
  have c105 : cntR 2 105 = 16 := by decide
  have pe : (patI 2).isEmpty = false := by decide
  rw [Bool.eq_iff_iff]
  simp only [mayB, fineB, immB, regB, fitsB, zerosB, hasB, e1, pe, c100, c110, c97, c109, c101, c113, c107, c115, c98, c105, List.all_cons, List.all_nil, List.any_cons, List.any_nil]
  simp [fitF, Ins.get]
  try omega
theorem may_3 (d n m e sz imm : Int) : mayB ⟨3, d, n, m, e, sz, imm⟩ = (enc ⟨3, d, n, m, e, sz, imm⟩).isSome := by
  rw [enc_is ⟨3, d, n, m, e, sz, imm⟩ (lets_some 2 (by omega))]
  have e1 : fls 3 = [⟨0, 5, 1, 0, 31⟩, ⟨5, 5, 2, 0, 31⟩, ⟨16, 5, 3, 0, 31⟩] := by rfl
  have c100 : cntR 3 100 = 5 := by decide
  have c110 : cntR 3 110 = 5 := by decide
  have c97 : cntR 3 97 = 0 := by decide
  have c109 : cntR 3 109 = 5 := by decide
  have c101 : cntR 3 101 = 0 := by decide
  have c113 : cntR 3 113 = 0 := by decide
  have c107 : cntR 3 107 = 0 := by decide
  have c115 : cntR 3 115 = 0 := by decide
  have c98 : cntR 3 98 = 0 := by decide
  have c105 : cntR 3 105 = 0 := by decide
  have pe : (patI 3).isEmpty = false := by decide
  rw [Bool.eq_iff_iff]
  simp only [mayB, fineB, immB, regB, fitsB, zerosB, hasB, e1, pe, c100, c110, c97, c109, c101, c113, c107, c115, c98, c105, List.all_cons, List.all_nil, List.any_cons, List.any_nil]
  simp [fitF, Ins.get]
  try omega
theorem may_4 (d n m e sz imm : Int) : mayB ⟨4, d, n, m, e, sz, imm⟩ = (enc ⟨4, d, n, m, e, sz, imm⟩).isSome := by
  rw [enc_is ⟨4, d, n, m, e, sz, imm⟩ (lets_some 3 (by omega))]
  have e1 : fls 4 = [⟨0, 5, 1, 0, 31⟩, ⟨5, 5, 2, 0, 31⟩, ⟨16, 5, 3, 0, 31⟩] := by rfl
  have c100 : cntR 4 100 = 5 := by decide
  have c110 : cntR 4 110 = 5 := by decide
  have c97 : cntR 4 97 = 0 := by decide
  have c109 : cntR 4 109 = 5 := by decide
  have c101 : cntR 4 101 = 0 := by decide
  have c113 : cntR 4 113 = 0 := by decide
  have c107 : cntR 4 107 = 0 := by decide
  have c115 : cntR 4 115 = 0 := by decide
  have c98 : cntR 4 98 = 0 := by decide
  have c105 : cntR 4 105 = 0 := by decide
  have pe : (patI 4).isEmpty = false := by decide
  rw [Bool.eq_iff_iff]
  simp only [mayB, fineB, immB, regB, fitsB, zerosB, hasB, e1, pe, c100, c110, c97, c109, c101, c113, c107, c115, c98, c105, List.all_cons, List.all_nil, List.any_cons, List.any_nil]
  simp [fitF, Ins.get]
  try omega
theorem may_5 (d n m e sz imm : Int) : mayB ⟨5, d, n, m, e, sz, imm⟩ = (enc ⟨5, d, n, m, e, sz, imm⟩).isSome := by
  rw [enc_is ⟨5, d, n, m, e, sz, imm⟩ (lets_some 4 (by omega))]
  have e1 : fls 5 = [⟨0, 5, 1, 0, 31⟩, ⟨5, 5, 2, 0, 31⟩, ⟨16, 5, 3, 0, 31⟩] := by rfl
  have c100 : cntR 5 100 = 5 := by decide
  have c110 : cntR 5 110 = 5 := by decide
  have c97 : cntR 5 97 = 0 := by decide
  have c109 : cntR 5 109 = 5 := by decide
  have c101 : cntR 5 101 = 0 := by decide
  have c113 : cntR 5 113 = 0 := by decide
  have c107 : cntR 5 107 = 0 := by decide
  have c115 : cntR 5 115 = 0 := by decide
  have c98 : cntR 5 98 = 0 := by decide
  have c105 : cntR 5 105 = 0 := by decide
  have pe : (patI 5).isEmpty = false := by decide
  rw [Bool.eq_iff_iff]
  simp only [mayB, fineB, immB, regB, fitsB, zerosB, hasB, e1, pe, c100, c110, c97, c109, c101, c113, c107, c115, c98, c105, List.all_cons, List.all_nil, List.any_cons, List.any_nil]
  simp [fitF, Ins.get]
  try omega
theorem may_6 (d n m e sz imm : Int) : mayB ⟨6, d, n, m, e, sz, imm⟩ = (enc ⟨6, d, n, m, e, sz, imm⟩).isSome := by
  rw [enc_is ⟨6, d, n, m, e, sz, imm⟩ (lets_some 5 (by omega))]
  have e1 : fls 6 = [⟨0, 5, 1, 0, 31⟩, ⟨5, 5, 2, 0, 31⟩, ⟨16, 5, 3, 0, 31⟩] := by rfl
  have c100 : cntR 6 100 = 5 := by decide
  have c110 : cntR 6 110 = 5 := by decide
  have c97 : cntR 6 97 = 0 := by decide
  have c109 : cntR 6 109 = 5 := by decide
  have c101 : cntR 6 101 = 0 := by decide
  have c113 : cntR 6 113 = 0 := by decide
  have c107 : cntR 6 107 = 0 := by decide
  have c115 : cntR 6 115 = 0 := by decide
  have c98 : cntR 6 98 = 0 := by decide
  have c105 : cntR 6 105 = 0 := by decide
  have pe : (patI 6).isEmpty = false := by decide
  rw [Bool.eq_iff_iff]
  simp only [mayB, fineB, immB, regB, fitsB, zerosB, hasB, e1, pe, c100, c110, c97, c109, c101, c113, c107, c115, c98, c105, List.all_cons, List.all_nil, List.any_cons, List.any_nil]
  simp [fitF, Ins.get]
  try omega
theorem may_7 (d n m e sz imm : Int) : mayB ⟨7, d, n, m, e, sz, imm⟩ = (enc ⟨7, d, n, m, e, sz, imm⟩).isSome := by
  rw [enc_is ⟨7, d, n, m, e, sz, imm⟩ (lets_some 6 (by omega))]
  have e1 : fls 7 = [⟨0, 5, 1, 0, 31⟩, ⟨5, 5, 2, 0, 31⟩, ⟨16, 5, 3, 0, 31⟩] := by rfl
  have c100 : cntR 7 100 = 5 := by decide
  have c110 : cntR 7 110 = 5 := by decide
  have c97 : cntR 7 97 = 0 := by decide
  have c109 : cntR 7 109 = 5 := by decide
  have c101 : cntR 7 101 = 0 := by decide
  have c113 : cntR 7 113 = 0 := by decide
  have c107 : cntR 7 107 = 0 := by decide
  have c115 : cntR 7 115 = 0 := by decide
  have c98 : cntR 7 98 = 0 := by decide
  have c105 : cntR 7 105 = 0 := by decide
  have pe : (patI 7).isEmpty = false := by decide
  rw [Bool.eq_iff_iff]
  simp only [mayB, fineB, immB, regB, fitsB, zerosB, hasB, e1, pe, c100, c110, c97, c109, c101, c113, c107, c115, c98, c105, List.all_cons, List.all_nil, List.any_cons, List.any_nil]
  simp [fitF, Ins.get]
  try omega
theorem may_8 (d n m e sz imm : Int) : mayB ⟨8, d, n, m, e, sz, imm⟩ = (enc ⟨8, d, n, m, e, sz, imm⟩).isSome := by
  rw [enc_is ⟨8, d, n, m, e, sz, imm⟩ (lets_some 7 (by omega))]
  have e1 : fls 8 = [⟨0, 5, 1, 0, 31⟩, ⟨5, 5, 2, 0, 31⟩, ⟨16, 5, 3, 0, 31⟩] := by rfl
  have c100 : cntR 8 100 = 5 := by decide
  have c110 : cntR 8 110 = 5 := by decide
  have c97 : cntR 8 97 = 0 := by decide
  have c109 : cntR 8 109 = 5 := by decide
  have c101 : cntR 8 101 = 0 := by decide
  have c113 : cntR 8 113 = 0 := by decide
  have c107 : cntR 8 107 = 0 := by decide
  have c115 : cntR 8 115 = 0 := by decide
  have c98 : cntR 8 98 = 0 := by decide
  have c105 : cntR 8 105 = 0 := by decide
  have pe : (patI 8).isEmpty = false := by decide
  rw [Bool.eq_iff_iff]
  simp only [mayB, fineB, immB, regB, fitsB, zerosB, hasB, e1, pe, c100, c110, c97, c109, c101, c113, c107, c115, c98, c105, List.all_cons, List.all_nil, List.any_cons, List.any_nil]
  simp [fitF, Ins.get]
  try omega
theorem may_9 (d n m e sz imm : Int) : mayB ⟨9, d, n, m, e, sz, imm⟩ = (enc ⟨9, d, n, m, e, sz, imm⟩).isSome := by
  rw [enc_is ⟨9, d, n, m, e, sz, imm⟩ (lets_some 8 (by omega))]
  have e1 : fls 9 = [⟨0, 5, 1, 0, 31⟩, ⟨5, 5, 2, 0, 31⟩, ⟨16, 5, 3, 0, 31⟩] := by rfl
  have c100 : cntR 9 100 = 5 := by decide
  have c110 : cntR 9 110 = 5 := by decide
  have c97 : cntR 9 97 = 0 := by decide
  have c109 : cntR 9 109 = 5 := by decide
  have c101 : cntR 9 101 = 0 := by decide
  have c113 : cntR 9 113 = 0 := by decide
  have c107 : cntR 9 107 = 0 := by decide
  have c115 : cntR 9 115 = 0 := by decide
  have c98 : cntR 9 98 = 0 := by decide
  have c105 : cntR 9 105 = 0 := by decide
  have pe : (patI 9).isEmpty = false := by decide
  rw [Bool.eq_iff_iff]
  simp only [mayB, fineB, immB, regB, fitsB, zerosB, hasB, e1, pe, c100, c110, c97, c109, c101, c113, c107, c115, c98, c105, List.all_cons, List.all_nil, List.any_cons, List.any_nil]
  simp [fitF, Ins.get]
  try omega
theorem may_10 (d n m e sz imm : Int) : mayB ⟨10, d, n, m, e, sz, imm⟩ = (enc ⟨10, d, n, m, e, sz, imm⟩).isSome := by
  rw [enc_is ⟨10, d, n, m, e, sz, imm⟩ (lets_some 9 (by omega))]
  have e1 : fls 10 = [⟨0, 5, 1, 0, 31⟩, ⟨5, 5, 2, 0, 31⟩, ⟨16, 5, 3, 0, 31⟩] := by rfl
  have c100 : cntR 10 100 = 5 := by decide
  have c110 : cntR 10 110 = 5 := by decide
  have c97 : cntR 10 97 = 0 := by decide
  have c109 : cntR 10 109 = 5 := by decide
  have c101 : cntR 10 101 = 0 := by decide
  have c113 : cntR 10 113 = 0 := by decide
  have c107 : cntR 10 107 = 0 := by decide
  have c115 : cntR 10 115 = 0 := by decide
  have c98 : cntR 10 98 = 0 := by decide
  have c105 : cntR 10 105 = 0 := by decide
  have pe : (patI 10).isEmpty = false := by decide
  rw [Bool.eq_iff_iff]
  simp only [mayB, fineB, immB, regB, fitsB, zerosB, hasB, e1, pe, c100, c110, c97, c109, c101, c113, c107, c115, c98, c105, List.all_cons, List.all_nil, List.any_cons, List.any_nil]
  simp [fitF, Ins.get]
  try omega
theorem may_11 (d n m e sz imm : Int) : mayB ⟨11, d, n, m, e, sz, imm⟩ = (enc ⟨11, d, n, m, e, sz, imm⟩).isSome := by
  rw [enc_is ⟨11, d, n, m, e, sz, imm⟩ (lets_some 10 (by omega))]
  have e1 : fls 11 = [⟨0, 5, 1, 0, 31⟩, ⟨5, 5, 2, 0, 31⟩, ⟨16, 5, 3, 0, 31⟩] := by rfl
  have c100 : cntR 11 100 = 5 := by decide
  have c110 : cntR 11 110 = 5 := by decide
  have c97 : cntR 11 97 = 0 := by decide
  have c109 : cntR 11 109 = 5 := by decide
  have c101 : cntR 11 101 = 0 := by decide
  have c113 : cntR 11 113 = 0 := by decide
  have c107 : cntR 11 107 = 0 := by decide
  have c115 : cntR 11 115 = 0 := by decide
  have c98 : cntR 11 98 = 0 := by decide
  have c105 : cntR 11 105 = 0 := by decide
  have pe : (patI 11).isEmpty = false := by decide
  rw [Bool.eq_iff_iff]
  simp only [mayB, fineB, immB, regB, fitsB, zerosB, hasB, e1, pe, c100, c110, c97, c109, c101, c113, c107, c115, c98, c105, List.all_cons, List.all_nil, List.any_cons, List.any_nil]
  simp [fitF, Ins.get]
  try omega
theorem may_12 (d n m e sz imm : Int) : mayB ⟨12, d, n, m, e, sz, imm⟩ = (enc ⟨12, d, n, m, e, sz, imm⟩).isSome := by
  rw [enc_is ⟨12, d, n, m, e, sz, imm⟩ (lets_some 11 (by omega))]
  have e1 : fls 12 = [⟨0, 5, 1, 0, 31⟩, ⟨12, 2, 4, 2, 3⟩] := by rfl
  have c100 : cntR 12 100 = 5 := by decide
  have c110 : cntR 12 110 = 0 := by decide
  have c97 : cntR 12 97 = 0 := by decide
  have c109 : cntR 12 109 = 0 := by decide
  have c101 : cntR 12 101 = 0 := by decide
  have c113 : cntR 12 113 = 0 := by decide
  have c107 : cntR 12 107 = 2 := by decide
  have c115 : cntR 12 115 = 0 := by decide
  have c98 : cntR 12 98 = 0 := by decide
  have c105 : cntR 12 105 = 0 := by decide
  have pe : (patI 12).isEmpty = false := by decide
  rw [Bool.eq_iff_iff]
  simp only [mayB, fineB, immB, regB, fitsB, zerosB, hasB, e1, pe, c100, c110, c97, c109, c101, c113, c107, c115, c98, c105, List.all_cons, List.all_nil, List.any_cons, List.any_nil]
  simp [fitF, Ins.get]
  try omega
theorem may_13 (d n m e sz imm : Int) : mayB ⟨13, d, n, m, e, sz, imm⟩ = (enc ⟨13, d, n, m, e, sz, imm⟩).isSome := by
  rw [enc_is ⟨13, d, n, m, e, sz, imm⟩ (lets_some 12 (by omega))]
  have e1 : fls 13 = [⟨0, 26, 6, 1, 0⟩] := by rfl
  have c100 : cntR 13 100 = 0 := by decide
  have c110 : cntR 13 110 = 0 := by decide
  have c97 : cntR 13 97 = 0 := by decide
  have c109 : cntR 13 109 = 0 := by decide
  have c101 : cntR 13 101 = 0 := by decide
  have c113 : cntR 13 113 = 0 := by decide
  have c107 : cntR 13 107 = 0 := by decide
  have c115 : cntR 13 115 = 0 := by decide
  have c98 : cntR 13 98 = 0 := by decide
  have c105 : cntR 13 105 = 26 := by decide
  have pe : (patI 13).isEmpty = false := by decide
  rw [Bool.eq_iff_iff]
  simp only [mayB, fineB, immB, regB, fitsB, zerosB, hasB, e1, pe, c100, c110, c97, c109, c101, c113, c107, c115, c98, c105, List.all_cons, List.all_nil, List.any_cons, List.any_nil]
  simp [fitF, Ins.get]
  try omega
theorem may_14 (d n m e sz imm : Int) : mayB ⟨14, d, n, m, e, sz, imm⟩ = (enc ⟨14, d, n, m, e, sz, imm⟩).isSome := by
  rw [enc_is ⟨14, d, n, m, e, sz, imm⟩ (lets_some 13 (by omega))]
  have e1 : fls 14 = [⟨5, 19, 6, 1, 0⟩, ⟨0, 2, 4, 0, 3⟩] := by rfl
  have c100 : cntR 14 100 = 0 := by decide
  have c110 : cntR 14 110 = 0 := by decide
  have c97 : cntR 14 97 = 0 := by decide
  have c109 : cntR 14 109 = 0 := by decide
  have c101 : cntR 14 101 = 0 := by decide
  have c113 : cntR 14 113 = 2 := by decide
  have c107 : cntR 14 107 = 0 := by decide
  have c115 : cntR 14 115 = 0 := by decide
  have c98 : cntR 14 98 = 0 := by decide
  have c105 : cntR 14 105 = 19 := by decide
  have pe : (patI 14).isEmpty = false := by decide
  rw [Bool.eq_iff_iff]
  simp only [mayB, fineB, immB, regB, fitsB, zerosB, hasB, e1, pe, c100, c110, c97, c109, c101, c113, c107, c115, c98, c105, List.all_cons, List.all_nil, List.any_cons, List.any_nil]
  simp [fitF, Ins.get]
  try omega
theorem may_15 (d n m e sz imm : Int) : mayB ⟨15, d, n, m, e, sz, imm⟩ = (enc ⟨15, d, n, m, e, sz, imm⟩).isSome := by
  rw [enc_is ⟨15, d, n, m, e, sz, imm⟩ (lets_some 14 (by omega))]
  have e1 : fls 15 = [⟨0, 5, 1, 0, 31⟩, ⟨5, 19, 6, 1, 0⟩] := by rfl
  have c100 : cntR 15 100 = 5 := by decide
  have c110 : cntR 15 110 = 0 := by decide
  have c97 : cntR 15 97 = 0 := by decide
  have c109 : cntR 15 109 = 0 := by decide
  have c101 : cntR 15 101 = 0 := by decide
  have c113 : cntR 15 113 = 0 := by decide
  have c107 : cntR 15 107 = 0 := by decide
  have c115 : cntR 15 115 = 0 := by decide
  have c98 : cntR 15 98 = 0 := by decide
  have c105 : cntR 15 105 = 19 := by decide
  have pe : (patI 15).isEmpty = false := by decide
  rw [Bool.eq_iff_iff]
  simp only [mayB, fineB, immB, regB, fitsB, zerosB, hasB, e1, pe, c100, c110, c97, c109, c101, c113, c107, c115, c98, c105, List.all_cons, List.all_nil, List.any_cons, List.any_nil]
  simp [fitF, Ins.get]
  try omega
theorem may_16 (d n m e sz imm : Int) : mayB ⟨16, d, n, m, e, sz, imm⟩ = (enc ⟨16, d, n, m, e, sz, imm⟩).isSome := by
  rw [enc_is ⟨16, d, n, m, e, sz, imm⟩ (lets_some 15 (by omega))]
  have e1 : fls 16 = [⟨0, 5, 1, 0, 31⟩, ⟨5, 19, 6, 1, 0⟩] := by rfl
  have c100 : cntR 16 100 = 5 := by decide
  have c110 : cntR 16 110 = 0 := by decide
  have c97 : cntR 16 97 = 0 := by decide
  have c109 : cntR 16 109 = 0 := by decide
  have c101 : cntR 16 101 = 0 := by decide
  have c113 : cntR 16 113 = 0 := by decide
  have c107 : cntR 16 107 = 0 := by decide
  have c115 : cntR 16 115 = 0 := by decide
  have c98 : cntR 16 98 = 0 := by decide
  have c105 : cntR 16 105 = 19 := by decide
  have pe : (patI 16).isEmpty = false := by decide
  rw [Bool.eq_iff_iff]
  simp only [mayB, fineB, immB, regB, fitsB, zerosB, hasB, e1, pe, c100, c110, c97, c109, c101, c113, c107, c115, c98, c105, List.all_cons, List.all_nil, List.any_cons, List.any_nil]
  simp [fitF, Ins.get]
  try omega
theorem may_17 (d n m e sz imm : Int) : mayB ⟨17, d, n, m, e, sz, imm⟩ = (enc ⟨17, d, n, m, e, sz, imm⟩).isSome := by
  rw [enc_is ⟨17, d, n, m, e, sz, imm⟩ (lets_some 16 (by omega))]
  have e1 : fls 17 = [⟨0, 5, 1, 0, 31⟩, ⟨5, 5, 2, 0, 30⟩, ⟨10, 12, 6, 0, 4095⟩, ⟨30, 2, 5, 0, 3⟩] := by rfl
  have c100 : cntR 17 100 = 5 := by decide
  have c110 : cntR 17 110 = 0 := by decide
  have c97 : cntR 17 97 = 5 := by decide
  have c109 : cntR 17 109 = 0 := by decide
  have c101 : cntR 17 101 = 0 := by decide
  have c113 : cntR 17 113 = 0 := by decide
  have c107 : cntR 17 107 = 0 := by decide
  have c115 : cntR 17 115 = 2 := by decide
  have c98 : cntR 17 98 = 0 := by decide
  have c105 : cntR 17 105 = 12 := by decide
  have pe : (patI 17).isEmpty = false := by decide
  rw [Bool.eq_iff_iff]
  simp only [mayB, fineB, immB, regB, fitsB, zerosB, hasB, e1, pe, c100, c110, c97, c109, c101, c113, c107, c115, c98, c105, List.all_cons, List.all_nil, List.any_cons, List.any_nil]
  simp [fitF, Ins.get]
  try omega
theorem may_18 (d n m e sz imm : Int) : mayB ⟨18, d, n, m, e, sz, imm⟩ = (enc ⟨18, d, n, m, e, sz, imm⟩).isSome := by
  rw [enc_is ⟨18, d, n, m, e, sz, imm⟩ (lets_some 17 (by omega))]
  have e1 : fls 18 = [⟨0, 5, 1, 0, 31⟩, ⟨5, 5, 2, 0, 30⟩, ⟨10, 12, 6, 0, 4095⟩, ⟨30, 2, 5, 0, 3⟩] := by rfl
  have c100 : cntR 18 100 = 5 := by decide
  have c110 : cntR 18 110 = 0 := by decide
  have c97 : cntR 18 97 = 5 := by decide
  have c109 : cntR 18 109 = 0 := by decide
  have c101 : cntR 18 101 = 0 := by decide
  have c113 : cntR 18 113 = 0 := by decide
  have c107 : cntR 18 107 = 0 := by decide
  have c115 : cntR 18 115 = 2 := by decide
  have c98 : cntR 18 98 = 0 := by decide
  have c105 : cntR 18 105 = 12 := by decide
  have pe : (patI 18).isEmpty = false := by decide
  rw [Bool.eq_iff_iff]
  simp only [mayB, fineB, immB, regB, fitsB, zerosB, hasB, e1, pe, c100, c110, c97, c109, c101, c113, c107, c115, c98, c105, List.all_cons, List.all_nil, List.any_cons, List.any_nil]
  simp [fitF, Ins.get]
  try omega
theorem may_19 (d n m e sz imm : Int) : mayB ⟨19, d, n, m, e, sz, imm⟩ = (enc ⟨19, d, n, m, e, sz, imm⟩).isSome := by
  rw [enc_is ⟨19, d, n, m, e, sz, imm⟩ (lets_some 18 (by omega))]
  have e1 : fls 19 = [⟨0, 5, 1, 0, 31⟩, ⟨5, 5, 2, 0, 30⟩, ⟨30, 2, 5, 0, 3⟩] := by rfl
  have c100 : cntR 19 100 = 5 := by decide
  have c110 : cntR 19 110 = 0 := by decide
  have c97 : cntR 19 97 = 5 := by decide
  have c109 : cntR 19 109 = 0 := by decide
  have c101 : cntR 19 101 = 0 := by decide
  have c113 : cntR 19 113 = 0 := by decide
  have c107 : cntR 19 107 = 0 := by decide
  have c115 : cntR 19 115 = 2 := by decide
  have c98 : cntR 19 98 = 0 := by decide
  have c105 : cntR 19 105 = 0 := by decide
  have pe : (patI 19).isEmpty = false := by decide
  rw [Bool.eq_iff_iff]
  simp only [mayB, fineB, immB, regB, fitsB, zerosB, hasB, e1, pe, c100, c110, c97, c109, c101, c113, c107, c115, c98, c105, List.all_cons, List.all_nil, List.any_cons, List.any_nil]
  simp [fitF, Ins.get]
  try omega
theorem may_20 (d n m e sz imm : Int) : mayB ⟨20, d, n, m, e, sz, imm⟩ = (enc ⟨20, d, n, m, e, sz, imm⟩).isSome := by
  rw [enc_is ⟨20, d, n, m, e, sz, imm⟩ (lets_some 19 (by omega))]
  have e1 : fls 20 = [⟨0, 5, 1, 0, 31⟩, ⟨5, 5, 2, 0, 30⟩, ⟨30, 2, 5, 0, 3⟩] := by rfl
  have c100 : cntR 20 100 = 5 := by decide
  have c110 : cntR 20 110 = 0 := by decide
  have c97 : cntR 20 97 = 5 := by decide
  have c109 : cntR 20 109 = 0 := by decide
  have c101 : cntR 20 101 = 0 := by decide
  have c113 : cntR 20 113 = 0 := by decide
  have c107 : cntR 20 107 = 0 := by decide
  have c115 : cntR 20 115 = 2 := by decide
  have c98 : cntR 20 98 = 0 := by decide
  have c105 : cntR 20 105 = 0 := by decide
  have pe : (patI 20).isEmpty = false := by decide
  rw [Bool.eq_iff_iff]
  simp only [mayB, fineB, immB, regB, fitsB, zerosB, hasB, e1, pe, c100, c110, c97, c109, c101, c113, c107, c115, c98, c105, List.all_cons, List.all_nil, List.any_cons, List.any_nil]
  simp [fitF, Ins.get]
  try omega
theorem may_21 (d n m e sz imm : Int) : mayB ⟨21, d, n, m, e, sz, imm⟩ = (enc ⟨21, d, n, m, e, sz, imm⟩).isSome := by
  rw [enc_is ⟨21, d, n, m, e, sz, imm⟩ (lets_some 20 (by omega))]
  have e1 : fls 21 = [⟨0, 5, 1, 0, 31⟩, ⟨5, 5, 2, 0, 30⟩, ⟨30, 2, 5, 0, 3⟩] := by rfl
  have c100 : cntR 21 100 = 5 := by decide
  have c110 : cntR 21 110 = 0 := by decide
  have c97 : cntR 21 97 = 5 := by decide
  have c109 : cntR 21 109 = 0 := by decide
  have c101 : cntR 21 101 = 0 := by decide
  have c113 : cntR 21 113 = 0 := by decide
  have c107 : cntR 21 107 = 0 := by decide
  have c115 : cntR 21 115 = 2 := by decide
  have c98 : cntR 21 98 = 0 := by decide
  have c105 : cntR 21 105 = 0 := by decide
  have pe : (patI 21).isEmpty = false := by decide
  rw [Bool.eq_iff_iff]
  simp only [mayB, fineB, immB, regB, fitsB, zerosB, hasB, e1, pe, c100, c110, c97, c109, c101, c113, c107, c115, c98, c105, List.all_cons, List.all_nil, List.any_cons, List.any_nil]
  simp [fitF, Ins.get]
  try omega
theorem may_22 (d n m e sz imm : Int) : mayB ⟨22, d, n, m, e, sz, imm⟩ = (enc ⟨22, d, n, m, e, sz, imm⟩).isSome := by
  rw [enc_is ⟨22, d, n, m, e, sz, imm⟩ (lets_some 21 (by omega))]
  have e1 : fls 22 = [⟨0, 5, 1, 0, 31⟩, ⟨5, 5, 2, 0, 30⟩, ⟨30, 2, 5, 0, 3⟩] := by rfl
  have c100 : cntR 22 100 = 5 := by decide
  have c110 : cntR 22 110 = 0 := by decide
  have c97 : cntR 22 97 = 5 := by decide
  have c109 : cntR 22 109 = 0 := by decide
  have c101 : cntR 22 101 = 0 := by decide
  have c113 : cntR 22 113 = 0 := by decide
  have c107 : cntR 22 107 = 0 := by decide
  have c115 : cntR 22 115 = 2 := by decide
  have c98 : cntR 22 98 = 0 := by decide
  have c105 : cntR 22 105 = 0 := by decide
  have pe : (patI 22).isEmpty = false := by decide
  rw [Bool.eq_iff_iff]
  simp only [mayB, fineB, immB, regB, fitsB, zerosB, hasB, e1, pe, c100, c110, c97, c109, c101, c113, c107, c115, c98, c105, List.all_cons, List.all_nil, List.any_cons, List.any_nil]
  simp [fitF, Ins.get]
  try omega
theorem may_23 (d n m e sz imm : Int) : mayB ⟨23, d, n, m, e, sz, imm⟩ = (enc ⟨23, d, n, m, e, sz, imm⟩).isSome := by
  rw [enc_is ⟨23, d, n, m, e, sz, imm⟩ (lets_some 22 (by omega))]
  have e1 : fls 23 = [⟨0, 5, 1, 0, 31⟩, ⟨5, 5, 2, 0, 30⟩, ⟨30, 2, 5, 0, 3⟩, ⟨16, 5, 3, 0, 31⟩] := by rfl
  have c100 : cntR 23 100 = 5 := by decide
  have c110 : cntR 23 110 = 0 := by decide
  have c97 : cntR 23 97 = 5 := by decide
  have c109 : cntR 23 109 = 5 := by decide
  have c101 : cntR 23 101 = 0 := by decide
  have c113 : cntR 23 113 = 0 := by decide
  have c107 : cntR 23 107 = 0 := by decide
  have c115 : cntR 23 115 = 2 := by decide
  have c98 : cntR 23 98 = 0 := by decide
  have c105 : cntR 23 105 = 0 := by decide
  have pe : (patI 23).isEmpty = false := by decide
  rw [Bool.eq_iff_iff]
  simp only [mayB, fineB, immB, regB, fitsB, zerosB, hasB, e1, pe, c100, c110, c97, c109, c101, c113, c107, c115, c98, c105, List.all_cons, List.all_nil, List.any_cons, List.any_nil]
  simp [fitF, Ins.get]
  try omega
theorem may_24 (d n m e sz imm : Int) : mayB ⟨24, d, n, m, e, sz, imm⟩ = (enc ⟨24, d, n, m, e, sz, imm⟩).isSome := by
  rw [enc_is ⟨24, d, n, m, e, sz, imm⟩ (lets_some 23 (by omega))]
  have e1 : fls 24 = [⟨0, 5, 1, 0, 31⟩, ⟨5, 5, 2, 0, 30⟩, ⟨30, 2, 5, 0, 3⟩, ⟨16, 5, 3, 0, 31⟩] := by rfl
  have c100 : cntR 24 100 = 5 := by decide
  have c110 : cntR 24 110 = 0 := by decide
  have c97 : cntR 24 97 = 5 := by decide
  have c109 : cntR 24 109 = 5 := by decide
  have c101 : cntR 24 101 = 0 := by decide
  have c113 : cntR 24 113 = 0 := by decide
  have c107 : cntR 24 107 = 0 := by decide
  have c115 : cntR 24 115 = 2 := by decide
  have c98 : cntR 24 98 = 0 := by decide
  have c105 : cntR 24 105 = 0 := by decide
  have pe : (patI 24).isEmpty = false := by decide
  rw [Bool.eq_iff_iff]
  simp only [mayB, fineB, immB, regB, fitsB, zerosB, hasB, e1, pe, c100, c110, c97, c109, c101, c113, c107, c115, c98, c105, List.all_cons, List.all_nil, List.any_cons, List.any_nil]
  simp [fitF, Ins.get]
  try omega
theorem may_25 (d n m e sz imm : Int) : mayB ⟨25, d, n, m, e, sz, imm⟩ = (enc ⟨25, d, n, m, e, sz, imm⟩).isSome := by
  rw [enc_is ⟨25, d, n, m, e, sz, imm⟩ (lets_some 24 (by omega))]
  have e1 : fls 25 = [⟨0, 5, 1, 0, 31⟩, ⟨5, 5, 2, 0, 30⟩, ⟨10, 5, 4, 0, 31⟩] := by rfl
  have c100 : cntR 25 100 = 5 := by decide
  have c110 : cntR 25 110 = 0 := by decide
  have c97 : cntR 25 97 = 5 := by decide
  have c109 : cntR 25 109 = 0 := by decide
  have c101 : cntR 25 101 = 5 := by decide
  have c113 : cntR 25 113 = 0 := by decide
  have c107 : cntR 25 107 = 0 := by decide
  have c115 : cntR 25 115 = 0 := by decide
  have c98 : cntR 25 98 = 0 := by decide
  have c105 : cntR 25 105 = 0 := by decide
  have pe : (patI 25).isEmpty = false := by decide
  rw [Bool.eq_iff_iff]
  simp only [mayB, fineB, immB, regB, fitsB, zerosB, hasB, e1, pe, c100, c110, c97, c109, c101, c113, c107, c115, c98, c105, List.all_cons, List.all_nil, List.any_cons, List.any_nil]
  simp [fitF, Ins.get]
  try omega
theorem may_26 (d n m e sz imm : Int) : mayB ⟨26, d, n, m, e, sz, imm⟩ = (enc ⟨26, d, n, m, e, sz, imm⟩).isSome := by
  rw [enc_is ⟨26, d, n, m, e, sz, imm⟩ (lets_some 25 (by omega))]
  have e1 : fls 26 = [⟨0, 5, 1, 0, 31⟩, ⟨5, 5, 2, 0, 30⟩, ⟨10, 5, 4, 0, 31⟩] := by rfl
  have c100 : cntR 26 100 = 5 := by decide
  have c110 : cntR 26 110 = 0 := by decide
  have c97 : cntR 26 97 = 5 := by decide
  have c109 : cntR 26 109 = 0 := by decide
  have c101 : cntR 26 101 = 5 := by decide
  have c113 : cntR 26 113 = 0 := by decide
  have c107 : cntR 26 107 = 0 := by decide
  have c115 : cntR 26 115 = 0 := by decide
  have c98 : cntR 26 98 = 0 := by decide
  have c105 : cntR 26 105 = 0 := by decide
  have pe : (patI 26).isEmpty = false := by decide
  rw [Bool.eq_iff_iff]
  simp only [mayB, fineB, immB, regB, fitsB, zerosB, hasB, e1, pe, c100, c110, c97, c109, c101, c113, c107, c115, c98, c105, List.all_cons, List.all_nil, List.any_cons, List.any_nil]
  simp [fitF, Ins.get]
  try omega
theorem may_27 (d n m e sz imm : Int) : mayB ⟨27, d, n, m, e, sz, imm⟩ = (enc ⟨27, d, n, m, e, sz, imm⟩).isSome := by
  rw [enc_is ⟨27, d, n, m, e, sz, imm⟩ (lets_some 26 (by omega))]
  have e1 : fls 27 = [⟨0, 5, 1, 0, 31⟩, ⟨5, 5, 2, 0, 30⟩, ⟨10, 5, 4, 0, 31⟩, ⟨16, 5, 3, 0, 31⟩] := by rfl
  have c100 : cntR 27 100 = 5 := by decide
  have c110 : cntR 27 110 = 0 := by decide
  have c97 : cntR 27 97 = 5 := by decide
  have c109 : cntR 27 109 = 5 := by decide
  have c101 : cntR 27 101 = 5 := by decide
  have c113 : cntR 27 113 = 0 := by decide
  have c107 : cntR 27 107 = 0 := by decide
  have c115 : cntR 27 115 = 0 := by decide
  have c98 : cntR 27 98 = 0 := by decide
  have c105 : cntR 27 105 = 0 := by decide
  have pe : (patI 27).isEmpty = false := by decide
  rw [Bool.eq_iff_iff]
  simp only [mayB, fineB, immB, regB, fitsB, zerosB, hasB, e1, pe, c100, c110, c97, c109, c101, c113, c107, c115, c98, c105, List.all_cons, List.all_nil, List.any_cons, List.any_nil]
  simp [fitF, Ins.get]
  try omega
theorem may_28 (d n m e sz imm : Int) : mayB ⟨28, d, n, m, e, sz, imm⟩ = (enc ⟨28, d, n, m, e, sz, imm⟩).isSome := by
  rw [enc_is ⟨28, d, n, m, e, sz, imm⟩ (lets_some 27 (by omega))]
  have e1 : fls 28 = [⟨0, 5, 1, 0, 31⟩, ⟨5, 5, 2, 0, 30⟩, ⟨10, 5, 4, 0, 31⟩, ⟨16, 5, 3, 0, 31⟩] := by rfl
  have c100 : cntR 28 100 = 5 := by decide
  have c110 : cntR 28 110 = 0 := by decide
  have c97 : cntR 28 97 = 5 := by decide
  have c109 : cntR 28 109 = 5 := by decide
  have c101 : cntR 28 101 = 5 := by decide
  have c113 : cntR 28 113 = 0 := by decide
  have c107 : cntR 28 107 = 0 := by decide
  have c115 : cntR 28 115 = 0 := by decide
  have c98 : cntR 28 98 = 0 := by decide
  have c105 : cntR 28 105 = 0 := by decide
  have pe : (patI 28).isEmpty = false := by decide
  rw [Bool.eq_iff_iff]
  simp only [mayB, fineB, immB, regB, fitsB, zerosB, hasB, e1, pe, c100, c110, c97, c109, c101, c113, c107, c115, c98, c105, List.all_cons, List.all_nil, List.any_cons, List.any_nil]
  simp [fitF, Ins.get]
  try omega
theorem may_29 (d n m e sz imm : Int) : mayB ⟨29, d, n, m, e, sz, imm⟩ = (enc ⟨29, d, n, m, e, sz, imm⟩).isSome := by
  rw [enc_is ⟨29, d, n, m, e, sz, imm⟩ (lets_some 28 (by omega))]
  have e1 : fls 29 = [⟨8, 4, 6, 3, 2⟩] := by rfl
  have c100 : cntR 29 100 = 0 := by decide
  have c110 : cntR 29 110 = 0 := by decide
  have c97 : cntR 29 97 = 0 := by decide
  have c109 : cntR 29 109 = 0 := by decide
  have c101 : cntR 29 101 = 0 := by decide
  have c113 : cntR 29 113 = 0 := by decide
  have c107 : cntR 29 107 = 0 := by decide
  have c115 : cntR 29 115 = 0 := by decide
  have c98 : cntR 29 98 = 4 := by decide
  have c105 : cntR 29 105 = 0 := by decide
  have pe : (patI 29).isEmpty = false := by decide
  rw [Bool.eq_iff_iff]
  simp only [mayB, fineB, immB, regB, fitsB, zerosB, hasB, e1, pe, c100, c110, c97, c109, c101, c113, c107, c115, c98, c105, List.all_cons, List.all_nil, List.any_cons, List.any_nil]
  simp [fitF, Ins.get]
  try omega
theorem may_30 (d n m e sz imm : Int) : mayB ⟨30, d, n, m, e, sz, imm⟩ = (enc ⟨30, d, n, m, e, sz, imm⟩).isSome := by
  rw [enc_is ⟨30, d, n, m, e, sz, imm⟩ (lets_some 29 (by omega))]
  have e1 : fls 30 = [] := by rfl
  have c100 : cntR 30 100 = 0 := by decide
  have c110 : cntR 30 110 = 0 := by decide
  have c97 : cntR 30 97 = 0 := by decide
  have c109 : cntR 30 109 = 0 := by decide
  have c101 : cntR 30 101 = 0 := by decide
  have c113 : cntR 30 113 = 0 := by decide
  have c107 : cntR 30 107 = 0 := by decide
  have c115 : cntR 30 115 = 0 := by decide
  have c98 : cntR 30 98 = 0 := by decide
  have c105 : cntR 30 105 = 0 := by decide
  have pe : (patI 30).isEmpty = false := by decide
  rw [Bool.eq_iff_iff]
  simp only [mayB, fineB, immB, regB, fitsB, zerosB, hasB, e1, pe, c100, c110, c97, c109, c101, c113, c107, c115, c98, c105, List.all_cons, List.all_nil, List.any_cons, List.any_nil]
  simp [fitF, Ins.get]
  try omega
theorem may_31 (d n m e sz imm : Int) : mayB ⟨31, d, n, m, e, sz, imm⟩ = (enc ⟨31, d, n, m, e, sz, imm⟩).isSome := by
  rw [enc_is ⟨31, d, n, m, e, sz, imm⟩ (lets_some 30 (by omega))]
  have e1 : fls 31 = [⟨5, 16, 6, 0, 65535⟩] := by rfl
  have c100 : cntR 31 100 = 0 := by decide
  have c110 : cntR 31 110 = 0 := by decide
  have c97 : cntR 31 97 = 0 := by decide
  have c109 : cntR 31 109 = 0 := by decide
  have c101 : cntR 31 101 = 0 := by decide
  have c113 : cntR 31 113 = 0 := by decide
  have c107 : cntR 31 107 = 0 := by decide
  have c115 : cntR 31 115 = 0 := by decide
  have c98 : cntR 31 98 = 0 := by decide
  have c105 : cntR 31 105 = 16 := by decide
  have pe : (patI 31).isEmpty = false := by decide
  rw [Bool.eq_iff_iff]
  simp only [mayB, fineB, immB, regB, fitsB, zerosB, hasB, e1, pe, c100, c110, c97, c109, c101, c113, c107, c115, c98, c105, List.all_cons, List.all_nil, List.any_cons, List.any_nil]
  simp [fitF, Ins.get]
  try omega
theorem may_32 (d n m e sz imm : Int) : mayB ⟨32, d, n, m, e, sz, imm⟩ = (enc ⟨32, d, n, m, e, sz, imm⟩).isSome := by
  rw [enc_is ⟨32, d, n, m, e, sz, imm⟩ (lets_some 31 (by omega))]
  have e1 : fls 32 = [⟨5, 16, 6, 0, 65535⟩] := by rfl
  have c100 : cntR 32 100 = 0 := by decide
  have c110 : cntR 32 110 = 0 := by decide
  have c97 : cntR 32 97 = 0 := by decide
  have c109 : cntR 32 109 = 0 := by decide
  have c101 : cntR 32 101 = 0 := by decide
  have c113 : cntR 32 113 = 0 := by decide
  have c107 : cntR 32 107 = 0 := by decide
  have c115 : cntR 32 115 = 0 := by decide
  have c98 : cntR 32 98 = 0 := by decide
  have c105 : cntR 32 105 = 16 := by decide
  have pe : (patI 32).isEmpty = false := by decide
  rw [Bool.eq_iff_iff]
  simp only [mayB, fineB, immB, regB, fitsB, zerosB, hasB, e1, pe, c100, c110, c97, c109, c101, c113, c107, c115, c98, c105, List.all_cons, List.all_nil, List.any_cons, List.any_nil]
  simp [fitF, Ins.get]
  try omega
theorem may_enc (i : Ins) : mayB i = (enc i).isSome := by
  obtain ⟨op, d, n, m, e, sz, imm⟩ := i
  by_cases h : 1 ≤ op ∧ op ≤ 32
  · obtain ⟨k, rfl⟩ : ∃ k : Nat, op = k := ⟨op.toNat, by omega⟩
    have hk : k ≤ 32 := by omega
    have hk0 : 1 ≤ k := by omega
    match k, hk, hk0 with
    | 1, _, _ => exact may_1 d n m e sz imm
    | 2, _, _ => exact may_2 d n m e sz imm
    | 3, _, _ => exact may_3 d n m e sz imm
    | 4, _, _ => exact may_4 d n m e sz imm
    | 5, _, _ => exact may_5 d n m e sz imm
    | 6, _, _ => exact may_6 d n m e sz imm
    | 7, _, _ => exact may_7 d n m e sz imm
    | 8, _, _ => exact may_8 d n m e sz imm
    | 9, _, _ => exact may_9 d n m e sz imm
    | 10, _, _ => exact may_10 d n m e sz imm
    | 11, _, _ => exact may_11 d n m e sz imm
    | 12, _, _ => exact may_12 d n m e sz imm
    | 13, _, _ => exact may_13 d n m e sz imm
    | 14, _, _ => exact may_14 d n m e sz imm
    | 15, _, _ => exact may_15 d n m e sz imm
    | 16, _, _ => exact may_16 d n m e sz imm
    | 17, _, _ => exact may_17 d n m e sz imm
    | 18, _, _ => exact may_18 d n m e sz imm
    | 19, _, _ => exact may_19 d n m e sz imm
    | 20, _, _ => exact may_20 d n m e sz imm
    | 21, _, _ => exact may_21 d n m e sz imm
    | 22, _, _ => exact may_22 d n m e sz imm
    | 23, _, _ => exact may_23 d n m e sz imm
    | 24, _, _ => exact may_24 d n m e sz imm
    | 25, _, _ => exact may_25 d n m e sz imm
    | 26, _, _ => exact may_26 d n m e sz imm
    | 27, _, _ => exact may_27 d n m e sz imm
    | 28, _, _ => exact may_28 d n m e sz imm
    | 29, _, _ => exact may_29 d n m e sz imm
    | 30, _, _ => exact may_30 d n m e sz imm
    | 31, _, _ => exact may_31 d n m e sz imm
    | 32, _, _ => exact may_32 d n m e sz imm
  · have e1 : patI op = [] := by
      unfold patI
      split
      · rcases Nat.eq_zero_or_pos op.toNat with e | e
        · rw [e]; rfl
        · rw [patN_out _ (by omega)]
      · rfl
    have e2 : lets op = [] := by
      by_cases h1 : lets op = []
      · exact h1
      · exact absurd (lets_in h1) h
    unfold mayB enc
    simp only [e1, e2]
    simp
end Go.Proofs.Ytfijppclaahkmaa
