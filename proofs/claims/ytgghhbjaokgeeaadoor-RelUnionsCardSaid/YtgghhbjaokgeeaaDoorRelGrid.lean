/- The document's relations in memory. No condition. -/
import Derived.Test.YtgghhbjaokgeeaaDoorRelPair
import Derived.Laws.Tables
namespace Go.Proofs.YtgghhbjaokgeeaaDoor
open Go.RowKit Go.Sort Go.Lib
set_option linter.unusedVariables false
set_option linter.unusedSimpArgs false
def isF : Value → Bool
  | .bool false => true
  | _ => false
theorem isF_eq : ∀ {v : Value}, isF v = true → v = .bool false
  | .bool false, _ => rfl
def chkF : Nat → List Value → Bool
  | 0, [] => true
  | n + 1, v :: r => isF v && chkF n r
  | _, _ => false
theorem chkF_eq : ∀ (n : Nat) (l : List Value), chkF n l = true → l = List.replicate n (.bool false)
  | 0, [], _ => rfl
  | n + 1, v :: r, h => by
    unfold chkF at h
    rw [Bool.and_eq_true] at h
    rw [isF_eq h.1, chkF_eq n r h.2]
    rfl
  | 0, _ :: _, h => by simp [chkF] at h
  | _ + 1, [], h => by simp [chkF] at h
def isZ : Value → Bool
  | .int .i64 0 => true
  | _ => false
theorem isZ_eq : ∀ {v : Value}, isZ v = true → v = .int .i64 0
  | .int .i64 0, _ => rfl
def chkG : List Value → Bool
  | v :: r => isZ v && chkF 4096 r
  | _ => false
theorem chkG_eq : ∀ (l : List Value), chkG l = true → l = .int .i64 0 :: List.replicate 4096 (.bool false)
  | v :: r, h => by
    unfold chkG at h
    rw [Bool.and_eq_true] at h
    rw [isZ_eq h.1, chkF_eq _ r h.2]
  | [], h => by simp [chkG] at h
def gridZ : Option TypeInfo → Bool
  | some i => (match i.zero with | some (.agg c) => chkG c.toList | _ => false) && i.size == 4097
  | none => false
theorem info_grid : gridZ (Tryd.prog.info? 28) = true := by kernel_rfl
def gridC (n : Int) : Array Value := ⟨.int .i64 n :: List.replicate 4096 (.bool false)⟩
theorem gridZ_get {o : Option TypeInfo} (h : gridZ o = true) : ∃ i0, o = some i0 ∧ i0.zero = some (.agg (gridC 0)) := by
  cases o with
  | none => cases h
  | some i0 =>
    refine ⟨i0, rfl, ?_⟩
    unfold gridZ at h
    rw [Bool.and_eq_true] at h
    have h1 := h.1
    split at h1
    · rename_i c hc
      rw [hc]
      have := chkG_eq _ h1
      congr 2
      exact Array.toList_inj.1 this
    · cases h1
theorem set_0 (l : List Value) (a b : Value) : (⟨a :: l⟩ : Array Value).setIfInBounds 0 b = ⟨b :: l⟩ := by
  apply Array.toList_inj.1
  simp [List.set_cons_zero]
theorem size_0 (l : List Value) (a : Value) : 1 ≤ (⟨a :: l⟩ : Array Value).size := by simp
theorem gridC_set (n : Int) : (gridC 0).setIfInBounds 0 (.int .i64 n) = gridC n := by
  unfold gridC
  exact set_0 _ _ _
theorem built_grid (n : Int) : Tryd.prog.built 28 [(0, .int .i64 n)] = some (gridC n) := by
  obtain ⟨i0, hi, hz⟩ := gridZ_get info_grid
  have h1 : (Tryd.prog.info? 3).map (·.size) = some 1 := by kernel_rfl
  have h2 : (Tryd.prog.info? 26).map (·.size) = some 4096 := by kernel_rfl
  obtain ⟨i1, e1, f1⟩ := Option.map_eq_some_iff.1 h1
  obtain ⟨i2, e2, f2⟩ := Option.map_eq_some_iff.1 h2
  have hs : 1 ≤ (gridC 0).size := by unfold gridC; exact size_0 _ _
  have hg := gridC_set n
  generalize gridC 0 = z at *
  generalize gridC n = y at *
  unfold Program.built
  rw [hi, Tryd.underlying28]
  simp only [hz]
  generalize hm : @List.mapM Option _ _ _ _ _ = mm
  have hm2 : mm = some [(0, 1), (1, 4096)] := by rw [← hm]; kernel_rfl
  subst hm2
  simp only [Instr.fill]
  show (if (decide ((1 : Nat) ≠ 1) || decide (0 + 1 > z.size)) = true then none else some (z.setIfInBounds (0 + 0) (.int .i64 n))) = some y
  have hd : (decide ((1 : Nat) ≠ 1) || decide (0 + 1 > z.size)) = false := by
    rw [decide_eq_false (by omega : ¬ (1 : Nat) ≠ 1), decide_eq_false (by omega : ¬ 0 + 1 > z.size)]; rfl
  rw [hd, if_neg (by decide), hg]
theorem wpList_grid {ops : Array Oper} {rest : List Oper} {o : Oper} {a : Act} {w : World} {Q : Exit → Act → World → Prop} (hg : o.guard = none) (x : Operand) (ho : o.op = .build 28 #[(0, x)]) (n : Int) (hx : a.eval x = .int .i64 n)
    (h : wpList Tryd.prog ops Q rest (a.put o.dst (.agg (gridC n))) w) : wpList Tryd.prog ops Q (o :: rest) a w := by
  have e : Tryd.prog.built 28 ((#[(0, x)] : Array (Nat × Operand)).map fun (i, x) => (i, a.eval x)).toList = some (gridC n) := by
    have := built_grid n
    generalize gridC n = y at *
    simp [hx, this]
  refine wpList_build hg _ _ ho (by rw [e]; rfl) ?_
  rw [e]
  exact h
theorem wpList_boxg {ops : Array Oper} {rest : List Oper} {o : Oper} {a : Act} {w : World} {Q : Exit → Act → World → Prop} (hg : o.guard = none) (x : Operand) (ho : o.op = .box 28 x) (n : Int) (hx : a.eval x = .agg (gridC n))
    (h : wpList Tryd.prog ops Q rest (a.put o.dst (.pointer (some ⟨w.heap.size, 0, none⟩))) (w.alloc (.cells (gridC n) 28))) : wpList Tryd.prog ops Q (o :: rest) a w := by
  refine wpList_plain hg fun K hK => ?_
  unfold Oper.wp execOp
  simp only [ho, hx, Instr.box, newVar, Sem.run_bind, Sem.run_pure, Result.andThen_ok]
  exact hK _ _ h
/-- a relation lies so. -/
structure GridAt (w : World) (b : Nat) (n : Nat) (f : Nat → Nat → Bool) : Prop where
  n_ : w.cell? ⟨b, 0, none⟩ = some (.int .i64 n)
  on_ : ∀ i k, i < 64 → k < 64 → w.cell? ⟨b, 1 + i * 64 + k, none⟩ = some (.bool (f i k))
  z_ : ∀ j, w.frozen? ⟨b, j, none⟩ = false
theorem GridAt.lt {w : World} {b n : Nat} {f : Nat → Nat → Bool} (h : GridAt w b n f) : b < w.heap.size := cell_lt2 h.n_
theorem GridAt.below {w w' : World} {b n : Nat} {f : Nat → Nat → Bool} (h : GridAt w b n f) (hb : Below w.heap.size w w') : GridAt w' b n f :=
  ⟨cell_below h.n_ hb, fun i k hi hk => cell_below (h.on_ i k hi hk) hb, fun j => by rw [hb.frozen (p := ⟨b, j, none⟩) h.lt]; exact h.z_ j⟩
theorem GridAt.more {w : World} {b n : Nat} {f : Nat → Nat → Bool} (h : GridAt w b n f) (p : Regrown) : GridAt (more w p) b n f := h.below (more_below w p)
theorem GridAt.onto {w w' : World} {b n B : Nat} {f : Nat → Nat → Bool} (h : GridAt w b n f) (ho : Onto B w w') (hne : b ≠ B) : GridAt w' b n f :=
  ⟨(ho.cell h.lt hne).trans h.n_, fun i k hi hk => (ho.cell h.lt hne).trans (h.on_ i k hi hk), fun j => (ho.frozen h.lt).trans (h.z_ j)⟩
theorem GridAt.set {w : World} {b n : Nat} {f : Nat → Nat → Bool} (h : GridAt w b n f) (i k : Nat) (hi : i < 64) (hk : k < 64) (v : Bool) : GridAt (w.setCell ⟨b, 1 + i * 64 + k, none⟩ (.bool v)) b n (fun a c => if a = i ∧ c = k then v else f a c) := by
  refine ⟨?_, fun a c ha hc => ?_, fun j => by rw [World.frozen?_setCell]; exact h.z_ j⟩
  · rw [World.cell?_setCell_other _ _ _ _ (fun e => by have := congrArg Addr.off e; simp only at this; omega)]
    exact h.n_
  · by_cases e : a = i ∧ c = k
    · obtain ⟨rfl, rfl⟩ := e
      simp only [and_self, if_true]
      exact World.cell?_setCell_same _ _ _ (h.on_ a c ha hc)
    · simp only [if_neg e]
      rw [World.cell?_setCell_other _ _ _ _ (fun e' => by have := congrArg Addr.off e'; simp only at this; omega)]
      exact h.on_ a c ha hc
theorem GridAt.setN {w : World} {b n : Nat} {f : Nat → Nat → Bool} (h : GridAt w b n f) (m : Nat) : GridAt (w.setCell ⟨b, 0, none⟩ (.int .i64 m)) b m f := by
  refine ⟨World.cell?_setCell_same _ _ _ h.n_, fun a c ha hc => ?_, fun j => by rw [World.frozen?_setCell]; exact h.z_ j⟩
  rw [World.cell?_setCell_other _ _ _ _ (fun e' => by have := congrArg Addr.off e'; simp only at this; omega)]
  exact h.on_ a c ha hc
theorem GridAt.congr {w : World} {b n : Nat} {f g : Nat → Nat → Bool} (h : GridAt w b n f) (e : ∀ i k, i < 64 → k < 64 → f i k = g i k) : GridAt w b n g :=
  ⟨h.n_, fun i k hi hk => by rw [← e i k hi hk]; exact h.on_ i k hi hk, h.z_⟩
theorem gridC_get (n : Int) (j : Nat) : (gridC n)[j]? = if j = 0 then some (.int .i64 n) else if j < 4097 then some (.bool false) else none := by
  unfold gridC
  rw [← Array.getElem?_toList]
  show (Value.int .i64 n :: List.replicate 4096 (.bool false))[j]? = _
  cases j with
  | zero => rfl
  | succ j =>
    rw [List.getElem?_cons_succ, List.getElem?_replicate]
    by_cases h : j < 4096
    · rw [if_pos h, if_neg (by omega), if_pos (by omega)]
    · rw [if_neg h, if_neg (by omega), if_neg (by omega)]
theorem grid_new (w : World) (n : Nat) : GridAt (w.alloc (.cells (gridC n) 28)) w.heap.size n (fun _ _ => false) := by
  refine ⟨?_, fun i k hi hk => ?_, fun j => ?_⟩
  · rw [alloc_cell, if_neg (by omega), if_pos rfl, gridC_get, if_pos rfl]
  · rw [alloc_cell, if_neg (by omega), if_pos rfl, gridC_get, if_neg (by omega), if_pos (by omega)]
  · rw [alloc_frozen, if_neg (by omega)]
/-- it gives back a new relation. -/
def GivesGrid (w : World) (n : Nat) (f : Nat → Nat → Bool) (e : Ending) (w' : World) : Prop :=
  ∃ b, e = .returned (.pointer (some ⟨b, 0, none⟩)) ∧ (∃ p : Regrown, w' = more w p) ∧ w.heap.size ≤ b ∧ GridAt w' b n f
end Go.Proofs.YtgghhbjaokgeeaaDoor
