/- Walk: taking away things that nothing leads to. Conditions: no more than 64 things. -/
import Derived.Test.YtgghhbjaokgeeaaDoorRelGrid
import Derived.Test.YtgghhbjaokgeeaaDoorRelKahn
import Derived.Test.YtgghhbjaokgeeaaDoorRelLine
import Derived.Deep.WholeRow
namespace Go.Proofs.YtgghhbjaokgeeaaDoor
open Go.RowKit Go.Sort Go.Lib
set_option linter.unusedVariables false
set_option linter.unusedSimpArgs false
def z64 : Array Value := Array.replicate 64 (.bool false)
theorem z64_size : z64.size = 64 := by unfold z64; simp
theorem built_64 : Tryd.prog.built 25 [] = some z64 := by kernel_rfl
theorem zero_64 (W : World) : (zeroValue 25).run Tryd.prog W = .ok (.agg z64) W := by kernel_rfl
theorem info_64 : (Tryd.prog.info? 25).map (·.size) = some 64 := by kernel_rfl
theorem one_64 : z64.all (·.oneCell') = true := by kernel_rfl
theorem wpList_build64 {ops : Array Oper} {rest : List Oper} {o : Oper} {a : Act} {w : World} {Q : Exit → Act → World → Prop} (hg : o.guard = none) (ho : o.op = .build 25 #[])
    (h : wpList Tryd.prog ops Q rest (a.put o.dst (.agg z64)) w) : wpList Tryd.prog ops Q (o :: rest) a w := by
  have e : Tryd.prog.built 25 ((#[] : Array (Nat × Operand)).map fun (i, x) => (i, a.eval x)).toList = some z64 := by
    rw [Array.map_empty]
    exact built_64
  refine wpList_build hg _ _ ho (by rw [e]; rfl) ?_
  rw [e]
  exact h
theorem wpList_alloc64 {ops : Array Oper} {rest : List Oper} {op : Oper} {a : Act} {w : World} {Q : Exit → Act → World → Prop} (hgd : op.guard = none) (ho : op.op = .alloc 25)
    (h : wpList Tryd.prog ops Q rest (a.put op.dst (.pointer (some ⟨w.heap.size, 0, none⟩))) (w.alloc (.cells z64 25))) : wpList Tryd.prog ops Q (op :: rest) a w :=
  wpList_plain hgd fun K hK => by
    have e := zero_64
    unfold Oper.wp execOp
    simp only [ho, Instr.alloc, newVar, Sem.run_bind, Sem.run_pure, Result.andThen_ok, e]
    exact hK _ _ h
theorem store_64 (W : World) (B : Nat) (hB : W.heap.size = B) : (storeCells ⟨B, 0, none⟩ z64.toList 0).run Tryd.prog (W.alloc (.cells z64 25)) = .ok () (W.alloc (.cells z64 25)) := by
  subst hB
  exact run_storeCells_new W 25 z64 z64 (by rw [z64_size]; exact info_64) rfl one_64
/-- what is gone lies so. -/
def GoneAt (w : World) (b : Nat) (gone : Nat → Bool) : Prop := ∀ k, k < 64 → w.cell? ⟨b, k, none⟩ = some (.bool (gone k)) ∧ w.frozen? ⟨b, k, none⟩ = false
theorem gone_new (w : World) : GoneAt (w.alloc (.cells z64 25)) w.heap.size (fun _ => false) := fun k hk => by
  refine ⟨?_, ?_⟩
  · rw [alloc_cell, if_neg (by omega), if_pos rfl]
    unfold z64
    rw [Array.getElem?_replicate, if_pos hk]
  · rw [alloc_frozen, if_neg (by omega)]
theorem GoneAt.set {w : World} {b : Nat} {gone : Nat → Bool} (h : GoneAt w b gone) (t : Nat) (ht : t < 64) : GoneAt (w.setCell ⟨b, t, none⟩ (.bool true)) b (fun k => if k = t then true else gone k) := fun k hk => by
  obtain ⟨h1, h2⟩ := h k hk
  refine ⟨?_, by rw [World.frozen?_setCell]; exact h2⟩
  by_cases e : k = t
  · subst e
    simp only [if_true]
    exact World.cell?_setCell_same _ _ _ h1
  · simp only [if_neg e]
    rw [World.cell?_setCell_other _ _ _ _ (fun h => e (congrArg Addr.off h).symm)]
    exact h1
/-- what has been found. -/
def FdI : Option Nat → Int
  | none => -1
  | some f => f
set_option maxHeartbeats 4000000 in
theorem racy_any (ba N : Nat) (A : Nat → Nat → Bool) (hN : N ≤ 64) (h0 : ∀ a c, N ≤ a → A a c = false) (w : World) (hGa : GridAt w ba N A) :
    Calls Tryd.prog 26 #[.pointer (some ⟨ba, 0, none⟩)] w (GivesB w (∀ x, ¬ Rch A x x)) := by
  have hla := hGa.lt
  have HB := Lib.hid (below_al (Below.refl _ w) (.cells z64 25))
  have HA := Lib.hid (hGa.below HB.out)
  have H0 := Lib.hid h0
  have HG := Lib.hid (gone_new w)
  have hna := hGa.n_
  clear hGa h0
  go_enter Tryd.func26, Tryd.ntmps26
  have hz2 := z64_size
  go_wp2_with (first
    | ((with_reducible refine wpList_build64 rfl rfl ?_))
    | ((with_reducible refine wpList_alloc64 rfl rfl ?_)))
  rw [store_64 _ _ rfl]
  go_wp2_with fail
  clear hz2
  have hzA : w.heap.size < (w.alloc (.cells z64 25)).heap.size := by simp
  clear hna
  generalize w.alloc (.cells z64 25) = wA at *
  go_loopw [4] (fun v4 wr => ∃ (t : Nat) (gone : Nat → Bool), t ≤ N ∧ v4 = .int .i64 t ∧ Onto w.heap.size wA wr ∧ GoneAt wr w.heap.size gone ∧ KI A N t gone) (fun v4 _ => N - (intOf v4).toNat)
  case atStart => exact ⟨0, fun _ => false, by omega, rfl, Onto.refl, HG.out, KI.start A N⟩
  case round =>
    obtain ⟨t, gone, ht, rfl, ho, hg, hki⟩ := hrel
    have HO := Lib.hid ho
    have HG2 := Lib.hid hg
    have HK := Lib.hid hki
    have HA2 := Lib.hid (HA.out.onto ho (by omega))
    have hna := HA2.out.n_
    have hlr := HA2.out.lt
    have hlg : w.heap.size < wr.heap.size := Nat.lt_of_lt_of_le hzA ho.size
    clear ho hg hki HG
    obtain ⟨w1, rfl⟩ : ∃ w1 : World, w1 = wr := ⟨_, rfl⟩
    by_cases hlt : (t : Int) < N
    · go_wp2_with fail
      go_loopw [5, 6] (fun v5 v6 wr => ∃ (k : Nat) (fd : Option Nat), k ≤ N ∧ v6 = .int .i64 k ∧ v5 = .int .i64 (FdI fd) ∧ w1 = wr ∧ (fd = none → ∀ j, j < k → ¬ Free A N gone j) ∧ (∀ f, fd = some f → f < N ∧ Free A N gone f)) (fun _ v6 _ => N - (intOf v6).toNat)
      case atStart => exact ⟨0, none, by omega, rfl, rfl, rfl, fun _ j hj => by omega, fun f hf => by cases hf⟩
      case round =>
        obtain ⟨k, fd, hk, rfl, rfl, rfl, hfn, hfs⟩ := hrel
        have HFN := Lib.hid hfn
        have HFS := Lib.hid hfs
        clear hfn hfs
        cases fd with
        | some f =>
          obtain ⟨hfN, hfree⟩ := HFS.out f rfl
          have HT := Lib.hid (HK.out.take H0.out hfN hfree)
          obtain ⟨d1, d2⟩ := HG2.out f (by omega)
          have hf64 : f < 64 := by omega
          have hfd : FdI (some f) = (f : Int) := rfl
          rw [hfd]
          clear HFN HFS hfree
          by_cases hkN : (k : Int) < N
          · go_wp2_with fail
            go_roundw
            case rel => exact ⟨t + 1, fun c => if c = f then true else gone c, by omega, by go_num, HO.out.set f _, HG2.out.set f hf64, HT.out⟩
            case measure => simp [intOf]; omega
          · go_wp2_with fail
            go_roundw
            case rel => exact ⟨t + 1, fun c => if c = f then true else gone c, by omega, by go_num, HO.out.set f _, HG2.out.set f hf64, HT.out⟩
            case measure => simp [intOf]; omega
        | none =>
          have hfd : FdI none = -1 := rfl
          rw [hfd]
          by_cases hkN : (k : Int) < N
          · have hk64 : k < 64 := by omega
            obtain ⟨d1, _⟩ := HG2.out k hk64
            go_wp2_with fail
            go_loopw [7, 8] (fun v7 v8 wr => ∃ (i : Nat) (b : Bool), i ≤ N ∧ v8 = .int .i64 i ∧ v7 = .bool b ∧ w1 = wr ∧ (b = true ↔ gone k = false ∧ ∀ j, j < i → gone j = true ∨ A j k = false)) (fun _ v8 _ => N - (intOf v8).toNat)
            case atStart => exact ⟨0, _, by omega, rfl, rfl, rfl, by simp⟩
            case round =>
              obtain ⟨i, b, hi, rfl, rfl, rfl, hb⟩ := hrel
              have HBb := Lib.hid hb
              clear hb
              by_cases hiN : (i : Int) < N
              · have hi64 : i < 64 := by omega
                obtain ⟨d2, _⟩ := HG2.out i hi64
                have a1 := HA2.out.on_ i k hi64 hk64
                have HS : ∀ b' : Bool, (b' = true ↔ b = true ∧ (gone i = true ∨ A i k = false)) → (b' = true ↔ gone k = false ∧ ∀ j, j < i + 1 → gone j = true ∨ A j k = false) := fun b' h => by
                  rw [h, HBb.out]
                  constructor
                  · rintro ⟨⟨h1, h2⟩, h3⟩
                    refine ⟨h1, fun j hj => ?_⟩
                    by_cases e : j = i
                    · subst e; exact h3
                    · exact h2 j (by omega)
                  · rintro ⟨h1, h2⟩
                    exact ⟨⟨h1, fun j hj => h2 j (by omega)⟩, h2 i (by omega)⟩
                replace HS := Lib.hid HS
                clear HBb
                generalize hgi : gone i = gi at *
                generalize hai : A i k = ai at *
                clear hgi hai
                cases b with
                | false =>
                  go_wp2_with fail
                  go_roundw
                  case rel => exact ⟨i + 1, false, by omega, by go_num, rfl, trivial, HS.out _ (by simp)⟩
                  case measure => simp [intOf]; omega
                | true =>
                  cases gi with
                  | true =>
                    go_wp2_with fail
                    go_roundw
                    case rel => exact ⟨i + 1, true, by omega, by go_num, rfl, trivial, HS.out _ (by simp)⟩
                    case measure => simp [intOf]; omega
                  | false =>
                    go_wp2_with fail
                    go_roundw
                    case rel => exact ⟨i + 1, !ai, by omega, by go_num, rfl, trivial, HS.out _ (by simp)⟩
                    case measure => simp [intOf]; omega
              · obtain rfl : i = N := by omega
                have HBF : Hid (b = true ↔ Free A i gone k) := Lib.hid HBb.out
                cases b with
                | true =>
                  have hfr := HBF.out.1 rfl
                  replace hfr := Lib.hid hfr
                  go_wp2_with fail
                  go_roundw
                  case rel => exact ⟨k + 1, some k, by omega, by go_num, rfl, trivial, fun h => (by cases h), fun f hf => (by cases hf; exact ⟨by omega, hfr.out⟩)⟩
                  case measure => simp [intOf]; omega
                | false =>
                  have hfr : ¬ Free A i gone k := fun h => by have := HBF.out.2 h; cases this
                  replace hfr := Lib.hid hfr
                  go_wp2_with fail
                  go_roundw
                  case rel => exact ⟨k + 1, none, by omega, by go_num, rfl, trivial, fun _ j hj => (by
                    by_cases e : j = k
                    · subst e; exact hfr.out
                    · exact HFN.out (by first | rfl | trivial) j (by omega)), fun f hf => (by cases hf)⟩
                  case measure => simp [intOf]; omega
          · obtain rfl : k = N := by omega
            have HN := Lib.hid (HK.out.stuck (by omega) (HFN.out rfl))
            go_wp2_with fail
            go_ret
            exact GivesB.no HN.out (HO.out.under HB.out (Nat.le_refl _))
    · obtain rfl : t = N := by omega
      have HY := Lib.hid (HK.out.whole H0.out)
      go_wp2_with fail
      go_ret
      exact GivesB.yes HY.out (HO.out.under HB.out (Nat.le_refl _))
end Go.Proofs.YtgghhbjaokgeeaaDoor
