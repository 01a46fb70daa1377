/- The statement 'RelUnions' of the program's functions holds: for every input the call returns true, and each argument reads afterwards as it did; what the library's table holds is tied to the program's text. No condition. -/
import Derived.Test.YtgghhbjaokgeeaaDoorCards
import Derived.Test.YtgghhbjaokgeeaaDoorTie
import Derived.Test.YtgghhbjaokgeeaaDoorRelLaid
import Derived.Test.YtgghhbjaokgeeaaDoorRelOpen
import Derived.Test.YtgghhbjaokgeeaaDoorLawKit
import Derived.Test.YtgghhbjaokgeeaaDoorRelLaws3
import Derived.SevenTiedAt
namespace Go.Proofs.YtgghhbjaokgeeaaDoor.relUnions
open Go.ChangeShapes Go.WideShapes Go.ChangeAt Go.WideMaps Go.WideElems Go.RowKit
set_option linter.unusedVariables false
set_option linter.unusedSimpArgs false
theorem own : ownKnob Tryd.prog.godebug = none := by kernel_rfl
theorem laid : laidOutB Tryd.prog = true := by kernel_rfl
theorem reads : (Tryd.f4.params.toList.all fun t => Tryd.prog.readableRec t && decide (t < Tryd.prog.types.size)) = true := by kernel_rfl
theorem door_met (os : Os) (args : Array Value) : laidMetH Tryd.prog laidT ((World.doorLaid Tryd.prog 14 os).forCall (fun _ _ => 0) ⟨#[], args, []⟩).memory :=
  laidMetH_of_parts3 (fuel := 8) (laidMet_of_run' 8 (by kernel_rfl) (by kernel_rfl)) (by kernel_rfl) (by kernel_rfl)
set_option maxRecDepth 100000 in
theorem lifted (os : Os) (started : os.Started) (H : Type) (enc : TypeId × Value → H) :
    ReturnsInHanded {} Tryd.checked os 4 .any (fun w args => (Rows.relUnionsSpec.pre enc Tryd.prog Tryd.f4 [] false w args ∧ laidMetH Tryd.prog laidT w) ∧ sizedMet enc Tryd.prog Tryd.f4 (OpenSpec.ofChange Rows.relUnionsSpec) false w args)
      (Rows.relUnionsSpec.post enc Tryd.prog Tryd.f4 false true false false) := by
  refine returnsInHanded_of_change_and (C := Tryd.checked) (X := fun w _ => laidMetH Tryd.prog laidT w) (fun _ _ _ hh h => h.of_heap hh) own started (by kernel_rfl) Tryd.func4
    (ChangeSpec.witness_shaped (enc := enc) (C := Tryd.checked) (os := os) (X := fun w _ => laidMetH Tryd.prog laidT w) false (World.doorLaid Tryd.prog 14 os) #[.slice none 0 0, .slice none 0 0, .int .u64 0, .int .u64 0] 8 rfl (World.shaped_of_RefB (by kernel_rfl) (by kernel_rfl)) (by kernel_rfl) (by kernel_rfl) (by kernel_rfl) (door_met os _)) ?_
  intro W base args ds gs before hval0 hW _ _ hL _
  have hval : ∀ (j : Nat) t v, Tryd.f4.params[j]? = some t → args[j]? = some v → Value.okWide Tryd.prog W .any base t v := hval0
  have hW' := hW
  obtain ⟨p, q, hA0, hV, rfl, hfz, hnd⟩ := hW
  have hA : DataW.TrodAll enc Tryd.prog W 0 (fun _ => true) true Tryd.f4.params.toList args.toList ds p := hA0
  rw [Tryd.params4] at hA hval
  obtain ⟨v0, vs0, d0, ds0, p0, q0, hargs, rfl, rfl, h0, r0⟩ := trodAll_cons hA
  obtain ⟨v1, vs1, d1, ds1, p1, q1, rfl, rfl, rfl, h1, r1⟩ := trodAll_cons r0
  obtain ⟨v2, vs2, d2, ds2, p2, q2, rfl, rfl, rfl, h2, r2⟩ := trodAll_cons r1
  obtain ⟨v3, vs3, d3, ds3, p3, q3, rfl, rfl, rfl, h3, r3⟩ := trodAll_cons r2
  obtain ⟨rfl, rfl, rfl⟩ := trodAll_nil r3
  obtain rfl : args = #[v0, v1, v2, v3] := by cases args; simp_all
  obtain ⟨rfl, rfl⟩ := trodVars_none hV
  obtain ⟨l0, R0, S0⟩ := rows_open (hval 0 22 v0 rfl rfl) h0
  obtain ⟨l1, R1, S1⟩ := rows_open (hval 1 22 v1 rfl rfl) h1
  obtain ⟨a2, rfl, rfl, rfl, w2⟩ := open_int Tryd.underlying36 (hval 2 36 v2 rfl rfl) h2
  obtain ⟨x2, rfl, b2⟩ := u64_nat w2
  obtain ⟨a3, rfl, rfl, rfl, w3⟩ := open_int Tryd.underlying36 (hval 3 36 v3 rfl rfl) h3
  obtain ⟨x3, rfl, b3⟩ := u64_nat w3
  have hT := of_laid hL
  clear hA0 hval0
  refine (relUnions_go v0 v1 l0 l1 R0 R1 x2 x3 b2 b3 W S0 S1 hT).mono fun e W' h => ?_
  obtain ⟨he, hb⟩ : e = .returned (.bool true) ∧ Below W.heap.size W W' := ⟨h.1, h.below⟩
  subst he
  exact ⟨_, rfl, law_end hW' rfl rfl rfl rfl laid reads rfl Tryd.underlying4 hb⟩
theorem row_holds : Rows.RelUnionsSaid :=
  OpenClaim.holds_of_wide 4 Tryd.f4 rfl rfl rfl rfl rfl rfl rfl ⟨rfl, rfl, rfl, rfl, rfl⟩ rfl rfl rfl rfl rfl (by kernel_rfl) Tryd.func4 (by kernel_rfl)
    (of_decide_eq_true (by kernel_rfl)) (by unfold Func.isWrapper; first | (rw [if_pos (by decide +kernel)]; kernel_rfl) | (rw [if_neg (by decide +kernel)]; exact ⟨rfl, rfl⟩))
    (fun os started H enc _ => lifted os started H enc)
/-- THE STATEMENT. -/
theorem proved : Rows.RelUnionsCardSaid :=
  Claim7.holds_tied_plain_at .later [] [.data] true (true, "bcf87ae5fdc78fbee4d60ce4498cd993fe4d9cfdb9ef7018ba94fb79abe703a7") false
    row_holds (fun _ h => by cases h) (by kernel_rfl) (fun _ h => by cases h) relUnions_row_tie rfl ⟨rfl, rfl⟩ (by kernel_rfl) rfl
    (fun f fn hf hfn => by
      obtain rfl : f = 4 := Option.some.inj ((show Tryd.prog.funcNamed "rabbet/rabbetlaw02.RelUnions" = some 4 by kernel_rfl).symm.trans hf) |>.symm
      obtain rfl : fn = Tryd.f4 := (Option.some.inj (Tryd.func4.symm.trans hfn)).symm
      exact ⟨by kernel_rfl, fun j t ht => by
        rw [Tryd.params4] at ht
        have hm : t ∈ [22, 22, 36, 36] := by simpa using Array.mem_of_getElem? ht
        have hall : ([22, 22, 36, 36].all fun u => !Tryd.prog.wantsStandIn u) = true := by kernel_rfl
        exact (show Tryd.prog.wantsStandIn t = false by simpa using List.all_eq_true.1 hall t hm)⟩)
    (by kernel_rfl)
#print axioms proved
end Go.Proofs.YtgghhbjaokgeeaaDoor.relUnions
