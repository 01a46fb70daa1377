/- The statement 'WorldApart' of the program's functions holds: for every input the call returns true, and each argument reads afterwards as it did. No condition. -/
import Derived.Test.YtlbkloamabomcaaRows
import Derived.Test.YtlbkloamabomcaaLawKit
import Derived.Test.YtlbkloamabomcaaWldLawApart
namespace Go.Proofs.Ytlbkloamabomcaa.worldApart
open Go.ChangeShapes Go.WideShapes Go.ChangeAt Go.RowKit
set_option linter.unusedVariables false
theorem own : ownKnob Try.prog.godebug = none := by kernel_rfl
theorem laid : laidOutB Try.prog = true := by kernel_rfl
theorem reads : (Try.f10.params.toList.all fun t => Try.prog.readableRec t && decide (t < Try.prog.types.size)) = true := by kernel_rfl
set_option maxRecDepth 100000 in
theorem lifted (os : Os) (started : os.Started) (H : Type) (enc : TypeId × Value → H) :
    ReturnsInHanded {} Try.checked os 10 .any (Rows.worldApartSpec.pre6 enc Try.prog Try.f10 Rows.worldApartRow.domain false) (Rows.worldApartSpec.post enc Try.prog Try.f10 false true false false) := by
  refine returnsInHanded_of_change_sized (C := Try.checked) own started (by kernel_rfl) Try.func10
    (ChangeSpec.witness6 (enc := enc) (C := Try.checked) false ⟨#[], #[.slice none 0 0], []⟩ 8 (by kernel_rfl) (by kernel_rfl) (by kernel_rfl) (by kernel_rfl)) ?_
  intro W base args ds gs before hval0 hW hcnd hsz hholds
  have hval : ∀ (j : Nat) t v, Try.f10.params[j]? = some t → args[j]? = some v → Value.okWide Try.prog W .any base t v := hval0
  have hW' := hW
  obtain ⟨p, q, hA0, hV, rfl, hfz, hnd⟩ := hW
  have hA : DataW.TrodAll enc Try.prog W 0 (fun _ => true) true Try.f10.params.toList args.toList ds p := hA0
  rw [Try.params10] at hA hval
  obtain ⟨v0, vs0, d0, ds0, p0, q0, hargs, rfl, rfl, h0, r0⟩ := trodAll_cons hA
  obtain ⟨rfl, rfl, rfl⟩ := trodAll_nil r0
  obtain rfl : args = #[v0] := by cases args; simp_all
  obtain ⟨rfl, rfl⟩ := trodVars_none hV
  obtain ⟨n0, l0, a0, c0, rfl, V0⟩ := vars_open (hval 0 53 v0 rfl rfl) h0
  clear hA0 hval0
  refine ((worldApart_walk l0 a0 c0 W V0 (by have := vars_room hsz (j := 0) rfl rfl h0; omega)).mono gives_both).mono fun e W' ⟨he, hb⟩ => ?_
  subst he
  exact ⟨_, rfl, law_end hW' rfl rfl rfl rfl laid reads rfl Try.underlying4 hb⟩
theorem over : Rows.worldApartRow.holds Try.pinned (OpenSpec.ofChange Rows.worldApartSpec) :=
  OpenClaim.holds_of_wide 10 Try.f10 rfl rfl rfl rfl rfl rfl rfl ⟨rfl, rfl, rfl, rfl, rfl⟩ rfl rfl rfl rfl rfl (by kernel_rfl) Try.func10 (by kernel_rfl)
    (of_decide_eq_true (by kernel_rfl)) (by unfold Func.isWrapper; first | (rw [if_pos (by decide +kernel)]; kernel_rfl) | (rw [if_neg (by decide +kernel)]; exact ⟨rfl, rfl⟩))
    (fun os started H enc _ => lifted os started H enc)
/-- THE STATEMENT. -/
theorem proved : Rows.WorldApartSaid := over
#print axioms proved
end Go.Proofs.Ytlbkloamabomcaa.worldApart
