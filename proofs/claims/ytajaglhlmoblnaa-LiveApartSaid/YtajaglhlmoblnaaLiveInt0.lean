/- Numbers that fit. No condition. -/
import Derived.Test.YtajaglhlmoblnaaLiveIv
import Derived.Deep.RegionWith
namespace Go.Proofs.Ytajaglhlmoblnaa
open Go.RowKit Go.Sort Go.Lib
set_option linter.unusedVariables false
set_option linter.unusedSimpArgs false
def wfI (x : Int) : Prop := (Lit.int .i64 x).wf = true
def LOp.ok (o : LOp) : Prop := wfI o.a ∧ wfI o.b ∧ wfI o.c ∧ wfI o.d ∧ wfI o.d2 ∧ wfI o.tgt
theorem three_wf {x y z : Int} (hx : wfI x) (hy : wfI y) (hz : wfI z) (k : Nat) : wfI (three x y z k) := by
  unfold three
  split
  · exact hx
  · split
    · exact hy
    · exact hz
theorem kept_wf {L : Nat → Int} (h : ∀ k, wfI (L k)) (n : Nat) : ∀ x ∈ kept L n, wfI x := fun x hx => by
  unfold kept at hx
  obtain ⟨j, _, rfl⟩ := List.mem_map.1 (List.mem_filter.1 hx).1
  exact h j
theorem regs_wf {o : LOp} (h : o.ok) : ∀ x ∈ regsL o, wfI x := fun x hx => by
  obtain ⟨h1, h2, h3, h4, h5, _⟩ := h
  rcases List.mem_append.1 hx with hx | hx
  · exact kept_wf (fun k => three_wf h1 h2 h3 k) _ x hx
  · exact kept_wf (fun k => three_wf h4 h5 (by unfold wfI; decide) k) _ x hx
end Go.Proofs.Ytajaglhlmoblnaa
