/- Walk: the statement on size and alignment, over what the program's functions and the document's give. Conditions: what came in lies in memory. -/
import Derived.Test.YtlbkloamabomcaaLayLocsT
import Derived.Test.YtlbkloamabomcaaLayRefAny
import Derived.Test.YtlbkloamabomcaaKindOpen
namespace Go.Proofs.Ytlbkloamabomcaa
open Go.RowKit Go.Sort
set_option linter.unusedVariables false
set_option linter.unusedSimpArgs false
set_option maxRecDepth 100000 in
set_option maxHeartbeats 1600000 in
theorem layoutOf_walk (n : Nat) (t : Ty n) (r : Raw) (w : World) (hT : TyAt w n t r) : Calls Try.prog 3 #[r.val] w fun e w' => e = .returned (.bool true) ∧ Below w.heap.size w w' := by
  have A := Lib.hid awakeL_any
  have O := Lib.hid (fun W (hW : Below w.heap.size w W) => Of_any n t r W (hT.below hW))
  have C := Lib.hid (fun W (hW : Below w.heap.size w W) => rcheck_any n t r W (hT.below hW))
  by_cases hE : checkF n t = 0
  · obtain ⟨_, hs, _, g, hg, hg2⟩ := checkF_zero hE
    have Y := Lib.hid (fun W (hW : Below w.heap.size w W) => (lay_any n t r W hs (hT.below hW)).mono (fun e w' (h : LayC n t W e w') => by
      obtain ⟨⟨s, a, a2, n2, k2, a3, n3, k3, L, he, _, h2, _⟩, hp⟩ := h
      obtain ⟨rfl, rfl⟩ := h2 g hg
      exact (⟨⟨a2, n2, k2, a3, n3, k3, L, he⟩, hp⟩ : (∃ a2 n2 k2 a3 n3 k3 L, e = .returned (.agg #[.int .i64 g.1, .int .i64 g.2, .slice a2 n2 k2, .slice a3 n3 k3, .bool L])) ∧ ∃ p : Regrown, w' = more W p)))
    rw [hE] at C O
    rw [hg2] at O
    clear hT hE hg hg2 hs
    obtain ⟨rk, rs, rp, fa, fl, fc, rc, ea, el, ec⟩ := r
    unfold Raw.val at *
    obtain ⟨ga, gb⟩ := g
    simp only at *
    go_enter Try.func3, Try.ntmps3
    go_wp2_with (first
      | (go_at_call 15; refine (A.out _).mono ?_; rintro e w1 ⟨rfl, p1, rfl⟩)
      | (go_at_call 13; refine (O.out _ (by repeat (first | with_reducible exact Below.refl _ _ | with_reducible refine below_mo ?_ _ | with_reducible refine below_al ?_ _))).mono ?_; rintro e w1 ⟨rfl, p2, rfl⟩)
      | (go_at_call 14; refine (C.out _ (by repeat (first | with_reducible exact Below.refl _ _ | with_reducible refine below_mo ?_ _ | with_reducible refine below_al ?_ _))).mono ?_; rintro e w1 ⟨rfl, p3, rfl⟩)
      | (go_at_call 16; refine (Y.out _ (by repeat (first | with_reducible exact Below.refl _ _ | with_reducible refine below_mo ?_ _ | with_reducible refine below_al ?_ _))).mono ?_; rintro e w1 ⟨⟨a2, n2, k2, a3, n3, k3, L, rfl⟩, p4, rfl⟩))
    go_ret
    exact ⟨by simp, by repeat (first | with_reducible exact Below.refl _ _ | with_reducible refine below_mo ?_ _ | with_reducible refine below_al ?_ _)⟩
  · have hg2 : formOf n t = (0, 0) := by unfold formOf; rw [if_neg hE]
    rw [hg2] at O
    clear hT
    generalize checkF n t = E at *
    obtain ⟨rk, rs, rp, fa, fl, fc, rc, ea, el, ec⟩ := r
    unfold Raw.val at *
    simp only at *
    go_enter Try.func3, Try.ntmps3
    go_wp2_with (first
      | (go_at_call 15; refine (A.out _).mono ?_; rintro e w1 ⟨rfl, p1, rfl⟩)
      | (go_at_call 13; refine (O.out _ (by repeat (first | with_reducible exact Below.refl _ _ | with_reducible refine below_mo ?_ _ | with_reducible refine below_al ?_ _))).mono ?_; rintro e w1 ⟨rfl, p2, rfl⟩)
      | (go_at_call 14; refine (C.out _ (by repeat (first | with_reducible exact Below.refl _ _ | with_reducible refine below_mo ?_ _ | with_reducible refine below_al ?_ _))).mono ?_; rintro e w1 ⟨rfl, p3, rfl⟩))
    go_ret
    exact ⟨by simp, by repeat (first | with_reducible exact Below.refl _ _ | with_reducible refine below_mo ?_ _ | with_reducible refine below_al ?_ _)⟩
end Go.Proofs.Ytlbkloamabomcaa
