/- Walks: the statements on types, over what the program's functions and the document's give. Conditions: what came in lies in memory. -/
import Derived.Test.YtjioinmiglblmaaKindAwake
import Derived.Test.YtjioinmiglblmaaKindRefSame3
import Derived.Test.YtjioinmiglblmaaKindOpen
namespace Go.Proofs.Ytjioinmiglblmaa
open Go.RowKit Go.Sort
set_option linter.unusedVariables false
set_option linter.unusedSimpArgs false
theorem kindNames_walk (s : ByteArray) (hs : s.size ≤ 9223372036854775807) (w : World) : Calls Try.prog 7 #[.string s] w fun e w' => e = .returned (.bool true) ∧ Below w.heap.size w w' := by
  have A := Lib.hid awake_any
  have N1 := Lib.hid (fun W => name_any s hs W)
  have N2 := Lib.hid (fun W => refname_any s hs W)
  go_enter Try.func7, Try.ntmps7
  go_wp2_with (first | (go_at_call 19; refine (A.out _).mono ?_; rintro e w1 ⟨rfl, p1, rfl⟩) | (go_at_call 20; refine (N1.out _).mono ?_; rintro e w1 ⟨rfl, p2, rfl⟩) | (go_at_call 21; refine (N2.out _).mono ?_; rintro e w1 ⟨rfl, p3, rfl⟩))
  go_ret
  exact ⟨by simp, by repeat (first | exact Below.refl _ _ | refine below_mo ?_ _ | refine below_al ?_ _)⟩
theorem kindSound_walk (n : Nat) (t : Ty n) (r : Raw) (w : World) (hT : TyAt w n t r) : Calls Try.prog 8 #[r.val] w fun e w' => e = .returned (.bool true) ∧ Below w.heap.size w w' := by
  have A := Lib.hid awake_any
  have S1 := Lib.hid (fun W (hW : Below w.heap.size w W) => Sound_any n t r W (hT.below hW))
  have S2 := Lib.hid (fun W (hW : Below w.heap.size w W) => refSound_any n t r W (hT.below hW))
  have D1 := Lib.hid (fun W (hW : Below w.heap.size w W) => Depth_any n t r W (hT.below hW))
  have D2 := Lib.hid (fun W (hW : Below w.heap.size w W) => refdepth_any n t r 65 W (by omega) (by omega) (hT.below hW))
  have hr := depthF_rng n t 65 (by omega)
  clear hT
  obtain ⟨rk, rs, rp, fa, fl, fc, rc, ea, el, ec⟩ := r
  unfold Raw.val at S1 S2 D1 D2 ⊢
  simp only at S1 S2 D1 D2 ⊢
  generalize depthF n t 65 = d at *
  generalize SoundF n t = U at *
  go_enter Try.func8, Try.ntmps8
  go_wp2_with fail
  refine wp_quiet_more (by kernel_rfl) (by kernel_rfl) ?_
  repeat (go_big_quiet_step (first | (go_at_call 19; exact quiet_more (A.out _)) | (go_at_call 22; exact quiet_more (S1.out _ (by repeat (first | exact Below.refl _ _ | refine below_mo ?_ _ | refine below_al ?_ _)))) | (go_at_call 23; exact quiet_more (S2.out _ (by repeat (first | exact Below.refl _ _ | refine below_mo ?_ _ | refine below_al ?_ _)))) | (go_at_call 24; exact quiet_more (D1.out _ (by repeat (first | exact Below.refl _ _ | refine below_mo ?_ _ | refine below_al ?_ _)))) | (go_at_call 25; exact quiet_more (D2.out _ (by repeat (first | exact Below.refl _ _ | refine below_mo ?_ _ | refine below_al ?_ _))))))
  refine wpQuiet_nil ?_
  intro p3
  go_wp2
  go_ret
  exact ⟨by simp, by repeat (first | exact Below.refl _ _ | refine below_mo ?_ _ | refine below_al ?_ _)⟩
theorem kindSame_walk (n m : Nat) (t : Ty n) (u : Ty m) (r r2 : Raw) (w : World) (hT : TyAt w n t r) (hU : TyAt w m u r2) : Calls Try.prog 9 #[r.val, r2.val] w fun e w' => e = .returned (.bool true) ∧ Below w.heap.size w w' := by
  have A := Lib.hid awake_any
  have S1 := Lib.hid (fun W (hW : Below w.heap.size w W) => same_any n m t u r r2 W (hT.below hW) (hU.below hW))
  have S2 := Lib.hid (fun W (hW : Below w.heap.size w W) => refsame_any n m t u r r2 W (hT.below hW) (hU.below hW))
  clear hT hU
  obtain ⟨rk, rs, rp, fa, fl, fc, rc, ea, el, ec⟩ := r
  obtain ⟨rk2, rs2, rp2, fa2, fl2, fc2, rc2, ea2, el2, ec2⟩ := r2
  unfold Raw.val at S1 S2 ⊢
  simp only at S1 S2 ⊢
  generalize sameF n m t u = U at *
  cases U
  all_goals
    go_enter Try.func9, Try.ntmps9
    go_wp2_with fail
    refine wp_quiet_more (by kernel_rfl) (by kernel_rfl) ?_
    repeat (go_big_quiet_step (first | (go_at_call 19; exact quiet_more (A.out _)) | (go_at_call 26; exact quiet_more (S1.out _ (by repeat (first | exact Below.refl _ _ | refine below_mo ?_ _ | refine below_al ?_ _)))) | (go_at_call 27; exact quiet_more (S2.out _ (by repeat (first | exact Below.refl _ _ | refine below_mo ?_ _ | refine below_al ?_ _))))))
    refine wpQuiet_nil ?_
    intro p3
    go_wp2
    go_ret
    exact ⟨by simp, by repeat (first | exact Below.refl _ _ | refine below_mo ?_ _ | refine below_al ?_ _)⟩
end Go.Proofs.Ytjioinmiglblmaa
