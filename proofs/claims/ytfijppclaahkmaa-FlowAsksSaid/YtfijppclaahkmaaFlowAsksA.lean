/- Walk: FlowAsks, where nothing is asked of memory. Conditions: numbers fit. -/
import Derived.Test.YtfijppclaahkmaaFlowAwake
import Derived.Test.YtfijppclaahkmaaFlowRef
import Derived.Test.YtfijppclaahkmaaFlowEq
import Derived.Test.YtfijppclaahkmaaA64RefEnc
namespace Go.Proofs.Ytfijppclaahkmaa
open Go.RowKit Go.Sort
set_option linter.unusedVariables false
set_option linter.unusedSimpArgs false
set_option maxHeartbeats 4000000 in
theorem asks_unsound (s : St) (i : Ins) (hi : i.rng) (h : enc i = none) (w : World) : Calls Try.prog 3 #[stV s, insV i] w fun e w' => e = .returned (.bool true) ∧ Below w.heap.size w w' := by
  have A := Lib.hid awake_fl
  have AK := Lib.hid (fun W => ask_no s i hi (Or.inl (by rw [h]; rfl)) W)
  have RE := Lib.hid (fun W => rencode_any i hi W)
  rw [h] at RE
  have SZ := Lib.hid (fun W => rsize_any i hi W)
  have ST := Lib.hid (fun W => st_new W s 27)
  clear h hi
  obtain ⟨op, d, n, m, e, sz, imm⟩ := i
  rw [show stV s = .agg (stC s.f) from rfl]
  generalize hv : stV s = V at AK
  unfold insV accV at *
  simp only [Option.getD_none, Option.getD_some, Option.isSome_none, Option.isSome_some] at *
  go_enter Try.func3, Try.ntmps3
  go_upto_region 1 with fail
  refine wp_region_lit ?_
  refine wpList_load_st (s := s) (b := w.heap.size) (.tmp 2) rfl rfl rfl (stat_alloc (ST.out w) _) ?_
  rw [hv]
  go_frame
  go_wp2_with (first
    | (go_at_call 10; refine (A.out _).mono ?_; rintro e w1 ⟨rfl, p1, rfl⟩)
    | (go_at_call 7; refine (AK.out _).mono ?_; rintro e w1 ⟨rfl, p2, rfl⟩)
    | (go_at_call 8; refine (RE.out _).mono ?_; rintro e w1 ⟨rfl, p3, rfl⟩)
    | (go_at_call 9; refine (SZ.out _).mono ?_; rintro e w1 ⟨z, rfl, p4, rfl⟩))
  all_goals (go_ret; exact ⟨by simp, by repeat (first | with_reducible exact Below.refl _ _ | with_reducible refine below_mo ?_ _ | with_reducible refine below_al ?_ _)⟩)
set_option maxHeartbeats 4000000 in
theorem asks_none (s : St) (i : Ins) (hi : i.rng) (v : Nat) (h : enc i = some v) (hm : meB i.op = false) (w : World) : Calls Try.prog 3 #[stV s, insV i] w fun e w' => e = .returned (.bool true) ∧ Below w.heap.size w w' := by
  have A := Lib.hid awake_fl
  have AK := Lib.hid (fun W => ask_no s i hi (Or.inr hm) W)
  have RE := Lib.hid (fun W => rencode_any i hi W)
  rw [h] at RE
  have SZ := Lib.hid (fun W => rsize_no i hm W)
  have ST := Lib.hid (fun W => st_new W s 27)
  clear h hi hm
  obtain ⟨op, d, n, m, e, sz, imm⟩ := i
  rw [show stV s = .agg (stC s.f) from rfl]
  generalize hv : stV s = V at AK
  unfold insV accV at *
  simp only [Option.getD_none, Option.getD_some, Option.isSome_none, Option.isSome_some] at *
  go_enter Try.func3, Try.ntmps3
  go_upto_region 1 with fail
  refine wp_region_lit ?_
  refine wpList_load_st (s := s) (b := w.heap.size) (.tmp 2) rfl rfl rfl (stat_alloc (ST.out w) _) ?_
  rw [hv]
  go_frame
  go_wp2_with (first
    | (go_at_call 10; refine (A.out _).mono ?_; rintro e w1 ⟨rfl, p1, rfl⟩)
    | (go_at_call 7; refine (AK.out _).mono ?_; rintro e w1 ⟨rfl, p2, rfl⟩)
    | (go_at_call 8; refine (RE.out _).mono ?_; rintro e w1 ⟨rfl, p3, rfl⟩)
    | (go_at_call 9; refine (SZ.out _).mono ?_; rintro e w1 ⟨rfl, p4, rfl⟩))
  all_goals (go_ret; exact ⟨by simp, by repeat (first | with_reducible exact Below.refl _ _ | with_reducible refine below_mo ?_ _ | with_reducible refine below_al ?_ _)⟩)
end Go.Proofs.Ytfijppclaahkmaa
