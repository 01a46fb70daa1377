/- Walk: FlowReads, where it is no instruction; the world of its walk. Conditions: numbers fit. -/
import Derived.Test.YtfijppclaahkmaaFlowSets
import Derived.Test.YtfijppclaahkmaaFlowStaysA
namespace Go.Proofs.Ytfijppclaahkmaa
open Go.RowKit Go.Sort
set_option linter.unusedVariables false
set_option linter.unusedSimpArgs false
set_option maxRecDepth 10000 in
set_option maxHeartbeats 4000000 in
theorem reads_law_no (s : St) (i : Ins) (hi : i.rng) (g0 g1 n x : Nat) (h : enc i = none) (w : World) : Calls Try.prog 6 #[stV s, insV i, .agg #[.int .u64 (g0 : Nat), .int .u64 (g1 : Nat)], .int .u8 (n : Nat), .int .u64 (x : Nat)] w fun e w' => e = .returned (.bool true) ∧ Below w.heap.size w w' := by
  have A := Lib.hid awake_fl
  have NX := Lib.hid (fun W => next_no s i hi g0 g1 true h W)
  have RD := Lib.hid (fun W => reads_no i hi h W)
  have SE := Lib.hid (fun W => sets_no i hi h W)
  have ST := Lib.hid (fun W => st_new W s 27)
  clear h hi
  obtain ⟨op, d, n1, m, e, sz, imm⟩ := i
  rw [show stV s = .agg (stC s.f) from rfl]
  generalize hv : stV s = V at NX
  generalize hT : St.zero = T at NX
  clear hT
  unfold insV at *
  simp only at NX RD SE
  show Calls Try.prog _ #[.agg (stC s.f), .agg #[.int .i64 op, .int .i64 d, .int .i64 n1, .int .i64 m, .int .i64 e, .int .i64 sz, .int .i64 imm], .agg #[.int .u64 (g0 : Nat), .int .u64 (g1 : Nat)], .int .u8 (n : Nat), .int .u64 (x : Nat)] w _
  go_enter Try.func6, Try.ntmps6
  go_upto_region 1 with fail
  refine wp_quiet_more (by kernel_rfl) (by kernel_rfl) ?_
  repeat (go_big_quiet_step (first | (go_at_call 18; exact quiet_more (RD.out _)) | (go_at_call 19; exact quiet_more (SE.out _))))
  refine wpQuiet_nil ?_
  intro p0
  go_upto_region 2 with fail
  refine wp_region_lit ?_
  refine wpList_load_st (s := s) (b := w.heap.size) (.tmp 5) rfl rfl rfl (stat_more (stat_alloc (stat_alloc (ST.out w) _) _) _) ?_
  rw [hv]
  go_frame
  go_upto_region 3 with (first
    | (refine wpList_alloc_st rfl rfl ?_; go_frame)
    | (refine wpList_store_new (s := T) (.tmp 13) (.tmp 34) rfl rfl rfl rfl ?_ ?_; (generalize stV _ = Z; rfl); go_frame)
    | (go_at_call 14; refine (NX.out _).mono ?_; rintro e w1 ⟨rfl, p1, rfl⟩))
  go_wp2_with (go_at_call 10; refine (A.out _).mono ?_; rintro e w1 ⟨rfl, p2, rfl⟩)
  go_ret
  exact ⟨rfl, by repeat (first | with_reducible exact Below.refl _ _ | with_reducible refine below_mo ?_ _ | with_reducible refine below_al ?_ _)⟩
end Go.Proofs.Ytfijppclaahkmaa
