/- Walk: FlowStays, where it is no instruction. Conditions: numbers fit. -/
import Derived.Test.YtfijppclaahkmaaFlowAwake
import Derived.Test.YtfijppclaahkmaaFlowEq
import Derived.Test.YtfijppclaahkmaaFlowStaysM
namespace Go.Proofs.Ytfijppclaahkmaa
open Go.RowKit Go.Sort
set_option linter.unusedVariables false
set_option linter.unusedSimpArgs false
set_option maxHeartbeats 4000000 in
theorem stays_no (s : St) (i : Ins) (hi : i.rng) (g0 g1 : Nat) (fits : Bool) (h : enc i = none) (w : World) : Calls Try.prog 5 #[stV s, insV i, .agg #[.int .u64 (g0 : Nat), .int .u64 (g1 : Nat)], .bool fits] w fun e w' => e = .returned (.bool true) ∧ Below w.heap.size w w' := by
  have A := Lib.hid awake_fl
  have NX := Lib.hid (fun W => next_no s i hi g0 g1 fits h W)
  have ST := Lib.hid (fun W => st_new W s 27)
  clear h hi
  obtain ⟨op, d, n, m, e, sz, imm⟩ := i
  rw [show stV s = .agg (stC s.f) from rfl]
  generalize hv : stV s = V at NX
  generalize hT : St.zero = T at NX
  clear hT
  unfold insV at *
  simp only at *
  go_enter Try.func5, Try.ntmps5
  go_upto_region 1 with fail
  refine wp_region_lit ?_
  refine wpList_load_st (s := s) (b := w.heap.size) (.tmp 4) rfl rfl rfl (stat_alloc (stat_alloc (ST.out w) _) _) ?_
  rw [hv]
  go_frame
  go_upto_region 2 with (first
    | (refine wpList_alloc_st rfl rfl ?_; go_frame)
    | (refine wpList_store_new (s := T) (.tmp 9) (.tmp 20) rfl rfl rfl rfl ?_ ?_; (generalize stV _ = Z; rfl); go_frame)
    | (go_at_call 14; refine (NX.out _).mono ?_; rintro e w1 ⟨rfl, p1, rfl⟩))
  go_wp2_with (go_at_call 10; refine (A.out _).mono ?_; rintro e w1 ⟨rfl, p2, rfl⟩)
  go_ret
  exact ⟨rfl, by repeat (first | with_reducible exact Below.refl _ _ | with_reducible refine below_mo ?_ _ | with_reducible refine below_al ?_ _)⟩
/-- the world of the walk: thread, instruction, what Next made. -/
structure StayW (w wx : World) (s : St) (i : Ins) (r : Nat) (t : St) : Prop where
  st : StAt wx w.heap.size s
  ins : IAt wx (w.heap.size + 1) i
  nx : StAt wx r t
  lo : w.heap.size + 2 < r
  below : Below w.heap.size w wx
theorem StayW.more {w wx : World} {s t : St} {i : Ins} {r : Nat} (h : StayW w wx s i r t) (p : Regrown) : StayW w (more wx p) s i r t :=
  ⟨stat_more h.st p, h.ins.below (more_below _ _), stat_more h.nx p, h.lo, below_mo h.below p⟩
theorem StayW.alloc {w wx : World} {s t : St} {i : Ins} {r : Nat} (h : StayW w wx s i r t) (o : Obj) : StayW w (wx.alloc o) s i r t :=
  ⟨stat_alloc h.st o, h.ins.below (below_al (Below.refl _ _) o), stat_alloc h.nx o, h.lo, below_al h.below o⟩
theorem stay_start (w : World) (s t : St) (i : Ins) (g0 g1 : Nat) (p : Regrown) : StayW w ((more (((w.alloc (.cells (stC s.f) 27)).alloc (.cells #[.int .i64 i.op, .int .i64 i.d, .int .i64 i.n, .int .i64 i.m, .int .i64 i.e, .int .i64 i.sz, .int .i64 i.imm] 29)).alloc (.cells #[.int .u64 (g0 : Nat), .int .u64 (g1 : Nat)] 30)) p).alloc (.cells (stC t.f) 27)) s i (w.heap.size + 1 + 1 + 1 + p.os.size) t := by
  refine ⟨?_, ?_, ?_, by omega, ?_⟩
  · exact stat_alloc (stat_more (stat_alloc (stat_alloc (st_new w s _) _) _) _) _
  · refine IAt.below (IAt.below (IAt.below (i_new2 (w.alloc (.cells (stC s.f) 27)) i 29 (w.heap.size + 1) (by simp)) (below_al (Below.refl _ _) _)) (more_below _ p)) (below_al (Below.refl _ _) _)
  · have := st_new (more (((w.alloc (.cells (stC s.f) 27)).alloc (.cells #[.int .i64 i.op, .int .i64 i.d, .int .i64 i.n, .int .i64 i.m, .int .i64 i.e, .int .i64 i.sz, .int .i64 i.imm] 29)).alloc (.cells #[.int .u64 (g0 : Nat), .int .u64 (g1 : Nat)] 30)) p) t 27
    rw [more_size] at this
    simpa using this
  · exact below_al (below_mo (below_al (below_al (below_al (Below.refl _ _) _) _) _) _) _
end Go.Proofs.Ytfijppclaahkmaa
