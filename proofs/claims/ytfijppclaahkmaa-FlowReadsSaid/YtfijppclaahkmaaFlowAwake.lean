/- Walk: the fixed fact. No condition. -/
import Derived.Test.YtfijppclaahkmaaFlowAwakeA
namespace Go.Proofs.Ytfijppclaahkmaa
open Go.RowKit Go.Sort
set_option linter.unusedVariables false
set_option linter.unusedSimpArgs false
set_option maxHeartbeats 2000000 in
theorem awake_fl (w : World) : Calls Try.prog 10 #[] w (Gives w (.bool true)) := by
  obtain ⟨v1, h1⟩ := enc_add
  obtain ⟨v2, h2⟩ := enc_str
  have NX : ∀ W, Calls Try.prog 14 #[stV sAw, .agg #[.int .i64 3, .int .i64 0, .int .i64 1, .int .i64 2, .int .i64 0, .int .i64 0, .int .i64 0], .agg #[.int .u64 0, .int .u64 0], .bool true] W (Gives W (.tuple #[stV (nextS sAw iAdd 0 0 true), .int .i64 0])) :=
    fun W => next_yes sAw iAdd (ins_small _ (by decide +kernel)) sAw_ok 0 0 (by omega) true v1 h1 W
  have AK : ∀ W, Calls Try.prog 7 #[stV sAw, .agg #[.int .i64 18, .int .i64 1, .int .i64 2, .int .i64 0, .int .i64 0, .int .i64 1, .int .i64 3]] W (Gives W (.tuple #[accV true 13 2 false false false 5 0, .bool true])) :=
    fun W => by
      have := ask_yes sAw iStr (ins_small _ (by decide +kernel)) sAw_ok v2 h2 (by decide +kernel) W
      rw [ask_aw] at this
      exact this
  have q0 := t0_aw
  have q31 := t31_aw
  replace NX := Lib.hid NX
  replace AK := Lib.hid AK
  generalize hT : nextS sAw iAdd 0 0 true = T at *
  clear hT h1 h2
  unfold accV at AK
  have ST := Lib.hid (fun W => st_new2 W sAw fAw 27 fAw_eq)
  unfold fAw at ST
  have HP : Hid (sP3 = sP3) := Lib.hid rfl
  generalize hP : sP3 = P0 at ST
  rw [hP] at HP
  replace HP := Lib.hid hP.symm
  clear hP
  generalize sAw = sA at *
  go_enter Try.func10, Try.ntmps10
  go_upto_region 3 with (first
    | (refine wpList_build_pc P0 HP.out rfl rfl ?_; go_frame)
    | (refine wpList_alloc_st rfl rfl ?_; go_frame)
    | (refine wpList_store_new (s := P0) (.tmp 1) (.tmp 6) rfl rfl rfl rfl ?_ ?_; (generalize stV _ = Z; rfl); go_frame)
    | (refine wpList_store_new (s := T) (.tmp 2) (.tmp 16) rfl rfl rfl rfl ?_ ?_; (generalize stV _ = Z; rfl); go_frame)
    | (refine wpList_load_st (s := sA) (.tmp 1) rfl rfl rfl ?_ ?_; (repeat (first | with_reducible exact ST.out _ | with_reducible refine stat_more ?_ _ | with_reducible refine stat_alloc ?_ _)); go_frame)
    | (go_at_call 14; refine (NX.out _).mono ?_; rintro e w1 ⟨rfl, p, rfl⟩)
    | (go_at_call 7; refine (AK.out _).mono ?_; rintro e w1 ⟨rfl, p2, rfl⟩))
  refine wp_region_lit ?_
  refine wpList_load_st (s := sA) (b := w.heap.size) (.tmp 1) rfl rfl rfl (ST.out w) ?_
  go_frame
  go_upto_region 4 with (first
    | (refine wpList_alloc_st rfl rfl ?_; go_frame)
    | (refine wpList_store_new (s := T) (.tmp 2) (.tmp 16) rfl rfl rfl rfl ?_ ?_; (generalize stV _ = Z; rfl); go_frame)
    | (go_at_call 14; refine (NX.out _).mono ?_; rintro e w1 ⟨rfl, p, rfl⟩))
  refine wp_region_lit ?_
  refine wpList_load_st (s := sA) (b := w.heap.size) (.tmp 1) rfl rfl rfl (stat_alloc (stat_more (ST.out w) p) _) ?_
  go_frame
  go_upto_region 5 with (first
    | (go_at_call 7; refine (AK.out _).mono ?_; rintro e w1 ⟨rfl, p2, rfl⟩))
  go_wp2_with fail
  go_ret
  exact Gives.mk rfl (by repeat (first | with_reducible exact Below.refl _ _ | with_reducible refine below_mo ?_ _ | with_reducible refine below_al ?_ _))
end Go.Proofs.Ytfijppclaahkmaa
