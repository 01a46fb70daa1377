/- Walk: the parts of one span (the one that the fixed fact asks for). No condition. -/
import Derived.Test.YtigbdndjlkmemaaSpanWalks
import Derived.Test.YtigbdndjlkmemaaMore
import Derived.Deep.AppendLies
namespace Go.Proofs.Ytigbdndjlkmemaa
open Go.RowKit Go.Sort
set_option linter.unusedVariables false
set_option linter.unusedSimpArgs false
theorem span_info : (Try.prog.info? 38).map (fun i => (i.zero, i.size, i.bytes)) = some (some (.agg #[.int .i64 0, .int .i64 0]), 2, 16) := by kernel_rfl
def pieceA : Nat → Int
  | 0 => 3
  | 1 => 4
  | 2 => 8
  | 3 => 12
  | _ => 13
def pieceL : Nat → Int
  | 0 => 10
  | 1 => 9
  | 2 => 5
  | 3 => 1
  | _ => 0
def pieceN : Nat → Int
  | 0 => 1
  | 1 => 4
  | 2 => 4
  | _ => 1
def pieceC : Nat → List Value
  | 0 => []
  | k + 1 => pieceC k ++ [.int .i64 (pieceA k), .int .i64 (pieceN k)]
set_option maxHeartbeats 800000 in
theorem pieces_310 (w : World) : Calls Try.prog 31 #[.agg #[.int .i64 3, .int .i64 10]] w fun e w' => ∃ v, e = .returned v ∧ w'.ownsRow (w.heap.size + 1) 38 2 v 4 (pieceC 4) ∧ Below w.heap.size w w' := by
  have a1 := fun w => gives_below (sound_any 3 10 w)
  rw [show sndB 3 10 = true by decide] at a1
  have A1 := Lib.hid a1
  clear a1
  obtain ⟨i0, hi, hz0, hz1, hz2⟩ := info_parts span_info
  go_enter Try.func31, Try.ntmps31
  go_wp2_with (go_at_call 35; refine (A1.out _).mono ?_; rintro e w1 ⟨rfl, p, rfl⟩)
  go_loopw [3, 4] (fun v _ wr => ∃ k : Nat, k ≤ 4 ∧ wr.cell? ⟨w.heap.size, 0, none⟩ = some (.int .i64 (pieceA k)) ∧ wr.cell? ⟨w.heap.size, 1, none⟩ = some (.int .i64 (pieceL k)) ∧
      wr.frozen? ⟨w.heap.size, 0, none⟩ = false ∧ wr.frozen? ⟨w.heap.size, 1, none⟩ = false ∧
      wr.ownsRow (w.heap.size + 1) 38 2 v k (pieceC k) ∧ Below w.heap.size w wr ∧ w.heap.size < wr.heap.size) (fun _ _ wr => match wr.cell? ⟨w.heap.size, 1, none⟩ with | some (.int _ n) => n.toNat | _ => 0)
  case atStart =>
    exact ⟨0, by omega, by simp [go_sem, pieceA], by simp [go_sem, pieceL], by simp [go_sem], by simp [go_sem], World.ownsRow_nil _ _ _ _, below_mo (below_al (Below.refl _ _) _) _, by simp [go_sem]; omega⟩
  case round =>
    obtain ⟨k, hk, c0, c1, f0, f1, hown, hb, hz⟩ := hrel
    have HO := Lib.hid hown
    have HB := Lib.hid hb
    clear hown hb
    rcases (show k = 0 ∨ k = 1 ∨ k = 2 ∨ k = 3 ∨ k = 4 by omega) with rfl | rfl | rfl | rfl | rfl
    · simp only [pieceA, pieceL] at c0 c1
      go_wp2
      refine wp_loop_rounds 4 ?_
      rw [rounds_succ]
      go_wp2
      rw [rounds_succ]
      go_wp2
      rw [rounds_succ]
      go_wp2
      rw [rounds_succ]
      go_wp2_with (at_builtin; refine wpList_append_own _ rfl _ _ 43 rfl (w.heap.size + 1) 38 i0 (.agg #[.int .i64 0, .int .i64 0]) 2 16 Try.underlying43 hi hz0 hz1 hz2 rfl (by decide) _ _ _ rfl (HO.out.alloc _) ⟨wr.heap.size, 0, none⟩ 1 1 [.int .i64 3, .int .i64 1] rfl rfl ?c1x0 ?c2x0 ?c3x0 ?c4x0 ?c5x0 ?_)
      case c1x0 =>
        intro j u hj
        match j, hj with
        | 0, hj => simp at hj; subst hj; simp [Addr.add]
        | 1, hj => simp at hj; subst hj; simp [Addr.add]
      case c2x0 => intro u hu; simp at hu; rcases hu with rfl | rfl <;> rfl
      case c3x0 => unfold maxLen; omega
      case c4x0 => omega
      case c5x0 => simp; omega
      intro v' w1 hown' hgrow _
      have hk := own_keep (HO.out.alloc _) hgrow (b := w.heap.size) (by omega) (by simp; omega)
      have d0 := (hk.1 0).trans ((World.cell?_alloc_lt _ _ _ hz).trans c0)
      have d1 := (hk.1 1).trans ((World.cell?_alloc_lt _ _ _ hz).trans c1)
      have e0 := (hk.2 0).trans ((World.frozen?_alloc_old _ _ _ (show ¬ w.heap.size = wr.heap.size by omega)).trans f0)
      have e1 := (hk.2 1).trans ((World.frozen?_alloc_old _ _ _ (show ¬ w.heap.size = wr.heap.size by omega)).trans f1)
      have hbb := own_below (below_al HB.out _) (HO.out.alloc _) hgrow (by omega)
      have hz1 : wr.heap.size + 1 ≤ w1.heap.size := by have := hgrow.size; simpa using this
      clear hk hgrow
      have HO1 := Lib.hid hown'
      have HB1 := Lib.hid hbb
      have hzz : w.heap.size < w1.heap.size := by omega
      clear hown' hbb hz1 c0 f0 f1
      go_wp2
      go_roundw
      case rel => exact ⟨1, by omega, by simp [go_sem, d0, d1, pieceA], by simp [go_sem, d0, d1, pieceL], by simp [go_sem, e0, e1], by simp [go_sem, e0, e1], ownsRow_setCell_below (ownsRow_setCell_below HO1.out (by simp) _) (by simp) _, below_st (below_st HB1.out (by simp) _) (by simp) _, by simp [go_sem]; omega⟩
      case measure => simp [go_sem, d0, d1, c1]
    · simp only [pieceA, pieceL] at c0 c1
      go_wp2
      refine wp_loop_rounds 2 ?_
      rw [rounds_succ]
      go_wp2
      rw [rounds_succ]
      go_wp2_with (at_builtin; refine wpList_append_own _ rfl _ _ 43 rfl (w.heap.size + 1) 38 i0 (.agg #[.int .i64 0, .int .i64 0]) 2 16 Try.underlying43 hi hz0 hz1 hz2 rfl (by decide) _ _ _ rfl (HO.out.alloc _) ⟨wr.heap.size, 0, none⟩ 1 1 [.int .i64 4, .int .i64 4] rfl rfl ?c1x1 ?c2x1 ?c3x1 ?c4x1 ?c5x1 ?_)
      case c1x1 =>
        intro j u hj
        match j, hj with
        | 0, hj => simp at hj; subst hj; simp [Addr.add]
        | 1, hj => simp at hj; subst hj; simp [Addr.add]
      case c2x1 => intro u hu; simp at hu; rcases hu with rfl | rfl <;> rfl
      case c3x1 => unfold maxLen; omega
      case c4x1 => omega
      case c5x1 => simp; omega
      intro v' w1 hown' hgrow _
      have hk := own_keep (HO.out.alloc _) hgrow (b := w.heap.size) (by omega) (by simp; omega)
      have d0 := (hk.1 0).trans ((World.cell?_alloc_lt _ _ _ hz).trans c0)
      have d1 := (hk.1 1).trans ((World.cell?_alloc_lt _ _ _ hz).trans c1)
      have e0 := (hk.2 0).trans ((World.frozen?_alloc_old _ _ _ (show ¬ w.heap.size = wr.heap.size by omega)).trans f0)
      have e1 := (hk.2 1).trans ((World.frozen?_alloc_old _ _ _ (show ¬ w.heap.size = wr.heap.size by omega)).trans f1)
      have hbb := own_below (below_al HB.out _) (HO.out.alloc _) hgrow (by omega)
      have hz1 : wr.heap.size + 1 ≤ w1.heap.size := by have := hgrow.size; simpa using this
      clear hk hgrow
      have HO1 := Lib.hid hown'
      have HB1 := Lib.hid hbb
      have hzz : w.heap.size < w1.heap.size := by omega
      clear hown' hbb hz1 c0 f0 f1
      go_wp2
      go_roundw
      case rel => exact ⟨2, by omega, by simp [go_sem, d0, d1, pieceA], by simp [go_sem, d0, d1, pieceL], by simp [go_sem, e0, e1], by simp [go_sem, e0, e1], ownsRow_setCell_below (ownsRow_setCell_below HO1.out (by simp) _) (by simp) _, below_st (below_st HB1.out (by simp) _) (by simp) _, by simp [go_sem]; omega⟩
      case measure => simp [go_sem, d0, d1, c1]
    · simp only [pieceA, pieceL] at c0 c1
      go_wp2
      refine wp_loop_rounds 2 ?_
      rw [rounds_succ]
      go_wp2
      rw [rounds_succ]
      go_wp2_with (at_builtin; refine wpList_append_own _ rfl _ _ 43 rfl (w.heap.size + 1) 38 i0 (.agg #[.int .i64 0, .int .i64 0]) 2 16 Try.underlying43 hi hz0 hz1 hz2 rfl (by decide) _ _ _ rfl (HO.out.alloc _) ⟨wr.heap.size, 0, none⟩ 1 1 [.int .i64 8, .int .i64 4] rfl rfl ?c1x2 ?c2x2 ?c3x2 ?c4x2 ?c5x2 ?_)
      case c1x2 =>
        intro j u hj
        match j, hj with
        | 0, hj => simp at hj; subst hj; simp [Addr.add]
        | 1, hj => simp at hj; subst hj; simp [Addr.add]
      case c2x2 => intro u hu; simp at hu; rcases hu with rfl | rfl <;> rfl
      case c3x2 => unfold maxLen; omega
      case c4x2 => omega
      case c5x2 => simp; omega
      intro v' w1 hown' hgrow _
      have hk := own_keep (HO.out.alloc _) hgrow (b := w.heap.size) (by omega) (by simp; omega)
      have d0 := (hk.1 0).trans ((World.cell?_alloc_lt _ _ _ hz).trans c0)
      have d1 := (hk.1 1).trans ((World.cell?_alloc_lt _ _ _ hz).trans c1)
      have e0 := (hk.2 0).trans ((World.frozen?_alloc_old _ _ _ (show ¬ w.heap.size = wr.heap.size by omega)).trans f0)
      have e1 := (hk.2 1).trans ((World.frozen?_alloc_old _ _ _ (show ¬ w.heap.size = wr.heap.size by omega)).trans f1)
      have hbb := own_below (below_al HB.out _) (HO.out.alloc _) hgrow (by omega)
      have hz1 : wr.heap.size + 1 ≤ w1.heap.size := by have := hgrow.size; simpa using this
      clear hk hgrow
      have HO1 := Lib.hid hown'
      have HB1 := Lib.hid hbb
      have hzz : w.heap.size < w1.heap.size := by omega
      clear hown' hbb hz1 c0 f0 f1
      go_wp2
      go_roundw
      case rel => exact ⟨3, by omega, by simp [go_sem, d0, d1, pieceA], by simp [go_sem, d0, d1, pieceL], by simp [go_sem, e0, e1], by simp [go_sem, e0, e1], ownsRow_setCell_below (ownsRow_setCell_below HO1.out (by simp) _) (by simp) _, below_st (below_st HB1.out (by simp) _) (by simp) _, by simp [go_sem]; omega⟩
      case measure => simp [go_sem, d0, d1, c1]
    · simp only [pieceA, pieceL] at c0 c1
      go_wp2
      refine wp_loop_rounds 4 ?_
      rw [rounds_succ]
      go_wp2
      rw [rounds_succ]
      go_wp2
      rw [rounds_succ]
      go_wp2
      rw [rounds_succ]
      go_wp2_with (at_builtin; refine wpList_append_own _ rfl _ _ 43 rfl (w.heap.size + 1) 38 i0 (.agg #[.int .i64 0, .int .i64 0]) 2 16 Try.underlying43 hi hz0 hz1 hz2 rfl (by decide) _ _ _ rfl (HO.out.alloc _) ⟨wr.heap.size, 0, none⟩ 1 1 [.int .i64 12, .int .i64 1] rfl rfl ?c1x3 ?c2x3 ?c3x3 ?c4x3 ?c5x3 ?_)
      case c1x3 =>
        intro j u hj
        match j, hj with
        | 0, hj => simp at hj; subst hj; simp [Addr.add]
        | 1, hj => simp at hj; subst hj; simp [Addr.add]
      case c2x3 => intro u hu; simp at hu; rcases hu with rfl | rfl <;> rfl
      case c3x3 => unfold maxLen; omega
      case c4x3 => omega
      case c5x3 => simp; omega
      intro v' w1 hown' hgrow _
      have hk := own_keep (HO.out.alloc _) hgrow (b := w.heap.size) (by omega) (by simp; omega)
      have d0 := (hk.1 0).trans ((World.cell?_alloc_lt _ _ _ hz).trans c0)
      have d1 := (hk.1 1).trans ((World.cell?_alloc_lt _ _ _ hz).trans c1)
      have e0 := (hk.2 0).trans ((World.frozen?_alloc_old _ _ _ (show ¬ w.heap.size = wr.heap.size by omega)).trans f0)
      have e1 := (hk.2 1).trans ((World.frozen?_alloc_old _ _ _ (show ¬ w.heap.size = wr.heap.size by omega)).trans f1)
      have hbb := own_below (below_al HB.out _) (HO.out.alloc _) hgrow (by omega)
      have hz1 : wr.heap.size + 1 ≤ w1.heap.size := by have := hgrow.size; simpa using this
      clear hk hgrow
      have HO1 := Lib.hid hown'
      have HB1 := Lib.hid hbb
      have hzz : w.heap.size < w1.heap.size := by omega
      clear hown' hbb hz1 c0 f0 f1
      go_wp2
      go_roundw
      case rel => exact ⟨4, by omega, by simp [go_sem, d0, d1, pieceA], by simp [go_sem, d0, d1, pieceL], by simp [go_sem, e0, e1], by simp [go_sem, e0, e1], ownsRow_setCell_below (ownsRow_setCell_below HO1.out (by simp) _) (by simp) _, below_st (below_st HB1.out (by simp) _) (by simp) _, by simp [go_sem]; omega⟩
      case measure => simp [go_sem, d0, d1, c1]
    · simp only [pieceA, pieceL] at c0 c1
      go_wp2
      go_ret
      exact ⟨_, rfl, HO.out, HB.out⟩
end Go.Proofs.Ytigbdndjlkmemaa
