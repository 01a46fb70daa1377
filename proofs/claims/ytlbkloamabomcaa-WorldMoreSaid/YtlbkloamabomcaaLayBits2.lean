/- Walk: a bitfield is laid: the program's bits, where it has bits. Conditions: numbers fit. -/
import Derived.Test.YtlbkloamabomcaaLayBits
namespace Go.Proofs.Ytlbkloamabomcaa
open Go.RowKit Go.Sort
set_option linter.unusedVariables false
set_option linter.unusedSimpArgs false
theorem ownsRow_dn {w : World} {B : Nat} {e : TypeId} {sz n : Nat} {v : Value} {xs : List Value} (h : w.ownsRow B e sz v n xs) (k : Nat) : (w.drewN k).ownsRow B e sz v n xs :=
  h.kept (row := none) ⟨rfl, rfl, rfl, Nat.le_refl _, fun _ _ _ => rfl⟩ (by cases hv : v.ownBlock <;> simp)
theorem ownsRow_st {w : World} {B k : Nat} {e : TypeId} {sz n c : Nat} {a : Option Addr} {xs : List Value} (h : w.ownsRow (B + 1) e sz (.slice a n c) n xs) (x : Value) : (w.setCell ⟨B, k, none⟩ x).ownsRow (B + 1) e sz (.slice a n c) n xs :=
  h.kept (grown_set _ _ _) (.inr (ownB_ne h))
set_option maxRecDepth 100000 in
set_option maxHeartbeats 3200000 in
theorem bits_some {α : Type} (f : FdF α) (q : Raw) (p : Pl) (sp : List Sp) (w0 w : World) (h : PlW w0 w p sp) (hq : q.size = 1 ∨ q.size = 2 ∨ q.size = 4 ∨ q.size = 8) (hw : 0 < f.width) (hw2 : f.width ≤ 8 * q.size) (hp0 : 0 ≤ p.bit) (hp1 : p.bit ≤ 100000000) (hsp : sp.length ≤ 32) :
    Calls Try.prog 47 #[.pointer (some ⟨w0.heap.size, 0, none⟩), fdV f q] w fun e w' => e = .returned (.tuple #[]) ∧ PlW w0 w' ⟨bitAt p.bit (8 * q.size) f.width + f.width, p.size, p.align⟩ (sp ++ [bitSp (bitAt p.bit (8 * q.size) f.width) f.width]) := by
  have hu := upF_ge (n := p.bit) (s := 8 * q.size) (by omega)
  have UP := Lib.hid (fun W => up_any p.bit (8 * q.size) hp0 (by omega) (by omega) (by omega) W)
  have hB : (¬ p.bit / (8 * q.size) = (p.bit + f.width - 1) / (8 * q.size) ∧ bitAt p.bit (8 * q.size) f.width = upF p.bit (8 * q.size)) ∨ (p.bit / (8 * q.size) = (p.bit + f.width - 1) / (8 * q.size) ∧ bitAt p.bit (8 * q.size) f.width = p.bit) := by
    unfold bitAt
    rw [if_neg (by omega)]
    by_cases hc : p.bit / (8 * q.size) = (p.bit + f.width - 1) / (8 * q.size)
    · right; simp [hc]
    · left; simp [hc]
  generalize hU : upF p.bit (8 * q.size) = U at *
  generalize hBB : bitAt p.bit (8 * q.size) f.width = B at *
  have hB1 : 0 ≤ B ∧ B ≤ 100000100 := by rcases hB with ⟨_, rfl⟩ | ⟨_, rfl⟩ <;> omega
  have H := Lib.hid h
  obtain ⟨nm, ty, bt, wd⟩ := f
  obtain ⟨qk, qs, qp, qfa, qfl, qfc, qc, qea, qel, qec⟩ := q
  obtain ⟨pb, ps, pa⟩ := p
  simp only at *
  obtain ⟨i0, hi, hz0, hz1, hz2⟩ := info_parts spot_info
  have hl := h.lt
  have z0 := h.z
  have z3 : w.frozen? ⟨w0.heap.size, 3, none⟩ = false := z0 3
  have c3 : w.cell? ⟨w0.heap.size, 3, none⟩ = some (.int .i64 pb) := h.c3
  have hB0 := h.below.size
  obtain ⟨a, c, r1, r2⟩ := h.row
  have ROW := Lib.hid r2
  clear h z0 r2
  have ht1 : Int.tdiv pb (8 * qs) = pb / (8 * qs) := tdiv_eq (by omega)
  have ht2 : Int.tdiv (pb + wd - 1) (8 * qs) = (pb + wd - 1) / (8 * qs) := tdiv_eq (by omega)
  have hs : (8 * qs == 0) = false := by simp; omega
  have g1 : IntKind.i64.wrap (pb / (8 * qs)) = pb / (8 * qs) := IntWalk.i64_in _ (by
    have h1 := Int.ediv_nonneg (a := pb) (b := 8 * qs) (by omega) (by omega)
    have h2 := Int.ediv_le_self (8 * qs) (a := pb) (by omega)
    omega)
  have g2 : IntKind.i64.wrap ((pb + wd - 1) / (8 * qs)) = (pb + wd - 1) / (8 * qs) := IntWalk.i64_in _ (by
    have h1 := Int.ediv_nonneg (a := pb + wd - 1) (b := 8 * qs) (by omega) (by omega)
    have h2 := Int.ediv_le_self (8 * qs) (a := pb + wd - 1) (by omega)
    omega)
  have hB1' := Lib.hid hB1
  unfold fdV
  simp only
  rcases hB with ⟨hc, rfl⟩ | ⟨hc, rfl⟩
  all_goals
    go_enter Try.func47, Try.ntmps47
    go_wp2_with (go_at_call 48; refine (UP.out _).mono ?_; rintro e w1 ⟨rfl, rfl⟩)
    go_quiet (fail)
    go_wp2_with (go_at_call 48; refine (UP.out _).mono ?_; rintro e w1 ⟨rfl, rfl⟩)
    refine wp_letter (R := fun W => PlW w0 W ⟨B, ps, pa⟩ sp ∧ W.cell? ⟨w.heap.size, 8, none⟩ = some (.int .i64 wd) ∧ W.cell? ⟨w0.heap.size, 2, none⟩ = some (.slice a sp.length c) ∧ W.ownsRow (w0.heap.size + 1) 42 6 (.slice a sp.length c) sp.length (sp.flatMap Sp.cs)) ?letA ?_
    case letA =>
      refine ⟨?_, by simp [go_sem, ↓IntWalk.iteOmega, World.cell?_setCell_other], by simp [go_sem, ↓IntWalk.iteOmega, World.cell?_setCell_other, r1], ?_⟩
      · repeat (first | with_reducible exact H.out | with_reducible refine PlW.next (w' := World.drewN _ _) ?_ (below_dn (Below.refl _ _) _) | with_reducible refine PlW.next (w' := World.alloc _ _) ?_ (below_al (Below.refl _ _) _) | with_reducible refine PlW.set (p := ⟨pb, ps, pa⟩) ?_ 3 _ (.inr (.inr ⟨rfl, rfl⟩)))
      · repeat (first | with_reducible exact ROW.out | with_reducible refine World.ownsRow.alloc ?_ _ | with_reducible refine ownsRow_dn ?_ _ | with_reducible refine ownsRow_st (k := 3) ?_ _)
    rintro wA ⟨hA, hAw, hA1, hA2⟩
    have hA3 : wA.cell? ⟨w0.heap.size, 3, none⟩ = some (.int .i64 B) := hA.c3
    have HA := Lib.hid hA
    have HO := Lib.hid hA2
    have hlA := hA.lt
    have hlB : w.heap.size < wA.heap.size := cell_lt2 hAw
    clear c3 z3 hA hA2 ht1 ht2 g1 g2
    have ht1 : Int.tdiv B 8 = B / 8 := tdiv_eq (by omega)
    have ht2 : Int.tdiv (B + wd - 1) 8 = (B + wd - 1) / 8 := tdiv_eq (by omega)
    have ht3 : Int.tmod B 8 = B % 8 := Int.tmod_eq_emod_of_nonneg (by omega)
    have hw8 : IntKind.i64.wrap (B / 8) = B / 8 := IntWalk.i64_in _ (by omega)
    have hw9 : IntKind.i64.wrap ((B + wd - 1) / 8) = (B + wd - 1) / 8 := IntWalk.i64_in _ (by omega)
    go_quiet (fail)
    go_wp2_with fail
    refine wp_letter (R := fun W => PlW w0 W ⟨B, ps, pa⟩ sp ∧ W.cell? ⟨w.heap.size, 8, none⟩ = some (.int .i64 wd) ∧ W.cell? ⟨w0.heap.size, 2, none⟩ = some (.slice a sp.length c) ∧ W.ownsRow (w0.heap.size + 1) 42 6 (.slice a sp.length c) sp.length (sp.flatMap Sp.cs)) ⟨PlW.next HA.out (below_dn (Below.refl _ _) _), by simpa using hAw, by simpa using hA1, ownsRow_dn HO.out _⟩ ?_
    clear HA HO hlA hlB hA3 hAw hA1
    rintro wB ⟨hA, hAw, hA1, hA2⟩
    have hA3 : wB.cell? ⟨w0.heap.size, 3, none⟩ = some (.int .i64 B) := hA.c3
    have HA := Lib.hid hA
    have HO := Lib.hid hA2
    have zf2 : wB.frozen? ⟨w0.heap.size, 2, none⟩ = false := hA.z 2
    have zf3 : wB.frozen? ⟨w0.heap.size, 3, none⟩ = false := hA.z 3
    have hlA := hA.lt
    have hne : some w0.heap.size ≠ (Value.slice a sp.length c).ownBlock := fun e => by
      have := (hA2.lt _ e.symm).1
      omega
    have hne2 : some w.heap.size ≠ (Value.slice a sp.length c).ownBlock := fun e => by
      have := (ROW.out.lt _ e.symm).2
      omega
    have hlB : w.heap.size < wB.heap.size := cell_lt2 hAw
    clear hA hA2
    have hgr : ∀ (w1 : World), (wB.alloc (.cells #[.int .i64 (B / 8), .int .i64 ((B + wd - 1) / 8 - B / 8 + 1), .int .i64 1, .bool true, .int .i64 (B % 8), .int .i64 wd] 42)).drew.grownBy w1 (Value.slice a sp.length c).ownBlock → w1.frozen? ⟨w0.heap.size, 2, none⟩ = false ∧ w1.frozen? ⟨w0.heap.size, 3, none⟩ = false ∧ w1.cell? ⟨w0.heap.size, 2, none⟩ = some (.slice a sp.length c) ∧ w1.cell? ⟨w0.heap.size, 3, none⟩ = some (.int .i64 B) ∧ w1.cell? ⟨w.heap.size, 8, none⟩ = some (.int .i64 wd) := fun w1 hg => by
      have h0 : w0.heap.size < (wB.alloc (.cells #[.int .i64 (B / 8), .int .i64 ((B + wd - 1) / 8 - B / 8 + 1), .int .i64 1, .bool true, .int .i64 (B % 8), .int .i64 wd] 42)).drew.heap.size := by simp; omega
      have h1 : w.heap.size < (wB.alloc (.cells #[.int .i64 (B / 8), .int .i64 ((B + wd - 1) / 8 - B / 8 + 1), .int .i64 1, .bool true, .int .i64 (B % 8), .int .i64 wd] 42)).drew.heap.size := by simp; omega
      refine ⟨?_, ?_, ?_, ?_, ?_⟩
      · rw [hg.frozen_far ⟨w0.heap.size, 2, none⟩ h0 hne]; simp [go_sem, ↓IntWalk.iteOmega, zf2]
      · rw [hg.frozen_far ⟨w0.heap.size, 3, none⟩ h0 hne]; simp [go_sem, ↓IntWalk.iteOmega, zf3]
      · rw [hg.cell_far ⟨w0.heap.size, 2, none⟩ h0 hne]; simp [go_sem, ↓IntWalk.iteOmega, hA1]
      · rw [hg.cell_far ⟨w0.heap.size, 3, none⟩ h0 hne]; simp [go_sem, ↓IntWalk.iteOmega, hA3]
      · rw [hg.cell_far ⟨w.heap.size, 8, none⟩ h1 hne2]; simp [go_sem, ↓IntWalk.iteOmega, hAw]
    have HG := Lib.hid hgr
    clear hgr
    have hw10 : IntKind.i64.wrap ((B + wd - 1) / 8 - B / 8) = (B + wd - 1) / 8 - B / 8 := IntWalk.i64_in _ (by omega)
    have hw11 : IntKind.i64.wrap ((B + wd - 1) / 8 - B / 8 + 1) = (B + wd - 1) / 8 - B / 8 + 1 := IntWalk.i64_in _ (by omega)
    go_region_law ((refine step_append_lies _ rfl (.tmp 88) (.tmp 103) 36 rfl (w0.heap.size + 1) 42 i0 _ 6 48 Try.underlying36 hi hz0 hz1 hz2 rfl (by decide) (.slice a sp.length c) sp.length (sp.flatMap Sp.cs) (by simp [Act.eval, Act.put]) ((HO.out.alloc _).drew) ⟨wB.heap.size, 0, none⟩ 1 1 [.int .i64 (B / 8), .int .i64 ((B + wd - 1) / 8 - B / 8 + 1), .int .i64 1, .bool true, .int .i64 (B % 8), .int .i64 wd] (by simp [Act.eval, Act.put]) rfl (World.news_of_block (cs := #[.int .i64 (B / 8), .int .i64 ((B + wd - 1) / 8 - B / 8 + 1), .int .i64 1, .bool true, .int .i64 (B % 8), .int .i64 wd]) (t := 42) (fr := (0, 0)) (heap_alloc_new wB _)) (by simp [Value.oneCell']) (by omega) (by unfold maxLen; omega) (by omega) (by simp; omega) (wB.heap.size + 1) (by simp) ?_; intro gg cap w1 hown1 hgrow hat hlt; obtain ⟨k0, k3, k1, k2, k4⟩ := HG.out w1 hgrow))
    all_goals
      have HP : Hid (PlW w0 (w1.setCell ⟨w0.heap.size, 2, none⟩ (.slice (some ⟨gg, 0, none⟩) (sp.length + 1) cap)) ⟨B, ps, pa⟩ (sp ++ [bitSp B wd])) := Lib.hid (by
        refine PlW.push (HA.out.next (below_dr (below_al (Below.refl _ _) _))) (by simp [go_sem, ↓IntWalk.iteOmega, hA1]) ((HO.out.alloc _).drew) ?_ hgrow
        unfold bitSp Sp.cs
        rw [if_neg (by omega)]
        exact hown1)
      clear hown1 hgrow hat hlt
      go_wp2_with fail
      go_region
      all_goals
        go_returns
        exact ⟨rfl, PlW.set (HP.out.next (below_dr (Below.refl _ _))) 3 _ (.inr (.inr ⟨rfl, rfl⟩))⟩
end Go.Proofs.Ytlbkloamabomcaa
