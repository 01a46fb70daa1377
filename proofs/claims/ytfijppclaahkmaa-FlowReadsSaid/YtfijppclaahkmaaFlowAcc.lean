/- Walk: what an access makes of a thread. Conditions: numbers fit. -/
import Derived.Test.YtfijppclaahkmaaFlowOnto
namespace Go.Proofs.Ytfijppclaahkmaa
open Go.RowKit Go.Sort
set_option linter.unusedVariables false
set_option linter.unusedSimpArgs false
theorem put_onto (s : St) (n : Int) (v : Nat) (B : Nat) (hn : 0 ≤ n ∧ n ≤ 31) (w : World) (hS : StAt w B s) : Calls Try.prog 34 #[.pointer (some ⟨B, 0, none⟩), .int .i64 n, .int .u64 (v : Nat)] w fun e w' => e = .returned (.tuple #[]) ∧ Onto B w w' ∧ StAt w' B (setX s n v) := by
  refine (fput_any n hn v B w (fun k hk => ⟨⟨_, (hS k hk).1⟩, (hS k hk).2⟩)).mono ?_
  rintro e w' ⟨rfl, rfl⟩
  by_cases h : n = 31
  · subst h
    exact ⟨rfl, Onto.refl, by rw [if_pos rfl]; exact hS⟩
  · rw [if_neg h]
    obtain ⟨k, rfl⟩ : ∃ k : Nat, n = k := ⟨n.toNat, by omega⟩
    exact ⟨rfl, Onto.refl.set _ _, stat_x hS k v (by omega)⟩
theorem put_onto2 (s : St) (n : Int) (v : Nat) (x : Int) (hx : x = (v : Int)) (B : Nat) (hn : 0 ≤ n ∧ n ≤ 31) (w : World) (hS : StAt w B s) : Calls Try.prog 34 #[.pointer (some ⟨B, 0, none⟩), .int .i64 n, .int .u64 x] w fun e w' => e = .returned (.tuple #[]) ∧ Onto B w w' ∧ StAt w' B (setX s n v) := by
  subst hx
  exact put_onto s n v B hn w hS
def Two (w : World) (b : Nat) (u v : Value) : Prop := w.cell? ⟨b, 0, none⟩ = some u ∧ w.cell? ⟨b, 1, none⟩ = some v
theorem Two.onto {B : Nat} {w w' : World} {b : Nat} {u v : Value} (h : Two w b u v) (ho : Onto B w w') (hb : b ≠ B) : Two w' b u v := ⟨(ho.cell (cell_lt h.1) hb).trans h.1, (ho.cell (cell_lt h.2) hb).trans h.2⟩
theorem IAt.onto {B : Nat} {w w' : World} {b : Nat} {i : Ins} (h : IAt w b i) (ho : Onto B w w') (hb : b ≠ B) : IAt w' b i := by
  have hl : b < w.heap.size := cell_lt h.1
  have hc : ∀ j, w'.cell? ⟨b, j, none⟩ = w.cell? ⟨b, j, none⟩ := fun j => ho.cell hl hb
  unfold IAt at *
  simp only [hc]
  exact h
set_option maxHeartbeats 2000000 in
theorem acc_we (s : St) (i : Ins) (hf : Facts i) (hs : s.ok) (g0 g1 : Nat) (h0 : g0 < 18446744073709551616) (fits : Bool) (hw : wrB i.op = true) (hx : exB i.op = true) (B : Nat) (w : World) (hS : StAt w B s) : Calls Try.prog 33 #[.pointer (some ⟨B, 0, none⟩), insV i, .agg #[.int .u64 (g0 : Nat), .int .u64 (g1 : Nat)], .bool fits] w
    fun e w' => e = .returned (.tuple #[]) ∧ Onto B w w' ∧ StAt w' B (accS s i g0 g1 fits) := by
  have er : accS s i g0 g1 fits = { setX s i.m (if fits then 0 else 1) with wa := 0, wl := 0 } := by unfold accS; simp [hw, hx]
  rw [er]
  clear er
  have hB : B < w.heap.size := hS.lt
  have WR := Lib.hid (fun W => writes_fl i.op W)
  have EX := Lib.hid (fun W => excl_fl i.op W)
  have PA := Lib.hid (fun W => pair_fl i.op W)
  have WH := Lib.hid (fun W h => where_fl s i hf hs B W h)
  have PU := Lib.hid (fun (t : St) (n : Int) (v : Nat) (x : Int) (hx : x = (v : Int)) (hn : 0 ≤ n ∧ n ≤ 31) W h => put_onto2 t n v x hx B hn W h)
  have HS := Lib.hid hS
  have hl := lenI_in hf
  have MK := Lib.hid (fun W => gives_same (bmask_any (8 * lenI i) (by omega) (by omega) W))
  have hd := hf.d
  have he := hf.e
  have hm := hf.m
  rw [hw] at WR
  rw [hx] at EX
  clear hw hx
  generalize spanA s i = SA at *
  generalize lenI i = L at *
  clear hs hf hS
  obtain ⟨op, d, n, m, e, sz, imm⟩ := i
  unfold insV spV at *
  simp only at *
  cases fits
  · go_enter Try.func33, Try.ntmps33
    go_upto_region 10 with (first
      | (go_at_call 23; refine (WH.out _ (by repeat (first | with_reducible exact HS.out | with_reducible refine stat_more ?_ _ | with_reducible refine stat_alloc ?_ _))).mono ?_; rintro e w9 ⟨rfl, p, rfl⟩)
      | (go_at_call 22; refine (WR.out _).mono ?_; rintro e w9 ⟨rfl, rfl⟩)
      | (go_at_call 26; refine (PA.out _).mono ?_; rintro e w9 ⟨rfl, rfl⟩)
      | (go_at_call 24; refine (EX.out _).mono ?_; rintro e w9 ⟨rfl, rfl⟩)
      | (go_at_call 34; refine (PU.out s m 1 1 rfl hm _ ?_).mono ?_; (repeat (first | with_reducible exact HS.out | with_reducible refine stat_more ?_ _ | with_reducible refine stat_alloc ?_ _)); rintro e w2 ⟨rfl, ho_w2, hs_w2⟩))
    have q34 := (hs_w2 34 (by omega)).1
    have u34 := (hs_w2 34 (by omega)).2
    have q35 := (hs_w2 35 (by omega)).1
    have u35 := (hs_w2 35 (by omega)).2
    go_wp2_with fail
    go_returns
    refine ⟨rfl, ?_, stat_w hs_w2 0 0⟩
    refine Onto.set (Onto.set (Onto.trans ?_ ho_w2) _ _) _ _
    repeat (first | with_reducible exact Onto.refl | with_reducible refine Onto.more ?_ _ | with_reducible refine Onto.alloc ?_ _)
  · go_enter Try.func33, Try.ntmps33
    go_upto_region 10 with (first
      | (go_at_call 23; refine (WH.out _ (by repeat (first | with_reducible exact HS.out | with_reducible refine stat_more ?_ _ | with_reducible refine stat_alloc ?_ _))).mono ?_; rintro e w9 ⟨rfl, p, rfl⟩)
      | (go_at_call 22; refine (WR.out _).mono ?_; rintro e w9 ⟨rfl, rfl⟩)
      | (go_at_call 26; refine (PA.out _).mono ?_; rintro e w9 ⟨rfl, rfl⟩)
      | (go_at_call 24; refine (EX.out _).mono ?_; rintro e w9 ⟨rfl, rfl⟩)
      | (go_at_call 34; refine (PU.out s m 0 0 rfl hm _ ?_).mono ?_; (repeat (first | with_reducible exact HS.out | with_reducible refine stat_more ?_ _ | with_reducible refine stat_alloc ?_ _)); rintro e w2 ⟨rfl, ho_w2, hs_w2⟩))
    have q34 := (hs_w2 34 (by omega)).1
    have u34 := (hs_w2 34 (by omega)).2
    have q35 := (hs_w2 35 (by omega)).1
    have u35 := (hs_w2 35 (by omega)).2
    go_wp2_with fail
    go_returns
    refine ⟨rfl, ?_, stat_w hs_w2 0 0⟩
    refine Onto.set (Onto.set (Onto.trans ?_ ho_w2) _ _) _ _
    repeat (first | with_reducible exact Onto.refl | with_reducible refine Onto.more ?_ _ | with_reducible refine Onto.alloc ?_ _)
set_option maxHeartbeats 2000000 in
theorem acc_w (s : St) (i : Ins) (hf : Facts i) (hs : s.ok) (g0 g1 : Nat) (h0 : g0 < 18446744073709551616) (fits : Bool) (hw : wrB i.op = true) (hx : exB i.op = false) (B : Nat) (w : World) (hS : StAt w B s) : Calls Try.prog 33 #[.pointer (some ⟨B, 0, none⟩), insV i, .agg #[.int .u64 (g0 : Nat), .int .u64 (g1 : Nat)], .bool fits] w
    fun e w' => e = .returned (.tuple #[]) ∧ Onto B w w' ∧ StAt w' B (accS s i g0 g1 fits) := by
  have er : accS s i g0 g1 fits = s := by unfold accS; simp [hw, hx]
  rw [er]
  clear er
  have hB : B < w.heap.size := hS.lt
  have WR := Lib.hid (fun W => writes_fl i.op W)
  have EX := Lib.hid (fun W => excl_fl i.op W)
  have PA := Lib.hid (fun W => pair_fl i.op W)
  have WH := Lib.hid (fun W h => where_fl s i hf hs B W h)
  have PU := Lib.hid (fun (t : St) (n : Int) (v : Nat) (x : Int) (hx : x = (v : Int)) (hn : 0 ≤ n ∧ n ≤ 31) W h => put_onto2 t n v x hx B hn W h)
  have HS := Lib.hid hS
  have hl := lenI_in hf
  have MK := Lib.hid (fun W => gives_same (bmask_any (8 * lenI i) (by omega) (by omega) W))
  have hd := hf.d
  have he := hf.e
  have hm := hf.m
  rw [hw] at WR
  rw [hx] at EX
  clear hw hx
  generalize spanA s i = SA at *
  generalize lenI i = L at *
  clear hs hf hS
  obtain ⟨op, d, n, m, e, sz, imm⟩ := i
  unfold insV spV at *
  simp only at *
  go_enter Try.func33, Try.ntmps33
  go_wp2_with (first
    | (go_at_call 23; refine (WH.out _ (by repeat (first | with_reducible exact HS.out | with_reducible refine stat_more ?_ _ | with_reducible refine stat_alloc ?_ _))).mono ?_; rintro e w9 ⟨rfl, p, rfl⟩)
    | (go_at_call 22; refine (WR.out _).mono ?_; rintro e w9 ⟨rfl, rfl⟩)
    | (go_at_call 26; refine (PA.out _).mono ?_; rintro e w9 ⟨rfl, rfl⟩)
    | (go_at_call 24; refine (EX.out _).mono ?_; rintro e w9 ⟨rfl, rfl⟩))
  go_returns
  refine ⟨rfl, ?_, ?_⟩
  · repeat (first | with_reducible exact Onto.refl | with_reducible refine Onto.more ?_ _ | with_reducible refine Onto.alloc ?_ _)
  · repeat (first | with_reducible exact HS.out | with_reducible refine stat_more ?_ _ | with_reducible refine stat_alloc ?_ _)
set_option maxHeartbeats 2000000 in
theorem acc_p (s : St) (i : Ins) (hf : Facts i) (hs : s.ok) (g0 g1 : Nat) (h0 : g0 < 18446744073709551616) (fits : Bool) (hw : wrB i.op = false) (hx : paB i.op = true) (B : Nat) (w : World) (hS : StAt w B s) : Calls Try.prog 33 #[.pointer (some ⟨B, 0, none⟩), insV i, .agg #[.int .u64 (g0 : Nat), .int .u64 (g1 : Nat)], .bool fits] w
    fun e w' => e = .returned (.tuple #[]) ∧ Onto B w w' ∧ StAt w' B (accS s i g0 g1 fits) := by
  have er : accS s i g0 g1 fits = { setX (setX s i.d g0) i.e g1 with wa := spanA s i, wl := lenI i } := by unfold accS; simp [hw, hx]
  rw [er]
  clear er
  have hB : B < w.heap.size := hS.lt
  have WR := Lib.hid (fun W => writes_fl i.op W)
  have EX := Lib.hid (fun W => excl_fl i.op W)
  have PA := Lib.hid (fun W => pair_fl i.op W)
  have WH := Lib.hid (fun W h => where_fl s i hf hs B W h)
  have PU := Lib.hid (fun (t : St) (n : Int) (v : Nat) (x : Int) (hx : x = (v : Int)) (hn : 0 ≤ n ∧ n ≤ 31) W h => put_onto2 t n v x hx B hn W h)
  have HS := Lib.hid hS
  have hl := lenI_in hf
  have MK := Lib.hid (fun W => gives_same (bmask_any (8 * lenI i) (by omega) (by omega) W))
  have hd := hf.d
  have he := hf.e
  have hm := hf.m
  rw [hw] at WR
  rw [hx] at PA
  clear hw hx
  generalize spanA s i = SA at *
  generalize lenI i = L at *
  clear hs hf hS
  obtain ⟨op, d, n, m, e, sz, imm⟩ := i
  unfold insV spV at *
  simp only at *
  go_enter Try.func33, Try.ntmps33
  go_upto_region 14 with (first
    | (go_at_call 23; refine (WH.out _ (by repeat (first | with_reducible exact HS.out | with_reducible refine stat_more ?_ _ | with_reducible refine stat_alloc ?_ _))).mono ?_; rintro e w9 ⟨rfl, p, rfl⟩)
    | (go_at_call 22; refine (WR.out _).mono ?_; rintro e w9 ⟨rfl, rfl⟩)
    | (go_at_call 26; refine (PA.out _).mono ?_; rintro e w9 ⟨rfl, rfl⟩)
    | (go_at_call 24; refine (EX.out _).mono ?_; rintro e w9 ⟨rfl, rfl⟩)
    | (go_at_call 34; refine (PU.out s d g0 g0 rfl hd _ ?_).mono ?_; (repeat (first | with_reducible exact HS.out | with_reducible refine stat_more ?_ _ | with_reducible refine stat_alloc ?_ _)); rintro e w2 ⟨rfl, ho_w2, hs_w2⟩))
  have i4 : w2.cell? ⟨w.heap.size, 4, none⟩ = some (.int .i64 e) := (ho_w2.cell (by simp [go_sem]; try omega) (by omega)).trans (by simp [go_sem, ↓IntWalk.iteOmega])
  have g1c : w2.cell? ⟨w.heap.size + 1, 1, none⟩ = some (.int .u64 g1) := (ho_w2.cell (by simp [go_sem]; try omega) (by omega)).trans (by simp [go_sem, ↓IntWalk.iteOmega])
  have p0 : w2.cell? ⟨w.heap.size + 1 + 1 + p.os.size, 0, none⟩ = some (.int .i64 SA) := (ho_w2.cell (by simp [go_sem]; try omega) (by omega)).trans (by simp [go_sem, ↓IntWalk.iteOmega])
  have p1 : w2.cell? ⟨w.heap.size + 1 + 1 + p.os.size, 1, none⟩ = some (.int .i64 L) := (ho_w2.cell (by simp [go_sem]; try omega) (by omega)).trans (by simp [go_sem, ↓IntWalk.iteOmega])
  have hz2 : w.heap.size + 1 + 1 + p.os.size < w2.heap.size := cell_lt p0
  go_upto_region 15 with (go_at_call 34; refine (PU.out (setX s d g0) e g1 g1 rfl he _ ?_).mono ?_; (exact hs_w2); rintro e w3 ⟨rfl, ho_w3, hs_w3⟩)
  have r0 := (ho_w3.cell hz2 (by omega)).trans p0
  have r1 := (ho_w3.cell hz2 (by omega)).trans p1
  have q34 := (hs_w3 34 (by omega)).1
  have u34 := (hs_w3 34 (by omega)).2
  have q35 := (hs_w3 35 (by omega)).1
  have u35 := (hs_w3 35 (by omega)).2
  go_wp2_with fail
  go_returns
  refine ⟨rfl, ?_, stat_w hs_w3 SA L⟩
  refine Onto.set (Onto.set (Onto.trans (Onto.trans ?_ ho_w2) ho_w3) _ _) _ _
  repeat (first | with_reducible exact Onto.refl | with_reducible refine Onto.more ?_ _ | with_reducible refine Onto.alloc ?_ _)
set_option maxHeartbeats 2000000 in
theorem acc_x (s : St) (i : Ins) (hf : Facts i) (hs : s.ok) (g0 g1 : Nat) (h0 : g0 < 18446744073709551616) (fits : Bool) (hw : wrB i.op = false) (hp : paB i.op = false) (hx : exB i.op = true) (B : Nat) (w : World) (hS : StAt w B s) : Calls Try.prog 33 #[.pointer (some ⟨B, 0, none⟩), insV i, .agg #[.int .u64 (g0 : Nat), .int .u64 (g1 : Nat)], .bool fits] w
    fun e w' => e = .returned (.tuple #[]) ∧ Onto B w w' ∧ StAt w' B (accS s i g0 g1 fits) := by
  have er : accS s i g0 g1 fits = { setX s i.d (g0 &&& mask (8 * lenI i)) with wa := spanA s i, wl := lenI i } := by unfold accS; simp [hw, hp, hx]
  rw [er]
  clear er
  have hB : B < w.heap.size := hS.lt
  have WR := Lib.hid (fun W => writes_fl i.op W)
  have EX := Lib.hid (fun W => excl_fl i.op W)
  have PA := Lib.hid (fun W => pair_fl i.op W)
  have WH := Lib.hid (fun W h => where_fl s i hf hs B W h)
  have PU := Lib.hid (fun (t : St) (n : Int) (v : Nat) (x : Int) (hx : x = (v : Int)) (hn : 0 ≤ n ∧ n ≤ 31) W h => put_onto2 t n v x hx B hn W h)
  have HS := Lib.hid hS
  have hl := lenI_in hf
  have MK := Lib.hid (fun W => gives_same (bmask_any (8 * lenI i) (by omega) (by omega) W))
  have hd := hf.d
  have he := hf.e
  have hm := hf.m
  rw [hw] at WR
  rw [hp] at PA
  rw [hx] at EX
  clear hw hx hp
  generalize spanA s i = SA at *
  generalize lenI i = L at *
  clear hs hf hS
  obtain ⟨op, d, n, m, e, sz, imm⟩ := i
  unfold insV spV at *
  simp only at *
  go_enter Try.func33, Try.ntmps33
  go_upto_region 2 with (first
    | (go_at_call 23; refine (WH.out _ (by repeat (first | with_reducible exact HS.out | with_reducible refine stat_more ?_ _ | with_reducible refine stat_alloc ?_ _))).mono ?_; rintro e w9 ⟨rfl, p, rfl⟩)
    | (go_at_call 22; refine (WR.out _).mono ?_; rintro e w9 ⟨rfl, rfl⟩)
    | (go_at_call 26; refine (PA.out _).mono ?_; rintro e w9 ⟨rfl, rfl⟩)
    | (go_at_call 24; refine (EX.out _).mono ?_; rintro e w9 ⟨rfl, rfl⟩))
  have HX : Hid (bits .and .u64 (g0 : Nat) (mask (8 * L) : Nat) = ((g0 &&& mask (8 * L) : Nat) : Int)) := Lib.hid (u64_and_nat _ _ h0 (mask_lt _))
  refine wp_tail_more 10 (by kernel_rfl) (by kernel_rfl) ?_
  simp only [List.take_succ_cons, List.take_zero, List.drop_succ_cons, List.drop_zero]
  repeat (go_big_quiet_step (first | (go_at_call 27; exact quiet_more (MK.out _))))
  refine wpQuiet_nil ?_
  intro p10
  go_upto_region 3 with (go_at_call 34; refine (PU.out s d _ _ HX.out hd _ ?_).mono ?_; (repeat (first | with_reducible exact HS.out | with_reducible refine stat_more ?_ _ | with_reducible refine stat_alloc ?_ _)); rintro e w2 ⟨rfl, ho_w2, hs_w2⟩)
  have i0 : w2.cell? ⟨w.heap.size, 0, none⟩ = some (.int .i64 op) := (ho_w2.cell (by simp [go_sem]; try omega) (by omega)).trans (by simp [go_sem, ↓IntWalk.iteOmega])
  have p0 : w2.cell? ⟨w.heap.size + 1 + 1 + p.os.size, 0, none⟩ = some (.int .i64 SA) := (ho_w2.cell (by simp [go_sem]; try omega) (by omega)).trans (by simp [go_sem, ↓IntWalk.iteOmega])
  have p1 : w2.cell? ⟨w.heap.size + 1 + 1 + p.os.size, 1, none⟩ = some (.int .i64 L) := (ho_w2.cell (by simp [go_sem]; try omega) (by omega)).trans (by simp [go_sem, ↓IntWalk.iteOmega])
  have q34 := (hs_w2 34 (by omega)).1
  have u34 := (hs_w2 34 (by omega)).2
  have q35 := (hs_w2 35 (by omega)).1
  have u35 := (hs_w2 35 (by omega)).2
  go_wp2_with (go_at_call 24; refine (EX.out _).mono ?_; rintro e w9 ⟨rfl, rfl⟩)
  go_returns
  refine ⟨rfl, ?_, stat_w hs_w2 SA L⟩
  refine Onto.set (Onto.set (Onto.trans ?_ ho_w2) _ _) _ _
  repeat (first | with_reducible exact Onto.refl | with_reducible refine Onto.more ?_ _ | with_reducible refine Onto.alloc ?_ _)
set_option maxHeartbeats 2000000 in
theorem acc_n (s : St) (i : Ins) (hf : Facts i) (hs : s.ok) (g0 g1 : Nat) (h0 : g0 < 18446744073709551616) (fits : Bool) (hw : wrB i.op = false) (hp : paB i.op = false) (hx : exB i.op = false) (B : Nat) (w : World) (hS : StAt w B s) : Calls Try.prog 33 #[.pointer (some ⟨B, 0, none⟩), insV i, .agg #[.int .u64 (g0 : Nat), .int .u64 (g1 : Nat)], .bool fits] w
    fun e w' => e = .returned (.tuple #[]) ∧ Onto B w w' ∧ StAt w' B (accS s i g0 g1 fits) := by
  have er : accS s i g0 g1 fits = setX s i.d (g0 &&& mask (8 * lenI i)) := by unfold accS; simp [hw, hp, hx]
  rw [er]
  clear er
  have hB : B < w.heap.size := hS.lt
  have WR := Lib.hid (fun W => writes_fl i.op W)
  have EX := Lib.hid (fun W => excl_fl i.op W)
  have PA := Lib.hid (fun W => pair_fl i.op W)
  have WH := Lib.hid (fun W h => where_fl s i hf hs B W h)
  have PU := Lib.hid (fun (t : St) (n : Int) (v : Nat) (x : Int) (hx : x = (v : Int)) (hn : 0 ≤ n ∧ n ≤ 31) W h => put_onto2 t n v x hx B hn W h)
  have HS := Lib.hid hS
  have hl := lenI_in hf
  have MK := Lib.hid (fun W => gives_same (bmask_any (8 * lenI i) (by omega) (by omega) W))
  have hd := hf.d
  have he := hf.e
  have hm := hf.m
  rw [hw] at WR
  rw [hp] at PA
  rw [hx] at EX
  clear hw hx hp
  generalize spanA s i = SA at *
  generalize lenI i = L at *
  clear hs hf hS
  obtain ⟨op, d, n, m, e, sz, imm⟩ := i
  unfold insV spV at *
  simp only at *
  go_enter Try.func33, Try.ntmps33
  go_upto_region 2 with (first
    | (go_at_call 23; refine (WH.out _ (by repeat (first | with_reducible exact HS.out | with_reducible refine stat_more ?_ _ | with_reducible refine stat_alloc ?_ _))).mono ?_; rintro e w9 ⟨rfl, p, rfl⟩)
    | (go_at_call 22; refine (WR.out _).mono ?_; rintro e w9 ⟨rfl, rfl⟩)
    | (go_at_call 26; refine (PA.out _).mono ?_; rintro e w9 ⟨rfl, rfl⟩)
    | (go_at_call 24; refine (EX.out _).mono ?_; rintro e w9 ⟨rfl, rfl⟩))
  have HX : Hid (bits .and .u64 (g0 : Nat) (mask (8 * L) : Nat) = ((g0 &&& mask (8 * L) : Nat) : Int)) := Lib.hid (u64_and_nat _ _ h0 (mask_lt _))
  refine wp_tail_more 10 (by kernel_rfl) (by kernel_rfl) ?_
  simp only [List.take_succ_cons, List.take_zero, List.drop_succ_cons, List.drop_zero]
  repeat (go_big_quiet_step (first | (go_at_call 27; exact quiet_more (MK.out _))))
  refine wpQuiet_nil ?_
  intro p10
  go_upto_region 3 with (go_at_call 34; refine (PU.out s d _ _ HX.out hd _ ?_).mono ?_; (repeat (first | with_reducible exact HS.out | with_reducible refine stat_more ?_ _ | with_reducible refine stat_alloc ?_ _)); rintro e w2 ⟨rfl, ho_w2, hs_w2⟩)
  have i0 : w2.cell? ⟨w.heap.size, 0, none⟩ = some (.int .i64 op) := (ho_w2.cell (by simp [go_sem]; try omega) (by omega)).trans (by simp [go_sem, ↓IntWalk.iteOmega])
  have p0 : w2.cell? ⟨w.heap.size + 1 + 1 + p.os.size, 0, none⟩ = some (.int .i64 SA) := (ho_w2.cell (by simp [go_sem]; try omega) (by omega)).trans (by simp [go_sem, ↓IntWalk.iteOmega])
  have p1 : w2.cell? ⟨w.heap.size + 1 + 1 + p.os.size, 1, none⟩ = some (.int .i64 L) := (ho_w2.cell (by simp [go_sem]; try omega) (by omega)).trans (by simp [go_sem, ↓IntWalk.iteOmega])
  go_wp2_with (go_at_call 24; refine (EX.out _).mono ?_; rintro e w9 ⟨rfl, rfl⟩)
  go_returns
  refine ⟨rfl, ?_, hs_w2⟩
  refine Onto.trans ?_ ho_w2
  repeat (first | with_reducible exact Onto.refl | with_reducible refine Onto.more ?_ _ | with_reducible refine Onto.alloc ?_ _)
end Go.Proofs.Ytfijppclaahkmaa
