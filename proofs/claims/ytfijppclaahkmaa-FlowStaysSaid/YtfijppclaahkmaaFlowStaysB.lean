/- Walk: FlowStays, where it is an instruction. Conditions: numbers fit. -/
import Derived.Test.YtfijppclaahkmaaFlowStaysA
namespace Go.Proofs.Ytfijppclaahkmaa
open Go.RowKit Go.Sort
set_option linter.unusedVariables false
set_option linter.unusedSimpArgs false
set_option maxHeartbeats 8000000 in
theorem stays_yes (s : St) (i : Ins) (hi : i.rng) (hs : s.ok) (g0 g1 : Nat) (h0 : g0 < 18446744073709551616) (fits : Bool) (v : Nat) (h : enc i = some v) (w : World) (asks x1 wr acq rel : Bool) (sa ln a0 a1 : Int)
    (AK0 : ∀ W, Calls Try.prog 7 #[stV s, insV i] W (Gives W (.tuple #[accV wr sa ln x1 acq rel a0 a1, .bool asks])))
    (hx : asks = true → x1 = false → exB i.op = false) (ha : meB i.op = asks) :
    Calls Try.prog 5 #[stV s, insV i, .agg #[.int .u64 (g0 : Nat), .int .u64 (g1 : Nat)], .bool fits] w fun e w' => e = .returned (.bool true) ∧ Below w.heap.size w w' := by
  have A := Lib.hid awake_fl
  have NX := Lib.hid (fun W => next_yes s i hi hs g0 g1 h0 fits v h W)
  have ST := Lib.hid (fun W => st_new W s 27)
  have SS := Lib.hid (fun t p => stay_start w s t i g0 g1 p)
  have AK := Lib.hid AK0
  have fp := next_pc s i g0 g1 fits
  have ff := next_flags s i g0 g1 fits
  have fw : i.op ≠ 30 → (asks = true → x1 = false) → (nextS s i g0 g1 fits).wa = s.wa ∧ (nextS s i g0 g1 fits).wl = s.wl := fun h1 h2 =>
    next_watch s i g0 g1 fits h1 fun h3 => by
      rw [ha] at h3
      exact hx h3 (h2 h3)
  have hm : 17 ≤ i.op ∧ i.op ≤ 28 ↔ asks = true := by rw [← ha]; simp [meB]
  have FW := Lib.hid fw
  have FF := Lib.hid ff
  have FP := Lib.hid fp
  have HM := Lib.hid hm
  clear AK0 fw ff fp hm hx ha
  clear h hi hs
  obtain ⟨op, d, n, m, e, sz, imm⟩ := i
  generalize nextS s ⟨op, d, n, m, e, sz, imm⟩ g0 g1 fits = T at *
  rw [show stV s = .agg (stC s.f) from rfl]
  generalize hv : stV s = V at NX AK
  unfold insV accV at *
  simp only at *
  go_enter Try.func5, Try.ntmps5
  go_upto_region 1 with fail
  refine wp_region_lit ?_
  refine wpList_load_st (s := s) (b := w.heap.size) (.tmp 4) rfl rfl rfl (stat_alloc (stat_alloc (ST.out w) _) _) ?_
  rw [hv]
  go_frame
  go_upto_region 2 with (first
    | (refine wpList_alloc_st rfl rfl ?_; go_frame)
    | (refine wpList_store_new (s := T) (.tmp 9) (.tmp 20) rfl rfl rfl rfl ?_ ?_; (generalize stV _ = Z; rfl); go_frame)
    | (go_at_call 14; refine (NX.out _).mono ?_; rintro e w1 ⟨rfl, p1, rfl⟩))
  refine wp_letter (R := fun W => StayW w W s ⟨op, d, n, m, e, sz, imm⟩ (w.heap.size + 1 + 1 + 1 + p1.os.size) T) (SS.out T p1) ?_
  intro wx hN
  have lr : w.heap.size + 1 + 1 + 1 + p1.os.size < _ := cell_lt (hN.nx 0 (by omega)).1
  have lz : w.heap.size + 1 < _ := cell_lt hN.ins.1
  have HN := Lib.hid hN
  clear hN SS ST
  go_upto_region 4 with (go_at_call 10; refine (A.out _).mono ?_; rintro e w1 ⟨rfl, p2, rfl⟩)
  refine wp_region_lit ?_
  refine wpList_load_st (s := s) (b := w.heap.size) (.tmp 4) rfl rfl rfl (HN.out.more p2).st ?_
  rw [hv]
  go_frame
  have hI := HN.out.ins
  unfold IAt at hI
  obtain ⟨i0, i1, i2, i3, i4, i5, i6⟩ := hI
  go_upto_region 5 with (go_at_call 7; refine (AK.out _).mono ?_; rintro e w1 ⟨rfl, p3, rfl⟩)
  have q31 := (HN.out.nx 31 (by omega)).1
  have q32 := (HN.out.nx 32 (by omega)).1
  have q33 := (HN.out.nx 33 (by omega)).1
  have q34 := (HN.out.nx 34 (by omega)).1
  have q35 := (HN.out.nx 35 (by omega)).1
  rw [f_pc] at q31
  rw [f_z] at q32
  rw [f_c] at q33
  rw [f_wa] at q34
  rw [f_wl] at q35
  have o31 := (HN.out.st 31 (by omega)).1
  have o32 := (HN.out.st 32 (by omega)).1
  have o33 := (HN.out.st 33 (by omega)).1
  have o34 := (HN.out.st 34 (by omega)).1
  have o35 := (HN.out.st 35 (by omega)).1
  rw [f_pc] at o31
  rw [f_z] at o32
  rw [f_c] at o33
  rw [f_wa] at o34
  rw [f_wl] at o35
  have l0 : w.heap.size < wx.heap.size := by omega
  have HB := Lib.hid HN.out.below
  clear HN NX AK A
  have hcase : op = 5 ∨ (op < 13 ∧ op ≠ 5) ∨ (13 ≤ op ∧ op ≤ 16) ∨ op = 30 ∨ (17 ≤ op ∧ op ≠ 30) := by omega
  rcases hcase with rfl | ⟨h1, h2⟩ | ⟨h1, h2⟩ | rfl | ⟨h1, h2⟩
  · have ha : asks = false := by
      have := HM.out
      cases asks with
      | false => rfl
      | true => have := this.2 rfl; omega
    subst ha
    have hw := FW.out (by omega) (by simp)
    have hp := FP.out (by omega)
    rw [hw.1] at q34
    rw [hw.2] at q35
    rw [hp] at q31
    clear FW FP FF HM hw hp
    go_wp2_with fail
    all_goals (go_ret; exact ⟨by simp, by repeat (first | with_reducible exact HB.out | with_reducible refine below_mo ?_ _ | with_reducible refine below_al ?_ _)⟩)
  · have ha : asks = false := by
      have := HM.out
      cases asks with
      | false => rfl
      | true => have := this.2 rfl; omega
    subst ha
    have hw := FW.out (by omega) (by simp)
    rw [hw.1] at q34
    rw [hw.2] at q35
    have hp := FP.out (by omega)
    rw [hp] at q31
    have hf := FF.out (by omega)
    rw [hf.1] at q32
    rw [hf.2] at q33
    have j5 : (op == 5) = false := by simp; omega
    have j30 : (op == 30) = false := by simp; omega
    try clear hw
    try clear hp
    try clear hf
    clear FW FP FF HM
    go_wp2_with fail
    all_goals (go_ret; exact ⟨by simp, by repeat (first | with_reducible exact HB.out | with_reducible refine below_mo ?_ _ | with_reducible refine below_al ?_ _)⟩)
  · have ha : asks = false := by
      have := HM.out
      cases asks with
      | false => rfl
      | true => have := this.2 rfl; omega
    subst ha
    have hw := FW.out (by omega) (by simp)
    rw [hw.1] at q34
    rw [hw.2] at q35
    have hf := FF.out (by omega)
    rw [hf.1] at q32
    rw [hf.2] at q33
    have j5 : (op == 5) = false := by simp; omega
    have j30 : (op == 30) = false := by simp; omega
    try clear hw
    try clear hp
    try clear hf
    clear FW FP FF HM
    go_wp2_with fail
    all_goals (go_ret; exact ⟨by simp, by repeat (first | with_reducible exact HB.out | with_reducible refine below_mo ?_ _ | with_reducible refine below_al ?_ _)⟩)
  · have ha : asks = false := by
      have := HM.out
      cases asks with
      | false => rfl
      | true => have := this.2 rfl; omega
    subst ha
    have hp := FP.out (by omega)
    rw [hp] at q31
    have hf := FF.out (by omega)
    rw [hf.1] at q32
    rw [hf.2] at q33
    try clear hw
    try clear hp
    try clear hf
    clear FW FP FF HM
    go_wp2_with fail
    all_goals (go_ret; exact ⟨by simp, by repeat (first | with_reducible exact HB.out | with_reducible refine below_mo ?_ _ | with_reducible refine below_al ?_ _)⟩)
  · cases ha : asks with
    | false =>
      subst ha
      have hw := FW.out (by omega) (by simp)
      rw [hw.1] at q34
      rw [hw.2] at q35
      have hp := FP.out (by omega)
      rw [hp] at q31
      have hf := FF.out (by omega)
      rw [hf.1] at q32
      rw [hf.2] at q33
      have j5 : (op == 5) = false := by simp; omega
      have j30 : (op == 30) = false := by simp; omega
      try clear hw
      try clear hp
      try clear hf
      clear FW FP FF HM
      go_wp2_with fail
      all_goals (go_ret; exact ⟨by simp, by repeat (first | with_reducible exact HB.out | with_reducible refine below_mo ?_ _ | with_reducible refine below_al ?_ _)⟩)
    | true =>
      subst ha
      cases hx : x1 with
      | true =>
        subst hx
        have hp := FP.out (by omega)
        rw [hp] at q31
        have hf := FF.out (by omega)
        rw [hf.1] at q32
        rw [hf.2] at q33
        have j5 : (op == 5) = false := by simp; omega
        try clear hw
        try clear hp
        try clear hf
        clear FW FP FF HM
        go_wp2_with fail
        all_goals (go_ret; exact ⟨by simp, by repeat (first | with_reducible exact HB.out | with_reducible refine below_mo ?_ _ | with_reducible refine below_al ?_ _)⟩)
      | false =>
        subst hx
        have hw := FW.out (by omega) (by simp)
        rw [hw.1] at q34
        rw [hw.2] at q35
        have hp := FP.out (by omega)
        rw [hp] at q31
        have hf := FF.out (by omega)
        rw [hf.1] at q32
        rw [hf.2] at q33
        have j5 : (op == 5) = false := by simp; omega
        try clear hw
        try clear hp
        try clear hf
        clear FW FP FF HM
        go_wp2_with fail
        all_goals (go_ret; exact ⟨by simp, by repeat (first | with_reducible exact HB.out | with_reducible refine below_mo ?_ _ | with_reducible refine below_al ?_ _)⟩)
end Go.Proofs.Ytfijppclaahkmaa
