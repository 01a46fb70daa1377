/- Walk: the instruction that a word is. No condition. -/
import Derived.Test.YthlnjhchifcghaaA64One
namespace Go.Proofs.Ythlnjhchifcghaa
open Go.RowKit Go.Sort
set_option linter.unusedVariables false
set_option linter.unusedSimpArgs false
theorem findSome_hit {α : Type} (g : Nat → Option α) (r : α) (m : Nat) : ∀ k, k < m → (∀ j, j < k → g j = none) → g k = some r → (List.range m).findSome? g = some r := by
  intro k hk h0 h1
  rw [List.findSome?_eq_some_iff]
  refine ⟨List.range k, k, (List.range (m - k)).tail.map (fun x => k + x), ?_, h1, fun x hx => h0 x (List.mem_range.1 hx)⟩
  obtain ⟨d, rfl⟩ : ∃ d, m = k + (d + 1) := ⟨m - k - 1, by omega⟩
  rw [List.range_add, (show k + (d + 1) - k = d + 1 by omega), List.range_succ_eq_map]
  simp
theorem decF_hit {w k : Nat} {r : Ins} (hk : k < 32) (h0 : ∀ j, j < k → decOne ((j + 1 : Nat) : Int) w = none) (h1 : decOne ((k + 1 : Nat) : Int) w = some r) : decF w = some r :=
  findSome_hit (fun k => decOne ((k + 1 : Nat) : Int) w) r 32 k hk h0 h1
theorem decF_none {w : Nat} (h0 : ∀ j, j < 32 → decOne ((j + 1 : Nat) : Int) w = none) : decF w = none := by
  unfold decF
  rw [List.findSome?_eq_none_iff]
  exact fun x hx => h0 x (List.mem_range.1 hx)
def insV (r : Ins) : Value := .agg #[.int .i64 r.op, .int .i64 r.d, .int .i64 r.n, .int .i64 r.m, .int .i64 r.e, .int .i64 r.sz, .int .i64 r.imm]
set_option maxHeartbeats 1000000 in
theorem decode_any (w : Nat) (hw : w < 4294967296) (W : World) : Calls Try.prog 10 #[.int .u32 w] W (Gives W (.tuple #[insV ((decF w).getD (Ins.zero 0)), .int .i64 (if (decF w).isSome then 0 else 2)])) := by
  have O := Lib.hid (fun op W => one_any op w hw W)
  have HIT : Hid (∀ (k : Nat) (r : Ins), k < 32 → (∀ j, j < k → decOne ((j + 1 : Nat) : Int) w = none) → decOne ((k + 1 : Nat) : Int) w = some r → decF w = some r) := Lib.hid (fun k r h1 h2 h3 => decF_hit h1 h2 h3)
  have NON := Lib.hid (@decF_none w)
  generalize hD : decF w = D at *
  clear hD
  generalize hV : insV (D.getD (Ins.zero 0)) = V
  generalize hE : (if D.isSome then (0 : Int) else 2) = E
  have HV := Lib.hid hV
  have HE := Lib.hid hE
  clear hV hE
  go_enter Try.func10, Try.ntmps10
  go_wp2_with fail
  have hin : InsAt (W.alloc (.cells #[.int .i64 0, .int .i64 0, .int .i64 0, .int .i64 0, .int .i64 0, .int .i64 0, .int .i64 0] 23)) W.heap.size (Ins.zero 0) := fun k hk => by
    match k, hk with
    | 0, _ | 1, _ | 2, _ | 3, _ | 4, _ | 5, _ | 6, _ => simp [go_sem, Ins.get, Ins.zero]
  have HIN := Lib.hid hin
  clear hin
  generalize hZ : W.heap.size = Z at HIN ⊢
  go_loopw [4] (fun v4 wr => ∃ k : Nat, k ≤ 32 ∧ v4 = .int .i64 ((k + 1 : Nat) : Int) ∧ Below W.heap.size W wr ∧ Z < wr.heap.size ∧ InsAt wr Z (Ins.zero 0) ∧ ∀ j, j < k → decOne ((j + 1 : Nat) : Int) w = none) (fun v4 _ => 33 - (intOf v4).toNat)
  case atStart => exact ⟨0, by omega, rfl, by repeat (first | exact Below.refl _ _ | refine below_mo ?_ _ | refine below_al ?_ _), by rw [← hZ]; simp, HIN.out, fun j hj => by omega⟩
  case round =>
    obtain ⟨k, hk, rfl, hb, hlt, hi, hn⟩ := hrel
    have HB := Lib.hid hb
    have HI := Lib.hid hi
    have HN := Lib.hid hn
    clear hb hi hn
    have hc1 : ((k + 1 : Nat) : Int) = (k : Int) + 1 := by omega
    by_cases hk2 : (k : Int) + 1 ≤ 32
    · go_wp2_with (first
        | (go_at_call 20; refine (O.out _ _).mono ?_; rintro e X ⟨⟨r0, r1, r2, r3, r4, r5, r6⟩, bo, rfl, hdec, hX⟩; have hX2 := Lib.hid (HI.out.below (w' := X) hlt (by obtain ⟨p, rfl⟩ := hX; exact more_below _ _)); have hXb := Lib.hid (below_next HB.out (w' := X) (by obtain ⟨p, rfl⟩ := hX; exact more_below _ _)); have hXs : Z < X.heap.size := (by obtain ⟨p, rfl⟩ := hX; simp [go_sem]; omega); clear hX; have HDEC := Lib.hid hdec; clear hdec; obtain ⟨x0, x0'⟩ := hX2.out 0 (by omega); obtain ⟨x1, x1'⟩ := hX2.out 1 (by omega); obtain ⟨x2, x2'⟩ := hX2.out 2 (by omega); obtain ⟨x3, x3'⟩ := hX2.out 3 (by omega); obtain ⟨x4, x4'⟩ := hX2.out 4 (by omega); obtain ⟨x5, x5'⟩ := hX2.out 5 (by omega); obtain ⟨x6, x6'⟩ := hX2.out 6 (by omega)))
      · have e1 := HDEC.out
        rw [if_pos ‹bo = true›] at e1
        have e2 := HIT.out k _ (by omega) HN.out (by rw [hc1]; exact e1)
        have v1 := HV.out
        have v2 := HE.out
        rw [e2] at v1 v2
        simp [insV] at v1 v2
        subst v1 v2
        generalize hX7 : (((((((X.setCell ⟨Z, 0, none⟩ (.int .i64 r0)).setCell ⟨Z, 1, none⟩ (.int .i64 r1)).setCell ⟨Z, 2, none⟩ (.int .i64 r2)).setCell ⟨Z, 3, none⟩ (.int .i64 r3)).setCell ⟨Z, 4, none⟩ (.int .i64 r4)).setCell ⟨Z, 5, none⟩ (.int .i64 r5)).setCell ⟨Z, 6, none⟩ (.int .i64 r6)) = X7
        have hI7 : InsAt X7 Z ⟨r0, r1, r2, r3, r4, r5, r6⟩ := by rw [← hX7]; exact InsAt.set7 hX2.out r0 r1 r2 r3 r4 r5 r6
        have hs7 : Z < X7.heap.size := by rw [← hX7]; simp; omega
        have q0 : X7.cell? ⟨Z, 0, none⟩ = some (.int .i64 r0) := (hI7 0 (by omega)).1
        have q1 : X7.cell? ⟨Z, 1, none⟩ = some (.int .i64 r1) := (hI7 1 (by omega)).1
        have q2 : X7.cell? ⟨Z, 2, none⟩ = some (.int .i64 r2) := (hI7 2 (by omega)).1
        have q3 : X7.cell? ⟨Z, 3, none⟩ = some (.int .i64 r3) := (hI7 3 (by omega)).1
        have q4 : X7.cell? ⟨Z, 4, none⟩ = some (.int .i64 r4) := (hI7 4 (by omega)).1
        have q5 : X7.cell? ⟨Z, 5, none⟩ = some (.int .i64 r5) := (hI7 5 (by omega)).1
        have q6 : X7.cell? ⟨Z, 6, none⟩ = some (.int .i64 r6) := (hI7 6 (by omega)).1
        have hB7 := Lib.hid (show Below W.heap.size W X7 by rw [← hX7]; exact below_st (below_st (below_st (below_st (below_st (below_st (below_st hXb.out (by simp; omega) _) (by simp; omega) _) (by simp; omega) _) (by simp; omega) _) (by simp; omega) _) (by simp; omega) _) (by simp; omega) _)
        clear hX7 hI7
        (try simp only [Exit.inBlock, Exit.then])
        refine bodyPost_ret (by simp [results, Try.results10, go_sem, hs7, q0, q1, q2, q3, q4, q5, q6]; try rfl) rfl ?_
        exact Gives.mk rfl (below_al hB7.out _)
      · have e1 := HDEC.out
        rw [if_neg (by simp [‹bo = false›])] at e1
        go_roundw
        case rel =>
          refine ⟨k + 1, by omega, by go_num, below_al hXb.out _, by simp [go_sem]; omega, hX2.out.below hXs (by repeat (first | exact Below.refl _ _ | refine below_al ?_ _)), fun j hj => ?_⟩
          rcases Nat.lt_or_ge j k with h | h
          · exact HN.out j h
          · obtain rfl : k = j := by omega
            rw [hc1]
            exact e1
        case measure => simp [intOf]; omega
    · obtain ⟨x0, x0'⟩ := HI.out 0 (by omega)
      obtain ⟨x1, x1'⟩ := HI.out 1 (by omega)
      obtain ⟨x2, x2'⟩ := HI.out 2 (by omega)
      obtain ⟨x3, x3'⟩ := HI.out 3 (by omega)
      obtain ⟨x4, x4'⟩ := HI.out 4 (by omega)
      obtain ⟨x5, x5'⟩ := HI.out 5 (by omega)
      obtain ⟨x6, x6'⟩ := HI.out 6 (by omega)
      have e2 := NON.out (fun j hj => HN.out j (by omega))
      have v1 := HV.out
      have v2 := HE.out
      rw [e2] at v1 v2
      simp [insV, Ins.zero] at v1 v2
      subst v1 v2
      go_wp2_with fail
      generalize hX7 : (((((((wr.setCell ⟨Z, 0, none⟩ (.int .i64 0)).setCell ⟨Z, 1, none⟩ (.int .i64 0)).setCell ⟨Z, 2, none⟩ (.int .i64 0)).setCell ⟨Z, 3, none⟩ (.int .i64 0)).setCell ⟨Z, 4, none⟩ (.int .i64 0)).setCell ⟨Z, 5, none⟩ (.int .i64 0)).setCell ⟨Z, 6, none⟩ (.int .i64 0)) = X7
      have hI7 : InsAt X7 Z ⟨0, 0, 0, 0, 0, 0, 0⟩ := by rw [← hX7]; exact InsAt.set7 HI.out 0 0 0 0 0 0 0
      have hs7 : Z < X7.heap.size := by rw [← hX7]; simp; omega
      have q0 : X7.cell? ⟨Z, 0, none⟩ = some (.int .i64 0) := (hI7 0 (by omega)).1
      have q1 : X7.cell? ⟨Z, 1, none⟩ = some (.int .i64 0) := (hI7 1 (by omega)).1
      have q2 : X7.cell? ⟨Z, 2, none⟩ = some (.int .i64 0) := (hI7 2 (by omega)).1
      have q3 : X7.cell? ⟨Z, 3, none⟩ = some (.int .i64 0) := (hI7 3 (by omega)).1
      have q4 : X7.cell? ⟨Z, 4, none⟩ = some (.int .i64 0) := (hI7 4 (by omega)).1
      have q5 : X7.cell? ⟨Z, 5, none⟩ = some (.int .i64 0) := (hI7 5 (by omega)).1
      have q6 : X7.cell? ⟨Z, 6, none⟩ = some (.int .i64 0) := (hI7 6 (by omega)).1
      have hB7 := Lib.hid (show Below W.heap.size W X7 by rw [← hX7]; exact below_st (below_st (below_st (below_st (below_st (below_st (below_st HB.out (by simp; omega) _) (by simp; omega) _) (by simp; omega) _) (by simp; omega) _) (by simp; omega) _) (by simp; omega) _) (by simp; omega) _)
      clear hX7 hI7
      (try simp only [Exit.inBlock, Exit.then])
      refine bodyPost_ret (by simp [results, Try.results10, go_sem, hs7, q0, q1, q2, q3, q4, q5, q6]; try rfl) rfl ?_
      exact Gives.mk rfl hB7.out
end Go.Proofs.Ythlnjhchifcghaa
