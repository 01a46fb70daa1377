/- Walk: the statement WorldMaps. Conditions: what came in lies in memory, and a row of as many globals fits. -/
import Derived.Test.YtlbkloamabomcaaWldE
import Derived.Test.YtlbkloamabomcaaWldC
namespace Go.Proofs.Ytlbkloamabomcaa
open Go.RowKit Go.Sort
set_option linter.unusedVariables false
set_option linter.unusedSimpArgs false
theorem stood_glb : Try.prog.stoodInHeld 58 = false := by kernel_rfl
theorem neq_glb (nm : ByteArray) (a b : Int) (w : World) : (binOp .neq 58 (.agg #[.string nm, .int .i64 a, .int .i64 b]) (.agg #[.string nm, .int .i64 a, .int .i64 b])).run Try.prog w = .ok (.bool false) w := by
  have h1 := stood_glb
  simp [go_sem, h1, Op.eqFields, part]
section
variable {n : Nat}
theorem rmap_no (l : List (Vr n)) (a : Option Addr) (c : Nat) (w W : World) (hV : VrsAt w l a c) (hr : l.length * 32 ≤ 140737488355328) (hE : worldE l ≠ 0) (hW : Below w.heap.size w W) :
    Calls Try.prog 22 #[.slice a l.length c] W (Gives W (.tuple #[.slice none 0 0, .int .i64 0, .int .i64 (worldE l)])) := by
  refine (rMap_any l a c W (hV.below hW) hr).mono fun e w' h => ?_
  obtain ⟨ad, m, cp, rfl, h1, _, hp⟩ := h.cells
  obtain ⟨rfl, rfl, rfl⟩ := h1 hE
  rw [if_neg hE]
  exact ⟨rfl, hp⟩
theorem rmap_yes (l : List (Vr n)) (a : Option Addr) (c : Nat) (w W : World) (hV : VrsAt w l a c) (hr : l.length * 32 ≤ 140737488355328) (hE : worldE l = 0) (hW : Below w.heap.size w W) :
    Calls Try.prog 22 #[.slice a l.length c] W (MapG l W) := by
  refine (rMap_any l a c W (hV.below hW) hr).mono fun e w' h => ?_
  have hgl := glK_len l l.length (Nat.le_refl _)
  rw [hE] at h
  obtain ⟨ad, m, cp, rfl, _, h2, hp⟩ := h.cells
  obtain ⟨rfl, h3⟩ := h2 rfl
  rw [hgl] at h3 ⊢
  exact ⟨ad, cp, rfl, fun h0 => h3 (fun h => by rw [h] at hgl; simp at hgl; omega), hp⟩
/-- a row of globals that was given back. -/
def GlRow (w : World) (l : List (Vr n)) (ad : Option Addr) (c : Nat) : Prop := 0 < l.length → ∃ S, ad = some ⟨S, 0, none⟩ ∧ l.length ≤ c ∧ c ≤ maxLen ∧ GlAt w S (glK l l.length)
theorem GlRow.below {w w' : World} {l : List (Vr n)} {ad : Option Addr} {c : Nat} (hb : Below w.heap.size w w') (h : GlRow w l ad c) : GlRow w' l ad c := fun h0 => by
  obtain ⟨S, h1, h2, h3, h4⟩ := h h0
  exact ⟨S, h1, h2, h3, h4.below hb⟩
theorem MapG.row {l : List (Vr n)} {W w' : World} {e : Ending} (h : MapG l W e w') : ∃ (ad : Option Addr) (c : Nat), e = .returned (.tuple #[.slice ad l.length c, .int .i64 (atK l l.length), .int .i64 0]) ∧ GlRow w' l ad c ∧ ∃ p : Regrown, w' = more W p := by
  obtain ⟨ad, c, h1, h2, h3⟩ := h
  refine ⟨ad, c, h1, fun h0 => ?_, h3⟩
  obtain ⟨S, a1, a2, a3, _, a4⟩ := h2 h0
  exact ⟨S, a1, a2, a3, a4⟩
theorem glrow_get (l : List (Vr n)) (i : Nat) (h : i < l.length) : ∃ g, (glK l l.length)[i]? = some g := by
  have := glK_len l l.length (Nat.le_refl _)
  exact ⟨_, List.getElem?_eq_getElem (by omega : i < (glK l l.length).length)⟩
set_option maxRecDepth 100000 in
set_option maxHeartbeats 3200000 in
theorem worldMaps_walk (l : List (Vr n)) (a : Option Addr) (c : Nat) (w : World) (hV : VrsAt w l a c) (hr : l.length * 32 ≤ 140737488355328) : Calls Try.prog 8 #[.slice a l.length c] w (Gives w (.bool true)) := by
  have AW := Lib.hid awakeW_any
  have hc1 := hV.1
  have hc2 := hV.2.1
  by_cases hE : worldE l = 0
  · have MP := Lib.hid (fun W hW => (map_yes l a c w W hV hr hE hW).mono (fun _ _ h => h.row))
    have RP := Lib.hid (fun W hW => (rmap_yes l a c w W hV hr hE hW).mono (fun _ _ h => h.row))
    have HGT := Lib.hid (glrow_get l)
    have NQ := neq_glb
    clear hV hE
    go_enter Try.func8, Try.ntmps8
    go_wp2_with (first
      | (go_at_call 21; refine (MP.out _ (Below.refl _ _)).mono ?_; rintro e w1 ⟨ad, cg, rfl, hg, p1, rfl⟩; have HG1 := Lib.hid hg; clear hg)
      | (go_at_call 22; refine (RP.out _ (below_mo (Below.refl _ _) _)).mono ?_; rintro e w1 ⟨ad2, cg2, rfl, hg, p2, rfl⟩; have HG2 := Lib.hid hg; clear hg))
    refine wp_letter (R := fun W => Below w.heap.size w W ∧ GlRow W l ad cg ∧ GlRow W l ad2 cg2) ?letA ?_
    case letA => exact ⟨below_mo (below_mo (Below.refl _ _) _) _, HG1.out.below (more_below _ _), HG2.out⟩
    rintro wA ⟨hA, hg1, hg2⟩
    have HA := Lib.hid hA
    have HG3 := Lib.hid hg1
    have HG4 := Lib.hid hg2
    clear hA hg1 hg2 HG1 HG2 MP RP
    go_loopw [9] (fun v9 wr => ∃ i : Nat, i ≤ l.length ∧ v9 = .int .i64 i ∧ ∃ p : Regrown, wr = more wA p) (fun v9 _ => l.length - (intOf v9).toNat)
    case atStart => exact ⟨0, by omega, rfl, more_of_below (Below.refl _ _)⟩
    case round =>
      obtain ⟨i, hil, rfl, p0, rfl⟩ := hrel
      by_cases hlt : (i : Int) < l.length
      · obtain ⟨S, rfl, k1, k2, hS, hSc⟩ := HG3.out (by omega)
        obtain ⟨T, rfl, k3, k4, hT, hTc⟩ := HG4.out (by omega)
        obtain ⟨g, hg⟩ := HGT.out i (by omega)
        obtain ⟨s0, s1, s2⟩ := hSc i g hg
        obtain ⟨t0, t1, t2⟩ := hTc i g hg
        obtain ⟨gn, ga, gs⟩ := g
        simp only at s0 s1 s2 t0 t1 t2
        have hcm : cg ≤ 9223372036854775807 := k2
        have hcm2 : cg2 ≤ 9223372036854775807 := k4
        clear hSc hTc hg
        go_upto_region 8 with fail
        refine wp_quiet_more (by kernel_rfl) (by kernel_rfl) ?_
        repeat (go_big_quiet_step (fail))
        refine wpQuiet_nil ?_
        intro p8
        go_wp2_with fail
        go_roundw
        case rel => exact ⟨i + 1, by omega, by go_num, more_more _ _ _⟩
        case measure => first | (simp [intOf]; done) | (simp [intOf]; omega)
      · obtain rfl : i = l.length := by omega
        go_wp2_with (go_at_call 23; refine (AW.out _).mono ?_; rintro e w1 ⟨rfl, p3, rfl⟩)
        go_ret
        exact Gives.mk rfl (by repeat (first | with_reducible exact HA.out | with_reducible refine below_mo ?_ _))
  · have MP := Lib.hid (fun W hW => map_no l a c w W hV hr hE hW)
    have RP := Lib.hid (fun W hW => rmap_no l a c w W hV hr hE hW)
    clear hV
    generalize worldE l = E at *
    have hb1 : (E != E) = false := by simp
    clear hE
    go_enter Try.func8, Try.ntmps8
    go_wp2_with (first
      | (go_at_call 21; refine (MP.out _ (Below.refl _ _)).mono ?_; rintro e w1 ⟨rfl, p1, rfl⟩)
      | (go_at_call 22; refine (RP.out _ (below_mo (Below.refl _ _) _)).mono ?_; rintro e w1 ⟨rfl, p2, rfl⟩))
    refine wp_loop_rounds 1 ?_
    rw [rounds_succ]
    go_wp2_with (go_at_call 23; refine (AW.out _).mono ?_; rintro e w1 ⟨rfl, p3, rfl⟩)
    go_ret
    exact Gives.mk rfl (by repeat (first | with_reducible exact Below.refl _ _ | with_reducible refine below_mo ?_ _))
end
end Go.Proofs.Ytlbkloamabomcaa
