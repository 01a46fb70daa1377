/- Walk: the statement on where fields lie, over what the program's functions and the document's give. Conditions: what came in lies in memory. -/
import Derived.Test.YtlbkloamabomcaaLayLocsT
import Derived.Test.YtlbkloamabomcaaLayFb
import Derived.Test.YtlbkloamabomcaaLayMarksIn
import Derived.Test.YtlbkloamabomcaaKindOpen
namespace Go.Proofs.Ytlbkloamabomcaa
open Go.RowKit Go.Sort
set_option linter.unusedVariables false
set_option linter.unusedSimpArgs false
set_option maxRecDepth 100000 in
set_option maxHeartbeats 1600000 in
theorem layoutFields_no (n : Nat) (t : Ty n) (r : Raw) (w : World) (hT : TyAt w n t r) (hE : checkF n t ≠ 0 ∨ (tkind n t ≠ 3 ∧ tkind n t ≠ 4)) : Calls Try.prog 4 #[r.val] w fun e w' => e = .returned (.bool true) ∧ Below w.heap.size w w' := by
  have A := Lib.hid awakeL_any
  have ek : r.kind = tkind n t := by
    match n, t with
    | n + 1, (t : TyF (Ty n)) => exact hT.1
  have hf : fieldsE n t = (if checkF n t ≠ 0 then checkF n t else 8) ∧ fieldsE n t ≠ 0 := by
    unfold fieldsE
    by_cases h : checkF n t = 0
    · have h2 : tkind n t ≠ 3 ∧ tkind n t ≠ 4 := by
        rcases hE with h1 | h1
        · exact absurd h h1
        · exact h1
      simp [h, h2]
    · simp [h]
  have F : Hid (∀ W, Below w.heap.size w W → Calls Try.prog 17 #[r.val] W fun e w' => ∃ ad c, e = .returned (.tuple #[.slice ad 0 c, .int .i64 (fieldsE n t)]) ∧ ∃ p : Regrown, w' = more W p) := Lib.hid (fun W hW => (Fields_any n t r W (hT.below hW)).mono (by
    rintro e w1 ⟨⟨ad, l, c, rfl, h1, _⟩, hp⟩
    rw [h1 hf.2]
    exact ⟨ad, c, rfl, hp⟩))
  have C := Lib.hid (fun W (hW : Below w.heap.size w W) => rcheck_any n t r W (hT.below hW))
  rw [← ek] at hE
  clear hT ek
  obtain ⟨rk, rs, rp, fa, fl, fc, rc, ea, el, ec⟩ := r
  unfold Raw.val at *
  simp only at *
  generalize fieldsE n t = E at *
  generalize checkF n t = K at *
  by_cases hK : K = 0
  · subst hK
    have hE2 : rk ≠ 3 ∧ rk ≠ 4 := by
      rcases hE with h | h
      · exact absurd rfl h
      · exact h
    obtain ⟨h3, h4⟩ := hE2
    obtain rfl : E = 8 := by simpa using hf.1
    have b3 : (rk != 3) = true := by simp [h3]
    have b4 : (rk != 4) = true := by simp [h4]
    clear hf hE
    go_enter Try.func4, Try.ntmps4
    go_wp2_with (first
      | (go_at_call 15; refine (A.out _).mono ?_; rintro e w1 ⟨rfl, p1, rfl⟩)
      | (go_at_call 17; refine (F.out _ (by repeat (first | with_reducible exact Below.refl _ _ | with_reducible refine below_mo ?_ _ | with_reducible refine below_al ?_ _))).mono ?_; rintro e w1 ⟨ad, c, rfl, p2, rfl⟩)
      | (go_at_call 14; refine (C.out _ (by repeat (first | with_reducible exact Below.refl _ _ | with_reducible refine below_mo ?_ _ | with_reducible refine below_al ?_ _))).mono ?_; rintro e w1 ⟨rfl, p3, rfl⟩))
    go_ret
    exact ⟨by simp, by repeat (first | with_reducible exact Below.refl _ _ | with_reducible refine below_mo ?_ _ | with_reducible refine below_al ?_ _)⟩
  · obtain rfl : E = K := by simpa [hK] using hf.1
    have hb0 : (E == 0) = false := by simpa using hK
    have hb1 : (E != 0) = true := by simpa using hK
    clear hf hE
    go_enter Try.func4, Try.ntmps4
    go_wp2_with (first
      | (go_at_call 15; refine (A.out _).mono ?_; rintro e w1 ⟨rfl, p1, rfl⟩)
      | (go_at_call 17; refine (F.out _ (by repeat (first | with_reducible exact Below.refl _ _ | with_reducible refine below_mo ?_ _ | with_reducible refine below_al ?_ _))).mono ?_; rintro e w1 ⟨ad, c, rfl, p2, rfl⟩)
      | (go_at_call 14; refine (C.out _ (by repeat (first | with_reducible exact Below.refl _ _ | with_reducible refine below_mo ?_ _ | with_reducible refine below_al ?_ _))).mono ?_; rintro e w1 ⟨rfl, p3, rfl⟩))
    go_ret
    exact ⟨by simp, by repeat (first | with_reducible exact Below.refl _ _ | with_reducible refine below_mo ?_ _ | with_reducible refine below_al ?_ _)⟩
/-- a type's six cells lie in a block. -/
def TyB (w : World) (b : Nat) (r : Raw) : Prop := w.cell? ⟨b, 0, none⟩ = some (.int .i64 r.kind) ∧ w.cell? ⟨b, 1, none⟩ = some (.int .i64 r.size) ∧ w.cell? ⟨b, 2, none⟩ = some (.bool r.packed) ∧ w.cell? ⟨b, 3, none⟩ = some (.slice r.fa r.fl r.fc) ∧ w.cell? ⟨b, 4, none⟩ = some (.int .i64 r.count) ∧ w.cell? ⟨b, 5, none⟩ = some (.slice r.ea r.el r.ec)
set_option maxRecDepth 100000 in
set_option maxHeartbeats 3200000 in
theorem layoutFields_grp (n : Nat) (t : TyF (Ty n)) (r : Raw) (w : World) (hT : TyAt w (n + 1) t r) (hE : checkF (n + 1) t = 0) (hk : t.kind = 3 ∨ t.kind = 4) : Calls Try.prog 4 #[r.val] w fun e w' => e = .returned (.bool true) ∧ Below w.heap.size w w' := by
  have A := Lib.hid awakeL_any
  have HQ := neq_spot
  have HG := guard_spot
  obtain ⟨_, hs, _, g, hg, hg2⟩ := checkF_zero hE
  obtain ⟨q, hq, _⟩ := grp_parts n t hk hg
  have hFE : fieldsE (n + 1) t = 0 := by
    have e : tkind (n + 1) t = t.kind := rfl
    unfold fieldsE
    rw [e]
    simp [hE, hk]
  have hlen : 1 ≤ t.fields.length ∧ t.fields.length ≤ 32 := by
    rcases sound_cases n t hs with ⟨h, _⟩ | ⟨h, _⟩ | ⟨_, _, _, _, h1, h2, _⟩
    · omega
    · omega
    · exact ⟨h1, h2⟩
  have hls : (spotsF (n + 1) t).length = t.fields.length := spK_len _ _ _ t _ q hq
  have hlf : (fbF (n + 1) t).length = t.fields.length := fbK_len _ _ t _ q hq
  have hrl : r.fl = t.fields.length := hT.2.2.2.1
  have hrk : r.kind = t.kind := hT.1
  have F : Hid (∀ W, Below w.heap.size w W → Calls Try.prog 17 #[r.val] W fun e w' => ∃ S c, e = .returned (.tuple #[.slice (some ⟨S, 0, none⟩) t.fields.length c, .int .i64 0]) ∧ t.fields.length ≤ c ∧ c ≤ maxLen ∧ SpAt w' S (spotsF (n + 1) t) ∧ ∃ p : Regrown, w' = more W p) := Lib.hid (fun W hW => (Fields_any (n + 1) t r W (hT.below hW)).mono (by
    rintro e w1 ⟨⟨ad, l, c, rfl, _, h2⟩, hp⟩
    rw [hFE] at h2 ⊢
    obtain ⟨h3, h4⟩ := h2 rfl
    obtain ⟨h5, S, rfl, h6, h7, h8⟩ := spots_at h4 (fun h => by rw [h] at hls; simp at hls; omega)
    obtain rfl : l = t.fields.length := by omega
    exact ⟨S, c, rfl, h6, h7, h8, hp⟩))
  have C := Lib.hid (fun W (hW : Below w.heap.size w W) => rcheck_any (n + 1) t r W (hT.below hW))
  rw [hE] at C
  have Y : Hid (∀ W, Below w.heap.size w W → Calls Try.prog 16 #[r.val] W fun e w' => ∃ s a g2 k2 g3 k3 L, e = .returned (.agg #[.int .i64 s, .int .i64 a, .slice (some ⟨g2, 0, none⟩) t.fields.length k2, .slice (some ⟨g3, 0, none⟩) t.fields.length k3, .bool L]) ∧ t.fields.length ≤ k2 ∧ t.fields.length ≤ k3 ∧ FbAt w' g2 g3 (fbF (n + 1) t) ∧ ∃ p : Regrown, w' = more W p) := Lib.hid (fun W hW => (lay_any (n + 1) t r W hs (hT.below hW)).mono (fun e w1 (h : LayC (n + 1) t W e w1) => by
    obtain ⟨⟨s, a, a2, n2, k2, a3, n3, k3, L, he, _, _, h3⟩, hp⟩ := h
    obtain ⟨e2, e3, o2, o3⟩ := h3 ⟨hk, q, hq⟩
    have o2' : w1.ownsRow W.heap.size 3 1 (.slice a2 n2 k2) n2 (((fbF (n + 1) t).map (·.1)).map fun x => .int .i64 x) := by rw [List.map_map]; exact o2
    have o3' : w1.ownsRow W.heap.size 3 1 (.slice a3 n3 k3) n3 (((fbF (n + 1) t).map (·.2)).map fun x => .int .i64 x) := by rw [List.map_map]; exact o3
    have hne : fbF (n + 1) t ≠ [] := fun h => by rw [h] at hlf; simp at hlf; omega
    obtain ⟨_, g2, rfl, b1, b2, _, b4⟩ := ints_at o2' (by simpa using hne)
    obtain ⟨_, g3, rfl, c1, c2, _, c4⟩ := ints_at o3' (by simpa using hne)
    rw [hlf] at e2 e3
    subst e2 e3
    exact ⟨s, a, g2, k2, g3, k3, L, he, b2, c2, ⟨b1, c1, fun i x hi => ⟨b4 i _ (by rw [List.getElem?_map, hi]; rfl), c4 i _ (by rw [List.getElem?_map, hi]; rfl)⟩⟩, hp⟩))
  have SF := Lib.hid (spots_fb n t hs hk hq)
  have SPT := Lib.hid (fun W (hW : Below w.heap.size w W) => spot_any n t r W (hT.below hW))
  rw [← hrk] at hk
  clear hT hE hg hg2 hs hq hFE hrk hls hlf
  generalize t.fields.length = N at *
  obtain ⟨rk, rs, rp, fa, fl, fc, rc, ea, el, ec⟩ := r
  unfold Raw.val at *
  simp only at *
  subst hrl
  obtain ⟨hN0, hN1⟩ := hlen
  rcases hk with rfl | rfl
  · go_enter Try.func4, Try.ntmps4
    go_wp2_with (first
      | (go_at_call 15; refine (A.out _).mono ?_; rintro e w1 ⟨rfl, p1, rfl⟩)
      | (go_at_call 17; refine (F.out _ (by repeat (first | with_reducible exact Below.refl _ _ | with_reducible refine below_mo ?_ _ | with_reducible refine below_al ?_ _))).mono ?_; rintro e w1 ⟨S, c, rfl, hc1, hc2, hsp, p2, rfl⟩; have HSP := Lib.hid hsp; clear hsp)
      | (go_at_call 14; refine (C.out _ (by repeat (first | with_reducible exact Below.refl _ _ | with_reducible refine below_mo ?_ _ | with_reducible refine below_al ?_ _))).mono ?_; rintro e w1 ⟨rfl, p3, rfl⟩)
      | (go_at_call 16; refine (Y.out _ (by repeat (first | with_reducible exact Below.refl _ _ | with_reducible refine below_mo ?_ _ | with_reducible refine below_al ?_ _))).mono ?_; rintro e w1 ⟨s, a, g2, k2, g3, k3, L, rfl, hk2, hk3, hfb, p4, rfl⟩; have HFB := Lib.hid hfb; clear hfb))
    refine wp_letter (R := fun W => Below w.heap.size w W ∧ SpAt W S (spotsF (n + 1) t) ∧ FbAt W g2 g3 (fbF (n + 1) t) ∧ TyB W w.heap.size ⟨3, rs, rp, fa, fl, fc, rc, ea, el, ec⟩ ∧ W.cell? ⟨w.heap.size + 1 + p2.os.size + p3.os.size + p4.os.size, 0, none⟩ = some (.int .i64 s) ∧ W.cell? ⟨w.heap.size + 1 + p2.os.size + p3.os.size + p4.os.size, 1, none⟩ = some (.int .i64 a) ∧ W.cell? ⟨w.heap.size + 1 + p2.os.size + p3.os.size + p4.os.size, 2, none⟩ = some (.slice (some ⟨g2, 0, none⟩) fl k2) ∧ W.cell? ⟨w.heap.size + 1 + p2.os.size + p3.os.size + p4.os.size, 3, none⟩ = some (.slice (some ⟨g3, 0, none⟩) fl k3) ∧ W.cell? ⟨w.heap.size + 1 + p2.os.size + p3.os.size + p4.os.size, 4, none⟩ = some (.bool L)) ?letA3 ?_
    case letA3 =>
      refine ⟨?_, ?_, ?_, ⟨?_, ?_, ?_, ?_, ?_, ?_⟩, ?_, ?_, ?_, ?_, ?_⟩
      · repeat (first | with_reducible exact Below.refl _ _ | with_reducible refine below_mo ?_ _ | with_reducible refine below_al ?_ _)
      · exact HSP.out.below (by repeat (first | with_reducible exact Below.refl _ _ | with_reducible refine below_mo ?_ _ | with_reducible refine below_al ?_ _))
      · exact HFB.out.below (by repeat (first | with_reducible exact Below.refl _ _ | with_reducible refine below_mo ?_ _ | with_reducible refine below_al ?_ _))
      all_goals (simp [go_sem, ↓IntWalk.iteOmega]; done)
    rintro wA ⟨hA1, hA2, hA3, hA4, x0, x1, x2, x3, x4⟩
    generalize w.heap.size + 1 + p2.os.size + p3.os.size + p4.os.size = X at *
    have HA1 := Lib.hid hA1
    have HA2 := Lib.hid hA2.2
    have HA3 := Lib.hid hA3.2.2
    have hbs := hA1.size
    have hlS := hA2.1
    have hl2 := hA3.1
    have hl3 := hA3.2.1
    have hlX := cell_lt2 x0
    obtain ⟨y0, y1, y2, y3, y4, y5⟩ := hA4
    simp only at y0 y1 y2 y3 y4 y5
    have hlT := cell_lt2 y0
    clear hA1 hA2 hA3 HSP HFB F Y C
    go_loopw [7] (fun v7 wr => ∃ i : Nat, i ≤ fl ∧ v7 = .int .i64 i ∧ ∃ p : Regrown, wr = more wA p) (fun v7 _ => fl - (intOf v7).toNat)
    case atStart => exact ⟨0, by omega, rfl, more_of_below (Below.refl _ _)⟩
    case round =>
      obtain ⟨i, hil, rfl, p, rfl⟩ := hrel
      by_cases hlt : (i : Int) < fl
      · obtain ⟨f, x, y, hf, hsp, hfb, hx0, hx1, hy0, hy1⟩ := SF.out i (by omega)
        have hS := HA2.out i _ hsp
        obtain ⟨q2, q3⟩ := HA3.out i _ hfb
        obtain ⟨s0, s1, s2, s3, s4, s5⟩ := hS
        have SPC : Hid (∀ p1 : Regrown, Calls Try.prog 18 #[.agg #[.int .i64 3, .int .i64 rs, .bool rp, .slice fa fl fc, .int .i64 rc, .slice ea el ec], .agg #[.int .i64 s, .int .i64 a, .slice (some ⟨g2, 0, none⟩) fl k2, .slice (some ⟨g3, 0, none⟩) fl k3, .bool L], .int .i64 i] (more (more wA p) p1) (Gives (more (more wA p) p1) (.agg (spotOf f.isBits (tkind n f.type) x y).cs.toArray))) := Lib.hid (fun p1 =>
          SPT.out _ (below_mo (below_mo HA1.out p) p1) i f hf s a g2 g3 fl k2 k3 L x y hx0 hx1 hy0 hy1 (by omega) hk2 hk3 (by simp [go_sem, ↓IntWalk.iteOmega, q2]) (by simp [go_sem, ↓IntWalk.iteOmega, q3]))
        clear hf hsp hfb q2 q3
        generalize spotOf f.isBits (tkind n f.type) x y = sp at *
        obtain ⟨z0, z1, z2, z3, z4, z5⟩ := sp
        unfold Sp.cs at SPC
        simp only [List.toArray] at SPC s0 s1 s2 s3 s4 s5
        go_upto_region 13 with fail
        refine wp_quiet_more (by kernel_rfl) (by kernel_rfl) ?_
        repeat (go_big_quiet_step ((go_at_call 18; exact quiet_more (SPC.out _))))
        refine wpQuiet_nil ?_
        intro p8
        go_wp2_with fail
        go_roundw
        case rel => exact ⟨i + 1, by omega, by go_num, more_more _ _ _⟩
        case measure => simp [intOf]; omega
      · obtain rfl : i = fl := by omega
        go_wp2_with (go_at_call 15; refine (A.out _).mono ?_; rintro e w1 ⟨rfl, p1, rfl⟩)
        go_ret
        exact ⟨rfl, below_mo (below_mo HA1.out _) _⟩
  · go_enter Try.func4, Try.ntmps4
    go_wp2_with (first
      | (go_at_call 15; refine (A.out _).mono ?_; rintro e w1 ⟨rfl, p1, rfl⟩)
      | (go_at_call 17; refine (F.out _ (by repeat (first | with_reducible exact Below.refl _ _ | with_reducible refine below_mo ?_ _ | with_reducible refine below_al ?_ _))).mono ?_; rintro e w1 ⟨S, c, rfl, hc1, hc2, hsp, p2, rfl⟩; have HSP := Lib.hid hsp; clear hsp)
      | (go_at_call 14; refine (C.out _ (by repeat (first | with_reducible exact Below.refl _ _ | with_reducible refine below_mo ?_ _ | with_reducible refine below_al ?_ _))).mono ?_; rintro e w1 ⟨rfl, p3, rfl⟩)
      | (go_at_call 16; refine (Y.out _ (by repeat (first | with_reducible exact Below.refl _ _ | with_reducible refine below_mo ?_ _ | with_reducible refine below_al ?_ _))).mono ?_; rintro e w1 ⟨s, a, g2, k2, g3, k3, L, rfl, hk2, hk3, hfb, p4, rfl⟩; have HFB := Lib.hid hfb; clear hfb))
    refine wp_letter (R := fun W => Below w.heap.size w W ∧ SpAt W S (spotsF (n + 1) t) ∧ FbAt W g2 g3 (fbF (n + 1) t) ∧ TyB W w.heap.size ⟨4, rs, rp, fa, fl, fc, rc, ea, el, ec⟩ ∧ W.cell? ⟨w.heap.size + 1 + p2.os.size + p3.os.size + p4.os.size, 0, none⟩ = some (.int .i64 s) ∧ W.cell? ⟨w.heap.size + 1 + p2.os.size + p3.os.size + p4.os.size, 1, none⟩ = some (.int .i64 a) ∧ W.cell? ⟨w.heap.size + 1 + p2.os.size + p3.os.size + p4.os.size, 2, none⟩ = some (.slice (some ⟨g2, 0, none⟩) fl k2) ∧ W.cell? ⟨w.heap.size + 1 + p2.os.size + p3.os.size + p4.os.size, 3, none⟩ = some (.slice (some ⟨g3, 0, none⟩) fl k3) ∧ W.cell? ⟨w.heap.size + 1 + p2.os.size + p3.os.size + p4.os.size, 4, none⟩ = some (.bool L)) ?letA4 ?_
    case letA4 =>
      refine ⟨?_, ?_, ?_, ⟨?_, ?_, ?_, ?_, ?_, ?_⟩, ?_, ?_, ?_, ?_, ?_⟩
      · repeat (first | with_reducible exact Below.refl _ _ | with_reducible refine below_mo ?_ _ | with_reducible refine below_al ?_ _)
      · exact HSP.out.below (by repeat (first | with_reducible exact Below.refl _ _ | with_reducible refine below_mo ?_ _ | with_reducible refine below_al ?_ _))
      · exact HFB.out.below (by repeat (first | with_reducible exact Below.refl _ _ | with_reducible refine below_mo ?_ _ | with_reducible refine below_al ?_ _))
      all_goals (simp [go_sem, ↓IntWalk.iteOmega]; done)
    rintro wA ⟨hA1, hA2, hA3, hA4, x0, x1, x2, x3, x4⟩
    generalize w.heap.size + 1 + p2.os.size + p3.os.size + p4.os.size = X at *
    have HA1 := Lib.hid hA1
    have HA2 := Lib.hid hA2.2
    have HA3 := Lib.hid hA3.2.2
    have hbs := hA1.size
    have hlS := hA2.1
    have hl2 := hA3.1
    have hl3 := hA3.2.1
    have hlX := cell_lt2 x0
    obtain ⟨y0, y1, y2, y3, y4, y5⟩ := hA4
    simp only at y0 y1 y2 y3 y4 y5
    have hlT := cell_lt2 y0
    clear hA1 hA2 hA3 HSP HFB F Y C
    go_loopw [7] (fun v7 wr => ∃ i : Nat, i ≤ fl ∧ v7 = .int .i64 i ∧ ∃ p : Regrown, wr = more wA p) (fun v7 _ => fl - (intOf v7).toNat)
    case atStart => exact ⟨0, by omega, rfl, more_of_below (Below.refl _ _)⟩
    case round =>
      obtain ⟨i, hil, rfl, p, rfl⟩ := hrel
      by_cases hlt : (i : Int) < fl
      · obtain ⟨f, x, y, hf, hsp, hfb, hx0, hx1, hy0, hy1⟩ := SF.out i (by omega)
        have hS := HA2.out i _ hsp
        obtain ⟨q2, q3⟩ := HA3.out i _ hfb
        obtain ⟨s0, s1, s2, s3, s4, s5⟩ := hS
        have SPC : Hid (∀ p1 : Regrown, Calls Try.prog 18 #[.agg #[.int .i64 4, .int .i64 rs, .bool rp, .slice fa fl fc, .int .i64 rc, .slice ea el ec], .agg #[.int .i64 s, .int .i64 a, .slice (some ⟨g2, 0, none⟩) fl k2, .slice (some ⟨g3, 0, none⟩) fl k3, .bool L], .int .i64 i] (more (more wA p) p1) (Gives (more (more wA p) p1) (.agg (spotOf f.isBits (tkind n f.type) x y).cs.toArray))) := Lib.hid (fun p1 =>
          SPT.out _ (below_mo (below_mo HA1.out p) p1) i f hf s a g2 g3 fl k2 k3 L x y hx0 hx1 hy0 hy1 (by omega) hk2 hk3 (by simp [go_sem, ↓IntWalk.iteOmega, q2]) (by simp [go_sem, ↓IntWalk.iteOmega, q3]))
        clear hf hsp hfb q2 q3
        generalize spotOf f.isBits (tkind n f.type) x y = sp at *
        obtain ⟨z0, z1, z2, z3, z4, z5⟩ := sp
        unfold Sp.cs at SPC
        simp only [List.toArray] at SPC s0 s1 s2 s3 s4 s5
        go_upto_region 13 with fail
        refine wp_quiet_more (by kernel_rfl) (by kernel_rfl) ?_
        repeat (go_big_quiet_step ((go_at_call 18; exact quiet_more (SPC.out _))))
        refine wpQuiet_nil ?_
        intro p8
        go_wp2_with fail
        go_roundw
        case rel => exact ⟨i + 1, by omega, by go_num, more_more _ _ _⟩
        case measure => simp [intOf]; omega
      · obtain rfl : i = fl := by omega
        go_wp2_with (go_at_call 15; refine (A.out _).mono ?_; rintro e w1 ⟨rfl, p1, rfl⟩)
        go_ret
        exact ⟨rfl, below_mo (below_mo HA1.out _) _⟩
theorem layoutFields_walk : ∀ (n : Nat) (t : Ty n) (r : Raw) (w : World), TyAt w n t r → Calls Try.prog 4 #[r.val] w fun e w' => e = .returned (.bool true) ∧ Below w.heap.size w w'
  | 0, t, _, _, _ => nomatch t
  | n + 1, (t : TyF (Ty n)), r, w, hT => by
    by_cases hE : checkF (n + 1) t = 0
    · by_cases hk : t.kind = 3 ∨ t.kind = 4
      · exact layoutFields_grp n t r w hT hE hk
      · exact layoutFields_no (n + 1) t r w hT (.inr ⟨fun h => hk (.inl h), fun h => hk (.inr h)⟩)
    · exact layoutFields_no (n + 1) t r w hT (.inl hE)
end Go.Proofs.Ytlbkloamabomcaa
