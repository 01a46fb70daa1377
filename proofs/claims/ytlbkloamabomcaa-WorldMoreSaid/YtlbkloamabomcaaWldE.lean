/- A row of variables that came in is no longer than memory: a row of as many globals fits. No condition. Walk: the fixed fact of the statements of the layer 'world'. No condition. -/
import Derived.Test.YtlbkloamabomcaaKindOpen
import Derived.SizedLaws
import Derived.Test.YtlbkloamabomcaaWldD
import Derived.Test.YtlbkloamabomcaaWldC
namespace Go.Proofs.Ytlbkloamabomcaa
open Go.ChangeShapes Go.WideShapes Go.ChangeAt Go.RowKit
set_option linter.unusedVariables false
theorem var_bytes : Try.prog.bytesOf 73 = 96 := by kernel_rfl
section
variable {H : Type} {enc : TypeId × Value → H} {W : World}
theorem vars_room {ts : List TypeId} {ds : List (DataW H)} {j : Nat} {d : DataW H} {p : List MemPlace} {a : Option Addr} {len c : Nat} (hs : (DataW.weightsEach Try.prog ts ds).all (· ≤ reachBytes) = true) (ht : ts[j]? = some 53) (hd : ds[j]? = some d)
    (h : DataW.Trod enc Try.prog W 0 (fun _ => true) true 53 (.slice a len c) d p) : len * 96 ≤ 140737488351232 := by
  obtain ⟨fuel, hf⟩ := h
  rcases DataW.trod_slice Try.underlying53 hf with ⟨h0, _⟩ | ⟨a', len', cap, elems, rest, n, h1, h2, h3, hb, hl, hm, hlen, hel, _, _⟩
  · simp [Value.cells] at h0
    omega
  · simp [Value.cells] at h2
    obtain ⟨_, rfl, _⟩ := h2
    have hx := congrArg Prod.fst h3
    simp only at hx
    rw [hx] at hd
    have := sized_slice hs ht hd Try.underlying53
    rw [var_bytes] at this
    simp only [List.length_map] at this
    unfold reachBytes at this
    omega
end
end Go.Proofs.Ytlbkloamabomcaa
namespace Go.Proofs.Ytlbkloamabomcaa
open Go.RowKit Go.Sort
set_option linter.unusedVariables false
set_option linter.unusedSimpArgs false
def wT1 : Ty 2 := (⟨1, 1, false, [], 0, []⟩ : TyF (Ty 1))
def wT2 : Ty 2 := (⟨5, 0, false, [], 3, [(⟨2, 8, false, [], 0, []⟩ : TyF (Ty 0))]⟩ : TyF (Ty 1))
def wL : List (Vr 2) := [⟨⟨#[97]⟩, wT1⟩, ⟨⟨#[98]⟩, wT2⟩]
theorem wa1 : worldE wL = 0 := by kernel_rfl
theorem wa2 : atK wL 2 = 32 := by kernel_rfl
theorem wa3 : glK wL 2 = [⟨⟨#[97]⟩, 65536, 1⟩, ⟨⟨#[98]⟩, 65544, 24⟩] := by kernel_rfl
theorem wa4 : findE wL ⟨#[98]⟩ [⟨⟨#[]⟩, 1⟩] [2] = (0, ⟨65560, 8, 2, false, 0, 0⟩) := by kernel_rfl
theorem wa5 : wlE wL = 0 := by kernel_rfl
theorem wa6 : (wlR wL).length = 4 := by kernel_rfl
def VrN (w : World) (b off : Nat) (nm : ByteArray) (k sz : Int) (cn : Int) (ea : Option Addr) (el ec : Nat) : Prop :=
  w.cell? ⟨b, off, none⟩ = some (.string nm) ∧ w.cell? ⟨b, off + 1, none⟩ = some (.int .i64 k) ∧ w.cell? ⟨b, off + 2, none⟩ = some (.int .i64 sz) ∧
    w.cell? ⟨b, off + 3, none⟩ = some (.bool false) ∧ w.cell? ⟨b, off + 4, none⟩ = some (.slice none 0 0) ∧ w.cell? ⟨b, off + 5, none⟩ = some (.int .i64 cn) ∧
    w.cell? ⟨b, off + 6, none⟩ = some (.slice ea el ec)
def TyN (w : World) (b : Nat) (k sz : Int) : Prop :=
  w.cell? ⟨b, 0, none⟩ = some (.int .i64 k) ∧ w.cell? ⟨b, 1, none⟩ = some (.int .i64 sz) ∧ w.cell? ⟨b, 2, none⟩ = some (.bool false) ∧ w.cell? ⟨b, 3, none⟩ = some (.slice none 0 0) ∧ w.cell? ⟨b, 4, none⟩ = some (.int .i64 0) ∧ w.cell? ⟨b, 5, none⟩ = some (.slice none 0 0)
theorem tNum_at (w : World) (n : Nat) (k sz : Int) (hk : rng k) (h : rng sz) : TyAt w (n + 1) (⟨k, sz, false, [], 0, []⟩ : TyF (Ty n)) ⟨k, sz, false, none, 0, 0, 0, none, 0, 0⟩ :=
  ⟨rfl, rfl, rfl, rfl, rfl, rfl, hk, h, (by decide : -9223372036854775808 ≤ (0 : Int) ∧ (0 : Int) ≤ 9223372036854775807), ⟨by simp, by simp, fun h => by simp at h⟩, ⟨by simp, by simp, fun h => by simp at h⟩⟩
theorem tArr_at {w : World} {b : Nat} (c k sz : Int) (hc : rng c) (hk : rng k) (hs : rng sz) (h : TyN w b k sz) : TyAt w 2 (⟨5, 0, false, [], c, [(⟨k, sz, false, [], 0, []⟩ : TyF (Ty 0))]⟩ : TyF (Ty 1)) ⟨5, 0, false, none, 0, 0, c, some ⟨b, 0, none⟩, 1, 1⟩ :=
  ⟨rfl, rfl, rfl, rfl, rfl, rfl, (by decide : -9223372036854775808 ≤ (5 : Int) ∧ (5 : Int) ≤ 9223372036854775807), (by decide : -9223372036854775808 ≤ (0 : Int) ∧ (0 : Int) ≤ 9223372036854775807), hc, ⟨by simp, by simp, fun h => by simp at h⟩, ⟨by simp, by simp, fun _ => ⟨b, 0, rfl, cell_lt2 h.1, fun i e hi => by
    match i, hi with
    | 0, hi =>
      cases hi
      obtain ⟨c0, c1, c2, c3, c4, c5⟩ := h
      exact ⟨⟨k, sz, false, none, 0, 0, 0, none, 0, 0⟩, tNum_at w 0 k sz hk hs, c0, c1, c2, c3, c4, c5⟩
    | i + 1, hi => exact absurd (show (none : Option (Ty 1)) = some e from hi) (by simp)⟩⟩⟩
theorem wL_at {w : World} {b b2 : Nat} (h0 : VrN w b 0 ⟨#[97]⟩ 1 1 0 none 0 0) (h1 : VrN w b 7 ⟨#[98]⟩ 5 0 3 (some ⟨b2, 0, none⟩) 1 1) (h2 : TyN w b2 2 8) : VrsAt w wL (some ⟨b, 0, none⟩) 2 :=
  ⟨by simp [wL], by simp, fun _ => ⟨b, 0, rfl, cell_lt2 h0.1, fun i v hi => by
    match i, hi with
    | 0, hi =>
      cases hi
      obtain ⟨c0, c1, c2, c3, c4, c5, c6⟩ := h0
      exact ⟨⟨1, 1, false, none, 0, 0, 0, none, 0, 0⟩, tNum_at w 1 1 1 (by unfold rng; decide) (by unfold rng; decide), by decide, c0, c1, c2, c3, c4, c5, c6⟩
    | 1, hi =>
      cases hi
      obtain ⟨c0, c1, c2, c3, c4, c5, c6⟩ := h1
      exact ⟨⟨5, 0, false, none, 0, 0, 3, some ⟨b2, 0, none⟩, 1, 1⟩, tArr_at 3 2 8 (by unfold rng; decide) (by unfold rng; decide) (by unfold rng; decide) h2, by decide, c0, c1, c2, c3, c4, c5, c6⟩
    | i + 2, hi => simp [wL] at hi⟩⟩
theorem pts_one {w : World} {Q : Nat} {ia : Option Addr} (h0 : w.cell? ⟨Q, 0, none⟩ = some (.string ⟨#[]⟩)) (h1 : w.cell? ⟨Q, 1, none⟩ = some (.slice ia 1 1)) : PtsAt w [⟨⟨#[]⟩, 1⟩] (some ⟨Q, 0, none⟩) 1 :=
  ⟨by simp, by simp, fun _ => ⟨Q, 0, rfl, cell_lt2 h0, fun i p hi => by
    match i, hi with
    | 0, hi =>
      cases hi
      exact ⟨by decide, h0, ia, 1, h1, by simp, by simp⟩
    | i + 1, hi => simp at hi⟩⟩
theorem ix_one {w : World} {Y x : Nat} (hx : x < 18446744073709551616) (h0 : w.cell? ⟨Y, 0, none⟩ = some (.int .u64 x)) : IxAt w [x] (some ⟨Y, 0, none⟩) 1 :=
  ⟨by simp, by simp, fun _ => ⟨Y, 0, rfl, cell_lt2 h0, fun i p hi => by
    match i, hi with
    | 0, hi =>
      cases hi
      exact ⟨hx, h0⟩
    | i + 1, hi => simp at hi⟩⟩
set_option maxRecDepth 100000 in
set_option maxHeartbeats 3200000 in
theorem awakeW_any (w : World) : Calls Try.prog 23 #[] w (Gives w (.bool true)) := by
  have HQ := eql_spn
  go_enter Try.func23, Try.ntmps23
  go_upto_region 2 with fail
  refine wp_letter (R := fun W => VrsAt W wL (some ⟨w.heap.size + 1, 0, none⟩) 2 ∧ Below w.heap.size w W) ?letA ?_
  case letA =>
    refine ⟨wL_at (b2 := w.heap.size) ?_ ?_ ?_, ?_⟩
    · unfold VrN; simp [go_sem, ↓IntWalk.iteOmega]
    · unfold VrN; simp [go_sem, ↓IntWalk.iteOmega]
    · unfold TyN; simp [go_sem, ↓IntWalk.iteOmega]
    · repeat (first | with_reducible exact Below.refl _ _ | with_reducible refine below_mo ?_ _ | with_reducible refine below_al ?_ _)
  rintro wA ⟨hV, hB⟩
  have HB := Lib.hid hB
  generalize w.heap.size + 1 = V at *
  have LM : Hid (∀ W, Below wA.heap.size wA W → Calls Try.prog 21 #[.slice (some ⟨V, 0, none⟩) 2 2] W fun e w' => ∃ S c, e = .returned (.tuple #[.slice (some ⟨S, 0, none⟩) 2 c, .int .i64 32, .int .i64 0]) ∧ 2 ≤ c ∧ c ≤ 9223372036854775807 ∧ w'.cell? ⟨S, 4, none⟩ = some (.int .i64 65544) ∧ Below W.heap.size W w') := Lib.hid (fun W hW => (map_yes wL (some ⟨V, 0, none⟩) 2 wA W hV (by decide) wa1 hW).mono (by
    rintro e w1 ⟨ad, c, rfl, h, p, rfl⟩
    obtain ⟨S, rfl, h1, h2, h3, h4, h5⟩ := h (by decide)
    rw [show wL.length = 2 from rfl, wa3] at h5
    exact ⟨S, c, rfl, h1, by unfold maxLen at h2; omega, (h5 1 _ rfl).2.1, more_below _ _⟩))
  have LF : Hid (∀ W, Below wA.heap.size wA W → ∀ (Q : Nat) (qi : Option Addr) (Y : Nat), W.cell? ⟨Q, 0, none⟩ = some (.string ⟨#[]⟩) → W.cell? ⟨Q, 1, none⟩ = some (.slice qi 1 1) → W.cell? ⟨Y, 0, none⟩ = some (.int .u64 2) → Calls Try.prog 24 #[.slice (some ⟨V, 0, none⟩) 2 2, .agg #[.string ⟨#[98]⟩, .slice (some ⟨Q, 0, none⟩) 1 1], .slice (some ⟨Y, 0, none⟩) 1 1] W (Gives W (.tuple #[.agg #[.int .i64 65560, .int .i64 8, .int .i64 2, .bool false, .int .i64 0, .int .i64 0], .int .i64 0]))) := Lib.hid (fun W hW Q qi Y h0 h1 h2 => by
    have := Find_any wL (some ⟨V, 0, none⟩) 2 W (hV.below hW) (by decide) ⟨#[98]⟩ [⟨⟨#[]⟩, 1⟩] (some ⟨Q, 0, none⟩) 1 (pts_one h0 h1) [2] (some ⟨Y, 0, none⟩) 1 (ix_one (by decide) h2)
    rw [wa4] at this
    exact this)
  have LL : Hid (∀ W, Below wA.heap.size wA W → Calls Try.prog 28 #[.slice (some ⟨V, 0, none⟩) 2 2] W fun e w' => ∃ ad c, e = .returned (.tuple #[.slice ad 4 c, .int .i64 0]) ∧ ∃ p : Regrown, w' = more W p) := Lib.hid (fun W hW => (wLoc_any wL (some ⟨V, 0, none⟩) 2 W (hV.below hW) (by decide)).mono (by
    rintro e w1 ⟨⟨ad, c, rfl, _⟩, p, rfl⟩
    rw [wa5, wa6]
    exact ⟨ad, c, rfl, p, rfl⟩))
  clear hV hB
  go_upto_region 3 with (go_at_call 21; refine (LM.out _ (Below.refl _ _)).mono ?_; rintro e w1 ⟨S, c1, rfl, k1, k2, k3, b1⟩; have B1 := Lib.hid b1; clear b1)
  have hlS := cell_lt2 k3
  go_wp2_with (first
    | (go_at_call 24; refine (LF.out _ (by repeat (first | with_reducible exact B1.out | with_reducible refine below_al ?_ _)) _ (some ⟨w1.heap.size, 0, none⟩) _ (by simp [go_sem, ↓IntWalk.iteOmega]) (by simp [go_sem, ↓IntWalk.iteOmega]) (by simp [go_sem, ↓IntWalk.iteOmega])).mono ?_; rintro e w2 ⟨rfl, p2, rfl⟩)
    | (go_at_call 28; refine (LL.out _ (by repeat (first | with_reducible exact B1.out | with_reducible refine below_al ?_ _ | with_reducible refine below_mo ?_ _))).mono ?_; rintro e w3 ⟨ad3, c3, rfl, p3, rfl⟩))
  go_ret
  exact ⟨by simp, more_of_below (by repeat (first | with_reducible exact below_next HB.out B1.out | with_reducible refine below_al ?_ _ | with_reducible refine below_mo ?_ _))⟩
theorem gives_both {w : World} {v : Value} (e : Ending) (w' : World) (h : Gives w v e w') : e = .returned v ∧ Below w.heap.size w w' := ⟨h.1, h.below⟩
end Go.Proofs.Ytlbkloamabomcaa
