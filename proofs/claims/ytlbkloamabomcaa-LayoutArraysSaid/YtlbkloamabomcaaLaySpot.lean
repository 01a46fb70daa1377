/- Walk: where a field lies, by the document's Spot. Conditions: the type and the rows lie in memory. -/
import Derived.Test.YtlbkloamabomcaaLayRefAny
namespace Go.Proofs.Ytlbkloamabomcaa
open Go.RowKit Go.Sort
set_option linter.unusedVariables false
set_option linter.unusedSimpArgs false
/-- a spot, out of where it begins and how many bits it has. -/
def spotOf (bt : Bool) (kd x y : Int) : Sp := if bt = true then bitSp x y else ⟨x / 8, y / 8, kd, false, 0, 0⟩
theorem spotF_of {α : Type} (pk uni : Bool) (f : FdF α) (ts kd : Int) (g : Int × Int) (p : Pl) : spotF pk uni f ts kd g p = spotOf f.isBits kd (begF pk uni f ts g p) (numF f g) := by
  unfold spotF spotOf numF
  cases hb : f.isBits
  · simp
    try omega
  · simp
    try rfl
theorem range6 {w : World} {b : Nat} {v0 v1 v2 v3 v4 v5 : Value} (h0 : w.cell? ⟨b, 0, none⟩ = some v0) (h1 : w.cell? ⟨b, 1, none⟩ = some v1) (h2 : w.cell? ⟨b, 2, none⟩ = some v2) (h3 : w.cell? ⟨b, 3, none⟩ = some v3) (h4 : w.cell? ⟨b, 4, none⟩ = some v4) (h5 : w.cell? ⟨b, 5, none⟩ = some v5) : w.rangeAt b 0 [v0, v1, v2, v3, v4, v5] := fun j v hv => by
  match j with
  | 0 => cases hv; exact h0
  | 1 => cases hv; exact h1
  | 2 => cases hv; exact h2
  | 3 => cases hv; exact h3
  | 4 => cases hv; exact h4
  | 5 => cases hv; exact h5
  | n + 6 => simp at hv
set_option maxRecDepth 100000 in
set_option maxHeartbeats 3200000 in
theorem spot_any (n : Nat) (t : TyF (Ty n)) (r : Raw) (w : World) (hT : TyAt w (n + 1) t r) (i : Nat) (f : FdF (Ty n)) (hi : t.fields[i]? = some f) (s a : Int) (g2 g3 N k2 k3 : Nat) (L : Bool) (x y : Int) (hx0 : 0 ≤ x) (hx1 : x ≤ 100000000) (hy0 : 0 ≤ y) (hy1 : y ≤ 100000000) (hN : i < N) (hk2 : N ≤ k2) (hk3 : N ≤ k3)
    (h2 : w.cell? ⟨g2, i, none⟩ = some (.int .i64 x)) (h3 : w.cell? ⟨g3, i, none⟩ = some (.int .i64 y)) :
    Calls Try.prog 18 #[r.val, .agg #[.int .i64 s, .int .i64 a, .slice (some ⟨g2, 0, none⟩) N k2, .slice (some ⟨g3, 0, none⟩) N k3, .bool L], .int .i64 i] w (Gives w (.agg (spotOf f.isBits (tkind n f.type) x y).cs.toArray)) := by
  obtain ⟨e1, e2, e3, e4, e5, e6, e7, e8, e9, hf, he⟩ := hT
  obtain ⟨rk, rs, rp, fa, fl, fc, rc, ea, el, ec⟩ := r
  simp only at e4 hf
  have hil : i < fl := by rw [e4]; exact (List.getElem?_eq_some_iff.1 hi).1
  obtain ⟨b, off, rfl, hb, hc⟩ := hf.2.2 (by omega)
  obtain ⟨q, hq, g1, gg2, c0, c1, c2, c3, c4, c5, c6, c7, c8⟩ := hc i f hi
  have hqk := (tyAt_parts hq).1
  have hfc := hf.1
  have hfm := hf.2.1
  have hl2 := cell_lt2 h2
  have hl3 := cell_lt2 h3
  rw [← hqk]
  clear hf hc hq e1 e2 e3 e4 e5 e6 e7 e8 e9 he hqk hi
  have hi0 : (0 : Int) ≤ (i : Int) := Int.natCast_nonneg _
  have hiN : (i : Int) < (N : Int) := by omega
  have hifl : (i : Int) < (fl : Int) := by omega
  obtain ⟨qk, qs, qp, qfa, qfl, qfc, qc, qea, qel, qec⟩ := q
  obtain ⟨nm, ty, bt, wd⟩ := f
  unfold Raw.val
  simp only at *
  have ht1 : Int.tdiv x 8 = x / 8 := tdiv_eq hx0
  have ht2 : Int.tdiv y 8 = y / 8 := tdiv_eq hy0
  have ht3 : Int.tmod x 8 = x % 8 := Int.tmod_eq_emod_of_nonneg hx0
  cases bt with
  | false =>
    have hR : Hid ((spotOf false qk x y).cs = [.int .i64 (x / 8), .int .i64 (y / 8), .int .i64 qk, .bool false, .int .i64 0, .int .i64 0]) := Lib.hid rfl
    go_enter Try.func18, Try.ntmps18
    go_wp2_with fail
    go_quiet (fail)
    go_wp2_with fail
    refine bodyPost_ret (v := .agg (spotOf false qk x y).cs.toArray) ?hresA rfl ?postA
    case hresA =>
      rw [hR.out]
      refine ret_c (cs := [.int .i64 (x / 8), .int .i64 (y / 8), .int .i64 qk, .bool false, .int .i64 0, .int .i64 0]) (c := 6) rfl rfl Try.underlying42 rfl (by kernel_rfl) (range6 ?_ ?_ ?_ ?_ ?_ ?_)
      all_goals simp [go_sem, ↓IntWalk.iteOmega, cell_upd2]
    case postA => exact Gives.mk rfl (by repeat (first | with_reducible exact Below.refl _ _ | with_reducible refine below_mo ?_ _ | with_reducible refine below_al ?_ _ | with_reducible refine below_dr ?_ | with_reducible refine below_dn ?_ _ | with_reducible refine below_st ?_ (by simp <;> omega) _))
  | true =>
    have hyc : y = 0 ∨ 0 < y := by omega
    rcases hyc with rfl | hy
    · have hR : Hid ((spotOf true qk x 0).cs = [.int .i64 (x / 8), .int .i64 0, .int .i64 1, .bool true, .int .i64 (x % 8), .int .i64 0]) := Lib.hid rfl
      go_enter Try.func18, Try.ntmps18
      go_wp2_with fail
      go_quiet (fail)
      go_wp2_with fail
      refine bodyPost_ret (v := .agg (spotOf true qk x 0).cs.toArray) ?hresB rfl ?postB
      case hresB =>
        rw [hR.out]
        refine ret_c (cs := [.int .i64 (x / 8), .int .i64 0, .int .i64 1, .bool true, .int .i64 (x % 8), .int .i64 0]) (c := 6) rfl rfl Try.underlying42 rfl (by kernel_rfl) (range6 ?_ ?_ ?_ ?_ ?_ ?_)
        all_goals simp [go_sem, ↓IntWalk.iteOmega, cell_upd2]
      case postB => exact Gives.mk rfl (by repeat (first | with_reducible exact Below.refl _ _ | with_reducible refine below_mo ?_ _ | with_reducible refine below_al ?_ _ | with_reducible refine below_dr ?_ | with_reducible refine below_dn ?_ _ | with_reducible refine below_st ?_ (by simp <;> omega) _))
    · have hR : Hid ((spotOf true qk x y).cs = [.int .i64 (x / 8), .int .i64 ((x + y - 1) / 8 - x / 8 + 1), .int .i64 1, .bool true, .int .i64 (x % 8), .int .i64 y]) := Lib.hid (by
        unfold spotOf bitSp Sp.cs
        rw [if_pos rfl, if_neg (by omega)])
      have ht4 : Int.tdiv (x + y - 1) 8 = (x + y - 1) / 8 := tdiv_eq (by omega)
      go_enter Try.func18, Try.ntmps18
      go_wp2_with fail
      go_quiet (fail)
      go_wp2_with fail
      refine bodyPost_ret (v := .agg (spotOf true qk x y).cs.toArray) ?hresC rfl ?postC
      case hresC =>
        rw [hR.out]
        refine ret_c (cs := [.int .i64 (x / 8), .int .i64 ((x + y - 1) / 8 - x / 8 + 1), .int .i64 1, .bool true, .int .i64 (x % 8), .int .i64 y]) (c := 6) rfl rfl Try.underlying42 rfl (by kernel_rfl) (range6 ?_ ?_ ?_ ?_ ?_ ?_)
        all_goals simp [go_sem, ↓IntWalk.iteOmega, cell_upd2]
      case postC => exact Gives.mk rfl (by repeat (first | with_reducible exact Below.refl _ _ | with_reducible refine below_mo ?_ _ | with_reducible refine below_al ?_ _ | with_reducible refine below_dr ?_ | with_reducible refine below_dn ?_ _ | with_reducible refine below_st ?_ (by simp <;> omega) _))
end Go.Proofs.Ytlbkloamabomcaa
