/- Walks: up to a multiple; how a field has to lie: the program's up and wide. Conditions: numbers fit. -/
import Derived.Test.YtlbkloamabomcaaLayMath
namespace Go.Proofs.Ytlbkloamabomcaa
open Go.RowKit Go.Sort
set_option linter.unusedVariables false
set_option linter.unusedSimpArgs false
theorem tdiv_eq {a b : Int} (h : 0 ≤ a) : Int.tdiv a b = a / b := Int.tdiv_eq_ediv_of_nonneg h
theorem up_any (n s : Int) (h0 : 0 ≤ n) (h1 : n ≤ 1000000000000) (s0 : 1 ≤ s) (s1 : s ≤ 1000000) (w : World) :
    Calls Try.prog 48 #[.int .i64 n, .int .i64 s] w fun e w' => e = .returned (.int .i64 (upF n s)) ∧ w = w' := by
  have hu := upF_ge (n := n) (s := s) (by omega)
  have hq : Hid ((n + s - 1) / s * s = upF n s) := Lib.hid rfl
  have hq0 : 0 ≤ (n + s - 1) / s := Int.ediv_nonneg (by omega) (by omega)
  have hq1 : (n + s - 1) / s ≤ n + s - 1 := Int.ediv_le_self _ (by omega)
  have ht : Int.tdiv (n + s - 1) s = (n + s - 1) / s := tdiv_eq (by omega)
  have hs : (s == 0) = false := by simp; omega
  go_enter Try.func48, Try.ntmps48
  go_wp2
  go_ret
  exact ⟨ret_int (by rw [hq.out]; exact IntWalk.wrap64_in _ (by omega)), rfl⟩
/-- a field's nine cells. -/
def fdV {α : Type} (f : FdF α) (q : Raw) : Value := .agg #[.string f.name, .int .i64 q.kind, .int .i64 q.size, .bool q.packed, .slice q.fa q.fl q.fc, .int .i64 q.count, .slice q.ea q.el q.ec, .bool f.isBits, .int .i64 f.width]
set_option maxHeartbeats 1000000 in
theorem wide_any {α : Type} (f : FdF α) (r q : Raw) (g : Int × Int) (w : World) :
    Calls Try.prog 46 #[r.val, fdV f q, .int .i64 g.2] w (Gives w (.int .i64 (wideF r.packed f q.size g))) := by
  have hV : Hid (∃ V, V = wideF r.packed f q.size g ∧ (r.packed = true → V = 1) ∧ (r.packed = false → f.isBits = true → f.width = 0 → V = 1) ∧ (r.packed = false → f.isBits = true → ¬ f.width = 0 → V = q.size) ∧ (r.packed = false → f.isBits = false → V = g.2)) := Lib.hid ⟨_, rfl, by
    intro h; simp [wideF, h], by intro h h1 h2; simp [wideF, h1, h2], by intro h h1 h2; simp [wideF, h, h1, h2], by intro h h1; simp [wideF, h, h1]⟩
  obtain ⟨V, hV, v1, v2, v3, v4⟩ := hV.out
  rw [← hV]
  clear hV
  obtain ⟨nm, ty, bt, wd⟩ := f
  obtain ⟨g1, g2⟩ := g
  obtain ⟨qk, qs, qp, qfa, qfl, qfc, qc, qea, qel, qec⟩ := q
  obtain ⟨rk, rs, rp, fa, fl, fc, rc, ea, el, ec⟩ := r
  unfold fdV Raw.val
  simp only at *
  cases rp
  · cases bt
    · have HV := Lib.hid (v4 rfl rfl)
      clear v1 v2 v3 v4
      go_enter Try.func46, Try.ntmps46
      go_wp2
      go_ret
      exact Gives.mk (ret_int (by rw [HV.out])) (by repeat (first | exact Below.refl _ _ | refine below_mo ?_ _ | refine below_al ?_ _))
    · by_cases hw : wd = 0
      · have HV := Lib.hid (v2 rfl rfl hw)
        clear v1 v2 v3 v4
        subst hw
        go_enter Try.func46, Try.ntmps46
        go_wp2
        go_ret
        exact Gives.mk (ret_int (by rw [HV.out])) (by repeat (first | exact Below.refl _ _ | refine below_mo ?_ _ | refine below_al ?_ _))
      · have HV := Lib.hid (v3 rfl rfl hw)
        clear v1 v2 v3 v4
        go_enter Try.func46, Try.ntmps46
        go_wp2
        go_ret
        exact Gives.mk (ret_int (by rw [HV.out])) (by repeat (first | exact Below.refl _ _ | refine below_mo ?_ _ | refine below_al ?_ _))
  · have HV := Lib.hid (v1 rfl)
    clear v1 v2 v3 v4
    go_enter Try.func46, Try.ntmps46
    go_wp2
    go_ret
    exact Gives.mk (ret_int (by rw [HV.out])) (by repeat (first | exact Below.refl _ _ | refine below_mo ?_ _ | refine below_al ?_ _))
end Go.Proofs.Ytlbkloamabomcaa
