/- A thread that came in, opened. No condition. -/
import Derived.Test.YtfijppclaahkmaaFlowWhere
import Derived.Test.YtfijppclaahkmaaA64Open
namespace Go.Proofs.Ytfijppclaahkmaa
open Go.ChangeShapes Go.WideShapes Go.ChangeAt Go.RowKit
set_option linter.unusedVariables false
set_option linter.unusedSimpArgs false
theorem st_cells : Try.prog.cellsOf 27 = 36 := by kernel_rfl
theorem x31_cells : Try.prog.cellsOf 23 = 31 := by kernel_rfl
theorem tu64_cells : Try.prog.cellsOf 22 = 1 := by kernel_rfl
theorem tbool_cells : Try.prog.cellsOf 4 = 1 := by kernel_rfl
theorem span_cells : Try.prog.cellsOf 25 = 2 := by kernel_rfl
def cellN (cl : List Value) (k : Nat) : Nat := match cl[k]? with
  | some (.int _ v) => v.toNat
  | _ => 0
theorem take_one {cl : List Value} {k : Nat} {v : Value} (h : (cl.drop k).take 1 = [v]) : cl[k]? = some v := by
  have := congrArg (fun l => l[0]?) h
  simpa using this
section
variable {H : Type} {enc : TypeId × Value → H} {W : World}
theorem st_open {r : Reach} {b0 : Nat} {v : Value} {d : DataW H} {p : List MemPlace} (hv : Value.okWide Try.prog W r b0 27 v) (h : DataW.Trod enc Try.prog W 0 (fun _ => true) true 27 v d p) :
    ∃ s : St, v = stV s ∧ s.ok := by
  obtain ⟨cs, rfl, _⟩ := okWide_struct Try.underlying27 hv
  obtain ⟨fuel, hf⟩ := h
  obtain ⟨xs, n, rfl, _, hl, hlen, hfs⟩ := DataW.trod_struct Try.underlying27 hf
  rw [st_cells] at hl
  obtain ⟨cl⟩ := cs
  simp [Value.cells] at hl hfs
  match xs, hlen with
  | [y0, y1, y2, y3, y4], _ =>
    have h0 := hfs 0 _ rfl
    have h1 := hfs 1 _ rfl
    have h2 := hfs 2 _ rfl
    have h3 := hfs 3 _ rfl
    have h4 := hfs 4 _ rfl
    simp [tint_cells, x31_cells, tbool_cells, span_cells] at h0 h1 h2 h3 h4
    obtain ⟨k1, e1, _, w1⟩ := DataW.trod_int Try.underlying3 h1
    obtain ⟨k2, e2, _⟩ := DataW.trod_bool Try.underlying4 h2
    obtain ⟨k3, e3, _⟩ := DataW.trod_bool Try.underlying4 h3
    obtain ⟨ys, n2, rfl, _, hl2, hlen2, hfs2⟩ := DataW.trod_array Try.underlying23 h0
    simp only [tu64_cells, Nat.mul_one] at hfs2
    have hx : ∀ k, k < 31 → ∃ m : Nat, cl[k]? = some (.int .u64 (m : Int)) ∧ m < 2 ^ 64 := by
      intro k hk
      have hk2 := hfs2 k hk
      rw [List.getElem?_eq_getElem (by rw [hlen2]; exact hk)] at hk2
      obtain ⟨q, eq, _, wq⟩ := DataW.trod_int Try.underlying22 hk2
      obtain ⟨m, rfl, hm⟩ := nat_u64 wq
      refine ⟨m, ?_, hm⟩
      have := take_one eq
      rw [List.getElem?_take_of_lt hk] at this
      exact this
    obtain ⟨zs, n3, e9, _, hl3, hlen3, hfs3⟩ := DataW.trod_struct Try.underlying25 h4
    match zs, hlen3 with
    | [z0, z1], _ =>
      have g0 := hfs3 0 _ rfl
      have g1 := hfs3 1 _ rfl
      simp [tint_cells] at g0 g1
      obtain ⟨k4, e4, _, w4⟩ := DataW.trod_int Try.underlying3 g0
      obtain ⟨k5, e5, _, w5⟩ := DataW.trod_int Try.underlying3 g1
      have c31 := take_one e1
      have c32 := take_one e2
      have c33 := take_one e3
      have c34 : cl[34]? = some (.int .i64 k4) := by
        have := congrArg (fun l => l[0]?) e4
        simpa using this
      have c35 : cl[35]? = some (.int .i64 k5) := by
        have := congrArg (fun l => l[0]?) e5
        simpa using this
      refine ⟨⟨fun k => if k < 31 then cellN cl k else 0, k1, k2, k3, k4, k5⟩, ?_, fun k => ?_, rng_i64 w1, rng_i64 w4, rng_i64 w5⟩
      · unfold stV
        congr 1
        apply Array.ext_getElem?
        intro k
        rw [stC_get]
        by_cases hk : k < 36
        · rw [if_pos hk]
          have hk5 : k < 31 ∨ k = 31 ∨ k = 32 ∨ k = 33 ∨ k = 34 ∨ k = 35 := by omega
          rcases hk5 with h | rfl | rfl | rfl | rfl | rfl
          · obtain ⟨m, hm, _⟩ := hx k h
            rw [f_x _ h]
            simp only [List.getElem?_toArray, hm, if_pos h]
            unfold cellN
            rw [hm]
            simp
          · rw [f_pc]; simpa using c31
          · rw [f_z]; simpa using c32
          · rw [f_c]; simpa using c33
          · rw [f_wa]; simpa using c34
          · rw [f_wl]; simpa using c35
        · rw [if_neg hk]
          simp
          omega
      · simp only
        by_cases hk : k < 31
        · rw [if_pos hk]
          obtain ⟨m, hm, hb⟩ := hx k hk
          unfold cellN
          rw [hm]
          simpa using hb
        · rw [if_neg hk]
          omega
end
end Go.Proofs.Ytfijppclaahkmaa
