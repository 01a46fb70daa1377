/- Walk: what an instruction makes of a thread. Conditions: numbers fit. -/
import Derived.Test.YtfijppclaahkmaaFlowNextA
namespace Go.Proofs.Ytfijppclaahkmaa
open Go.RowKit Go.Sort
set_option linter.unusedVariables false
set_option linter.unusedSimpArgs false
set_option maxHeartbeats 4000000 in
theorem next_no (s : St) (i : Ins) (hi : i.rng) (g0 g1 : Nat) (fits : Bool) (h : enc i = none) (w : World) : Calls Try.prog 14 #[stV s, insV i, .agg #[.int .u64 (g0 : Nat), .int .u64 (g1 : Nat)], .bool fits] w (Gives w (.tuple #[stV St.zero, .int .i64 2])) := by
  have SO := Lib.hid (fun W => sound_any i hi W)
  rw [h] at SO
  have H0 := Lib.hid (fun c hc => next_start w s i g0 g1 c hc)
  clear h hi
  obtain ⟨op, d, n, m, e, sz, imm⟩ := i
  unfold insV stV at *
  simp only at *
  go_enter Try.func14, Try.ntmps14
  go_upto_region 1 with fail
  refine wp_letter (R := fun W => NextW w W s ⟨op, d, n, m, e, sz, imm⟩ g0 g1) (H0.out _ rfl) ?_
  intro wx hN
  have hI := hN.ins
  unfold IAt at hI
  obtain ⟨i0, i1, i2, i3, i4, i5, i6⟩ := hI
  have HN := Lib.hid hN
  clear hN H0
  go_upto_region 2 with (first
    | (go_at_call 20; refine (SO.out _).mono ?_; rintro e w1 ⟨rfl, p, rfl⟩))
  refine wp_region_lit ?_
  refine wpList_build0 rfl rfl ?_
  go_frame
  refine wpList_store_st (s := St.zero) (b := w.heap.size + 1 + 1 + 1) (.tmp 8) (.tmp 16) rfl rfl ?h1 ?h2 ?h3 ?h4
  case h1 => rfl
  case h3 => exact (HN.out.more p).res
  case h2 =>
    generalize stV St.zero = Z
    rfl
  generalize stV St.zero = Z
  generalize hX : World.setCells (more wx p) (w.heap.size + 1 + 1 + 1) 0 (stL St.zero) = X
  go_wp2_with fail
  subst hX
  refine bodyPost_ret (v := .tuple #[stV St.zero, .int .i64 2]) ?hres rfl ?post
  case hres =>
    refine next_ret (q := 2) (s := St.zero) ?ra ?rb ?rc
    case ra => exact (HN.out.more p).res
    case rb => rfl
    case rc => rfl
  case post => exact Gives.mk rfl (below_setCells (by omega) _ _ _ (HN.out.more p).below)
end Go.Proofs.Ytfijppclaahkmaa
