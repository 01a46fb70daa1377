/- Two numbers side by side are compared. No condition. A whole thread is equal to itself. No condition. -/
import Derived.Test.YtfijppclaahkmaaFlowRow
namespace Go.Proofs.Ytfijppclaahkmaa
open Go.RowKit Go.Sort
set_option linter.unusedVariables false
set_option linter.unusedSimpArgs false
theorem cells_u64 : Try.prog.cellsOf 22 = 1 := by kernel_rfl
@[go_sem] theorem eq_two (w : World) (a b c e : Int) : (Op.equalIn 9999 30 (.agg #[.int .u64 a, .int .u64 b]) (.agg #[.int .u64 c, .int .u64 e])).run Try.prog w = .ok (a == c && b == e) w := by
  obtain ⟨i, hi⟩ : ∃ i, Try.prog.info? 22 = some i := Option.isSome_iff_exists.1 (by kernel_rfl)
  have h := run_equalIn_array (P := Try.prog) w 9998 #[.int .u64 a, .int .u64 b] #[.int .u64 c, .int .u64 e] Try.underlying30 hi
  rw [show (9999 : Nat) = 9998 + 1 from rfl, h, cells_u64]
  have hs : i.size = 1 := by
    have h2 : (Try.prog.info? 22).map (·.size) = some 1 := by kernel_rfl
    rw [hi] at h2
    simpa using h2
  have hag : (isAgg 22).run Try.prog w = .ok false w := by kernel_rfl
  simp only [List.range_succ, List.range_zero, List.nil_append, List.cons_append]
  simp [Op.eqItems, part, hag, go_sem, run_equalIn_int, Try.underlying22]
  by_cases h1 : a = c <;> by_cases h2 : b = e <;> simp [h1, h2]
end Go.Proofs.Ytfijppclaahkmaa
namespace Go.Proofs.Ytfijppclaahkmaa
open Go.RowKit Go.Sort
set_option linter.unusedVariables false
set_option linter.unusedSimpArgs false
theorem stC_lit (s : St) : stC s.f = #[.int .u64 (s.x 0), .int .u64 (s.x 1), .int .u64 (s.x 2), .int .u64 (s.x 3), .int .u64 (s.x 4), .int .u64 (s.x 5), .int .u64 (s.x 6), .int .u64 (s.x 7), .int .u64 (s.x 8), .int .u64 (s.x 9), .int .u64 (s.x 10), .int .u64 (s.x 11), .int .u64 (s.x 12), .int .u64 (s.x 13), .int .u64 (s.x 14), .int .u64 (s.x 15), .int .u64 (s.x 16), .int .u64 (s.x 17), .int .u64 (s.x 18), .int .u64 (s.x 19), .int .u64 (s.x 20), .int .u64 (s.x 21), .int .u64 (s.x 22), .int .u64 (s.x 23), .int .u64 (s.x 24), .int .u64 (s.x 25), .int .u64 (s.x 26), .int .u64 (s.x 27), .int .u64 (s.x 28), .int .u64 (s.x 29), .int .u64 (s.x 30), .int .i64 s.pc, .bool s.z, .bool s.c, .int .i64 s.wa, .int .i64 s.wl] := by kernel_rfl
theorem items_same (w : World) (d : Nat) (xs : Array Value) : ∀ is : List Nat, (∀ i, i ∈ is → ∃ v, xs[i]? = some (.int .u64 v)) → (Op.eqItems (d + 1) 22 1 xs xs is).run Try.prog w = .ok true w
  | [], _ => rfl
  | i :: is, h => by
    obtain ⟨v, hv⟩ := h i (by simp)
    have hag : (isAgg 22).run Try.prog w = .ok false w := by kernel_rfl
    have ih := items_same w d xs is (fun j hj => h j (by simp [hj]))
    have hp : (part 22 xs (i * 1)).run Try.prog w = .ok (.int .u64 v) w := by
      simp [part, hag, go_sem, hv]
    have he : (Op.equalIn (d + 1) 22 (.int .u64 v) (.int .u64 v)).run Try.prog w = .ok true w := by
      rw [run_equalIn_int w d 22 .u64 .u64 v v Try.underlying22]
      simp
    simp only [Op.eqItems, Sem.run_bind, hp, he, Result.andThen_ok, ih, Bool.not_true, Bool.false_eq_true, if_false]
theorem eq_x31 (w : World) (s : St) : (Op.equalIn 9999 23 (.agg #[.int .u64 (s.x 0), .int .u64 (s.x 1), .int .u64 (s.x 2), .int .u64 (s.x 3), .int .u64 (s.x 4), .int .u64 (s.x 5), .int .u64 (s.x 6), .int .u64 (s.x 7), .int .u64 (s.x 8), .int .u64 (s.x 9), .int .u64 (s.x 10), .int .u64 (s.x 11), .int .u64 (s.x 12), .int .u64 (s.x 13), .int .u64 (s.x 14), .int .u64 (s.x 15), .int .u64 (s.x 16), .int .u64 (s.x 17), .int .u64 (s.x 18), .int .u64 (s.x 19), .int .u64 (s.x 20), .int .u64 (s.x 21), .int .u64 (s.x 22), .int .u64 (s.x 23), .int .u64 (s.x 24), .int .u64 (s.x 25), .int .u64 (s.x 26), .int .u64 (s.x 27), .int .u64 (s.x 28), .int .u64 (s.x 29), .int .u64 (s.x 30)]) (.agg #[.int .u64 (s.x 0), .int .u64 (s.x 1), .int .u64 (s.x 2), .int .u64 (s.x 3), .int .u64 (s.x 4), .int .u64 (s.x 5), .int .u64 (s.x 6), .int .u64 (s.x 7), .int .u64 (s.x 8), .int .u64 (s.x 9), .int .u64 (s.x 10), .int .u64 (s.x 11), .int .u64 (s.x 12), .int .u64 (s.x 13), .int .u64 (s.x 14), .int .u64 (s.x 15), .int .u64 (s.x 16), .int .u64 (s.x 17), .int .u64 (s.x 18), .int .u64 (s.x 19), .int .u64 (s.x 20), .int .u64 (s.x 21), .int .u64 (s.x 22), .int .u64 (s.x 23), .int .u64 (s.x 24), .int .u64 (s.x 25), .int .u64 (s.x 26), .int .u64 (s.x 27), .int .u64 (s.x 28), .int .u64 (s.x 29), .int .u64 (s.x 30)])).run Try.prog w = .ok true w := by
  obtain ⟨i, hi⟩ : ∃ i, Try.prog.info? 22 = some i := Option.isSome_iff_exists.1 (by kernel_rfl)
  have h := run_equalIn_array (P := Try.prog) w 9998 #[.int .u64 (s.x 0), .int .u64 (s.x 1), .int .u64 (s.x 2), .int .u64 (s.x 3), .int .u64 (s.x 4), .int .u64 (s.x 5), .int .u64 (s.x 6), .int .u64 (s.x 7), .int .u64 (s.x 8), .int .u64 (s.x 9), .int .u64 (s.x 10), .int .u64 (s.x 11), .int .u64 (s.x 12), .int .u64 (s.x 13), .int .u64 (s.x 14), .int .u64 (s.x 15), .int .u64 (s.x 16), .int .u64 (s.x 17), .int .u64 (s.x 18), .int .u64 (s.x 19), .int .u64 (s.x 20), .int .u64 (s.x 21), .int .u64 (s.x 22), .int .u64 (s.x 23), .int .u64 (s.x 24), .int .u64 (s.x 25), .int .u64 (s.x 26), .int .u64 (s.x 27), .int .u64 (s.x 28), .int .u64 (s.x 29), .int .u64 (s.x 30)] #[.int .u64 (s.x 0), .int .u64 (s.x 1), .int .u64 (s.x 2), .int .u64 (s.x 3), .int .u64 (s.x 4), .int .u64 (s.x 5), .int .u64 (s.x 6), .int .u64 (s.x 7), .int .u64 (s.x 8), .int .u64 (s.x 9), .int .u64 (s.x 10), .int .u64 (s.x 11), .int .u64 (s.x 12), .int .u64 (s.x 13), .int .u64 (s.x 14), .int .u64 (s.x 15), .int .u64 (s.x 16), .int .u64 (s.x 17), .int .u64 (s.x 18), .int .u64 (s.x 19), .int .u64 (s.x 20), .int .u64 (s.x 21), .int .u64 (s.x 22), .int .u64 (s.x 23), .int .u64 (s.x 24), .int .u64 (s.x 25), .int .u64 (s.x 26), .int .u64 (s.x 27), .int .u64 (s.x 28), .int .u64 (s.x 29), .int .u64 (s.x 30)] Try.underlying23 hi
  rw [show (9999 : Nat) = 9998 + 1 from rfl, h, cells_u64]
  refine items_same w 9997 _ _ fun i hi => ?_
  have hi31 : i < 31 := List.mem_range.1 hi
  refine ⟨(s.x i : Nat), ?_⟩
  have hc := stC_get s.f i
  rw [if_pos (by omega), f_x s hi31, stC_lit] at hc
  rw [← hc]
  clear hi hc
  revert hi31
  match i with
  | 0 => intro _; rfl
  | 1 => intro _; rfl
  | 2 => intro _; rfl
  | 3 => intro _; rfl
  | 4 => intro _; rfl
  | 5 => intro _; rfl
  | 6 => intro _; rfl
  | 7 => intro _; rfl
  | 8 => intro _; rfl
  | 9 => intro _; rfl
  | 10 => intro _; rfl
  | 11 => intro _; rfl
  | 12 => intro _; rfl
  | 13 => intro _; rfl
  | 14 => intro _; rfl
  | 15 => intro _; rfl
  | 16 => intro _; rfl
  | 17 => intro _; rfl
  | 18 => intro _; rfl
  | 19 => intro _; rfl
  | 20 => intro _; rfl
  | 21 => intro _; rfl
  | 22 => intro _; rfl
  | 23 => intro _; rfl
  | 24 => intro _; rfl
  | 25 => intro _; rfl
  | 26 => intro _; rfl
  | 27 => intro _; rfl
  | 28 => intro _; rfl
  | 29 => intro _; rfl
  | 30 => intro _; rfl
  | n + 31 => intro h; omega
set_option maxHeartbeats 4000000 in
theorem eql_st (w : World) (s : St) : (binOp .eql 27 (stV s) (stV s)).run Try.prog w = .ok (.bool true) w := by
  have h31 := eq_x31 w s
  unfold stV
  rw [stC_lit]
  simp [go_sem, Op.eqFields, part]
  rw [h31]
  rfl
end Go.Proofs.Ytfijppclaahkmaa
