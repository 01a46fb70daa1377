/- Walk: a register has something (the statement's own function). Condition: numbers fit. -/
import Derived.Test.YtfijppclaahkmaaFlowNum
import Derived.Test.YtfijppclaahkmaaFlowRow
namespace Go.Proofs.Ytfijppclaahkmaa
open Go.RowKit Go.Sort
set_option linter.unusedVariables false
set_option linter.unusedSimpArgs false
theorem setX_f (s : St) (n v : Nat) (hn : n < 31) : ∀ k, k < 36 → (setX s (n : Int) v).f k = upd s.f n (.int .u64 (v : Nat)) k := by
  intro k hk
  unfold setX upd
  rw [if_neg (by omega)]
  unfold St.f
  simp only
  by_cases h1 : k < 31
  · rw [if_pos h1, if_pos h1]
    by_cases h2 : k = n
    · subst h2; simp
    · rw [if_neg (by omega), if_neg h2]
  · simp only [if_neg h1, if_neg (show ¬ k = n by omega)]
theorem res_cell1 {P : Program} {fn : Func} {tmps : Array Value} {w : World} {T : TypeId} {c B : Nat} {v : Value} (hr : fn.results = #[.cell c T]) (hp : tmps.getD c undef = .pointer (some ⟨B, 0, none⟩))
    (hl : (loadVar T ⟨B, 0, none⟩).run P w = .ok v w) : (results fn tmps).run P w = .ok v w := by
  unfold results
  rw [hr]
  have hp2 : (tmps[c]?).getD undef = .pointer (some ⟨B, 0, none⟩) := by simpa [Array.getD_eq_getD_getElem?] using hp
  simp [hp2, asAddr, hl]
theorem lset_ret {w : World} {B C : Nat} {tmps : Array Value} {s : St} (h6 : tmps.getD 6 undef = .pointer (some ⟨C, 0, none⟩)) (hC : C = B) (hS0 : StAt w B s) :
    (results Try.f17 tmps).run Try.prog w = .ok (stV s) w := by
  have hS : StAt w C s := hC ▸ hS0
  have hl := run_loadVar_mid (P := Try.prog) w C 0 27 (stL s) _ (st_range hS) Try.underlying27 rfl (by simpa [stL] using info_st)
  exact res_cell1 (show Try.f17.results = #[.cell 6 27] from rfl) h6 hl
set_option maxHeartbeats 1000000 in
theorem lset_any (s : St) (n v : Nat) (hn : n ≤ 31) (w : World) : Calls Try.prog 17 #[stV s, .int .i64 n, .int .u64 v] w (Gives w (stV (setX s n v))) := by
  have ST := Lib.hid (fun W t => st_new W t 27)
  by_cases h : n = 31
  · subst h
    have e : setX s ((31 : Nat) : Int) v = s := rfl
    rw [e]
    rw [show stV s = .agg (stC s.f) from rfl]
    generalize hf : s.f = f
    have HF := Lib.hid hf
    clear hf
    go_enter Try.func17, Try.ntmps17
    go_upto_region 3 with (first | (refine wpList_alloc_st rfl rfl ?_; go_frame))
    rw [← HF.out]
    refine wp_region_lit ?_
    refine wpList_load_st (s := s) (b := w.heap.size) (.tmp 3) rfl rfl rfl (stat_alloc (ST.out w s) _) ?_
    go_frame
    refine wpList_store_new (s := s) (.tmp 6) (.tmp 13) rfl rfl rfl ?_ ?_ ?_
    · simp
    · (generalize stV _ = Z; rfl)
    generalize hX : World.alloc (World.alloc w _) _ = X
    go_wp2_with fail
    subst hX
    refine bodyPost_ret (v := stV s) ?_ rfl ?_
    · exact lset_ret (B := w.heap.size + 1) rfl (by simp) (by have := ST.out (w.alloc (.cells (stC s.f) 27)) s; simpa using this)
    · rw [← HF.out]
      exact Gives.mk rfl (below_al (below_al (Below.refl _ _) _) _)
  · have hk : n < 31 := by omega
    have HE := Lib.hid (stC_ext (setX_f s n v hk))
    have z31 : (n : Int) < 31 := by omega
    rw [show stV s = .agg (stC s.f) from rfl]
    generalize hf : s.f = f at HE
    clear hf
    generalize setX s n v = T at *
    go_enter Try.func17, Try.ntmps17
    go_upto_region 3 with (first | (refine wpList_alloc_st rfl rfl ?_; go_frame))
    rw [← HE.out]
    refine wp_region_lit ?_
    refine wpList_load_st (s := T) (b := w.heap.size) (.tmp 3) rfl rfl rfl (stat_alloc (ST.out w T) _) ?_
    go_frame
    refine wpList_store_new (s := T) (.tmp 6) (.tmp 13) rfl rfl rfl ?_ ?_ ?_
    · simp
    · (generalize stV _ = Z; rfl)
    generalize hX : World.alloc (World.alloc w _) _ = X
    go_wp2_with fail
    subst hX
    refine bodyPost_ret (v := stV T) ?_ rfl ?_
    · exact lset_ret (B := w.heap.size + 1) rfl (by simp) (by have := ST.out (w.alloc (.cells (stC T.f) 27)) T; simpa using this)
    · exact Gives.mk rfl (below_al (below_al (Below.refl _ _) _) _)
end Go.Proofs.Ytfijppclaahkmaa
