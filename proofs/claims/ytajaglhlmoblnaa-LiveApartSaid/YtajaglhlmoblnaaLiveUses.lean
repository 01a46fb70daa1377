/- Walks: the registers that a step reads, and sets. Conditions: numbers fit. -/
import Derived.Test.YtajaglhlmoblnaaLiveCat
namespace Go.Proofs.Ytajaglhlmoblnaa
open Go.RowKit Go.Sort Go.Lib
set_option linter.unusedVariables false
set_option linter.unusedSimpArgs false
/-- a step: thirteen numbers. -/
structure LOp where
  k : Int
  d : Int
  d2 : Int
  a : Int
  b : Int
  c : Int
  n : Int
  op : Int
  sz : Int
  od : Int
  tgt : Int
  st : Int
  ln : Int
def LOp.cs (o : LOp) : Array Value := #[.int .i64 o.k, .int .i64 o.d, .int .i64 o.d2, .int .i64 o.a, .int .i64 o.b, .int .i64 o.c, .int .u64 o.n, .int .i64 o.op, .int .i64 o.sz, .int .i64 o.od, .int .i64 o.tgt, .int .i64 o.st, .int .i64 o.ln]
def lopV (o : LOp) : Value := .agg o.cs
def three (x y z : Int) (k : Nat) : Int := if k = 0 then x else if k = 1 then y else z
def usesL (o : LOp) : List Int := kept (three o.a o.b o.c) 3
def setsL (o : LOp) : List Int := kept (three o.d o.d2 0) 2
theorem there_any (L : Nat → Int) (n b : Nat) (hn : n ≤ 3) (w : World) (hc : ∀ j, j < n → w.cell? ⟨b, j, none⟩ = some (.int .i64 (L j)) ∧ w.frozen? ⟨b, j, none⟩ = false) :
    Calls Try.prog 13 #[.slice (some ⟨b, 0, none⟩) n n] w fun e w' => e = .returned (.slice (some ⟨b, 0, none⟩) (kept L n).length n) ∧ Onto b w w' ∧ NumsAt w' b (kept L n) := by
  have DE := Lib.hid (del_any L n b n (by omega) (by omega) (by omega) w hc)
  clear hc
  go_enter Try.func13, Try.ntmps13
  go_wp2_with (go_at_call 17; refine (DE.out).mono ?_; rintro e w1 ⟨rfl, ho, hn⟩)
  go_ret
  exact ⟨rfl, ho, hn⟩
/-- it gives back a new row of these numbers. -/
def GivesRow (w : World) (l : List Int) (cap : Nat) (e : Ending) (w' : World) : Prop := ∃ b, e = .returned (.slice (some ⟨b, 0, none⟩) l.length cap) ∧ (∃ p : Regrown, w' = more w p) ∧ NumsAt w' b l ∧ w.heap.size ≤ b ∧ b < w'.heap.size
set_option maxHeartbeats 1000000 in
theorem uses_any (o : LOp) (w : World) : Calls Try.prog 9 #[lopV o] w (GivesRow w (usesL o) 3) := by
  have TH := Lib.hid (fun b W hc => there_any (three o.a o.b o.c) 3 b (by omega) W hc)
  obtain ⟨k, d, d2, a, b, c, n, op, sz, od, tgt, st, ln⟩ := o
  unfold lopV LOp.cs
  unfold usesL
  simp only at *
  have hl := kept_len (three a b c) 3
  generalize hk : kept (three a b c) 3 = l at TH hl ⊢
  replace hk := Lib.hid hk
  go_enter Try.func9, Try.ntmps9
  go_wp2_with (go_at_call 13; refine (TH.out (w.heap.size + 1) _ ?_).mono ?_)
  · intro j hj
    rcases (show j = 0 ∨ j = 1 ∨ j = 2 by omega) with rfl | rfl | rfl
    all_goals (unfold three; simp [go_sem])
  · rintro e w1 ⟨rfl, ho, hn⟩
    go_wp2
    go_ret
    refine ⟨w.heap.size + 1, rfl, more_of_below (ho.under (below_al (below_al (Below.refl _ _) _) _) (by omega)), hn, by omega, ?_⟩
    have := ho.size
    simp at this
    omega
set_option maxHeartbeats 1000000 in
theorem sets_any (o : LOp) (w : World) : Calls Try.prog 11 #[lopV o] w (GivesRow w (setsL o) 2) := by
  have TH := Lib.hid (fun b W hc => there_any (three o.d o.d2 0) 2 b (by omega) W hc)
  obtain ⟨k, d, d2, a, b, c, n, op, sz, od, tgt, st, ln⟩ := o
  unfold lopV LOp.cs
  unfold setsL
  simp only at *
  have hl := kept_len (three d d2 0) 2
  generalize hk : kept (three d d2 0) 2 = l at TH hl ⊢
  replace hk := Lib.hid hk
  go_enter Try.func11, Try.ntmps11
  go_wp2_with (go_at_call 13; refine (TH.out (w.heap.size + 1) _ ?_).mono ?_)
  · intro j hj
    rcases (show j = 0 ∨ j = 1 by omega) with rfl | rfl
    all_goals (unfold three; simp [go_sem])
  · rintro e w1 ⟨rfl, ho, hn⟩
    go_wp2
    go_ret
    refine ⟨w.heap.size + 1, rfl, more_of_below (ho.under (below_al (below_al (Below.refl _ _) _) _) (by omega)), hn, by omega, ?_⟩
    have := ho.size
    simp at this
    omega
end Go.Proofs.Ytajaglhlmoblnaa
