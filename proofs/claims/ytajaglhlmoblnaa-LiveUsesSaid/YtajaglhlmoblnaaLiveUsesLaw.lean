/- Walk: the statement on the registers that a step reads and sets. Condition: numbers fit. -/
import Derived.Test.YtajaglhlmoblnaaLiveAwake
import Derived.Test.YtajaglhlmoblnaaLivePick
import Derived.Test.YtajaglhlmoblnaaLiveOpen
namespace Go.Proofs.Ytajaglhlmoblnaa
open Go.RowKit Go.Sort Go.Lib
set_option linter.unusedVariables false
set_option linter.unusedSimpArgs false
theorem owns_numsAt {w : World} {base : Nat} {v : Value} {l : List Int} (h : w.ownsRow base 3 1 v l.length (l.map (Value.int .i64))) :
    ∃ (A : Option Addr) (g c : Nat), v = .slice A l.length c ∧ (0 < l.length → A = some ⟨g, 0, none⟩ ∧ NumsAt w g l) := by
  rcases h.2 with ⟨h1, h2⟩ | ⟨g, cap, cur, h1, h2, h3, h4, h5, h6, h7⟩
  · exact ⟨none, 0, 0, by rw [h1, h2], fun h => by omega⟩
  · refine ⟨some ⟨g, 0, none⟩, g, cap, h1, fun _ => ⟨rfl, ?_⟩⟩
    rw [h1] at h
    exact owns_nums h rfl
theorem pick_row (L : Nat → Int) (n b cap : Nat) (hn : n ≤ 3) (w : World) (hb : b < w.heap.size) (hc : ∀ j, j < n → w.cell? ⟨b, j, none⟩ = some (.int .i64 (L j))) :
    Calls Try.prog 10 #[.slice (some ⟨b, 0, none⟩) n cap] w fun e w' => ∃ A g c, e = .returned (.slice A (kept L n).length c) ∧ (∃ p : Regrown, w' = more w p) ∧ (0 < (kept L n).length → A = some ⟨g, 0, none⟩ ∧ NumsAt w' g (kept L n)) := by
  refine (pick_any L n b cap hn w hb hc).mono ?_
  rintro e w' ⟨v, rfl, hp, ho⟩
  obtain ⟨A, g, c, rfl, h⟩ := owns_numsAt ho
  exact ⟨A, g, c, rfl, hp, h⟩
theorem lt_2 {j : Nat} (h : j < 2) : j = 0 ∨ j = 1 := by omega
theorem lt_3 {j : Nat} (h : j < 3) : j = 0 ∨ j = 1 ∨ j = 2 := by omega
theorem NumsAt.more {w : World} {b : Nat} {l : List Int} (h : NumsAt w b l) (p : Regrown) : NumsAt (more w p) b l := h.below (more_below w p)
theorem NumsAt.alloc {w : World} {b : Nat} {l : List Int} (h : NumsAt w b l) (o : Obj) : NumsAt (w.alloc o) b l := h.below (below_al (Below.refl _ _) o)
theorem NumsAt.drew {w : World} {b : Nat} {l : List Int} (h : NumsAt w b l) : NumsAt w.drew b l := h.below (below_dr (Below.refl _ _))
set_option maxHeartbeats 4000000 in
theorem liveUses_go (o : LOp) (w : World) : Calls Try.prog 3 #[lopV o] w (Gives w (.bool true)) := by
  have AW := Lib.hid (fun W => awake_any W)
  have US := Lib.hid (fun W => uses_any o W)
  have SE := Lib.hid (fun W => sets_any o W)
  have SA := Lib.hid (fun A1 A2 b1 b2 l c1 c2 hl W h1 h2 => ints_same A1 A2 b1 b2 l c1 c2 hl W h1 h2)
  have P1 := Lib.hid (fun b W hb hc => pick_row (three o.a o.b o.c) 3 b 3 (by omega) W hb hc)
  have P2 := Lib.hid (fun b W hb hc => pick_row (three o.d o.d2 0) 2 b 2 (by omega) W hb hc)
  obtain ⟨k, d, d2, a, b, c, n, op, sz, od, tgt, st, ln⟩ := o
  unfold lopV LOp.cs at *
  unfold usesL at US
  unfold setsL at SE
  simp only at *
  have l1 := kept_len (three a b c) 3
  have l2 := kept_len (three d d2 0) 2
  generalize hk1 : kept (three a b c) 3 = K1 at *
  generalize hk2 : kept (three d d2 0) 2 = K2 at *
  clear hk1 hk2
  go_enter Try.func3, Try.ntmps3
  go_wp2_with (first
    | (go_at_call 7; refine (AW.out _).mono ?_; rintro e w1 ⟨rfl, p1, rfl⟩))
  go_region_held3 (fun W => W.cell? ⟨w.heap.size, 0, none⟩ = some (.int .i64 k) ∧ W.cell? ⟨w.heap.size, 1, none⟩ = some (.int .i64 d) ∧ W.cell? ⟨w.heap.size, 2, none⟩ = some (.int .i64 d2) ∧ W.cell? ⟨w.heap.size, 3, none⟩ = some (.int .i64 a) ∧ W.cell? ⟨w.heap.size, 4, none⟩ = some (.int .i64 b) ∧ W.cell? ⟨w.heap.size, 5, none⟩ = some (.int .i64 c) ∧ W.cell? ⟨w.heap.size, 6, none⟩ = some (.int .u64 n) ∧ W.cell? ⟨w.heap.size, 7, none⟩ = some (.int .i64 op) ∧ W.cell? ⟨w.heap.size, 8, none⟩ = some (.int .i64 sz) ∧ W.cell? ⟨w.heap.size, 9, none⟩ = some (.int .i64 od) ∧ W.cell? ⟨w.heap.size, 10, none⟩ = some (.int .i64 tgt) ∧ W.cell? ⟨w.heap.size, 11, none⟩ = some (.int .i64 st) ∧ W.cell? ⟨w.heap.size, 12, none⟩ = some (.int .i64 ln)) (first | (simp [go_sem, ↓IntWalk.iteOmega]; done)) (first
    | (go_at_call 7; refine (AW.out _).mono ?_; rintro e w9 ⟨rfl, p, rfl⟩)
    | (go_at_call 9; refine (US.out _).mono ?_; rintro e w9 ⟨b2, rfl, ⟨p2, rfl⟩, n2, _, _⟩; replace n2 := Lib.hid n2)
    | (go_at_call 11; refine (SE.out _).mono ?_; rintro e w9 ⟨b4, rfl, ⟨p4, rfl⟩, n4, _, _⟩; replace n4 := Lib.hid n4)
    | (go_at_call 10; (with_reducible refine (P1.out _ _ ?_ ?_).mono ?_); (simp [go_sem] <;> omega); (intro j hj; rcases lt_3 hj with rfl | rfl | rfl <;> (simp [go_sem, ↓IntWalk.iteOmega, three]; done)); rintro e w9 ⟨A3, g3, c3, rfl, ⟨p3, rfl⟩, n3⟩; replace n3 := Lib.hid n3)
    | (go_at_call 10; (with_reducible refine (P2.out _ _ ?_ ?_).mono ?_); (simp [go_sem] <;> omega); (intro j hj; rcases lt_2 hj with rfl | rfl <;> (simp [go_sem, ↓IntWalk.iteOmega, three]; done)); rintro e w9 ⟨A5, g5, c5, rfl, ⟨p5, rfl⟩, n5⟩; replace n5 := Lib.hid n5)
    | (go_at_call 8; (with_reducible refine (SA.out _ _ b2 g3 K1 _ _ ?_ _ ?_ ?_).mono ?_); (exact Nat.le_trans l1 (by decide)); (intro _; exact ⟨rfl, by repeat (first | with_reducible exact n2.out | with_reducible refine NumsAt.more ?_ _ | with_reducible refine NumsAt.alloc ?_ _)⟩); (intro h; obtain ⟨h1, h2⟩ := n3.out h; exact ⟨h1, by repeat (first | with_reducible exact h2 | with_reducible refine NumsAt.more ?_ _ | with_reducible refine NumsAt.alloc ?_ _)⟩); rintro e w9 ⟨rfl, p6, rfl⟩)
    | (go_at_call 8; (with_reducible refine (SA.out _ _ b4 g5 K2 _ _ ?_ _ ?_ ?_).mono ?_); (exact Nat.le_trans l2 (by decide)); (intro _; exact ⟨rfl, by repeat (first | with_reducible exact n4.out | with_reducible refine NumsAt.more ?_ _ | with_reducible refine NumsAt.alloc ?_ _)⟩); (intro h; obtain ⟨h1, h2⟩ := n5.out h; exact ⟨h1, by repeat (first | with_reducible exact h2 | with_reducible refine NumsAt.more ?_ _ | with_reducible refine NumsAt.alloc ?_ _)⟩); rintro e w9 ⟨rfl, p7, rfl⟩))
  all_goals
    go_wp2_with fail
    go_ret
    exact Gives.mk rfl (by repeat (first | with_reducible exact Below.refl _ _ | with_reducible refine below_mo ?_ _ | with_reducible refine below_al ?_ _ | with_reducible refine below_dr ?_))
theorem liveUses_walk (o : LOp) (w : World) : Calls Try.prog 3 #[lopV o] w fun e w' => e = .returned (.bool true) ∧ Below w.heap.size w w' := (liveUses_go o w).mono fun _ _ h => ⟨h.1, h.below⟩
end Go.Proofs.Ytajaglhlmoblnaa
