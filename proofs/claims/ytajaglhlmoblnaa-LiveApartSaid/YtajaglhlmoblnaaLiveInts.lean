/- Walk: two rows of the same numbers are alike. Conditions: they are short. -/
import Derived.Test.YtajaglhlmoblnaaLiveCat
namespace Go.Proofs.Ytajaglhlmoblnaa
open Go.RowKit Go.Sort Go.Lib
set_option linter.unusedVariables false
set_option linter.unusedSimpArgs false
set_option maxHeartbeats 1000000 in
theorem ints_same (A1 A2 : Option Addr) (b1 b2 : Nat) (l : List Int) (c1 c2 : Nat) (hl : l.length ≤ 100) (w : World) (h1 : 0 < l.length → A1 = some ⟨b1, 0, none⟩ ∧ NumsAt w b1 l) (h2 : 0 < l.length → A2 = some ⟨b2, 0, none⟩ ∧ NumsAt w b2 l) :
    Calls Try.prog 8 #[.slice A1 l.length c1, .slice A2 l.length c2] w (Gives w (.bool true)) := by
  have H1 := Lib.hid h1
  have H2 := Lib.hid h2
  obtain ⟨n, hn⟩ : ∃ n, n = l.length := ⟨_, rfl⟩
  rw [← hn] at hl ⊢
  replace hn := Lib.hid hn
  clear h1 h2
  go_enter Try.func8, Try.ntmps8
  go_wp2_with fail
  go_loopw [5] (fun v5 wr => ∃ k : Nat, k ≤ n ∧ v5 = .int .i64 k ∧ ∃ p : Regrown, wr = more w p) (fun v5 _ => n - (intOf v5).toNat)
  case atStart => exact ⟨0, by omega, rfl, more_of_below (Below.refl _ _)⟩
  case round =>
    obtain ⟨k, hk, rfl, p, rfl⟩ := hrel
    by_cases hlt : (k : Int) < n
    · obtain ⟨rfl, n1⟩ := H1.out (by rw [← hn.out]; omega)
      obtain ⟨rfl, n2⟩ := H2.out (by rw [← hn.out]; omega)
      obtain ⟨x, hx⟩ : ∃ x, l[k]? = some x := ⟨_, List.getElem?_eq_getElem (by have := hn.out; omega)⟩
      have g1 := n1 k x hx
      have g2 := n2 k x hx
      have s1 := cell_lt2 g1
      have s2 := cell_lt2 g2
      clear n1 n2 hx
      go_upto_region 6 with fail
      refine wp_quiet_more (by kernel_rfl) (by kernel_rfl) ?_
      repeat (go_big_quiet_step (fail))
      refine wpQuiet_nil ?_
      intro p2
      go_wp2_with fail
      go_roundw
      case rel => exact ⟨k + 1, by omega, by go_num, more_more w p p2⟩
      case measure => simp [intOf]; omega
    · go_wp2_with fail
      go_ret
      exact ⟨rfl, p, rfl⟩
end Go.Proofs.Ytajaglhlmoblnaa
