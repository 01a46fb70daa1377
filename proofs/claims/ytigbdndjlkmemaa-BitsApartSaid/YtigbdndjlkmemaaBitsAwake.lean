/- Walk: the fixed fact of the statements on bits. No condition. -/
import Derived.Test.YtigbdndjlkmemaaBitsNum
import Derived.Test.YtigbdndjlkmemaaBitsRefBytes
namespace Go.Proofs.Ytigbdndjlkmemaa
open Go.RowKit
theorem bytes_any (x : Nat) (n : Int) (w : World) :
    Calls Try.prog 18 #[.int .u64 x, .int .i64 n] w fun e w' => e = .returned (.slice (some ⟨w.heap.size, 0, none⟩) (min n.toNat 8) (min n.toNat 8)) ∧ w'.rowIs w.heap.size 5 (min n.toNat 8) (byteV x) ∧ Below w.heap.size w w' := by
  by_cases h : n < 0
  · rw [show min n.toNat 8 = 0 by omega]
    exact bytes_low x n h w
  by_cases h8 : 8 < n
  · rw [show min n.toNat 8 = 8 by omega]
    exact bytes_high x n h8 w
  · obtain ⟨m, rfl⟩ := Int.eq_ofNat_of_zero_le (show 0 ≤ n by omega)
    rw [show min ((m : Int)).toNat 8 = m by omega]
    exact bytes_mid x m (by omega) w
/-- the number of a slice that is not empty. -/
theorem number_any (b off len cap : Nat) (l : List Nat) (hl : Small l) (hn : l.length = len) (h : len ≤ cap) (hm : cap ≤ 9223372036854775807) (w : World) (hc : ∀ k, k < len → w.cell? ⟨b, off + k, none⟩ = some (byteC l k)) :
    Calls Try.prog 20 #[.slice (some ⟨b, off, none⟩) len cap] w fun e w' => e = .returned (.int .u64 (numK l 8)) ∧ w = w' := by
  subst hn
  by_cases h8 : l.length ≤ 8
  · exact num_low b off cap l hl h hm h8 w hc
  · exact num_high b off _ cap l hl h hm (by omega) w hc
theorem small_21 : Small [2, 1] := fun k => by
  match k with
  | 0 => decide
  | 1 => decide
  | k + 2 => simp
theorem cells_21 (w : World) : ∀ k, k < 2 → (w.alloc (.cells #[.int .u8 2, .int .u8 1] 5)).cell? ⟨w.heap.size, 0 + k, none⟩ = some (byteC [2, 1] k) := by
  intro k hk
  match k, hk with
  | 0, _ => simp [byteC]
  | 1, _ => simp [byteC]
theorem awake_1 : mask 3 = 7 := by decide
theorem awake_2 : getN 43981 4 8 = 188 := by decide
theorem awake_3 : putN 43981 4 8 18 = 41261 := by decide
theorem awake_4 : numK [2, 1] 8 = 258 := by decide
set_option maxHeartbeats 400000 in
theorem awake_any (w : World) : Calls Try.prog 12 #[] w fun e w' => e = .returned (.bool true) ∧ Below w.heap.size w w' := by
  have a1 := mask_any 3 (by omega) (by omega)
  rw [awake_1] at a1
  have a2 := get_any 43981 4 8 (by decide) (by omega) (by omega)
  rw [awake_2] at a2
  have a3 := put_any 43981 18 4 8 (by decide) (by decide) (by omega) (by omega)
  rw [awake_3] at a3
  have a4 := bytes_any 258 2
  have a5 := fun (w : World) => number_any w.heap.size 0 2 2 [2, 1] small_21 rfl (by omega) (by omega) _ (cells_21 w)
  rw [awake_4] at a5
  have A1 := Lib.hid a1
  have A2 := Lib.hid a2
  have A3 := Lib.hid a3
  have A4 := Lib.hid a4
  have A5 := Lib.hid a5
  clear a1 a2 a3 a4 a5
  go_enter Try.func12, Try.ntmps12
  go_wp2_with fail
  refine (A1.out _).mono ?_
  rintro e w' ⟨rfl, rfl⟩
  go_wp2_with fail
  refine (A2.out _).mono ?_
  rintro e w1 ⟨rfl, h1⟩
  have H1 := Lib.hid (Drew.below h1)
  clear h1
  go_wp2_with fail
  refine (A3.out _).mono ?_
  rintro e w2 ⟨rfl, h2⟩
  have H2 := Lib.hid (below_next H1.out (Drew.below h2))
  clear h2
  go_wp2_with fail
  refine (A4.out _).mono ?_
  rintro e w3 ⟨rfl, _, h3⟩
  have H3 := Lib.hid (below_next H2.out h3)
  clear h3
  go_wp2_with fail
  refine (A5.out _).mono ?_
  rintro e w4 ⟨rfl, rfl⟩
  go_wp2_with fail
  go_ret
  exact ⟨rfl, H3.out.alloc H3.out.size _⟩
end Go.Proofs.Ytigbdndjlkmemaa
