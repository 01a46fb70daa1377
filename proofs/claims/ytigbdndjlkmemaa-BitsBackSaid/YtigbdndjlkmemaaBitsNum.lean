/- Walks: some bytes' number, by the program and by the document. Conditions: the slice's cells hold bytes; numbers fit their kinds. -/
import Derived.Test.YtigbdndjlkmemaaBitsBytes
import Derived.Test.YtigbdndjlkmemaaBitsNumMath
namespace Go.Proofs.Ytigbdndjlkmemaa
open Go.RowKit
set_option linter.unusedVariables false
theorem num_eq (l : List Nat) (hl : Small l) (k : Nat) (hk : k < 8) :
    bits BinOp.or IntKind.u64 (numK l k : Int) (IntKind.u64.wrap ((l.getD k 0 : Int) * 2 ^ (8 * k))) = (numK l (k + 1) : Int) := by
  rw [wrap_shl, u64_or_nat _ _ (numK8_lt l hl k (by omega)) (Nat.mod_lt _ (by decide)), num_or l hl k hk]
theorem num_eq2 (l : List Nat) (hl : Small l) (d : Nat) (hd : d < 8) :
    IntKind.u64.wrap (IntKind.u64.wrap ((numH l d : Int) * 256) + (l.getD (7 - d) 0 : Int)) = (numH l (d + 1) : Int) := by
  rw [show (numH l d : Int) * 256 = ((numH l d * 256 : Nat) : Int) by omega, wrap_nat, ← Int.natCast_add, wrap_nat, num_up l hl d hd]
/-- cell k of some bytes. -/
def byteC (l : List Nat) (k : Nat) : Value := .int .u8 (l.getD k 0 : Nat)
set_option maxHeartbeats 400000 in
theorem num_low (b off cap : Nat) (l : List Nat) (hl : Small l) (h : l.length ≤ cap) (hm : cap ≤ 9223372036854775807) (h2 : l.length ≤ 8) (w : World) (hc : ∀ k, k < l.length → w.cell? ⟨b, off + k, none⟩ = some (byteC l k)) :
    Calls Try.prog 20 #[.slice (some ⟨b, off, none⟩) l.length cap] w fun e w' => e = .returned (.int .u64 (numK l 8)) ∧ w = w' := by
  have HE := Lib.hid (numK_end l h2)
  have HL := Lib.hid hl
  have HC := Lib.hid hc
  clear hc hl
  obtain ⟨len, hlen⟩ : ∃ len, len = l.length := ⟨_, rfl⟩
  have HN := Lib.hid hlen
  rw [← hlen] at h h2 ⊢
  clear hlen
  go_enter Try.func20, Try.ntmps20
  go_wp2
  go_loop [3, 12] (fun x i => ∃ k : Nat, k ≤ len ∧ i = .int .i64 k ∧ x = .int .u64 (numK l k)) (fun _ i => len - (intOf i).toNat)
  case atStart => exact ⟨0, by omega, rfl, rfl⟩
  case round =>
    obtain ⟨k, hk, rfl, rfl⟩ := hrel
    by_cases hlt : (k : Int) < len
    · have hck := HC.out k (by have := HN.out; omega)
      unfold byteC at hck
      have H := Lib.hid (num_eq l HL.out k (by omega))
      obtain ⟨c, hcc⟩ : ∃ c, c = l.getD k 0 := ⟨_, rfl⟩
      have hs : c < 256 := by rw [hcc]; exact HL.out k
      rw [← hcc] at hck H
      clear hcc
      go_wp2
      go_round
      case rel => exact ⟨k + 1, by omega, by go_num, by rw [← H.out]⟩
      case measure => simp [intOf]; omega
    · obtain rfl : k = len := by omega
      go_wp2
      go_ret
      exact ⟨ret_int (by rw [← HE.out, ← HN.out]), rfl⟩
set_option maxHeartbeats 400000 in
theorem num_high (b off len cap : Nat) (l : List Nat) (hl : Small l) (h : len ≤ cap) (hm : cap ≤ 9223372036854775807) (h2 : 8 < len) (w : World) (hc : ∀ k, k < len → w.cell? ⟨b, off + k, none⟩ = some (byteC l k)) :
    Calls Try.prog 20 #[.slice (some ⟨b, off, none⟩) len cap] w fun e w' => e = .returned (.int .u64 (numK l 8)) ∧ w = w' := by
  have HL := Lib.hid hl
  have HC := Lib.hid hc
  clear hc hl
  go_enter Try.func20, Try.ntmps20
  go_wp2
  go_loop [3, 12] (fun x i => ∃ k : Nat, k ≤ 8 ∧ i = .int .i64 k ∧ x = .int .u64 (numK l k)) (fun _ i => 8 - (intOf i).toNat)
  case atStart => exact ⟨0, by omega, rfl, rfl⟩
  case round =>
    obtain ⟨k, hk, rfl, rfl⟩ := hrel
    by_cases hlt : (k : Int) < 8
    · have hck := HC.out k (by omega)
      unfold byteC at hck
      have H := Lib.hid (num_eq l HL.out k (by omega))
      obtain ⟨c, hcc⟩ : ∃ c, c = l.getD k 0 := ⟨_, rfl⟩
      have hs : c < 256 := by rw [hcc]; exact HL.out k
      rw [← hcc] at hck H
      clear hcc
      go_wp2
      go_round
      case rel => exact ⟨k + 1, by omega, by go_num, by rw [← H.out]⟩
      case measure => simp [intOf]; omega
    · obtain rfl : k = 8 := by omega
      go_wp2
      go_ret
      exact ⟨rfl, rfl⟩
set_option maxHeartbeats 400000 in
theorem num_nil (A : Option Addr) (cap : Nat) (hm : cap ≤ 9223372036854775807) (w : World) :
    Calls Try.prog 20 #[.slice A 0 cap] w fun e w' => e = .returned (.int .u64 0) ∧ w = w' := by
  go_enter Try.func20, Try.ntmps20
  go_wp2
  refine wp_loop_rounds 1 ?_; rw [rounds_succ]
  go_wp2
  go_ret
  exact ⟨rfl, rfl⟩
set_option maxHeartbeats 400000 in
theorem refnum_any (b off cap : Nat) (l : List Nat) (hl : Small l) (h : l.length ≤ cap) (hm : cap ≤ 9223372036854775807) (w : World) (hc : ∀ k, k < l.length → w.cell? ⟨b, off + k, none⟩ = some (byteC l k)) :
    Calls Try.prog 21 #[.slice (some ⟨b, off, none⟩) l.length cap] w fun e w' => e = .returned (.int .u64 (numK l 8)) ∧ w = w' := by
  have HE := Lib.hid (numK_eq_numH l)
  have HP := Lib.hid (numH_past l)
  have HL := Lib.hid hl
  have HC := Lib.hid hc
  clear hc hl
  obtain ⟨len, hlen⟩ : ∃ len, len = l.length := ⟨_, rfl⟩
  have HN := Lib.hid hlen
  rw [← hlen] at h ⊢
  clear hlen
  go_enter Try.func21, Try.ntmps21
  go_wp2
  go_loop [3, 4] (fun x i => ∃ z : Int, -1 ≤ z ∧ z ≤ 7 ∧ i = .int .i64 z ∧ x = .int .u64 (numH l (7 - z).toNat)) (fun _ i => (intOf i + 1).toNat)
  case atStart => exact ⟨7, by omega, by omega, rfl, rfl⟩
  case round =>
    obtain ⟨z, hz1, hz2, rfl, rfl⟩ := hrel
    by_cases hz : 0 ≤ z
    · obtain ⟨k, rfl⟩ := Int.eq_ofNat_of_zero_le hz
      obtain ⟨d, hd, hk⟩ : ∃ d, (7 - (k : Int)).toNat = d ∧ k + d = 7 := ⟨_, rfl, by omega⟩
      rw [hd]
      have hd' : (7 - ((k : Int) - 1)).toNat = d + 1 := by omega
      have HD := Lib.hid hd'
      clear hd hd'
      by_cases hlt : (k : Int) < len
      · have hck := HC.out k (by have := HN.out; omega)
        unfold byteC at hck
        have H := Lib.hid (num_eq2 l HL.out d (by omega))
        rw [show 7 - d = k by omega] at H
        obtain ⟨c, hcc⟩ : ∃ c, c = l.getD k 0 := ⟨_, rfl⟩
        have hs : c < 256 := by rw [hcc]; exact HL.out k
        rw [← hcc] at hck H
        have HK := Lib.hid hk
        clear hcc hk
        go_wp2
        go_round
        case rel => exact ⟨(k : Int) - 1, by omega, by omega, rfl, by rw [HD.out, ← H.out]⟩
        case measure => simp [intOf]
      · have H : Hid (numH l (d + 1) = numH l d) := by
          have := HN.out
          exact Lib.hid ((HP.out (d + 1) (by omega)).trans (HP.out d (by omega)).symm)
        have HK := Lib.hid hk
        clear hk
        go_wp2
        go_round
        case rel => exact ⟨(k : Int) - 1, by omega, by omega, rfl, by rw [HD.out, H.out]⟩
        case measure => simp [intOf]
    · obtain rfl : z = -1 := by omega
      go_wp2
      go_ret
      exact ⟨ret_int (by rw [HE.out]), rfl⟩
set_option maxHeartbeats 400000 in
theorem refnum_nil (A : Option Addr) (cap : Nat) (w : World) :
    Calls Try.prog 21 #[.slice A 0 cap] w fun e w' => e = .returned (.int .u64 0) ∧ w = w' := by
  go_enter Try.func21, Try.ntmps21
  go_wp2
  go_loop [3, 4] (fun x i => ∃ z : Int, -1 ≤ z ∧ z ≤ 7 ∧ i = .int .i64 z ∧ x = .int .u64 0) (fun _ i => (intOf i + 1).toNat)
  case atStart => exact ⟨7, by omega, by omega, rfl, rfl⟩
  case round =>
    obtain ⟨z, hz1, hz2, rfl, rfl⟩ := hrel
    by_cases hz : 0 ≤ z
    · go_wp2
      go_round
      case rel => exact ⟨z - 1, by omega, by omega, rfl, rfl⟩
      case measure => simp [intOf]; omega
    · go_wp2
      go_ret
      exact ⟨rfl, rfl⟩
end Go.Proofs.Ytigbdndjlkmemaa
