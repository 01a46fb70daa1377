/- Walks: a number's bytes; some bytes' number. Conditions: numbers fit their kinds. -/
import Derived.Test.YtigbdndjlkmemaaBitsRef
import Derived.Deep.OwnRows
namespace Go.Proofs.Ytigbdndjlkmemaa
open Go.RowKit
theorem u8_info : (Try.prog.info? 5).map (fun i => (i.zero, i.size, i.bytes)) = some (some (.int .u8 0), 1, 1) := by kernel_rfl
def byteV (x i : Nat) : Value := .int .u8 (byteN x i : Nat)
def part (x k i : Nat) : Value := if i < k then byteV x i else .int .u8 0
def zeros8 (n : Nat) : Array Value := madeCells #[.int .u8 0] n
theorem part_at (x k : Nat) : part x k k = .int .u8 0 := by unfold part; rw [if_neg (by omega)]
theorem part_start (x m : Nat) (w : World) : (w.alloc (.cells (zeros8 m) 5)).rowIs w.heap.size 5 m (part x 0) :=
  World.rowIs_made w (.int .u8 0) m 5
theorem part_step {x k m g : Nat} {w : World} (h : w.rowIs g 5 m (part x k)) (hk : k < m) : (w.setCell ⟨g, k, none⟩ (byteV x k)).rowIs g 5 m (part x (k + 1)) :=
  (h.set k (byteV x k)).congr fun i hi => by
    unfold part
    by_cases h1 : i = k
    · subst h1; rw [if_pos rfl, if_pos (by omega)]
    · rw [if_neg h1]
      by_cases h2 : i < k
      · rw [if_pos h2, if_pos (by omega)]
      · rw [if_neg h2, if_neg (by omega)]
theorem part_all {x m g : Nat} {w : World} (h : w.rowIs g 5 m (part x m)) : w.rowIs g 5 m (byteV x) :=
  h.congr fun i hi => by unfold part; rw [if_pos hi]
theorem byte_eq (x k : Nat) : Value.int .u8 ((x : Int) / 2 ^ (8 * k) % 256) = byteV x k := by
  unfold byteV byteN
  rw [shr_nat]
  congr 1
set_option maxHeartbeats 400000 in
theorem bytes_low (x : Nat) (n : Int) (h1 : n < 0) (w : World) :
    Calls Try.prog 18 #[.int .u64 x, .int .i64 n] w fun e w' => e = .returned (.slice (some ⟨w.heap.size, 0, none⟩) 0 0) ∧ w'.rowIs w.heap.size 5 0 (byteV x) ∧ Below w.heap.size w w' := by
  have hmk : ∀ w : World, (Instr.makeSlice 29 (.int .i64 0) (.int .i64 0)).run Try.prog w = .ok (.slice (some ⟨w.heap.size, 0, none⟩) 0 0) (w.alloc (.cells (zeros8 0) 5)) :=
    fun w => run_make_row' 29 5 (.int .u8 0) 1 Try.underlying29 u8_info rfl .i64 .i64 0 (by omega) (by omega) w
  go_enter Try.func18, Try.ntmps18
  go_wp2
  go_loopw [13, 6] (fun i _ wr => ∃ k : Nat, k ≤ 0 ∧ i = .int .i64 k ∧ wr.rowIs w.heap.size 5 0 (part x k) ∧ Below w.heap.size w wr) (fun i _ _ => 0 - (intOf i).toNat)
  case atStart => exact ⟨0, by omega, rfl, part_start x 0 w, (Below.refl _ _).alloc (Nat.le_refl _) _⟩
  case round =>
    obtain ⟨k, hk, rfl, hrow, hb⟩ := hrel
    have hcell : k < 0 → wr.cell? ⟨w.heap.size, k, none⟩ = some (.int .u8 0) := fun h => (hrow.cell h).trans (by rw [part_at])
    have hfr := hrow.frozen
    by_cases hlt : (k : Int) < 0
    · omega
    · obtain rfl : k = 0 := by omega
      clear hcell
      have HR := Lib.hid hrow
      have HB := Lib.hid hb
      clear hrow hb
      go_wp2
      go_ret
      exact ⟨rfl, part_all HR.out, HB.out⟩

set_option maxHeartbeats 400000 in
theorem bytes_mid (x : Nat) (n : Nat) (h2 : n ≤ 8) (w : World) :
    Calls Try.prog 18 #[.int .u64 x, .int .i64 n] w fun e w' => e = .returned (.slice (some ⟨w.heap.size, 0, none⟩) n n) ∧ w'.rowIs w.heap.size 5 n (byteV x) ∧ Below w.heap.size w w' := by
  have hmk : ∀ w : World, (Instr.makeSlice 29 (.int .i64 n) (.int .i64 n)).run Try.prog w = .ok (.slice (some ⟨w.heap.size, 0, none⟩) n n) (w.alloc (.cells (zeros8 n) 5)) :=
    fun w => run_make_row' 29 5 (.int .u8 0) 1 Try.underlying29 u8_info rfl .i64 .i64 n (by omega) (by omega) w
  go_enter Try.func18, Try.ntmps18
  go_wp2
  go_loopw [13, 6] (fun i _ wr => ∃ k : Nat, k ≤ n ∧ i = .int .i64 k ∧ wr.rowIs w.heap.size 5 n (part x k) ∧ Below w.heap.size w wr) (fun i _ _ => n - (intOf i).toNat)
  case atStart => exact ⟨0, by omega, rfl, part_start x n w, (Below.refl _ _).alloc (Nat.le_refl _) _⟩
  case round =>
    obtain ⟨k, hk, rfl, hrow, hb⟩ := hrel
    have hcell : k < n → wr.cell? ⟨w.heap.size, k, none⟩ = some (.int .u8 0) := fun h => (hrow.cell h).trans (by rw [part_at])
    have hfr := hrow.frozen
    by_cases hlt : (k : Int) < n
    · have hc := hcell (by omega)
      clear hcell
      have HR := Lib.hid hrow
      have HB := Lib.hid hb
      clear hrow hb
      have H := Lib.hid (byte_eq x k)
      go_wp2
      go_roundw
      case rel => exact ⟨k + 1, by omega, by go_num, by rw [H.out]; exact part_step HR.out (by omega), HB.out.setCell (Nat.le_refl _) _⟩
      case measure => simp [intOf]; omega
    · obtain rfl : k = n := by omega
      clear hcell
      have HR := Lib.hid hrow
      have HB := Lib.hid hb
      clear hrow hb
      go_wp2
      go_ret
      exact ⟨rfl, part_all HR.out, HB.out⟩

set_option maxHeartbeats 400000 in
theorem bytes_high (x : Nat) (n : Int) (h1 : 8 < n) (w : World) :
    Calls Try.prog 18 #[.int .u64 x, .int .i64 n] w fun e w' => e = .returned (.slice (some ⟨w.heap.size, 0, none⟩) 8 8) ∧ w'.rowIs w.heap.size 5 8 (byteV x) ∧ Below w.heap.size w w' := by
  have hmk : ∀ w : World, (Instr.makeSlice 29 (.int .i64 8) (.int .i64 8)).run Try.prog w = .ok (.slice (some ⟨w.heap.size, 0, none⟩) 8 8) (w.alloc (.cells (zeros8 8) 5)) :=
    fun w => run_make_row' 29 5 (.int .u8 0) 1 Try.underlying29 u8_info rfl .i64 .i64 8 (by omega) (by omega) w
  go_enter Try.func18, Try.ntmps18
  go_wp2
  go_loopw [13, 6] (fun i _ wr => ∃ k : Nat, k ≤ 8 ∧ i = .int .i64 k ∧ wr.rowIs w.heap.size 5 8 (part x k) ∧ Below w.heap.size w wr) (fun i _ _ => 8 - (intOf i).toNat)
  case atStart => exact ⟨0, by omega, rfl, part_start x 8 w, (Below.refl _ _).alloc (Nat.le_refl _) _⟩
  case round =>
    obtain ⟨k, hk, rfl, hrow, hb⟩ := hrel
    have hcell : k < 8 → wr.cell? ⟨w.heap.size, k, none⟩ = some (.int .u8 0) := fun h => (hrow.cell h).trans (by rw [part_at])
    have hfr := hrow.frozen
    by_cases hlt : (k : Int) < 8
    · have hc := hcell (by omega)
      clear hcell
      have HR := Lib.hid hrow
      have HB := Lib.hid hb
      clear hrow hb
      have H := Lib.hid (byte_eq x k)
      go_wp2
      go_roundw
      case rel => exact ⟨k + 1, by omega, by go_num, by rw [H.out]; exact part_step HR.out (by omega), HB.out.setCell (Nat.le_refl _) _⟩
      case measure => simp [intOf]; omega
    · obtain rfl : k = 8 := by omega
      clear hcell
      have HR := Lib.hid hrow
      have HB := Lib.hid hb
      clear hrow hb
      go_wp2
      go_ret
      exact ⟨rfl, part_all HR.out, HB.out⟩

end Go.Proofs.Ytigbdndjlkmemaa
