/- Walk: the statement on a number's bytes and on bytes' number returns true. Conditions: numbers fit their kinds; the slice's cells hold bytes. -/
import Derived.Test.YtigbdndjlkmemaaBitsAwake
import Derived.Test.YtigbdndjlkmemaaBitsMath2
import Derived.Deep.RegionWith
import Derived.Laws.IdiomStrings
import Derived.Lib.BufferRead
namespace Go.Proofs.Ytigbdndjlkmemaa
open Go.RowKit
set_option linter.unusedVariables false
def strN (x m : Nat) : List UInt8 := (List.range m).map fun i => UInt8.ofNat (byteN x i)
theorem strN_length (x m : Nat) : (strN x m).length = m := by simp [strN]
theorem strN_at (x m i : Nat) (h : i < (strN x m).length) : ((strN x m)[i].toNat : Int) = (byteN x i : Int) := by
  simp only [strN, List.getElem_map, List.getElem_range, UInt8.toNat_ofNat']
  have : byteN x i < 256 := Nat.mod_lt _ (by decide)
  omega
theorem add_off (g j : Nat) : (⟨g, 0, none⟩ : Addr).add j = ⟨g, j, none⟩ := by
  unfold Addr.add
  by_cases h : j = 0
  · rw [if_pos h, h]
  · rw [if_neg h]; simp
theorem conv_row (x m g cap : Nat) (w : World) (h : ∀ i, i < m → w.cell? ⟨g, i, none⟩ = some (byteV x i)) :
    (convert 29 9 (.slice (some ⟨g, 0, none⟩) m cap)).run Try.prog w = .ok (.string ⟨(strN x m).toArray⟩) w := by
  have := run_convert_bytes_back (P := Try.prog) w 29 9 5 ⟨g, 0, none⟩ cap (strN x m) Try.underlying29 Try.underlying5 Try.underlying9 (fun j hj => by
    rw [strN_at]
    have hj' : j < m := by simpa [strN_length] using hj
    have := h j hj'
    unfold byteV at this
    rw [add_off]
    exact this)
  rw [strN_length] at this
  exact this
theorem conv_own (x m B : Nat) (v : Value) (w : World) (h : w.ownsRow B 5 1 v m (bytesV x m)) :
    (convert 29 9 v).run Try.prog w = .ok (.string ⟨(strN x m).toArray⟩) w := by
  rcases h.2 with ⟨rfl, rfl⟩ | ⟨g, cap, cur, rfl, _, _, _⟩
  · exact Lib.run_convert_nil_bytes w 29 9 5 0 Try.underlying29 Try.underlying5 Try.underlying9
  · refine conv_row x m g cap w fun i hi => ?_
    rw [h.cellAt i (by omega)]
    simp [bytesV, hi]
set_option maxHeartbeats 1000000 in
theorem bitsBytes_core (x : Nat) (n : Int) (bv : Value) (N : Nat) (hx : x < 2 ^ 64) (h0 : -9223372036854775808 ≤ n) (h1 : n ≤ 9223372036854775807) (w : World)
    (a3 : ∀ w' : World, Below w.heap.size w w' → Calls Try.prog 20 #[bv] w' fun e w'' => e = .returned (.int .u64 N) ∧ w' = w'')
    (a4 : ∀ w' : World, Below w.heap.size w w' → Calls Try.prog 21 #[bv] w' fun e w'' => e = .returned (.int .u64 N) ∧ w' = w'') :
    Calls Try.prog 5 #[.int .u64 x, .int .i64 n, bv] w fun e w' => e = .returned (.bool true) ∧ Below w.heap.size w w' := by
  have A1 := Lib.hid (bytes_any x n)
  have A2 := Lib.hid (refbytes_any x hx n h0 h1)
  have A3 := Lib.hid a3
  have A4 := Lib.hid a4
  clear a3 a4 hx h0 h1
  go_enter Try.func5, Try.ntmps5
  go_wp2_with fail
  go_region_with (first
    | (go_at_call 12; refine (awake_any _).mono ?_; rintro e w1 ⟨rfl, h1⟩; have H1 : Hid (Below w.heap.size w w1) := ⟨h1.os, h1.tape, h1.output, h1.size, h1.block⟩; clear h1)
    | (go_at_call 18; refine (A1.out _).mono ?_; rintro e w2 ⟨rfl, hr2, h2⟩; have H2 := Lib.hid (below_next H1.out h2); have HR := Lib.hid hr2; have cv := conv_row x _ _ (min n.toNat 8) w2 (fun i hi => HR.out.cell hi); clear h2 hr2)
    | (go_at_call 19; refine (A2.out _).mono ?_; rintro e w3 ⟨v, rfl, hown, h3⟩; have H3 := Lib.hid (below_next H2.out h3); have cv2 := conv_own x _ _ v w3 hown; have cv3 := conv_row x _ _ (min n.toNat 8) w3 (fun i hi => (h3.cell HR.out.lt).trans (HR.out.cell hi)); clear h3 hown)
    | (go_at_call 20; refine (A3.out _ H3.out).mono ?_; rintro e w' ⟨rfl, rfl⟩)
    | (go_at_call 21; refine (A4.out _ H3.out).mono ?_; rintro e w' ⟨rfl, rfl⟩))
  all_goals
    go_wp2_with fail
    go_ret
    exact ⟨rfl, H3.out⟩
/-- a slice of bytes that lies below the world's end. -/
structure ByteSl (w : World) (v : Value) (l : List Nat) : Prop where
  small : Small l
  at_ : (∃ A cap, v = .slice A 0 cap ∧ cap ≤ 9223372036854775807 ∧ l = []) ∨
    ∃ b off len cap, v = .slice (some ⟨b, off, none⟩) len cap ∧ l.length = len ∧ len ≤ cap ∧ cap ≤ 9223372036854775807 ∧ b < w.heap.size ∧ ∀ k, k < len → w.cell? ⟨b, off + k, none⟩ = some (byteC l k)
theorem bitsBytes_walk (x : Nat) (n : Int) (bv : Value) (l : List Nat) (hx : x < 2 ^ 64) (h0 : -9223372036854775808 ≤ n) (h1 : n ≤ 9223372036854775807) (w : World) (h : ByteSl w bv l) :
    Calls Try.prog 5 #[.int .u64 x, .int .i64 n, bv] w fun e w' => e = .returned (.bool true) ∧ Below w.heap.size w w' := by
  obtain ⟨hl, h⟩ := h
  rcases h with ⟨A, cap, rfl, hm, rfl⟩ | ⟨b, off, len, cap, rfl, hn, hlc, hm, hb, hc⟩
  · exact bitsBytes_core x n _ 0 hx h0 h1 w (fun w' _ => num_nil A cap hm w') (fun w' _ => refnum_nil A cap w')
  · refine bitsBytes_core x n _ (numK l 8) hx h0 h1 w (fun w' h => number_any b off len cap l hl hn hlc hm w' (fun k hk => ((bcell h).1 b _ hb).trans (hc k hk))) (fun w' h => ?_)
    have := refnum_any b off cap l hl (by omega) hm w' (fun k hk => ((bcell h).1 b _ hb).trans (hc k (by omega)))
    rw [hn] at this
    exact this
end Go.Proofs.Ytigbdndjlkmemaa
