/- Whether a field's name stands ahead: the library's search with the program's own function value. Conditions: the fields lie in memory. -/
import Derived.Test.YtlbkloamabomcaaKindDepth
namespace Go.Proofs.Ytlbkloamabomcaa
open Go.RowKit Go.Sort
set_option linter.unusedVariables false
set_option linter.unusedSimpArgs false
/-- the fields' cells: each a name, a type's cells, two more. -/
def FdCells (w : World) (b off m : Nat) (nm : Nat → ByteArray) : Prop :=
  ∀ j, j < m → ∃ (q : Raw) (bt : Bool) (wd : Int), w.cell? ⟨b, off + j * 9, none⟩ = some (.string (nm j)) ∧ w.cell? ⟨b, off + j * 9 + 1, none⟩ = some (.int .i64 q.kind) ∧ w.cell? ⟨b, off + j * 9 + 2, none⟩ = some (.int .i64 q.size) ∧
    w.cell? ⟨b, off + j * 9 + 3, none⟩ = some (.bool q.packed) ∧ w.cell? ⟨b, off + j * 9 + 4, none⟩ = some (.slice q.fa q.fl q.fc) ∧ w.cell? ⟨b, off + j * 9 + 5, none⟩ = some (.int .i64 q.count) ∧
    w.cell? ⟨b, off + j * 9 + 6, none⟩ = some (.slice q.ea q.el q.ec) ∧ w.cell? ⟨b, off + j * 9 + 7, none⟩ = some (.bool bt) ∧ w.cell? ⟨b, off + j * 9 + 8, none⟩ = some (.int .i64 wd)
def idxF (nm : Nat → ByteArray) (s : ByteArray) (m : Nat) : Int := match (List.range m).find? (fun j => (nm j).toList == s.toList) with
  | some j => j
  | none => -1
def anyB (nm : Nat → ByteArray) (s : ByteArray) (m : Nat) : Bool := (List.range m).any (fun j => (nm j).toList == s.toList)
theorem idxF_hit (nm : Nat → ByteArray) (s : ByteArray) (m k : Nat) (hk : k < m) (h : ((nm k).toList == s.toList) = true) (ha : ∀ j, j < k → ((nm j).toList == s.toList) = false) : idxF nm s m = k := by
  unfold idxF
  have : (List.range m).find? (fun j => (nm j).toList == s.toList) = some k := by
    rw [List.find?_range_eq_some]
    exact ⟨h, List.mem_range.2 hk, fun j hj => by simpa using ha j hj⟩
  rw [this]
theorem idxF_none (nm : Nat → ByteArray) (s : ByteArray) (m : Nat) (ha : ∀ j, j < m → ((nm j).toList == s.toList) = false) : idxF nm s m = -1 := by
  unfold idxF
  have : (List.range m).find? (fun j => (nm j).toList == s.toList) = none := by
    rw [List.find?_eq_none]
    intro j hj
    simpa using ha j (List.mem_range.1 hj)
  rw [this]
theorem anyB_eq (nm : Nat → ByteArray) (s : ByteArray) (m : Nat) : decide (0 ≤ idxF nm s m) = anyB nm s m := by
  unfold idxF anyB
  cases h : (List.range m).find? (fun j => (nm j).toList == s.toList) with
  | none =>
    rw [List.find?_eq_none] at h
    rw [show (List.range m).any (fun j => (nm j).toList == s.toList) = false by
      rw [List.any_eq_false]; intro j hj; simpa using h j hj]
    decide
  | some j =>
    have h1 := List.find?_some h
    have h2 := List.mem_of_find?_eq_some h
    rw [List.any_eq_true.2 ⟨j, h2, h1⟩]
    simp
theorem fclos_any (s t : ByteArray) (q : Raw) (bt : Bool) (wd : Int) (bx : Nat) (w : World) (hbx : bx < w.heap.size) (hc : w.cell? ⟨bx, 0, none⟩ = some (.string t)) :
    Calls Try.prog 96 #[.agg #[.string s, .int .i64 q.kind, .int .i64 q.size, .bool q.packed, .slice q.fa q.fl q.fc, .int .i64 q.count, .slice q.ea q.el q.ec, .bool bt, .int .i64 wd], .pointer (some ⟨bx, 0, none⟩)] w (Gives w (.bool (s.toList == t.toList))) := by
  go_enter Try.func96, Try.ntmps96
  go_wp2
  go_ret
  exact Gives.mk rfl (by repeat (first | exact Below.refl _ _ | refine below_al ?_ _))
set_option maxHeartbeats 1000000 in
theorem index_any (b off m cap : Nat) (nm : Nat → ByteArray) (s : ByteArray) (bx : Nat) (w : World) (hb : b < w.heap.size) (hbx : bx < w.heap.size) (hm : m ≤ 9223372036854775807)
    (hc : FdCells w b off m nm) (hs : w.cell? ⟨bx, 0, none⟩ = some (.string s)) :
    Calls Try.prog 58 #[.slice (some ⟨b, off, none⟩) m cap, .func (Fn.func 96) #[] #[.pointer (some ⟨bx, 0, none⟩)]] w (Gives w (.int .i64 (idxF nm s m))) := by
  have HC := Lib.hid hc
  have HH := Lib.hid (idxF_hit nm s m)
  have HN := Lib.hid (idxF_none nm s m)
  clear hc
  go_enter Try.func58, Try.ntmps58
  go_wp2_with fail
  go_loopw [5, 8] (fun _ i wr => ∃ k : Nat, k ≤ m ∧ i = .int .i64 k ∧ (∀ j, j < k → ((nm j).toList == s.toList) = false) ∧ ∃ p : Regrown, wr = more w p) (fun _ i _ => m - (intOf i).toNat)
  case atStart => exact ⟨0, by omega, rfl, fun j hj => by omega, more_of_below (Below.refl _ _)⟩
  case round =>
    obtain ⟨k, hk, rfl, hall, p, rfl⟩ := hrel
    by_cases hlt : (k : Int) < m
    · obtain ⟨q, bt, wd, c0, c1, c2, c3, c4, c5, c6, c7, c8⟩ := HC.out k (by omega)
      have HA := Lib.hid hall
      clear hall
      generalize hN : nm k = t at *
      have HNM := Lib.hid hN
      clear hN
      have F := fun W h1 h2 => fclos_any t s q bt wd bx W h1 h2
      cases he : (t.toList == s.toList)
      · rw [he] at F
        have HF := Lib.hid F
        have HA2 : Hid (∀ j, j < k + 1 → ((nm j).toList == s.toList) = false) := Lib.hid (fun j hj => by
          rcases Nat.lt_or_ge j k with h | h
          · exact HA.out j h
          · obtain rfl : j = k := by omega
            rw [HNM.out]; exact he)
        clear F he
        go_wp2_with (go_at_call 96; refine (HF.out _ (by simp [go_sem]; omega) (by simp [go_sem, hbx, hs])).mono ?_; rintro e w1 ⟨rfl, p1, rfl⟩)
        go_roundw
        case rel => exact ⟨k + 1, by omega, by go_num, HA2.out, more_of_below (by repeat (first | exact Below.refl _ _ | refine below_mo ?_ _ | refine below_al ?_ _))⟩
        case measure => simp [intOf]; omega
      · rw [he] at F
        have HF := Lib.hid F
        have HI := Lib.hid (HH.out k (by omega) (by rw [HNM.out]; exact he) HA.out)
        clear F he
        go_wp2_with (go_at_call 96; refine (HF.out _ (by simp [go_sem]; omega) (by simp [go_sem, hbx, hs])).mono ?_; rintro e w1 ⟨rfl, p1, rfl⟩)
        go_ret
        exact Gives.mk (ret_int (by rw [HI.out])) (by repeat (first | exact Below.refl _ _ | refine below_mo ?_ _ | refine below_al ?_ _))
    · obtain rfl : k = m := by omega
      have HI := Lib.hid (HN.out hall)
      clear hall
      go_wp2_with fail
      go_ret
      exact Gives.mk (ret_int (by rw [HI.out])) (by repeat (first | exact Below.refl _ _ | refine below_mo ?_ _ | refine below_al ?_ _))
theorem contains_any (b off m cap : Nat) (nm : Nat → ByteArray) (s : ByteArray) (bx : Nat) (w : World) (hb : b < w.heap.size) (hbx : bx < w.heap.size) (hm : m ≤ 9223372036854775807)
    (hc : FdCells w b off m nm) (hs : w.cell? ⟨bx, 0, none⟩ = some (.string s)) :
    Calls Try.prog 64 #[.slice (some ⟨b, off, none⟩) m cap, .func (Fn.func 96) #[] #[.pointer (some ⟨bx, 0, none⟩)]] w (Gives w (.bool (anyB nm s m))) := by
  have HI := Lib.hid (index_any b off m cap nm s bx w hb hbx hm hc hs)
  have HA := Lib.hid (anyB_eq nm s m)
  clear hc
  go_enter Try.func64, Try.ntmps64
  go_wp2_with (go_at_call 58; refine HI.out.mono ?_; rintro e w1 ⟨rfl, p, rfl⟩)
  go_ret
  exact Gives.mk (ret_bool (by rw [← HA.out])) (by repeat (first | exact Below.refl _ _ | refine below_mo ?_ _ | refine below_al ?_ _))
end Go.Proofs.Ytlbkloamabomcaa
