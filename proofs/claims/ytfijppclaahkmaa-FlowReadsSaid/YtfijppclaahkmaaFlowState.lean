/- A thread's registers, as a row of 36 values. No condition. -/
import Derived.Test.YtfijppclaahkmaaMore
import Derived.Test.YtfijppclaahkmaaProg
import Derived.Deep.WholeRow
import Derived.ChangeKeysEq
import Derived.Handy
namespace Go.Proofs.Ytfijppclaahkmaa
open Go.RowKit Go.Sort
set_option linter.unusedVariables false
set_option linter.unusedSimpArgs false
def stC (f : Nat → Value) : Array Value := ((List.range 36).map f).toArray
def upd (f : Nat → Value) (k : Nat) (v : Value) : Nat → Value := fun j => if j = k then v else f j
@[go_sem] theorem stC_size (f : Nat → Value) : (stC f).size = 36 := by simp [stC]
@[go_sem] theorem stC_get (f : Nat → Value) (k : Nat) : (stC f)[k]? = if k < 36 then some (f k) else none := by
  unfold stC
  by_cases h : k < 36 <;> simp [h]
@[go_sem] theorem stC_at (f : Nat → Value) (k : Nat) (h : k < (stC f).size) : (stC f)[k]'h = f k := by
  have h2 := stC_get f k
  rw [stC_size] at h
  rw [if_pos h] at h2
  exact (Array.getElem?_eq_some_iff.mp h2).2
@[go_sem] theorem stC_set (f : Nat → Value) (k : Nat) (v : Value) : (stC f).setIfInBounds k v = stC (upd f k v) := by
  apply Array.ext_getElem?
  intro j
  rw [Array.getElem?_setIfInBounds, stC_size]
  by_cases h : k = j
  · subst h
    rw [if_pos rfl, stC_get]
    simp [upd]
  · rw [if_neg h, stC_get, stC_get]
    unfold upd
    rw [if_neg (show ¬ j = k from fun e => h e.symm)]
/-- registers: numbers, the next instruction, flags, what is watched. -/
structure St where
  x : Nat → Nat
  pc : Int
  z : Bool
  c : Bool
  wa : Int
  wl : Int
def St.f (s : St) (k : Nat) : Value := if k < 31 then .int .u64 (s.x k) else if k = 31 then .int .i64 s.pc else if k = 32 then .bool s.z else if k = 33 then .bool s.c else if k = 34 then .int .i64 s.wa else .int .i64 s.wl
def stV (s : St) : Value := .agg (stC s.f)
def St.zero : St := ⟨fun _ => 0, 0, false, false, 0, 0⟩
theorem info_st : (Try.prog.info? 27).map (·.size) = some 36 := by kernel_rfl
theorem zero_st (W : World) : (zeroValue 27).run Try.prog W = .ok (stV St.zero) W := by kernel_rfl
def setX (s : St) (n : Int) (v : Nat) : St := if n = 31 then s else { s with x := fun k => if (k : Int) = n then v else s.x k }
def getX (s : St) (n : Int) : Nat := if n = 31 then 0 else s.x n.toNat
theorem f_one (s : St) (k : Nat) : (s.f k).oneCell' = true := by
  unfold St.f
  repeat' split
  all_goals rfl
theorem stC_one (s : St) : (stC s.f).all (·.oneCell') = true := by
  unfold stC
  simp [f_one]
theorem f_x (s : St) {k : Nat} (h : k < 31) : s.f k = .int .u64 (s.x k) := by unfold St.f; rw [if_pos h]
theorem f_pc (s : St) : s.f 31 = .int .i64 s.pc := rfl
theorem f_z (s : St) : s.f 32 = .bool s.z := rfl
theorem f_c (s : St) : s.f 33 = .bool s.c := rfl
theorem f_wa (s : St) : s.f 34 = .int .i64 s.wa := rfl
theorem f_wl (s : St) : s.f 35 = .int .i64 s.wl := rfl
theorem stC_ext {f g : Nat → Value} (h : ∀ k, k < 36 → f k = g k) : stC f = stC g := by
  unfold stC
  congr 1
  apply List.map_congr_left
  intro k hk
  exact h k (List.mem_range.1 hk)
/-- registers lie in a block. -/
def StAt (w : World) (B : Nat) (s : St) : Prop := ∀ k, k < 36 → w.cell? ⟨B, k, none⟩ = some (s.f k) ∧ w.frozen? ⟨B, k, none⟩ = false
theorem fget_any (s : St) (n : Int) (hn : 0 ≤ n ∧ n ≤ 31) (B : Nat) (w : World) (hS : StAt w B s) : Calls Try.prog 25 #[.pointer (some ⟨B, 0, none⟩), .int .i64 n] w fun e w' => e = .returned (.int .u64 (getX s n : Nat)) ∧ w' = w := by
  obtain ⟨k, rfl⟩ : ∃ k : Nat, n = k := ⟨n.toNat, by omega⟩
  by_cases h : k = 31
  · subst h
    go_enter Try.func25, Try.ntmps25
    go_wp2
    go_ret
    exact ⟨rfl, rfl⟩
  · have hk : k < 31 := by omega
    have hc := (hS k (by omega)).1
    rw [f_x s hk] at hc
    have e : getX s (k : Int) = s.x k := by
      unfold getX
      rw [if_neg (by omega)]
      simp
    rw [e]
    generalize s.x k = x at hc ⊢
    go_enter Try.func25, Try.ntmps25
    go_wp2
    go_ret
    exact ⟨rfl, rfl⟩
theorem rX_any (s : St) (n : Int) (hn : 0 ≤ n ∧ n ≤ 31) (w : World) : Calls Try.prog 11 #[stV s, .int .i64 n] w (Gives w (.int .u64 (getX s n : Nat))) := by
  obtain ⟨k, rfl⟩ : ∃ k : Nat, n = k := ⟨n.toNat, by omega⟩
  unfold stV
  by_cases h : k = 31
  · subst h
    go_enter Try.func11, Try.ntmps11
    go_wp2
    go_ret
    exact Gives.mk rfl (by repeat (first | exact Below.refl _ _ | refine below_al ?_ _))
  · have hk : k < 31 := by omega
    have hc := f_x s hk
    have e : getX s (k : Int) = s.x k := by
      unfold getX
      rw [if_neg (by omega)]
      simp
    rw [e]
    generalize s.x k = x at hc ⊢
    generalize s.f = f at hc ⊢
    go_enter Try.func11, Try.ntmps11
    go_wp2
    go_ret
    exact Gives.mk rfl (by repeat (first | exact Below.refl _ _ | refine below_al ?_ _))
end Go.Proofs.Ytfijppclaahkmaa
