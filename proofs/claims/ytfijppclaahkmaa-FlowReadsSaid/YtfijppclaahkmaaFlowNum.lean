/- Walks: what a register is set to; whether a branch is taken; how many bytes. Conditions: the instruction's numbers are as one that has a word. -/
import Derived.Test.YtfijppclaahkmaaFlowWhere
namespace Go.Proofs.Ytfijppclaahkmaa
open Go.RowKit Go.Sort
set_option linter.unusedVariables false
set_option linter.unusedSimpArgs false
theorem fget_gives (s : St) (n : Int) (hn : 0 ≤ n ∧ n ≤ 31) (B : Nat) (w : World) (hS : StAt w B s) : Calls Try.prog 25 #[.pointer (some ⟨B, 0, none⟩), .int .i64 n] w (Gives w (.int .u64 (getX s n : Nat))) :=
  gives_same ((fget_any s n hn B w hS).mono fun _ _ ⟨a, b⟩ => ⟨a, b.symm⟩)
def takB (s : St) (i : Ins) : Bool := if i.op = 13 then true else if i.op = 14 then hoB s i.e else if i.op = 15 then ((getX s i.d : Nat) : Int) == 0 else if i.op = 16 then ((getX s i.d : Nat) : Int) != 0 else false
/-- what a register is set to. -/
def numI (s : St) (i : Ins) : Int :=
  if i.op = 1 then IntKind.u64.wrap (i.imm * 2 ^ (16 * i.e).toNat)
  else if i.op = 2 then (putN (getX s i.d) (16 * i.e) 16 i.imm.toNat : Nat)
  else if i.op = 3 then IntKind.u64.wrap ((getX s i.n : Int) + (getX s i.m : Int))
  else if i.op = 4 ∨ i.op = 5 then IntKind.u64.wrap ((getX s i.n : Int) - (getX s i.m : Int))
  else if i.op = 6 then bits .and .u64 (getX s i.n) (getX s i.m)
  else if i.op = 7 then bits .or .u64 (getX s i.n) (getX s i.m)
  else if i.op = 8 then bits .xor .u64 (getX s i.n) (getX s i.m)
  else if i.op = 9 then IntKind.u64.wrap ((getX s i.n : Int) * (getX s i.m : Int))
  else if i.op = 10 then IntKind.u64.wrap ((getX s i.n : Int) * 2 ^ ((getX s i.m : Int) % 64).toNat)
  else if i.op = 11 then (getX s i.n : Int) / 2 ^ ((getX s i.m : Int) % 64).toNat
  else if i.op = 12 then (if hoB s i.e then 1 else 0)
  else 0
def numB (op : Int) : Bool := decide (1 ≤ op ∧ op ≤ 12)
set_option maxHeartbeats 1000000 in
theorem number_fl (s : St) (i : Ins) (hf : Facts i) (hs : s.ok) (B : Nat) (w : World) (hS : StAt w B s) : Calls Try.prog 32 #[.pointer (some ⟨B, 0, none⟩), insV i] w (Gives w (.tuple #[.int .u64 (numI s i), .bool (numB i.op)])) := by
  have G := Lib.hid (fun n hn W h => fget_gives s n hn B W h)
  have hn := hf.n
  have hm := hf.m
  have hd := hf.d
  have HO := Lib.hid (fun W h => gives_same (holds_fl s i.e B W h))
  have HS := Lib.hid (fun (W : World) (h : Below w.heap.size w W) => StAt.below hS h)
  have gn := getX_lt hs i.n
  have gm := getX_lt hs i.m
  have gd := getX_lt hs i.d
  have f1 := hf.op
  have f3 := hf.four
  have f4 := hf.e
  have f5 := hf.small
  have e1 := Lib.hid (numI.eq_1 s i)
  clear hf hs
  generalize numI s i = V at e1 ⊢
  obtain ⟨op, d, n, m, e, sz, imm⟩ := i
  unfold insV
  simp only at *
  generalize hoB s e = H at *
  have hop : op = 1 ∨ op = 2 ∨ op = 3 ∨ op = 4 ∨ op = 5 ∨ op = 6 ∨ op = 7 ∨ op = 8 ∨ op = 9 ∨ op = 10 ∨ op = 11 ∨ op = 12 ∨ (13 ≤ op ∧ ¬ op = 1 ∧ ¬ op = 2 ∧ ¬ op = 3 ∧ ¬ (op = 4 ∨ op = 5) ∧ ¬ op = 6 ∧ ¬ op = 7 ∧ ¬ op = 8 ∧ ¬ op = 9 ∧ ¬ op = 10 ∧ ¬ op = 11 ∧ ¬ op = 12) := by omega
  rcases hop with rfl | rfl | rfl | rfl | rfl | rfl | rfl | rfl | rfl | rfl | rfl | rfl | ⟨hh, k1, k2, k3, k4, k6, k7, k8, k9, k10, k11, k12⟩
  case inr.inr.inr.inr.inr.inr.inr.inr.inr.inr.inr.inr =>
    have q1 := e1.out
    rw [if_neg k1, if_neg k2, if_neg k3, if_neg k4, if_neg k6, if_neg k7, if_neg k8, if_neg k9, if_neg k10, if_neg k11, if_neg k12] at q1
    subst q1
    rw [show numB op = false from decide_eq_false (by omega)]
    have j1 : (op == 1) = false := by simpa using k1
    have j2 : (op == 2) = false := by simpa using k2
    have j3 : (op == 3) = false := by simpa using k3
    have j4 : (op == 4) = false := by simp; omega
    have j5 : (op == 5) = false := by simp; omega
    have j6 : (op == 6) = false := by simpa using k6
    have j7 : (op == 7) = false := by simpa using k7
    have j8 : (op == 8) = false := by simpa using k8
    have j9 : (op == 9) = false := by simpa using k9
    have j10 : (op == 10) = false := by simpa using k10
    have j11 : (op == 11) = false := by simpa using k11
    have j12 : (op == 12) = false := by simpa using k12
    clear k1 k2 k3 k4 k6 k7 k8 k9 k10 k11 k12 e1 f3 f5
    go_enter Try.func32, Try.ntmps32
    go_wp2_with fail
    refine wp_quiet_more (by kernel_rfl) (by kernel_rfl) ?_
    repeat (go_big_quiet_step (first | (go_at_call 25; exact quiet_more (G.out _ (by omega) _ (HS.out _ (by repeat (first | exact Below.refl _ _ | refine below_mo ?_ _ | refine below_al ?_ _)))))))
    refine wpQuiet_nil ?_
    intro p
    go_wp2_with fail
    go_returns
    exact Gives.mk rfl (by repeat (first | exact Below.refl _ _ | refine below_mo ?_ _ | refine below_al ?_ _))
  case inr.inl =>
    have q1 := e1.out
    simp at q1
    rw [show numB 2 = true from decide_eq_true (by omega)]
    have f6 := f3 (by omega)
    have f7 := f5 (by omega)
    obtain ⟨im, rfl⟩ : ∃ im : Nat, imm = im := ⟨imm.toNat, by omega⟩
    have PU := Lib.hid (fun W => gives_drew (bput_any (getX s d) im (16 * e) 16 gd (by omega) (by omega) (by omega) W))
    simp at q1
    clear e1 f3 f5
    go_enter Try.func32, Try.ntmps32
    go_wp2_with fail
    refine wp_quiet_more (by kernel_rfl) (by kernel_rfl) ?_
    repeat (go_big_quiet_step (first | (go_at_call 25; exact quiet_more (G.out _ (by omega) _ (HS.out _ (by repeat (first | exact Below.refl _ _ | refine below_mo ?_ _ | refine below_al ?_ _)))))))
    refine wpQuiet_nil ?_
    intro p
    go_wp2_with fail
    refine wp_quiet_more (by kernel_rfl) (by kernel_rfl) ?_
    repeat (go_big_quiet_step (first | (go_at_call 25; exact quiet_more (G.out _ (by omega) _ (HS.out _ (by repeat (first | exact Below.refl _ _ | refine below_mo ?_ _ | refine below_al ?_ _))))) | (go_at_call 41; exact quiet_more (PU.out _))))
    refine wpQuiet_nil ?_
    intro p2
    go_wp2_with fail
    go_returns
    exact Gives.mk (by rw [q1]; rfl) (by repeat (first | exact Below.refl _ _ | refine below_mo ?_ _ | refine below_al ?_ _))
  case inr.inr.inr.inr.inr.inr.inr.inr.inr.inr.inr.inl =>
    have q1 := e1.out
    simp at q1
    rw [show numB 12 = true from decide_eq_true (by omega)]
    clear e1 f3 f5
    cases H
    all_goals
      simp at q1
      go_enter Try.func32, Try.ntmps32
      go_wp2_with fail
      refine wp_quiet_more (by kernel_rfl) (by kernel_rfl) ?_
      repeat (go_big_quiet_step (first | (go_at_call 25; exact quiet_more (G.out _ (by omega) _ (HS.out _ (by repeat (first | exact Below.refl _ _ | refine below_mo ?_ _ | refine below_al ?_ _)))))))
      refine wpQuiet_nil ?_
      intro p
      go_wp2_with (first
        | (go_at_call 40; refine (HO.out _ (HS.out _ (by repeat (first | exact Below.refl _ _ | refine below_mo ?_ _ | refine below_al ?_ _)))).mono ?_; rintro e w1 ⟨rfl, p1, rfl⟩))
      go_returns
      exact Gives.mk (by rw [q1]; rfl) (by repeat (first | exact Below.refl _ _ | refine below_mo ?_ _ | refine below_al ?_ _))
  all_goals
    have q1 := e1.out
    simp at q1
    rw [show numB _ = true from decide_eq_true (by omega)]
    try have f6 := f3 (by omega)
    have f7 := f5 (by omega)
    clear e1 f3 f5
    go_enter Try.func32, Try.ntmps32
    go_wp2_with fail
    refine wp_quiet_more (by kernel_rfl) (by kernel_rfl) ?_
    repeat (go_big_quiet_step (first | (go_at_call 25; exact quiet_more (G.out _ (by omega) _ (HS.out _ (by repeat (first | exact Below.refl _ _ | refine below_mo ?_ _ | refine below_al ?_ _)))))))
    refine wpQuiet_nil ?_
    intro p
    go_wp2_with fail
    go_returns
    exact Gives.mk (by rw [q1]; rfl) (by repeat (first | exact Below.refl _ _ | refine below_mo ?_ _ | refine below_al ?_ _))
set_option maxHeartbeats 1000000 in
theorem taken_fl (s : St) (i : Ins) (hf : Facts i) (hs : s.ok) (B : Nat) (w : World) (hS : StAt w B s) : Calls Try.prog 31 #[.pointer (some ⟨B, 0, none⟩), insV i] w (Gives w (.bool (takB s i))) := by
  have G := Lib.hid (fun n hn W h => fget_gives s n hn B W h)
  have hd := hf.d
  have HO := Lib.hid (fun W h => gives_same (holds_fl s i.e B W h))
  have HS := Lib.hid (fun (W : World) (h : Below w.heap.size w W) => StAt.below hS h)
  have gd := getX_lt hs i.d
  have f1 := hf.op
  have e1 := Lib.hid (takB.eq_1 s i)
  clear hf hs
  generalize takB s i = V at e1 ⊢
  obtain ⟨op, d, n, m, e, sz, imm⟩ := i
  unfold insV
  simp only at *
  generalize hoB s e = H at *
  have hop : op = 13 ∨ op = 14 ∨ op = 15 ∨ op = 16 ∨ (¬ op = 13 ∧ ¬ op = 14 ∧ ¬ op = 15 ∧ ¬ op = 16) := by omega
  rcases hop with rfl | rfl | rfl | rfl | ⟨k1, k2, k3, k4⟩
  case inr.inr.inr.inr =>
    have q1 := e1.out
    rw [if_neg k1, if_neg k2, if_neg k3, if_neg k4] at q1
    subst q1
    have j1 : (op == 13) = false := by simpa using k1
    have j2 : (op == 14) = false := by simpa using k2
    have j3 : (op == 15) = false := by simpa using k3
    have j4 : (op == 16) = false := by simpa using k4
    clear k1 k2 k3 k4 e1
    go_enter Try.func31, Try.ntmps31
    go_wp2_with fail
    go_ret
    exact Gives.mk rfl (by repeat (first | exact Below.refl _ _ | refine below_mo ?_ _ | refine below_al ?_ _))
  all_goals
    have q1 := e1.out
    simp at q1
    clear e1
    go_enter Try.func31, Try.ntmps31
    go_wp2_with (first
      | (go_at_call 25; refine (G.out _ (by omega) _ (HS.out _ (by repeat (first | exact Below.refl _ _ | refine below_mo ?_ _ | refine below_al ?_ _)))).mono ?_; rintro e w1 ⟨rfl, p1, rfl⟩)
      | (go_at_call 40; refine (HO.out _ (HS.out _ (by repeat (first | exact Below.refl _ _ | refine below_mo ?_ _ | refine below_al ?_ _)))).mono ?_; rintro e w1 ⟨rfl, p1, rfl⟩))
    go_ret
    exact Gives.mk (by rw [q1]; first | rfl | simp) (by repeat (first | exact Below.refl _ _ | refine below_mo ?_ _ | refine below_al ?_ _))
end Go.Proofs.Ytfijppclaahkmaa
