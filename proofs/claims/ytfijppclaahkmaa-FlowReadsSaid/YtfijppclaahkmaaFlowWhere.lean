/- Walks: where an instruction goes to memory; branches. Conditions: the instruction's numbers are as one that has a word. -/
import Derived.Test.YtfijppclaahkmaaFlowSmall
import Derived.Test.YtfijppclaahkmaaA64Enc
namespace Go.Proofs.Ytfijppclaahkmaa
open Go.RowKit Go.Sort
set_option linter.unusedVariables false
set_option linter.unusedSimpArgs false
def St.ok (s : St) : Prop := (∀ k, s.x k < 2 ^ 64) ∧ rngI s.pc ∧ rngI s.wa ∧ rngI s.wl
theorem getX_lt {s : St} (h : s.ok) (n : Int) : getX s n < 18446744073709551616 := by
  unfold getX
  split
  · omega
  · exact h.1 _
def lenI (i : Ins) : Int := if 25 ≤ i.op ∧ i.op ≤ 28 then 16 else 2 ^ i.sz.toNat
def atN (s : St) (i : Ins) : Int := ((getX s i.n : Int) + if i.op = 17 ∨ i.op = 18 then i.imm * 2 ^ i.sz.toNat else 0) % 18446744073709551616
def spanA (s : St) (i : Ins) : Int := if 1099511627776 ≤ atN s i then -1 else atN s i
def spV (a l : Int) : Value := .agg #[.int .i64 a, .int .i64 l]
theorem cell_lt {w : World} {a : Addr} {v : Value} (h : w.cell? a = some v) : a.block < w.heap.size := by
  rcases Nat.lt_or_ge a.block w.heap.size with hl | hl
  · exact hl
  · rw [World.cell?, Array.getElem?_eq_none hl] at h
    simp at h
theorem StAt.lt {w : World} {B : Nat} {s : St} (h : StAt w B s) : B < w.heap.size := cell_lt (h 0 (by omega)).1
theorem StAt.below {w w' : World} {B : Nat} {s : St} (h : StAt w B s) (hb : Below w.heap.size w w') : StAt w' B s := fun k hk =>
  ⟨(hb.cell (p := ⟨B, k, none⟩) h.lt).trans (h k hk).1, (hb.frozen (p := ⟨B, k, none⟩) h.lt).trans (h k hk).2⟩
set_option maxHeartbeats 1000000 in
theorem where_fl (s : St) (i : Ins) (hf : Facts i) (hs : s.ok) (B : Nat) (w : World) (hS : StAt w B s) : Calls Try.prog 23 #[.pointer (some ⟨B, 0, none⟩), insV i] w (Gives w (spV (spanA s i) (lenI i))) := by
  have G := Lib.hid (fun W h => fget_any s i.n hf.n B W h)
  have P := Lib.hid (pair_fl i.op)
  have HS := Lib.hid (fun (W : World) (h : Below w.heap.size w W) => hS.below h)
  have e1 : Hid (lenI i = if 25 ≤ i.op ∧ i.op ≤ 28 then 16 else 2 ^ i.sz.toNat) := Lib.hid rfl
  have e2 : Hid (spanA s i = if 1099511627776 ≤ atN s i then -1 else atN s i) := Lib.hid rfl
  have e3 : Hid (atN s i = ((getX s i.n : Int) + if i.op = 17 ∨ i.op = 18 then i.imm * 2 ^ i.sz.toNat else 0) % 18446744073709551616) := Lib.hid rfl
  have hg := getX_lt hs i.n
  unfold paB at P
  unfold spV
  generalize spanA s i = A at e2 ⊢
  generalize lenI i = L at e1 ⊢
  generalize atN s i = T at e2 e3
  have f1 := hf.op
  have f2 := hf.n
  have f3 := hf.sz
  have f4 := hf.page
  have f5 := hf.small
  clear hf hs
  obtain ⟨op, d, n, m, e, sz, imm⟩ := i
  unfold insV
  simp only at *
  generalize getX s n = g at *
  have hy : ∃ y : Int, (g : Int) = y ∧ 0 ≤ y ∧ y < 18446744073709551616 := ⟨g, rfl, by omega, by omega⟩
  obtain ⟨y, hy0, y1, y2⟩ := hy
  rw [hy0] at G e3
  clear hy0 hg
  clear g
  have hp : ∃ t : Int, (2 : Int) ^ sz.toNat = t ∧ 1 ≤ t ∧ t ≤ 8 := by
    have : sz = 0 ∨ sz = 1 ∨ sz = 2 ∨ sz = 3 := by omega
    rcases this with rfl | rfl | rfl | rfl <;> simp
  obtain ⟨t, ht, t1, t2⟩ := hp
  rw [ht] at e1 e3
  have hop : (25 ≤ op ∧ op ≤ 28) ∨ (op = 17 ∨ op = 18) ∨ (op ≠ 17 ∧ op ≠ 18 ∧ ¬ (25 ≤ op ∧ op ≤ 28)) := by omega
  have hfar : 1099511627776 ≤ T ∨ T < 1099511627776 := by omega
  rcases hop with ⟨h1, h2⟩ | h1 | ⟨h1, h2, h3⟩
  · have q1 := e1.out
    rw [if_pos ⟨h1, h2⟩] at q1
    subst q1
    have q2 := e2.out
    have q3 := e3.out
    rw [if_neg (by omega)] at q3
    have q4 : T = y := by omega
    subst q4
    have n1 : (op == 17) = false := by simp; omega
    have n2 : (op == 18) = false := by simp; omega
    clear q3 e1 e3 e2 f4 f5
    rw [decide_eq_true ⟨h1, h2⟩] at P
    rcases hfar with h | h
    · rw [if_pos h] at q2
      subst q2
      go_enter Try.func23, Try.ntmps23
      go_wp2_with (first
        | (go_at_call 26; refine (P.out _).mono ?_; rintro e w1 ⟨rfl, rfl⟩)
        | (go_at_call 25; refine (G.out _ (HS.out _ (by repeat (first | exact Below.refl _ _ | refine below_al ?_ _)))).mono ?_; rintro e w1 ⟨rfl, rfl⟩))
      go_returns
      exact Gives.mk (by first | rfl | (congr 3; simp [q4]; done) | (rw [q4]; rfl)) (by repeat (first | exact Below.refl _ _ | refine below_al ?_ _))
    · rw [if_neg (by omega)] at q2
      subst q2
      go_enter Try.func23, Try.ntmps23
      go_wp2_with (first
        | (go_at_call 26; refine (P.out _).mono ?_; rintro e w1 ⟨rfl, rfl⟩)
        | (go_at_call 25; refine (G.out _ (HS.out _ (by repeat (first | exact Below.refl _ _ | refine below_al ?_ _)))).mono ?_; rintro e w1 ⟨rfl, rfl⟩))
      go_returns
      exact Gives.mk (by first | rfl | (congr 3; simp [q4]; done) | (rw [q4]; rfl)) (by repeat (first | exact Below.refl _ _ | refine below_al ?_ _))
  · have q1 := e1.out
    rw [if_neg (by omega)] at q1
    have q2 := e2.out
    have q3 := e3.out
    rw [if_pos h1] at q3
    have f6 := f4 h1
    have f7 := f5 (by omega)
    have n3 : ¬ (25 ≤ op ∧ op ≤ 28) := by omega
    have m1 : 0 ≤ imm * t := Int.mul_nonneg f7.1 (by omega)
    have m2 : imm * t ≤ 4095 * 8 := Int.mul_le_mul f6 t2 (by omega) (by omega)
    have q4 := q3
    rw [← IntKind.wrap_u64] at q4
    clear f4 f5 e1 e3 e2
    rw [decide_eq_false n3] at P
    clear n3
    rcases hfar with h | h
    · rw [if_pos h] at q2
      subst q2
      subst q1
      rcases h1 with rfl | rfl
      all_goals
        go_enter Try.func23, Try.ntmps23
        go_wp2_with (first
          | (go_at_call 26; refine (P.out _).mono ?_; rintro e w1 ⟨rfl, rfl⟩)
          | (go_at_call 25; refine (G.out _ (HS.out _ (by repeat (first | exact Below.refl _ _ | refine below_al ?_ _)))).mono ?_; rintro e w1 ⟨rfl, rfl⟩))
        go_returns
        exact Gives.mk (by first | rfl | (congr 3; simp [q4]; done) | (rw [q4]; rfl)) (by repeat (first | exact Below.refl _ _ | refine below_al ?_ _))
    · rw [if_neg (by omega)] at q2
      have h0 : 0 ≤ T := by omega
      subst q2
      subst q1
      rcases h1 with rfl | rfl
      all_goals
        go_enter Try.func23, Try.ntmps23
        go_wp2_with (first
          | (go_at_call 26; refine (P.out _).mono ?_; rintro e w1 ⟨rfl, rfl⟩)
          | (go_at_call 25; refine (G.out _ (HS.out _ (by repeat (first | exact Below.refl _ _ | refine below_al ?_ _)))).mono ?_; rintro e w1 ⟨rfl, rfl⟩))
        go_returns
        exact Gives.mk (by first | rfl | (congr 3; simp [q4]; done) | (rw [q4]; rfl)) (by repeat (first | exact Below.refl _ _ | refine below_al ?_ _))
  · have q1 := e1.out
    rw [if_neg h3] at q1
    have q2 := e2.out
    have q3 := e3.out
    rw [if_neg (by omega)] at q3
    have q4 : T = y := by omega
    subst q4
    have n1 : (op == 17) = false := by simp; omega
    have n2 : (op == 18) = false := by simp; omega
    clear q3 e1 e3 e2 f4 f5
    rw [decide_eq_false h3] at P
    clear h3 h1 h2
    subst q1
    rcases hfar with h | h
    · rw [if_pos h] at q2
      subst q2
      go_enter Try.func23, Try.ntmps23
      go_wp2_with (first
        | (go_at_call 26; refine (P.out _).mono ?_; rintro e w1 ⟨rfl, rfl⟩)
        | (go_at_call 25; refine (G.out _ (HS.out _ (by repeat (first | exact Below.refl _ _ | refine below_al ?_ _)))).mono ?_; rintro e w1 ⟨rfl, rfl⟩))
      go_returns
      exact Gives.mk (by first | rfl | (congr 3; simp [q4]; done) | (rw [q4]; rfl)) (by repeat (first | exact Below.refl _ _ | refine below_al ?_ _))
    · rw [if_neg (by omega)] at q2
      subst q2
      go_enter Try.func23, Try.ntmps23
      go_wp2_with (first
        | (go_at_call 26; refine (P.out _).mono ?_; rintro e w1 ⟨rfl, rfl⟩)
        | (go_at_call 25; refine (G.out _ (HS.out _ (by repeat (first | exact Below.refl _ _ | refine below_al ?_ _)))).mono ?_; rintro e w1 ⟨rfl, rfl⟩))
      go_returns
      exact Gives.mk (by first | rfl | (congr 3; simp [q4]; done) | (rw [q4]; rfl)) (by repeat (first | exact Below.refl _ _ | refine below_al ?_ _))
end Go.Proofs.Ytfijppclaahkmaa
