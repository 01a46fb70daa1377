/- A world in which nothing but one block has turned, and blocks are laid behind; registers that are set. No condition. -/
import Derived.Test.YtfijppclaahkmaaFlowAskA
namespace Go.Proofs.Ytfijppclaahkmaa
open Go.RowKit Go.Sort
set_option linter.unusedVariables false
set_option linter.unusedSimpArgs false
/-- nothing but block B has turned. -/
inductive Onto (B : Nat) (w : World) : World → Prop
  | refl : Onto B w w
  | set {w1 : World} (h : Onto B w w1) (k : Nat) (v : Value) : Onto B w (w1.setCell ⟨B, k, none⟩ v)
  | more {w1 : World} (h : Onto B w w1) (p : Regrown) : Onto B w (more w1 p)
  | alloc {w1 : World} (h : Onto B w w1) (o : Obj) : Onto B w (w1.alloc o)
theorem Onto.trans {B : Nat} {a b c : World} (h : Onto B a b) (k : Onto B b c) : Onto B a c := by
  induction k with
  | refl => exact h
  | set _ k v ih => exact ih.set k v
  | more _ p ih => exact ih.more p
  | alloc _ o ih => exact ih.alloc o
theorem Onto.size {B : Nat} {a b : World} (h : Onto B a b) : a.heap.size ≤ b.heap.size := by
  induction h with
  | refl => exact Nat.le_refl _
  | set _ k v ih => simpa using ih
  | more _ p ih => rw [more_size]; omega
  | alloc _ o ih => simp; omega
theorem Onto.cell {B : Nat} {a b : World} (h : Onto B a b) {c k : Nat} (hc : c < a.heap.size) (hB : c ≠ B) : b.cell? ⟨c, k, none⟩ = a.cell? ⟨c, k, none⟩ := by
  induction h with
  | refl => rfl
  | set _ k v ih => rw [World.cell?_setCell_other _ _ _ _ (fun e => hB (congrArg Addr.block e).symm)]; exact ih
  | more h1 p ih => rw [(more_below _ p).cell (p := ⟨c, k, none⟩) (Nat.lt_of_lt_of_le hc h1.size)]; exact ih
  | alloc h1 o ih => rw [((Below.refl _ _).alloc (Nat.le_refl _) o).cell (p := ⟨c, k, none⟩) (Nat.lt_of_lt_of_le hc h1.size)]; exact ih
theorem Onto.frozen {B : Nat} {a b : World} (h : Onto B a b) {c k : Nat} (hc : c < a.heap.size) : b.frozen? ⟨c, k, none⟩ = a.frozen? ⟨c, k, none⟩ := by
  induction h with
  | refl => rfl
  | set _ k v ih => rw [World.frozen?_setCell]; exact ih
  | more h1 p ih => rw [(more_below _ p).frozen (p := ⟨c, k, none⟩) (Nat.lt_of_lt_of_le hc h1.size)]; exact ih
  | alloc h1 o ih => rw [((Below.refl _ _).alloc (Nat.le_refl _) o).frozen (p := ⟨c, k, none⟩) (Nat.lt_of_lt_of_le hc h1.size)]; exact ih
theorem Onto.under {B : Nat} {w a b : World} (h : Onto B a b) (hb : Below w.heap.size w a) (hB : w.heap.size ≤ B) : Below w.heap.size w b := by
  induction h with
  | refl => exact hb
  | set _ k v ih => exact below_st ih hB v
  | more _ p ih => exact below_mo ih p
  | alloc _ o ih => exact below_al ih o
theorem stat_alloc {w : World} {B : Nat} {s : St} (h : StAt w B s) (o : Obj) : StAt (w.alloc o) B s := h.below ((Below.refl _ _).alloc (Nat.le_refl _) o)
theorem stat_set {w : World} {B : Nat} {s t : St} (h : StAt w B s) (k : Nat) (v : Value) (hk : k < 36) (hv : t.f k = v) (ho : ∀ j, j < 36 → j ≠ k → t.f j = s.f j) : StAt (w.setCell ⟨B, k, none⟩ v) B t := fun j hj => by
  refine ⟨?_, by rw [World.frozen?_setCell]; exact (h j hj).2⟩
  by_cases e : j = k
  · subst e
    rw [World.cell?_setCell_same _ _ _ (h j hj).1, hv]
  · rw [World.cell?_setCell_other _ _ _ _ (fun h2 => e (congrArg Addr.off h2).symm), (h j hj).1, ho j hj e]
theorem f_out (s : St) {k : Nat} (h : ¬ k < 31) : s.f k = if k = 31 then .int .i64 s.pc else if k = 32 then .bool s.z else if k = 33 then .bool s.c else if k = 34 then .int .i64 s.wa else .int .i64 s.wl := by
  unfold St.f
  rw [if_neg h]
theorem stat_x {w : World} {B : Nat} {s : St} (h : StAt w B s) (n v : Nat) (hn : n < 31) : StAt (w.setCell ⟨B, n, none⟩ (.int .u64 (v : Nat))) B (setX s (n : Int) v) := by
  have e : setX s (n : Int) v = { s with x := fun k => if (k : Int) = n then v else s.x k } := by unfold setX; rw [if_neg (by omega)]
  rw [e]
  refine stat_set h n _ (by omega) ?_ ?_
  · rw [f_x _ hn]; simp
  · intro j hj hjn
    by_cases h1 : j < 31
    · rw [f_x _ h1, f_x _ h1]
      simp only
      rw [if_neg (by omega)]
    · rw [f_out _ h1, f_out _ h1]
theorem stat_pc {w : World} {B : Nat} {s : St} (h : StAt w B s) (v : Int) : StAt (w.setCell ⟨B, 31, none⟩ (.int .i64 v)) B { s with pc := v } := by
  refine stat_set h 31 _ (by omega) rfl ?_
  intro j hj hjn
  by_cases h1 : j < 31
  · rw [f_x _ h1, f_x _ h1]
  · rw [f_out _ h1, f_out _ h1, if_neg hjn, if_neg hjn]
theorem stat_z {w : World} {B : Nat} {s : St} (h : StAt w B s) (v : Bool) : StAt (w.setCell ⟨B, 32, none⟩ (.bool v)) B { s with z := v } := by
  refine stat_set h 32 _ (by omega) rfl ?_
  intro j hj hjn
  by_cases h1 : j < 31
  · rw [f_x _ h1, f_x _ h1]
  · rw [f_out _ h1, f_out _ h1, if_neg hjn, if_neg hjn]
theorem stat_c {w : World} {B : Nat} {s : St} (h : StAt w B s) (v : Bool) : StAt (w.setCell ⟨B, 33, none⟩ (.bool v)) B { s with c := v } := by
  refine stat_set h 33 _ (by omega) rfl ?_
  intro j hj hjn
  by_cases h1 : j < 31
  · rw [f_x _ h1, f_x _ h1]
  · rw [f_out _ h1, f_out _ h1, if_neg hjn, if_neg hjn]
theorem stat_w {w : World} {B : Nat} {s : St} (h : StAt w B s) (a l : Int) : StAt ((w.setCell ⟨B, 34, none⟩ (.int .i64 a)).setCell ⟨B, 35, none⟩ (.int .i64 l)) B { s with wa := a, wl := l } := by
  have h1 : StAt (w.setCell ⟨B, 34, none⟩ (.int .i64 a)) B { s with wa := a } := by
    refine stat_set h 34 _ (by omega) rfl ?_
    intro j hj hjn
    by_cases h1 : j < 31
    · rw [f_x _ h1, f_x _ h1]
    · rw [f_out _ h1, f_out _ h1, if_neg hjn, if_neg hjn]
  refine stat_set h1 35 _ (by omega) rfl ?_
  intro j hj hjn
  by_cases h2 : j < 31
  · rw [f_x _ h2, f_x _ h2]
  · rw [f_out _ h2, f_out _ h2]
    have : j = 31 ∨ j = 32 ∨ j = 33 ∨ j = 34 := by omega
    rcases this with rfl | rfl | rfl | rfl <;> rfl
theorem drew_more (w : World) : w.drew = more w ⟨w.drawn + 1, #[]⟩ := by
  unfold more
  rw [grow_empty]
  rfl
theorem stat_drew {w : World} {B : Nat} {s : St} (h : StAt w B s) : StAt w.drew B s := by
  rw [drew_more]
  exact stat_more h _
theorem Onto.drew {B : Nat} {a w : World} (h : Onto B a w) : Onto B a w.drew := by
  rw [drew_more]
  exact h.more _
/-- what access makes of a thread. -/
def accS (s : St) (i : Ins) (g0 g1 : Nat) (fits : Bool) : St :=
  if wrB i.op then (if exB i.op then { setX s i.m (if fits then 0 else 1) with wa := 0, wl := 0 } else s)
  else if paB i.op then { setX (setX s i.d g0) i.e g1 with wa := spanA s i, wl := lenI i }
  else if exB i.op then { setX s i.d (g0 &&& mask (8 * lenI i)) with wa := spanA s i, wl := lenI i }
  else setX s i.d (g0 &&& mask (8 * lenI i))
end Go.Proofs.Ytfijppclaahkmaa
