/- A world in which one block has turned, and blocks were laid behind. No condition. -/
import Derived.Test.YtlbkloamabomcaaMore
namespace Go.Proofs.Ytlbkloamabomcaa
open Go.RowKit Go.Sort
theorem cell_lt2 {w : World} {b o : Nat} {v : Value} (h : w.cell? ⟨b, o, none⟩ = some v) : b < w.heap.size := by
  rcases Nat.lt_or_ge b w.heap.size with hl | hl
  · exact hl
  · have : w.heap[b]? = none := Array.getElem?_eq_none hl
    simp [World.cell?, this] at h
inductive Onto (B : Nat) (w : World) : World → Prop
  | refl : Onto B w w
  | set {w1 : World} (h : Onto B w w1) (k : Nat) (v : Value) : Onto B w (w1.setCell ⟨B, k, none⟩ v)
  | more {w1 : World} (h : Onto B w w1) (p : Regrown) : Onto B w (more w1 p)
  | alloc {w1 : World} (h : Onto B w w1) (o : Obj) : Onto B w (w1.alloc o)
theorem Onto.trans {B : Nat} {a b c : World} (h : Onto B a b) (k : Onto B b c) : Onto B a c := by
  induction k with
  | refl => exact h
  | set _ k v ih => exact ih.set k v
  | more _ p ih => exact ih.more p
  | alloc _ o ih => exact ih.alloc o
theorem Onto.size {B : Nat} {a b : World} (h : Onto B a b) : a.heap.size ≤ b.heap.size := by
  induction h with
  | refl => exact Nat.le_refl _
  | set _ k v ih => simpa using ih
  | more _ p ih => rw [more_size]; omega
  | alloc _ o ih => simp; omega
theorem Onto.cell {B : Nat} {a b : World} (h : Onto B a b) {c k : Nat} (hc : c < a.heap.size) (hB : c ≠ B) : b.cell? ⟨c, k, none⟩ = a.cell? ⟨c, k, none⟩ := by
  induction h with
  | refl => rfl
  | set _ k v ih => rw [World.cell?_setCell_other _ _ _ _ (fun e => hB (congrArg Addr.block e).symm)]; exact ih
  | more h1 p ih => rw [(more_below _ p).cell (p := ⟨c, k, none⟩) (Nat.lt_of_lt_of_le hc h1.size)]; exact ih
  | alloc h1 o ih => rw [((Below.refl _ _).alloc (Nat.le_refl _) o).cell (p := ⟨c, k, none⟩) (Nat.lt_of_lt_of_le hc h1.size)]; exact ih
theorem Onto.frozen {B : Nat} {a b : World} (h : Onto B a b) {c k : Nat} (hc : c < a.heap.size) : b.frozen? ⟨c, k, none⟩ = a.frozen? ⟨c, k, none⟩ := by
  induction h with
  | refl => rfl
  | set _ k v ih => rw [World.frozen?_setCell]; exact ih
  | more h1 p ih => rw [(more_below _ p).frozen (p := ⟨c, k, none⟩) (Nat.lt_of_lt_of_le hc h1.size)]; exact ih
  | alloc h1 o ih => rw [((Below.refl _ _).alloc (Nat.le_refl _) o).frozen (p := ⟨c, k, none⟩) (Nat.lt_of_lt_of_le hc h1.size)]; exact ih
theorem Onto.under {B : Nat} {w a b : World} (h : Onto B a b) (hb : Below w.heap.size w a) (hB : w.heap.size ≤ B) : Below w.heap.size w b := by
  induction h with
  | refl => exact hb
  | set _ k v ih => exact below_st ih hB v
  | more _ p ih => exact below_mo ih p
  | alloc _ o ih => exact below_al ih o
theorem Onto.setCells {B : Nat} {a : World} : ∀ (vs : List Value) (o : Nat) (w : World), Onto B a w → Onto B a (w.setCells B o vs)
  | [], _, _, h => h
  | v :: r, o, _, h => Onto.setCells r (o + 1) _ (h.set o v)
end Go.Proofs.Ytlbkloamabomcaa
