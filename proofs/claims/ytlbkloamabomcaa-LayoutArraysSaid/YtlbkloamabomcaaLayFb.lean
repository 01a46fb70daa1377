/- A field's spot out of where it begins and how many bits it has; two spots that are one; rows of spots and of numbers, cell by cell. No condition. -/
import Derived.Test.YtlbkloamabomcaaLaySpot
import Derived.Test.YtlbkloamabomcaaLayFindT
namespace Go.Proofs.Ytlbkloamabomcaa
open Go.RowKit Go.Sort
set_option linter.unusedVariables false
set_option linter.unusedSimpArgs false
theorem fbK_get {α : Type} (G : α → Option (Int × Int)) (Z : α → Int) (t : TyF α) : ∀ m q, plK G Z t m = some q → ∀ k, k < m → ∀ p f g, plK G Z t k = some p → t.fields[k]? = some f → G f.type = some g → (fbK G Z t m)[k]? = some (begF t.packed (t.kind == 4) f (Z f.type) g p, numF f g)
  | 0, _, _, k, hk, _, _, _, _, _, _ => by omega
  | m + 1, q', h, k, hk, p0, f0, g0, e1, e2, e3 => by
    obtain ⟨p, f, g, hp, hf, hg, rfl⟩ := plK_inv G Z t m h
    have hl := fbK_len G Z t m p hp
    rw [fbK_succ G Z t m hp hf hg]
    rcases Nat.lt_or_ge k m with h1 | h1
    · rw [List.getElem?_append_left (by omega)]
      exact fbK_get G Z t m p hp k h1 p0 f0 g0 e1 e2 e3
    · obtain rfl : k = m := by omega
      rw [hp] at e1
      rw [hf] at e2
      cases e1
      cases e2
      rw [hg] at e3
      cases e3
      rw [List.getElem?_append_right (by omega), hl, Nat.sub_self]
      rfl
theorem spots_fb (n : Nat) (t : TyF (Ty n)) (hs : soundF (n + 1) t = 0) (hk : t.kind = 3 ∨ t.kind = 4) {q : Pl} (hq : plK (formF n) (tsize n) t t.fields.length = some q) (i : Nat) (hi : i < t.fields.length) :
    ∃ f x y, t.fields[i]? = some f ∧ (spotsF (n + 1) t)[i]? = some (spotOf f.isBits (tkind n f.type) x y) ∧ (fbF (n + 1) t)[i]? = some (x, y) ∧ 0 ≤ x ∧ x ≤ 100000000 ∧ 0 ≤ y ∧ y ≤ 100000000 := by
  obtain ⟨p, f, g, e1, e2, e3, e4, e5⟩ := spK_get (formF n) (tsize n) (tkind n) t _ q hq i hi
  obtain ⟨hsf, hfd⟩ := field_ok n t hs hk i f g e2 e3
  have hl : t.fields.length ≤ 32 := by
    rcases sound_cases n t hs with ⟨h, _⟩ | ⟨h, _⟩ | ⟨_, _, _, _, _, h, _⟩
    · omega
    · omega
    · exact h
  have hok := plK_ok (formF n) (tsize n) t (fun i f g hi hg => (field_ok n t hs hk i f g hi hg).2) i p e1
  have hb := begF_bound hfd t.packed (t.kind == 4) hok.b0
  have hn := numF_bound hfd
  have h1 := hok.b1
  have h2 : (i : Int) * 600000 ≤ 32 * 600000 := Int.mul_le_mul_of_nonneg_right (by omega) (by omega)
  refine ⟨f, _, _, e2, ?_, fbK_get (formF n) (tsize n) t _ q hq i hi p f g e1 e2 e3, hb.1, by omega, hn.1, by omega⟩
  rw [← spotF_of]
  exact e5
/-- a row of spots lies so. -/
def SpAt (w : World) (S : Nat) (sp : List Sp) : Prop := S < w.heap.size ∧ ∀ (i : Nat) (s : Sp), sp[i]? = some s → w.cell? ⟨S, i * 6, none⟩ = some (.int .i64 s.at_) ∧ w.cell? ⟨S, i * 6 + 1, none⟩ = some (.int .i64 s.len) ∧ w.cell? ⟨S, i * 6 + 2, none⟩ = some (.int .i64 s.kind) ∧ w.cell? ⟨S, i * 6 + 3, none⟩ = some (.bool s.isBits) ∧ w.cell? ⟨S, i * 6 + 4, none⟩ = some (.int .i64 s.bit) ∧ w.cell? ⟨S, i * 6 + 5, none⟩ = some (.int .i64 s.width)
theorem SpAt.below {w w' : World} {S : Nat} {sp : List Sp} (hb : Below w.heap.size w w') (h : SpAt w S sp) : SpAt w' S sp := by
  obtain ⟨h1, h2⟩ := h
  refine ⟨Nat.lt_of_lt_of_le h1 hb.size, fun i s hi => ?_⟩
  have hc : ∀ k, w'.cell? ⟨S, k, none⟩ = w.cell? ⟨S, k, none⟩ := fun k => hb.cell (p := ⟨S, k, none⟩) h1
  rw [hc, hc, hc, hc, hc, hc]
  exact h2 i s hi
theorem spots_at {w : World} {B l c : Nat} {e : TypeId} {a : Option Addr} {sp : List Sp} (h : w.ownsRow B e 6 (.slice a l c) l (sp.flatMap Sp.cs)) (hne : sp ≠ []) : l = sp.length ∧ ∃ S, a = some ⟨S, 0, none⟩ ∧ l ≤ c ∧ c ≤ maxLen ∧ SpAt w S sp := by
  obtain ⟨hl, hS⟩ := spots_cells h
  refine ⟨hl, ?_⟩
  rcases h.2 with ⟨e0, e1⟩ | ⟨g, cap, cur, e0, hb, hg, hn, hm, hs, ht⟩
  · have : sp.length = 0 := by omega
    exact absurd (List.eq_nil_of_length_eq_zero this) hne
  · injection e0 with e1 _ e3
    refine ⟨g, e1, by omega, by omega, (h.lt g (by rw [e1]; rfl)).2, fun i s hi => ?_⟩
    have hj : i < sp.length := (List.getElem?_eq_some_iff.1 hi).1
    have e4 : ∀ j, j < 6 → w.cell? ⟨g, i * 6 + j, none⟩ = (Sp.cs s)[j]? := fun j hj2 => by
      rw [show w.cell? ⟨g, i * 6 + j, none⟩ = cur[i * 6 + j]? by simp [World.cell?, hg], ← spC_get sp i s hi j hj2, ← ht, List.getElem?_take, if_pos (by omega), Array.getElem?_toList]
    exact ⟨e4 0 (by omega), e4 1 (by omega), e4 2 (by omega), e4 3 (by omega), e4 4 (by omega), e4 5 (by omega)⟩
/-- two rows of numbers lie so. -/
def FbAt (w : World) (g2 g3 : Nat) (l : List (Int × Int)) : Prop := g2 < w.heap.size ∧ g3 < w.heap.size ∧ ∀ (i : Nat) x, l[i]? = some x → w.cell? ⟨g2, i, none⟩ = some (.int .i64 x.1) ∧ w.cell? ⟨g3, i, none⟩ = some (.int .i64 x.2)
theorem FbAt.below {w w' : World} {g2 g3 : Nat} {l : List (Int × Int)} (hb : Below w.heap.size w w') (h : FbAt w g2 g3 l) : FbAt w' g2 g3 l := by
  obtain ⟨h1, h2, h3⟩ := h
  refine ⟨Nat.lt_of_lt_of_le h1 hb.size, Nat.lt_of_lt_of_le h2 hb.size, fun i x hi => ?_⟩
  rw [hb.cell (p := ⟨g2, i, none⟩) h1, hb.cell (p := ⟨g3, i, none⟩) h2]
  exact h3 i x hi
theorem ints_at {w : World} {B n c : Nat} {e : TypeId} {a : Option Addr} {xs : List Int} (h : w.ownsRow B e 1 (.slice a n c) n (xs.map fun x => .int .i64 x)) (hne : xs ≠ []) : n = xs.length ∧ ∃ g, a = some ⟨g, 0, none⟩ ∧ g < w.heap.size ∧ n ≤ c ∧ c ≤ maxLen ∧ ∀ (i : Nat) x, xs[i]? = some x → w.cell? ⟨g, i, none⟩ = some (.int .i64 x) := by
  have hl : xs.length = n := by have := h.1; simp at this; omega
  refine ⟨hl.symm, ?_⟩
  rcases h.2 with ⟨e0, e1⟩ | ⟨g, cap, cur, e0, hb, hg, hn, hm, hs, ht⟩
  · have : xs.length = 0 := by omega
    exact absurd (List.eq_nil_of_length_eq_zero this) hne
  · injection e0 with e1 _ e3
    refine ⟨g, e1, (h.lt g (by rw [e1]; rfl)).2, by omega, by omega, fun i x hi => ?_⟩
    have hj : i < xs.length := (List.getElem?_eq_some_iff.1 hi).1
    rw [show w.cell? ⟨g, i, none⟩ = cur[i]? by simp [World.cell?, hg]]
    have h9 : (cur.toList.take (n * 1))[i]? = some (.int .i64 x) := by rw [ht, List.getElem?_map, hi]; rfl
    rw [List.getElem?_take, if_pos (by omega), Array.getElem?_toList] at h9
    exact h9
theorem guard_spot : Try.prog.eqGuardType Try.prog.depth 42 = false := by kernel_rfl
theorem stood_spot : Try.prog.stoodInHeld 42 = false := by kernel_rfl
theorem neq_spot (a b k : Int) (bt : Bool) (c d : Int) (w : World) : (binOp .neq 42 (.agg #[.int .i64 a, .int .i64 b, .int .i64 k, .bool bt, .int .i64 c, .int .i64 d]) (.agg #[.int .i64 a, .int .i64 b, .int .i64 k, .bool bt, .int .i64 c, .int .i64 d])).run Try.prog w = .ok (.bool false) w := by
  have h1 := stood_spot
  simp [go_sem, h1, Op.eqFields, part]
end Go.Proofs.Ytlbkloamabomcaa
