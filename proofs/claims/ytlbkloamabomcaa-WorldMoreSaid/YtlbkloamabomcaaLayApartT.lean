/- A field's spot out of where it begins and how many bits it has; two spots that are one; rows of spots and of numbers, cell by cell. No condition. The locations of a type lie within it; without unions they lie apart; moved, they move. On plain data. No condition. What the statements on fields and locations ask, on plain data: fields one behind the other, locations apart, an array's locations. No condition. -/
import Derived.Test.YtlbkloamabomcaaLayRefT
import Derived.Test.YtlbkloamabomcaaLayFindT
import Derived.Test.YtlbkloamabomcaaLayLocsT
namespace Go.Proofs.Ytlbkloamabomcaa
open Go.RowKit Go.Sort
set_option linter.unusedVariables false
set_option linter.unusedSimpArgs false
theorem fbK_get {α : Type} (G : α → Option (Int × Int)) (Z : α → Int) (t : TyF α) : ∀ m q, plK G Z t m = some q → ∀ k, k < m → ∀ p f g, plK G Z t k = some p → t.fields[k]? = some f → G f.type = some g → (fbK G Z t m)[k]? = some (begF t.packed (t.kind == 4) f (Z f.type) g p, numF f g)
  | 0, _, _, k, hk, _, _, _, _, _, _ => by omega
  | m + 1, q', h, k, hk, p0, f0, g0, e1, e2, e3 => by
    obtain ⟨p, f, g, hp, hf, hg, rfl⟩ := plK_inv G Z t m h
    have hl := fbK_len G Z t m p hp
    rw [fbK_succ G Z t m hp hf hg]
    rcases Nat.lt_or_ge k m with h1 | h1
    · rw [List.getElem?_append_left (by omega)]
      exact fbK_get G Z t m p hp k h1 p0 f0 g0 e1 e2 e3
    · obtain rfl : k = m := by omega
      rw [hp] at e1
      rw [hf] at e2
      cases e1
      cases e2
      rw [hg] at e3
      cases e3
      rw [List.getElem?_append_right (by omega), hl, Nat.sub_self]
      rfl
theorem spots_fb (n : Nat) (t : TyF (Ty n)) (hs : soundF (n + 1) t = 0) (hk : t.kind = 3 ∨ t.kind = 4) {q : Pl} (hq : plK (formF n) (tsize n) t t.fields.length = some q) (i : Nat) (hi : i < t.fields.length) :
    ∃ f x y, t.fields[i]? = some f ∧ (spotsF (n + 1) t)[i]? = some (spotOf f.isBits (tkind n f.type) x y) ∧ (fbF (n + 1) t)[i]? = some (x, y) ∧ 0 ≤ x ∧ x ≤ 100000000 ∧ 0 ≤ y ∧ y ≤ 100000000 := by
  obtain ⟨p, f, g, e1, e2, e3, e4, e5⟩ := spK_get (formF n) (tsize n) (tkind n) t _ q hq i hi
  obtain ⟨hsf, hfd⟩ := field_ok n t hs hk i f g e2 e3
  have hl : t.fields.length ≤ 32 := by
    rcases sound_cases n t hs with ⟨h, _⟩ | ⟨h, _⟩ | ⟨_, _, _, _, _, h, _⟩
    · omega
    · omega
    · exact h
  have hok := plK_ok (formF n) (tsize n) t (fun i f g hi hg => (field_ok n t hs hk i f g hi hg).2) i p e1
  have hb := begF_bound hfd t.packed (t.kind == 4) hok.b0
  have hn := numF_bound hfd
  have h1 := hok.b1
  have h2 : (i : Int) * 600000 ≤ 32 * 600000 := Int.mul_le_mul_of_nonneg_right (by omega) (by omega)
  refine ⟨f, _, _, e2, ?_, fbK_get (formF n) (tsize n) t _ q hq i hi p f g e1 e2 e3, hb.1, by omega, hn.1, by omega⟩
  rw [← spotF_of]
  exact e5
/-- a row of spots lies so. -/
def SpAt (w : World) (S : Nat) (sp : List Sp) : Prop := S < w.heap.size ∧ ∀ (i : Nat) (s : Sp), sp[i]? = some s → w.cell? ⟨S, i * 6, none⟩ = some (.int .i64 s.at_) ∧ w.cell? ⟨S, i * 6 + 1, none⟩ = some (.int .i64 s.len) ∧ w.cell? ⟨S, i * 6 + 2, none⟩ = some (.int .i64 s.kind) ∧ w.cell? ⟨S, i * 6 + 3, none⟩ = some (.bool s.isBits) ∧ w.cell? ⟨S, i * 6 + 4, none⟩ = some (.int .i64 s.bit) ∧ w.cell? ⟨S, i * 6 + 5, none⟩ = some (.int .i64 s.width)
theorem SpAt.below {w w' : World} {S : Nat} {sp : List Sp} (hb : Below w.heap.size w w') (h : SpAt w S sp) : SpAt w' S sp := by
  obtain ⟨h1, h2⟩ := h
  refine ⟨Nat.lt_of_lt_of_le h1 hb.size, fun i s hi => ?_⟩
  have hc : ∀ k, w'.cell? ⟨S, k, none⟩ = w.cell? ⟨S, k, none⟩ := fun k => hb.cell (p := ⟨S, k, none⟩) h1
  rw [hc, hc, hc, hc, hc, hc]
  exact h2 i s hi
theorem spots_at {w : World} {B l c : Nat} {e : TypeId} {a : Option Addr} {sp : List Sp} (h : w.ownsRow B e 6 (.slice a l c) l (sp.flatMap Sp.cs)) (hne : sp ≠ []) : l = sp.length ∧ ∃ S, a = some ⟨S, 0, none⟩ ∧ l ≤ c ∧ c ≤ maxLen ∧ SpAt w S sp := by
  obtain ⟨hl, hS⟩ := spots_cells h
  refine ⟨hl, ?_⟩
  rcases h.2 with ⟨e0, e1⟩ | ⟨g, cap, cur, e0, hb, hg, hn, hm, hs, ht⟩
  · have : sp.length = 0 := by omega
    exact absurd (List.eq_nil_of_length_eq_zero this) hne
  · injection e0 with e1 _ e3
    refine ⟨g, e1, by omega, by omega, (h.lt g (by rw [e1]; rfl)).2, fun i s hi => ?_⟩
    have hj : i < sp.length := (List.getElem?_eq_some_iff.1 hi).1
    have e4 : ∀ j, j < 6 → w.cell? ⟨g, i * 6 + j, none⟩ = (Sp.cs s)[j]? := fun j hj2 => by
      rw [show w.cell? ⟨g, i * 6 + j, none⟩ = cur[i * 6 + j]? by simp [World.cell?, hg], ← spC_get sp i s hi j hj2, ← ht, List.getElem?_take, if_pos (by omega), Array.getElem?_toList]
    exact ⟨e4 0 (by omega), e4 1 (by omega), e4 2 (by omega), e4 3 (by omega), e4 4 (by omega), e4 5 (by omega)⟩
/-- two rows of numbers lie so. -/
def FbAt (w : World) (g2 g3 : Nat) (l : List (Int × Int)) : Prop := g2 < w.heap.size ∧ g3 < w.heap.size ∧ ∀ (i : Nat) x, l[i]? = some x → w.cell? ⟨g2, i, none⟩ = some (.int .i64 x.1) ∧ w.cell? ⟨g3, i, none⟩ = some (.int .i64 x.2)
theorem FbAt.below {w w' : World} {g2 g3 : Nat} {l : List (Int × Int)} (hb : Below w.heap.size w w') (h : FbAt w g2 g3 l) : FbAt w' g2 g3 l := by
  obtain ⟨h1, h2, h3⟩ := h
  refine ⟨Nat.lt_of_lt_of_le h1 hb.size, Nat.lt_of_lt_of_le h2 hb.size, fun i x hi => ?_⟩
  rw [hb.cell (p := ⟨g2, i, none⟩) h1, hb.cell (p := ⟨g3, i, none⟩) h2]
  exact h3 i x hi
theorem ints_at {w : World} {B n c : Nat} {e : TypeId} {a : Option Addr} {xs : List Int} (h : w.ownsRow B e 1 (.slice a n c) n (xs.map fun x => .int .i64 x)) (hne : xs ≠ []) : n = xs.length ∧ ∃ g, a = some ⟨g, 0, none⟩ ∧ g < w.heap.size ∧ n ≤ c ∧ c ≤ maxLen ∧ ∀ (i : Nat) x, xs[i]? = some x → w.cell? ⟨g, i, none⟩ = some (.int .i64 x) := by
  have hl : xs.length = n := by have := h.1; simp at this; omega
  refine ⟨hl.symm, ?_⟩
  rcases h.2 with ⟨e0, e1⟩ | ⟨g, cap, cur, e0, hb, hg, hn, hm, hs, ht⟩
  · have : xs.length = 0 := by omega
    exact absurd (List.eq_nil_of_length_eq_zero this) hne
  · injection e0 with e1 _ e3
    refine ⟨g, e1, (h.lt g (by rw [e1]; rfl)).2, by omega, by omega, fun i x hi => ?_⟩
    have hj : i < xs.length := (List.getElem?_eq_some_iff.1 hi).1
    rw [show w.cell? ⟨g, i, none⟩ = cur[i]? by simp [World.cell?, hg]]
    have h9 : (cur.toList.take (n * 1))[i]? = some (.int .i64 x) := by rw [ht, List.getElem?_map, hi]; rfl
    rw [List.getElem?_take, if_pos (by omega), Array.getElem?_toList] at h9
    exact h9
theorem guard_spot : Try.prog.eqGuardType Try.prog.depth 42 = false := by kernel_rfl
theorem stood_spot : Try.prog.stoodInHeld 42 = false := by kernel_rfl
theorem neq_spot (a b k : Int) (bt : Bool) (c d : Int) (w : World) : (binOp .neq 42 (.agg #[.int .i64 a, .int .i64 b, .int .i64 k, .bool bt, .int .i64 c, .int .i64 d]) (.agg #[.int .i64 a, .int .i64 b, .int .i64 k, .bool bt, .int .i64 c, .int .i64 d])).run Try.prog w = .ok (.bool false) w := by
  have h1 := stood_spot
  simp [go_sem, h1, Op.eqFields, part]
end Go.Proofs.Ytlbkloamabomcaa
namespace Go.Proofs.Ytlbkloamabomcaa
open Go.RowKit
set_option linter.unusedVariables false
set_option linter.unusedSimpArgs false
def InM (a s : Int) (L : List (Int × Int)) : Prop := ∀ x, x ∈ L → a ≤ x.1 ∧ 0 < x.2 ∧ x.1 + x.2 ≤ a + s
def Apart (L : List (Int × Int)) : Prop := L.Pairwise fun x y => x.1 + x.2 ≤ y.1
theorem InM.mono {a s b c : Int} {L : List (Int × Int)} (h : InM a s L) (h1 : b ≤ a) (h2 : a + s ≤ b + c) : InM b c L := fun x hx => by
  have := h x hx
  omega
theorem InM.app {a s : Int} {L M : List (Int × Int)} (h : InM a s L) (k : InM a s M) : InM a s (L ++ M) := fun x hx => by
  rcases List.mem_append.1 hx with hx | hx
  · exact h x hx
  · exact k x hx
theorem InM.one {a s : Int} {x : Int × Int} (h : a ≤ x.1 ∧ 0 < x.2 ∧ x.1 + x.2 ≤ a + s) : InM a s [x] := fun y hy => by
  rw [List.mem_singleton.1 hy]
  exact h
theorem InM.nil {a s : Int} : InM a s [] := fun y hy => by cases hy
theorem arrM_in {M : Int → List (Int × Int)} {a s : Int} (hs : 0 ≤ s) (hM : ∀ b, InM b s (M b)) : ∀ k : Nat, InM a (k * s) (arrM M a s k)
  | 0 => InM.nil
  | k + 1 => by
    have h1 := arrM_in (a := a) hs hM k
    have h2 := hM (a + (k : Int) * s)
    have h3 : ((k + 1 : Nat) : Int) * s = (k : Int) * s + s := by rw [Int.natCast_succ, Int.add_mul]; omega
    have h4 : 0 ≤ (k : Int) * s := Int.mul_nonneg (by omega) hs
    show InM a _ (arrM M a s k ++ M (a + (k : Int) * s))
    rw [h3]
    exact (h1.mono (by omega) (by omega)).app (h2.mono (by omega) (by omega))
theorem arrM_apart {M : Int → List (Int × Int)} {a s : Int} (hs : 0 ≤ s) (hM : ∀ b, InM b s (M b)) (hA : ∀ b, Apart (M b)) : ∀ k : Nat, Apart (arrM M a s k)
  | 0 => List.Pairwise.nil
  | k + 1 => by
    refine List.pairwise_append.2 ⟨arrM_apart hs hM hA k, hA _, fun x hx y hy => ?_⟩
    have h1 := arrM_in (a := a) hs hM k x hx
    have h2 := hM (a + (k : Int) * s) y hy
    omega
/-- a field's first bit, in a group. -/
theorem beg_ge {α : Type} {f : FdF α} {ts : Int} {g : Int × Int} (h : FdOk f ts g) (pk uni : Bool) (p : Pl) (hp : 0 ≤ p.bit) : 0 ≤ begF pk uni f ts g p ∧ (uni = false → p.bit ≤ begF pk uni f ts g p) ∧ (f.isBits = false → begF pk uni f ts g p % 8 = 0) ∧ (f.isBits = true → f.width = 0 → begF pk uni f ts g p % 8 = 0) := by
  refine ⟨(begF_bound h pk uni hp).1, fun hu => ?_, fun hb => ?_, fun hb hw => ?_⟩
  · unfold begF
    rw [hu]
    simp only [Bool.false_eq_true, if_false]
    split
    · rename_i hb
      have := (h.bits hb).1
      exact (bitAt_bound (p := p.bit) (u := 8 * ts) (w := f.width) hp (by omega)).1
    · have h1 := upF_ge (n := p.bit) (s := 8) (by omega)
      have h3 := upF_mod (n := p.bit) (s := 8)
      have h2 := upF_ge (n := upF p.bit 8 / 8) (wideF_pow h pk).pos.1
      omega
  · unfold begF
    rw [hb]
    simp only [Bool.false_eq_true, if_false]
    omega
  · unfold begF bitAt
    rw [if_pos hb, if_pos hw]
    have := (h.bits hb).1
    have h3 := upF_mod (n := if uni = true then 0 else p.bit) (s := 8 * ts)
    generalize upF (if uni = true then 0 else p.bit) (8 * ts) = u at *
    rcases this with rfl | rfl | rfl | rfl <;> omega
/-- the span of a field, in bytes. -/
theorem spot_span {α : Type} {f : FdF α} {ts : Int} {g : Int × Int} (h : FdOk f ts g) (pk uni : Bool) (kd : Int) (p : Pl) (hp : 0 ≤ p.bit) :
    (spotF pk uni f ts kd g p).at_ = begF pk uni f ts g p / 8 ∧ (f.isBits = false → (spotF pk uni f ts kd g p).len = g.1 ∧ numF f g = 8 * g.1)
      ∧ (f.isBits = true → 0 < f.width → 0 < (spotF pk uni f ts kd g p).len ∧ (spotF pk uni f ts kd g p).at_ + (spotF pk uni f ts kd g p).len = (begF pk uni f ts g p + f.width + 7) / 8 ∧ numF f g = f.width)
      ∧ (f.isBits = true → f.width = 0 → numF f g = 0) := by
  have h0 := (begF_bound h pk uni hp).1
  unfold spotF numF
  generalize begF pk uni f ts g p = B at *
  refine ⟨?_, fun hb => ?_, fun hb hw => ?_, fun hb hw => ?_⟩
  · split <;> rfl
  · rw [hb]; exact ⟨rfl, rfl⟩
  · rw [if_pos hb, if_neg (by omega), if_pos hb]
    simp only
    exact ⟨by omega, by omega, trivial⟩
  · rw [if_pos hb, hw]
structure GI (uni : Bool) (at_ : Int) (p : Pl) (st : List (Int × Int) × (Int × Int)) : Prop where
  inn : InM at_ p.size st.1
  run : 0 < st.2.2 → at_ ≤ st.2.1 ∧ st.2.1 + st.2.2 ≤ at_ + p.size ∧ (uni = false → st.2.1 ≤ at_ + p.bit / 8)
theorem GI.step {α : Type} {f : FdF α} {ts : Int} {g : Int × Int} (h : FdOk f ts g) (pk uni : Bool) (kd at_ : Int) {p : Pl} {k : Nat} (hp : PlOk p k) {st : List (Int × Int) × (Int × Int)} (hI : GI uni at_ p st) {M : List (Int × Int)}
    (hM : f.isBits = false → InM ((spotF pk uni f ts kd g p).at_ + at_) g.1 M) : GI uni at_ (stepF pk uni f ts g p) (stepM uni f (spanOf at_ (spotF pk uni f ts kd g p)) M st) := by
  obtain ⟨b0, b1, b2, b3⟩ := beg_ge h pk uni p hp.b0
  obtain ⟨s0, s1, s2, s3⟩ := spot_span h pk uni kd p hp.b0
  have hin := field_in (f := f) (ts := ts) (g := g) pk uni p
  have hsz : p.size ≤ (stepF pk uni f ts g p).size := by unfold stepF; simp only; omega
  have hbit : (stepF pk uni f ts g p).bit = begF pk uni f ts g p + numF f g := rfl
  have hg1 := h.g1
  have hn := numF_bound h
  have hp0 := hp.b0
  obtain ⟨L, ra, rl⟩ := st
  obtain ⟨hI1, hI2⟩ := hI
  simp only at hI1 hI2
  have hF1 : ∀ c : Bool, InM at_ (stepF pk uni f ts g p).size (if c = true ∧ 0 < rl then L ++ [(ra, rl)] else L) := fun c => by
    split
    · rename_i hc
      have := hI2 hc.2
      exact (hI1.mono (Int.le_refl _) (by omega)).app (InM.one ⟨by simp only; omega, hc.2, by simp only; omega⟩)
    · exact hI1.mono (Int.le_refl _) (by omega)
  have hw : f.isBits = true → 0 ≤ f.width := fun hb => (h.bits hb).2.1
  unfold stepM
  simp only
  generalize hP : stepF pk uni f ts g p = P at *
  generalize hS : spotF pk uni f ts kd g p = S at *
  generalize begF pk uni f ts g p = B at *
  cases hb : f.isBits
  · -- no bitfield
    simp only [Bool.not_false, Bool.true_or, if_true, true_and]
    have hm := hM hb
    have hb2 := b2 hb
    obtain ⟨h5, h6⟩ := s1 hb
    refine ⟨?_, by simp⟩
    refine (by simpa using hF1 true : InM at_ P.size (if 0 < rl then L ++ [(ra, rl)] else L)).app (hm.mono (by omega) (by omega))
  · simp only [Bool.not_true, Bool.false_or, Bool.true_eq_false, if_false]
    have hw := hw hb
    by_cases hz : f.width = 0
    · rw [hz]
      simp only [beq_self_eq_true, Bool.true_or, if_true, true_and, Int.lt_irrefl, if_false]
      exact ⟨by simpa using hF1 true, by simp⟩
    · have hw1 : 0 < f.width := by omega
      obtain ⟨s21, s22, s23⟩ := s2 hb hw1
      have hzb : (f.width == 0) = false := by simpa using hz
      rw [hzb]
      simp only [Bool.false_or]
      cases uni
      · simp only [Bool.false_eq_true, false_and, if_false]
        have b1 := b1 rfl
        by_cases hr : 0 < rl
        · rw [if_pos hr]
          obtain ⟨r1, r2, r3⟩ := hI2 hr
          have r3 := r3 rfl
          refine ⟨by simpa using hF1 false, fun h9 => ?_⟩
          unfold spanOf at h9 ⊢
          simp only at h9 ⊢
          refine ⟨by omega, by omega, fun _ => by omega⟩
        · rw [if_neg hr, if_pos hw1]
          refine ⟨by simpa using hF1 false, fun h9 => ?_⟩
          unfold spanOf at h9 ⊢
          simp only at h9 ⊢
          refine ⟨by omega, by omega, fun _ => by omega⟩
      · simp only [if_true, true_and, Int.lt_irrefl, if_false]
        rw [if_pos hw1]
        refine ⟨by simpa using hF1 true, fun h9 => ?_⟩
        unfold spanOf at h9 ⊢
        simp only at h9 ⊢
        refine ⟨by omega, by omega, fun h => by cases h⟩
structure GA (at_ : Int) (p : Pl) (st : List (Int × Int) × (Int × Int)) : Prop where
  pw : Apart st.1
  le : ∀ x, x ∈ st.1 → x.1 + x.2 ≤ if 0 < st.2.2 then st.2.1 else at_ + (p.bit + 7) / 8
  run : 0 < st.2.2 → st.2.1 + st.2.2 ≤ at_ + (p.bit + 7) / 8
  z : ¬ 0 < st.2.2 → p.bit % 8 = 0
theorem GA.step {α : Type} {f : FdF α} {ts : Int} {g : Int × Int} (h : FdOk f ts g) (pk : Bool) (kd at_ : Int) {p : Pl} {k : Nat} (hp : PlOk p k) {st : List (Int × Int) × (Int × Int)} (hA : GA at_ p st) {M : List (Int × Int)}
    (hM : f.isBits = false → InM ((spotF pk false f ts kd g p).at_ + at_) g.1 M) (hMA : f.isBits = false → Apart M) : GA at_ (stepF pk false f ts g p) (stepM false f (spanOf at_ (spotF pk false f ts kd g p)) M st) := by
  obtain ⟨b0, b1, b2, b3⟩ := beg_ge h pk false p hp.b0
  obtain ⟨s0, s1, s2, s3⟩ := spot_span h pk false kd p hp.b0
  have b1 := b1 rfl
  have hbit : (stepF pk false f ts g p).bit = begF pk false f ts g p + numF f g := rfl
  have hg1 := h.g1
  have hn := numF_bound h
  have hp0 := hp.b0
  obtain ⟨L, ra, rl⟩ := st
  obtain ⟨hA1, hA2, hA3, hA4⟩ := hA
  simp only at hA1 hA2 hA3 hA4
  have hF1 : Apart (if 0 < rl then L ++ [(ra, rl)] else L) ∧ ∀ x, x ∈ (if 0 < rl then L ++ [(ra, rl)] else L) → x.1 + x.2 ≤ at_ + (p.bit + 7) / 8 := by
    split
    · rename_i hc
      have h3 := hA3 hc
      refine ⟨List.pairwise_append.2 ⟨hA1, List.pairwise_singleton _ _, fun x hx y hy => ?_⟩, fun x hx => ?_⟩
      · rw [List.mem_singleton.1 hy]
        have := hA2 x hx
        rw [if_pos hc] at this
        exact this
      · rcases List.mem_append.1 hx with hx | hx
        · have := hA2 x hx
          rw [if_pos hc] at this
          omega
        · rw [List.mem_singleton.1 hx]
          exact h3
    · rename_i hc
      refine ⟨hA1, fun x hx => ?_⟩
      have := hA2 x hx
      rw [if_neg hc] at this
      exact this
  have hw : f.isBits = true → 0 ≤ f.width := fun hb => (h.bits hb).2.1
  unfold stepM
  simp only
  generalize hP : stepF pk false f ts g p = P at *
  generalize hS : spotF pk false f ts kd g p = S at *
  generalize begF pk false f ts g p = B at *
  cases hb : f.isBits
  · simp only [Bool.not_false, Bool.true_or, if_true, true_and]
    have hm := hM hb
    have hma := hMA hb
    have hb2 := b2 hb
    obtain ⟨h5, h6⟩ := s1 hb
    refine ⟨?_, fun x hx => ?_, by simp, fun _ => by omega⟩
    · refine List.pairwise_append.2 ⟨hF1.1, hma, fun x hx y hy => ?_⟩
      have := hF1.2 x hx
      have := hm y hy
      omega
    · simp only [Int.lt_irrefl, if_false]
      rcases List.mem_append.1 hx with hx | hx
      · have := hF1.2 x hx
        omega
      · have := hm x hx
        omega
  · simp only [Bool.not_true, Bool.false_or, Bool.true_eq_false, if_false, Bool.or_false]
    have hw := hw hb
    by_cases hz : f.width = 0
    · rw [hz]
      simp only [beq_self_eq_true, if_true, true_and, Int.lt_irrefl, if_false]
      have hb3 := b3 hb hz
      have hs3 := s3 hb hz
      refine ⟨hF1.1, fun x hx => ?_, by simp, fun _ => by omega⟩
      simp only [Int.lt_irrefl, if_false]
      have := hF1.2 x hx
      omega
    · have hw1 : 0 < f.width := by omega
      obtain ⟨s21, s22, s23⟩ := s2 hb hw1
      have hzb : (f.width == 0) = false := by simpa using hz
      rw [hzb]
      simp only [Bool.false_eq_true, false_and, if_false]
      by_cases hr : 0 < rl
      · rw [if_pos hr]
        have h3 := hA3 hr
        have hlen : 0 < (spanOf at_ S).1 + (spanOf at_ S).2 - ra := by unfold spanOf; simp only; omega
        refine ⟨hA1, fun x hx => ?_, fun h9 => ?_, fun h9 => absurd hlen h9⟩
        · have := hA2 x hx
          rw [if_pos hr] at this
          rw [if_pos hlen]
          exact this
        · unfold spanOf
          simp only
          omega
      · rw [if_neg hr, if_pos hw1]
        have hz8 := hA4 hr
        have hlen : 0 < (spanOf at_ S).2 := s21
        refine ⟨hA1, fun x hx => ?_, fun h9 => ?_, fun h9 => absurd hlen h9⟩
        · have := hA2 x hx
          rw [if_neg hr] at this
          rw [if_pos hlen]
          unfold spanOf
          simp only
          omega
        · unfold spanOf
          simp only
          omega
/-- a union is in it. -/
def unionF : (n : Nat) → Ty n → Bool
  | 0, t => nomatch t
  | n + 1, (t : TyF (Ty n)) => t.kind == 4 || t.elem.any (unionF n) || t.fields.any (fun f => unionF n f.type)
theorem unionF_succ (n : Nat) (t : TyF (Ty n)) : unionF (n + 1) t = (t.kind == 4 || t.elem.any (unionF n) || t.fields.any (fun f => unionF n f.type)) := rfl
theorem grp_parts (n : Nat) (t : TyF (Ty n)) (hk : t.kind = 3 ∨ t.kind = 4) {g : Int × Int} (hg : formF (n + 1) t = some g) : ∃ p, plK (formF n) (tsize n) t t.fields.length = some p ∧ g.1 = upF p.size p.align ∧ g.2 = p.align ∧ g.1 ≤ 65536 := by
  rw [formF_succ] at hg
  unfold formOne at hg
  rw [if_neg (by omega), if_neg (by omega)] at hg
  obtain ⟨p, hp, hg⟩ := Option.bind_eq_some_iff.1 hg
  unfold finF at hg
  split at hg
  · cases hg
    exact ⟨p, hp, rfl, rfl, by assumption⟩
  · cases hg
theorem spK_at {α : Type} (G : α → Option (Int × Int)) (Z K : α → Int) (t : TyF α) {m : Nat} {q : Pl} (h : plK G Z t m = some q) {k : Nat} (hk : k < m) : ∃ p f g, plK G Z t k = some p ∧ t.fields[k]? = some f ∧ G f.type = some g ∧ plK G Z t (k + 1) = some (stepF t.packed (t.kind == 4) f (Z f.type) g p) ∧ (spK G Z K t m)[k]? = some (spotF t.packed (t.kind == 4) f (Z f.type) (K f.type) g p) := spK_get G Z K t m q h k hk
theorem grp_fdok (n : Nat) (t : TyF (Ty n)) (h : soundF (n + 1) t = 0) (hk : t.kind = 3 ∨ t.kind = 4) : ∀ (i : Nat) (f : FdF (Ty n)) (g : Int × Int), t.fields[i]? = some f → formF n f.type = some g → FdOk f (tsize n f.type) g := fun i f g hi hg => (field_ok n t h hk i f g hi hg).2
theorem grpK_in (n : Nat) (t : TyF (Ty n)) (hs : soundF (n + 1) t = 0) (hk : t.kind = 3 ∨ t.kind = 4) (IH : ∀ (e : Ty n) (a : Int), soundF n e = 0 → ∀ g, formF n e = some g → InM a g.1 (marksF n e a)) {m : Nat} {q : Pl} (hq : plK (formF n) (tsize n) t m = some q) (at_ : Int) :
    ∀ k p, k ≤ m → plK (formF n) (tsize n) t k = some p → GI (t.kind == 4) at_ p (grpK (marksF n) t (spK (formF n) (tsize n) (tkind n) t m) at_ k)
  | 0, p, _, h => by
    cases h
    exact ⟨InM.nil, fun h => by simp [grpK] at h⟩
  | k + 1, p, hkm, h => by
    obtain ⟨p0, f, g, e1, e2, e3, e4, e5⟩ := spK_at (formF n) (tsize n) (tkind n) t hq (k := k) (by omega)
    rw [h] at e4
    cases e4
    rw [grpK_succ _ _ _ _ e2 e5]
    have hok := plK_ok (formF n) (tsize n) t (grp_fdok n t hs hk) k p0 e1
    obtain ⟨hsf, hfd⟩ := field_ok n t hs hk k f g e2 e3
    exact GI.step hfd _ _ _ _ hok (grpK_in n t hs hk IH hq at_ k p0 (by omega) e1) (fun _ => IH f.type _ hsf g e3)
/-- the locations of a sound type that fits lie within it. -/
theorem marks_in : ∀ (n : Nat) (t : Ty n) (a : Int), soundF n t = 0 → ∀ g, formF n t = some g → InM a g.1 (marksF n t a)
  | 0, t, _, _, _, _ => nomatch t
  | n + 1, (t : TyF (Ty n)), a, hs, g, hg => by
    have IH := marks_in n
    rcases sound_cases n t hs with ⟨hk, h1, _⟩ | ⟨hk, _, _, _, c0, c1, e, he, hse⟩ | ⟨hk, _⟩
    · rw [formF_succ] at hg
      unfold formOne at hg
      rw [if_pos hk] at hg
      cases hg
      rw [marksF_succ]
      unfold marksOne
      rw [if_pos hk]
      exact InM.one ⟨by simp only; omega, by simp only; omega, by simp only; omega⟩
    · rw [formF_succ] at hg
      unfold formOne at hg
      rw [if_neg (by omega), if_pos hk, he] at hg
      simp only [List.head?_cons, Option.bind_some] at hg
      obtain ⟨ge, hge, hg⟩ := Option.bind_eq_some_iff.1 hg
      have hgo := form_ok n e hse ge hge
      split at hg
      · cases hg
        rw [marksF_succ]
        unfold marksOne
        rw [if_neg (by omega), if_pos hk, he]
        simp only [List.head?_cons, hge]
        split
        · have := arrM_in (a := a) (s := ge.1) hgo.1 (fun b => IH e b hse ge hge) t.count.toNat
          rw [Int.toNat_of_nonneg (by omega), Int.mul_comm] at this
          exact this
        · exact InM.nil
      · cases hg
    · obtain ⟨p, hp, h1, h2, h3⟩ := grp_parts n t hk hg
      rw [marksF_succ]
      unfold marksOne
      rw [if_neg (by omega), if_neg (by omega)]
      have hI := grpK_in n t hs hk IH hp a t.fields.length p (Nat.le_refl _) hp
      have hok := plK_ok (formF n) (tsize n) t (grp_fdok n t hs hk) _ p hp
      have hu := upF_ge (n := p.size) hok.al.pos.1
      rw [← h1] at hu
      generalize grpK (marksF n) t (spK (formF n) (tsize n) (tkind n) t t.fields.length) a t.fields.length = st at *
      obtain ⟨i1, i2⟩ := hI
      unfold endM
      split
      · rename_i hr
        have := i2 hr
        exact (i1.mono (Int.le_refl _) (by omega)).app (InM.one ⟨by omega, hr, by omega⟩)
      · exact i1.mono (Int.le_refl _) (by omega)
theorem grpK_apart (n : Nat) (t : TyF (Ty n)) (hs : soundF (n + 1) t = 0) (hk : t.kind = 3) (hu : ∀ f, f ∈ t.fields → unionF n f.type = false) (IH : ∀ (e : Ty n) (a : Int), soundF n e = 0 → unionF n e = false → ∀ g, formF n e = some g → Apart (marksF n e a)) {m : Nat} {q : Pl} (hq : plK (formF n) (tsize n) t m = some q) (at_ : Int) :
    ∀ k p, k ≤ m → plK (formF n) (tsize n) t k = some p → GA at_ p (grpK (marksF n) t (spK (formF n) (tsize n) (tkind n) t m) at_ k)
  | 0, p, _, h => by
    cases h
    exact ⟨List.Pairwise.nil, fun x hx => by simp [grpK] at hx, fun h => by simp [grpK] at h, fun _ => rfl⟩
  | k + 1, p, hkm, h => by
    obtain ⟨p0, f, g, e1, e2, e3, e4, e5⟩ := spK_at (formF n) (tsize n) (tkind n) t hq (k := k) (by omega)
    rw [h] at e4
    cases e4
    rw [grpK_succ _ _ _ _ e2 e5]
    have hok := plK_ok (formF n) (tsize n) t (grp_fdok n t hs (.inl hk)) k p0 e1
    obtain ⟨hsf, hfd⟩ := field_ok n t hs (.inl hk) k f g e2 e3
    have h4 : (t.kind == 4) = false := by rw [hk]; rfl
    rw [h4]
    exact GA.step hfd _ _ _ hok (grpK_apart n t hs hk hu IH hq at_ k p0 (by omega) e1) (fun _ => marks_in n f.type _ hsf g e3) (fun _ => IH f.type _ hsf (hu f (List.mem_of_getElem? e2)) g e3)
/-- where no union is in it, they lie apart. -/
theorem marks_apart : ∀ (n : Nat) (t : Ty n) (a : Int), soundF n t = 0 → unionF n t = false → ∀ g, formF n t = some g → Apart (marksF n t a)
  | 0, t, _, _, _, _, _ => nomatch t
  | n + 1, (t : TyF (Ty n)), a, hs, hun, g, hg => by
    have IH := marks_apart n
    rw [unionF_succ] at hun
    simp only [Bool.or_eq_false_iff, List.any_eq_false] at hun
    obtain ⟨⟨u1, u2⟩, u3⟩ := hun
    rcases sound_cases n t hs with ⟨hk, h1, _⟩ | ⟨hk, _, _, _, c0, c1, e, he, hse⟩ | ⟨hk, _⟩
    · rw [marksF_succ]
      unfold marksOne
      rw [if_pos hk]
      exact List.pairwise_singleton _ _
    · rw [formF_succ] at hg
      unfold formOne at hg
      rw [if_neg (by omega), if_pos hk, he] at hg
      simp only [List.head?_cons, Option.bind_some] at hg
      obtain ⟨ge, hge, hg⟩ := Option.bind_eq_some_iff.1 hg
      have hgo := form_ok n e hse ge hge
      rw [marksF_succ]
      unfold marksOne
      rw [if_neg (by omega), if_pos hk, he]
      simp only [List.head?_cons, hge]
      have hue : unionF n e = false := by
        have := u2 e (by rw [he]; simp)
        simpa using this
      split
      · exact arrM_apart hgo.1 (fun b => marks_in n e b hse ge hge) (fun b => IH e b hse hue ge hge) _
      · exact List.Pairwise.nil
    · have hk3 : t.kind = 3 := by
        have : t.kind ≠ 4 := by simpa using u1
        omega
      obtain ⟨p, hp, h1, h2, h3⟩ := grp_parts n t hk hg
      rw [marksF_succ]
      unfold marksOne
      rw [if_neg (by omega), if_neg (by omega)]
      have hA := grpK_apart n t hs hk3 (fun f hf => by simpa using u3 f hf) IH hp a t.fields.length p (Nat.le_refl _) hp
      generalize grpK (marksF n) t (spK (formF n) (tsize n) (tkind n) t t.fields.length) a t.fields.length = st at *
      obtain ⟨i1, i2, i3, i4⟩ := hA
      unfold endM
      split
      · rename_i hr
        refine List.pairwise_append.2 ⟨i1, List.pairwise_singleton _ _, fun x hx y hy => ?_⟩
        rw [List.mem_singleton.1 hy]
        have := i2 x hx
        rw [if_pos hr] at this
        exact this
      · exact i1
def shM (d : Int) (L : List (Int × Int)) : List (Int × Int) := L.map fun x => (x.1 + d, x.2)
theorem shM_app (d : Int) (L M : List (Int × Int)) : shM d (L ++ M) = shM d L ++ shM d M := List.map_append
theorem arrM_shift {M : Int → List (Int × Int)} {a s d : Int} (hM : ∀ b, M (b + d) = shM d (M b)) : ∀ k : Nat, arrM M (a + d) s k = shM d (arrM M a s k)
  | 0 => rfl
  | k + 1 => by
    show arrM M (a + d) s k ++ M (a + d + (k : Int) * s) = shM d (arrM M a s k ++ M (a + (k : Int) * s))
    rw [shM_app, arrM_shift hM k, ← hM]
    congr 2
    omega
structure GS (d : Int) (s0 s1 : List (Int × Int) × (Int × Int)) : Prop where
  l : s1.1 = shM d s0.1
  n : s1.2.2 = s0.2.2
  a : 0 < s0.2.2 → s1.2.1 = s0.2.1 + d
theorem GS.step {α : Type} (uni : Bool) (f : FdF α) (s : Sp) (at_ d : Int) (M0 M1 : List (Int × Int)) (hM : M1 = shM d M0) {s0 s1 : List (Int × Int) × (Int × Int)} (h : GS d s0 s1) : GS d (stepM uni f (spanOf at_ s) M0 s0) (stepM uni f (spanOf (at_ + d) s) M1 s1) := by
  obtain ⟨L0, a0, n0⟩ := s0
  obtain ⟨L1, a1, n1⟩ := s1
  obtain ⟨h1, h2, h3⟩ := h
  simp only at h1 h2 h3
  subst h2 h1
  have hF : ∀ c : Bool, (if c = true ∧ 0 < n1 then shM d L0 ++ [(a1, n1)] else shM d L0) = shM d (if c = true ∧ 0 < n1 then L0 ++ [(a0, n1)] else L0) := fun c => by
    split
    · rename_i hc
      rw [shM_app, h3 hc.2]
      rfl
    · rfl
  unfold stepM
  simp only
  generalize (!f.isBits || f.width == 0 || uni) = brk
  split
  · exact ⟨by simp only; rw [hF, hM, shM_app], by simp only; split <;> rfl, fun h => by
      cases brk <;> simp at h ⊢
      exact h3 h⟩
  · cases brk
    · simp only [Bool.false_eq_true, false_and, if_false]
      split
      · rename_i hr
        exact ⟨rfl, by unfold spanOf; simp only; have := h3 hr; omega, fun _ => h3 hr⟩
      · split
        · exact ⟨rfl, rfl, fun _ => by unfold spanOf; simp only; omega⟩
        · exact ⟨rfl, rfl, h3⟩
    · simp only [if_true, Int.lt_irrefl, if_false]
      split
      · exact ⟨by simpa using hF true, rfl, fun _ => by unfold spanOf; simp only; omega⟩
      · exact ⟨by simpa using hF true, rfl, fun h => by simp at h⟩
theorem grpK_shift {α : Type} (M : α → Int → List (Int × Int)) (t : TyF α) (sp : List Sp) (at_ d : Int) (hM : ∀ (e : α) b, M e (b + d) = shM d (M e b)) : ∀ k, GS d (grpK M t sp at_ k) (grpK M t sp (at_ + d) k)
  | 0 => ⟨rfl, rfl, fun h => by simp [grpK] at h⟩
  | k + 1 => by
    have h := grpK_shift M t sp at_ d hM k
    cases hf : t.fields[k]? with
    | none => unfold grpK; rw [hf]; exact h
    | some f =>
      cases hs : sp[k]? with
      | none => unfold grpK; rw [hf, hs]; exact h
      | some s =>
        rw [grpK_succ _ _ _ _ hf hs, grpK_succ _ _ _ _ hf hs]
        exact h.step _ _ _ _ _ _ _ (by rw [← hM]; congr 1; omega)
/-- moved, they move. -/
theorem marks_shift : ∀ (n : Nat) (t : Ty n) (a d : Int), marksF n t (a + d) = shM d (marksF n t a)
  | 0, t, _, _ => nomatch t
  | n + 1, (t : TyF (Ty n)), a, d => by
    have IH := marks_shift n
    rw [marksF_succ, marksF_succ]
    unfold marksOne
    split
    · rfl
    · split
      · split
        · rfl
        · split
          · rfl
          · split
            · exact arrM_shift (fun b => IH _ b d) _
            · rfl
      · have h := grpK_shift (marksF n) t (spK (formF n) (tsize n) (tkind n) t t.fields.length) a d (fun e b => IH e b d) t.fields.length
        generalize grpK (marksF n) t (spK (formF n) (tsize n) (tkind n) t t.fields.length) a t.fields.length = s0 at *
        generalize grpK (marksF n) t (spK (formF n) (tsize n) (tkind n) t t.fields.length) (a + d) t.fields.length = s1 at *
        obtain ⟨h1, h2, h3⟩ := h
        unfold endM
        rw [h2, h1]
        split
        · rename_i hr
          rw [shM_app]
          have := h3 hr
          congr 1
          show [s1.2] = [(s0.2.1 + d, s0.2.2)]
          rw [← this, ← h2]
        · rfl
end Go.Proofs.Ytlbkloamabomcaa
namespace Go.Proofs.Ytlbkloamabomcaa
open Go.RowKit Go.Sort
set_option linter.unusedVariables false
set_option linter.unusedSimpArgs false
def begS (s : Sp) : Int := 8 * s.at_ + s.bit
def sizS (s : Sp) : Int := if s.isBits = true then s.width else 8 * s.len
/-- what is asked of a field's spot. -/
structure SpOk (s : Sp) (n : Int) : Prop where
  a : 0 ≤ s.at_ ∧ s.at_ ≤ 100000000
  l : 0 ≤ s.len ∧ s.len ≤ 100000000
  b : 0 ≤ s.bit ∧ s.bit < 8
  w : 0 ≤ s.width ∧ s.width ≤ 100000000
  le : begS s + sizS s ≤ 8 * n
theorem spot_beg {α : Type} {f : FdF α} {ts : Int} {g : Int × Int} (h : FdOk f ts g) (pk uni : Bool) (kd : Int) (p : Pl) (hp : 0 ≤ p.bit) :
    begS (spotF pk uni f ts kd g p) = begF pk uni f ts g p ∧ sizS (spotF pk uni f ts kd g p) = numF f g := by
  obtain ⟨b0, b1, b2, b3⟩ := beg_ge h pk uni p hp
  unfold begS sizS spotF numF
  generalize begF pk uni f ts g p = B at *
  cases hb : f.isBits
  · have := b2 hb
    simp only [Bool.false_eq_true, if_false]
    exact ⟨by omega, trivial⟩
  · simp only [if_true]
    exact ⟨by omega, trivial⟩
theorem spots_ok (n : Nat) (t : TyF (Ty n)) (hs : soundF (n + 1) t = 0) (hk : t.kind = 3 ∨ t.kind = 4) {q : Pl} (hq : plK (formF n) (tsize n) t t.fields.length = some q) (hu : upF q.size q.align ≤ 65536) (i : Nat) (s : Sp) (hi : (spotsF (n + 1) t)[i]? = some s) : SpOk s (upF q.size q.align) := by
  have hls : (spotsF (n + 1) t).length = t.fields.length := spK_len _ _ _ t _ q hq
  have hil : i < t.fields.length := by rw [← hls]; exact (List.getElem?_eq_some_iff.1 hi).1
  obtain ⟨p, f, g, e1, e2, e3, e4, e5⟩ := spK_get (formF n) (tsize n) (tkind n) t _ q hq i hil
  have e5 : (spotsF (n + 1) t)[i]? = _ := e5
  rw [hi] at e5
  cases e5
  obtain ⟨hsf, hfd⟩ := field_ok n t hs hk i f g e2 e3
  have hok := plK_ok (formF n) (tsize n) t (grp_fdok n t hs hk) i p e1
  have hokq := plK_ok (formF n) (tsize n) t (grp_fdok n t hs hk) _ q hq
  have hb := spot_beg hfd t.packed (t.kind == 4) (tkind n f.type) p hok.b0
  have hin := field_in (f := f) (ts := tsize n f.type) (g := g) t.packed (t.kind == 4) p
  have h0 := (begF_bound hfd t.packed (t.kind == 4) hok.b0).1
  have hn := numF_bound hfd
  have hsz := plK_size (formF n) (tsize n) t (i + 1) e4 (t.fields.length - (i + 1)) q (by rw [Nat.add_sub_cancel' hil]; exact hq)
  have hup := upF_ge (n := q.size) hokq.al.pos.1
  have hle : begS (spotF t.packed (t.kind == 4) f (tsize n f.type) (tkind n f.type) g p) + sizS (spotF t.packed (t.kind == 4) f (tsize n f.type) (tkind n f.type) g p) ≤ 8 * upF q.size q.align := by rw [hb.1, hb.2]; omega
  obtain ⟨q0, q1, q2, q3⟩ := spot_span hfd t.packed (t.kind == 4) (tkind n f.type) p hok.b0
  have hg := hfd.g1
  refine ⟨by rw [q0]; omega, ?_, ?_, ?_, hle⟩
  · cases hbt : f.isBits
    · rw [(q1 hbt).1]; omega
    · rcases Int.lt_or_le 0 f.width with hw | hw
      · have := q2 hbt hw
        have h9 : numF f g = f.width := this.2.2
        omega
      · unfold spotF
        have := (hfd.bits hbt).2.1
        rw [if_pos hbt, if_pos (by omega)]
        simp
  · unfold spotF
    split
    · simp only; omega
    · simp
  · unfold spotF
    split
    · rename_i hbt
      have := hfd.bits hbt
      simp only; omega
    · simp
theorem spots_next (n : Nat) (t : TyF (Ty n)) (hs : soundF (n + 1) t = 0) (hk : t.kind = 3) {q : Pl} (hq : plK (formF n) (tsize n) t t.fields.length = some q) (i : Nat) (s s' : Sp) (hi : (spotsF (n + 1) t)[i]? = some s) (hi' : (spotsF (n + 1) t)[i + 1]? = some s') : begS s + sizS s ≤ begS s' := by
  have hls : (spotsF (n + 1) t).length = t.fields.length := spK_len _ _ _ t _ q hq
  have hil : i + 1 < t.fields.length := by rw [← hls]; exact (List.getElem?_eq_some_iff.1 hi').1
  obtain ⟨p, f, g, e1, e2, e3, e4, e5⟩ := spK_get (formF n) (tsize n) (tkind n) t _ q hq i (by omega)
  obtain ⟨p', f', g', d1, d2, d3, d4, d5⟩ := spK_get (formF n) (tsize n) (tkind n) t _ q hq (i + 1) hil
  have e5 : (spotsF (n + 1) t)[i]? = _ := e5
  have d5 : (spotsF (n + 1) t)[i + 1]? = _ := d5
  rw [hi] at e5
  rw [hi'] at d5
  cases e5
  cases d5
  rw [d1] at e4
  cases e4
  obtain ⟨hsf, hfd⟩ := field_ok n t hs (.inl hk) i f g e2 e3
  obtain ⟨hsf', hfd'⟩ := field_ok n t hs (.inl hk) (i + 1) f' g' d2 d3
  have hok := plK_ok (formF n) (tsize n) t (grp_fdok n t hs (.inl hk)) i p e1
  have hok' := plK_ok (formF n) (tsize n) t (grp_fdok n t hs (.inl hk)) (i + 1) _ d1
  have hb := spot_beg hfd t.packed (t.kind == 4) (tkind n f.type) p hok.b0
  have hb' := spot_beg hfd' t.packed (t.kind == 4) (tkind n f'.type) _ hok'.b0
  have h4 : (t.kind == 4) = false := by rw [hk]; rfl
  have h1 := (beg_ge hfd' t.packed (t.kind == 4) _ hok'.b0).2.1 h4
  rw [hb.1, hb.2, hb'.1]
  exact h1
theorem spots_first (n : Nat) (t : TyF (Ty n)) (hs : soundF (n + 1) t = 0) (hk : t.kind = 3 ∨ t.kind = 4) {q : Pl} (hq : plK (formF n) (tsize n) t t.fields.length = some q) (hu : upF q.size q.align ≤ 65536) (s : Sp) (hi : (spotsF (n + 1) t)[0]? = some s) : 0 ≤ begS s := by
  have := spots_ok n t hs hk hq hu 0 s hi
  have h1 := this.a
  have h2 := this.b
  unfold begS
  omega
theorem apart_strict {a s : Int} : ∀ (L : List (Int × Int)), InM a s L → Apart L → Strict L
  | [], _, _ => List.Pairwise.nil
  | x :: L, hI, hA => by
    obtain ⟨h1, h2⟩ := List.pairwise_cons.1 hA
    refine List.pairwise_cons.2 ⟨fun y hy => ?_, apart_strict L (fun z hz => hI z (List.mem_cons_of_mem _ hz)) h2⟩
    have := h1 y hy
    have := hI x (List.mem_cons_self ..)
    unfold ltS
    simp only [decide_eq_true_eq]
    omega
theorem strL_same {L : List (Int × Int)} (h : Strict L) : strL L = L := (strict_le L (strL L) (strL_strict L) h (fun x hx => (strL_mem L x).1 hx)).2 (fun x hx => (strL_mem L x).2 hx)
/-- what Locations tells of a type without unions. -/
theorem locs_apart (n : Nat) (t : Ty n) (hs : soundF n t = 0) (g : Int × Int) (hg : formF n t = some g) (hu : unionF n t = false) (M : List (Int × Int)) (hM : M = locR 0 (marksF n t 0)) :
    InM 0 g.1 M ∧ Apart M ∧ (M ≠ [] → locE 0 (marksF n t 0) = 0) := by
  have hI := marks_in n t 0 hs g hg
  have hA := marks_apart n t 0 hs hu g hg
  have hS := strL_same (apart_strict _ hI hA)
  subst hM
  unfold locR locE
  rw [hS]
  simp only [ne_eq, not_true_eq_false, if_false]
  split
  · exact ⟨InM.nil, List.Pairwise.nil, fun h => absurd rfl h⟩
  · exact ⟨hI, hA, fun _ => rfl⟩
/-- copies of a list, each moved further. -/
def catL (L : List (Int × Int)) (s : Int) : Nat → List (Int × Int)
  | 0 => []
  | k + 1 => catL L s k ++ shM ((k : Int) * s) L
theorem catL_len (L : List (Int × Int)) (s : Int) : ∀ k, (catL L s k).length = k * L.length
  | 0 => by simp [catL]
  | k + 1 => by
    show (catL L s k ++ shM ((k : Int) * s) L).length = _
    rw [List.length_append, catL_len L s k, Nat.succ_mul]
    simp [shM]
theorem catL_get (L : List (Int × Int)) (s : Int) : ∀ (k i : Nat), i < k * L.length → ∃ x, L[i % L.length]? = some x ∧ (catL L s k)[i]? = some (x.1 + ((i / L.length : Nat) : Int) * s, x.2)
  | 0, i, h => by omega
  | k + 1, i, h => by
    rw [Nat.succ_mul] at h
    show ∃ x, _ ∧ (catL L s k ++ shM ((k : Int) * s) L)[i]? = _
    have hl := catL_len L s k
    rcases Nat.lt_or_ge i (k * L.length) with h1 | h1
    · obtain ⟨x, h2, h3⟩ := catL_get L s k i h1
      exact ⟨x, h2, by rw [List.getElem?_append_left (by omega)]; exact h3⟩
    · have hd : i / L.length = k := by
        rw [Nat.div_eq_iff (by omega)]
        have := Nat.mul_comm k L.length
        constructor
        · omega
        · omega
      have hm : i % L.length = i - k * L.length := by
        have := Nat.div_add_mod i L.length
        rw [hd, Nat.mul_comm] at this
        omega
      have hj : i - k * L.length < L.length := by omega
      refine ⟨L[i - k * L.length], ?_, ?_⟩
      · rw [hm]; exact List.getElem?_eq_getElem hj
      · rw [List.getElem?_append_right (by omega), hl, hd]
        unfold shM
        rw [List.getElem?_map, List.getElem?_eq_getElem hj]
        rfl
theorem shM_mem (d : Int) (L : List (Int × Int)) (x : Int × Int) : x ∈ shM d L ↔ ∃ y, y ∈ L ∧ x = (y.1 + d, y.2) := by
  unfold shM
  rw [List.mem_map]
  exact ⟨fun ⟨y, h1, h2⟩ => ⟨y, h1, h2.symm⟩, fun ⟨y, h1, h2⟩ => ⟨y, h1, h2.symm⟩⟩
theorem catL_mem {L L' : List (Int × Int)} (s : Int) (h : ∀ x, x ∈ L ↔ x ∈ L') : ∀ (k : Nat) x, x ∈ catL L s k ↔ x ∈ catL L' s k
  | 0, x => Iff.rfl
  | k + 1, x => by
    show x ∈ catL L s k ++ shM ((k : Int) * s) L ↔ x ∈ catL L' s k ++ shM ((k : Int) * s) L'
    rw [List.mem_append, List.mem_append, catL_mem s h k x, shM_mem, shM_mem]
    constructor
    · rintro (h1 | ⟨y, h1, h2⟩)
      · exact .inl h1
      · exact .inr ⟨y, (h y).1 h1, h2⟩
    · rintro (h1 | ⟨y, h1, h2⟩)
      · exact .inl h1
      · exact .inr ⟨y, (h y).2 h1, h2⟩
theorem arrM_cat (M : Int → List (Int × Int)) (s : Int) (hM : ∀ b, M (0 + b) = shM b (M 0)) : ∀ k : Nat, arrM M 0 s k = catL (M 0) s k
  | 0 => rfl
  | k + 1 => by
    show arrM M 0 s k ++ M (0 + (k : Int) * s) = catL (M 0) s k ++ shM ((k : Int) * s) (M 0)
    rw [arrM_cat M s hM k, hM]
theorem catL_in {L : List (Int × Int)} {s : Int} (hs : 0 ≤ s) (hL : InM 0 s L) : ∀ k : Nat, InM 0 (k * s) (catL L s k)
  | 0 => InM.nil
  | k + 1 => by
    have h1 := catL_in hs hL k
    have h3 : ((k + 1 : Nat) : Int) * s = (k : Int) * s + s := by rw [Int.natCast_succ, Int.add_mul]; omega
    have h4 : 0 ≤ (k : Int) * s := Int.mul_nonneg (by omega) hs
    rw [h3]
    refine (h1.mono (Int.le_refl _) (by omega)).app (fun x hx => ?_)
    obtain ⟨y, hy, rfl⟩ := (shM_mem _ _ _).1 hx
    have := hL y hy
    simp only
    omega
theorem shM_strict (d : Int) : ∀ (L : List (Int × Int)), Strict L → Strict (shM d L)
  | [], _ => List.Pairwise.nil
  | x :: L, h => by
    obtain ⟨h1, h2⟩ := List.pairwise_cons.1 h
    refine List.pairwise_cons.2 ⟨fun y hy => ?_, shM_strict d L h2⟩
    obtain ⟨z, hz, rfl⟩ := (shM_mem _ _ _).1 hy
    have := h1 z hz
    unfold ltS at this ⊢
    simp only [decide_eq_true_eq] at this ⊢
    omega
theorem catL_strict {L : List (Int × Int)} {s : Int} (hs : 0 ≤ s) (hL : InM 0 s L) (hS : Strict L) : ∀ k : Nat, Strict (catL L s k)
  | 0 => List.Pairwise.nil
  | k + 1 => by
    refine List.pairwise_append.2 ⟨catL_strict hs hL hS k, shM_strict _ _ hS, fun x hx y hy => ?_⟩
    obtain ⟨z, hz, rfl⟩ := (shM_mem _ _ _).1 hy
    have h1 := catL_in hs hL k x hx
    have h2 := hL z hz
    unfold ltS
    simp only [decide_eq_true_eq]
    omega
/-- the type of an array of so many. -/
def arrT {n : Nat} (c : Int) (t : Ty n) : Ty (n + 1) := (⟨5, 0, false, [], c, [t]⟩ : TyF (Ty n))
theorem sound_arrT {n : Nat} (c : Int) (hc : 1 ≤ c ∧ c ≤ 5) (t : Ty n) : soundF (n + 1) (arrT c t) = soundF n t := by
  unfold arrT
  rw [soundF_succ]
  unfold oneE
  have hon : onlyB 5 0 false ([] : List (FdF (Ty n))).length c [t].length = true := by
    simp [onlyB]
  simp only [hon]
  rw [if_neg (by simp), if_neg (by omega), if_neg (by omega), if_pos trivial]
  have h2 : ¬ (c < 1 ∨ 65536 < c) := by omega
  simp only [h2, if_false]
  rfl
theorem locs_arr (n : Nat) (t : Ty n) (hs : soundF n t = 0) (g : Int × Int) (hg : formF n t = some g) (c : Int) (hc : 1 ≤ c ∧ c ≤ 5) : ∃ L : List (Int × Int), L = strL (marksF n t 0) ∧ strL (marksF (n + 1) (arrT c t) 0) = catL L g.1 c.toNat := by
  refine ⟨_, rfl, ?_⟩
  have hI := marks_in n t 0 hs g hg
  have hgo := form_ok n t hs g hg
  have hM : marksF (n + 1) (arrT c t) 0 = catL (marksF n t 0) g.1 c.toNat := by
    show marksOne (formF n) (tsize n) (tkind n) (marksF n) (⟨5, 0, false, [], c, [t]⟩ : TyF (Ty n)) 0 = _
    unfold marksOne
    simp only [List.head?_cons, hg]
    rw [if_neg (by omega)]
    simp only [if_true]
    split
    · exact arrM_cat _ _ (fun b => marks_shift n t 0 b) _
    · rename_i h0
      have h9 : marksF n t 0 = [] := List.eq_nil_iff_forall_not_mem.2 (fun x hx => by have := hI x hx; omega)
      rw [h9]
      have : ∀ k, catL [] g.1 k = [] := fun k => by
        have := catL_len [] g.1 k
        simpa using this
      rw [this]
  rw [hM]
  have hIL : InM 0 g.1 (strL (marksF n t 0)) := fun x hx => hI x ((strL_mem _ x).1 hx)
  have hst := catL_strict hgo.1 hIL (strL_strict _) c.toNat
  rw [← strL_same hst]
  refine (strict_le _ _ (strL_strict _) (strL_strict _) (fun x hx => ?_)).2 (fun x hx => ?_)
  · rw [strL_mem] at hx ⊢
    exact (catL_mem g.1 (fun x => (strL_mem _ x).symm) _ x).1 hx
  · rw [strL_mem] at hx ⊢
    exact (catL_mem g.1 (fun x => strL_mem _ x) _ x).1 hx
end Go.Proofs.Ytlbkloamabomcaa
