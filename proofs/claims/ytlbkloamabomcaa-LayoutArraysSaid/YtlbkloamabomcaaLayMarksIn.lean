/- The locations of a type lie within it; without unions they lie apart; moved, they move. On plain data. No condition. -/
import Derived.Test.YtlbkloamabomcaaLayFindT
namespace Go.Proofs.Ytlbkloamabomcaa
open Go.RowKit
set_option linter.unusedVariables false
set_option linter.unusedSimpArgs false
def InM (a s : Int) (L : List (Int × Int)) : Prop := ∀ x, x ∈ L → a ≤ x.1 ∧ 0 < x.2 ∧ x.1 + x.2 ≤ a + s
def Apart (L : List (Int × Int)) : Prop := L.Pairwise fun x y => x.1 + x.2 ≤ y.1
theorem InM.mono {a s b c : Int} {L : List (Int × Int)} (h : InM a s L) (h1 : b ≤ a) (h2 : a + s ≤ b + c) : InM b c L := fun x hx => by
  have := h x hx
  omega
theorem InM.app {a s : Int} {L M : List (Int × Int)} (h : InM a s L) (k : InM a s M) : InM a s (L ++ M) := fun x hx => by
  rcases List.mem_append.1 hx with hx | hx
  · exact h x hx
  · exact k x hx
theorem InM.one {a s : Int} {x : Int × Int} (h : a ≤ x.1 ∧ 0 < x.2 ∧ x.1 + x.2 ≤ a + s) : InM a s [x] := fun y hy => by
  rw [List.mem_singleton.1 hy]
  exact h
theorem InM.nil {a s : Int} : InM a s [] := fun y hy => by cases hy
theorem arrM_in {M : Int → List (Int × Int)} {a s : Int} (hs : 0 ≤ s) (hM : ∀ b, InM b s (M b)) : ∀ k : Nat, InM a (k * s) (arrM M a s k)
  | 0 => InM.nil
  | k + 1 => by
    have h1 := arrM_in (a := a) hs hM k
    have h2 := hM (a + (k : Int) * s)
    have h3 : ((k + 1 : Nat) : Int) * s = (k : Int) * s + s := by rw [Int.natCast_succ, Int.add_mul]; omega
    have h4 : 0 ≤ (k : Int) * s := Int.mul_nonneg (by omega) hs
    show InM a _ (arrM M a s k ++ M (a + (k : Int) * s))
    rw [h3]
    exact (h1.mono (by omega) (by omega)).app (h2.mono (by omega) (by omega))
theorem arrM_apart {M : Int → List (Int × Int)} {a s : Int} (hs : 0 ≤ s) (hM : ∀ b, InM b s (M b)) (hA : ∀ b, Apart (M b)) : ∀ k : Nat, Apart (arrM M a s k)
  | 0 => List.Pairwise.nil
  | k + 1 => by
    refine List.pairwise_append.2 ⟨arrM_apart hs hM hA k, hA _, fun x hx y hy => ?_⟩
    have h1 := arrM_in (a := a) hs hM k x hx
    have h2 := hM (a + (k : Int) * s) y hy
    omega
/-- a field's first bit, in a group. -/
theorem beg_ge {α : Type} {f : FdF α} {ts : Int} {g : Int × Int} (h : FdOk f ts g) (pk uni : Bool) (p : Pl) (hp : 0 ≤ p.bit) : 0 ≤ begF pk uni f ts g p ∧ (uni = false → p.bit ≤ begF pk uni f ts g p) ∧ (f.isBits = false → begF pk uni f ts g p % 8 = 0) ∧ (f.isBits = true → f.width = 0 → begF pk uni f ts g p % 8 = 0) := by
  refine ⟨(begF_bound h pk uni hp).1, fun hu => ?_, fun hb => ?_, fun hb hw => ?_⟩
  · unfold begF
    rw [hu]
    simp only [Bool.false_eq_true, if_false]
    split
    · rename_i hb
      have := (h.bits hb).1
      exact (bitAt_bound (p := p.bit) (u := 8 * ts) (w := f.width) hp (by omega)).1
    · have h1 := upF_ge (n := p.bit) (s := 8) (by omega)
      have h3 := upF_mod (n := p.bit) (s := 8)
      have h2 := upF_ge (n := upF p.bit 8 / 8) (wideF_pow h pk).pos.1
      omega
  · unfold begF
    rw [hb]
    simp only [Bool.false_eq_true, if_false]
    omega
  · unfold begF bitAt
    rw [if_pos hb, if_pos hw]
    have := (h.bits hb).1
    have h3 := upF_mod (n := if uni = true then 0 else p.bit) (s := 8 * ts)
    generalize upF (if uni = true then 0 else p.bit) (8 * ts) = u at *
    rcases this with rfl | rfl | rfl | rfl <;> omega
/-- the span of a field, in bytes. -/
theorem spot_span {α : Type} {f : FdF α} {ts : Int} {g : Int × Int} (h : FdOk f ts g) (pk uni : Bool) (kd : Int) (p : Pl) (hp : 0 ≤ p.bit) :
    (spotF pk uni f ts kd g p).at_ = begF pk uni f ts g p / 8 ∧ (f.isBits = false → (spotF pk uni f ts kd g p).len = g.1 ∧ numF f g = 8 * g.1)
      ∧ (f.isBits = true → 0 < f.width → 0 < (spotF pk uni f ts kd g p).len ∧ (spotF pk uni f ts kd g p).at_ + (spotF pk uni f ts kd g p).len = (begF pk uni f ts g p + f.width + 7) / 8 ∧ numF f g = f.width)
      ∧ (f.isBits = true → f.width = 0 → numF f g = 0) := by
  have h0 := (begF_bound h pk uni hp).1
  unfold spotF numF
  generalize begF pk uni f ts g p = B at *
  refine ⟨?_, fun hb => ?_, fun hb hw => ?_, fun hb hw => ?_⟩
  · split <;> rfl
  · rw [hb]; exact ⟨rfl, rfl⟩
  · rw [if_pos hb, if_neg (by omega), if_pos hb]
    simp only
    exact ⟨by omega, by omega, trivial⟩
  · rw [if_pos hb, hw]
structure GI (uni : Bool) (at_ : Int) (p : Pl) (st : List (Int × Int) × (Int × Int)) : Prop where
  inn : InM at_ p.size st.1
  run : 0 < st.2.2 → at_ ≤ st.2.1 ∧ st.2.1 + st.2.2 ≤ at_ + p.size ∧ (uni = false → st.2.1 ≤ at_ + p.bit / 8)
theorem GI.step {α : Type} {f : FdF α} {ts : Int} {g : Int × Int} (h : FdOk f ts g) (pk uni : Bool) (kd at_ : Int) {p : Pl} {k : Nat} (hp : PlOk p k) {st : List (Int × Int) × (Int × Int)} (hI : GI uni at_ p st) {M : List (Int × Int)}
    (hM : f.isBits = false → InM ((spotF pk uni f ts kd g p).at_ + at_) g.1 M) : GI uni at_ (stepF pk uni f ts g p) (stepM uni f (spanOf at_ (spotF pk uni f ts kd g p)) M st) := by
  obtain ⟨b0, b1, b2, b3⟩ := beg_ge h pk uni p hp.b0
  obtain ⟨s0, s1, s2, s3⟩ := spot_span h pk uni kd p hp.b0
  have hin := field_in (f := f) (ts := ts) (g := g) pk uni p
  have hsz : p.size ≤ (stepF pk uni f ts g p).size := by unfold stepF; simp only; omega
  have hbit : (stepF pk uni f ts g p).bit = begF pk uni f ts g p + numF f g := rfl
  have hg1 := h.g1
  have hn := numF_bound h
  have hp0 := hp.b0
  obtain ⟨L, ra, rl⟩ := st
  obtain ⟨hI1, hI2⟩ := hI
  simp only at hI1 hI2
  have hF1 : ∀ c : Bool, InM at_ (stepF pk uni f ts g p).size (if c = true ∧ 0 < rl then L ++ [(ra, rl)] else L) := fun c => by
    split
    · rename_i hc
      have := hI2 hc.2
      exact (hI1.mono (Int.le_refl _) (by omega)).app (InM.one ⟨by simp only; omega, hc.2, by simp only; omega⟩)
    · exact hI1.mono (Int.le_refl _) (by omega)
  have hw : f.isBits = true → 0 ≤ f.width := fun hb => (h.bits hb).2.1
  unfold stepM
  simp only
  generalize hP : stepF pk uni f ts g p = P at *
  generalize hS : spotF pk uni f ts kd g p = S at *
  generalize begF pk uni f ts g p = B at *
  cases hb : f.isBits
  · -- no bitfield
    simp only [Bool.not_false, Bool.true_or, if_true, true_and]
    have hm := hM hb
    have hb2 := b2 hb
    obtain ⟨h5, h6⟩ := s1 hb
    refine ⟨?_, by simp⟩
    refine (by simpa using hF1 true : InM at_ P.size (if 0 < rl then L ++ [(ra, rl)] else L)).app (hm.mono (by omega) (by omega))
  · simp only [Bool.not_true, Bool.false_or, Bool.true_eq_false, if_false]
    have hw := hw hb
    by_cases hz : f.width = 0
    · rw [hz]
      simp only [beq_self_eq_true, Bool.true_or, if_true, true_and, Int.lt_irrefl, if_false]
      exact ⟨by simpa using hF1 true, by simp⟩
    · have hw1 : 0 < f.width := by omega
      obtain ⟨s21, s22, s23⟩ := s2 hb hw1
      have hzb : (f.width == 0) = false := by simpa using hz
      rw [hzb]
      simp only [Bool.false_or]
      cases uni
      · simp only [Bool.false_eq_true, false_and, if_false]
        have b1 := b1 rfl
        by_cases hr : 0 < rl
        · rw [if_pos hr]
          obtain ⟨r1, r2, r3⟩ := hI2 hr
          have r3 := r3 rfl
          refine ⟨by simpa using hF1 false, fun h9 => ?_⟩
          unfold spanOf at h9 ⊢
          simp only at h9 ⊢
          refine ⟨by omega, by omega, fun _ => by omega⟩
        · rw [if_neg hr, if_pos hw1]
          refine ⟨by simpa using hF1 false, fun h9 => ?_⟩
          unfold spanOf at h9 ⊢
          simp only at h9 ⊢
          refine ⟨by omega, by omega, fun _ => by omega⟩
      · simp only [if_true, true_and, Int.lt_irrefl, if_false]
        rw [if_pos hw1]
        refine ⟨by simpa using hF1 true, fun h9 => ?_⟩
        unfold spanOf at h9 ⊢
        simp only at h9 ⊢
        refine ⟨by omega, by omega, fun h => by cases h⟩
structure GA (at_ : Int) (p : Pl) (st : List (Int × Int) × (Int × Int)) : Prop where
  pw : Apart st.1
  le : ∀ x, x ∈ st.1 → x.1 + x.2 ≤ if 0 < st.2.2 then st.2.1 else at_ + (p.bit + 7) / 8
  run : 0 < st.2.2 → st.2.1 + st.2.2 ≤ at_ + (p.bit + 7) / 8
  z : ¬ 0 < st.2.2 → p.bit % 8 = 0
theorem GA.step {α : Type} {f : FdF α} {ts : Int} {g : Int × Int} (h : FdOk f ts g) (pk : Bool) (kd at_ : Int) {p : Pl} {k : Nat} (hp : PlOk p k) {st : List (Int × Int) × (Int × Int)} (hA : GA at_ p st) {M : List (Int × Int)}
    (hM : f.isBits = false → InM ((spotF pk false f ts kd g p).at_ + at_) g.1 M) (hMA : f.isBits = false → Apart M) : GA at_ (stepF pk false f ts g p) (stepM false f (spanOf at_ (spotF pk false f ts kd g p)) M st) := by
  obtain ⟨b0, b1, b2, b3⟩ := beg_ge h pk false p hp.b0
  obtain ⟨s0, s1, s2, s3⟩ := spot_span h pk false kd p hp.b0
  have b1 := b1 rfl
  have hbit : (stepF pk false f ts g p).bit = begF pk false f ts g p + numF f g := rfl
  have hg1 := h.g1
  have hn := numF_bound h
  have hp0 := hp.b0
  obtain ⟨L, ra, rl⟩ := st
  obtain ⟨hA1, hA2, hA3, hA4⟩ := hA
  simp only at hA1 hA2 hA3 hA4
  have hF1 : Apart (if 0 < rl then L ++ [(ra, rl)] else L) ∧ ∀ x, x ∈ (if 0 < rl then L ++ [(ra, rl)] else L) → x.1 + x.2 ≤ at_ + (p.bit + 7) / 8 := by
    split
    · rename_i hc
      have h3 := hA3 hc
      refine ⟨List.pairwise_append.2 ⟨hA1, List.pairwise_singleton _ _, fun x hx y hy => ?_⟩, fun x hx => ?_⟩
      · rw [List.mem_singleton.1 hy]
        have := hA2 x hx
        rw [if_pos hc] at this
        exact this
      · rcases List.mem_append.1 hx with hx | hx
        · have := hA2 x hx
          rw [if_pos hc] at this
          omega
        · rw [List.mem_singleton.1 hx]
          exact h3
    · rename_i hc
      refine ⟨hA1, fun x hx => ?_⟩
      have := hA2 x hx
      rw [if_neg hc] at this
      exact this
  have hw : f.isBits = true → 0 ≤ f.width := fun hb => (h.bits hb).2.1
  unfold stepM
  simp only
  generalize hP : stepF pk false f ts g p = P at *
  generalize hS : spotF pk false f ts kd g p = S at *
  generalize begF pk false f ts g p = B at *
  cases hb : f.isBits
  · simp only [Bool.not_false, Bool.true_or, if_true, true_and]
    have hm := hM hb
    have hma := hMA hb
    have hb2 := b2 hb
    obtain ⟨h5, h6⟩ := s1 hb
    refine ⟨?_, fun x hx => ?_, by simp, fun _ => by omega⟩
    · refine List.pairwise_append.2 ⟨hF1.1, hma, fun x hx y hy => ?_⟩
      have := hF1.2 x hx
      have := hm y hy
      omega
    · simp only [Int.lt_irrefl, if_false]
      rcases List.mem_append.1 hx with hx | hx
      · have := hF1.2 x hx
        omega
      · have := hm x hx
        omega
  · simp only [Bool.not_true, Bool.false_or, Bool.true_eq_false, if_false, Bool.or_false]
    have hw := hw hb
    by_cases hz : f.width = 0
    · rw [hz]
      simp only [beq_self_eq_true, if_true, true_and, Int.lt_irrefl, if_false]
      have hb3 := b3 hb hz
      have hs3 := s3 hb hz
      refine ⟨hF1.1, fun x hx => ?_, by simp, fun _ => by omega⟩
      simp only [Int.lt_irrefl, if_false]
      have := hF1.2 x hx
      omega
    · have hw1 : 0 < f.width := by omega
      obtain ⟨s21, s22, s23⟩ := s2 hb hw1
      have hzb : (f.width == 0) = false := by simpa using hz
      rw [hzb]
      simp only [Bool.false_eq_true, false_and, if_false]
      by_cases hr : 0 < rl
      · rw [if_pos hr]
        have h3 := hA3 hr
        have hlen : 0 < (spanOf at_ S).1 + (spanOf at_ S).2 - ra := by unfold spanOf; simp only; omega
        refine ⟨hA1, fun x hx => ?_, fun h9 => ?_, fun h9 => absurd hlen h9⟩
        · have := hA2 x hx
          rw [if_pos hr] at this
          rw [if_pos hlen]
          exact this
        · unfold spanOf
          simp only
          omega
      · rw [if_neg hr, if_pos hw1]
        have hz8 := hA4 hr
        have hlen : 0 < (spanOf at_ S).2 := s21
        refine ⟨hA1, fun x hx => ?_, fun h9 => ?_, fun h9 => absurd hlen h9⟩
        · have := hA2 x hx
          rw [if_neg hr] at this
          rw [if_pos hlen]
          unfold spanOf
          simp only
          omega
        · unfold spanOf
          simp only
          omega
/-- a union is in it. -/
def unionF : (n : Nat) → Ty n → Bool
  | 0, t => nomatch t
  | n + 1, (t : TyF (Ty n)) => t.kind == 4 || t.elem.any (unionF n) || t.fields.any (fun f => unionF n f.type)
theorem unionF_succ (n : Nat) (t : TyF (Ty n)) : unionF (n + 1) t = (t.kind == 4 || t.elem.any (unionF n) || t.fields.any (fun f => unionF n f.type)) := rfl
theorem grp_parts (n : Nat) (t : TyF (Ty n)) (hk : t.kind = 3 ∨ t.kind = 4) {g : Int × Int} (hg : formF (n + 1) t = some g) : ∃ p, plK (formF n) (tsize n) t t.fields.length = some p ∧ g.1 = upF p.size p.align ∧ g.2 = p.align ∧ g.1 ≤ 65536 := by
  rw [formF_succ] at hg
  unfold formOne at hg
  rw [if_neg (by omega), if_neg (by omega)] at hg
  obtain ⟨p, hp, hg⟩ := Option.bind_eq_some_iff.1 hg
  unfold finF at hg
  split at hg
  · cases hg
    exact ⟨p, hp, rfl, rfl, by assumption⟩
  · cases hg
theorem spK_at {α : Type} (G : α → Option (Int × Int)) (Z K : α → Int) (t : TyF α) {m : Nat} {q : Pl} (h : plK G Z t m = some q) {k : Nat} (hk : k < m) : ∃ p f g, plK G Z t k = some p ∧ t.fields[k]? = some f ∧ G f.type = some g ∧ plK G Z t (k + 1) = some (stepF t.packed (t.kind == 4) f (Z f.type) g p) ∧ (spK G Z K t m)[k]? = some (spotF t.packed (t.kind == 4) f (Z f.type) (K f.type) g p) := spK_get G Z K t m q h k hk
theorem grp_fdok (n : Nat) (t : TyF (Ty n)) (h : soundF (n + 1) t = 0) (hk : t.kind = 3 ∨ t.kind = 4) : ∀ (i : Nat) (f : FdF (Ty n)) (g : Int × Int), t.fields[i]? = some f → formF n f.type = some g → FdOk f (tsize n f.type) g := fun i f g hi hg => (field_ok n t h hk i f g hi hg).2
theorem grpK_in (n : Nat) (t : TyF (Ty n)) (hs : soundF (n + 1) t = 0) (hk : t.kind = 3 ∨ t.kind = 4) (IH : ∀ (e : Ty n) (a : Int), soundF n e = 0 → ∀ g, formF n e = some g → InM a g.1 (marksF n e a)) {m : Nat} {q : Pl} (hq : plK (formF n) (tsize n) t m = some q) (at_ : Int) :
    ∀ k p, k ≤ m → plK (formF n) (tsize n) t k = some p → GI (t.kind == 4) at_ p (grpK (marksF n) t (spK (formF n) (tsize n) (tkind n) t m) at_ k)
  | 0, p, _, h => by
    cases h
    exact ⟨InM.nil, fun h => by simp [grpK] at h⟩
  | k + 1, p, hkm, h => by
    obtain ⟨p0, f, g, e1, e2, e3, e4, e5⟩ := spK_at (formF n) (tsize n) (tkind n) t hq (k := k) (by omega)
    rw [h] at e4
    cases e4
    rw [grpK_succ _ _ _ _ e2 e5]
    have hok := plK_ok (formF n) (tsize n) t (grp_fdok n t hs hk) k p0 e1
    obtain ⟨hsf, hfd⟩ := field_ok n t hs hk k f g e2 e3
    exact GI.step hfd _ _ _ _ hok (grpK_in n t hs hk IH hq at_ k p0 (by omega) e1) (fun _ => IH f.type _ hsf g e3)
/-- the locations of a sound type that fits lie within it. -/
theorem marks_in : ∀ (n : Nat) (t : Ty n) (a : Int), soundF n t = 0 → ∀ g, formF n t = some g → InM a g.1 (marksF n t a)
  | 0, t, _, _, _, _ => nomatch t
  | n + 1, (t : TyF (Ty n)), a, hs, g, hg => by
    have IH := marks_in n
    rcases sound_cases n t hs with ⟨hk, h1, _⟩ | ⟨hk, _, _, _, c0, c1, e, he, hse⟩ | ⟨hk, _⟩
    · rw [formF_succ] at hg
      unfold formOne at hg
      rw [if_pos hk] at hg
      cases hg
      rw [marksF_succ]
      unfold marksOne
      rw [if_pos hk]
      exact InM.one ⟨by simp only; omega, by simp only; omega, by simp only; omega⟩
    · rw [formF_succ] at hg
      unfold formOne at hg
      rw [if_neg (by omega), if_pos hk, he] at hg
      simp only [List.head?_cons, Option.bind_some] at hg
      obtain ⟨ge, hge, hg⟩ := Option.bind_eq_some_iff.1 hg
      have hgo := form_ok n e hse ge hge
      split at hg
      · cases hg
        rw [marksF_succ]
        unfold marksOne
        rw [if_neg (by omega), if_pos hk, he]
        simp only [List.head?_cons, hge]
        split
        · have := arrM_in (a := a) (s := ge.1) hgo.1 (fun b => IH e b hse ge hge) t.count.toNat
          rw [Int.toNat_of_nonneg (by omega), Int.mul_comm] at this
          exact this
        · exact InM.nil
      · cases hg
    · obtain ⟨p, hp, h1, h2, h3⟩ := grp_parts n t hk hg
      rw [marksF_succ]
      unfold marksOne
      rw [if_neg (by omega), if_neg (by omega)]
      have hI := grpK_in n t hs hk IH hp a t.fields.length p (Nat.le_refl _) hp
      have hok := plK_ok (formF n) (tsize n) t (grp_fdok n t hs hk) _ p hp
      have hu := upF_ge (n := p.size) hok.al.pos.1
      rw [← h1] at hu
      generalize grpK (marksF n) t (spK (formF n) (tsize n) (tkind n) t t.fields.length) a t.fields.length = st at *
      obtain ⟨i1, i2⟩ := hI
      unfold endM
      split
      · rename_i hr
        have := i2 hr
        exact (i1.mono (Int.le_refl _) (by omega)).app (InM.one ⟨by omega, hr, by omega⟩)
      · exact i1.mono (Int.le_refl _) (by omega)
theorem grpK_apart (n : Nat) (t : TyF (Ty n)) (hs : soundF (n + 1) t = 0) (hk : t.kind = 3) (hu : ∀ f, f ∈ t.fields → unionF n f.type = false) (IH : ∀ (e : Ty n) (a : Int), soundF n e = 0 → unionF n e = false → ∀ g, formF n e = some g → Apart (marksF n e a)) {m : Nat} {q : Pl} (hq : plK (formF n) (tsize n) t m = some q) (at_ : Int) :
    ∀ k p, k ≤ m → plK (formF n) (tsize n) t k = some p → GA at_ p (grpK (marksF n) t (spK (formF n) (tsize n) (tkind n) t m) at_ k)
  | 0, p, _, h => by
    cases h
    exact ⟨List.Pairwise.nil, fun x hx => by simp [grpK] at hx, fun h => by simp [grpK] at h, fun _ => rfl⟩
  | k + 1, p, hkm, h => by
    obtain ⟨p0, f, g, e1, e2, e3, e4, e5⟩ := spK_at (formF n) (tsize n) (tkind n) t hq (k := k) (by omega)
    rw [h] at e4
    cases e4
    rw [grpK_succ _ _ _ _ e2 e5]
    have hok := plK_ok (formF n) (tsize n) t (grp_fdok n t hs (.inl hk)) k p0 e1
    obtain ⟨hsf, hfd⟩ := field_ok n t hs (.inl hk) k f g e2 e3
    have h4 : (t.kind == 4) = false := by rw [hk]; rfl
    rw [h4]
    exact GA.step hfd _ _ _ hok (grpK_apart n t hs hk hu IH hq at_ k p0 (by omega) e1) (fun _ => marks_in n f.type _ hsf g e3) (fun _ => IH f.type _ hsf (hu f (List.mem_of_getElem? e2)) g e3)
/-- where no union is in it, they lie apart. -/
theorem marks_apart : ∀ (n : Nat) (t : Ty n) (a : Int), soundF n t = 0 → unionF n t = false → ∀ g, formF n t = some g → Apart (marksF n t a)
  | 0, t, _, _, _, _, _ => nomatch t
  | n + 1, (t : TyF (Ty n)), a, hs, hun, g, hg => by
    have IH := marks_apart n
    rw [unionF_succ] at hun
    simp only [Bool.or_eq_false_iff, List.any_eq_false] at hun
    obtain ⟨⟨u1, u2⟩, u3⟩ := hun
    rcases sound_cases n t hs with ⟨hk, h1, _⟩ | ⟨hk, _, _, _, c0, c1, e, he, hse⟩ | ⟨hk, _⟩
    · rw [marksF_succ]
      unfold marksOne
      rw [if_pos hk]
      exact List.pairwise_singleton _ _
    · rw [formF_succ] at hg
      unfold formOne at hg
      rw [if_neg (by omega), if_pos hk, he] at hg
      simp only [List.head?_cons, Option.bind_some] at hg
      obtain ⟨ge, hge, hg⟩ := Option.bind_eq_some_iff.1 hg
      have hgo := form_ok n e hse ge hge
      rw [marksF_succ]
      unfold marksOne
      rw [if_neg (by omega), if_pos hk, he]
      simp only [List.head?_cons, hge]
      have hue : unionF n e = false := by
        have := u2 e (by rw [he]; simp)
        simpa using this
      split
      · exact arrM_apart hgo.1 (fun b => marks_in n e b hse ge hge) (fun b => IH e b hse hue ge hge) _
      · exact List.Pairwise.nil
    · have hk3 : t.kind = 3 := by
        have : t.kind ≠ 4 := by simpa using u1
        omega
      obtain ⟨p, hp, h1, h2, h3⟩ := grp_parts n t hk hg
      rw [marksF_succ]
      unfold marksOne
      rw [if_neg (by omega), if_neg (by omega)]
      have hA := grpK_apart n t hs hk3 (fun f hf => by simpa using u3 f hf) IH hp a t.fields.length p (Nat.le_refl _) hp
      generalize grpK (marksF n) t (spK (formF n) (tsize n) (tkind n) t t.fields.length) a t.fields.length = st at *
      obtain ⟨i1, i2, i3, i4⟩ := hA
      unfold endM
      split
      · rename_i hr
        refine List.pairwise_append.2 ⟨i1, List.pairwise_singleton _ _, fun x hx y hy => ?_⟩
        rw [List.mem_singleton.1 hy]
        have := i2 x hx
        rw [if_pos hr] at this
        exact this
      · exact i1
def shM (d : Int) (L : List (Int × Int)) : List (Int × Int) := L.map fun x => (x.1 + d, x.2)
theorem shM_app (d : Int) (L M : List (Int × Int)) : shM d (L ++ M) = shM d L ++ shM d M := List.map_append
theorem arrM_shift {M : Int → List (Int × Int)} {a s d : Int} (hM : ∀ b, M (b + d) = shM d (M b)) : ∀ k : Nat, arrM M (a + d) s k = shM d (arrM M a s k)
  | 0 => rfl
  | k + 1 => by
    show arrM M (a + d) s k ++ M (a + d + (k : Int) * s) = shM d (arrM M a s k ++ M (a + (k : Int) * s))
    rw [shM_app, arrM_shift hM k, ← hM]
    congr 2
    omega
structure GS (d : Int) (s0 s1 : List (Int × Int) × (Int × Int)) : Prop where
  l : s1.1 = shM d s0.1
  n : s1.2.2 = s0.2.2
  a : 0 < s0.2.2 → s1.2.1 = s0.2.1 + d
theorem GS.step {α : Type} (uni : Bool) (f : FdF α) (s : Sp) (at_ d : Int) (M0 M1 : List (Int × Int)) (hM : M1 = shM d M0) {s0 s1 : List (Int × Int) × (Int × Int)} (h : GS d s0 s1) : GS d (stepM uni f (spanOf at_ s) M0 s0) (stepM uni f (spanOf (at_ + d) s) M1 s1) := by
  obtain ⟨L0, a0, n0⟩ := s0
  obtain ⟨L1, a1, n1⟩ := s1
  obtain ⟨h1, h2, h3⟩ := h
  simp only at h1 h2 h3
  subst h2 h1
  have hF : ∀ c : Bool, (if c = true ∧ 0 < n1 then shM d L0 ++ [(a1, n1)] else shM d L0) = shM d (if c = true ∧ 0 < n1 then L0 ++ [(a0, n1)] else L0) := fun c => by
    split
    · rename_i hc
      rw [shM_app, h3 hc.2]
      rfl
    · rfl
  unfold stepM
  simp only
  generalize (!f.isBits || f.width == 0 || uni) = brk
  split
  · exact ⟨by simp only; rw [hF, hM, shM_app], by simp only; split <;> rfl, fun h => by
      cases brk <;> simp at h ⊢
      exact h3 h⟩
  · cases brk
    · simp only [Bool.false_eq_true, false_and, if_false]
      split
      · rename_i hr
        exact ⟨rfl, by unfold spanOf; simp only; have := h3 hr; omega, fun _ => h3 hr⟩
      · split
        · exact ⟨rfl, rfl, fun _ => by unfold spanOf; simp only; omega⟩
        · exact ⟨rfl, rfl, h3⟩
    · simp only [if_true, Int.lt_irrefl, if_false]
      split
      · exact ⟨by simpa using hF true, rfl, fun _ => by unfold spanOf; simp only; omega⟩
      · exact ⟨by simpa using hF true, rfl, fun h => by simp at h⟩
theorem grpK_shift {α : Type} (M : α → Int → List (Int × Int)) (t : TyF α) (sp : List Sp) (at_ d : Int) (hM : ∀ (e : α) b, M e (b + d) = shM d (M e b)) : ∀ k, GS d (grpK M t sp at_ k) (grpK M t sp (at_ + d) k)
  | 0 => ⟨rfl, rfl, fun h => by simp [grpK] at h⟩
  | k + 1 => by
    have h := grpK_shift M t sp at_ d hM k
    cases hf : t.fields[k]? with
    | none => unfold grpK; rw [hf]; exact h
    | some f =>
      cases hs : sp[k]? with
      | none => unfold grpK; rw [hf, hs]; exact h
      | some s =>
        rw [grpK_succ _ _ _ _ hf hs, grpK_succ _ _ _ _ hf hs]
        exact h.step _ _ _ _ _ _ _ (by rw [← hM]; congr 1; omega)
/-- moved, they move. -/
theorem marks_shift : ∀ (n : Nat) (t : Ty n) (a d : Int), marksF n t (a + d) = shM d (marksF n t a)
  | 0, t, _, _ => nomatch t
  | n + 1, (t : TyF (Ty n)), a, d => by
    have IH := marks_shift n
    rw [marksF_succ, marksF_succ]
    unfold marksOne
    split
    · rfl
    · split
      · split
        · rfl
        · split
          · rfl
          · split
            · exact arrM_shift (fun b => IH _ b d) _
            · rfl
      · have h := grpK_shift (marksF n) t (spK (formF n) (tsize n) (tkind n) t t.fields.length) a d (fun e b => IH e b d) t.fields.length
        generalize grpK (marksF n) t (spK (formF n) (tsize n) (tkind n) t t.fields.length) a t.fields.length = s0 at *
        generalize grpK (marksF n) t (spK (formF n) (tsize n) (tkind n) t t.fields.length) (a + d) t.fields.length = s1 at *
        obtain ⟨h1, h2, h3⟩ := h
        unfold endM
        rw [h2, h1]
        split
        · rename_i hr
          rw [shM_app]
          have := h3 hr
          congr 1
          show [s1.2] = [(s0.2.1 + d, s0.2.2)]
          rw [← this, ← h2]
        · rfl
end Go.Proofs.Ytlbkloamabomcaa
