/- The contracts again, in one form: what values stand for. Condition: the library's table is laid, where it is asked for. -/
import Derived.Test.YtgghhbjaokgeeaaDoorRelLaws1
namespace Go.Proofs.YtgghhbjaokgeeaaDoor
open Go.RowKit Go.Sort Go.Lib
set_option linter.unusedVariables false
set_option linter.unusedSimpArgs false
/-- the value stands for a relation. -/
def RV (W : World) (v : Value) (n : Nat) (f : Nat → Nat → Bool) : Prop := ∃ len r, Sl W v len r ∧ n = sz len ∧ f = onF len r
theorem RV.of {W : World} {v : Value} {len : Nat} {r : Nat → Nat} (h : Sl W v len r) : RV W v (sz len) (onF len r) := ⟨len, r, h, rfl, rfl⟩
theorem RV.below {W W' : World} {v : Value} {n : Nat} {f : Nat → Nat → Bool} (h : RV W v n f) (hb : Below W.heap.size W W') : RV W' v n f := by
  obtain ⟨len, r, h1, h2, h3⟩ := h
  exact ⟨len, r, h1.below hb, h2, h3⟩
theorem RV.more {W : World} {v : Value} {n : Nat} {f : Nat → Nat → Bool} (h : RV W v n f) (p : Regrown) : RV (more W p) v n f := h.below (more_below W p)
theorem RV.alloc {W : World} {v : Value} {n : Nat} {f : Nat → Nat → Bool} (h : RV W v n f) (o : Obj) : RV (W.alloc o) v n f := h.below (below_al (Below.refl _ _) o)
theorem Tab.alloc {W : World} (h : Tab W) (o : Obj) : Tab (W.alloc o) := h.below (below_al (Below.refl _ _) o)
theorem RV.le {W : World} {v : Value} {n : Nat} {f : Nat → Nat → Bool} (h : RV W v n f) : n ≤ 64 := by
  obtain ⟨len, r, _, h2, _⟩ := h
  rw [h2]; exact sz_le _
theorem RV.c_ {W : World} {v : Value} {n : Nat} {f : Nat → Nat → Bool} (h : RV W v n f) : ∀ a c, n ≤ c → f a c = false := by
  obtain ⟨len, r, _, h2, h3⟩ := h
  rw [h2, h3]; exact onF_c
theorem RV.r_ {W : World} {v : Value} {n : Nat} {f : Nat → Nat → Bool} (h : RV W v n f) : ∀ a c, n ≤ a → f a c = false := by
  obtain ⟨len, r, _, h2, h3⟩ := h
  rw [h2, h3]; exact onF_r
/-- the value is the rows of a relation. -/
def CV (W : World) (v : Value) (n : Nat) (f : Nat → Nat → Bool) : Prop := ∃ g, v = .slice (some ⟨g, 0, none⟩) n n ∧ n ≤ 64 ∧ RowsU W g n (fun i => rowN n (f i)) ∧ (∀ a c, n ≤ c → f a c = false) ∧ (∀ a c, n ≤ a → f a c = false)
theorem CV.below {W W' : World} {v : Value} {n : Nat} {f : Nat → Nat → Bool} (h : CV W v n f) (hb : Below W.heap.size W W') : CV W' v n f := by
  obtain ⟨g, h1, h2, h3, h4, h5⟩ := h
  exact ⟨g, h1, h2, h3.below hb, h4, h5⟩
theorem CV.more {W : World} {v : Value} {n : Nat} {f : Nat → Nat → Bool} (h : CV W v n f) (p : Regrown) : CV (more W p) v n f := h.below (more_below W p)
theorem CV.alloc {W : World} {v : Value} {n : Nat} {f : Nat → Nat → Bool} (h : CV W v n f) (o : Obj) : CV (W.alloc o) v n f := h.below (below_al (Below.refl _ _) o)
theorem CV.rv {W : World} {v : Value} {n : Nat} {f : Nat → Nat → Bool} (h : CV W v n f) : RV W v n f := by
  obtain ⟨g, rfl, h2, h3, h4, h5⟩ := h
  refine ⟨n, _, h3.sl h2, by unfold sz; omega, ?_⟩
  funext i k
  rw [onF_rows h2]
  by_cases hi : i < n
  · by_cases hk : k < n
    · simp [hi, hk]
    · rw [h4 i k (by omega)]; simp
  · rw [h5 i k (by omega)]; simp
/-- it gives back the rows of a relation. -/
def GivesC (W : World) (n : Nat) (f : Nat → Nat → Bool) (e : Ending) (W' : World) : Prop := ∃ A l c, e = .returned (.slice A l c) ∧ (∃ p : Regrown, W' = Go.Proofs.YtgghhbjaokgeeaaDoor.more W p) ∧ CV W' (.slice A l c) n f
theorem GivesRows.c {W W' : World} {n : Nat} {f f' : Nat → Nat → Bool} {e : Ending} (h : GivesRows W n f e W') (hn : n ≤ 64) (hf : ∀ i k, f i k = f' i k) (hc : ∀ a c, n ≤ c → f' a c = false) (hr : ∀ a c, n ≤ a → f' a c = false) : GivesC W n f' e W' := by
  obtain ⟨g, h1, h2, _, _, h3⟩ := h
  exact ⟨_, _, _, h1, h2, g, rfl, hn, h3.congr fun i _ => rowN_congr fun k _ => hf i k, hc, hr⟩
theorem thenF_iff {N : Nat} {f g : Nat → Nat → Bool} (h : ∀ i j, N ≤ j → f i j = false) (i k : Nat) : thenF N f g i k = true ↔ ∃ j, f i j = true ∧ g j k = true := by
  unfold thenF
  simp only [List.any_eq_true, List.mem_range, Bool.and_eq_true]
  constructor
  · rintro ⟨j, _, h1⟩; exact ⟨j, h1⟩
  · rintro ⟨j, h1, h2⟩
    refine ⟨j, ?_, h1, h2⟩
    rcases Nat.lt_or_ge j N with h3 | h3
    · exact h3
    · rw [h i j h3] at h1; cases h1
variable {W : World} {va vb vc : Value} {na nb nc : Nat} {fa fb fc : Nat → Nat → Bool}
theorem cthen (ha : RV W va na fa) (hb : RV W vb nb fb) (hT : Tab W) : Calls Tryd.prog 22 #[va, vb] W (GivesC W (max na nb) (thenF (max na nb) fa fb)) := by
  have h1 := ha.le; have h2 := hb.le
  have ca := ha.r_; have cb := hb.c_; have ca' := ha.c_
  obtain ⟨la, ra, sa, rfl, rfl⟩ := ha
  obtain ⟨lb, rb, sb, rfl, rfl⟩ := hb
  refine (then_any va vb la lb ra rb W sa sb hT).mono fun e w' h => h.c (by omega) (fun _ _ => rfl) (fun a c hc => ?_) (fun a c hc => ?_)
  · rw [Bool.eq_false_iff]
    intro ht
    obtain ⟨j, _, h3⟩ := (thenF_iff (fun i j hj => ca' i j (by omega)) a c).1 ht
    rw [cb j c (by omega)] at h3; cases h3
  · rw [Bool.eq_false_iff]
    intro ht
    obtain ⟨j, h3, _⟩ := (thenF_iff (fun i j hj => ca' i j (by omega)) a c).1 ht
    rw [ca a j (by omega)] at h3; cases h3
theorem cback (ha : RV W va na fa) (hT : Tab W) : Calls Tryd.prog 19 #[va] W (GivesC W na (backF fa)) := by
  have h1 := ha.le
  have ca := ha.r_; have cc := ha.c_
  obtain ⟨la, ra, sa, rfl, rfl⟩ := ha
  exact (back_any va la ra W sa hT).mono fun e w' h => h.c h1 (fun _ _ => rfl) (fun a c hc => ca c a hc) (fun a c hc => cc c a hc)
theorem cplus (ha : RV W va na fa) : Calls Tryd.prog 24 #[va] W (GivesC W na (rchB fa)) := by
  have h1 := ha.le
  have ca := ha.r_; have cc := ha.c_
  obtain ⟨la, ra, sa, rfl, rfl⟩ := ha
  refine (plus_any va la ra W sa).mono fun e w' h => h.c h1 (fun i k => war_iff cc i k) (fun a c hc => ?_) (fun a c hc => ?_)
  · rw [Bool.eq_false_iff]
    intro ht
    cases rchB_iff.1 ht with
    | one h => rw [cc _ c hc] at h; cases h
    | step _ h => rw [cc _ c hc] at h; cases h
  · rw [Bool.eq_false_iff]
    intro ht
    obtain ⟨t, h⟩ := rch_row (rchB_iff.1 ht)
    rw [ca a t hc] at h; cases h
theorem conly (ha : RV W va na fa) (s t : Nat) (hs : s < 18446744073709551616) (ht : t < 18446744073709551616) : Calls Tryd.prog 20 #[va, .int .u64 s, .int .u64 t] W (GivesC W na (onlyF fa s t)) := by
  have h1 := ha.le
  have ca := ha.r_; have cc := ha.c_
  obtain ⟨la, ra, sa, rfl, rfl⟩ := ha
  exact (only_any va la ra s t hs ht W sa).mono fun e w' h => h.c h1 (fun _ _ => rfl) (fun a c hc => by unfold onlyF; rw [cc a c hc]; rfl) (fun a c hc => by unfold onlyF; rw [ca a c hc]; rfl)
theorem cpair (ha : RV W va na fa) (a b : Int) : Calls Tryd.prog 17 #[va, .int .i64 a, .int .i64 b] W (GivesC W na (pairF fa a b na)) := by
  have h1 := ha.le
  have ca := ha.r_; have cc := ha.c_
  obtain ⟨la, ra, sa, rfl, rfl⟩ := ha
  refine (pair_any va la ra a b W sa).mono fun e w' h => h.c h1 (fun _ _ => rfl) (fun i c hc => ?_) (fun i c hc => ?_)
  · unfold pairF
    rw [cc i c hc, Bool.false_or]
    rw [Bool.eq_false_iff]
    simp only [ne_eq, Bool.and_eq_true, decide_eq_true_eq]
    omega
  · unfold pairF
    rw [ca i c hc, Bool.false_or]
    rw [Bool.eq_false_iff]
    simp only [ne_eq, Bool.and_eq_true, decide_eq_true_eq]
    omega
theorem cacy (ha : RV W va na fa) : Calls Tryd.prog 25 #[va] W (GivesB W (∀ x, ¬ Rch fa x x)) := by
  have ca := ha.r_; have cc := ha.c_
  obtain ⟨la, ra, sa, rfl, rfl⟩ := ha
  exact (acyclic_any va la ra W sa).mono fun e w' h => ⟨_, h.1, acyB_iff cc ca, h.2⟩
def orF (f g : Nat → Nat → Bool) (i k : Nat) : Bool := f i k || g i k
theorem cun1 {B : Nat} (hB : B = W.heap.size) (ha : RV W va na fa) : Calls Tryd.prog 18 #[.slice (some ⟨B, 0, none⟩) 1 1] (W.alloc (.cells #[va] 22)) (GivesC (W.alloc (.cells #[va] 22)) na fa) := by
  subst hB
  have h1 := ha.le
  have ca := ha.r_; have cc := ha.c_
  obtain ⟨la, ra, sa, rfl, rfl⟩ := ha
  have hb := below_al (Below.refl _ W) (.cells #[va] 22)
  refine (union_any (some ⟨W.heap.size, 0, none⟩) W.heap.size 1 1 (fun _ => va) (fun _ => la) (fun _ => ra) (by decide) (by decide) (by decide) (fun _ => rfl) _ (fun j hj => ?_) (fun j hj => sa.below hb)).mono fun e w' h => ?_
  · obtain rfl : j = 0 := by omega
    simp [go_sem]
  · rw [show mx (fun _ => la) 1 = sz la by unfold mx mx; omega] at h
    exact h.c h1 (fun i k => by simp [unF]) cc ca
theorem cun2 {B : Nat} (hB : B = W.heap.size) (ha : RV W va na fa) (hb' : RV W vb nb fb) : Calls Tryd.prog 18 #[.slice (some ⟨B, 0, none⟩) 2 2] (W.alloc (.cells #[va, vb] 22)) (GivesC (W.alloc (.cells #[va, vb] 22)) (max na nb) (orF fa fb)) := by
  subst hB
  have h1 := ha.le; have h2 := hb'.le
  have ca := ha.r_; have cc := ha.c_
  have cb := hb'.r_; have cd := hb'.c_
  obtain ⟨la, ra, sa, rfl, rfl⟩ := ha
  obtain ⟨lb, rb, sb, rfl, rfl⟩ := hb'
  have hb := below_al (Below.refl _ W) (.cells #[va, vb] 22)
  refine (union_any (some ⟨W.heap.size, 0, none⟩) W.heap.size 2 2 (fun j => if j = 0 then va else vb) (fun j => if j = 0 then la else lb) (fun j => if j = 0 then ra else rb) (by decide) (by decide) (by decide) (fun _ => rfl) _ (fun j hj => ?_) (fun j hj => ?_)).mono fun e w' h => ?_
  · rcases (show j = 0 ∨ j = 1 by omega) with rfl | rfl <;> simp [go_sem]
  · rcases (show j = 0 ∨ j = 1 by omega) with rfl | rfl
    · exact sa.below hb
    · exact sb.below hb
  · rw [show mx (fun j => if j = 0 then la else lb) 2 = max (sz la) (sz lb) by unfold mx mx mx; simp] at h
    exact h.c (by omega) (fun i k => by simp [unF, orF]) (fun a c hc => by unfold orF; rw [cc a c (by omega), cd a c (by omega)]; rfl) (fun a c hc => by unfold orF; rw [ca a c (by omega), cb a c (by omega)]; rfl)
theorem cun3 {B : Nat} (hB : B = W.heap.size) (ha : RV W va na fa) (hb' : RV W vb nb fb) (hc' : RV W vc nc fc) : Calls Tryd.prog 18 #[.slice (some ⟨B, 0, none⟩) 3 3] (W.alloc (.cells #[va, vb, vc] 22)) (GivesC (W.alloc (.cells #[va, vb, vc] 22)) (max (max na nb) nc) (orF (orF fa fb) fc)) := by
  subst hB
  have h1 := ha.le; have h2 := hb'.le; have h3 := hc'.le
  have ca := ha.r_; have cc := ha.c_
  have cb := hb'.r_; have cd := hb'.c_
  have ce := hc'.r_; have cf := hc'.c_
  obtain ⟨la, ra, sa, rfl, rfl⟩ := ha
  obtain ⟨lb, rb, sb, rfl, rfl⟩ := hb'
  obtain ⟨lc, rc, sc, rfl, rfl⟩ := hc'
  have hb := below_al (Below.refl _ W) (.cells #[va, vb, vc] 22)
  refine (union_any (some ⟨W.heap.size, 0, none⟩) W.heap.size 3 3 (fun j => if j = 0 then va else if j = 1 then vb else vc) (fun j => if j = 0 then la else if j = 1 then lb else lc) (fun j => if j = 0 then ra else if j = 1 then rb else rc) (by decide) (by decide) (by decide) (fun _ => rfl) _ (fun j hj => ?_) (fun j hj => ?_)).mono fun e w' h => ?_
  · rcases (show j = 0 ∨ j = 1 ∨ j = 2 by omega) with rfl | rfl | rfl <;> simp [go_sem]
  · rcases (show j = 0 ∨ j = 1 ∨ j = 2 by omega) with rfl | rfl | rfl
    · exact sa.below hb
    · exact sb.below hb
    · exact sc.below hb
  · rw [show mx (fun j => if j = 0 then la else if j = 1 then lb else lc) 3 = max (max (sz la) (sz lb)) (sz lc) by unfold mx mx mx mx; simp] at h
    exact h.c (by omega) (fun i k => by simp [unF, orF]) (fun a c hc => by simp only [orF]; rw [cc a c (by omega), cd a c (by omega), cf a c (by omega)]; rfl) (fun a c hc => by simp only [orF]; rw [ca a c (by omega), cb a c (by omega), ce a c (by omega)]; rfl)
end Go.Proofs.YtgghhbjaokgeeaaDoor
