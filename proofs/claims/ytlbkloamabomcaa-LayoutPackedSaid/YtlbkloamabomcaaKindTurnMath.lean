/- A type whose fields stand in another order. No condition. -/
import Derived.Test.YtlbkloamabomcaaKindPartsMath
namespace Go.Proofs.Ytlbkloamabomcaa
open Go.RowKit Go.Sort
set_option linter.unusedVariables false
set_option linter.unusedSimpArgs false
theorem anyB_hit2 (nm : Nat → ByteArray) (s : ByteArray) (m k : Nat) (hk : k < m) (h : ((nm k).toList == s.toList) = true) : anyB nm s m = true := by
  unfold anyB
  rw [List.any_eq_true]
  exact ⟨k, List.mem_range.2 hk, h⟩
/-- names that are there are unlike. -/
def Unlike {α : Type} (f g : FdF α) : Prop := f.name.toList.isEmpty = false → ¬ (f.name.toList == g.name.toList) = true
theorem unlike_symm {α : Type} {f g : FdF α} (h : Unlike f g) : Unlike g f := by
  intro h1 h2
  have e : g.name.toList = f.name.toList := by simpa using h2
  exact h (by rw [← e]; exact h1) (by simpa using e.symm)
def fieldA {α : Type} (S K Z : α → Int) (p : Bool) (f : FdF α) : Int := fieldE p f.name false (S f.type) f.isBits f.width (K f.type) (Z f.type)
theorem fieldE_tw {p : Bool} {s : ByteArray} {tw tw' : Bool} {e : Int} {bt : Bool} {wd qk qs : Int} (h : fieldE p s tw e bt wd qk qs = 0) (h2 : (!s.toList.isEmpty && tw') = false) : fieldE p s tw' e bt wd qk qs = 0 := by
  have h3 := (fieldE_zero h).2
  unfold fieldE at h ⊢
  rw [h2]
  rw [h3] at h
  exact h
theorem group_iff {α : Type} (S K Z : α → Int) (t : TyF α) : firstE (fieldOf S K Z t) t.fields.length = 0 ↔ (∀ f ∈ t.fields, fieldA S K Z t.packed f = 0) ∧ t.fields.Pairwise Unlike := by
  constructor
  · intro h
    have hz := firstE_eq _ _ h
    have each : ∀ i (hi : i < t.fields.length), fieldE t.packed t.fields[i].name (anyB (nameAt t.fields) t.fields[i].name i) (S t.fields[i].type) t.fields[i].isBits t.fields[i].width (K t.fields[i].type) (Z t.fields[i].type) = 0 := fun i hi => by
      have := hz i hi
      rwa [fieldOf_some S K Z t i t.fields[i] (List.getElem?_eq_getElem hi)] at this
    refine ⟨fun f hf => ?_, List.pairwise_iff_getElem.2 fun i j hi hj hij => ?_⟩
    · obtain ⟨i, hi, rfl⟩ := List.getElem_of_mem hf
      exact fieldE_tw (each i hi) (by simp)
    · refine unlike_symm fun h1 h2 => ?_
      have h3 := (fieldE_zero (each j hj)).2
      rw [h1] at h3
      have h4 : anyB (nameAt t.fields) t.fields[j].name j = true := anyB_hit2 _ _ j i hij (by
        rw [nameAt_eq t.fields i _ (List.getElem?_eq_getElem hi)]
        have e : t.fields[j].name.toList = t.fields[i].name.toList := by simpa using h2
        simpa using e.symm)
      rw [h4] at h3
      simp at h3
  · intro ⟨h1, h2⟩
    refine firstE_zero _ _ fun i hi => ?_
    rw [fieldOf_some S K Z t i t.fields[i] (List.getElem?_eq_getElem hi)]
    refine fieldE_tw (h1 _ (List.getElem_mem hi)) ?_
    cases he : t.fields[i].name.toList.isEmpty
    · simp only [Bool.not_false, Bool.true_and]
      unfold anyB
      rw [List.any_eq_false]
      intro j hj h3
      have hj2 := List.mem_range.1 hj
      have hu := unlike_symm (List.pairwise_iff_getElem.1 h2 j i (by omega) hi hj2)
      rw [nameAt_eq t.fields j _ (List.getElem?_eq_getElem (by omega))] at h3
      have e : t.fields[j].name.toList = t.fields[i].name.toList := by simpa using h3
      exact hu he (by simpa using e.symm)
    · simp
theorem sound_perm {n : Nat} {t u : TyF (Ty n)} (hp : t.fields.Perm u.fields) (h1 : t.kind = u.kind) (h2 : t.size = u.size) (h3 : t.packed = u.packed) (h4 : t.count = u.count) (h5 : t.elem = u.elem) (h : soundF (n + 1) t = 0) : soundF (n + 1) u = 0 := by
  have hl := hp.length_eq
  rw [soundF_succ] at h ⊢
  unfold oneE at h ⊢
  rw [h1, h2, h3, h4, h5, hl] at h
  split at h
  · omega
  · rename_i ho
    rw [if_neg ho]
    split at h
    · rename_i a; rw [if_pos a]; exact h
    · rename_i a; rw [if_neg a]
      split at h
      · rename_i b; rw [if_pos b]; exact h
      · rename_i b; rw [if_neg b]
        split at h
        · rename_i c; rw [if_pos c]; exact h
        · rename_i c; rw [if_neg c]
          unfold groupE at h ⊢
          rw [hl] at h
          split at h
          · omega
          · rename_i d
            rw [if_neg d]
            rw [← hl] at h
            obtain ⟨g1, g2⟩ := (group_iff _ _ _ t).1 h
            refine (group_iff _ _ _ u).2 ⟨fun f hf => ?_, ?_⟩
            · rw [← h3]; exact g1 f (hp.mem_iff.2 hf)
            · exact (hp.pairwise_iff (fun h => unlike_symm h)).1 g2
theorem foldl_max_out {α : Type} (g : α → Int) : ∀ (l : List α) (o : Int), 0 ≤ o → l.foldl (fun o x => max o (g x)) o = max o (l.foldl (fun o x => max o (g x)) 0)
  | [], o, h => by simp; omega
  | x :: l, o, h => by
    simp only [List.foldl_cons]
    rw [foldl_max_out g l (max o (g x)) (by omega), foldl_max_out g l (max 0 (g x)) (by omega)]
    omega
theorem foldl_nonneg {α : Type} (g : α → Int) (l : List α) : 0 ≤ l.foldl (fun o x => max o (g x)) 0 := (foldl_ge g l 0).1
theorem foldl_max_swap {α : Type} (g : α → Int) (a b : List α) : (a ++ b).foldl (fun o x => max o (g x)) 0 = (b ++ a).foldl (fun o x => max o (g x)) 0 := by
  rw [List.foldl_append, List.foldl_append, foldl_max_out g b _ (foldl_nonneg g a), foldl_max_out g a _ (foldl_nonneg g b)]
  omega
theorem depth_turn {n : Nat} {t u : TyF (Ty n)} (a b : List (FdF (Ty n))) (h1 : t.fields = a ++ b) (h2 : u.fields = b ++ a) (h5 : t.elem = u.elem) (most : Int) : depthF (n + 1) u most = depthF (n + 1) t most := by
  rw [depthF_succ n t most, depthF_succ n u most, h1, h2, h5, foldl_max_swap]
/-- fields in another order. -/
theorem Sound_turn {n : Nat} {t u : TyF (Ty n)} (k : Nat) (hu : u = { t with fields := t.fields.drop k ++ t.fields.take k }) (h : SoundF (n + 1) t = 0) : SoundF (n + 1) u = 0 ∧ depthF (n + 1) u 65 = depthF (n + 1) t 65 := by
  subst hu
  have hd := depth_turn (n := n) (t := t) (u := { t with fields := t.fields.drop k ++ t.fields.take k }) (t.fields.take k) (t.fields.drop k) (List.take_append_drop k t.fields).symm rfl rfl 65
  refine ⟨?_, hd⟩
  unfold SoundF at h ⊢
  split at h
  · omega
  · rename_i h1
    rw [if_neg (by rw [hd]; exact h1)]
    refine sound_perm (t := t) ?_ rfl rfl rfl rfl rfl h
    have := List.perm_append_comm (l₁ := t.fields.take k) (l₂ := t.fields.drop k)
    rwa [List.take_append_drop] at this
/-- no more than 32 fields. -/
theorem sound_few {n : Nat} {t : TyF (Ty n)} (h : SoundF (n + 1) t = 0) : t.fields.length ≤ 32 := by
  unfold SoundF at h
  split at h
  · omega
  · rw [soundF_succ] at h
    unfold oneE at h
    split at h
    · omega
    · rename_i ho
      obtain ⟨a, b, c, d⟩ := onlyB_parts (by simpa using ho)
      split at h
      · omega
      · split at h
        · omega
        · split at h
          · omega
          · unfold groupE at h
            split at h
            · omega
            · omega
end Go.Proofs.Ytlbkloamabomcaa
