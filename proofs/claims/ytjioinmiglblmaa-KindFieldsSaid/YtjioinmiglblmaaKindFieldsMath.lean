/- A struct of numbers with names that are unlike. No condition. -/
import Derived.Test.YtjioinmiglblmaaKindTurnMath
namespace Go.Proofs.Ytjioinmiglblmaa
open Go.RowKit Go.Sort
set_option linter.unusedVariables false
set_option linter.unusedSimpArgs false
/-- a number of so many bytes, as a type. -/
def tyI (n : Nat) (s : Int) : TyF (Ty n) := { kind := 1, size := s, packed := false, fields := [], count := 0, elem := [] }
/-- the field's name. -/
def nmK (i : Nat) : ByteArray := ⟨#[UInt8.ofNat (97 + i), 95]⟩
/-- the field. -/
def fdK (sz : Nat → Int) (i : Nat) : FdF (Ty 1) := { name := nmK i, type := tyI 0 (sz i), isBits := false, width := 0 }
/-- the type of so many of them. -/
def tyK (k : Int) (p : Bool) (fs : List (FdF (Ty 1))) : TyF (Ty 1) := { kind := k, size := 0, packed := p, fields := fs, count := 0, elem := [] }
def fsK (sz : Nat → Int) (m : Nat) : List (FdF (Ty 1)) := (List.range m).map (fdK sz)
theorem fsK_len (sz : Nat → Int) (m : Nat) : (fsK sz m).length = m := by simp [fsK]
theorem fsK_get (sz : Nat → Int) (m i : Nat) (h : i < m) : (fsK sz m)[i]? = some (fdK sz i) := by simp [fsK, h]
theorem nmK_name : ∀ i, i < 26 → nameB (nmK i) = true := by decide
theorem nmK_ne : ∀ i, i < 26 → ∀ j, j < 26 → ((nmK i).toList == (nmK j).toList) = decide (i = j) := by
  simp only [ByteArray.toList_eq]
  decide
theorem nmK_there : ∀ i, i < 26 → (nmK i).toList.isEmpty = false := by
  simp only [ByteArray.toList_eq]
  decide
theorem tyI_sound (s : Int) (h : s = 1 ∨ s = 2 ∨ s = 4 ∨ s = 8) : soundF 1 (tyI 0 s) = 0 := by
  rw [soundF_succ]
  rcases h with rfl | rfl | rfl | rfl <;> rfl
theorem tyI_depth (s : Int) (most : Int) : depthF 1 (tyI 0 s) most = 1 := by
  rw [depthF_succ]
  unfold tyI
  simp
def szOk (sz : Nat → Int) : Prop := ∀ i, sz i = 1 ∨ sz i = 2 ∨ sz i = 4 ∨ sz i = 8
theorem fdK_ok {sz : Nat → Int} (hs : szOk sz) (p : Bool) (i : Nat) (hi : i < 26) (tw : Bool) : fieldE p (nmK i) tw (soundF 1 (tyI 0 (sz i))) false 0 1 (sz i) = if tw = true then 7 else 0 := by
  unfold fieldE
  rw [nmK_name i hi, nmK_there i hi, tyI_sound _ (hs i)]
  cases tw <;> simp
theorem kOnly {k : Int} (hk : k = 3 ∨ k = 4) (p : Bool) (m : Nat) : onlyB k 0 p m 0 0 = true := by
  rcases hk with rfl | rfl <;> unfold onlyB <;> simp
theorem group_hit {k : Int} (hk : k = 3 ∨ k = 4) (p : Bool) (fs : List (FdF (Ty 1))) : soundF 2 (tyK k p fs) = groupE (soundF 1) (tkind 1) (tsize 1) (tyK k p fs) := by
  rw [soundF_succ]
  unfold oneE
  have e : onlyB (tyK k p fs).kind (tyK k p fs).size (tyK k p fs).packed (tyK k p fs).fields.length (tyK k p fs).count (tyK k p fs).elem.length = true := kOnly hk p _
  rw [if_neg (by rw [e]; simp), if_neg (by show ¬ k = 1; omega), if_neg (by show ¬ k = 2; omega), if_neg (by show ¬ k = 5; omega)]
theorem depth_two {k : Int} (p : Bool) (sz : Nat → Int) (fs : List (FdF (Ty 1))) (h0 : 0 < fs.length) (h : ∀ f ∈ fs, ∃ i, f = fdK sz i) (most : Int) (hm : 2 ≤ most) : depthF 2 (tyK k p fs) most = 2 := by
  rw [depthF_succ, if_pos (by omega)]
  have e1 : ∀ (l : List (FdF (Ty 1))) (o : Int), (∀ f ∈ l, ∃ i, f = fdK sz i) → 0 ≤ o → o ≤ 1 → l.foldl (fun o f => max o (depthF 1 f.type (most - 1))) o = if l = [] then o else 1 := by
    intro l
    induction l with
    | nil => intro o _ _ _; simp
    | cons f l ih =>
      intro o hl h0 h1
      obtain ⟨i, rfl⟩ := hl _ List.mem_cons_self
      have e : depthF 1 (fdK sz i).type (most - 1) = 1 := tyI_depth _ _
      rw [List.foldl_cons, e, ih _ (fun f hf => hl f (List.mem_cons_of_mem _ hf)) (by omega) (by omega)]
      split <;> simp <;> omega
  show (List.foldl _ (List.foldl _ 0 fs) []) + 1 = 2
  rw [List.foldl_nil, e1 fs 0 h (by omega) (by omega), if_neg (by intro e; rw [e] at h0; simp at h0)]
  rfl
theorem fsK_all (sz : Nat → Int) (m : Nat) : ∀ f ∈ fsK sz m, ∃ i, f = fdK sz i := by
  intro f hf
  obtain ⟨i, _, rfl⟩ := List.mem_map.mp hf
  exact ⟨i, rfl⟩
theorem fsK_zero {k : Int} (hk : k = 3 ∨ k = 4) (p : Bool) : SoundF 2 (tyK k p []) = 12 := by
  unfold SoundF
  have e : depthF 2 (tyK k p []) 65 = 1 := by rw [depthF_succ]; simp [tyK]
  rw [e, if_neg (by omega), group_hit hk]
  unfold groupE
  rw [if_pos (by left; simp [tyK])]
theorem fsK_of {sz : Nat → Int} {k : Int} {p : Bool} (i m : Nat) (fs : List (FdF (Ty 1))) (h : fs[i]? = some (fdK sz m)) : fieldOf (soundF 1) (tkind 1) (tsize 1) (tyK k p fs) i = fieldE p (nmK m) (anyB (nameAt fs) (nmK m) i) (soundF 1 (tyI 0 (sz m))) false 0 1 (sz m) := by
  rw [fieldOf_some _ _ _ (tyK k p fs) i (fdK sz m) h]
  rfl
theorem fsK_apart {sz : Nat → Int} {m i : Nat} (hm : m ≤ 26) (hi : i < m) (fs : List (FdF (Ty 1))) (hf : ∀ j, j < m → fs[j]? = some (fdK sz j)) : anyB (nameAt fs) (nmK i) i = false := by
  unfold anyB
  rw [List.any_eq_false]
  intro j hj
  have := List.mem_range.1 hj
  rw [nameAt_eq fs j _ (hf j (by omega))]
  show ¬ ((nmK j).toList == (nmK i).toList) = true
  rw [nmK_ne j (by omega) i (by omega)]
  simp
  omega
theorem fsK_sound {sz : Nat → Int} (hs : szOk sz) {k : Int} (hk : k = 3 ∨ k = 4) (p : Bool) (m : Nat) (h0 : 0 < m) (hm : m ≤ 26) : SoundF 2 (tyK k p (fsK sz m)) = 0 := by
  unfold SoundF
  rw [depth_two (k := k) p sz (fsK sz m) (by rw [fsK_len]; omega) (fsK_all sz m) 65 (by omega), if_neg (by omega), group_hit hk]
  unfold groupE
  rw [if_neg (by show ¬ ((fsK sz m).length < 1 ∨ 32 < (fsK sz m).length); rw [fsK_len]; omega)]
  refine firstE_zero _ _ fun i hi => ?_
  have hi' : i < m := by rw [← fsK_len sz m]; exact hi
  rw [fsK_of i i _ (fsK_get sz m i hi'), fsK_apart hm hi' _ (fun j hj => fsK_get sz m j hj), fdK_ok hs p i (by omega)]
  rfl
theorem fsK_twice {sz : Nat → Int} (hs : szOk sz) {k : Int} (hk : k = 3 ∨ k = 4) (p : Bool) (m c : Nat) (hc : c < m) (hm : m ≤ 26) : SoundF 2 (tyK k p (fsK sz m ++ [fdK sz c])) = 7 ∧ depthF 2 (tyK k p (fsK sz m ++ [fdK sz c])) 65 = 2 := by
  have hd := depth_two (k := k) p sz (fsK sz m ++ [fdK sz c]) (by rw [List.length_append, fsK_len]; omega) (fun f hf => by
    rcases List.mem_append.mp hf with hf | hf
    · exact fsK_all sz m f hf
    · exact ⟨c, by simpa using hf⟩) 65 (by omega)
  refine ⟨?_, hd⟩
  unfold SoundF
  rw [hd, if_neg (by omega), group_hit hk]
  unfold groupE
  have hl : (fsK sz m ++ [fdK sz c]).length = m + 1 := by rw [List.length_append, fsK_len]; rfl
  rw [if_neg (by show ¬ ((fsK sz m ++ [fdK sz c]).length < 1 ∨ 32 < (fsK sz m ++ [fdK sz c]).length); rw [hl]; omega)]
  have hg : ∀ j, j < m → (fsK sz m ++ [fdK sz c])[j]? = some (fdK sz j) := fun j hj => by rw [List.getElem?_append_left (by rw [fsK_len]; exact hj), fsK_get sz m j hj]
  have hz : ∀ i, i < m → fieldOf (soundF 1) (tkind 1) (tsize 1) (tyK k p (fsK sz m ++ [fdK sz c])) i = 0 := fun i hi => by
    rw [fsK_of i i _ (hg i hi), fsK_apart hm hi _ hg, fdK_ok hs p i (by omega)]
    rfl
  have hl2 : (fsK sz m ++ [fdK sz c])[m]? = some (fdK sz c) := by rw [List.getElem?_append_right (by rw [fsK_len]; omega), fsK_len, Nat.sub_self]; rfl
  have hx : fieldOf (soundF 1) (tkind 1) (tsize 1) (tyK k p (fsK sz m ++ [fdK sz c])) m = 7 := by
    have h3 : anyB (nameAt (fsK sz m ++ [fdK sz c])) (nmK c) m = true := anyB_hit2 _ _ m c hc (by
      rw [nameAt_eq _ c _ (hg c hc)]
      show ((nmK c).toList == (nmK c).toList) = true
      simp)
    rw [fsK_of m c _ hl2, h3, fdK_ok hs p c (by omega)]
    rfl
  show firstE _ (fsK sz m ++ [fdK sz c]).length = 7
  rw [hl, firstE_hit _ m hz (by rw [hx]; omega) (m + 1) (by omega), hx]
end Go.Proofs.Ytjioinmiglblmaa
