/- How large what is reckoned of fields can be; the list of spots. On plain data. No condition. -/
import Derived.Test.YtlbkloamabomcaaLayMath
namespace Go.Proofs.Ytlbkloamabomcaa
open Go.RowKit
set_option linter.unusedVariables false
set_option linter.unusedSimpArgs false
section
variable {α : Type}
/-- the spots of the first k fields. -/
def spK (G : α → Option (Int × Int)) (Z K : α → Int) (t : TyF α) : Nat → List Sp
  | 0 => []
  | k + 1 => spK G Z K t k ++ (((plK G Z t k).bind fun p => (t.fields[k]?).bind fun f => (G f.type).map fun g => spotF t.packed (t.kind == 4) f (Z f.type) (K f.type) g p).toList)
theorem spK_succ (G : α → Option (Int × Int)) (Z K : α → Int) (t : TyF α) (k : Nat) {p : Pl} {f : FdF α} {g : Int × Int} (hp : plK G Z t k = some p) (hf : t.fields[k]? = some f) (hg : G f.type = some g) :
    spK G Z K t (k + 1) = spK G Z K t k ++ [spotF t.packed (t.kind == 4) f (Z f.type) (K f.type) g p] := by
  show spK G Z K t k ++ _ = _
  rw [hp, hf]
  simp [hg]
theorem spK_len (G : α → Option (Int × Int)) (Z K : α → Int) (t : TyF α) : ∀ k p, plK G Z t k = some p → (spK G Z K t k).length = k
  | 0, _, _ => rfl
  | k + 1, p', h => by
    obtain ⟨p, f, g, hp, hf, hg, rfl⟩ := plK_inv G Z t k h
    rw [spK_succ G Z K t k hp hf hg, List.length_append, spK_len G Z K t k p hp]
    rfl
end
theorem upF_bound {n s : Int} (h0 : 0 ≤ n) (hs : 0 < s) : 0 ≤ upF n s ∧ upF n s < n + s := by
  have := upF_ge (n := n) hs
  omega
theorem bitAt_bound {p u w : Int} (h0 : 0 ≤ p) (hu : 0 < u) : p ≤ bitAt p u w ∧ bitAt p u w < p + u := by
  unfold bitAt
  have := upF_ge (n := p) hu
  split
  · exact this
  · split
    · exact this
    · omega
/-- what a field is, where its type may be laid. -/
structure FdOk {α : Type} (f : FdF α) (ts : Int) (g : Int × Int) : Prop where
  g1 : 0 ≤ g.1 ∧ g.1 ≤ 65536
  g2 : Pow g.2
  bits : f.isBits = true → (ts = 1 ∨ ts = 2 ∨ ts = 4 ∨ ts = 8) ∧ 0 ≤ f.width ∧ f.width ≤ 8 * ts
  plain : f.isBits = false → f.width = 0
theorem wideF_pow {α : Type} {f : FdF α} {ts : Int} {g : Int × Int} (h : FdOk f ts g) (pk : Bool) : Pow (wideF pk f ts g) := by
  unfold wideF
  split
  · exact .inl rfl
  · split
    · rename_i hb
      have := (h.bits hb).1
      unfold Pow
      omega
    · exact h.g2
theorem begF_bound {α : Type} {f : FdF α} {ts : Int} {g : Int × Int} (h : FdOk f ts g) (pk uni : Bool) {p : Pl} (hp : 0 ≤ p.bit) :
    0 ≤ begF pk uni f ts g p ∧ begF pk uni f ts g p ≤ p.bit + 200 := by
  have hp0 : 0 ≤ (if uni = true then 0 else p.bit) ∧ (if uni = true then 0 else p.bit) ≤ p.bit := by split <;> omega
  unfold begF
  generalize (if uni = true then 0 else p.bit) = b at *
  split
  · rename_i hb
    have := (h.bits hb).1
    have := bitAt_bound (p := b) (u := 8 * ts) (w := f.width) hp0.1 (by omega)
    omega
  · have h1 := upF_bound (n := b) (s := 8) hp0.1 (by omega)
    have h2 := upF_bound (n := upF b 8 / 8) (s := wideF pk f ts g) (by omega) (wideF_pow h pk).pos.1
    have := (wideF_pow h pk).pos
    omega
theorem numF_bound {α : Type} {f : FdF α} {ts : Int} {g : Int × Int} (h : FdOk f ts g) : 0 ≤ numF f g ∧ numF f g ≤ 524288 := by
  unfold numF
  split
  · rename_i hb
    have := h.bits hb
    omega
  · have := h.g1
    omega
structure PlOk (p : Pl) (k : Nat) : Prop where
  b0 : 0 ≤ p.bit
  b1 : p.bit ≤ k * 600000
  s0 : 0 ≤ p.size
  s1 : p.size ≤ k * 100000
  al : Pow p.align
  fit : p.bit ≤ 8 * p.size
theorem PlOk.step {α : Type} {f : FdF α} {ts : Int} {g : Int × Int} (h : FdOk f ts g) (pk uni : Bool) {p : Pl} {k : Nat} (hp : PlOk p k) : PlOk (stepF pk uni f ts g p) (k + 1) := by
  have h1 := begF_bound h pk uni hp.b0
  have h2 := numF_bound h
  have h3 := hp.b0
  have h4 := hp.b1
  have h5 := hp.s0
  have h6 := hp.s1
  unfold stepF
  generalize begF pk uni f ts g p = B at *
  generalize numF f g = N at *
  have hu := upF_ge (n := B + N) (s := 8) (by omega)
  have hm := upF_mod (n := B + N) (s := 8)
  generalize upF (B + N) 8 = U at *
  have := hp.fit
  exact ⟨by simp only; omega, by simp only; omega, by simp only; omega, by simp only; omega, hp.al.max (wideF_pow h pk), by simp only; omega⟩
theorem plK_ok {α : Type} (G : α → Option (Int × Int)) (Z : α → Int) (t : TyF α) (hF : ∀ (i : Nat) (f : FdF α) (g : Int × Int), t.fields[i]? = some f → G f.type = some g → FdOk f (Z f.type) g) : ∀ k p, plK G Z t k = some p → PlOk p k
  | 0, p, h => by
    cases h
    exact ⟨by simp, by simp, by simp, by simp, .inl rfl, by simp⟩
  | k + 1, p', h => by
    obtain ⟨p, f, g, hp, hf, hg, rfl⟩ := plK_inv G Z t k h
    exact (plK_ok G Z t hF k p hp).step (hF k f g hf hg) _ _
/-- what a number's size is. -/
theorem int_size (n : Nat) (t : Ty n) (h : soundF n t = 0) (hk : tkind n t = 1) : tsize n t = 1 ∨ tsize n t = 2 ∨ tsize n t = 4 ∨ tsize n t = 8 := by
  match n, t with
  | n + 1, (t : TyF (Ty n)) =>
    have hk : t.kind = 1 := hk
    rcases sound_cases n t h with ⟨_, h1, _⟩ | ⟨h1, _⟩ | ⟨h1, _⟩
    · show t.size = 1 ∨ t.size = 2 ∨ t.size = 4 ∨ t.size = 8
      omega
    · omega
    · omega
/-- size and alignment of a sound type. -/
theorem form_ok : ∀ (n : Nat) (t : Ty n), soundF n t = 0 → ∀ g, formF n t = some g → 0 ≤ g.1 ∧ g.1 ≤ 65536 ∧ Pow g.2
  | 0, t, _, _, _ => nomatch t
  | n + 1, (t : TyF (Ty n)), h, g, hg => by
    have IH := form_ok n
    rw [formF_succ] at hg
    unfold formOne at hg
    rcases sound_cases n t h with ⟨hk, h1, _⟩ | ⟨hk, _, _, _, c0, c1, e, he, hs⟩ | ⟨hk, _, _, _, _, _, hf⟩
    · rw [if_pos hk] at hg
      cases hg
      unfold Pow
      simp only
      omega
    · rw [if_neg (by omega), if_pos hk, he] at hg
      simp only [List.head?_cons, Option.bind_some] at hg
      obtain ⟨g', hg', hg⟩ := Option.bind_eq_some_iff.1 hg
      have h2 := IH e hs g' hg'
      split at hg
      · rename_i hle
        cases hg
        exact ⟨Int.mul_nonneg h2.1 (by omega), hle, h2.2.2⟩
      · cases hg
    · rw [if_neg (by omega), if_neg (by omega)] at hg
      obtain ⟨p, hp, hg⟩ := Option.bind_eq_some_iff.1 hg
      have hok := plK_ok (formF n) (tsize n) t (fun i f g hi hgf => by
        obtain ⟨hsf, hb⟩ := hf i f hi
        have h2 := IH f.type hsf g hgf
        refine ⟨⟨h2.1, h2.2.1⟩, h2.2.2, fun hbt => ?_, fun hbt => ?_⟩
        · rcases hb with hb | hb
          · exact ⟨int_size n f.type hsf hb.2.1, hb.2.2.2.1, hb.2.2.2.2⟩
          · rw [hb.1] at hbt; cases hbt
        · rcases hb with hb | hb
          · rw [hb.1] at hbt; cases hbt
          · exact hb.2) _ _ hp
      unfold finF at hg
      split at hg
      · rename_i hle
        cases hg
        have h3 := upF_bound (n := p.size) (s := p.align) hok.s0 hok.al.pos.1
        exact ⟨h3.1, hle, hok.al⟩
      · cases hg
/-- a field of a sound group whose type may be laid. -/
theorem field_ok (n : Nat) (t : TyF (Ty n)) (h : soundF (n + 1) t = 0) (hk : t.kind = 3 ∨ t.kind = 4) (i : Nat) (f : FdF (Ty n)) (g : Int × Int) (hi : t.fields[i]? = some f) (hg : formF n f.type = some g) : soundF n f.type = 0 ∧ FdOk f (tsize n f.type) g := by
  rcases sound_cases n t h with ⟨hk', _⟩ | ⟨hk', _⟩ | ⟨_, _, _, _, _, _, hf⟩
  · omega
  · omega
  · obtain ⟨hsf, hb⟩ := hf i f hi
    have h2 := form_ok n f.type hsf g hg
    refine ⟨hsf, ⟨h2.1, h2.2.1⟩, h2.2.2, fun hbt => ?_, fun hbt => ?_⟩
    · rcases hb with hb | hb
      · exact ⟨int_size n f.type hsf hb.2.1, hb.2.2.2.1, hb.2.2.2.2⟩
      · rw [hb.1] at hbt; cases hbt
    · rcases hb with hb | hb
      · rw [hb.1] at hbt; cases hbt
      · exact hb.2
end Go.Proofs.Ytlbkloamabomcaa
