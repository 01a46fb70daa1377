/- Where fields lie, and how large types are, on plain data. No condition. -/
import Derived.Test.YtlbkloamabomcaaKindSound3
namespace Go.Proofs.Ytlbkloamabomcaa
open Go.RowKit
set_option linter.unusedVariables false
/-- an Atom of more than a byte is in it. -/
def looseF : (n : Nat) → Ty n → Bool
  | 0, t => nomatch t
  | n + 1, (t : TyF (Ty n)) => (t.kind == 2 && decide (1 < t.size)) || t.elem.any (looseF n) || t.fields.any (fun f => looseF n f.type)
theorem looseF_succ (n : Nat) (t : TyF (Ty n)) : looseF (n + 1) t = ((t.kind == 2 && decide (1 < t.size)) || t.elem.any (looseF n) || t.fields.any (fun f => looseF n f.type)) := rfl
/-- a Packed type is in it that has such an Atom. -/
def tornF : (n : Nat) → Ty n → Bool
  | 0, t => nomatch t
  | n + 1, (t : TyF (Ty n)) => (t.packed && looseF (n + 1) t) || t.elem.any (tornF n) || t.fields.any (fun f => tornF n f.type)
theorem tornF_succ (n : Nat) (t : TyF (Ty n)) : tornF (n + 1) t = ((t.packed && looseF (n + 1) t) || t.elem.any (tornF n) || t.fields.any (fun f => tornF n f.type)) := rfl
/-- up to a multiple. -/
def upF (n s : Int) : Int := (n + s - 1) / s * s
theorem upF_ge {n s : Int} (hs : 0 < s) : n ≤ upF n s ∧ upF n s < n + s := by
  unfold upF
  have h1 := Int.mul_ediv_add_emod (n + s - 1) s
  have h2 := Int.emod_nonneg (n + s - 1) (by omega : s ≠ 0)
  have h3 := Int.emod_lt_of_pos (n + s - 1) hs
  rw [Int.mul_comm] at h1
  generalize (n + s - 1) / s * s = a at *
  omega
theorem upF_mod {n s : Int} : upF n s % s = 0 := by
  unfold upF
  exact Int.mul_emod_left _ _
/-- the least multiple is the one. -/
theorem upF_least {n s b : Int} (hs : 0 < s) (h1 : n ≤ b) (h2 : b ≤ upF n s) (h3 : b % s = 0) : b = upF n s := by
  have hu := upF_ge (n := n) hs
  have hm : (upF n s - b) % s = 0 := by
    rw [Int.sub_emod, upF_mod, h3]
    simp
  rw [Int.emod_eq_of_lt (by omega) (by omega)] at hm
  omega
theorem upF_same {n s : Int} (hs : 0 < s) (h : n % s = 0) : upF n s = n := (upF_least hs (Int.le_refl _) (upF_ge hs).1 h).symm
theorem upF_mono {a b s : Int} (hs : 0 < s) (h : a ≤ b) : upF a s ≤ upF b s := by
  unfold upF
  exact Int.mul_le_mul_of_nonneg_right (Int.ediv_le_ediv hs (by omega)) (by omega)
structure Pl where
  bit : Int
  size : Int
  align : Int
/-- where a bitfield of w bits begins, from bit p on. -/
def bitAt (p unit w : Int) : Int := if w = 0 then upF p unit else if p / unit ≠ (p + w - 1) / unit then upF p unit else p
section
variable {α : Type}
def wideF (packed : Bool) (f : FdF α) (ts : Int) (g : Int × Int) : Int := if packed = true ∨ (f.isBits = true ∧ f.width = 0) then 1 else if f.isBits = true then ts else g.2
def begF (packed uni : Bool) (f : FdF α) (ts : Int) (g : Int × Int) (p : Pl) : Int :=
  if f.isBits = true then bitAt (if uni = true then 0 else p.bit) (8 * ts) f.width else 8 * upF (upF (if uni = true then 0 else p.bit) 8 / 8) (wideF packed f ts g)
def numF (f : FdF α) (g : Int × Int) : Int := if f.isBits = true then f.width else 8 * g.1
def stepF (packed uni : Bool) (f : FdF α) (ts : Int) (g : Int × Int) (p : Pl) : Pl :=
  ⟨begF packed uni f ts g p + numF f g, max p.size (upF (begF packed uni f ts g p + numF f g) 8 / 8), max p.align (wideF packed f ts g)⟩
/-- what is reckoned behind the first k fields. -/
def plK (G : α → Option (Int × Int)) (Z : α → Int) (t : TyF α) : Nat → Option Pl
  | 0 => some ⟨0, 0, 1⟩
  | k + 1 => (plK G Z t k).bind fun p => (t.fields[k]?).bind fun f => (G f.type).map fun g => stepF t.packed (t.kind == 4) f (Z f.type) g p
theorem plK_succ (G : α → Option (Int × Int)) (Z : α → Int) (t : TyF α) (k : Nat) {p : Pl} {f : FdF α} {g : Int × Int} (hp : plK G Z t k = some p) (hf : t.fields[k]? = some f) (hg : G f.type = some g) :
    plK G Z t (k + 1) = some (stepF t.packed (t.kind == 4) f (Z f.type) g p) := by
  unfold plK
  rw [hp, hf]
  simp [hg]
theorem plK_none (G : α → Option (Int × Int)) (Z : α → Int) (t : TyF α) (k : Nat) {f : FdF α} (hf : t.fields[k]? = some f) (hg : G f.type = none) :
    ∀ m, k < m → plK G Z t m = none
  | 0, hm => by omega
  | m + 1, hm => by
    unfold plK
    by_cases e : k = m
    · subst e
      rw [hf]
      simp [hg]
    · rw [plK_none G Z t k hf hg m (by omega)]
      rfl
/-- what stands behind the first k + 1 fields, opened. -/
theorem plK_inv (G : α → Option (Int × Int)) (Z : α → Int) (t : TyF α) (k : Nat) {p' : Pl} (h : plK G Z t (k + 1) = some p') :
    ∃ p f g, plK G Z t k = some p ∧ t.fields[k]? = some f ∧ G f.type = some g ∧ p' = stepF t.packed (t.kind == 4) f (Z f.type) g p := by
  unfold plK at h
  obtain ⟨p, hp, h⟩ := Option.bind_eq_some_iff.1 h
  obtain ⟨f, hf, h⟩ := Option.bind_eq_some_iff.1 h
  obtain ⟨g, hg, h⟩ := Option.map_eq_some_iff.1 h
  exact ⟨p, f, g, hp, hf, hg, h.symm⟩
def finF (p : Pl) : Option (Int × Int) := if upF p.size p.align ≤ 65536 then some (upF p.size p.align, p.align) else none
def formOne (G : α → Option (Int × Int)) (Z : α → Int) (t : TyF α) : Option (Int × Int) :=
  if t.kind = 1 ∨ t.kind = 2 then some (t.size, t.size)
  else if t.kind = 5 then (t.elem.head?).bind fun e => (G e).bind fun g => if g.1 * t.count ≤ 65536 then some (g.1 * t.count, g.2) else none
  else (plK G Z t t.fields.length).bind finF
structure Sp where
  at_ : Int
  len : Int
  kind : Int
  isBits : Bool
  bit : Int
  width : Int
def Sp.val (s : Sp) : Value := .agg #[.int .i64 s.at_, .int .i64 s.len, .int .i64 s.kind, .bool s.isBits, .int .i64 s.bit, .int .i64 s.width]
def spotF (packed uni : Bool) (f : FdF α) (ts kd : Int) (g : Int × Int) (p : Pl) : Sp :=
  if f.isBits = true then ⟨begF packed uni f ts g p / 8, if f.width = 0 then 0 else (begF packed uni f ts g p + f.width - 1) / 8 - begF packed uni f ts g p / 8 + 1, 1, true, begF packed uni f ts g p % 8, f.width⟩
  else ⟨begF packed uni f ts g p / 8, g.1, kd, false, 0, 0⟩
end
/-- size and alignment of a type; none: it is too large. -/
def formF : (n : Nat) → Ty n → Option (Int × Int)
  | 0, t => nomatch t
  | n + 1, (t : TyF (Ty n)) => formOne (formF n) (tsize n) t
theorem formF_succ (n : Nat) (t : TyF (Ty n)) : formF (n + 1) t = formOne (formF n) (tsize n) t := rfl
/-- what a sound type is. -/
theorem sound_cases (n : Nat) (t : TyF (Ty n)) (h : soundF (n + 1) t = 0) :
    ((t.kind = 1 ∨ t.kind = 2) ∧ (t.size = 1 ∨ t.size = 2 ∨ t.size = 4 ∨ t.size = 8 ∨ (t.size = 16 ∧ t.kind = 2)) ∧ t.fields.length = 0 ∧ t.elem.length = 0 ∧ t.packed = false ∧ t.count = 0)
    ∨ (t.kind = 5 ∧ t.size = 0 ∧ t.packed = false ∧ t.fields.length = 0 ∧ 1 ≤ t.count ∧ t.count ≤ 65536 ∧ ∃ e, t.elem = [e] ∧ soundF n e = 0)
    ∨ ((t.kind = 3 ∨ t.kind = 4) ∧ t.size = 0 ∧ t.elem.length = 0 ∧ t.count = 0 ∧ 1 ≤ t.fields.length ∧ t.fields.length ≤ 32 ∧
        ∀ (i : Nat) (f : FdF (Ty n)), t.fields[i]? = some f → soundF n f.type = 0 ∧ ((f.isBits = true ∧ tkind n f.type = 1 ∧ t.packed = false ∧ 0 ≤ f.width ∧ f.width ≤ 8 * tsize n f.type) ∨ (f.isBits = false ∧ f.width = 0))) := by
  rw [soundF_succ] at h
  unfold oneE at h
  split at h
  · omega
  · rename_i hon
    have hon : onlyB t.kind t.size t.packed t.fields.length t.count t.elem.length = true := by simpa using hon
    unfold onlyB at hon
    simp only [Bool.and_eq_true, Bool.or_eq_true, beq_iff_eq, Bool.not_eq_true'] at hon
    obtain ⟨⟨⟨⟨k1, k2⟩, k3⟩, k4⟩, k5⟩ := hon
    split at h
    · rename_i hk
      have hp : powN t.size 8 = true := by
        split at h
        · assumption
        · omega
      simp only [powN, Bool.or_eq_true, beq_iff_eq, Bool.and_eq_true] at hp
      rcases k3 with k3 | k3
      · omega
      · rcases k4 with k4 | k4
        · omega
        · exact .inl ⟨.inl hk, by omega, k3.2, k4.2, k3.1, k4.1⟩
    · split at h
      · rename_i hk
        have hp : powN t.size 16 = true := by
          split at h
          · assumption
          · omega
        simp only [powN, Bool.or_eq_true, beq_iff_eq, Bool.and_eq_true] at hp
        rcases k3 with k3 | k3
        · omega
        · rcases k4 with k4 | k4
          · omega
          · exact .inl ⟨.inr hk, by omega, k3.2, k4.2, k3.1, k4.1⟩
      · split at h
        · rename_i hk
          rcases k3 with k3 | k3
          · omega
          split at h
          · omega
          · rename_i hc
            have he : t.elem.length = 1 := by
              rcases k5 with k5 | k5
              · rw [hk] at k5; simp at k5
              · exact k5
            obtain ⟨e, hel⟩ := List.length_eq_one_iff.1 he
            rw [hel] at h
            exact .inr (.inl ⟨hk, by omega, k3.1, k3.2, by omega, by omega, e, hel, h⟩)
        · rename_i a b c
          have hk : t.kind = 3 ∨ t.kind = 4 := by omega
          unfold groupE at h
          split at h
          · omega
          · rename_i hl
            rcases k4 with k4 | k4
            · omega
            refine .inr (.inr ⟨hk, by omega, k4.2, k4.1, by omega, by omega, fun i f hi => ?_⟩)
            have hlt : i < t.fields.length := (List.getElem?_eq_some_iff.1 hi).1
            have h0 := firstE_eq _ _ h i hlt
            rw [fieldOf_some _ _ _ t i f hi] at h0
            unfold fieldE at h0
            split at h0
            · omega
            split at h0
            · omega
            split at h0
            · omega
            split at h0
            · omega
            split at h0
            · omega
            rename_i a1 a2 a3 a4 a5
            refine ⟨by omega, ?_⟩
            cases hb : f.isBits
            · rw [hb] at a4
              simp at a4
              exact .inr ⟨rfl, a4⟩
            · rw [hb] at a4 a5
              simp at a4 a5
              exact .inl ⟨rfl, a4.1, a4.2, by omega, by omega⟩
def Pow (a : Int) : Prop := a = 1 ∨ a = 2 ∨ a = 4 ∨ a = 8 ∨ a = 16
theorem Pow.pos {a : Int} (h : Pow a) : 0 < a ∧ a ≤ 16 := by unfold Pow at h; omega
theorem Pow.max {a b : Int} (h : Pow a) (h2 : Pow b) : Pow (max a b) := by
  unfold Pow at *
  omega
end Go.Proofs.Ytlbkloamabomcaa
