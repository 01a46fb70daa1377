/- The world while the document lays a group's fields. No condition. -/
import Derived.Test.YtlbkloamabomcaaLayOf
import Derived.Test.YtlbkloamabomcaaLayRefMath
namespace Go.Proofs.Ytlbkloamabomcaa
open Go.RowKit Go.Sort
set_option linter.unusedVariables false
set_option linter.unusedSimpArgs false
theorem int_info : (Try.prog.info? 3).map (fun i => (i.zero, i.size, i.bytes)) = some (some (.int .i64 0), 1, 8) := by kernel_rfl
/-- a number's form. -/
theorem form_int (n : Nat) (t : Ty n) (hk : tkind n t = 1) (g : Int × Int) (hg : formF n t = some g) : g = (tsize n t, tsize n t) := by
  match n, t with
  | n + 1, (t : TyF (Ty n)) =>
    have hk : t.kind = 1 := hk
    rw [formF_succ] at hg
    unfold formOne at hg
    rw [if_pos (.inl hk)] at hg
    exact (Option.some.inj hg).symm
/-- the block behind w0 has five cells: 0, the alignment, two rows of numbers, false. -/
structure LdV (w0 w : World) (al : Int) (s2 : Value) (n2 : Nat) (l2 : List Value) (s3 : Value) (n3 : Nat) (l3 : List Value) : Prop where
  below : Below w0.heap.size w0 w
  c0 : w.cell? ⟨w0.heap.size, 0, none⟩ = some (.int .i64 0)
  c1 : w.cell? ⟨w0.heap.size, 1, none⟩ = some (.int .i64 al)
  c2 : w.cell? ⟨w0.heap.size, 2, none⟩ = some s2
  c3 : w.cell? ⟨w0.heap.size, 3, none⟩ = some s3
  c4 : w.cell? ⟨w0.heap.size, 4, none⟩ = some (.bool false)
  r2 : w.ownsRow (w0.heap.size + 1) 3 1 s2 n2 l2
  r3 : w.ownsRow (w0.heap.size + 1) 3 1 s3 n3 l3
  ap : ∀ g, s2.ownBlock = some g → s3.ownBlock = some g → False
  z : ∀ k, w.frozen? ⟨w0.heap.size, k, none⟩ = false
section
variable {w0 w : World} {al : Int} {s2 s3 : Value} {n2 n3 : Nat} {l2 l3 : List Value}
theorem LdV.lt (h : LdV w0 w al s2 n2 l2 s3 n3 l3) : w0.heap.size < w.heap.size := cell_lt2 h.c0
theorem ownsRow_below {w w' : World} {B : Nat} {e : TypeId} {sz n : Nat} {v : Value} {xs : List Value} (h : w.ownsRow B e sz v n xs) (hb : Below w.heap.size w w') : w'.ownsRow B e sz v n xs :=
  h.kept (row := none) ⟨hb.os, hb.tape, hb.output, hb.size, fun k hk _ => hb.block k hk⟩ (by cases hv : v.ownBlock <;> simp)
theorem LdV.next {w' : World} (h : LdV w0 w al s2 n2 l2 s3 n3 l3) (hb : Below w.heap.size w w') : LdV w0 w' al s2 n2 l2 s3 n3 l3 := by
  have hl := h.lt
  have hc : ∀ k, w'.cell? ⟨w0.heap.size, k, none⟩ = w.cell? ⟨w0.heap.size, k, none⟩ := fun k => hb.cell (p := ⟨w0.heap.size, k, none⟩) hl
  exact ⟨below_next h.below hb, by rw [hc]; exact h.c0, by rw [hc]; exact h.c1, by rw [hc]; exact h.c2, by rw [hc]; exact h.c3, by rw [hc]; exact h.c4, ownsRow_below h.r2 hb, ownsRow_below h.r3 hb, h.ap,
    fun k => (hb.frozen (p := ⟨w0.heap.size, k, none⟩) hl).trans (h.z k)⟩
theorem LdV.setAl {P : Nat} (hP : w0.heap.size = P) (h : LdV w0 w al s2 n2 l2 s3 n3 l3) (x : Int) : LdV w0 (w.setCell ⟨P, 1, none⟩ (.int .i64 x)) x s2 n2 l2 s3 n3 l3 := by
  subst hP
  have ho : ∀ j v, j ≠ 1 → w.cell? ⟨w0.heap.size, j, none⟩ = some v → (w.setCell ⟨w0.heap.size, 1, none⟩ (.int .i64 x)).cell? ⟨w0.heap.size, j, none⟩ = some v := fun j v hj hv => by
    rw [World.cell?_setCell_other _ _ _ _ (fun e => hj (congrArg Addr.off e).symm)]; exact hv
  exact ⟨below_st h.below (Nat.le_refl _) _, ho 0 _ (by omega) h.c0, World.cell?_setCell_same _ _ _ h.c1, ho 2 _ (by omega) h.c2, ho 3 _ (by omega) h.c3, ho 4 _ (by omega) h.c4, ownsRow_stb (by omega) h.r2 _, ownsRow_stb (by omega) h.r3 _, h.ap,
    fun k => by rw [World.frozen?_setCell]; exact h.z k⟩
/-- the first row has grown, and is laid into its cell. -/
theorem LdV.push2 {w1 : World} {g cap : Nat} {x : Value} {P : Nat} (hP : w0.heap.size = P) (h : LdV w0 w al s2 n2 l2 s3 n3 l3) (ho : w1.ownsRow (w0.heap.size + 1) 3 1 (.slice (some ⟨g, 0, none⟩) (n2 + 1) cap) (n2 + 1) (l2 ++ [x])) (hg : w.grownBy w1 s2.ownBlock) (hat : s2.ownBlock = some g ∨ g = w.heap.size) :
    LdV w0 (w1.setCell ⟨P, 2, none⟩ (.slice (some ⟨g, 0, none⟩) (n2 + 1) cap)) al (.slice (some ⟨g, 0, none⟩) (n2 + 1) cap) (n2 + 1) (l2 ++ [x]) s3 n3 l3 := by
  subst hP
  have hl := h.lt
  have hne : some w0.heap.size ≠ s2.ownBlock := fun e => by
    have := (h.r2.lt _ e.symm).1
    omega
  have hc : ∀ k, w1.cell? ⟨w0.heap.size, k, none⟩ = w.cell? ⟨w0.heap.size, k, none⟩ := fun k => hg.cell_far ⟨w0.heap.size, k, none⟩ hl hne
  have ho' : ∀ j v, j ≠ 2 → w.cell? ⟨w0.heap.size, j, none⟩ = some v → (w1.setCell ⟨w0.heap.size, 2, none⟩ (.slice (some ⟨g, 0, none⟩) (n2 + 1) cap)).cell? ⟨w0.heap.size, j, none⟩ = some v := fun j v hj hv => by
    rw [World.cell?_setCell_other _ _ _ _ (fun e => hj (congrArg Addr.off e).symm), hc]; exact hv
  have hb1 : Below w0.heap.size w0 w1 := h.below.grown hg h.below.size (fun k hk => by have := (h.r2.lt k hk).1; omega)
  refine ⟨below_st hb1 (Nat.le_refl _) _, ho' 0 _ (by omega) h.c0, ho' 1 _ (by omega) h.c1, World.cell?_setCell_same _ _ _ ((hc 2).trans h.c2), ho' 3 _ (by omega) h.c3, ho' 4 _ (by omega) h.c4, ownsRow_stb (by omega) ho _, ownsRow_stb (by omega) (h.r3.kept hg ?_) _, fun g' h1 h2 => ?_, fun k => ?_⟩
  · cases e3 : s3.ownBlock with
    | none => exact .inl rfl
    | some g3 => exact .inr fun e => h.ap g3 e.symm e3
  · have h1 : g = g' := Option.some.inj h1
    subst h1
    rcases hat with h4 | h4
    · exact h.ap g h4 h2
    · have := (h.r3.lt g h2).2
      omega
  · rw [World.frozen?_setCell]
    exact (hg.frozen_far ⟨w0.heap.size, k, none⟩ hl hne).trans (h.z k)
/-- the second row has grown, and is laid into its cell. -/
theorem LdV.push3 {w1 : World} {g cap : Nat} {x : Value} {P : Nat} (hP : w0.heap.size = P) (h : LdV w0 w al s2 n2 l2 s3 n3 l3) (ho : w1.ownsRow (w0.heap.size + 1) 3 1 (.slice (some ⟨g, 0, none⟩) (n3 + 1) cap) (n3 + 1) (l3 ++ [x])) (hg : w.grownBy w1 s3.ownBlock) (hat : s3.ownBlock = some g ∨ g = w.heap.size) :
    LdV w0 (w1.setCell ⟨P, 3, none⟩ (.slice (some ⟨g, 0, none⟩) (n3 + 1) cap)) al s2 n2 l2 (.slice (some ⟨g, 0, none⟩) (n3 + 1) cap) (n3 + 1) (l3 ++ [x]) := by
  subst hP
  have hl := h.lt
  have hne : some w0.heap.size ≠ s3.ownBlock := fun e => by
    have := (h.r3.lt _ e.symm).1
    omega
  have hc : ∀ k, w1.cell? ⟨w0.heap.size, k, none⟩ = w.cell? ⟨w0.heap.size, k, none⟩ := fun k => hg.cell_far ⟨w0.heap.size, k, none⟩ hl hne
  have ho' : ∀ j v, j ≠ 3 → w.cell? ⟨w0.heap.size, j, none⟩ = some v → (w1.setCell ⟨w0.heap.size, 3, none⟩ (.slice (some ⟨g, 0, none⟩) (n3 + 1) cap)).cell? ⟨w0.heap.size, j, none⟩ = some v := fun j v hj hv => by
    rw [World.cell?_setCell_other _ _ _ _ (fun e => hj (congrArg Addr.off e).symm), hc]; exact hv
  have hb1 : Below w0.heap.size w0 w1 := h.below.grown hg h.below.size (fun k hk => by have := (h.r3.lt k hk).1; omega)
  refine ⟨below_st hb1 (Nat.le_refl _) _, ho' 0 _ (by omega) h.c0, ho' 1 _ (by omega) h.c1, ho' 2 _ (by omega) h.c2, World.cell?_setCell_same _ _ _ ((hc 3).trans h.c3), ho' 4 _ (by omega) h.c4, ownsRow_stb (by omega) (h.r2.kept hg ?_) _, ownsRow_stb (by omega) ho _, fun g' h1 h2 => ?_, fun k => ?_⟩
  · cases e2 : s2.ownBlock with
    | none => exact .inl rfl
    | some g2 => exact .inr fun e => h.ap g2 e2 e.symm
  · have h2 : g = g' := Option.some.inj h2
    subst h2
    rcases hat with h4 | h4
    · exact h.ap g h1 h4
    · have := (h.r2.lt g h1).2
      omega
  · rw [World.frozen?_setCell]
    exact (hg.frozen_far ⟨w0.heap.size, k, none⟩ hl hne).trans (h.z k)
end
/-- where fields begin, and how many bits they have. -/
def fbF : (n : Nat) → Ty n → List (Int × Int)
  | 0, t => nomatch t
  | n + 1, (t : TyF (Ty n)) => fbK (formF n) (tsize n) t t.fields.length
def grpOk : (n : Nat) → Ty n → Prop
  | 0, t => nomatch t
  | n + 1, (t : TyF (Ty n)) => (t.kind = 3 ∨ t.kind = 4) ∧ ∃ p, plK (formF n) (tsize n) t t.fields.length = some p
/-- what the document's Lay gives back. -/
def LayC (n : Nat) (t : Ty n) (w : World) (e : Ending) (w' : World) : Prop :=
  (∃ (s a : Int) (a2 : Option Addr) (n2 k2 : Nat) (a3 : Option Addr) (n3 k3 : Nat) (L : Bool), e = .returned (.agg #[.int .i64 s, .int .i64 a, .slice a2 n2 k2, .slice a3 n3 k3, .bool L]) ∧ L = (formF n t).isNone ∧ (∀ g, formF n t = some g → s = g.1 ∧ a = g.2) ∧
    (grpOk n t → n2 = (fbF n t).length ∧ n3 = (fbF n t).length ∧ w'.ownsRow w.heap.size 3 1 (.slice a2 n2 k2) n2 ((fbF n t).map fun x => .int .i64 x.1) ∧ w'.ownsRow w.heap.size 3 1 (.slice a3 n3 k3) n3 ((fbF n t).map fun x => .int .i64 x.2))) ∧ ∃ p : Regrown, w' = more w p
end Go.Proofs.Ytlbkloamabomcaa
