/- Types as plain data, a level at a time; how they lie in memory. No condition. -/
import Derived.Test.YtlbkloamabomcaaMore
namespace Go.Proofs.Ytlbkloamabomcaa
open Go.RowKit Go.Sort
set_option linter.unusedVariables false
/-- a field, over what its type is. -/
structure FdF (α : Type) where
  name : ByteArray
  type : α
  isBits : Bool
  width : Int
/-- a type, over what the types in it are. -/
structure TyF (α : Type) where
  kind : Int
  size : Int
  packed : Bool
  fields : List (FdF α)
  count : Int
  elem : List α
/-- types of so many levels. -/
def Ty : Nat → Type
  | 0 => Empty
  | n + 1 => TyF (Ty n)
/-- a type's six cells. -/
structure Raw where
  kind : Int
  size : Int
  packed : Bool
  fa : Option Addr
  fl : Nat
  fc : Nat
  count : Int
  ea : Option Addr
  el : Nat
  ec : Nat
def Raw.val (r : Raw) : Value := .agg #[.int .i64 r.kind, .int .i64 r.size, .bool r.packed, .slice r.fa r.fl r.fc, .int .i64 r.count, .slice r.ea r.el r.ec]
def rng (x : Int) : Prop := -9223372036854775808 ≤ x ∧ x ≤ 9223372036854775807
/-- a slice of n elements of s cells each: where it lies, if it has any. -/
def SlIn (w : World) (a : Option Addr) (n c : Nat) (P : Nat → Nat → Prop) : Prop :=
  n ≤ c ∧ c ≤ 9223372036854775807 ∧ (0 < n → ∃ b off, a = some ⟨b, off, none⟩ ∧ b < w.heap.size ∧ P b off)
/-- a type lies so. -/
def TyAt (w : World) : (n : Nat) → Ty n → Raw → Prop
  | 0, t, _ => nomatch t
  | n + 1, (t : TyF (Ty n)), r => r.kind = t.kind ∧ r.size = t.size ∧ r.packed = t.packed ∧ r.fl = t.fields.length ∧ r.count = t.count ∧ r.el = t.elem.length ∧
      rng t.kind ∧ rng t.size ∧ rng t.count ∧
      SlIn w r.fa r.fl r.fc (fun b off => ∀ i f, t.fields[i]? = some f → ∃ q : Raw, TyAt w n f.type q ∧ rng f.width ∧ f.name.size ≤ 9223372036854775807 ∧
        w.cell? ⟨b, off + i * 9, none⟩ = some (.string f.name) ∧ w.cell? ⟨b, off + i * 9 + 1, none⟩ = some (.int .i64 q.kind) ∧ w.cell? ⟨b, off + i * 9 + 2, none⟩ = some (.int .i64 q.size) ∧
        w.cell? ⟨b, off + i * 9 + 3, none⟩ = some (.bool q.packed) ∧ w.cell? ⟨b, off + i * 9 + 4, none⟩ = some (.slice q.fa q.fl q.fc) ∧ w.cell? ⟨b, off + i * 9 + 5, none⟩ = some (.int .i64 q.count) ∧
        w.cell? ⟨b, off + i * 9 + 6, none⟩ = some (.slice q.ea q.el q.ec) ∧ w.cell? ⟨b, off + i * 9 + 7, none⟩ = some (.bool f.isBits) ∧ w.cell? ⟨b, off + i * 9 + 8, none⟩ = some (.int .i64 f.width)) ∧
      SlIn w r.ea r.el r.ec (fun b off => ∀ i e, t.elem[i]? = some e → ∃ q : Raw, TyAt w n e q ∧
        w.cell? ⟨b, off + i * 6, none⟩ = some (.int .i64 q.kind) ∧ w.cell? ⟨b, off + i * 6 + 1, none⟩ = some (.int .i64 q.size) ∧
        w.cell? ⟨b, off + i * 6 + 2, none⟩ = some (.bool q.packed) ∧ w.cell? ⟨b, off + i * 6 + 3, none⟩ = some (.slice q.fa q.fl q.fc) ∧ w.cell? ⟨b, off + i * 6 + 4, none⟩ = some (.int .i64 q.count) ∧
        w.cell? ⟨b, off + i * 6 + 5, none⟩ = some (.slice q.ea q.el q.ec))
theorem TyAt.keep {w w' : World} (h : ∀ b o, b < w.heap.size → w'.cell? ⟨b, o, none⟩ = w.cell? ⟨b, o, none⟩) (hz : w.heap.size ≤ w'.heap.size) : ∀ (n : Nat) (t : Ty n) (r : Raw), TyAt w n t r → TyAt w' n t r
  | 0, t, _, _ => nomatch t
  | n + 1, (t : TyF (Ty n)), r, ⟨h1, h2, h3, h4, h5, h6, h7, h8, h9, hf, he⟩ => by
    refine ⟨h1, h2, h3, h4, h5, h6, h7, h8, h9, ⟨hf.1, hf.2.1, fun hn => ?_⟩, ⟨he.1, he.2.1, fun hn => ?_⟩⟩
    · obtain ⟨b, off, ha, hb, hc⟩ := hf.2.2 hn
      refine ⟨b, off, ha, by omega, fun i f hi => ?_⟩
      obtain ⟨q, hq, g1, g2, c0, c1, c2, c3, c4, c5, c6, c7, c8⟩ := hc i f hi
      exact ⟨q, TyAt.keep h hz n f.type q hq, g1, g2, (h _ _ hb).trans c0, (h _ _ hb).trans c1, (h _ _ hb).trans c2, (h _ _ hb).trans c3, (h _ _ hb).trans c4, (h _ _ hb).trans c5, (h _ _ hb).trans c6, (h _ _ hb).trans c7, (h _ _ hb).trans c8⟩
    · obtain ⟨b, off, ha, hb, hc⟩ := he.2.2 hn
      refine ⟨b, off, ha, by omega, fun i f hi => ?_⟩
      obtain ⟨q, hq, c0, c1, c2, c3, c4, c5⟩ := hc i f hi
      exact ⟨q, TyAt.keep h hz n f q hq, (h _ _ hb).trans c0, (h _ _ hb).trans c1, (h _ _ hb).trans c2, (h _ _ hb).trans c3, (h _ _ hb).trans c4, (h _ _ hb).trans c5⟩
theorem TyAt.below {w w' : World} (hb : Below w.heap.size w w') {n : Nat} {t : Ty n} {r : Raw} (h : TyAt w n t r) : TyAt w' n t r :=
  TyAt.keep (fun b o hb' => hb.cell (p := ⟨b, o, none⟩) hb') hb.size n t r h
theorem TyAt.more_ {w : World} (p : Regrown) {n : Nat} {t : Ty n} {r : Raw} (h : TyAt w n t r) : TyAt (more w p) n t r := h.below (more_below w p)
end Go.Proofs.Ytlbkloamabomcaa
