/- A map of the call's own whose elements are pointers to blocks of the call's own. No condition. -/
import Derived.Test.YtajaglhlmoblnaaLiveUses
import Derived.Maps.Own
import Derived.Maps.Views
namespace Go.Proofs.Ytajaglhlmoblnaa
open Go.RowKit Go.Sort Go.Maps
set_option linter.unusedVariables false
set_option linter.unusedSimpArgs false
def ptrV : Option Nat → Value
  | none => .pointer none
  | some b => .pointer (some ⟨b, 0, none⟩)
def ptrD : Option Nat → DataW Unit
  | none => .nil
  | some b => .lit (.int .i64 b)
def ptrElem (v : Value) : Option (DataW Unit × List MemPlace) := match v with
  | .pointer none => some (.nil, [])
  | .pointer (some a) => if a = ⟨a.block, 0, none⟩ then some (.lit (.int .i64 a.block), []) else none
  | _ => none
theorem ptrElem_mk (o : Option Nat) : ptrElem (ptrV o) = some (ptrD o, []) := by cases o <;> simp [ptrElem, ptrV, ptrD]
theorem ptrElem_inv {v : Value} {o : Option Nat} {ps : List MemPlace} (h : ptrElem v = some (ptrD o, ps)) : v = ptrV o := by
  unfold ptrElem at h
  split at h
  · cases o with
    | none => rfl
    | some b => simp [ptrD] at h
  · rename_i a
    split at h
    · rename_i ha
      cases o with
      | none => simp [ptrD] at h
      | some b =>
        simp [ptrD] at h
        have hb : a.block = b := by omega
        rw [ha, hb]
        rfl
    · cases h
  · cases h
theorem law_int : Keyed Try.prog 3 := int_keyed Try.underlying3
theorem zero_ptr (W : World) : (zeroValue 39).run Try.prog W = .ok (.pointer none) W := by kernel_rfl
/-- block B is a map of at most n entries; at r there is a pointer to this block, or nothing. -/
def PMap (w : World) (B n : Nat) (bl : Int → Option Nat) : Prop :=
  ∃ D, w.ownsMap Try.prog 3 ptrElem B n D ∧ ∀ r, D.atKey (.int .i64 r) .nil = ptrD (bl r)
theorem pmap_made (w : World) : PMap (w.alloc (.map #[] 0)) w.heap.size 0 (fun _ => none) := ⟨_, World.ownsMap_made _ _ _ _, fun _ => rfl⟩
theorem PMap.keep {w w' : World} {B n : Nat} {bl : Int → Option Nat} (h : PMap w B n bl) (hk : w'.heap[B]? = w.heap[B]?) : PMap w' B n bl := by
  obtain ⟨D, ⟨es, clock, hb, r⟩, hD⟩ := h
  exact ⟨D, ⟨es, clock, hk.trans hb, r⟩, hD⟩
theorem PMap.lt {w : World} {B n : Nat} {bl : Int → Option Nat} (h : PMap w B n bl) : B < w.heap.size := by
  obtain ⟨D, h, _⟩ := h
  exact h.lt
theorem PMap.below {w w' : World} {B n : Nat} {bl : Int → Option Nat} (h : PMap w B n bl) (hb : Below w.heap.size w w') : PMap w' B n bl := h.keep (hb.block B h.lt)
theorem PMap.set {w : World} {B n : Nat} {bl : Int → Option Nat} (h : PMap w B n bl) {a : Addr} (ha : B ≠ a.block) (u : Value) : PMap (w.setCell a u) B n bl := by
  obtain ⟨D, h, hD⟩ := h
  exact ⟨D, h.setCell ha u, hD⟩
theorem PMap.mono {w : World} {B n m : Nat} {bl : Int → Option Nat} (h : PMap w B n bl) (hm : n ≤ m) : PMap w B m bl := by
  obtain ⟨D, h, hD⟩ := h
  exact ⟨D, h.mono hm, hD⟩
theorem PMap.look {w : World} {B n : Nat} {bl : Int → Option Nat} (h : PMap w B n bl) (r : Int) (hr : (Lit.int .i64 r).wf = true) : (Instr.lookup 37 (.map (some B)) (.int .i64 r) false).run Try.prog w = .ok (ptrV (bl r)) w := by
  obtain ⟨D, h, hD⟩ := h
  obtain ⟨v, ps, hrun, hv⟩ := h.lookup law_int Try.underlying37 (zero_ptr w) (zd := .nil) (zp := []) rfl (keyOf_int_mk Try.underlying3 hr)
  rw [hD r] at hv
  rw [hrun, ptrElem_inv hv]
theorem PMap.store {w : World} {B n : Nat} {bl : Int → Option Nat} (h : PMap w B n bl) (hn : n < maxLen) (r : Int) (hr : (Lit.int .i64 r).wf = true) (b : Nat) :
    ∃ w', (Instr.mapUpdate 37 (.map (some B)) (.int .i64 r) (ptrV (some b))).run Try.prog w = .ok () w' ∧ PMap w' B (n + 1) (fun q => if q = r then some b else bl q) ∧ w.grownBy w' (some B) := by
  obtain ⟨D, h, hD⟩ := h
  obtain ⟨w', hrun, ho, hg⟩ := h.update law_int Try.underlying37 hn (keyOf_int_mk Try.underlying3 hr) (ptrElem_mk (some b))
  refine ⟨w', hrun, ⟨_, ho, fun q => ?_⟩, hg⟩
  by_cases hq : q = r
  · subst hq
    simp only [if_true]
    exact Maps.atKey_put_same h.isMap (by trivial) _ _
  · simp only [if_neg hq]
    rw [Maps.atKey_put_other (fun e => hq (by simpa using e))]
    exact hD q
end Go.Proofs.Ytajaglhlmoblnaa
