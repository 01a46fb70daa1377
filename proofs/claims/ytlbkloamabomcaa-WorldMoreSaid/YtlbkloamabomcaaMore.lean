/- A world that has grown: draws, and blocks laid behind. What a walk sees of it; quiet regions over it. No condition. -/
import Derived.Test.YtlbkloamabomcaaKit
import Derived.Laws.StructEq
namespace Go.Proofs.Ytlbkloamabomcaa
open Go.RowKit Go.Sort
/-- w with some draws, and some blocks laid behind. -/
def more (w : World) (p : Regrown) : World := grow (redrawn w p.d) p.os
def moreCell (w : World) (p : Regrown) (a : Addr) : Option Value := (more w p).cell? a
def moreFrozen (w : World) (p : Regrown) (a : Addr) : Bool := (more w p).frozen? a
theorem more_below (w : World) (p : Regrown) : Below w.heap.size w (more w p) := below_regrown w p.d p.os
theorem more_of_below {w w' : World} (h : Below w.heap.size w w') : ∃ p : Regrown, w' = more w p := regrown_of_below h
@[go_sem] theorem more_size (w : World) (p : Regrown) : (more w p).heap.size = w.heap.size + p.os.size := by simp [more, grow, redrawn]
@[go_sem] theorem more_cell (w : World) (p : Regrown) (a : Addr) : (more w p).cell? a = if a.block < w.heap.size then w.cell? a else moreCell w p a := by
  split
  · exact (more_below w p).cell ‹_›
  · rfl
@[go_sem] theorem more_frozen (w : World) (p : Regrown) (a : Addr) : (more w p).frozen? a = if a.block < w.heap.size then w.frozen? a else moreFrozen w p a := by
  split
  · exact (more_below w p).frozen ‹_›
  · rfl
def moreSet (w : World) (p : Regrown) (a : Addr) (v : Value) : World := (more w p).setCell a v
@[go_sem] theorem more_set (w : World) (p : Regrown) (a : Addr) (v : Value) : (more w p).setCell a v = if a.block < w.heap.size then more (w.setCell a v) p else moreSet w p a v := by
  by_cases h : a.block < w.heap.size
  · rw [if_pos h]
    unfold more grow redrawn World.setCell
    simp only
    congr 1
    apply Array.ext_getElem?
    intro k
    simp only [Array.getElem?_modify, Array.getElem?_append, Array.size_modify]
    by_cases hk : k < w.heap.size
    · simp [hk]
    · have : ¬ a.block = k := by omega
      simp [hk, this]
  · rw [if_neg h]; rfl
@[go_sem] theorem alloc_cell (w : World) (c : Array Value) (t : TypeId) (n i : Nat) : (w.alloc (.cells c t)).cell? ⟨n, i, none⟩ = if n < w.heap.size then w.cell? ⟨n, i, none⟩ else if n = w.heap.size then c[i]? else none := by
  by_cases h : n < w.heap.size
  · rw [if_pos h, World.cell?_alloc_past _ _ _ h]
  · rw [if_neg h]
    by_cases h2 : n = w.heap.size
    · rw [if_pos h2, World.cell?_alloc_at _ _ _ _ h2]
    · rw [if_neg h2]
      have : (w.alloc (.cells c t)).heap[n]? = none := Array.getElem?_eq_none (by simp; omega)
      simp [World.cell?, this]
@[go_sem] theorem alloc_frozen (w : World) (c : Array Value) (t : TypeId) (n i : Nat) : (w.alloc (.cells c t)).frozen? ⟨n, i, none⟩ = if n < w.heap.size then w.frozen? ⟨n, i, none⟩ else false := by
  by_cases h : n < w.heap.size
  · rw [if_pos h, World.frozen?_alloc_past _ _ _ h]
  · rw [if_neg h]
    by_cases h2 : n = w.heap.size
    · exact World.frozen?_alloc_at _ _ _ _ h2
    · have : (w.alloc (.cells c t)).heap[n]? = none := Array.getElem?_eq_none (by simp; omega)
      simp [World.frozen?, this]
def allocSet (w : World) (c : Array Value) (t : TypeId) (n i : Nat) (v : Value) : World := (w.alloc (.cells c t)).setCell ⟨n, i, none⟩ v
@[go_sem] theorem alloc_set (w : World) (c : Array Value) (t : TypeId) (n i : Nat) (v : Value) : (w.alloc (.cells c t)).setCell ⟨n, i, none⟩ v =
    if n < w.heap.size then (w.setCell ⟨n, i, none⟩ v).alloc (.cells c t) else if n = w.heap.size then w.alloc (.cells (c.setIfInBounds i v) t) else allocSet w c t n i v := by
  by_cases h : n < w.heap.size
  · rw [if_pos h, World.setCell_alloc_past _ _ _ _ h]
  · rw [if_neg h]
    by_cases h2 : n = w.heap.size
    · rw [if_pos h2, World.setCell_alloc_at _ _ _ _ _ h2]
    · rw [if_neg h2]; rfl
theorem more_more (w : World) (p q : Regrown) : ∃ r, more (more w p) q = more w r := more_of_below (below_next (more_below w p) (more_below _ q))
/-- it gives back this value, and of what was there nothing has turned. -/
def Gives (w : World) (v : Value) (e : Ending) (w' : World) : Prop := e = .returned v ∧ ∃ p : Regrown, w' = more w p
theorem Gives.mk {w w' : World} {v : Value} {e : Ending} (h : e = .returned v) (hb : Below w.heap.size w w') : Gives w v e w' := ⟨h, more_of_below hb⟩
theorem Gives.below {w w' : World} {v : Value} {e : Ending} (h : Gives w v e w') : Below w.heap.size w w' := by
  obtain ⟨_, p, rfl⟩ := h
  exact more_below w p
theorem gives_drew {P : Program} {f : FuncId} {args : Array Value} {w : World} {v : Value} (h : Calls P f args w fun e w' => e = .returned v ∧ Drew w w') : Calls P f args w (Gives w v) :=
  h.mono fun _ _ ⟨he, hd⟩ => Gives.mk he hd.below
theorem gives_same {P : Program} {f : FuncId} {args : Array Value} {w : World} {v : Value} (h : Calls P f args w fun e w' => e = .returned v ∧ w = w') : Calls P f args w (Gives w v) :=
  h.mono fun _ _ ⟨he, hd⟩ => Gives.mk he (below_self hd)
theorem gives_below {P : Program} {f : FuncId} {args : Array Value} {w : World} {v : Value} (h : Calls P f args w fun e w' => e = .returned v ∧ Below w.heap.size w w') : Calls P f args w (Gives w v) :=
  h.mono fun _ _ ⟨he, hd⟩ => Gives.mk he hd
theorem below_al {a w : World} (h : Below a.heap.size a w) (o : Obj) : Below a.heap.size a (w.alloc o) := h.alloc h.size o
theorem below_mo {a w : World} (h : Below a.heap.size a w) (p : Regrown) : Below a.heap.size a (more w p) := below_next h (more_below w p)
theorem below_dr {a w : World} (h : Below a.heap.size a w) : Below a.heap.size a w.drew := ⟨h.os, h.tape, h.output, h.size, h.block⟩
theorem below_dn {a w : World} (h : Below a.heap.size a w) (n : Nat) : Below a.heap.size a (w.drewN n) := ⟨h.os, h.tape, h.output, h.size, h.block⟩
theorem below_st {a w : World} (h : Below a.heap.size a w) {p : Addr} (hp : a.heap.size ≤ p.block) (v : Value) : Below a.heap.size a (w.setCell p v) := h.setCell hp v
section
variable {P : Program} {f : FuncId} {args : Array Value} {w : World} {v : Value}
/-- a contract met in a world of the class. -/
theorem quiet_more {p : Regrown} (h : Calls P f args (more w p) (Gives (more w p) v)) : Calls P f args (more w p) fun e w'' => e = .returned v ∧ ∃ r : Regrown, w'' = more w r :=
  h.mono fun _ _ ⟨he, q, hq⟩ => ⟨he, by rw [hq]; exact more_more w p q⟩
end
theorem wp_quiet_more {P : Program} {id : Nat} {Q : Exit → Act → World → Prop} {a : Act} {w : World} {l : List Oper} (hm : P.follows .mixedOrders = true) (hB : Region.lexB .any l.toArray = true)
    (h : wpQuiet P l.toArray (fun w' => ∃ p : Regrown, w' = more w p) (fun a' => ∀ p : Regrown, Q .normal a' (more w p)) l a) : (Code.region id l.toArray true).wp P Q a w := by
  refine wp_region_quiet (C := fun w' => ∃ p : Regrown, w' = more w p) hm hB ⟨⟨w.drawn + 1, #[]⟩, by unfold more; rw [grow_empty]; rfl⟩ ?_
  have e : (fun a' => ∀ p : Regrown, Q .normal a' (more w p)) = (fun a' => ∀ w', (∃ p : Regrown, w' = more w p) → Q .normal a' w') := by
    funext a'
    exact propext ⟨fun h w' ⟨p, hp⟩ => by rw [hp]; exact h p, fun h p => h _ ⟨p, rfl⟩⟩
  rw [← e]
  simpa using h
end Go.Proofs.Ytlbkloamabomcaa
