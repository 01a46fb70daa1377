/- Where registers are needed, as it is reckoned; the world while it is. No condition. -/
import Derived.Test.YtajaglhlmoblnaaLiveMap
namespace Go.Proofs.Ytajaglhlmoblnaa
open Go.RowKit Go.Sort
set_option linter.unusedVariables false
set_option linter.unusedSimpArgs false
abbrev Iv : Type := Int → Option (Int × Int)
def ev (R i : Int) (S : Iv) (r : Int) : Iv := if R ≤ r then S else fun q => if q = r then (match S r with | none => some (i, i) | some (f, _) => some (f, i)) else S q
def evs (R i : Int) (S : Iv) (l : List Int) : Iv := l.foldl (ev R i) S
def regsL (o : LOp) : List Int := usesL o ++ setsL o
def ivsN (R : Int) (ops : Nat → LOp) : Nat → Iv
  | 0 => fun _ => none
  | k + 1 => evs R k (ivsN R ops k) (regsL (ops k))
/-- a step lies so. -/
def OAt (w : World) (X p : Nat) (o : LOp) : Prop :=
  w.cell? ⟨X, p, none⟩ = some (.int .i64 o.k) ∧ w.cell? ⟨X, p + 1, none⟩ = some (.int .i64 o.d) ∧ w.cell? ⟨X, p + 2, none⟩ = some (.int .i64 o.d2) ∧ w.cell? ⟨X, p + 3, none⟩ = some (.int .i64 o.a) ∧ w.cell? ⟨X, p + 4, none⟩ = some (.int .i64 o.b)
    ∧ w.cell? ⟨X, p + 5, none⟩ = some (.int .i64 o.c) ∧ w.cell? ⟨X, p + 6, none⟩ = some (.int .u64 o.n) ∧ w.cell? ⟨X, p + 7, none⟩ = some (.int .i64 o.op) ∧ w.cell? ⟨X, p + 8, none⟩ = some (.int .i64 o.sz) ∧ w.cell? ⟨X, p + 9, none⟩ = some (.int .i64 o.od)
    ∧ w.cell? ⟨X, p + 10, none⟩ = some (.int .i64 o.tgt) ∧ w.cell? ⟨X, p + 11, none⟩ = some (.int .i64 o.st) ∧ w.cell? ⟨X, p + 12, none⟩ = some (.int .i64 o.ln)
theorem OAt.below {w w' : World} {X p : Nat} {o : LOp} (h : OAt w X p o) (hb : Below w.heap.size w w') : OAt w' X p o := by
  obtain ⟨c0, c1, c2, c3, c4, c5, c6, c7, c8, c9, c10, c11, c12⟩ := h
  exact ⟨cell_below c0 hb, cell_below c1 hb, cell_below c2 hb, cell_below c3 hb, cell_below c4 hb, cell_below c5 hb, cell_below c6 hb, cell_below c7 hb, cell_below c8 hb, cell_below c9 hb, cell_below c10 hb, cell_below c11 hb, cell_below c12 hb⟩
/-- what the map leads to. -/
structure IvB (w wr : World) (B Y : Nat) (S : Iv) (bl : Int → Option Nat) : Prop where
  none_ : ∀ r, bl r = none → S r = none
  some_ : ∀ r b, bl r = some b → ∃ f t, S r = some (f, t) ∧ w.heap.size ≤ b ∧ b ≠ B ∧ b ≠ Y ∧ wr.cell? ⟨b, 0, none⟩ = some (.int .i64 r) ∧ wr.cell? ⟨b, 1, none⟩ = some (.int .i64 f) ∧ wr.cell? ⟨b, 2, none⟩ = some (.int .i64 t) ∧ wr.frozen? ⟨b, 2, none⟩ = false
structure IvW (w wr : World) (B Y n : Nat) (S : Iv) : Prop where
  below : Below w.heap.size w wr
  hB : w.heap.size ≤ B
  ex : ∃ bl, PMap wr B n bl ∧ IvB w wr B Y S bl
theorem IvW.next {w wr wy : World} {B Y n : Nat} {S : Iv} (h : IvW w wr B Y n S) (hb : Below wr.heap.size wr wy) : IvW w wy B Y n S := by
  obtain ⟨bl, hp, hi⟩ := h.ex
  refine ⟨below_next h.below hb, h.hB, bl, hp.below hb, hi.none_, fun r b hr => ?_⟩
  obtain ⟨f, t, e, h1, h2, hY, c0, c1, c2, z⟩ := hi.some_ r b hr
  refine ⟨f, t, e, h1, h2, hY, cell_below c0 hb, cell_below c1 hb, cell_below c2 hb, ?_⟩
  rw [hb.frozen (cell_lt2 c2)]
  exact z
/-- another block is kept apart, one that is newer. -/
theorem IvW.apart {w wr wy : World} {B Y Y' n : Nat} {S : Iv} (h : IvW w wr B Y n S) (hb : Below wr.heap.size wr wy) (hY : wr.heap.size ≤ Y') : IvW w wy B Y' n S := by
  have h2 := h.next hb
  obtain ⟨bl, hp, hi⟩ := h.ex
  refine ⟨h2.below, h.hB, bl, hp.below hb, hi.none_, fun r b hr => ?_⟩
  obtain ⟨f, t, e, h1, h2, _, c0, c1, c2, z⟩ := hi.some_ r b hr
  have hlt := cell_lt2 c0
  refine ⟨f, t, e, h1, h2, by omega, cell_below c0 hb, cell_below c1 hb, cell_below c2 hb, ?_⟩
  rw [hb.frozen (cell_lt2 c2)]
  exact z
theorem IvW.plain {w wr : World} {B Y n : Nat} {S : Iv} (h : IvW w wr B Y n S) : IvW w wr B B n S := by
  obtain ⟨bl, hp, hi⟩ := h.ex
  refine ⟨h.below, h.hB, bl, hp, hi.none_, fun r b hr => ?_⟩
  obtain ⟨f, t, e, h1, h2, _, c0, c1, c2, z⟩ := hi.some_ r b hr
  exact ⟨f, t, e, h1, h2, h2, c0, c1, c2, z⟩
theorem IvW.mono {w wr : World} {B Y n m : Nat} {S : Iv} (h : IvW w wr B Y n S) (hm : n ≤ m) : IvW w wr B Y m S := by
  obtain ⟨bl, hp, hi⟩ := h.ex
  exact ⟨h.below, h.hB, bl, hp.mono hm, hi⟩
theorem ev_at (R i : Int) (S : Iv) (r q : Int) (h : ¬ R ≤ r) : ev R i S r q = if q = r then (match S r with | none => some (i, i) | some (f, _) => some (f, i)) else S q := by
  unfold ev
  rw [if_neg h]
theorem ev_skip (R i : Int) (S : Iv) (r : Int) (h : R ≤ r) : ev R i S r = S := if_pos h
/-- a register that is known is needed here, too. -/
theorem IvW.touch {w wr : World} {B Y n : Nat} {S : Iv} {bl : Int → Option Nat} (hb : Below w.heap.size w wr) (hB : w.heap.size ≤ B) (hp : PMap wr B n bl) (hi : IvB w wr B Y S bl) {R i r : Int} (hr : ¬ R ≤ r) {b : Nat} (hbl : bl r = some b) :
    IvW w (wr.setCell ⟨b, 2, none⟩ (.int .i64 i)) B Y n (ev R i S r) := by
  obtain ⟨f, t, e, h1, h2, hY, c0, c1, c2, z⟩ := hi.some_ r b hbl
  refine ⟨below_st hb h1 _, hB, bl, hp.set (fun e => h2 e.symm) _, fun q hq => ?_, fun q b' hq => ?_⟩
  · rw [ev_at _ _ _ _ _ hr]
    have hne : q ≠ r := fun e => by rw [e, hbl] at hq; cases hq
    simp only [if_neg hne]
    exact hi.none_ q hq
  · obtain ⟨f', t', e', h1', h2', hY', c0', c1', c2', z'⟩ := hi.some_ q b' hq
    rw [ev_at _ _ _ _ _ hr]
    by_cases hqr : q = r
    · subst hqr
      rw [hbl] at hq
      obtain rfl := Option.some.inj hq
      refine ⟨f, i, by simp [e], h1, h2, hY, ?_, ?_, World.cell?_setCell_same _ _ _ c2, by rw [World.frozen?_setCell]; exact z⟩
      · rw [World.cell?_setCell_other _ _ _ _ (by simp)]; exact c0
      · rw [World.cell?_setCell_other _ _ _ _ (by simp)]; exact c1
    · have hbb : b ≠ b' := fun e2 => by
        subst e2
        rw [c0] at c0'
        simp at c0'
        exact hqr c0'.symm
      have hadd : ∀ k, (⟨b, 2, none⟩ : Addr) ≠ ⟨b', k, none⟩ := fun k e2 => hbb (congrArg Addr.block e2)
      refine ⟨f', t', by simp only [if_neg hqr]; exact e', h1', h2', hY', ?_, ?_, ?_, by rw [World.frozen?_setCell]; exact z'⟩
      all_goals (rw [World.cell?_setCell_other _ _ _ _ (hadd _)]; assumption)
/-- a register that is new. -/
theorem IvB.fresh {w wr w2 : World} {B Y : Nat} {S : Iv} {bl : Int → Option Nat} (hw : w.heap.size ≤ wr.heap.size) (hBl : B < wr.heap.size) (hYl : Y < wr.heap.size) (hi : IvB w wr B Y S bl) {R i r : Int} (hr : ¬ R ≤ r) (hbl : bl r = none)
    (hg : (wr.alloc (.cells #[.int .i64 r, .int .i64 i, .int .i64 i] 35)).grownBy w2 (some B)) :
    IvB w w2 B Y (ev R i S r) (fun q => if q = r then some wr.heap.size else bl q) := by
  have hS := hi.none_ r hbl
  have blk : ∀ b, b < wr.heap.size + 1 → b ≠ B → w2.heap[b]? = (wr.alloc (.cells #[.int .i64 r, .int .i64 i, .int .i64 i] 35)).heap[b]? := fun b h1 h2 => hg.block b (by simpa using h1) (fun e => h2 (Option.some.inj e))
  have cel : ∀ b k, b < wr.heap.size + 1 → b ≠ B → w2.cell? ⟨b, k, none⟩ = (wr.alloc (.cells #[.int .i64 r, .int .i64 i, .int .i64 i] 35)).cell? ⟨b, k, none⟩ := fun b k h1 h2 => by simp [World.cell?, blk b h1 h2]
  have fro : ∀ b k, b < wr.heap.size + 1 → b ≠ B → w2.frozen? ⟨b, k, none⟩ = (wr.alloc (.cells #[.int .i64 r, .int .i64 i, .int .i64 i] 35)).frozen? ⟨b, k, none⟩ := fun b k h1 h2 => by simp [World.frozen?, blk b h1 h2]
  refine ⟨fun q hq => ?_, fun q b hq => ?_⟩
  · rw [ev_at _ _ _ _ _ hr]
    by_cases hqr : q = r
    · simp [hqr] at hq
    · simp only [if_neg hqr] at hq ⊢
      exact hi.none_ q hq
  · rw [ev_at _ _ _ _ _ hr]
    by_cases hqr : q = r
    · simp only [if_pos hqr] at hq ⊢
      obtain rfl := Option.some.inj hq
      subst hqr
      have hne : wr.heap.size ≠ B := by omega
      refine ⟨i, i, by simp [hS], hw, hne, by omega, ?_, ?_, ?_, ?_⟩
      · rw [cel _ _ (by omega) hne, alloc_cell]; simp
      · rw [cel _ _ (by omega) hne, alloc_cell]; simp
      · rw [cel _ _ (by omega) hne, alloc_cell]; simp
      · rw [fro _ _ (by omega) hne, alloc_frozen]; simp
    · simp only [if_neg hqr] at hq ⊢
      obtain ⟨f', t', e', h1', h2', hY', c0', c1', c2', z'⟩ := hi.some_ q b hq
      have hlt := cell_lt2 c0'
      refine ⟨f', t', e', h1', h2', hY', ?_, ?_, ?_, ?_⟩
      · rw [cel _ _ (by omega) h2', alloc_cell, if_pos hlt]; exact c0'
      · rw [cel _ _ (by omega) h2', alloc_cell, if_pos hlt]; exact c1'
      · rw [cel _ _ (by omega) h2', alloc_cell, if_pos hlt]; exact c2'
      · rw [fro _ _ (by omega) h2', alloc_frozen, if_pos hlt]; exact z'
/-- the registers that are needed somewhere, one behind the other. -/
def outN (S : Iv) : Nat → List (Int × Int × Int)
  | 0 => []
  | q + 1 => outN S q ++ (match S (q : Int) with | none => [] | some (f, t) => [((q : Int), f, t)])
def ivC (x : Int × Int × Int) : List Value := [.int .i64 x.1, .int .i64 x.2.1, .int .i64 x.2.2]
theorem outN_none {S : Iv} {q : Nat} (h : S (q : Int) = none) : outN S (q + 1) = outN S q := by
  show outN S q ++ _ = _
  rw [h]
  simp
theorem outN_some {S : Iv} {q : Nat} {f t : Int} (h : S (q : Int) = some (f, t)) : outN S (q + 1) = outN S q ++ [((q : Int), f, t)] := by
  show outN S q ++ _ = _
  rw [h]
theorem outN_len (S : Iv) : ∀ q, (outN S q).length ≤ q
  | 0 => Nat.le_refl _
  | q + 1 => by
    have h := outN_len S q
    cases hs : S (q : Int) with
    | none => rw [outN_none hs]; omega
    | some p =>
      obtain ⟨f, t⟩ := p
      rw [outN_some hs]
      simp
      omega
theorem ev_twice (R i : Int) (S : Iv) (r : Int) : ev R i (ev R i S r) r = ev R i S r := by
  by_cases h : R ≤ r
  · rw [ev_skip _ _ _ _ h, ev_skip _ _ _ _ h]
  · funext q
    rw [ev_at _ _ _ _ _ h, ev_at _ _ _ _ _ h, ev_at _ _ _ _ _ h]
    by_cases hq : q = r
    · simp only [if_pos hq, if_true]
      cases S r <;> rfl
    · simp only [if_neg hq]
theorem cell_set {w : World} {c k b t : Nat} {v u : Value} (h : w.cell? ⟨c, k, none⟩ = some v) (hne : c ≠ b) : (w.setCell ⟨b, t, none⟩ u).cell? ⟨c, k, none⟩ = some v := by
  rw [World.cell?_setCell_other _ _ _ _ (fun e => hne (congrArg Addr.block e).symm)]
  exact h
theorem OAt.set {w : World} {X p b t : Nat} {o : LOp} {u : Value} (h : OAt w X p o) (hne : X ≠ b) : OAt (w.setCell ⟨b, t, none⟩ u) X p o := by
  obtain ⟨c0, c1, c2, c3, c4, c5, c6, c7, c8, c9, c10, c11, c12⟩ := h
  exact ⟨cell_set c0 hne, cell_set c1 hne, cell_set c2 hne, cell_set c3 hne, cell_set c4 hne, cell_set c5 hne, cell_set c6 hne, cell_set c7 hne, cell_set c8 hne, cell_set c9 hne, cell_set c10 hne, cell_set c11 hne, cell_set c12 hne⟩
theorem OAt.grown {w w' : World} {X p g : Nat} {o : LOp} (h : OAt w X p o) (hg : w.grownBy w' (some g)) (hne : X ≠ g) : OAt w' X p o := by
  obtain ⟨c0, c1, c2, c3, c4, c5, c6, c7, c8, c9, c10, c11, c12⟩ := h
  exact ⟨cell_grown c0 hg hne, cell_grown c1 hg hne, cell_grown c2 hg hne, cell_grown c3 hg hne, cell_grown c4 hg hne, cell_grown c5 hg hne, cell_grown c6 hg hne, cell_grown c7 hg hne, cell_grown c8 hg hne, cell_grown c9 hg hne, cell_grown c10 hg hne, cell_grown c11 hg hne, cell_grown c12 hg hne⟩
theorem NumsAt.set {w : World} {c b t : Nat} {l : List Int} {u : Value} (h : NumsAt w c l) (hne : c ≠ b) : NumsAt (w.setCell ⟨b, t, none⟩ u) c l := fun q x hq => cell_set (h q x hq) hne
theorem wpList_put {w : World} {ops : Array Oper} {rest : List Oper} {o : Oper} {a : Act} {Q : Exit → Act → World → Prop}
    (hg : o.guard = none) (m x v : Operand) (hop : o.op = Op.mapUpdate 37 m x v) (B n : Nat) (bl : Int → Option Nat) (hm : a.eval m = .map (some B)) (hp : PMap w B n bl) (hn : n < maxLen) (r : Int) (hx : a.eval x = .int .i64 r) (hr : (Lit.int .i64 r).wf = true) (b : Nat) (hv : a.eval v = .pointer (some ⟨b, 0, none⟩))
    (hK : ∀ w', PMap w' B (n + 1) (fun q => if q = r then some b else bl q) → w.grownBy w' (some B) → wpList Try.prog ops Q rest (a.put o.dst undef) w') :
    wpList Try.prog ops Q (o :: rest) a w := by
  refine wpList_plain hg fun K' hK' => ?_
  obtain ⟨w', hrun, r1, r2⟩ := hp.store hn r hr b
  unfold Oper.wp
  simp [execOp, hop, hm, hx, hv, ptrV] at hrun ⊢
  rw [hrun]
  simp [Result.andThen]
  exact hK' _ _ (hK w' r1 r2)
end Go.Proofs.Ytajaglhlmoblnaa
