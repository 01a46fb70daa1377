/- The world while fields are laid; walk: a bitfield is laid: the program's bits. Conditions: numbers fit. -/
import Derived.Test.YtlbkloamabomcaaLayUp
import Derived.Test.YtlbkloamabomcaaOnto
import Derived.Test.YtlbkloamabomcaaLayRet
import Derived.Deep.RegionHeld3
import Derived.Deep.AppendLies
import Derived.Deep.RegionLawGrows
import Derived.Handy
namespace Go.Proofs.Ytlbkloamabomcaa
open Go.RowKit Go.Sort
set_option linter.unusedVariables false
set_option linter.unusedSimpArgs false
def Sp.cs (s : Sp) : List Value := [.int .i64 s.at_, .int .i64 s.len, .int .i64 s.kind, .bool s.isBits, .int .i64 s.bit, .int .i64 s.width]
theorem Sp.cs_len (l : List Sp) : (l.flatMap Sp.cs).length = l.length * 6 := by
  induction l with
  | nil => rfl
  | cons a r ih => simp [List.flatMap_cons, ih, Sp.cs]; omega
theorem grown_set (w : World) (a : Addr) (v : Value) : w.grownBy (w.setCell a v) (some a.block) :=
  ⟨rfl, rfl, rfl, by simp, fun k hk hne => by
    have : a.block ≠ k := fun e => hne (by rw [e])
    unfold World.setCell
    simp [Array.getElem?_modify, this]⟩
/-- what is laid so far: the block behind w0 has four cells: size, alignment, the row of spots, the first free bit. -/
structure PlW (w0 w : World) (p : Pl) (sp : List Sp) : Prop where
  below : Below w0.heap.size w0 w
  c0 : w.cell? ⟨w0.heap.size, 0, none⟩ = some (.int .i64 p.size)
  c1 : w.cell? ⟨w0.heap.size, 1, none⟩ = some (.int .i64 p.align)
  c3 : w.cell? ⟨w0.heap.size, 3, none⟩ = some (.int .i64 p.bit)
  row : ∃ a c, w.cell? ⟨w0.heap.size, 2, none⟩ = some (.slice a sp.length c) ∧ w.ownsRow (w0.heap.size + 1) 42 6 (.slice a sp.length c) sp.length (sp.flatMap Sp.cs)
  z : ∀ k, w.frozen? ⟨w0.heap.size, k, none⟩ = false
theorem PlW.lt {w0 w : World} {p : Pl} {sp : List Sp} (h : PlW w0 w p sp) : w0.heap.size < w.heap.size := cell_lt2 h.c0
theorem PlW.next {w0 w w' : World} {p : Pl} {sp : List Sp} (h : PlW w0 w p sp) (hb : Below w.heap.size w w') : PlW w0 w' p sp := by
  obtain ⟨a, c, r1, r2⟩ := h.row
  have hl := h.lt
  have hc : ∀ k, w'.cell? ⟨w0.heap.size, k, none⟩ = w.cell? ⟨w0.heap.size, k, none⟩ := fun k => hb.cell (p := ⟨w0.heap.size, k, none⟩) hl
  refine ⟨below_next h.below hb, by rw [hc]; exact h.c0, by rw [hc]; exact h.c1, by rw [hc]; exact h.c3, ⟨a, c, by rw [hc]; exact r1, ?_⟩, fun k => ?_⟩
  · exact r2.kept (row := none) ⟨hb.os, hb.tape, hb.output, hb.size, fun k hk _ => hb.block k hk⟩ (by cases a <;> simp [Value.ownBlock])
  · exact (hb.frozen (p := ⟨w0.heap.size, k, none⟩) hl).trans (h.z k)
theorem PlW.set {w0 w : World} {p p' : Pl} {sp : List Sp} (h : PlW w0 w p sp) (k : Nat) (x : Int) (hk : (k = 0 ∧ p' = ⟨p.bit, x, p.align⟩) ∨ (k = 1 ∧ p' = ⟨p.bit, p.size, x⟩) ∨ (k = 3 ∧ p' = ⟨x, p.size, p.align⟩)) :
    PlW w0 (w.setCell ⟨w0.heap.size, k, none⟩ (.int .i64 x)) p' sp := by
  obtain ⟨a, c, r1, r2⟩ := h.row
  have hs : ∀ v, w.cell? ⟨w0.heap.size, k, none⟩ = some v → (w.setCell ⟨w0.heap.size, k, none⟩ (.int .i64 x)).cell? ⟨w0.heap.size, k, none⟩ = some (.int .i64 x) := fun v hv => World.cell?_setCell_same _ _ _ hv
  have ho : ∀ j v, j ≠ k → w.cell? ⟨w0.heap.size, j, none⟩ = some v → (w.setCell ⟨w0.heap.size, k, none⟩ (.int .i64 x)).cell? ⟨w0.heap.size, j, none⟩ = some v := fun j v hj hv => by
    rw [World.cell?_setCell_other _ _ _ _ (fun e => hj (congrArg Addr.off e).symm)]; exact hv
  have hrow : (w.setCell ⟨w0.heap.size, k, none⟩ (.int .i64 x)).ownsRow (w0.heap.size + 1) 42 6 (.slice a sp.length c) sp.length (sp.flatMap Sp.cs) := by
    refine r2.kept (grown_set _ _ _) ?_
    cases ha : (Value.slice a sp.length c).ownBlock with
    | none => exact .inl rfl
    | some g =>
      have := (r2.lt g ha).1
      refine .inr fun e => ?_
      have := Option.some.inj e
      simp only at this
      omega
  have hz : ∀ j, (w.setCell ⟨w0.heap.size, k, none⟩ (.int .i64 x)).frozen? ⟨w0.heap.size, j, none⟩ = false := fun j => by rw [World.frozen?_setCell]; exact h.z j
  have hb := below_st h.below (Nat.le_refl _) (p := ⟨w0.heap.size, k, none⟩) (.int .i64 x)
  rcases hk with ⟨rfl, rfl⟩ | ⟨rfl, rfl⟩ | ⟨rfl, rfl⟩
  · exact ⟨hb, hs _ h.c0, ho 1 _ (by omega) h.c1, ho 3 _ (by omega) h.c3, ⟨a, c, ho 2 _ (by omega) r1, hrow⟩, hz⟩
  · exact ⟨hb, ho 0 _ (by omega) h.c0, hs _ h.c1, ho 3 _ (by omega) h.c3, ⟨a, c, ho 2 _ (by omega) r1, hrow⟩, hz⟩
  · exact ⟨hb, ho 0 _ (by omega) h.c0, ho 1 _ (by omega) h.c1, hs _ h.c3, ⟨a, c, ho 2 _ (by omega) r1, hrow⟩, hz⟩
/-- a spot more: the row has grown, and is laid into its cell. -/
theorem PlW.push {w0 w w1 : World} {p : Pl} {sp : List Sp} {s : Sp} {a : Option Addr} {c g cap : Nat} (h : PlW w0 w p sp) (r1 : w.cell? ⟨w0.heap.size, 2, none⟩ = some (.slice a sp.length c)) (r2 : w.ownsRow (w0.heap.size + 1) 42 6 (.slice a sp.length c) sp.length (sp.flatMap Sp.cs))
    (ho : w1.ownsRow (w0.heap.size + 1) 42 6 (.slice (some ⟨g, 0, none⟩) (sp.length + 1) cap) (sp.length + 1) (sp.flatMap Sp.cs ++ Sp.cs s)) (hg : w.grownBy w1 (Value.slice a sp.length c).ownBlock) :
    PlW w0 (w1.setCell ⟨w0.heap.size, 2, none⟩ (.slice (some ⟨g, 0, none⟩) (sp.length + 1) cap)) p (sp ++ [s]) := by
  have hl := h.lt
  have hne : some w0.heap.size ≠ (Value.slice a sp.length c).ownBlock := fun e => by
    have := (r2.lt _ e.symm).1
    omega
  have hc : ∀ k, w1.cell? ⟨w0.heap.size, k, none⟩ = w.cell? ⟨w0.heap.size, k, none⟩ := fun k => hg.cell_far ⟨w0.heap.size, k, none⟩ hl hne
  have ho' : ∀ j v, j ≠ 2 → w.cell? ⟨w0.heap.size, j, none⟩ = some v → (w1.setCell ⟨w0.heap.size, 2, none⟩ (.slice (some ⟨g, 0, none⟩) (sp.length + 1) cap)).cell? ⟨w0.heap.size, j, none⟩ = some v := fun j v hj hv => by
    rw [World.cell?_setCell_other _ _ _ _ (fun e => hj (congrArg Addr.off e).symm), hc]; exact hv
  have hb1 : Below w0.heap.size w0 w1 := h.below.grown hg h.below.size (fun k hk => by have := (r2.lt k hk).1; omega)
  refine ⟨below_st hb1 (Nat.le_refl _) _, ho' 0 _ (by omega) h.c0, ho' 1 _ (by omega) h.c1, ho' 3 _ (by omega) h.c3, ⟨some ⟨g, 0, none⟩, cap, ?_, ?_⟩, fun k => ?_⟩
  · rw [List.length_append]
    exact World.cell?_setCell_same _ _ _ ((hc 2).trans r1)
  · have e : (sp ++ [s]).flatMap Sp.cs = sp.flatMap Sp.cs ++ Sp.cs s := by simp [List.flatMap_append]
    rw [List.length_append, e]
    refine ho.kept (grown_set _ _ _) (.inr fun e => ?_)
    have h1 := (ho.lt g rfl).1
    have h2 : g = w0.heap.size := Option.some.inj e
    omega
  · rw [World.frozen?_setCell]
    exact (hg.frozen_far ⟨w0.heap.size, k, none⟩ hl hne).trans (h.z k)
theorem ownB_ne {w : World} {B c n : Nat} {e : TypeId} {sz k : Nat} {a : Option Addr} {xs : List Value} (h : w.ownsRow (B + 1) e sz (.slice a n c) n xs) : (Value.slice a n c).ownBlock ≠ some (⟨B, k, none⟩ : Addr).block := fun e => by
  have h1 := (h.lt _ e).1
  simp only at h1
  omega
theorem spot_info : (Try.prog.info? 42).map (fun i => (i.zero, i.size, i.bytes)) = some (some (.agg #[.int .i64 0, .int .i64 0, .int .i64 0, .bool false, .int .i64 0, .int .i64 0]), 6, 48) := by kernel_rfl
/-- where a bitfield lies. -/
def bitSp (B wd : Int) : Sp := ⟨B / 8, if wd = 0 then 0 else (B + wd - 1) / 8 - B / 8 + 1, 1, true, B % 8, wd⟩

set_option maxRecDepth 100000 in
set_option maxHeartbeats 3200000 in
theorem bits_zero {α : Type} (f : FdF α) (q : Raw) (p : Pl) (sp : List Sp) (w0 w : World) (h : PlW w0 w p sp) (hq : q.size = 1 ∨ q.size = 2 ∨ q.size = 4 ∨ q.size = 8) (hw : f.width = 0) (hp0 : 0 ≤ p.bit) (hp1 : p.bit ≤ 100000000) (hsp : sp.length ≤ 32) :
    Calls Try.prog 47 #[.pointer (some ⟨w0.heap.size, 0, none⟩), fdV f q] w fun e w' => e = .returned (.tuple #[]) ∧ PlW w0 w' ⟨bitAt p.bit (8 * q.size) f.width + f.width, p.size, p.align⟩ (sp ++ [bitSp (bitAt p.bit (8 * q.size) f.width) f.width]) := by
  have hB : bitAt p.bit (8 * q.size) f.width = upF p.bit (8 * q.size) := by unfold bitAt; rw [if_pos hw]
  rw [hB]
  have hu := upF_ge (n := p.bit) (s := 8 * q.size) (by omega)
  have UP := Lib.hid (fun W => up_any p.bit (8 * q.size) hp0 (by omega) (by omega) (by omega) W)
  generalize hU : upF p.bit (8 * q.size) = U at *
  have H := Lib.hid h
  obtain ⟨nm, ty, bt, wd⟩ := f
  obtain ⟨qk, qs, qp, qfa, qfl, qfc, qc, qea, qel, qec⟩ := q
  obtain ⟨pb, ps, pa⟩ := p
  simp only at *
  subst hw
  obtain ⟨i0, hi, hz0, hz1, hz2⟩ := info_parts spot_info
  have hl := h.lt
  have z0 := h.z
  have z2 : w.frozen? ⟨w0.heap.size, 2, none⟩ = false := z0 2
  have z3 : w.frozen? ⟨w0.heap.size, 3, none⟩ = false := z0 3
  have c3 := h.c3
  obtain ⟨a, c, r1, r2⟩ := h.row
  have ROW := Lib.hid r2
  have hB0 := h.below.size
  clear h z0 r2
  have ht1 : Int.tdiv U 8 = U / 8 := tdiv_eq (by omega)
  have ht2 : Int.tmod U 8 = U % 8 := Int.tmod_eq_emod_of_nonneg (by omega)
  unfold fdV
  simp only
  go_enter Try.func47, Try.ntmps47
  go_wp2_with (go_at_call 48; refine (UP.out _).mono ?_; rintro e w1 ⟨rfl, rfl⟩)
  refine wp_letter (R := fun W => PlW w0 W ⟨U, ps, pa⟩ sp ∧ W.cell? ⟨w0.heap.size, 2, none⟩ = some (.slice a sp.length c) ∧ W.ownsRow (w0.heap.size + 1) 42 6 (.slice a sp.length c) sp.length (sp.flatMap Sp.cs)) ?letA ?_
  case letA =>
    exact ⟨(H.out.set 3 U (p' := ⟨U, ps, pa⟩) (.inr (.inr ⟨rfl, rfl⟩))).next (below_al (Below.refl _ _) _), by simp [go_sem, ↓IntWalk.iteOmega, r1], ((ROW.out.kept (grown_set _ _ _) (.inr (ownB_ne ROW.out))).alloc _)⟩
  rintro wA ⟨hA, hA1, hA2⟩
  have hA3 := hA.c3
  have HA := Lib.hid hA
  have HO := Lib.hid hA2
  have zf2 : wA.frozen? ⟨w0.heap.size, 2, none⟩ = false := hA.z 2
  have hlA := hA.lt
  have hw8 : IntKind.i64.wrap (U / 8) = U / 8 := IntWalk.i64_in _ (by omega)
  have hne : some w0.heap.size ≠ (Value.slice a sp.length c).ownBlock := fun e => by
    have := (hA2.lt _ e.symm).1
    omega
  clear r1 c3 z2 z3 H ROW hA hA2
  have hgr : ∀ (w1 : World), (wA.alloc (.cells #[.int .i64 (U / 8), .int .i64 0, .int .i64 1, .bool true, .int .i64 (U % 8), .int .i64 0] 42)).drew.grownBy w1 (Value.slice a sp.length c).ownBlock → w1.frozen? ⟨w0.heap.size, 2, none⟩ = false ∧ w1.cell? ⟨w0.heap.size, 2, none⟩ = some (.slice a sp.length c) ∧ w1.cell? ⟨w0.heap.size, 3, none⟩ = some (.int .i64 U) := fun w1 hg => by
    have h0 : w0.heap.size < (wA.alloc (.cells #[.int .i64 (U / 8), .int .i64 0, .int .i64 1, .bool true, .int .i64 (U % 8), .int .i64 0] 42)).drew.heap.size := by simp; omega
    refine ⟨?_, ?_, ?_⟩
    · rw [hg.frozen_far ⟨w0.heap.size, 2, none⟩ h0 hne]; simp [go_sem, ↓IntWalk.iteOmega, zf2]
    · rw [hg.cell_far ⟨w0.heap.size, 2, none⟩ h0 hne]; simp [go_sem, ↓IntWalk.iteOmega, hA1]
    · rw [hg.cell_far ⟨w0.heap.size, 3, none⟩ h0 hne]; simp [go_sem, ↓IntWalk.iteOmega, hA3]
  have HG := Lib.hid hgr
  clear hgr
  go_region_law ((refine step_append_lies _ rfl (.tmp 27) (.tmp 40) 36 rfl (w0.heap.size + 1) 42 i0 _ 6 48 Try.underlying36 hi hz0 hz1 hz2 rfl (by decide) (.slice a sp.length c) sp.length (sp.flatMap Sp.cs) (by simp [Act.eval, Act.put]) ((HO.out.alloc _).drew) ⟨wA.heap.size, 0, none⟩ 1 1 (bitSp U 0).cs (by simp [Act.eval, Act.put]) rfl (World.news_of_block (cs := #[.int .i64 (U / 8), .int .i64 0, .int .i64 1, .bool true, .int .i64 (U % 8), .int .i64 0]) (t := 42) (fr := (0, 0)) (heap_alloc_new wA _)) (by simp [Value.oneCell', bitSp, Sp.cs]) (by omega) (by unfold maxLen; omega) (by omega) (by simp; omega) (wA.heap.size + 1) (by simp) ?_; intro gg cap w1 hown1 hgrow hat hlt; obtain ⟨k0, k1, k2⟩ := HG.out w1 hgrow))
  all_goals
    go_wp2_with fail
    go_returns
    refine ⟨rfl, ?_⟩
    exact PlW.push (HA.out.next (below_dr (below_al (Below.refl _ _) _))) (by simp [go_sem, ↓IntWalk.iteOmega, hA1]) ((HO.out.alloc _).drew) hown1 hgrow
end Go.Proofs.Ytlbkloamabomcaa
