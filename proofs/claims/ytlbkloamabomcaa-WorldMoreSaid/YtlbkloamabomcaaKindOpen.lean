/- A type that came in, opened. No condition. -/
import Derived.Test.YtlbkloamabomcaaKindTy
import Derived.Test.YtlbkloamabomcaaLawKit
import Derived.Test.YtlbkloamabomcaaProg
import Derived.Deep.Slices
namespace Go.Proofs.Ytlbkloamabomcaa
open Go.ChangeShapes Go.WideShapes Go.ChangeAt Go.RowKit
set_option maxRecDepth 100000
set_option linter.unusedVariables false
theorem ty_cells : Try.prog.cellsOf 25 = 6 := by kernel_rfl
theorem fd_cells : Try.prog.cellsOf 51 = 9 := by kernel_rfl
theorem tint_cells : Try.prog.cellsOf 3 = 1 := by kernel_rfl
theorem tbool_cells : Try.prog.cellsOf 4 = 1 := by kernel_rfl
theorem tstr_cells : Try.prog.cellsOf 9 = 1 := by kernel_rfl
theorem tfs_cells : Try.prog.cellsOf 22 = 1 := by kernel_rfl
theorem tts_cells : Try.prog.cellsOf 23 = 1 := by kernel_rfl
theorem lt_of_cell {w : World} {b o : Nat} {v : Value} (h : w.cell? ⟨b, o, none⟩ = some v) : b < w.heap.size := by
  rcases Nat.lt_or_ge b w.heap.size with hlt | hge
  · exact hlt
  · have : w.heap[b]? = none := Array.getElem?_eq_none hge
    simp [World.cell?, this] at h
theorem spot_of_cell {w : World} {a : Addr} {v : Value} (h : w.cell? a = some v) : a = ⟨a.block, a.off, none⟩ := by
  obtain ⟨b, o, s⟩ := a
  cases s with
  | none => rfl
  | some s =>
    unfold World.cell? at h
    simp only at h
    split at h <;> simp at h
/-- the cells of a row, one by one. -/
theorem cells_at {w : World} {base : Nat} {a : Addr} {n : Nat} {cs : List Value} (h : w.cells? base a n = some cs) : cs.length = n ∧ ∀ i (v : Value), cs[i]? = some v → w.cell? (a.add i) = some v := by
  unfold World.cells? at h
  split at h
  · have hl := mapM_some_length h
    simp at hl
    refine ⟨hl, fun i v hv => ?_⟩
    have hi : i < n := by
      rcases Nat.lt_or_ge i n with hh | hh
      · exact hh
      · rw [List.getElem?_eq_none (by omega)] at hv; cases hv
    have := mapM_some_get h i i (by simp [hi])
    rw [this]; exact hv
  · cases h
theorem list_of {α : Type} (n : Nat) (p : Nat → α → Prop) (h : ∀ i, i < n → ∃ x, p i x) : ∃ l : List α, l.length = n ∧ ∀ (i : Nat) x, l[i]? = some x → p i x := by
  induction n with
  | zero => exact ⟨[], rfl, fun i x hx => by simp at hx⟩
  | succ n ih =>
    obtain ⟨l, hl, hp⟩ := ih (fun i hi => h i (by omega))
    obtain ⟨x, hx⟩ := h n (by omega)
    refine ⟨l ++ [x], by simp [hl], fun i y hy => ?_⟩
    rcases Nat.lt_or_ge i n with hh | hh
    · rw [List.getElem?_append_left (by omega)] at hy
      exact hp i y hy
    · rw [List.getElem?_append_right (by omega)] at hy
      by_cases e : i = n
      · subst e
        rw [hl, Nat.sub_self] at hy
        simp at hy
        subst hy
        exact hx
      · rw [List.getElem?_eq_none (by simp; omega)] at hy
        cases hy
section
variable {H : Type} {enc : TypeId × Value → H} {W : World}
/-- a slice that came in: nil, or elements of which each reads with less. -/
theorem open_sl {t e : TypeId} {fuel : Nat} {cs : List Value} {x : DataW H × List MemPlace} (ht : Try.prog.underlying t = some (.slice e)) (h : DataW.trod enc Try.prog W 0 (fun _ => true) true fuel t cs = some x) :
    (cs = [.slice none 0 0] ∧ x = (.nil, [])) ∨ ∃ (a : Addr) (len cap n : Nat), cs = [.slice (some a) len cap] ∧ fuel = n + 1 ∧ len ≤ cap ∧ cap ≤ maxLen ∧
      ∀ i, i < len → ∃ cs' y, W.cells? 0 (a.add (i * Try.prog.cellsOf e)) (Try.prog.cellsOf e) = some cs' ∧ DataW.trod enc Try.prog W 0 (fun _ => true) true n e cs' = some y := by
  rcases DataW.trod_slice ht h with h0 | ⟨a, len, cap, elems, rest, n, rfl, rfl, rfl, hb, hl, hm, hlen, hel, _, _⟩
  · exact .inl h0
  · refine .inr ⟨a, len, cap, n, rfl, rfl, hl, hm, fun i hi => ?_⟩
    have := hel i hi
    rw [List.getElem?_eq_getElem (by omega : i < elems.length)] at this
    obtain ⟨cs', h1, h2⟩ := Option.bind_eq_some_iff.1 this
    exact ⟨cs', _, h1, h2⟩
theorem ty_open : ∀ (m fuel : Nat) (cs : List Value) (x : DataW H × List MemPlace), fuel ≤ m → DataW.trod enc Try.prog W 0 (fun _ => true) true fuel 25 cs = some x →
    ∃ (t : Ty m) (r : Raw), cs = [.int .i64 r.kind, .int .i64 r.size, .bool r.packed, .slice r.fa r.fl r.fc, .int .i64 r.count, .slice r.ea r.el r.ec] ∧ TyAt W m t r
  | 0, fuel, cs, x, hf, h => by
    obtain rfl : fuel = 0 := by omega
    simp [DataW.trod] at h
  | m + 1, fuel, cs, x, hf, h => by
    have IH := ty_open m
    obtain ⟨xs, n, rfl, rfl, hl, hlen, hfs⟩ := DataW.trod_struct Try.underlying25 h
    rw [ty_cells] at hl
    match xs, hlen, cs, hl with
    | [y0, y1, y2, y3, y4, y5], _, [v0, v1, v2, v3, v4, v5], _ =>
      have h0 := hfs 0 _ rfl
      have h1 := hfs 1 _ rfl
      have h2 := hfs 2 _ rfl
      have h3 := hfs 3 _ rfl
      have h4 := hfs 4 _ rfl
      have h5 := hfs 5 _ rfl
      simp [tint_cells, tbool_cells, tfs_cells, tts_cells] at h0 h1 h2 h3 h4 h5
      obtain ⟨k, e0, _, w0⟩ := DataW.trod_int Try.underlying3 h0
      obtain ⟨sz, e1, _, w1⟩ := DataW.trod_int Try.underlying3 h1
      obtain ⟨pk, e2, _⟩ := DataW.trod_bool Try.underlying4 h2
      obtain ⟨ct, e4, _, w4⟩ := DataW.trod_int Try.underlying3 h4
      simp at e0 e1 e2 e4
      subst e0 e1 e2 e4
      have F : ∃ (l : List (FdF (Ty m))) (fa : Option Addr) (fc : Nat), v3 = .slice fa l.length fc ∧ SlIn W fa l.length fc (fun b off => ∀ (i : Nat) (f : FdF (Ty m)), l[i]? = some f → ∃ q : Raw, TyAt W m f.type q ∧ rng f.width ∧ f.name.size ≤ 9223372036854775807 ∧
        W.cell? ⟨b, off + i * 9, none⟩ = some (.string f.name) ∧ W.cell? ⟨b, off + i * 9 + 1, none⟩ = some (.int .i64 q.kind) ∧ W.cell? ⟨b, off + i * 9 + 2, none⟩ = some (.int .i64 q.size) ∧
        W.cell? ⟨b, off + i * 9 + 3, none⟩ = some (.bool q.packed) ∧ W.cell? ⟨b, off + i * 9 + 4, none⟩ = some (.slice q.fa q.fl q.fc) ∧ W.cell? ⟨b, off + i * 9 + 5, none⟩ = some (.int .i64 q.count) ∧
        W.cell? ⟨b, off + i * 9 + 6, none⟩ = some (.slice q.ea q.el q.ec) ∧ W.cell? ⟨b, off + i * 9 + 7, none⟩ = some (.bool f.isBits) ∧ W.cell? ⟨b, off + i * 9 + 8, none⟩ = some (.int .i64 f.width)) := by
        rcases open_sl Try.underlying22 h3 with ⟨hcs, _⟩ | ⟨a, len, cap, n2, hcs, hn2, hlc, hcm, hel⟩
        · simp at hcs
          subst hcs
          exact ⟨[], none, 0, rfl, by simp, by simp, fun h => by simp at h⟩
        · simp at hcs
          subst hcs
          obtain ⟨l, hlen2, hp⟩ := list_of len (fun i (f : FdF (Ty m)) => ∃ q : Raw, TyAt W m f.type q ∧ rng f.width ∧ f.name.size ≤ 9223372036854775807 ∧ ∀ j (v : Value), ([.string f.name, .int .i64 q.kind, .int .i64 q.size, .bool q.packed, .slice q.fa q.fl q.fc, .int .i64 q.count, .slice q.ea q.el q.ec, .bool f.isBits, .int .i64 f.width] : List Value)[j]? = some v → W.cell? (a.add (i * 9 + j)) = some v) (fun i hi => by
            obtain ⟨cs', y, hcells, htr⟩ := hel i hi
            rw [fd_cells] at hcells
            obtain ⟨hcl, hcv⟩ := cells_at hcells
            obtain ⟨zs, n3, rfl, _, hl3, hlen3, hfs3⟩ := DataW.trod_struct Try.underlying51 htr
            match zs, hlen3, cs', hcl with
            | [z0, z1, z2, z3], _, [u0, u1, u2, u3, u4, u5, u6, u7, u8], _ =>
              have g0 := hfs3 0 _ rfl
              have g1 := hfs3 1 _ rfl
              have g2 := hfs3 2 _ rfl
              have g3 := hfs3 3 _ rfl
              simp [tint_cells, tbool_cells, tstr_cells, ty_cells] at g0 g1 g2 g3
              obtain ⟨nm, d0, _, hnm⟩ := DataW.trod_string Try.underlying9 g0
              obtain ⟨bt, d2, _⟩ := DataW.trod_bool Try.underlying4 g2
              obtain ⟨wd, d3, _, wwd⟩ := DataW.trod_int Try.underlying3 g3
              obtain ⟨t, q, d1, hq⟩ := IH _ _ _ (by omega) g1
              simp at d0 d1 d2 d3
              obtain ⟨rfl, rfl, rfl, rfl, rfl, rfl⟩ := d1
              subst d0 d2 d3
              exact ⟨⟨nm, t, bt, wd⟩, q, hq, rng_i64 wwd, by unfold maxLen at hnm; exact hnm, fun j v hj => by rw [← Go.Deep.add_add]; exact hcv j v hj⟩)
          subst hlen2
          refine ⟨l, some a, cap, rfl, hlc, by unfold maxLen at hcm; exact hcm, fun hpos => ?_⟩
          have ha : a = ⟨a.block, a.off, none⟩ := by
            obtain ⟨f, hf0⟩ : ∃ f, l[0]? = some f := ⟨l[0], List.getElem?_eq_getElem hpos⟩
            obtain ⟨q, _, _, _, hc⟩ := hp 0 f hf0
            have := hc 0 _ rfl
            rw [show a.add (0 * 9 + 0) = a from rfl] at this
            exact spot_of_cell this
          refine ⟨a.block, a.off, by rw [← ha], ?_, fun i f hi => ?_⟩
          · obtain ⟨f, hf0⟩ : ∃ f, l[0]? = some f := ⟨l[0], List.getElem?_eq_getElem hpos⟩
            obtain ⟨q, _, _, _, hc⟩ := hp 0 f hf0
            have := hc 0 _ rfl
            rw [show a.add (0 * 9 + 0) = a from rfl, ha] at this
            exact lt_of_cell this
          · obtain ⟨q, hq, g1, g2, hc⟩ := hp i f hi
            rw [ha] at hc
            simp only [add_plain] at hc
            exact ⟨q, hq, g1, g2, hc 0 _ rfl, hc 1 _ rfl, hc 2 _ rfl, hc 3 _ rfl, hc 4 _ rfl, hc 5 _ rfl, hc 6 _ rfl, hc 7 _ rfl, hc 8 _ rfl⟩
      have E : ∃ (l : List (Ty m)) (ea : Option Addr) (ec : Nat), v5 = .slice ea l.length ec ∧ SlIn W ea l.length ec (fun b off => ∀ (i : Nat) (e : Ty m), l[i]? = some e → ∃ q : Raw, TyAt W m e q ∧
        W.cell? ⟨b, off + i * 6, none⟩ = some (.int .i64 q.kind) ∧ W.cell? ⟨b, off + i * 6 + 1, none⟩ = some (.int .i64 q.size) ∧
        W.cell? ⟨b, off + i * 6 + 2, none⟩ = some (.bool q.packed) ∧ W.cell? ⟨b, off + i * 6 + 3, none⟩ = some (.slice q.fa q.fl q.fc) ∧ W.cell? ⟨b, off + i * 6 + 4, none⟩ = some (.int .i64 q.count) ∧
        W.cell? ⟨b, off + i * 6 + 5, none⟩ = some (.slice q.ea q.el q.ec)) := by
        rcases open_sl Try.underlying23 h5 with ⟨hcs, _⟩ | ⟨a, len, cap, n2, hcs, hn2, hlc, hcm, hel⟩
        · simp at hcs
          subst hcs
          exact ⟨[], none, 0, rfl, by simp, by simp, fun h => by simp at h⟩
        · simp at hcs
          subst hcs
          obtain ⟨l, hlen2, hp⟩ := list_of len (fun i (e : Ty m) => ∃ q : Raw, TyAt W m e q ∧ ∀ j (v : Value), ([.int .i64 q.kind, .int .i64 q.size, .bool q.packed, .slice q.fa q.fl q.fc, .int .i64 q.count, .slice q.ea q.el q.ec] : List Value)[j]? = some v → W.cell? (a.add (i * 6 + j)) = some v) (fun i hi => by
            obtain ⟨cs', y, hcells, htr⟩ := hel i hi
            rw [ty_cells] at hcells
            obtain ⟨hcl, hcv⟩ := cells_at hcells
            obtain ⟨t, q, d1, hq⟩ := IH _ _ _ (by omega) htr
            subst d1
            exact ⟨t, q, hq, fun j v hj => by rw [← Go.Deep.add_add]; exact hcv j v hj⟩)
          subst hlen2
          refine ⟨l, some a, cap, rfl, hlc, by unfold maxLen at hcm; exact hcm, fun hpos => ?_⟩
          have ha : a = ⟨a.block, a.off, none⟩ := by
            obtain ⟨f, hf0⟩ : ∃ f, l[0]? = some f := ⟨l[0], List.getElem?_eq_getElem hpos⟩
            obtain ⟨q, _, hc⟩ := hp 0 f hf0
            have := hc 0 _ rfl
            rw [show a.add (0 * 6 + 0) = a from rfl] at this
            exact spot_of_cell this
          refine ⟨a.block, a.off, by rw [← ha], ?_, fun i f hi => ?_⟩
          · obtain ⟨f, hf0⟩ : ∃ f, l[0]? = some f := ⟨l[0], List.getElem?_eq_getElem hpos⟩
            obtain ⟨q, _, hc⟩ := hp 0 f hf0
            have := hc 0 _ rfl
            rw [show a.add (0 * 6 + 0) = a from rfl, ha] at this
            exact lt_of_cell this
          · obtain ⟨q, hq, hc⟩ := hp i f hi
            rw [ha] at hc
            simp only [add_plain] at hc
            exact ⟨q, hq, hc 0 _ rfl, hc 1 _ rfl, hc 2 _ rfl, hc 3 _ rfl, hc 4 _ rfl, hc 5 _ rfl⟩
      obtain ⟨fl, fa, fc, rfl, hF⟩ := F
      obtain ⟨el, ea, ec, rfl, hE⟩ := E
      exact ⟨(⟨k, sz, pk, fl, ct, el⟩ : TyF (Ty m)), ⟨k, sz, pk, fa, fl.length, fc, ct, ea, el.length, ec⟩, rfl, rfl, rfl, rfl, rfl, rfl, rfl, rng_i64 w0, rng_i64 w1, rng_i64 w4, hF, hE⟩
theorem type_open {r : Reach} {b0 : Nat} {v : Value} {d : DataW H} {p : List MemPlace} (hv : Value.okWide Try.prog W r b0 25 v) (h : DataW.Trod enc Try.prog W 0 (fun _ => true) true 25 v d p) :
    ∃ (n : Nat) (t : Ty n) (q : Raw), v = q.val ∧ TyAt W n t q := by
  obtain ⟨cs, rfl, _⟩ := okWide_struct Try.underlying25 hv
  obtain ⟨fuel, hf⟩ := h
  obtain ⟨t, q, hcs, hT⟩ := ty_open fuel fuel _ _ (Nat.le_refl _) hf
  refine ⟨fuel, t, q, ?_, hT⟩
  unfold Raw.val
  congr 1
  apply Array.ext'
  simpa [Value.cells] using hcs
end
end Go.Proofs.Ytlbkloamabomcaa
