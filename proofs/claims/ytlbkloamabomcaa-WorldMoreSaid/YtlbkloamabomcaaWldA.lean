/- Variables, places, as plain data; how they lie in memory; opened where they came in. No condition. Where variables lie, on plain data. No condition. Walks: the first variable, the first field, of a name: slices.IndexFunc over the program's four closures. Conditions: they lie in memory. -/
import Derived.Test.YtlbkloamabomcaaKindOpen
import Derived.Test.YtlbkloamabomcaaSlKit
import Derived.Test.YtlbkloamabomcaaLayCheck
import Derived.Test.YtlbkloamabomcaaLayRefMath
import Derived.Test.YtlbkloamabomcaaLayRefBig
namespace Go.Proofs.Ytlbkloamabomcaa
open Go.ChangeShapes Go.WideShapes Go.ChangeAt Go.RowKit
set_option maxRecDepth 100000
set_option linter.unusedVariables false
/-- a type's six cells. -/
def TyB6 (w : World) (b : Nat) (k s : Int) (p : Bool) (fa : Option Addr) (fl fc : Nat) (c : Int) (ea : Option Addr) (el ec : Nat) : Prop := w.cell? ⟨b, 0, none⟩ = some (.int .i64 k) ∧ w.cell? ⟨b, 1, none⟩ = some (.int .i64 s) ∧ w.cell? ⟨b, 2, none⟩ = some (.bool p) ∧ w.cell? ⟨b, 3, none⟩ = some (.slice fa fl fc) ∧ w.cell? ⟨b, 4, none⟩ = some (.int .i64 c) ∧ w.cell? ⟨b, 5, none⟩ = some (.slice ea el ec)
/-- a variable. -/
structure Vr (n : Nat) where
  name : ByteArray
  type : Ty n
/-- a variable's seven cells. -/
def VrAt (w : World) {n : Nat} (v : Vr n) (b off : Nat) : Prop := ∃ q : Raw, TyAt w n v.type q ∧ v.name.size ≤ 9223372036854775807 ∧
  w.cell? ⟨b, off, none⟩ = some (.string v.name) ∧ w.cell? ⟨b, off + 1, none⟩ = some (.int .i64 q.kind) ∧ w.cell? ⟨b, off + 2, none⟩ = some (.int .i64 q.size) ∧
  w.cell? ⟨b, off + 3, none⟩ = some (.bool q.packed) ∧ w.cell? ⟨b, off + 4, none⟩ = some (.slice q.fa q.fl q.fc) ∧ w.cell? ⟨b, off + 5, none⟩ = some (.int .i64 q.count) ∧
  w.cell? ⟨b, off + 6, none⟩ = some (.slice q.ea q.el q.ec)
/-- a row of variables lies so. -/
def VrsAt (w : World) {n : Nat} (l : List (Vr n)) (a : Option Addr) (c : Nat) : Prop := SlIn w a l.length c (fun b off => ∀ (i : Nat) v, l[i]? = some v → VrAt w v b (off + i * 7))
theorem VrAt.below {w w' : World} (hb : Below w.heap.size w w') {n : Nat} {v : Vr n} {b off : Nat} (hl : b < w.heap.size) (h : VrAt w v b off) : VrAt w' v b off := by
  obtain ⟨q, h1, h2, c0, c1, c2, c3, c4, c5, c6⟩ := h
  have hc : ∀ k, w'.cell? ⟨b, k, none⟩ = w.cell? ⟨b, k, none⟩ := fun k => hb.cell (p := ⟨b, k, none⟩) hl
  exact ⟨q, h1.below hb, h2, (hc _).trans c0, (hc _).trans c1, (hc _).trans c2, (hc _).trans c3, (hc _).trans c4, (hc _).trans c5, (hc _).trans c6⟩
theorem VrsAt.below {w w' : World} (hb : Below w.heap.size w w') {n : Nat} {l : List (Vr n)} {a : Option Addr} {c : Nat} (h : VrsAt w l a c) : VrsAt w' l a c := by
  obtain ⟨h1, h2, h3⟩ := h
  refine ⟨h1, h2, fun h0 => ?_⟩
  obtain ⟨b, off, ha, hlt, hc⟩ := h3 h0
  exact ⟨b, off, ha, Nat.lt_of_lt_of_le hlt hb.size, fun i v hi => (hc i v hi).below hb hlt⟩
/-- a part of a place: a field's name, how many indices. -/
structure Pt where
  field : ByteArray
  idx : Nat
/-- a row of parts lies so. -/
def PtsAt (w : World) (l : List Pt) (a : Option Addr) (c : Nat) : Prop := SlIn w a l.length c (fun b off => ∀ (i : Nat) p, l[i]? = some p → p.field.size ≤ 9223372036854775807 ∧ w.cell? ⟨b, off + i * 2, none⟩ = some (.string p.field) ∧ ∃ ia ic, w.cell? ⟨b, off + i * 2 + 1, none⟩ = some (.slice ia p.idx ic) ∧ p.idx ≤ ic ∧ ic ≤ 9223372036854775807)
theorem PtsAt.below {w w' : World} (hb : Below w.heap.size w w') {l : List Pt} {a : Option Addr} {c : Nat} (h : PtsAt w l a c) : PtsAt w' l a c := by
  obtain ⟨h1, h2, h3⟩ := h
  refine ⟨h1, h2, fun h0 => ?_⟩
  obtain ⟨b, off, ha, hlt, hc⟩ := h3 h0
  have hcc : ∀ k, w'.cell? ⟨b, k, none⟩ = w.cell? ⟨b, k, none⟩ := fun k => hb.cell (p := ⟨b, k, none⟩) hlt
  refine ⟨b, off, ha, Nat.lt_of_lt_of_le hlt hb.size, fun i v hi => ?_⟩
  obtain ⟨g1, g2, ia, ic, g3, g4⟩ := hc i v hi
  exact ⟨g1, (hcc _).trans g2, ia, ic, (hcc _).trans g3, g4⟩
theorem vr_cells : Try.prog.cellsOf 73 = 7 := by kernel_rfl
theorem pt_cells : Try.prog.cellsOf 81 = 2 := by kernel_rfl
theorem tes_cells : Try.prog.cellsOf 77 = 1 := by kernel_rfl
theorem tps_cells : Try.prog.cellsOf 60 = 1 := by kernel_rfl
section
variable {H : Type} {enc : TypeId × Value → H} {W : World}
theorem vr_open (m fuel : Nat) (cs : List Value) (x : DataW H × List MemPlace) (hf : fuel ≤ m) (h : DataW.trod enc Try.prog W 0 (fun _ => true) true fuel 73 cs = some x) :
    ∃ (v : Vr m) (q : Raw), cs = [.string v.name, .int .i64 q.kind, .int .i64 q.size, .bool q.packed, .slice q.fa q.fl q.fc, .int .i64 q.count, .slice q.ea q.el q.ec] ∧ TyAt W m v.type q ∧ v.name.size ≤ 9223372036854775807 := by
  obtain ⟨xs, n, rfl, rfl, hl, hlen, hfs⟩ := DataW.trod_struct Try.underlying73 h
  rw [vr_cells] at hl
  match xs, hlen, cs, hl with
  | [y0, y1], _, [u0, u1, u2, u3, u4, u5, u6], _ =>
    have g0 := hfs 0 _ rfl
    have g1 := hfs 1 _ rfl
    simp [tstr_cells, ty_cells] at g0 g1
    obtain ⟨nm, d0, _, hnm⟩ := DataW.trod_string Try.underlying9 g0
    obtain ⟨t, q, d1, hq⟩ := ty_open m _ _ _ (by omega) g1
    simp at d0 d1
    obtain ⟨rfl, rfl, rfl, rfl, rfl, rfl⟩ := d1
    subst d0
    exact ⟨⟨nm, t⟩, q, rfl, hq, by unfold maxLen at hnm; exact hnm⟩
theorem vars_open {r : Reach} {b0 : Nat} {v : Value} {d : DataW H} {p : List MemPlace} (hv : Value.okWide Try.prog W r b0 53 v) (h : DataW.Trod enc Try.prog W 0 (fun _ => true) true 53 v d p) :
    ∃ (n : Nat) (l : List (Vr n)) (a : Option Addr) (c : Nat), v = .slice a l.length c ∧ VrsAt W l a c := by
  obtain ⟨fuel, hf⟩ := h
  obtain ⟨a0, n0, c0, rfl⟩ := okWide_slice Try.underlying53 hv
  rcases open_sl Try.underlying53 hf with ⟨hcs, _⟩ | ⟨a, len, cap, n, hcs, hn, hlc, hcm, hel⟩
  · simp [Value.cells] at hcs
    obtain ⟨rfl, rfl, rfl⟩ := hcs
    exact ⟨0, [], none, 0, rfl, by simp, by simp, fun h => by simp at h⟩
  · simp [Value.cells] at hcs
    obtain ⟨rfl, rfl, rfl⟩ := hcs
    obtain ⟨l, hlen2, hp⟩ := list_of n0 (fun i (v : Vr n) => ∃ q : Raw, TyAt W n v.type q ∧ v.name.size ≤ 9223372036854775807 ∧ ∀ j (u : Value), ([.string v.name, .int .i64 q.kind, .int .i64 q.size, .bool q.packed, .slice q.fa q.fl q.fc, .int .i64 q.count, .slice q.ea q.el q.ec] : List Value)[j]? = some u → W.cell? (a.add (i * 7 + j)) = some u) (fun i hi => by
      obtain ⟨cs', y, hcells, htr⟩ := hel i hi
      rw [vr_cells] at hcells
      obtain ⟨hcl, hcv⟩ := cells_at hcells
      obtain ⟨v, q, d1, hq, hnm⟩ := vr_open n n _ _ (Nat.le_refl _) htr
      subst d1
      exact ⟨v, q, hq, hnm, fun j u hj => by rw [← Go.Deep.add_add]; exact hcv j u hj⟩)
    subst hlen2
    refine ⟨n, l, some a, c0, rfl, hlc, by unfold maxLen at hcm; exact hcm, fun hpos => ?_⟩
    have h0 : W.cell? a = some (.string (l[0]).name) := by
      obtain ⟨q, _, _, hc⟩ := hp 0 l[0] (List.getElem?_eq_getElem hpos)
      exact hc 0 _ rfl
    have ha := spot_of_cell h0
    refine ⟨a.block, a.off, by rw [← ha], by rw [ha] at h0; exact lt_of_cell h0, fun i v hi => ?_⟩
    obtain ⟨q, hq, hnm, hc⟩ := hp i v hi
    rw [ha] at hc
    simp only [add_plain] at hc
    exact ⟨q, hq, hnm, hc 0 _ rfl, hc 1 _ rfl, hc 2 _ rfl, hc 3 _ rfl, hc 4 _ rfl, hc 5 _ rfl, hc 6 _ rfl⟩
/-- one variable that came in. -/
theorem var_open {r : Reach} {b0 : Nat} {v : Value} {d : DataW H} {p : List MemPlace} (hv : Value.okWide Try.prog W r b0 73 v) (h : DataW.Trod enc Try.prog W 0 (fun _ => true) true 73 v d p) :
    ∃ (n : Nat) (x : Vr n) (q : Raw), v = .agg #[.string x.name, .int .i64 q.kind, .int .i64 q.size, .bool q.packed, .slice q.fa q.fl q.fc, .int .i64 q.count, .slice q.ea q.el q.ec] ∧ TyAt W n x.type q ∧ x.name.size ≤ 9223372036854775807 := by
  obtain ⟨cs, rfl, _⟩ := okWide_struct Try.underlying73 hv
  obtain ⟨fuel, hf⟩ := h
  obtain ⟨x, q, hcs, hT, hn⟩ := vr_open fuel fuel _ _ (Nat.le_refl _) hf
  refine ⟨fuel, x, q, ?_, hT, hn⟩
  congr 1
  apply Array.ext'
  simpa [Value.cells] using hcs
/-- a place that came in. -/
theorem place_open {r : Reach} {b0 : Nat} {v : Value} {d : DataW H} {p : List MemPlace} (hv : Value.okWide Try.prog W r b0 62 v) (h : DataW.Trod enc Try.prog W 0 (fun _ => true) true 62 v d p) :
    ∃ (nm : ByteArray) (l : List Pt) (a : Option Addr) (c : Nat), v = .agg #[.string nm, .slice a l.length c] ∧ nm.size ≤ 9223372036854775807 ∧ PtsAt W l a c := by
  obtain ⟨cs, rfl, _⟩ := okWide_struct Try.underlying62 hv
  obtain ⟨fuel, hf⟩ := h
  obtain ⟨xs, n, hn, _, hl, hlen, hfs⟩ := DataW.trod_struct Try.underlying62 hf
  rw [show Try.prog.cellsOf 62 = 2 by kernel_rfl] at hl
  match xs, hlen with
  | [y0, y1], _ =>
    have g0 := hfs 0 _ rfl
    have g1 := hfs 1 _ rfl
    obtain ⟨cl⟩ := cs
    simp only [Value.cells] at hl g0 g1
    match cl, hl with
    | [u0, u1], _ =>
      simp [tstr_cells, tps_cells] at g0 g1
      obtain ⟨nm, d0, _, hnm⟩ := DataW.trod_string Try.underlying9 g0
      simp at d0
      subst d0
      have hnm2 : nm.size ≤ 9223372036854775807 := by unfold maxLen at hnm; exact hnm
      rcases open_sl Try.underlying60 g1 with ⟨hcs, _⟩ | ⟨a, len, cap, n2, hcs, hn2, hlc, hcm, hel⟩
      · simp at hcs
        subst hcs
        exact ⟨nm, [], none, 0, rfl, hnm2, by simp, by simp, fun h => by simp at h⟩
      · simp at hcs
        subst hcs
        obtain ⟨l, hlen2, hp⟩ := list_of len (fun i (v : Pt) => v.field.size ≤ 9223372036854775807 ∧ W.cell? (a.add (i * 2)) = some (.string v.field) ∧ ∃ ia ic, W.cell? (a.add (i * 2 + 1)) = some (.slice ia v.idx ic) ∧ v.idx ≤ ic ∧ ic ≤ 9223372036854775807) (fun i hi => by
          obtain ⟨cs', y, hcells, htr⟩ := hel i hi
          rw [pt_cells] at hcells
          obtain ⟨hcl, hcv⟩ := cells_at hcells
          obtain ⟨zs, n3, _, _, hl3, hlen3, hfs3⟩ := DataW.trod_struct Try.underlying81 htr
          match zs, hlen3, cs', hcl with
          | [z0, z1], _, [w0, w1], _ =>
            have k0 := hfs3 0 _ rfl
            have k1 := hfs3 1 _ rfl
            simp [tstr_cells, tes_cells] at k0 k1
            obtain ⟨fn, e0, _, hfn⟩ := DataW.trod_string Try.underlying9 k0
            simp at e0
            subst e0
            have hfn2 : fn.size ≤ 9223372036854775807 := by unfold maxLen at hfn; exact hfn
            have h1 : W.cell? (a.add (i * 2)) = some (.string fn) := by have := hcv 0 _ rfl; rw [Go.Deep.add_add] at this; exact this
            have h2 : W.cell? (a.add (i * 2 + 1)) = some w1 := by have := hcv 1 _ rfl; rw [Go.Deep.add_add] at this; exact this
            rcases open_sl Try.underlying77 k1 with ⟨hcs, _⟩ | ⟨ia, il, ic, n4, hcs, _, hlc2, hcm2, _⟩
            · simp at hcs
              subst hcs
              exact ⟨⟨fn, 0⟩, hfn2, h1, none, 0, h2, by simp, by simp⟩
            · simp at hcs
              subst hcs
              exact ⟨⟨fn, il⟩, hfn2, h1, some ia, ic, h2, hlc2, by unfold maxLen at hcm2; exact hcm2⟩)
        subst hlen2
        refine ⟨nm, l, some a, cap, rfl, hnm2, hlc, by unfold maxLen at hcm; exact hcm, fun hpos => ?_⟩
        have h0 : W.cell? a = some (.string (l[0]).field) := by
          obtain ⟨_, hc, _⟩ := hp 0 l[0] (List.getElem?_eq_getElem hpos)
          exact hc
        have ha := spot_of_cell h0
        refine ⟨a.block, a.off, by rw [← ha], by rw [ha] at h0; exact lt_of_cell h0, fun i v hi => ?_⟩
        obtain ⟨k1, k2, ia, ic, k3, k4⟩ := hp i v hi
        rw [ha] at k2 k3
        simp only [add_plain] at k2 k3
        exact ⟨k1, k2, ia, ic, k3, k4⟩
end
end Go.Proofs.Ytlbkloamabomcaa
namespace Go.Proofs.Ytlbkloamabomcaa
open Go.RowKit Go.Sort
set_option linter.unusedVariables false
set_option linter.unusedSimpArgs false
structure Gl where
  name : ByteArray
  at_ : Int
  size : Int
def glC (g : Gl) : List Value := [.string g.name, .int .i64 g.at_, .int .i64 g.size]
theorem glC_len (l : List Gl) : (l.flatMap glC).length = l.length * 3 := by
  induction l with
  | nil => rfl
  | cons a r ih => simp [List.flatMap_cons, ih, glC]; omega
theorem glC_get : ∀ (l : List Gl) (i : Nat) (g : Gl), l[i]? = some g → ∀ j, j < 3 → (l.flatMap glC)[i * 3 + j]? = (glC g)[j]?
  | [], i, g, h, _, _ => by simp at h
  | x :: l, 0, g, h, j, hj => by
    have : x = g := by simpa using h
    subst this
    rw [List.flatMap_cons, List.getElem?_append_left (by show _ < 3; omega)]
    rw [Nat.zero_mul, Nat.zero_add]
  | x :: l, i + 1, g, h, j, hj => by
    have h2 : l[i]? = some g := by simpa using h
    rw [List.flatMap_cons, List.getElem?_append_right (by show 3 ≤ _; omega), show (i + 1) * 3 + j - (glC x).length = i * 3 + j by show _ - 3 = _; omega]
    exact glC_get l i g h2 j hj
def capF (a : Int) : Int := if 65536 < a then 65537 else a
section
variable {n : Nat}
def vF (v : Vr n) : Int × Int := formOf n v.type
/-- where a variable lies, from a place on. -/
def stW (a : Int) (g : Int × Int) : Int := capF (upF a g.2)
def atK (l : List (Vr n)) : Nat → Int
  | 0 => 0
  | k + 1 => match l[k]? with
    | some v => stW (atK l k) (vF v) + (vF v).1
    | none => atK l k
def glK (l : List (Vr n)) : Nat → List Gl
  | 0 => []
  | k + 1 => match l[k]? with
    | some v => glK l k ++ [Gl.mk v.name (65536 + stW (atK l k) (vF v)) (vF v).1]
    | none => glK l k
def errF : List (Vr n) → Int
  | [] => 0
  | v :: l => if checkF n v.type ≠ 0 then checkF n v.type else errF l
def worldE (l : List (Vr n)) : Int := if errF l ≠ 0 then errF l else if 65536 < atK l l.length then 9 else 0
theorem atK_succ (l : List (Vr n)) {k : Nat} {v : Vr n} (h : l[k]? = some v) : atK l (k + 1) = stW (atK l k) (vF v) + (vF v).1 := by
  show (match l[k]? with | some v => stW (atK l k) (vF v) + (vF v).1 | none => atK l k) = _
  rw [h]
theorem glK_succ (l : List (Vr n)) {k : Nat} {v : Vr n} (h : l[k]? = some v) : glK l (k + 1) = glK l k ++ [Gl.mk v.name (65536 + stW (atK l k) (vF v)) (vF v).1] := by
  show (match l[k]? with | some v => glK l k ++ [Gl.mk v.name (65536 + stW (atK l k) (vF v)) (vF v).1] | none => glK l k) = _
  rw [h]
theorem glK_len (l : List (Vr n)) : ∀ k, k ≤ l.length → (glK l k).length = k
  | 0, _ => rfl
  | k + 1, h => by
    have hk : l[k]? = some l[k] := List.getElem?_eq_getElem (by omega : k < l.length)
    rw [glK_succ l hk, List.length_append, glK_len l k (by omega)]
    rfl
theorem glK_get (l : List (Vr n)) : ∀ m, m ≤ l.length → ∀ k v, k < m → l[k]? = some v → (glK l m)[k]? = some (Gl.mk v.name (65536 + stW (atK l k) (vF v)) (vF v).1)
  | 0, _, k, v, h, _ => by omega
  | m + 1, hm, k, v, h, hv => by
    obtain ⟨u, hu⟩ : ∃ u, l[m]? = some u := ⟨l[m], List.getElem?_eq_getElem (by omega : m < l.length)⟩
    have hl := glK_len l m (by omega)
    rw [glK_succ l hu]
    rcases Nat.lt_or_ge k m with h1 | h1
    · rw [List.getElem?_append_left (by omega)]
      exact glK_get l m (by omega) k v h1 hv
    · obtain rfl : k = m := by omega
      rw [hu] at hv
      cases hv
      rw [List.getElem?_append_right (by omega), hl, Nat.sub_self]
      rfl
theorem errF_bad : ∀ (l : List (Vr n)) (k : Nat) (v : Vr n), (∀ j u, j < k → l[j]? = some u → checkF n u.type = 0) → l[k]? = some v → checkF n v.type ≠ 0 → errF l = checkF n v.type
  | [], k, v, _, h, _ => by simp at h
  | x :: l, 0, v, _, h, hb => by
    have : x = v := by simpa using h
    subst this
    unfold errF
    rw [if_pos hb]
  | x :: l, k + 1, v, ho, h, hb => by
    have h0 := ho 0 x (by omega) rfl
    unfold errF
    rw [if_neg (by simp [h0])]
    exact errF_bad l k v (fun j u hj hu => ho (j + 1) u (by omega) (by simpa using hu)) (by simpa using h) hb
theorem errF_ok : ∀ (l : List (Vr n)), (∀ (j : Nat) u, l[j]? = some u → checkF n u.type = 0) → errF l = 0
  | [], _ => rfl
  | x :: l, ho => by
    have h0 := ho 0 x rfl
    unfold errF
    rw [if_neg (by simp [h0])]
    exact errF_ok l (fun j u hu => ho (j + 1) u (by simpa using hu))
theorem errF_zero : ∀ (l : List (Vr n)), errF l = 0 → ∀ (j : Nat) u, l[j]? = some u → checkF n u.type = 0
  | [], _, j, u, h => by simp at h
  | x :: l, he, j, u, h => by
    unfold errF at he
    by_cases hb : checkF n x.type = 0
    · rw [if_neg (by simp [hb])] at he
      match j, h with
      | 0, h =>
        have : x = u := by simpa using h
        subst this
        exact hb
      | j + 1, h => exact errF_zero l he j u (by simpa using h)
    · rw [if_pos hb] at he
      exact absurd he hb
theorem vF_ok {v : Vr n} (h : checkF n v.type = 0) : 0 ≤ (vF v).1 ∧ (vF v).1 ≤ 65536 ∧ Pow (vF v).2 := by
  obtain ⟨_, hs, _, g, hg, hg2⟩ := checkF_zero h
  unfold vF
  rw [hg2]
  exact form_ok n v.type hs g hg
theorem up64k {a s : Int} (hs : Pow s) (h : a ≤ 65536) : upF a s ≤ 65536 := by
  refine upF_le hs.pos.1 h ?_
  rcases hs with rfl | rfl | rfl | rfl | rfl <;> rfl
theorem stW_bound {a : Int} {g : Int × Int} (hg : Pow g.2) (h0 : 0 ≤ a) : 0 ≤ stW a g ∧ stW a g ≤ 65537 ∧ (a ≤ 65536 → stW a g = upF a g.2 ∧ upF a g.2 ≤ 65536) ∧ (65536 < a → stW a g = 65537) := by
  have h1 := upF_ge (n := a) hg.pos.1
  have h2 : a ≤ 65536 → upF a g.2 ≤ 65536 := up64k hg
  unfold stW capF
  refine ⟨by split <;> omega, by split <;> omega, fun h => ⟨by rw [if_neg (by have := h2 h; omega)], h2 h⟩, fun h => by rw [if_pos (by omega)]⟩
theorem atK_bound (l : List (Vr n)) : ∀ k, (∀ j u, j < k → l[j]? = some u → checkF n u.type = 0) → 0 ≤ atK l k ∧ atK l k ≤ 200000
  | 0, _ => ⟨Int.le_refl _, by show (0 : Int) ≤ 200000; decide⟩
  | k + 1, h => by
    have ih := atK_bound l k (fun j u hj hu => h j u (by omega) hu)
    cases hv : l[k]? with
    | none =>
      show 0 ≤ (match l[k]? with | some v => _ | none => atK l k) ∧ _
      rw [hv]
      have e : atK l (k + 1) = atK l k := by
        show (match l[k]? with | some v => stW (atK l k) (vF v) + (vF v).1 | none => atK l k) = _
        rw [hv]
      rw [e]
      exact ih
    | some v =>
      have h1 := vF_ok (h k v (by omega) hv)
      have h2 := stW_bound (g := vF v) h1.2.2 ih.1
      rw [atK_succ l hv]
      omega
/-- once beyond, always beyond. -/
theorem atK_over (l : List (Vr n)) {k : Nat} (hk : 65536 < atK l k) : ∀ d, (∀ j u, j < k + d → l[j]? = some u → checkF n u.type = 0) → 65536 < atK l (k + d)
  | 0, _ => hk
  | d + 1, h => by
    have ih := atK_over l hk d (fun j u hj hu => h j u (by omega) hu)
    have hb := atK_bound l (k + d) (fun j u hj hu => h j u (by omega) hu)
    cases hv : l[k + d]? with
    | none =>
      have e : atK l (k + d + 1) = atK l (k + d) := by
        show (match l[k + d]? with | some v => stW (atK l (k + d)) (vF v) + (vF v).1 | none => atK l (k + d)) = _
        rw [hv]
      rw [← Nat.add_assoc, e]
      exact ih
    | some v =>
      have h1 := vF_ok (h (k + d) v (by omega) hv)
      have h2 := stW_bound (g := vF v) h1.2.2 hb.1
      rw [← Nat.add_assoc, atK_succ l hv]
      have := h2.2.2.2 ih
      omega
end
/-- what Map gives back. -/
def MapC (w : World) (E N : Int) (G : List Gl) (e : Ending) (w' : World) : Prop :=
  (∃ (ad : Option Addr) (m c : Nat), e = .returned (.tuple #[.slice ad m c, .int .i64 (if E = 0 then N else 0), .int .i64 E]) ∧ (E ≠ 0 → m = 0 ∧ ad = none ∧ c = 0) ∧ (E = 0 → m = G.length ∧ w'.ownsRow w.heap.size 58 3 (.slice ad m c) m (G.flatMap glC))) ∧ ∃ p : Regrown, w' = more w p
theorem gl_info : (Try.prog.info? 58).map (fun i => (i.zero, i.size, i.bytes)) = some (some (.agg #[.string .empty, .int .i64 0, .int .i64 0]), 3, 32) := by kernel_rfl
end Go.Proofs.Ytlbkloamabomcaa
namespace Go.Proofs.Ytlbkloamabomcaa
open Go.RowKit Go.Sort
set_option linter.unusedVariables false
set_option linter.unusedSimpArgs false
/-- the first that is so; -1: none. -/
def ixK {α : Type} (P : α → Bool) : List α → Int
  | [] => -1
  | x :: l => if P x = true then 0 else if ixK P l < 0 then -1 else ixK P l + 1
theorem ixK_ge {α : Type} (P : α → Bool) : ∀ l : List α, -1 ≤ ixK P l ∧ ixK P l < l.length
  | [] => by simp [ixK]
  | x :: l => by
    have := ixK_ge P l
    unfold ixK
    simp only [List.length_cons]
    split
    · omega
    · split <;> omega
theorem ixK_none {α : Type} (P : α → Bool) : ∀ l : List α, (∀ (j : Nat) e, j < l.length → l[j]? = some e → P e = false) → ixK P l = -1
  | [], _ => rfl
  | x :: l, h => by
    have h0 := h 0 x (by simp) rfl
    have := ixK_none P l (fun j e hj he => h (j + 1) e (by simpa using hj) (by simpa using he))
    unfold ixK
    simp [h0, this]
theorem ixK_some {α : Type} (P : α → Bool) : ∀ (l : List α) (k : Nat) (f : α), l[k]? = some f → P f = true → (∀ (j : Nat) e, j < k → l[j]? = some e → P e = false) → ixK P l = k
  | [], k, f, h, _, _ => by simp at h
  | x :: l, 0, f, h, hp, _ => by
    have : x = f := by simpa using h
    subst this
    unfold ixK
    simp [hp]
  | x :: l, k + 1, f, h, hp, hb => by
    have h0 := hb 0 x (by omega) rfl
    have := ixK_some P l k f (by simpa using h) hp (fun j e hj he => hb (j + 1) e (by omega) (by simpa using he))
    unfold ixK
    have hk : ¬ ((k : Int) < 0) := by omega
    simp [h0, this, hk]
theorem ixK_at {α : Type} (P : α → Bool) : ∀ (l : List α) (k : Nat), ixK P l = k → ∃ f, l[k]? = some f ∧ P f = true ∧ ∀ (j : Nat) e, j < k → l[j]? = some e → P e = false
  | [], k, h => by simp [ixK] at h
  | x :: l, k, h => by
    unfold ixK at h
    by_cases hx : P x = true
    · rw [if_pos hx] at h
      obtain rfl : k = 0 := by omega
      exact ⟨x, rfl, hx, fun j e hj => by omega⟩
    · rw [if_neg hx] at h
      split at h
      · omega
      · obtain ⟨m, rfl⟩ : ∃ m, k = m + 1 := ⟨k - 1, by omega⟩
        obtain ⟨f, h1, h2, h3⟩ := ixK_at P l m (by omega)
        refine ⟨f, by simpa using h1, h2, fun j e hj he => ?_⟩
        match j with
        | 0 =>
          have : x = e := by simpa using he
          subst this
          simpa using hx
        | j + 1 => exact h3 j e (by omega) (by simpa using he)
def nmE (a b : ByteArray) : Bool := a.toList == b.toList
/-- a row of fields lies so. -/
def FdsAt (w : World) {n : Nat} (l : List (FdF (Ty n))) (a : Option Addr) (c : Nat) : Prop := SlIn w a l.length c (fun b off => ∀ (i : Nat) f, l[i]? = some f → ∃ q : Raw, TyAt w n f.type q ∧ rng f.width ∧ f.name.size ≤ 9223372036854775807 ∧
  w.cell? ⟨b, off + i * 9, none⟩ = some (.string f.name) ∧ w.cell? ⟨b, off + i * 9 + 1, none⟩ = some (.int .i64 q.kind) ∧ w.cell? ⟨b, off + i * 9 + 2, none⟩ = some (.int .i64 q.size) ∧
  w.cell? ⟨b, off + i * 9 + 3, none⟩ = some (.bool q.packed) ∧ w.cell? ⟨b, off + i * 9 + 4, none⟩ = some (.slice q.fa q.fl q.fc) ∧ w.cell? ⟨b, off + i * 9 + 5, none⟩ = some (.int .i64 q.count) ∧
  w.cell? ⟨b, off + i * 9 + 6, none⟩ = some (.slice q.ea q.el q.ec) ∧ w.cell? ⟨b, off + i * 9 + 7, none⟩ = some (.bool f.isBits) ∧ w.cell? ⟨b, off + i * 9 + 8, none⟩ = some (.int .i64 f.width))
theorem FdsAt.below {w w' : World} (hb : Below w.heap.size w w') {n : Nat} {l : List (FdF (Ty n))} {a : Option Addr} {c : Nat} (h : FdsAt w l a c) : FdsAt w' l a c := by
  obtain ⟨h1, h2, h3⟩ := h
  refine ⟨h1, h2, fun h0 => ?_⟩
  obtain ⟨b, off, ha, hlt, hc⟩ := h3 h0
  have hcc : ∀ k, w'.cell? ⟨b, k, none⟩ = w.cell? ⟨b, k, none⟩ := fun k => hb.cell (p := ⟨b, k, none⟩) hlt
  refine ⟨b, off, ha, Nat.lt_of_lt_of_le hlt hb.size, fun i f hi => ?_⟩
  obtain ⟨q, hq, g1, g2, c0, c1, c2, c3, c4, c5, c6, c7, c8⟩ := hc i f hi
  exact ⟨q, hq.below hb, g1, g2, (hcc _).trans c0, (hcc _).trans c1, (hcc _).trans c2, (hcc _).trans c3, (hcc _).trans c4, (hcc _).trans c5, (hcc _).trans c6, (hcc _).trans c7, (hcc _).trans c8⟩
set_option maxHeartbeats 1000000 in
theorem cl_find (nm : ByteArray) (qk qs : Int) (qp : Bool) (qfa : Option Addr) (qfl qfc : Nat) (qc : Int) (qea : Option Addr) (qel qec : Nat) (X : Nat) (nm0 : ByteArray) (w : World) (hX : w.cell? ⟨X, 0, none⟩ = some (.string nm0)) :
    Calls Try.prog 38 #[.agg #[.string nm, .int .i64 qk, .int .i64 qs, .bool qp, .slice qfa qfl qfc, .int .i64 qc, .slice qea qel qec], .pointer (some ⟨X, 0, none⟩)] w (Gives w (.bool (nmE nm nm0))) := by
  have hl := lt_of_cell hX
  go_enter Try.func38, Try.ntmps38
  go_wp2_with fail
  go_ret
  exact Gives.mk rfl (by repeat (first | exact Below.refl _ _ | refine below_mo ?_ _ | refine below_al ?_ _))
set_option maxHeartbeats 1000000 in
theorem ix_find {n : Nat} (l : List (Vr n)) (a : Option Addr) (c : Nat) (w : World) (hV : VrsAt w l a c) (X : Nat) (nm0 : ByteArray) (hX : w.cell? ⟨X, 0, none⟩ = some (.string nm0)) :
    Calls Try.prog 37 #[.slice a l.length c, .func (.func 38) #[] #[.pointer (some ⟨X, 0, none⟩)]] w (Gives w (.int .i64 (ixK (fun v => nmE v.name nm0) l))) := by
  have HE := Lib.hid hV.2.2
  have hm1 := hV.1
  have hm2 := hV.2.1
  have hlX := lt_of_cell hX
  clear hV
  have HL : Hid (∃ N, N = l.length) := Lib.hid ⟨_, rfl⟩
  obtain ⟨N, hN⟩ := HL.out
  clear HL
  rw [← hN] at HE hm1 ⊢
  have HN := Lib.hid hN
  clear hN
  have CL := Lib.hid (fun (W : World) (hW : Below w.heap.size w W) => (hW.cell (p := ⟨X, 0, none⟩) hlX).trans hX)
  go_enter Try.func37, Try.ntmps37
  go_wp2_with fail
  go_loopw [8] (fun i wr => ∃ k : Nat, k ≤ N ∧ i = .int .i64 k ∧ (∀ (j : Nat) e, j < k → l[j]? = some e → nmE e.name nm0 = false) ∧ ∃ p : Regrown, wr = more w p) (fun i _ => N - (intOf i).toNat)
  case atStart => exact ⟨0, by omega, rfl, fun j e hj => by omega, more_of_below (by repeat (first | exact Below.refl _ _ | refine below_mo ?_ _ | refine below_al ?_ _))⟩
  case round =>
    obtain ⟨k, hk, rfl, hl, p, rfl⟩ := hrel
    have HP := Lib.hid hl
    clear hl
    by_cases hlt : (k : Int) < N
    · obtain ⟨b, off, rfl, hb, hc⟩ := HE.out (by omega)
      obtain ⟨f, hfk⟩ := get_some l k (by have := HN.out; omega)
      obtain ⟨q, hq, hnm, c0, c1, c2, c3, c4, c5, c6⟩ := hc k f hfk
      have HF := Lib.hid hfk
      clear hq hc hfk
      obtain ⟨qk, qs, qp, qfa, qfl, qfc, qc, qea, qel, qec⟩ := q
      simp only at c1 c2 c3 c4 c5 c6
      cases hv : nmE f.name nm0
      all_goals
        have HV := Lib.hid hv
        clear hv
        go_wp2_with (go_at_call 38; refine (cl_find f.name qk qs qp qfa qfl qfc qc qea qel qec X nm0 _ (CL.out _ (by repeat (first | exact Below.refl _ _ | refine below_mo ?_ _ | refine below_al ?_ _)))).mono ?_; rw [HV.out]; rintro e w1 ⟨rfl, p1, rfl⟩)
      · go_roundw
        case rel => exact ⟨k + 1, by omega, by go_num, fun j e hj he => by
          rcases Nat.lt_or_ge j k with hjk | hjk
          · exact HP.out j e hjk he
          · obtain rfl : j = k := by omega
            have := HF.out
            rw [he] at this
            cases this
            exact HV.out, more_of_below (by repeat (first | exact Below.refl _ _ | refine below_mo ?_ _ | refine below_al ?_ _))⟩
        case measure => simp [intOf]; omega
      · go_ret
        exact Gives.mk (by rw [ixK_some (fun v => nmE v.name nm0) l k f HF.out HV.out HP.out]; rfl) (by repeat (first | exact Below.refl _ _ | refine below_mo ?_ _ | refine below_al ?_ _))
    · obtain rfl : k = N := by omega
      go_wp2_with fail
      go_ret
      exact Gives.mk (by rw [ixK_none (fun v => nmE v.name nm0) l (by rw [← HN.out]; exact HP.out)]; rfl) (by repeat (first | exact Below.refl _ _ | refine below_mo ?_ _ | refine below_al ?_ _))
set_option maxHeartbeats 1000000 in
theorem cl_place (nm : ByteArray) (qk qs : Int) (qp : Bool) (qfa : Option Addr) (qfl qfc : Nat) (qc : Int) (qea : Option Addr) (qel qec : Nat) (X : Nat) (nm0 : ByteArray) (w : World) (hX : w.cell? ⟨X, 0, none⟩ = some (.string nm0)) :
    Calls Try.prog 56 #[.agg #[.string nm, .int .i64 qk, .int .i64 qs, .bool qp, .slice qfa qfl qfc, .int .i64 qc, .slice qea qel qec], .pointer (some ⟨X, 0, none⟩)] w (Gives w (.bool (nmE nm nm0))) := by
  have hl := lt_of_cell hX
  go_enter Try.func56, Try.ntmps56
  go_wp2_with fail
  go_ret
  exact Gives.mk rfl (by repeat (first | exact Below.refl _ _ | refine below_mo ?_ _ | refine below_al ?_ _))
set_option maxHeartbeats 1000000 in
theorem ix_place {n : Nat} (l : List (Vr n)) (a : Option Addr) (c : Nat) (w : World) (hV : VrsAt w l a c) (X : Nat) (nm0 : ByteArray) (hX : w.cell? ⟨X, 0, none⟩ = some (.string nm0)) :
    Calls Try.prog 37 #[.slice a l.length c, .func (.func 56) #[] #[.pointer (some ⟨X, 0, none⟩)]] w (Gives w (.int .i64 (ixK (fun v => nmE v.name nm0) l))) := by
  have HE := Lib.hid hV.2.2
  have hm1 := hV.1
  have hm2 := hV.2.1
  have hlX := lt_of_cell hX
  clear hV
  have HL : Hid (∃ N, N = l.length) := Lib.hid ⟨_, rfl⟩
  obtain ⟨N, hN⟩ := HL.out
  clear HL
  rw [← hN] at HE hm1 ⊢
  have HN := Lib.hid hN
  clear hN
  have CL := Lib.hid (fun (W : World) (hW : Below w.heap.size w W) => (hW.cell (p := ⟨X, 0, none⟩) hlX).trans hX)
  go_enter Try.func37, Try.ntmps37
  go_wp2_with fail
  go_loopw [8] (fun i wr => ∃ k : Nat, k ≤ N ∧ i = .int .i64 k ∧ (∀ (j : Nat) e, j < k → l[j]? = some e → nmE e.name nm0 = false) ∧ ∃ p : Regrown, wr = more w p) (fun i _ => N - (intOf i).toNat)
  case atStart => exact ⟨0, by omega, rfl, fun j e hj => by omega, more_of_below (by repeat (first | exact Below.refl _ _ | refine below_mo ?_ _ | refine below_al ?_ _))⟩
  case round =>
    obtain ⟨k, hk, rfl, hl, p, rfl⟩ := hrel
    have HP := Lib.hid hl
    clear hl
    by_cases hlt : (k : Int) < N
    · obtain ⟨b, off, rfl, hb, hc⟩ := HE.out (by omega)
      obtain ⟨f, hfk⟩ := get_some l k (by have := HN.out; omega)
      obtain ⟨q, hq, hnm, c0, c1, c2, c3, c4, c5, c6⟩ := hc k f hfk
      have HF := Lib.hid hfk
      clear hq hc hfk
      obtain ⟨qk, qs, qp, qfa, qfl, qfc, qc, qea, qel, qec⟩ := q
      simp only at c1 c2 c3 c4 c5 c6
      cases hv : nmE f.name nm0
      all_goals
        have HV := Lib.hid hv
        clear hv
        go_wp2_with (go_at_call 56; refine (cl_place f.name qk qs qp qfa qfl qfc qc qea qel qec X nm0 _ (CL.out _ (by repeat (first | exact Below.refl _ _ | refine below_mo ?_ _ | refine below_al ?_ _)))).mono ?_; rw [HV.out]; rintro e w1 ⟨rfl, p1, rfl⟩)
      · go_roundw
        case rel => exact ⟨k + 1, by omega, by go_num, fun j e hj he => by
          rcases Nat.lt_or_ge j k with hjk | hjk
          · exact HP.out j e hjk he
          · obtain rfl : j = k := by omega
            have := HF.out
            rw [he] at this
            cases this
            exact HV.out, more_of_below (by repeat (first | exact Below.refl _ _ | refine below_mo ?_ _ | refine below_al ?_ _))⟩
        case measure => simp [intOf]; omega
      · go_ret
        exact Gives.mk (by rw [ixK_some (fun v => nmE v.name nm0) l k f HF.out HV.out HP.out]; rfl) (by repeat (first | exact Below.refl _ _ | refine below_mo ?_ _ | refine below_al ?_ _))
    · obtain rfl : k = N := by omega
      go_wp2_with fail
      go_ret
      exact Gives.mk (by rw [ixK_none (fun v => nmE v.name nm0) l (by rw [← HN.out]; exact HP.out)]; rfl) (by repeat (first | exact Below.refl _ _ | refine below_mo ?_ _ | refine below_al ?_ _))
set_option maxHeartbeats 1000000 in
theorem cl_step (nm : ByteArray) (qk qs : Int) (qp : Bool) (qfa : Option Addr) (qfl qfc : Nat) (qc : Int) (qea : Option Addr) (qel qec : Nat) (bt : Bool) (wd : Int) (X : Nat) (nm0 : ByteArray) (w : World) (hX : w.cell? ⟨X, 0, none⟩ = some (.string nm0)) :
    Calls Try.prog 59 #[.agg #[.string nm, .int .i64 qk, .int .i64 qs, .bool qp, .slice qfa qfl qfc, .int .i64 qc, .slice qea qel qec, .bool bt, .int .i64 wd], .pointer (some ⟨X, 0, none⟩)] w (Gives w (.bool (nmE nm nm0))) := by
  have hl := lt_of_cell hX
  go_enter Try.func59, Try.ntmps59
  go_wp2_with fail
  go_ret
  exact Gives.mk rfl (by repeat (first | exact Below.refl _ _ | refine below_mo ?_ _ | refine below_al ?_ _))
set_option maxHeartbeats 1000000 in
theorem ix_step {n : Nat} (l : List (FdF (Ty n))) (a : Option Addr) (c : Nat) (w : World) (hV : FdsAt w l a c) (X : Nat) (nm0 : ByteArray) (hX : w.cell? ⟨X, 0, none⟩ = some (.string nm0)) :
    Calls Try.prog 58 #[.slice a l.length c, .func (.func 59) #[] #[.pointer (some ⟨X, 0, none⟩)]] w (Gives w (.int .i64 (ixK (fun v => nmE v.name nm0) l))) := by
  have HE := Lib.hid hV.2.2
  have hm1 := hV.1
  have hm2 := hV.2.1
  have hlX := lt_of_cell hX
  clear hV
  have HL : Hid (∃ N, N = l.length) := Lib.hid ⟨_, rfl⟩
  obtain ⟨N, hN⟩ := HL.out
  clear HL
  rw [← hN] at HE hm1 ⊢
  have HN := Lib.hid hN
  clear hN
  have CL := Lib.hid (fun (W : World) (hW : Below w.heap.size w W) => (hW.cell (p := ⟨X, 0, none⟩) hlX).trans hX)
  go_enter Try.func58, Try.ntmps58
  go_wp2_with fail
  go_loopw [8] (fun i wr => ∃ k : Nat, k ≤ N ∧ i = .int .i64 k ∧ (∀ (j : Nat) e, j < k → l[j]? = some e → nmE e.name nm0 = false) ∧ ∃ p : Regrown, wr = more w p) (fun i _ => N - (intOf i).toNat)
  case atStart => exact ⟨0, by omega, rfl, fun j e hj => by omega, more_of_below (by repeat (first | exact Below.refl _ _ | refine below_mo ?_ _ | refine below_al ?_ _))⟩
  case round =>
    obtain ⟨k, hk, rfl, hl, p, rfl⟩ := hrel
    have HP := Lib.hid hl
    clear hl
    by_cases hlt : (k : Int) < N
    · obtain ⟨b, off, rfl, hb, hc⟩ := HE.out (by omega)
      obtain ⟨f, hfk⟩ := get_some l k (by have := HN.out; omega)
      obtain ⟨q, hq, hrg, hnm, c0, c1, c2, c3, c4, c5, c6, c7, c8⟩ := hc k f hfk
      have HF := Lib.hid hfk
      clear hq hc hfk
      obtain ⟨qk, qs, qp, qfa, qfl, qfc, qc, qea, qel, qec⟩ := q
      simp only at c1 c2 c3 c4 c5 c6
      cases hv : nmE f.name nm0
      all_goals
        have HV := Lib.hid hv
        clear hv
        go_wp2_with (go_at_call 59; refine (cl_step f.name qk qs qp qfa qfl qfc qc qea qel qec f.isBits f.width X nm0 _ (CL.out _ (by repeat (first | exact Below.refl _ _ | refine below_mo ?_ _ | refine below_al ?_ _)))).mono ?_; rw [HV.out]; rintro e w1 ⟨rfl, p1, rfl⟩)
      · go_roundw
        case rel => exact ⟨k + 1, by omega, by go_num, fun j e hj he => by
          rcases Nat.lt_or_ge j k with hjk | hjk
          · exact HP.out j e hjk he
          · obtain rfl : j = k := by omega
            have := HF.out
            rw [he] at this
            cases this
            exact HV.out, more_of_below (by repeat (first | exact Below.refl _ _ | refine below_mo ?_ _ | refine below_al ?_ _))⟩
        case measure => simp [intOf]; omega
      · go_ret
        exact Gives.mk (by rw [ixK_some (fun v => nmE v.name nm0) l k f HF.out HV.out HP.out]; rfl) (by repeat (first | exact Below.refl _ _ | refine below_mo ?_ _ | refine below_al ?_ _))
    · obtain rfl : k = N := by omega
      go_wp2_with fail
      go_ret
      exact Gives.mk (by rw [ixK_none (fun v => nmE v.name nm0) l (by rw [← HN.out]; exact HP.out)]; rfl) (by repeat (first | exact Below.refl _ _ | refine below_mo ?_ _ | refine below_al ?_ _))
set_option maxHeartbeats 1000000 in
theorem cl_part (nm : ByteArray) (qk qs : Int) (qp : Bool) (qfa : Option Addr) (qfl qfc : Nat) (qc : Int) (qea : Option Addr) (qel qec : Nat) (bt : Bool) (wd : Int) (X : Nat) (nm0 : ByteArray) (w : World) (hX : w.cell? ⟨X, 0, none⟩ = some (.string nm0)) :
    Calls Try.prog 72 #[.agg #[.string nm, .int .i64 qk, .int .i64 qs, .bool qp, .slice qfa qfl qfc, .int .i64 qc, .slice qea qel qec, .bool bt, .int .i64 wd], .pointer (some ⟨X, 0, none⟩)] w (Gives w (.bool (nmE nm nm0))) := by
  have hl := lt_of_cell hX
  go_enter Try.func72, Try.ntmps72
  go_wp2_with fail
  go_ret
  exact Gives.mk rfl (by repeat (first | exact Below.refl _ _ | refine below_mo ?_ _ | refine below_al ?_ _))
set_option maxHeartbeats 1000000 in
theorem ix_part {n : Nat} (l : List (FdF (Ty n))) (a : Option Addr) (c : Nat) (w : World) (hV : FdsAt w l a c) (X : Nat) (nm0 : ByteArray) (hX : w.cell? ⟨X, 0, none⟩ = some (.string nm0)) :
    Calls Try.prog 58 #[.slice a l.length c, .func (.func 72) #[] #[.pointer (some ⟨X, 0, none⟩)]] w (Gives w (.int .i64 (ixK (fun v => nmE v.name nm0) l))) := by
  have HE := Lib.hid hV.2.2
  have hm1 := hV.1
  have hm2 := hV.2.1
  have hlX := lt_of_cell hX
  clear hV
  have HL : Hid (∃ N, N = l.length) := Lib.hid ⟨_, rfl⟩
  obtain ⟨N, hN⟩ := HL.out
  clear HL
  rw [← hN] at HE hm1 ⊢
  have HN := Lib.hid hN
  clear hN
  have CL := Lib.hid (fun (W : World) (hW : Below w.heap.size w W) => (hW.cell (p := ⟨X, 0, none⟩) hlX).trans hX)
  go_enter Try.func58, Try.ntmps58
  go_wp2_with fail
  go_loopw [8] (fun i wr => ∃ k : Nat, k ≤ N ∧ i = .int .i64 k ∧ (∀ (j : Nat) e, j < k → l[j]? = some e → nmE e.name nm0 = false) ∧ ∃ p : Regrown, wr = more w p) (fun i _ => N - (intOf i).toNat)
  case atStart => exact ⟨0, by omega, rfl, fun j e hj => by omega, more_of_below (by repeat (first | exact Below.refl _ _ | refine below_mo ?_ _ | refine below_al ?_ _))⟩
  case round =>
    obtain ⟨k, hk, rfl, hl, p, rfl⟩ := hrel
    have HP := Lib.hid hl
    clear hl
    by_cases hlt : (k : Int) < N
    · obtain ⟨b, off, rfl, hb, hc⟩ := HE.out (by omega)
      obtain ⟨f, hfk⟩ := get_some l k (by have := HN.out; omega)
      obtain ⟨q, hq, hrg, hnm, c0, c1, c2, c3, c4, c5, c6, c7, c8⟩ := hc k f hfk
      have HF := Lib.hid hfk
      clear hq hc hfk
      obtain ⟨qk, qs, qp, qfa, qfl, qfc, qc, qea, qel, qec⟩ := q
      simp only at c1 c2 c3 c4 c5 c6
      cases hv : nmE f.name nm0
      all_goals
        have HV := Lib.hid hv
        clear hv
        go_wp2_with (go_at_call 72; refine (cl_part f.name qk qs qp qfa qfl qfc qc qea qel qec f.isBits f.width X nm0 _ (CL.out _ (by repeat (first | exact Below.refl _ _ | refine below_mo ?_ _ | refine below_al ?_ _)))).mono ?_; rw [HV.out]; rintro e w1 ⟨rfl, p1, rfl⟩)
      · go_roundw
        case rel => exact ⟨k + 1, by omega, by go_num, fun j e hj he => by
          rcases Nat.lt_or_ge j k with hjk | hjk
          · exact HP.out j e hjk he
          · obtain rfl : j = k := by omega
            have := HF.out
            rw [he] at this
            cases this
            exact HV.out, more_of_below (by repeat (first | exact Below.refl _ _ | refine below_mo ?_ _ | refine below_al ?_ _))⟩
        case measure => simp [intOf]; omega
      · go_ret
        exact Gives.mk (by rw [ixK_some (fun v => nmE v.name nm0) l k f HF.out HV.out HP.out]; rfl) (by repeat (first | exact Below.refl _ _ | refine below_mo ?_ _ | refine below_al ?_ _))
    · obtain rfl : k = N := by omega
      go_wp2_with fail
      go_ret
      exact Gives.mk (by rw [ixK_none (fun v => nmE v.name nm0) l (by rw [← HN.out]; exact HP.out)]; rfl) (by repeat (first | exact Below.refl _ _ | refine below_mo ?_ _ | refine below_al ?_ _))
end Go.Proofs.Ytlbkloamabomcaa
