/- The locations of a type that lies at a place, as they are found. On plain data. No condition. Walks: the locations of a number, of an array: the program's find, if what it finds in a type within is known. Conditions: the type lies in memory, is sound and fits. What the walk over a group's fields holds in its local cells; the spots within the type; the closure that notes a run of bitfields. Conditions: the closure's cells lie so. The whole of what the walk over a group's fields holds at the head of its loop, and what each step makes of it. No condition. Walk: the locations of an array: the program's find, if what it finds in the element is known. Conditions: the type lies in memory, is sound and fits. Walk: the locations of a group's fields: the program's fields, if what find finds in a type within is known. Conditions: the type lies in memory, is sound and fits. -/
import Derived.Test.YtlbkloamabomcaaLayRefMath
import Derived.Test.YtlbkloamabomcaaLayBookT
import Derived.Test.YtlbkloamabomcaaLayOf
import Derived.Test.YtlbkloamabomcaaQuietTail
namespace Go.Proofs.Ytlbkloamabomcaa
open Go.RowKit
set_option linter.unusedVariables false
set_option linter.unusedSimpArgs false
section
variable {α : Type}
def spanOf (at_ : Int) (s : Sp) : Int × Int := (s.at_ + at_, s.len)
/-- a field more: what is found, and the bitfields that stand side by side. -/
def stepM (uni : Bool) (f : FdF α) (s : Int × Int) (M : List (Int × Int)) (st : List (Int × Int) × (Int × Int)) : List (Int × Int) × (Int × Int) :=
  let brk : Bool := !f.isBits || f.width == 0 || uni
  let F1 := if brk = true ∧ 0 < st.2.2 then st.1 ++ [st.2] else st.1
  let run := if brk = true then (0, 0) else st.2
  if f.isBits = false then (F1 ++ M, run)
  else if 0 < run.2 then (F1, (run.1, s.1 + s.2 - run.1))
  else if 0 < f.width then (F1, s)
  else (F1, run)
def endM (st : List (Int × Int) × (Int × Int)) : List (Int × Int) := if 0 < st.2.2 then st.1 ++ [st.2] else st.1
def grpK (M : α → Int → List (Int × Int)) (t : TyF α) (sp : List Sp) (at_ : Int) : Nat → List (Int × Int) × (Int × Int)
  | 0 => ([], (0, 0))
  | k + 1 => match t.fields[k]?, sp[k]? with
    | some f, some s => stepM (t.kind == 4) f (spanOf at_ s) (M f.type (s.at_ + at_)) (grpK M t sp at_ k)
    | _, _ => grpK M t sp at_ k
theorem grpK_succ (M : α → Int → List (Int × Int)) (t : TyF α) (sp : List Sp) (at_ : Int) {k : Nat} {f : FdF α} {s : Sp} (hf : t.fields[k]? = some f) (hs : sp[k]? = some s) :
    grpK M t sp at_ (k + 1) = stepM (t.kind == 4) f (spanOf at_ s) (M f.type (s.at_ + at_)) (grpK M t sp at_ k) := by
  show (match t.fields[k]?, sp[k]? with
    | some f, some s => stepM (t.kind == 4) f (spanOf at_ s) (M f.type (s.at_ + at_)) (grpK M t sp at_ k)
    | _, _ => grpK M t sp at_ k) = _
  rw [hf, hs]
/-- the elements of an array, one behind the other. -/
def arrM (M : Int → List (Int × Int)) (at_ sz : Int) : Nat → List (Int × Int)
  | 0 => []
  | k + 1 => arrM M at_ sz k ++ M (at_ + (k : Int) * sz)
def marksOne (G : α → Option (Int × Int)) (Z K : α → Int) (M : α → Int → List (Int × Int)) (t : TyF α) (at_ : Int) : List (Int × Int) :=
  if t.kind = 1 ∨ t.kind = 2 then [(at_, t.size)]
  else if t.kind = 5 then (match t.elem.head? with
    | none => []
    | some e => match G e with
      | none => []
      | some g => if 0 < g.1 then arrM (M e) at_ g.1 t.count.toNat else [])
  else endM (grpK M t (spK G Z K t t.fields.length) at_ t.fields.length)
end
def marksF : (n : Nat) → Ty n → Int → List (Int × Int)
  | 0, t, _ => nomatch t
  | n + 1, (t : TyF (Ty n)), a => marksOne (formF n) (tsize n) (tkind n) (marksF n) t a
theorem marksF_succ (n : Nat) (t : TyF (Ty n)) (a : Int) : marksF (n + 1) t a = marksOne (formF n) (tsize n) (tkind n) (marksF n) t a := rfl
/-- sizes only grow. -/
theorem plK_size {α : Type} (G : α → Option (Int × Int)) (Z : α → Int) (t : TyF α) (k : Nat) {p : Pl} (hp : plK G Z t k = some p) : ∀ d p', plK G Z t (k + d) = some p' → p.size ≤ p'.size
  | 0, p', h => by
    rw [Nat.add_zero, hp] at h
    cases h
    exact Int.le_refl _
  | d + 1, p', h => by
    obtain ⟨q, f, g, hq, hf, hg, rfl⟩ := plK_inv G Z t (k + d) h
    have h1 := plK_size G Z t k hp d q hq
    unfold stepF
    simp only
    omega
/-- a field lies within what is reckoned behind it. -/
theorem field_in {α : Type} {f : FdF α} {ts : Int} {g : Int × Int} (pk uni : Bool) (p : Pl) : begF pk uni f ts g p + numF f g ≤ 8 * (stepF pk uni f ts g p).size := by
  unfold stepF
  simp only
  have h1 := upF_ge (n := begF pk uni f ts g p + numF f g) (s := 8) (by omega)
  have h2 := upF_mod (n := begF pk uni f ts g p + numF f g) (s := 8)
  omega
/-- the k-th spot. -/
theorem spK_get {α : Type} (G : α → Option (Int × Int)) (Z K : α → Int) (t : TyF α) : ∀ m q, plK G Z t m = some q → ∀ k, k < m → ∃ p f g, plK G Z t k = some p ∧ t.fields[k]? = some f ∧ G f.type = some g ∧ plK G Z t (k + 1) = some (stepF t.packed (t.kind == 4) f (Z f.type) g p) ∧ (spK G Z K t m)[k]? = some (spotF t.packed (t.kind == 4) f (Z f.type) (K f.type) g p)
  | 0, _, _, k, hk => by omega
  | m + 1, q', h, k, hk => by
    obtain ⟨p, f, g, hp, hf, hg, rfl⟩ := plK_inv G Z t m h
    have hl := spK_len G Z K t m p hp
    rw [spK_succ G Z K t m hp hf hg]
    rcases Nat.lt_or_ge k m with h1 | h1
    · obtain ⟨p2, f2, g2, e1, e2, e3, e4, e5⟩ := spK_get G Z K t m p hp k h1
      exact ⟨p2, f2, g2, e1, e2, e3, e4, by rw [List.getElem?_append_left (by omega)]; exact e5⟩
    · obtain rfl : k = m := by omega
      exact ⟨p, f, g, hp, hf, hg, h, by rw [List.getElem?_append_right (by omega), hl, Nat.sub_self]; rfl⟩
end Go.Proofs.Ytlbkloamabomcaa
namespace Go.Proofs.Ytlbkloamabomcaa
open Go.RowKit Go.Sort
set_option linter.unusedVariables false
set_option linter.unusedSimpArgs false
def FindOk (n : Nat) (t : Ty n) : Prop := ∀ (r : Raw) (wT w : World) (P : Nat) (v : Value) (L : List (Int × Int)) (full : Bool) (F : List (Int × Int)) (at_ : Int) (g : Int × Int),
  soundF n t = 0 → formF n t = some g → 0 ≤ at_ → at_ + g.1 ≤ 1000000 → TyAt wT n t r → Below wT.heap.size wT w → wT.heap.size ≤ P → Bk w P wT.heap.size v L full → BkR F L full →
  Calls Try.prog 33 #[.pointer (some ⟨P, 0, none⟩), r.val, .int .i64 at_] w (BkPost w P wT.heap.size v (BkR (F ++ marksF n t at_)))
def FieldsOk (n : Nat) (t : Ty n) : Prop := ∀ (r : Raw) (wT w : World) (P : Nat) (v : Value) (L : List (Int × Int)) (full : Bool) (F : List (Int × Int)) (at_ : Int) (g : Int × Int),
  soundF n t = 0 → formF n t = some g → 0 ≤ at_ → at_ + g.1 ≤ 1000000 → TyAt wT n t r → Below wT.heap.size wT w → wT.heap.size ≤ P → Bk w P wT.heap.size v L full → BkR F L full →
  Calls Try.prog 50 #[.pointer (some ⟨P, 0, none⟩), r.val, .int .i64 at_] w (BkPost w P wT.heap.size v (BkR (F ++ marksF n t at_)))
theorem BkR.grow {F F' L : List (Int × Int)} (h : BkR F L true) (hs : ∀ x, x ∈ F → x ∈ F') : BkR F' L true := ⟨h.1.more hs, h.2⟩
set_option maxRecDepth 100000 in
set_option maxHeartbeats 3200000 in
theorem find_num (n : Nat) (t : TyF (Ty n)) (hk : t.kind = 1 ∨ t.kind = 2) : FindOk (n + 1) t := by
  intro r wT w P v L full F at_ g hs hg ha0 ha1 hT hb hBP hbk hR
  have hM : marksF (n + 1) t at_ = [(at_, t.size)] := by rw [marksF_succ]; unfold marksOne; rw [if_pos hk]
  rw [hM]
  have AD := Lib.hid (fun W (hW : Bk W P wT.heap.size v L full) => add_any W hW hR hBP (at_, t.size))
  obtain ⟨e1, e2, e3, e4, e5, e6, e7, e8, e9, hf, he⟩ := hT
  obtain ⟨rk, rs, rp, fa, fl, fc, rc, ea, el, ec⟩ := r
  simp only at e1 e2
  rw [← e1] at hk
  rw [← e2] at AD ⊢
  have HB := Lib.hid hbk
  have hlt := hbk.lt
  clear hf he e4 e6 e5 e7 e8 e9 e1 e2 e3 hM hbk hR
  unfold Raw.val
  simp only at AD ⊢
  rcases hk with rfl | rfl
  all_goals
    go_enter Try.func33, Try.ntmps33
    go_wp2_with (go_at_call 49; refine (AD.out _ (HB.out.next (below_al (Below.refl _ _) _))).mono ?_; rintro e w1 ⟨rfl, v', L', f', q1, q2, q3, q4⟩)
    go_returns
    exact ⟨rfl, v', L', f', q1, q2, (Fr.of_below (below_al (Below.refl _ _) _) _ _).trans (Later.refl _ _) q3, Later.trans (by simp) (Later.refl _ _) q4⟩
set_option maxRecDepth 100000 in
set_option maxHeartbeats 3200000 in
theorem find_group (n : Nat) (t : TyF (Ty n)) (hk : t.kind = 3 ∨ t.kind = 4) (FI : FieldsOk (n + 1) t) : FindOk (n + 1) t := by
  intro r wT w P v L full F at_ g hs hg ha0 ha1 hT hb hBP hbk hR
  have FD := Lib.hid (fun W (hW : Below wT.heap.size wT W) (hW2 : Bk W P wT.heap.size v L full) => FI r wT W P v L full F at_ g hs hg ha0 ha1 hT hW hBP hW2 hR)
  obtain ⟨e1, e2, e3, e4, e5, e6, e7, e8, e9, hf, he⟩ := hT
  obtain ⟨rk, rs, rp, fa, fl, fc, rc, ea, el, ec⟩ := r
  simp only at e1
  rw [← e1] at hk
  have HB := Lib.hid hbk
  have HBW := Lib.hid hb
  have hlt := hbk.lt
  clear hf he e4 e6 e5 e7 e8 e9 e1 e2 e3 hbk hR hb
  unfold Raw.val at FD ⊢
  simp only at FD ⊢
  generalize marksF (n + 1) t at_ = M at *
  rcases hk with rfl | rfl
  all_goals
    go_enter Try.func33, Try.ntmps33
    go_wp2_with (go_at_call 50; refine (FD.out _ (below_al HBW.out _) (HB.out.next (below_al (Below.refl _ _) _))).mono ?_; rintro e w1 ⟨rfl, v', L', f', q1, q2, q3, q4⟩)
    go_returns
    exact ⟨rfl, v', L', f', q1, q2, (Fr.of_below (below_al (Below.refl _ _) _) _ _).trans (Later.refl _ _) q3, Later.trans (by simp) (Later.refl _ _) q4⟩
end Go.Proofs.Ytlbkloamabomcaa
namespace Go.Proofs.Ytlbkloamabomcaa
open Go.RowKit Go.Sort
set_option linter.unusedVariables false
set_option linter.unusedSimpArgs false
theorem spC_get : ∀ (l : List Sp) (i : Nat) (s : Sp), l[i]? = some s → ∀ j, j < 6 → (l.flatMap Sp.cs)[i * 6 + j]? = (Sp.cs s)[j]?
  | [], i, s, h, j, hj => by simp at h
  | a :: r, 0, s, h, j, hj => by
    simp at h
    subst h
    rw [List.flatMap_cons, List.getElem?_append_left (by simp [Sp.cs]; omega)]
    simp
  | a :: r, i + 1, s, h, j, hj => by
    have h2 := spC_get r i s (by simpa using h) j hj
    rw [List.flatMap_cons, List.getElem?_append_right (by simp [Sp.cs]; omega), ← h2]
    congr 1
    simp [Sp.cs]
    omega
theorem spots_cells {w : World} {B l c : Nat} {e : TypeId} {a : Option Addr} {sp : List Sp} (h : w.ownsRow B e 6 (.slice a l c) l (sp.flatMap Sp.cs)) :
    l = sp.length ∧ (sp = [] ∨ ∃ S, a = some ⟨S, 0, none⟩ ∧ B ≤ S ∧ S < w.heap.size ∧ l ≤ c ∧ c ≤ maxLen ∧ ∀ (i : Nat) (s : Sp), sp[i]? = some s → w.cell? ⟨S, i * 6, none⟩ = some (.int .i64 s.at_) ∧ w.cell? ⟨S, i * 6 + 1, none⟩ = some (.int .i64 s.len)) := by
  have hl : sp.length = l := by have := h.1; rw [Sp.cs_len] at this; omega
  refine ⟨hl.symm, ?_⟩
  rcases h.2 with ⟨e0, e1⟩ | ⟨g, cap, cur, e0, hb, hg, hn, hm, hs, ht⟩
  · exact .inl (List.eq_nil_of_length_eq_zero (by omega))
  · injection e0 with e1 _ e3
    by_cases h0 : sp = []
    · exact .inl h0
    · refine .inr ⟨g, e1, hb, ?_, by omega, by omega, fun i s hi => ?_⟩
      · exact (h.lt g (by rw [e1]; rfl)).2
      · have hj : i < sp.length := (List.getElem?_eq_some_iff.1 hi).1
        have e4 : ∀ j, j < 6 → w.cell? ⟨g, i * 6 + j, none⟩ = (Sp.cs s)[j]? := fun j hj2 => by
          rw [show w.cell? ⟨g, i * 6 + j, none⟩ = cur[i * 6 + j]? by simp [World.cell?, hg], ← spC_get sp i s hi j hj2, ← ht, List.getElem?_take, if_pos (by omega), Array.getElem?_toList]
        exact ⟨e4 0 (by omega), e4 1 (by omega)⟩
/-- where a field's spot lies. -/
theorem spot_in (n : Nat) (t : TyF (Ty n)) (hs : soundF (n + 1) t = 0) (hk : t.kind = 3 ∨ t.kind = 4) {q : Pl} (hq : plK (formF n) (tsize n) t t.fields.length = some q) (hq2 : upF q.size q.align ≤ 65536) {k : Nat} {f : FdF (Ty n)} (hf : t.fields[k]? = some f) :
    ∃ s g, (spK (formF n) (tsize n) (tkind n) t t.fields.length)[k]? = some s ∧ formF n f.type = some g ∧ 0 ≤ s.at_ ∧ 0 ≤ s.len ∧ s.at_ + s.len ≤ upF q.size q.align ∧ (f.isBits = false → s.at_ + g.1 ≤ upF q.size q.align ∧ f.width = 0) ∧ (f.isBits = true → 0 ≤ f.width ∧ f.width ≤ 64) ∧ s.at_ ≤ 65536 := by
  have FOK := field_ok n t hs hk
  have hkl : k < t.fields.length := (List.getElem?_eq_some_iff.1 hf).1
  obtain ⟨p, f2, g, hp, hf2, hg, hp2, hsp⟩ := spK_get (formF n) (tsize n) (tkind n) t t.fields.length q hq k hkl
  rw [hf] at hf2
  cases hf2
  have hfd := (FOK k f g hf hg).2
  have hok := plK_ok (formF n) (tsize n) t (fun i f g hi hg => (FOK i f g hi hg).2) k p hp
  have hokq := plK_ok (formF n) (tsize n) t (fun i f g hi hg => (FOK i f g hi hg).2) _ q hq
  have hin := field_in (f := f) (ts := tsize n f.type) (g := g) t.packed (t.kind == 4) p
  have hsz := plK_size (formF n) (tsize n) t (k + 1) hp2 (t.fields.length - (k + 1)) q (by rw [Nat.add_sub_cancel' hkl]; exact hq)
  have hup := upF_ge (n := q.size) hokq.al.pos.1
  have hbg := begF_bound (f := f) (ts := tsize n f.type) (g := g) hfd t.packed (t.kind == 4) hok.b0
  have hnm := numF_bound (f := f) (ts := tsize n f.type) (g := g) hfd
  refine ⟨_, g, hsp, hg, ?_⟩
  have hgg := hfd.g1
  have hbits := hfd.bits
  have hpl := hfd.plain
  generalize upF q.size q.align = Z at *
  unfold spotF
  generalize hB : begF t.packed (t.kind == 4) f (tsize n f.type) g p = B at *
  generalize (stepF t.packed (t.kind == 4) f (tsize n f.type) g p).size = Y at *
  unfold numF at hin hnm
  cases hb : f.isBits with
  | true =>
    have h3 := hbits hb
    simp only [hb, if_true] at hin hnm ⊢
    refine ⟨by omega, ?_, ?_, fun h => by (first | cases h | simp at h), fun _ => by omega, by omega⟩
    · split <;> omega
    · split <;> omega
  | false =>
    have h3 := hpl hb
    simp [hb] at hin hnm ⊢
    refine ⟨by omega, by omega, by omega, ⟨by omega, h3⟩, by omega⟩
/-- which blocks are the walk's own. -/
structure FwB (N K P B3 B4 B6 R S : Nat) : Prop where
  p : P < N
  b3 : N ≤ B3 ∧ B3 < K
  b4 : N ≤ B4 ∧ B4 < K
  b6 : N ≤ B6 ∧ B6 < K
  r : N ≤ R ∧ R < K
  s : N ≤ S ∧ S < K
  n3 : B3 ≠ R
  n4 : B4 ≠ R
  n6 : B6 ≠ R
  ns : S ≠ R
/-- what the walk's own cells hold. -/
structure FwW (W : World) (P B3 B4 B6 R S : Nat) (kd : Int) (fs ss : Value) (sp : List Sp) (run : Int × Int) : Prop where
  c3 : W.cell? ⟨B3, 0, none⟩ = some (.pointer (some ⟨P, 0, none⟩))
  tk : W.cell? ⟨B4, 0, none⟩ = some (.int .i64 kd)
  tf : W.cell? ⟨B4, 3, none⟩ = some fs
  sl : W.cell? ⟨B6, 2, none⟩ = some ss
  r0 : W.cell? ⟨R, 0, none⟩ = some (.int .i64 run.1)
  r1 : W.cell? ⟨R, 1, none⟩ = some (.int .i64 run.2)
  z : ∀ k, W.frozen? ⟨R, k, none⟩ = false
  row : ∀ (i : Nat) (s : Sp), sp[i]? = some s → W.cell? ⟨S, i * 6, none⟩ = some (.int .i64 s.at_) ∧ W.cell? ⟨S, i * 6 + 1, none⟩ = some (.int .i64 s.len)
theorem FwW.keep {W W' : World} {P B3 B4 B6 R S N K : Nat} {kd : Int} {fs ss : Value} {sp : List Sp} {run : Int × Int} (h : FwW W P B3 B4 B6 R S kd fs ss sp run) (hb : FwB N K P B3 B4 B6 R S) (hK : K ≤ W.heap.size)
    (hc : ∀ k o, N ≤ k → k < K → W'.cell? ⟨k, o, none⟩ = W.cell? ⟨k, o, none⟩) (hz : ∀ o, W'.frozen? ⟨R, o, none⟩ = W.frozen? ⟨R, o, none⟩) : FwW W' P B3 B4 B6 R S kd fs ss sp run :=
  ⟨(hc _ _ hb.b3.1 hb.b3.2).trans h.c3, (hc _ _ hb.b4.1 hb.b4.2).trans h.tk, (hc _ _ hb.b4.1 hb.b4.2).trans h.tf, (hc _ _ hb.b6.1 hb.b6.2).trans h.sl, (hc _ _ hb.r.1 hb.r.2).trans h.r0, (hc _ _ hb.r.1 hb.r.2).trans h.r1, fun k => (hz k).trans (h.z k),
    fun i s hi => ⟨(hc _ _ hb.s.1 hb.s.2).trans (h.row i s hi).1, (hc _ _ hb.s.1 hb.s.2).trans (h.row i s hi).2⟩⟩
theorem FwW.next {W W' : World} {P B3 B4 B6 R S N K : Nat} {kd : Int} {fs ss : Value} {sp : List Sp} {run : Int × Int} (h : FwW W P B3 B4 B6 R S kd fs ss sp run) (hb : FwB N K P B3 B4 B6 R S) (hK : K ≤ W.heap.size) (hw : Below W.heap.size W W') : FwW W' P B3 B4 B6 R S kd fs ss sp run :=
  h.keep hb hK (fun k o h1 h2 => hw.cell (p := ⟨k, o, none⟩) (by show k < _; omega)) (fun o => hw.frozen (p := ⟨R, o, none⟩) (by have := hb.r.2; show R < _; omega))
theorem FwW.fr {W W' : World} {P B3 B4 B6 R S N K : Nat} {kd : Int} {fs ss v : Value} {sp : List Sp} {run : Int × Int} (h : FwW W P B3 B4 B6 R S kd fs ss sp run) (hb : FwB N K P B3 B4 B6 R S) (hK : K ≤ W.heap.size) (hw : Fr W W' P v) (hv : ∀ g, v.ownBlock = some g → g < N ∨ K ≤ g) : FwW W' P B3 B4 B6 R S kd fs ss sp run :=
  h.keep hb hK (fun k o h1 h2 => hw.cell (by omega) (by have := hb.p; omega) (fun e => by have := hv _ e.symm; omega)) (fun o => hw.frozen (by have := hb.r.2; omega) (by have := hb.p; have := hb.r.1; omega) (fun e => by have := hv _ e.symm; have := hb.r; omega))
theorem FwW.set {W : World} {P B3 B4 B6 R S N K : Nat} {kd : Int} {fs ss : Value} {sp : List Sp} {run : Int × Int} (h : FwW W P B3 B4 B6 R S kd fs ss sp run) (hb : FwB N K P B3 B4 B6 R S) (k : Nat) (x : Int) (hk : k = 0 ∨ k = 1) : FwW (W.setCell ⟨R, k, none⟩ (.int .i64 x)) P B3 B4 B6 R S kd fs ss sp (if k = 0 then (x, run.2) else (run.1, x)) := by
  have ho : ∀ b o, b ≠ R → (W.setCell ⟨R, k, none⟩ (.int .i64 x)).cell? ⟨b, o, none⟩ = W.cell? ⟨b, o, none⟩ := fun b o hbr => World.cell?_setCell_other _ _ _ _ (fun e => hbr (congrArg Addr.block e).symm)
  have ho2 : ∀ o, o ≠ k → (W.setCell ⟨R, k, none⟩ (.int .i64 x)).cell? ⟨R, o, none⟩ = W.cell? ⟨R, o, none⟩ := fun o hne => World.cell?_setCell_other _ _ _ _ (fun e => hne (congrArg Addr.off e).symm)
  refine ⟨(ho _ _ hb.n3).trans h.c3, (ho _ _ hb.n4).trans h.tk, (ho _ _ hb.n4).trans h.tf, (ho _ _ hb.n6).trans h.sl, ?_, ?_, fun j => by rw [World.frozen?_setCell]; exact h.z j, fun i s hi => ⟨(ho _ _ hb.ns).trans (h.row i s hi).1, (ho _ _ hb.ns).trans (h.row i s hi).2⟩⟩
  · rcases hk with rfl | rfl
    · exact World.cell?_setCell_same _ _ _ h.r0
    · exact (ho2 0 (by omega)).trans h.r0
  · rcases hk with rfl | rfl
    · exact (ho2 1 (by omega)).trans h.r1
    · exact World.cell?_setCell_same _ _ _ h.r1
/-- what the closure leaves. -/
def flR (run : Int × Int) (F : List (Int × Int)) : List (Int × Int) := if 0 < run.2 then F ++ [run] else F
def FlPost (w : World) (P B R : Nat) (v : Value) (Q : List (Int × Int) → Bool → Prop) (e : Ending) (w' : World) : Prop :=
  e = .returned (.tuple #[]) ∧ ∃ v' L' f' w1, w' = (w1.setCell ⟨R, 0, none⟩ (.int .i64 0)).setCell ⟨R, 1, none⟩ (.int .i64 0) ∧ Bk w1 P B v' L' f' ∧ Q L' f' ∧ Fr w w1 P v ∧ Later w v v'
set_option maxRecDepth 100000 in
set_option maxHeartbeats 3200000 in
theorem flush_any {P B X R : Nat} {v : Value} {L F : List (Int × Int)} {full : Bool} (w : World) (h : Bk w P B v L full) (hR : BkR F L full) (hBP : B ≤ P) (run : Int × Int) (c3 : w.cell? ⟨X, 0, none⟩ = some (.pointer (some ⟨P, 0, none⟩))) (r0 : w.cell? ⟨R, 0, none⟩ = some (.int .i64 run.1)) (r1 : w.cell? ⟨R, 1, none⟩ = some (.int .i64 run.2)) (z : ∀ k, w.frozen? ⟨R, k, none⟩ = false) (hP : R ≠ P) (hv : v.ownBlock ≠ some R) :
    Calls Try.prog 68 #[.pointer (some ⟨R, 0, none⟩), .pointer (some ⟨X, 0, none⟩)] w (FlPost w P B R v (BkR (flR run F))) := by
  have H := Lib.hid h
  have HR := Lib.hid hR
  have AD := Lib.hid (fun W (hW : Bk W P B v L full) => add_any W hW hR hBP run)
  have hlr := cell_lt2 r0
  have hlx := cell_lt2 c3
  have z0 := z 0
  have z1 := z 1
  have HZ := Lib.hid z
  have HV := Lib.hid hv
  obtain ⟨ra, rb⟩ := run
  simp only at *
  clear h hR z hv
  by_cases h0 : 0 < rb
  · have HF : Hid (flR (ra, rb) F = F ++ [(ra, rb)]) := Lib.hid (by unfold flR; rw [if_pos h0])
    go_enter Try.func68, Try.ntmps68
    go_wp2_with (go_at_call 49; refine (AD.out _ H.out).mono ?_; rintro e w1 ⟨rfl, v', L', f', q1, q2, q3, q4⟩; have k0 := (q3.cell hlr hP (fun e => HV.out e.symm)).trans r0; have k1 := (q3.cell hlr hP (fun e => HV.out e.symm)).trans r1; have kz0 := (q3.frozen (o := 0) hlr hP (fun e => HV.out e.symm)).trans z0; have kz1 := (q3.frozen (o := 1) hlr hP (fun e => HV.out e.symm)).trans z1; have HQ1 := Lib.hid q1; have HQ2 := Lib.hid q2; have HQ3 := Lib.hid q3; have HQ4 := Lib.hid q4; clear q1 q2 q3 q4)
    go_returns
    exact ⟨rfl, _, _, _, _, rfl, HQ1.out, by rw [HF.out]; exact HQ2.out, HQ3.out, HQ4.out⟩
  · have HF : Hid (flR (ra, rb) F = F) := Lib.hid (by unfold flR; rw [if_neg h0])
    go_enter Try.func68, Try.ntmps68
    go_wp2_with fail
    go_returns
    exact ⟨rfl, _, _, _, _, rfl, H.out, by rw [HF.out]; exact HR.out, Fr.refl _ _ _, Later.refl _ _⟩
end Go.Proofs.Ytlbkloamabomcaa
namespace Go.Proofs.Ytlbkloamabomcaa
open Go.RowKit Go.Sort
set_option linter.unusedVariables false
set_option linter.unusedSimpArgs false
theorem Fr.far {w w1 : World} {P R k : Nat} {v x : Value} (h : Fr w w1 P v) (hR : w.heap.size ≤ R) : Fr w (w1.setCell ⟨R, k, none⟩ x) P v :=
  ⟨h.os, h.tape, h.output, by simpa using h.size, fun j hj h1 h2 => by
    rw [← h.block j hj h1 h2]
    have : R ≠ j := by omega
    unfold World.setCell
    simp [Array.getElem?_modify, this]⟩
structure HdW (w wA W : World) (P B B3 B4 B6 R S : Nat) (kd : Int) (fs ss : Value) (sp : List Sp) (v : Value) (run : Int × Int) (F : List (Int × Int)) (v' : Value) (L : List (Int × Int)) (full : Bool) : Prop where
  f : FwW W P B3 B4 B6 R S kd fs ss sp run
  b : Bk W P B v' L full
  r : BkR F L full
  fr : Fr w W P v
  la : Later wA v v'
  sz : wA.heap.size ≤ W.heap.size
section
variable {w wA W : World} {P B B3 B4 B6 R S : Nat} {kd : Int} {fs ss : Value} {sp : List Sp} {v : Value} {run : Int × Int} {F : List (Int × Int)} {v' : Value} {L : List (Int × Int)} {full : Bool}
theorem HdW.away (h : HdW w wA W P B B3 B4 B6 R S kd fs ss sp v run F v' L full) (hv : ∀ g, v.ownBlock = some g → g < w.heap.size) : ∀ g, v'.ownBlock = some g → g < w.heap.size ∨ wA.heap.size ≤ g := fun g hg =>
  (h.la g hg).imp (hv g) id
theorem HdW.next {W' : World} (h : HdW w wA W P B B3 B4 B6 R S kd fs ss sp v run F v' L full) (hb : FwB w.heap.size wA.heap.size P B3 B4 B6 R S) (hv : ∀ g, v.ownBlock = some g → g < w.heap.size) (hw : Below W.heap.size W W') : HdW w wA W' P B B3 B4 B6 R S kd fs ss sp v run F v' L full :=
  ⟨h.f.next hb h.sz hw, h.b.next hw, h.r, h.fr.trans (u := v) (Later.refl _ _) ⟨hw.os, hw.tape, hw.output, hw.size, fun k hk _ _ => hw.block k hk⟩, h.la, Nat.le_trans h.sz hw.size⟩
theorem HdW.ownR (h : HdW w wA W P B B3 B4 B6 R S kd fs ss sp v run F v' L full) (hb : FwB w.heap.size wA.heap.size P B3 B4 B6 R S) (hv : ∀ g, v.ownBlock = some g → g < w.heap.size) : v'.ownBlock ≠ some R := fun e => by
  have := h.away hv R e
  have := hb.r
  omega
theorem HdW.set (h : HdW w wA W P B B3 B4 B6 R S kd fs ss sp v run F v' L full) (hb : FwB w.heap.size wA.heap.size P B3 B4 B6 R S) (hv : ∀ g, v.ownBlock = some g → g < w.heap.size) (k : Nat) (x : Int) (hk : k = 0 ∨ k = 1) :
    HdW w wA (W.setCell ⟨R, k, none⟩ (.int .i64 x)) P B B3 B4 B6 R S kd fs ss sp v (if k = 0 then (x, run.2) else (run.1, x)) F v' L full :=
  ⟨h.f.set hb k x hk, h.b.far (by have := hb.r; have := hb.p; omega) (h.ownR hb hv) _, h.r, h.fr.far hb.r.1, h.la, by simpa using h.sz⟩
theorem HdW.flush {Q : List (Int × Int)} {e : Ending} {w2 : World} (h : HdW w wA W P B B3 B4 B6 R S kd fs ss sp v run F v' L full) (hb : FwB w.heap.size wA.heap.size P B3 B4 B6 R S) (hv : ∀ g, v.ownBlock = some g → g < w.heap.size) (k : FlPost W P B R v' (BkR Q) e w2) :
    e = .returned (.tuple #[]) ∧ ∃ v2 L2 f2, HdW w wA w2 P B B3 B4 B6 R S kd fs ss sp v (0, 0) Q v2 L2 f2 ∧ W.heap.size ≤ w2.heap.size ∧ ∀ b o, b < W.heap.size → b ≠ P → b ≠ R → some b ≠ v'.ownBlock → w2.cell? ⟨b, o, none⟩ = W.cell? ⟨b, o, none⟩ := by
  obtain ⟨h1, v2, L2, f2, w1, rfl, hB, hQ, hfr, hla⟩ := k
  have hR := hb.r
  have h2 : HdW w wA w1 P B B3 B4 B6 R S kd fs ss sp v run Q v2 L2 f2 := ⟨h.f.fr hb h.sz hfr (h.away hv), hB, hQ, h.fr.trans (fun g hg => (h.la g hg).imp id (fun h9 => by have := hb.r; omega)) hfr, h.la.trans h.sz hla, Nat.le_trans h.sz hfr.size⟩
  refine ⟨h1, v2, L2, f2, ?_, by simpa using hfr.size, fun b o h1 h2 h3 h4 => ?_⟩
  · exact (h2.set hb hv 0 0 (.inl rfl)).set hb hv 1 0 (.inr rfl)
  · rw [World.cell?_setCell_other _ _ _ _ (fun e => h3 (congrArg Addr.block e).symm), World.cell?_setCell_other _ _ _ _ (fun e => h3 (congrArg Addr.block e).symm)]
    exact hfr.cell h1 h2 h4
theorem HdW.call {Q : List (Int × Int)} {e : Ending} {w2 : World} (h : HdW w wA W P B B3 B4 B6 R S kd fs ss sp v run F v' L full) (hb : FwB w.heap.size wA.heap.size P B3 B4 B6 R S) (hv : ∀ g, v.ownBlock = some g → g < w.heap.size) (k : BkPost W P B v' (BkR Q) e w2) :
    e = .returned (.tuple #[]) ∧ ∃ v2 L2 f2, HdW w wA w2 P B B3 B4 B6 R S kd fs ss sp v run Q v2 L2 f2 := by
  obtain ⟨h1, v2, L2, f2, hB, hQ, hfr, hla⟩ := k
  have hR := hb.r
  exact ⟨h1, v2, L2, f2, h.f.fr hb h.sz hfr (h.away hv), hB, hQ, h.fr.trans (fun g hg => (h.la g hg).imp id (fun h9 => by omega)) hfr, h.la.trans h.sz hla, Nat.le_trans h.sz hfr.size⟩
end
/-- a field and its spot in two boxes. -/
structure FxW (W : World) (X Y : Nat) (q : Raw) (bt : Bool) (wd sa sl : Int) : Prop where
  c1 : W.cell? ⟨X, 1, none⟩ = some (.int .i64 q.kind)
  c2 : W.cell? ⟨X, 2, none⟩ = some (.int .i64 q.size)
  c3 : W.cell? ⟨X, 3, none⟩ = some (.bool q.packed)
  c4 : W.cell? ⟨X, 4, none⟩ = some (.slice q.fa q.fl q.fc)
  c5 : W.cell? ⟨X, 5, none⟩ = some (.int .i64 q.count)
  c6 : W.cell? ⟨X, 6, none⟩ = some (.slice q.ea q.el q.ec)
  c7 : W.cell? ⟨X, 7, none⟩ = some (.bool bt)
  c8 : W.cell? ⟨X, 8, none⟩ = some (.int .i64 wd)
  s0 : W.cell? ⟨Y, 0, none⟩ = some (.int .i64 sa)
  s1 : W.cell? ⟨Y, 1, none⟩ = some (.int .i64 sl)
theorem FxW.keep {W W' : World} {X Y : Nat} {q : Raw} {bt : Bool} {wd sa sl : Int} (h : FxW W X Y q bt wd sa sl) (h1 : ∀ o, W'.cell? ⟨X, o, none⟩ = W.cell? ⟨X, o, none⟩) (h2 : ∀ o, W'.cell? ⟨Y, o, none⟩ = W.cell? ⟨Y, o, none⟩) : FxW W' X Y q bt wd sa sl :=
  ⟨(h1 _).trans h.c1, (h1 _).trans h.c2, (h1 _).trans h.c3, (h1 _).trans h.c4, (h1 _).trans h.c5, (h1 _).trans h.c6, (h1 _).trans h.c7, (h1 _).trans h.c8, (h2 _).trans h.s0, (h2 _).trans h.s1⟩
def RunOk (r : Int × Int) : Prop := 0 ≤ r.1 ∧ r.1 ≤ 2000000 ∧ -2000000 ≤ r.2 ∧ r.2 ≤ 2000000
/-- the step, in each of its ways. -/
theorem stepM_plain {α : Type} (uni : Bool) (f : FdF α) (s : Int × Int) (M : List (Int × Int)) (st : List (Int × Int) × (Int × Int)) (hb : f.isBits = false) : stepM uni f s M st = ((if 0 < st.2.2 then st.1 ++ [st.2] else st.1) ++ M, (0, 0)) := by
  unfold stepM
  simp [hb]
theorem stepM_zero {α : Type} (uni : Bool) (f : FdF α) (s : Int × Int) (M : List (Int × Int)) (st : List (Int × Int) × (Int × Int)) (hb : f.isBits = true) (hw : f.width = 0) : stepM uni f s M st = (if 0 < st.2.2 then st.1 ++ [st.2] else st.1, (0, 0)) := by
  unfold stepM
  simp [hb, hw]
theorem stepM_uni {α : Type} (f : FdF α) (s : Int × Int) (M : List (Int × Int)) (st : List (Int × Int) × (Int × Int)) (hb : f.isBits = true) (hw : 0 < f.width) : stepM true f s M st = (if 0 < st.2.2 then st.1 ++ [st.2] else st.1, s) := by
  unfold stepM
  simp [hb, hw]
theorem stepM_run {α : Type} (f : FdF α) (s : Int × Int) (M : List (Int × Int)) (st : List (Int × Int) × (Int × Int)) (hb : f.isBits = true) (hw : 0 < f.width) (h : 0 < st.2.2) : stepM false f s M st = (st.1, (st.2.1, s.1 + s.2 - st.2.1)) := by
  unfold stepM
  simp [hb, h, show f.width ≠ 0 by omega]
theorem stepM_new {α : Type} (f : FdF α) (s : Int × Int) (M : List (Int × Int)) (st : List (Int × Int) × (Int × Int)) (hb : f.isBits = true) (hw : 0 < f.width) (h : ¬ 0 < st.2.2) : stepM false f s M st = (st.1, s) := by
  unfold stepM
  simp [hb, h, hw, show f.width ≠ 0 by omega]
theorem flR_app (run : Int × Int) (F G : List (Int × Int)) : flR run (F ++ G) = F ++ (if 0 < run.2 then G ++ [run] else G) := by
  unfold flR
  split
  · rw [List.append_assoc]
  · rfl
end Go.Proofs.Ytlbkloamabomcaa
namespace Go.Proofs.Ytlbkloamabomcaa
open Go.RowKit Go.Sort
set_option linter.unusedVariables false
set_option linter.unusedSimpArgs false
theorem arrM_sub (M : Int → List (Int × Int)) (a s : Int) : ∀ (k d : Nat) x, x ∈ arrM M a s k → x ∈ arrM M a s (k + d)
  | _, 0, _, h => h
  | k, d + 1, x, h => List.mem_append.2 (.inl (arrM_sub M a s k d x h))
theorem below_fr {wT w w' : World} {P : Nat} {v : Value} (hb : Below wT.heap.size wT w) (hf : Fr w w' P v) (hP : wT.heap.size ≤ P) (hv : ∀ g, v.ownBlock = some g → wT.heap.size ≤ g) : Below wT.heap.size wT w' := by
  have h := hf.below (B := wT.heap.size) hb.size hP hv
  exact hb.trans h
set_option maxRecDepth 100000 in
set_option maxHeartbeats 3200000 in
theorem find_arr (n : Nat) (IH : ∀ t : Ty n, FindOk n t) (t : TyF (Ty n)) (hk : t.kind = 5) (e : Ty n) (hel : t.elem = [e]) (hse : soundF n e = 0) (hc : 1 ≤ t.count ∧ t.count ≤ 65536) : FindOk (n + 1) t := by
  intro r wT w P v L full F at_ g hs hg ha0 ha1 hT hb hBP hbk hR
  have hF : formF (n + 1) t = (formF n e).bind fun g => if g.1 * t.count ≤ 65536 then some (g.1 * t.count, g.2) else none := by
    rw [formF_succ]; unfold formOne; rw [if_neg (by omega), if_pos hk, hel]; rfl
  rw [hF] at hg
  obtain ⟨ge, hge, hg⟩ := Option.bind_eq_some_iff.1 hg
  have hle : ge.1 * t.count ≤ 65536 ∧ g.1 = ge.1 * t.count := by
    split at hg
    · rename_i h
      cases hg
      exact ⟨h, rfl⟩
    · cases hg
  have hgo := form_ok n e hse ge hge
  have hM : marksF (n + 1) t at_ = if 0 < ge.1 then arrM (marksF n e) at_ ge.1 t.count.toNat else [] := by
    rw [marksF_succ]; unfold marksOne; rw [if_neg (by omega), if_pos hk, hel]; simp only [List.head?_cons, hge]
  obtain ⟨e1, e2, e3, e4, e5, e6, e7, e8, e9, hf, he⟩ := hT
  obtain ⟨rk, rs, rp, fa, fl, fc, rc, ea, el, ec⟩ := r
  simp only at e1 e5 e6 he
  rw [hel] at e6
  obtain rfl : el = 1 := by simpa using e6
  obtain ⟨b, off, rfl, hbb, hcs⟩ := he.2.2 (by omega)
  obtain ⟨q, hq, c0, c1, c2, c3, c4, c5⟩ := hcs 0 e (by rw [hel]; rfl)
  have hec := he.1
  have hem := he.2.1
  rw [← e1] at hk
  subst hk
  rw [← e5] at hle hc hM
  simp only [Nat.zero_mul, Nat.add_zero] at c0 c1 c2 c3 c4 c5
  have OFK : Hid (∀ W, Below wT.heap.size wT W → Calls Try.prog 42 #[q.val] W fun e w' => e = .returned (.tuple #[.agg #[.int .i64 ge.1, .int .i64 ge.2], .bool true]) ∧ ∃ p : Regrown, w' = more W p) := Lib.hid (fun W hW => (of_any n e q W hse (hq.below hW)).mono (by
    rintro e w1 ⟨⟨s, a, bb, rfl, rfl, hg⟩, p1, rfl⟩
    obtain ⟨rfl, rfl⟩ := hg _ hge
    rw [hge]
    exact ⟨rfl, p1, rfl⟩))
  have FD := Lib.hid (fun (a : Int) (W : World) v' L' f' F' (h0 : 0 ≤ a) (h1 : a + ge.1 ≤ 1000000) (hW : Below wT.heap.size wT W) (hW2 : Bk W P wT.heap.size v' L' f') (hR' : BkR F' L' f') => IH e q wT W P v' L' f' F' a ge hse hge h0 h1 hq hW hBP hW2 hR')
  have HB := Lib.hid hbk
  have HR0 := Lib.hid hR
  have HBW := Lib.hid hb
  have hlt := hbk.lt
  have hbs := hb.size
  have hcc : ∀ (o : Nat) (x : Value) (W : World), Below wT.heap.size wT W → wT.cell? ⟨b, o, none⟩ = some x → W.cell? ⟨b, o, none⟩ = some x := fun o x W hW hx => (hW.cell (p := ⟨b, o, none⟩) hbb).trans hx
  have HCC := Lib.hid hcc
  have hrow := Lib.hid hbk.row
  have hap := hbk.ap
  replace hle : g.1 = ge.1 * rc ∧ ge.1 * rc ≤ 65536 := ⟨hle.2, hle.1⟩
  rw [hM]
  have d0 := hcc _ _ w hb c0
  have d1 := hcc _ _ w hb c1
  have d2 := hcc _ _ w hb c2
  have d3 := hcc _ _ w hb c3
  have d4 := hcc _ _ w hb c4
  have d5 := hcc _ _ w hb c5
  have hbw : b < w.heap.size := by omega
  clear hf he hcs e4 e6 e5 e7 e8 e9 e1 e2 e3 hF hM IH hbk hR hb hcc hg hge hs hq
  obtain ⟨qk, qs, qp, qfa, qfl, qfc, qc, qea, qel, qec⟩ := q
  obtain ⟨ga, gb⟩ := ge
  obtain ⟨g1, g2⟩ := g
  unfold Raw.val at OFK FD ⊢
  simp only at OFK FD c0 c1 c2 c3 c4 c5 d0 d1 d2 d3 d4 d5 hgo hle ha1 ⊢
  obtain ⟨rfl, hle⟩ := hle
  generalize hmk : marksF n e = M at *
  clear hmk
  have hga := hgo.1
  by_cases h0 : 0 < ga
  · rw [if_pos h0]
    have hrg : ga ≤ 65536 := by
      have h9 : ga * 1 ≤ ga * rc := Int.mul_le_mul_of_nonneg_left (by omega) (by omega)
      omega
    go_enter Try.func33, Try.ntmps33
    go_wp2_with (go_at_call 42; refine (OFK.out _ (below_al HBW.out _)).mono ?_; rintro e w1 ⟨rfl, pA, rfl⟩)
    refine wp_letter (R := fun W => Bk W P wT.heap.size v L full ∧ Fr w W P v ∧ Below wT.heap.size wT W ∧ W.cell? ⟨w.heap.size, 4, none⟩ = some (.int .i64 rc) ∧ W.cell? ⟨w.heap.size, 5, none⟩ = some (.slice (some ⟨b, off, none⟩) 1 ec) ∧ W.cell? ⟨w.heap.size + 1 + pA.os.size, 0, none⟩ = some (.int .i64 ga)) ?letW ?_
    case letW =>
      refine ⟨HB.out.next ?_, Fr.of_below ?_ _ _, ?_, by simp [go_sem, ↓IntWalk.iteOmega], by simp [go_sem, ↓IntWalk.iteOmega], by simp [go_sem, ↓IntWalk.iteOmega]⟩
      · repeat (first | with_reducible exact Below.refl _ _ | with_reducible refine below_mo ?_ _ | with_reducible refine below_al ?_ _)
      · repeat (first | with_reducible exact Below.refl _ _ | with_reducible refine below_mo ?_ _ | with_reducible refine below_al ?_ _)
      · repeat (first | with_reducible exact HBW.out | with_reducible refine below_mo ?_ _ | with_reducible refine below_al ?_ _)
    rintro wA ⟨hA, hfr, hBA, x4, x5, xg⟩
    have HA := Lib.hid hA
    have HFR := Lib.hid hfr
    have HBA := Lib.hid hBA
    have hlA := hA.lt
    have hl4 := cell_lt2 x4
    have hlg := cell_lt2 xg
    have HX4 := Lib.hid x4
    have HX5 := Lib.hid x5
    have HXG := Lib.hid xg
    have hPn : P < w.heap.size := hlt
    have hvn : ∀ g, v.ownBlock = some g → wT.heap.size ≤ g ∧ g < w.heap.size := fun g hg => hrow.out.lt g hg
    replace hvn := Lib.hid hvn
    replace hrc := Lib.hid hc
    have HCS := Lib.hid (fun W hW => And.intro (HCC.out _ _ W hW c0) (And.intro (HCC.out _ _ W hW c1) (And.intro (HCC.out _ _ W hW c2) (And.intro (HCC.out _ _ W hW c3) (And.intro (HCC.out _ _ W hW c4) (HCC.out _ _ W hW c5))))))
    clear hA hfr hBA d0 d1 d2 d3 d4 d5 c0 c1 c2 c3 c4 c5
    go_loopw [8] (fun v8 wr => ∃ i : Nat, i ≤ rc.toNat ∧ v8 = .int .i64 i ∧ ∃ v' L' f', Bk wr P wT.heap.size v' L' f' ∧ BkR (F ++ arrM M at_ ga i) L' f' ∧ Fr wA wr P v ∧ Later wA v v') (fun v8 _ => rc.toNat - (intOf v8).toNat)
    case atStart => exact ⟨0, by omega, rfl, v, L, full, HA.out, by simpa [arrM] using HR0.out, Fr.refl _ _ _, Later.refl _ _⟩
    case round =>
      obtain ⟨i, hi, rfl, v', L', f', q1, q2, q3, q4⟩ := hrel
      have hBr := below_fr HBA.out q3 hBP (fun g hg => (hvn.out g hg).1)
      have hstay : ∀ k o, w.heap.size ≤ k → k < wA.heap.size → wr.cell? ⟨k, o, none⟩ = wA.cell? ⟨k, o, none⟩ := fun k o h1 h2 => q3.cell h2 (by omega) (fun e => by have := (hvn.out _ e.symm).2; omega)
      have y4 := (hstay _ 4 (Nat.le_refl _) hl4).trans HX4.out
      have y5 := (hstay _ 5 (Nat.le_refl _) hl4).trans HX5.out
      have yg := (hstay _ 0 (by omega) hlg).trans HXG.out
      have r0 := q1.c0
      have r1 := q1.c1
      have hlr := q1.lt
      have hbr : w.heap.size < wr.heap.size := cell_lt2 y4
      have hgr : w.heap.size + 1 + pA.os.size < wr.heap.size := cell_lt2 yg
      obtain ⟨e0, e1, e2, e3, e4, e5⟩ := HCS.out wr hBr
      have HQ1 := Lib.hid q1
      have HQ2 := Lib.hid q2
      have HQ3 := Lib.hid q3
      have HQ4 := Lib.hid q4
      have HBr := Lib.hid hBr
      clear q1 q2 q3 q4 hBr hstay x4 x5 xg
      by_cases hlt : (i : Int) < rc
      · have hp1 : 0 ≤ (i : Int) * ga := Int.mul_nonneg (by omega) (by omega)
        have hp2 : (i : Int) * ga + ga ≤ ga * rc := by
          have h9 : ga * ((i : Int) + 1) ≤ ga * rc := Int.mul_le_mul_of_nonneg_left (by omega) (by omega)
          rw [Int.mul_add, Int.mul_one, Int.mul_comm] at h9
          omega
        have hp3 : at_ + (i : Int) * ga + ga ≤ 1000000 := by omega
        cases f' with
        | false =>
          go_upto_region 11 with fail
          refine wp_tail_more 11 (by kernel_rfl) (by kernel_rfl) ?_
          simp only [List.take_succ_cons, List.take_zero, List.drop_succ_cons, List.drop_zero]
          repeat (go_big_quiet_step (fail))
          refine wpQuiet_nil ?_
          intro p8
          have HM8 : Hid (Below wr.heap.size wr (more wr p8)) := Lib.hid (more_below wr p8)
          have CF := Lib.hid (FD.out (at_ + (i : Int) * ga) (more wr p8) v' L' false (F ++ arrM M at_ ga i) (by omega) hp3 (below_mo HBr.out p8) (HQ1.out.next HM8.out) HQ2.out)
          go_wp2_with (go_at_call 33; refine (CF.out).mono ?_; rintro e w3 ⟨rfl, v2, L2, f2, hb2, hR2, hf2, hl2⟩)
          refine ⟨⟨i + 1, by omega, by go_num, v2, L2, f2, hb2, by rw [show F ++ arrM M at_ ga (i + 1) = F ++ arrM M at_ ga i ++ M (at_ + (i : Int) * ga) from (List.append_assoc _ _ _).symm]; exact hR2, ?_, ?_⟩, ?_⟩
          · exact (HQ3.out.trans HQ4.out ((Fr.of_below HM8.out _ _).trans (Later.refl _ _) hf2))
          · exact Later.trans HQ3.out.size HQ4.out (Later.trans HM8.out.size (Later.refl _ _) hl2)
          · simp [intOf]; omega
        | true =>
          go_wp2_with fail
          go_returns
          refine ⟨rfl, v', L', true, HQ1.out, HQ2.out.grow (fun x hx => ?_), HFR.out.trans (Later.refl _ _) HQ3.out, Later.trans HFR.out.size (Later.refl _ _) HQ4.out⟩
          rw [List.mem_append] at hx ⊢
          refine hx.imp id (fun h9 => ?_)
          have h8 := arrM_sub M at_ ga i (rc.toNat - i) x h9
          rwa [Nat.add_sub_cancel' hi] at h8
      · obtain rfl : i = rc.toNat := by omega
        go_wp2_with fail
        go_returns
        exact ⟨rfl, v', L', f', HQ1.out, HQ2.out, HFR.out.trans (Later.refl _ _) HQ3.out, Later.trans HFR.out.size (Later.refl _ _) HQ4.out⟩
  · obtain rfl : ga = 0 := by omega
    rw [if_neg (by omega), List.append_nil]
    go_enter Try.func33, Try.ntmps33
    go_wp2_with (go_at_call 42; refine (OFK.out _ (below_al HBW.out _)).mono ?_; rintro e w1 ⟨rfl, pA, rfl⟩)
    refine wp_loop_rounds 1 ?_
    rw [rounds_succ]
    go_wp2_with fail
    go_returns
    have HBL := below_al (below_mo (below_al (Below.refl w.heap.size w) (.cells #[.int .i64 5, .int .i64 rs, .bool rp, .slice fa fl fc, .int .i64 rc, .slice (some ⟨b, off, none⟩) 1 ec] 25)) pA) (.cells #[.int .i64 0, .int .i64 gb] 84)
    exact ⟨rfl, v, L, full, HB.out.next HBL, HR0.out, Fr.of_below HBL _ _, Later.refl _ _⟩
end Go.Proofs.Ytlbkloamabomcaa
namespace Go.Proofs.Ytlbkloamabomcaa
open Go.RowKit Go.Sort
set_option linter.unusedVariables false
set_option linter.unusedSimpArgs false
theorem fw_start {w W1 : World} {P B : Nat} {v : Value} {L F : List (Int × Int)} {full : Bool} {rk s1 s2 s3 : Int} {fs : Value} {ad : Option Addr} {sc : Nat} {SP : List Sp} {T1 T2 : TypeId} (hb : Below w.heap.size w W1) (hk : Bk w P B v L full) (hR : BkR F L full)
    (c3 : W1.cell? ⟨w.heap.size, 0, none⟩ = some (.pointer (some ⟨P, 0, none⟩))) (tk : W1.cell? ⟨w.heap.size + 1, 0, none⟩ = some (.int .i64 rk)) (tf : W1.cell? ⟨w.heap.size + 1, 3, none⟩ = some fs)
    (hsp : SP = [] ∨ ∃ S, ad = some ⟨S, 0, none⟩ ∧ w.heap.size ≤ S ∧ S < W1.heap.size ∧ SP.length ≤ sc ∧ sc ≤ maxLen ∧ ∀ (i : Nat) (s : Sp), SP[i]? = some s → W1.cell? ⟨S, i * 6, none⟩ = some (.int .i64 s.at_) ∧ W1.cell? ⟨S, i * 6 + 1, none⟩ = some (.int .i64 s.len)) :
    ∃ S, FwB w.heap.size ((W1.alloc (.cells #[.int .i64 s1, .int .i64 s2, .slice ad SP.length sc, .int .i64 s3] T1)).alloc (.cells #[.int .i64 0, .int .i64 0] T2)).heap.size P w.heap.size (w.heap.size + 1) W1.heap.size (W1.heap.size + 1) S ∧
      HdW w ((W1.alloc (.cells #[.int .i64 s1, .int .i64 s2, .slice ad SP.length sc, .int .i64 s3] T1)).alloc (.cells #[.int .i64 0, .int .i64 0] T2)) ((W1.alloc (.cells #[.int .i64 s1, .int .i64 s2, .slice ad SP.length sc, .int .i64 s3] T1)).alloc (.cells #[.int .i64 0, .int .i64 0] T2)) P B w.heap.size (w.heap.size + 1) W1.heap.size (W1.heap.size + 1) S rk fs (.slice ad SP.length sc) SP v (0, 0) F v L full ∧
      (SP ≠ [] → ad = some ⟨S, 0, none⟩ ∧ SP.length ≤ sc ∧ sc ≤ maxLen) := by
  have hlt := hk.lt
  have h3 := cell_lt2 c3
  have h4 := cell_lt2 tk
  have hbl : Below W1.heap.size W1 ((W1.alloc (.cells #[.int .i64 s1, .int .i64 s2, .slice ad SP.length sc, .int .i64 s3] T1)).alloc (.cells #[.int .i64 0, .int .i64 0] T2)) := below_al (below_al (Below.refl _ _) _) _
  have hc : ∀ b o x, W1.cell? ⟨b, o, none⟩ = some x → ((W1.alloc (.cells #[.int .i64 s1, .int .i64 s2, .slice ad SP.length sc, .int .i64 s3] T1)).alloc (.cells #[.int .i64 0, .int .i64 0] T2)).cell? ⟨b, o, none⟩ = some x := fun b o x hx => (hbl.cell (p := ⟨b, o, none⟩) (cell_lt2 hx)).trans hx
  have hbw : Below w.heap.size w ((W1.alloc (.cells #[.int .i64 s1, .int .i64 s2, .slice ad SP.length sc, .int .i64 s3] T1)).alloc (.cells #[.int .i64 0, .int .i64 0] T2)) := below_al (below_al hb _) _
  have hfw : ∀ S, w.heap.size ≤ S → S < W1.heap.size → (∀ (i : Nat) (s : Sp), SP[i]? = some s → W1.cell? ⟨S, i * 6, none⟩ = some (.int .i64 s.at_) ∧ W1.cell? ⟨S, i * 6 + 1, none⟩ = some (.int .i64 s.len)) →
      FwB w.heap.size ((W1.alloc (.cells #[.int .i64 s1, .int .i64 s2, .slice ad SP.length sc, .int .i64 s3] T1)).alloc (.cells #[.int .i64 0, .int .i64 0] T2)).heap.size P w.heap.size (w.heap.size + 1) W1.heap.size (W1.heap.size + 1) S ∧
      HdW w ((W1.alloc (.cells #[.int .i64 s1, .int .i64 s2, .slice ad SP.length sc, .int .i64 s3] T1)).alloc (.cells #[.int .i64 0, .int .i64 0] T2)) ((W1.alloc (.cells #[.int .i64 s1, .int .i64 s2, .slice ad SP.length sc, .int .i64 s3] T1)).alloc (.cells #[.int .i64 0, .int .i64 0] T2)) P B w.heap.size (w.heap.size + 1) W1.heap.size (W1.heap.size + 1) S rk fs (.slice ad SP.length sc) SP v (0, 0) F v L full := fun S h1 h2 hrow => by
    refine ⟨⟨hlt, ?_, ?_, ?_, ?_, ?_, by omega, by omega, by omega, by omega⟩, ⟨⟨hc _ _ _ c3, hc _ _ _ tk, hc _ _ _ tf, by simp [go_sem], by simp [go_sem], by simp [go_sem], fun k => by simp [go_sem], fun i s hi => ⟨hc _ _ _ (hrow i s hi).1, hc _ _ _ (hrow i s hi).2⟩⟩, hk.next hbw, hR, Fr.of_below hbw _ _, Later.refl _ _, Nat.le_refl _⟩⟩
    all_goals simp <;> omega
  rcases hsp with h0 | ⟨S, h1, h2, h3, h4, h5, h6⟩
  · obtain ⟨k1, k2⟩ := hfw w.heap.size (Nat.le_refl _) h3 (fun i s hi => by rw [h0] at hi; simp at hi)
    exact ⟨_, k1, k2, fun h => absurd h0 h⟩
  · obtain ⟨k1, k2⟩ := hfw S h2 h3 h6
    exact ⟨_, k1, k2, fun _ => ⟨h1, h4, h5⟩⟩
set_option maxRecDepth 100000 in
set_option maxHeartbeats 6400000 in
theorem fields_grp (n : Nat) (IH : ∀ t : Ty n, FindOk n t) (t : TyF (Ty n)) (hk : t.kind = 3 ∨ t.kind = 4) : FieldsOk (n + 1) t := by
  intro r wT w P v L full F at_ g hs hg ha0 ha1 hT hb hBP hbk hR
  have hF : formF (n + 1) t = (plK (formF n) (tsize n) t t.fields.length).bind finF := by
    rw [formF_succ]; unfold formOne; rw [if_neg (by omega), if_neg (by omega)]
  have hgp := (form_ok (n + 1) t hs g hg).1
  rw [hF] at hg
  obtain ⟨q, hq, hfin⟩ := Option.bind_eq_some_iff.1 hg
  clear hg
  have hq2 : upF q.size q.align ≤ 65536 ∧ g.1 = upF q.size q.align := by
    unfold finF at hfin
    split at hfin
    · rename_i h
      cases hfin
      exact ⟨h, rfl⟩
    · cases hfin
  have hM : marksF (n + 1) t at_ = endM (grpK (marksF n) t (spK (formF n) (tsize n) (tkind n) t t.fields.length) at_ t.fields.length) := by
    rw [marksF_succ]; unfold marksOne; rw [if_neg (by omega), if_neg (by omega)]
  rw [hM]
  have SPI := Lib.hid (fun (k : Nat) (f : FdF (Ty n)) (hf : t.fields[k]? = some f) => spot_in n t hs hk hq hq2.1 hf)
  have PL0 := fun W (hW : Below wT.heap.size wT W) => place_any n t r W hs hk (hT.below hW)
  rw [hq] at PL0
  have SND : Hid (∀ (i : Nat) (f : FdF (Ty n)), t.fields[i]? = some f → soundF n f.type = 0) := Lib.hid (fun i f hi => by
    rcases sound_cases n t hs with ⟨hk', _⟩ | ⟨hk', _⟩ | ⟨_, _, _, _, _, _, h⟩
    · omega
    · omega
    · exact (h i f hi).1)
  have GS : Hid (∀ (k : Nat) (f : FdF (Ty n)) (s : Sp), t.fields[k]? = some f → (spK (formF n) (tsize n) (tkind n) t t.fields.length)[k]? = some s → grpK (marksF n) t (spK (formF n) (tsize n) (tkind n) t t.fields.length) at_ (k + 1) = stepM (t.kind == 4) f (spanOf at_ s) (marksF n f.type (s.at_ + at_)) (grpK (marksF n) t (spK (formF n) (tsize n) (tkind n) t t.fields.length) at_ k)) := Lib.hid (fun k f s hf hs => grpK_succ (marksF n) t _ at_ hf hs)
  have G0 : Hid (grpK (marksF n) t (spK (formF n) (tsize n) (tkind n) t t.fields.length) at_ 0 = ([], (0, 0))) := Lib.hid rfl
  generalize spK (formF n) (tsize n) (tkind n) t t.fields.length = SP at *
  generalize grpK (marksF n) t SP at_ = G at *
  have PLK : Hid (∀ W, Below wT.heap.size wT W → Calls Try.prog 32 #[r.val] W fun e w' => (∃ (s a b : Int) (ad : Option Addr) (c : Nat) (ok : Bool), e = .returned (.tuple #[.agg #[.int .i64 s, .int .i64 a, .slice ad SP.length c, .int .i64 b], .bool ok]) ∧ (SP = [] ∨ ∃ S, ad = some ⟨S, 0, none⟩ ∧ W.heap.size ≤ S ∧ S < w'.heap.size ∧ SP.length ≤ c ∧ c ≤ maxLen ∧ ∀ (i : Nat) (s : Sp), SP[i]? = some s → w'.cell? ⟨S, i * 6, none⟩ = some (.int .i64 s.at_) ∧ w'.cell? ⟨S, i * 6 + 1, none⟩ = some (.int .i64 s.len))) ∧ ∃ p : Regrown, w' = more W p) := Lib.hid (fun W hW => (PL0 W hW).mono (by
    rintro e w1 ⟨⟨s, a, b, ad, l, c, ok, rfl, _, h2⟩, hp⟩
    obtain ⟨-, -, -, rfl, hown⟩ := h2 q rfl
    exact ⟨⟨s, a, b, ad, c, ok, rfl, (spots_cells hown).2⟩, hp⟩))
  clear PL0
  have FD := Lib.hid (fun (k : Nat) (f : FdF (Ty n)) (s : Sp) (qr : Raw) (hf : t.fields[k]? = some f) (hs2 : SP[k]? = some s) (hbt : f.isBits = false) (hqr : TyAt wT n f.type qr) (W : World) (v' : Value) (L' : List (Int × Int)) (f' : Bool) (F' : List (Int × Int)) (hW : Below wT.heap.size wT W) (hW2 : Bk W P wT.heap.size v' L' f') (hR' : BkR F' L' f') => by
    obtain ⟨s3, g3, e1, e2, e3, e4, e5, e6, e7, e8⟩ := SPI.out k f hf
    rw [hs2] at e1
    cases e1
    exact IH f.type qr wT W P v' L' f' F' (s.at_ + at_) g3 (SND.out k f hf) e2 (by omega) (by have := e6 hbt; omega) hqr hW hBP hW2 hR')
  obtain ⟨e1, e2, e3, e4, e5, e6, e7, e8, e9, hf, he⟩ := hT
  obtain ⟨rk, rs, rp, fa, fl, fc, rc, ea, el, ec⟩ := r
  simp only at e1 e4 hf
  have HF := Lib.hid hf.2.2
  have hfc := hf.1
  have hfm := hf.2.1
  have E4 := Lib.hid e4
  rw [← e1] at hk GS
  rw [← e4]
  have HB := Lib.hid hbk
  have HR0 := Lib.hid hR
  have HBW := Lib.hid hb
  have hlt := hbk.lt
  have hbs := hb.size
  have hvn : ∀ g, v.ownBlock = some g → g < w.heap.size := fun g hg => (hbk.row.lt g hg).2
  replace hvn := Lib.hid hvn
  have hvT : ∀ g, v.ownBlock = some g → wT.heap.size ≤ g := fun g hg => (hbk.row.lt g hg).1
  replace hvT := Lib.hid hvT
  have hA := Lib.hid (And.intro ha0 ha1)
  have hQ := Lib.hid hq2
  clear hf he e4 e6 e5 e7 e8 e9 e1 e2 e3 hF hM IH hbk hR hb hs hfin hq
  have haa : 0 ≤ at_ ∧ at_ ≤ 1000000 := by omega
  clear ha1 ha0 hq2 hgp
  unfold Raw.val at PLK ⊢
  simp only at PLK ⊢
  go_enter Try.func50, Try.ntmps50
  go_wp2_with (go_at_call 32; refine (PLK.out _ (below_al (below_al HBW.out _) _)).mono ?_; rintro e w1 ⟨⟨s1, s2, s3, ad, sc, ok, rfl, hsp⟩, pA, rfl⟩; have HSP := Lib.hid hsp; clear hsp)
  refine wp_letter (R := fun W => ∃ S, FwB w.heap.size W.heap.size P w.heap.size (w.heap.size + 1) (w.heap.size + 1 + 1 + pA.os.size) (w.heap.size + 1 + 1 + pA.os.size + 1) S ∧
    HdW w W W P wT.heap.size w.heap.size (w.heap.size + 1) (w.heap.size + 1 + 1 + pA.os.size) (w.heap.size + 1 + 1 + pA.os.size + 1) S rk (.slice fa fl fc) (.slice ad SP.length sc) SP v (0, 0) F v L full ∧ (SP ≠ [] → ad = some ⟨S, 0, none⟩ ∧ SP.length ≤ sc ∧ sc ≤ maxLen)) ?letA ?_
  case letA =>
    have hz1 : (more ((w.alloc (.cells #[.pointer (some ⟨P, 0, none⟩)] 91)).alloc (.cells #[.int .i64 rk, .int .i64 rs, .bool rp, .slice fa fl fc, .int .i64 rc, .slice ea el ec] 25)) pA).heap.size = w.heap.size + 1 + 1 + pA.os.size := by simp [go_sem]
    have h9 := fw_start (w := w) (W1 := more ((w.alloc (.cells #[.pointer (some ⟨P, 0, none⟩)] 91)).alloc (.cells #[.int .i64 rk, .int .i64 rs, .bool rp, .slice fa fl fc, .int .i64 rc, .slice ea el ec] 25)) pA) (s1 := s1) (s2 := s2) (s3 := s3) (T1 := 88) (T2 := 40) (rk := rk) (fs := .slice fa fl fc)
      (below_mo (below_al (below_al (Below.refl _ _) _) _) _) HB.out HR0.out (by simp [go_sem, ↓IntWalk.iteOmega]) (by simp [go_sem, ↓IntWalk.iteOmega]) (by simp [go_sem, ↓IntWalk.iteOmega]) (by
        rcases HSP.out with h0 | ⟨S, h1, h2, h3, h4, h5, h6⟩
        · exact .inl h0
        · exact .inr ⟨S, h1, Nat.le_trans (below_al (below_al (Below.refl w.heap.size w) _) _).size h2, h3, h4, h5, h6⟩)
    rw [hz1] at h9
    exact h9
  rintro wA ⟨S, hFB, hHd, hSS⟩
  have HFB := Lib.hid hFB
  have HHD := Lib.hid hHd
  have HSS := Lib.hid hSS
  have hbR := hFB.r
  have hb6 := hFB.b6
  have hbS := hFB.s
  have hb4 := hFB.b4
  have hb3 := hFB.b3
  have hnS := hFB.ns
  clear hFB hHd hSS HSP PLK
  generalize w.heap.size + 1 + 1 + pA.os.size = B6 at *
  go_loopw [23] (fun v23 wr => ∃ (k : Nat) (v' : Value) (L' : List (Int × Int)) (f' : Bool), k ≤ fl ∧ v23 = .int .i64 k ∧ HdW w wA wr P wT.heap.size w.heap.size (w.heap.size + 1) B6 (B6 + 1) S rk (.slice fa fl fc) (.slice ad SP.length sc) SP v (G k).2 (F ++ (G k).1) v' L' f' ∧ RunOk (G k).2) (fun v23 _ => fl - (intOf v23).toNat)
  case atStart => exact ⟨0, v, L, full, by omega, rfl, by rw [G0.out, List.append_nil]; exact HHD.out, by rw [G0.out]; exact ⟨by simp, by simp, by simp, by simp⟩⟩
  case round =>
    obtain ⟨k, v', L', f', hkl, rfl, hH, hrun⟩ := hrel
    have HGK : Hid (∃ st, G k = st) := Lib.hid ⟨_, rfl⟩
    obtain ⟨⟨Fk, ra, rb⟩, hGk⟩ := HGK.out
    rw [hGk] at hH hrun
    replace HGK := Lib.hid hGk
    clear hGk
    simp only at hH hrun
    have hr0 := hrun.1
    have hr1 := hrun.2.1
    have hr2 := hrun.2.2.1
    have hr3 := hrun.2.2.2
    simp only at hr0 hr1 hr2 hr3
    have hBr := below_fr HBW.out hH.fr hBP (fun g hg => hvT.out g hg)
    obtain ⟨y3, yk, yf, yl, yr0, yr1, yz, yrow⟩ := hH.f
    have hlr := hH.b.lt
    have hsz := hH.sz
    have hown' : ∀ g, v'.ownBlock = some g → g < wr.heap.size := fun g hg => (hH.b.row.lt g hg).2
    replace hown' := Lib.hid hown'
    have HH := Lib.hid hH
    have HRUN := Lib.hid hrun
    clear hH
    by_cases hlt : k < fl
    · obtain ⟨f, hf⟩ := get_sm t.fields k (by have := E4.out; omega)
      obtain ⟨s, g2, hsp, hg2, hs1, hs2, hs3, hs4, hs5, hs6⟩ := SPI.out k f hf
      obtain ⟨bF, off, rfl, hbF, hcs⟩ := HF.out (by omega)
      obtain ⟨rfl, hSc, hSm⟩ := HSS.out (fun e => by rw [e] at hsp; simp at hsp)
      obtain ⟨qr, hqr, hrw, hnm, c0, c1, c2, c3, c4, c5, c6, c7, c8⟩ := hcs k f hf
      obtain ⟨sp0, sp1⟩ := yrow k s hsp
      have hkS : (k : Int) < (SP.length : Int) := by have := (List.getElem?_eq_some_iff.1 hsp).1; omega
      have hkc : ∀ o x, wT.cell? ⟨bF, o, none⟩ = some x → wr.cell? ⟨bF, o, none⟩ = some x := fun o x hx => (hBr.cell (p := ⟨bF, o, none⟩) hbF).trans hx
      replace c0 := hkc _ _ c0
      replace c1 := hkc _ _ c1
      replace c2 := hkc _ _ c2
      replace c3 := hkc _ _ c3
      replace c4 := hkc _ _ c4
      replace c5 := hkc _ _ c5
      replace c6 := hkc _ _ c6
      replace c7 := hkc _ _ c7
      replace c8 := hkc _ _ c8
      have hbFr : bF < wr.heap.size := Nat.lt_of_lt_of_le hbF hBr.size
      have HBr := Lib.hid hBr
      have HG1 := Lib.hid (GS.out k f s hf hsp)
      have FDK := Lib.hid (fun hbt => FD.out k f s qr hf hsp hbt hqr)
      have hSr : S < wr.heap.size := by omega
      have hq7 : upF q.size q.align ≤ 65536 := hQ.out.1
      have hsb : 0 ≤ s.at_ + at_ ∧ s.at_ + at_ ≤ 1065536 := by omega
      have hsl : s.len ≤ 65536 := by omega
      have hSm2 : sc ≤ 9223372036854775807 := by unfold maxLen at hSm; exact hSm
      clear hcs yrow hkc hBr hqr hf hsp yz GS
      obtain ⟨nm, ty, bt, wd⟩ := f
      obtain ⟨qk, qs, qp, qfa, qfl, qfc, qc, qea, qel, qec⟩ := qr
      unfold Raw.val at FDK
      simp only at *
      go_upto_region 9 with fail
      refine wp_letter (R := fun W => FxW W wr.heap.size (wr.heap.size + 1) ⟨qk, qs, qp, qfa, qfl, qfc, qc, qea, qel, qec⟩ bt wd (s.at_ + at_) s.len ∧ HdW w wA W P wT.heap.size w.heap.size (w.heap.size + 1) B6 (B6 + 1) S rk (.slice (some ⟨bF, off, none⟩) fl fc) (.slice (some ⟨S, 0, none⟩) SP.length sc) SP v (ra, rb) (F ++ Fk) v' L' f' ∧ wr.heap.size + 2 ≤ W.heap.size ∧ Below wr.heap.size wr W) ?letB ?_
      case letB =>
        have hbl : ∀ W, Below wr.heap.size wr W → HdW w wA W P wT.heap.size w.heap.size (w.heap.size + 1) B6 (B6 + 1) S rk (.slice (some ⟨bF, off, none⟩) fl fc) (.slice (some ⟨S, 0, none⟩) SP.length sc) SP v (ra, rb) (F ++ Fk) v' L' f' := fun W hW => HH.out.next HFB.out hvn.out hW
        refine ⟨⟨?_, ?_, ?_, ?_, ?_, ?_, ?_, ?_, ?_, ?_⟩, hbl _ ?_, ?_, ?_⟩
        all_goals try (simp [go_sem, ↓IntWalk.iteOmega]; done)
        all_goals repeat (first | with_reducible exact Below.refl _ _ | with_reducible refine below_mo ?_ _ | with_reducible refine below_al ?_ _ | with_reducible refine below_st ?_ (by simp <;> omega) _)
      rintro wB ⟨hX, hHB, hzB, hBB⟩
      have HX := Lib.hid hX
      have HHB := Lib.hid hHB
      have HBB := Lib.hid (below_fr HBW.out hHB.fr hBP (fun g hg => hvT.out g hg))
      obtain ⟨x1, x2, x3, x4, x5, x6, x7, x8, xs0, xs1⟩ := hX
      obtain ⟨z3, zk, zf, zl, zr0, zr1, zz, zrow⟩ := hHB.f
      have zz0 := zz 0
      have zz1 := zz 1
      have hlB := hHB.b.lt
      have hszB := hHB.sz
      have hPR : P < B6 := by omega
      have HFL : Hid (Calls Try.prog 68 #[.pointer (some ⟨B6 + 1, 0, none⟩), .pointer (some ⟨w.heap.size, 0, none⟩)] wB fun e w2 => e = .returned (.tuple #[]) ∧ ∃ v2 L2 f2, HdW w wA w2 P wT.heap.size w.heap.size (w.heap.size + 1) B6 (B6 + 1) S rk (.slice (some ⟨bF, off, none⟩) fl fc) (.slice (some ⟨S, 0, none⟩) SP.length sc) SP v (0, 0) (F ++ (if 0 < rb then Fk ++ [(ra, rb)] else Fk)) v2 L2 f2 ∧ FxW w2 wr.heap.size (wr.heap.size + 1) ⟨qk, qs, qp, qfa, qfl, qfc, qc, qea, qel, qec⟩ bt wd (s.at_ + at_) s.len ∧ Below wT.heap.size wT w2) := Lib.hid (by
        refine (flush_any wB hHB.b hHB.r hBP (ra, rb) z3 zr0 zr1 zz (by omega) (hHB.ownR HFB.out hvn.out)).mono ?_
        intro e w2 hw2
        obtain ⟨h1, v2, L2, f2, hH2, hz2, hc2⟩ := hHB.flush HFB.out hvn.out hw2
        rw [flR_app] at hH2
        refine ⟨h1, v2, L2, f2, hH2, HX.out.keep (fun o => hc2 _ o (by omega) (by omega) (by omega) (fun e => by have := hown'.out _ e.symm; omega)) (fun o => hc2 _ o (by omega) (by omega) (by omega) (fun e => by have := hown'.out _ e.symm; omega)), below_fr HBW.out hH2.fr hBP (fun g hg => hvT.out g hg)⟩)
      have HS6 := Lib.hid hs5
      clear hHB zz zrow c0 c1 c2 c3 c4 c5 c6 c7 c8 sp0 sp1 y3 yk yf yl yr0 yr1 hs4 hs5 hs6
      cases bt with
      | false =>
        have HG2 : Hid (G (k + 1) = ((if 0 < rb then Fk ++ [(ra, rb)] else Fk) ++ marksF n ty (s.at_ + at_), (0, 0))) := Lib.hid (by rw [HG1.out, HGK.out]; exact stepM_plain _ _ _ _ _ rfl)
        replace FDK := Lib.hid (FDK.out rfl)
        generalize marksF n ty (s.at_ + at_) = MM at *
        go_wp2_with (first
          | (go_at_call 68; refine HFL.out.mono ?_; rintro e w2 ⟨rfl, v2, L2, f2, hH2, hX2, hB2⟩; have k1 := hX2.c1; have k2 := hX2.c2; have k3 := hX2.c3; have k4 := hX2.c4; have k5 := hX2.c5; have k6 := hX2.c6; have k7 := hX2.c7; have k8 := hX2.c8; have k9 := hX2.s0; have k10 := hX2.s1; have k11 := hH2.f.c3; have hl2 := hH2.b.lt; have HH2 := Lib.hid hH2; have HB2 := Lib.hid hB2; clear hH2 hX2 hB2)
          | (go_at_call 33; refine (FDK.out w2 v2 L2 f2 _ HB2.out HH2.out.b HH2.out.r).mono ?_; intro e w3 hw3; obtain ⟨rfl, v3, L3, f3, hH3⟩ := HH2.out.call HFB.out hvn.out hw3; have HH3 := Lib.hid hH3; clear hH3 hw3))
        refine ⟨⟨k + 1, v3, L3, f3, by omega, by go_num, by rw [HG2.out]; simp only; rw [← List.append_assoc]; exact HH3.out, by rw [HG2.out]; exact ⟨by simp, by simp, by simp, by simp⟩⟩, by simp [intOf]; omega⟩
      | true =>
        have h6 := HS6.out rfl
        clear FDK
        generalize marksF n ty (s.at_ + at_) = MM at *
        rcases (by omega : wd = 0 ∨ 0 < wd) with rfl | hwd
        · have HG2 : Hid (G (k + 1) = ((if 0 < rb then Fk ++ [(ra, rb)] else Fk), (0, 0))) := Lib.hid (by rw [HG1.out, HGK.out]; exact stepM_zero _ _ _ _ _ rfl rfl)
          go_wp2_with (go_at_call 68; refine HFL.out.mono ?_; rintro e w2 ⟨rfl, v2, L2, f2, hH2, hX2, hB2⟩; have k1 := hX2.c1; have k2 := hX2.c2; have k3 := hX2.c3; have k4 := hX2.c4; have k5 := hX2.c5; have k6 := hX2.c6; have k7 := hX2.c7; have k8 := hX2.c8; have k9 := hX2.s0; have k10 := hX2.s1; have k11 := hH2.f.c3; have k12 := hH2.f.r0; have k13 := hH2.f.r1; have k14 := hH2.f.z 0; have k15 := hH2.f.z 1; have hl2 := hH2.b.lt; have HH2 := Lib.hid hH2; have HB2 := Lib.hid hB2; clear hH2 hX2 hB2)
          refine ⟨⟨k + 1, v2, L2, f2, by omega, by go_num, by rw [HG2.out]; exact HH2.out, by rw [HG2.out]; exact ⟨by simp, by simp, by simp, by simp⟩⟩, by simp [intOf]; omega⟩
        · have hwne : wd ≠ 0 := by omega
          rcases hk with rfl | rfl
          · rcases (by omega : 0 < rb ∨ ¬ 0 < rb) with hrb | hrb
            · have HG2 : Hid (G (k + 1) = (Fk, (ra, s.at_ + at_ + s.len - ra))) := Lib.hid (by rw [HG1.out, HGK.out]; exact stepM_run _ _ _ _ rfl hwd hrb)
              go_wp2_with fail
              refine ⟨⟨k + 1, v', L', f', by omega, by go_num, by rw [HG2.out]; exact HHB.out.set HFB.out hvn.out 1 _ (.inr rfl), by rw [HG2.out]; exact ⟨by simp only; omega, by simp only; omega, by simp only; omega, by simp only; omega⟩⟩, by simp [intOf]; omega⟩
            · have HG2 : Hid (G (k + 1) = (Fk, (s.at_ + at_, s.len))) := Lib.hid (by rw [HG1.out, HGK.out]; exact stepM_new _ _ _ _ rfl hwd hrb)
              go_wp2_with fail
              refine ⟨⟨k + 1, v', L', f', by omega, by go_num, by rw [HG2.out]; exact (HHB.out.set HFB.out hvn.out 0 _ (.inl rfl)).set HFB.out hvn.out 1 _ (.inr rfl), by rw [HG2.out]; exact ⟨by simp only; omega, by simp only; omega, by simp only; omega, by simp only; omega⟩⟩, by simp [intOf]; omega⟩
          · have HG2 : Hid (G (k + 1) = ((if 0 < rb then Fk ++ [(ra, rb)] else Fk), (s.at_ + at_, s.len))) := Lib.hid (by rw [HG1.out, HGK.out]; exact stepM_uni _ _ _ _ rfl hwd)
            go_wp2_with (go_at_call 68; refine HFL.out.mono ?_; rintro e w2 ⟨rfl, v2, L2, f2, hH2, hX2, hB2⟩; have k1 := hX2.c1; have k2 := hX2.c2; have k3 := hX2.c3; have k4 := hX2.c4; have k5 := hX2.c5; have k6 := hX2.c6; have k7 := hX2.c7; have k8 := hX2.c8; have k9 := hX2.s0; have k10 := hX2.s1; have k11 := hH2.f.c3; have k12 := hH2.f.r0; have k13 := hH2.f.r1; have k14 := hH2.f.z 0; have k15 := hH2.f.z 1; have hl2 := hH2.b.lt; have HH2 := Lib.hid hH2; have HB2 := Lib.hid hB2; clear hH2 hX2 hB2)
            refine ⟨⟨k + 1, v2, L2, f2, by omega, by go_num, by rw [HG2.out]; exact (HH2.out.set HFB.out hvn.out 0 _ (.inl rfl)).set HFB.out hvn.out 1 _ (.inr rfl), by rw [HG2.out]; exact ⟨by simp only; omega, by simp only; omega, by simp only; omega, by simp only; omega⟩⟩, by simp [intOf]; omega⟩
    · obtain rfl : k = fl := by omega
      have hPR : P < B6 := by omega
      have HFL : Hid (Calls Try.prog 68 #[.pointer (some ⟨B6 + 1, 0, none⟩), .pointer (some ⟨w.heap.size, 0, none⟩)] wr fun e w2 => BkPost w P wT.heap.size v (BkR (F ++ endM (G k))) e w2) := Lib.hid (by
        refine (flush_any wr HH.out.b HH.out.r hBP (ra, rb) y3 yr0 yr1 yz (by omega) (HH.out.ownR HFB.out hvn.out)).mono ?_
        intro e w2 hw2
        obtain ⟨h1, v2, L2, f2, hH2, hz2, hc2⟩ := HH.out.flush HFB.out hvn.out hw2
        rw [flR_app] at hH2
        refine ⟨h1, v2, L2, f2, hH2.b, ?_, hH2.fr, fun g hg => (hH2.la g hg).imp id (fun h9 => by omega)⟩
        rw [HGK.out]
        exact hH2.r)
      clear yrow yz
      go_wp2_with (go_at_call 68; refine HFL.out.mono ?_; intro e w2 hw2; obtain ⟨rfl, hpost⟩ := hw2; have HPO := Lib.hid hpost; clear hpost)
      go_returns
      exact ⟨rfl, HPO.out⟩
end Go.Proofs.Ytlbkloamabomcaa
