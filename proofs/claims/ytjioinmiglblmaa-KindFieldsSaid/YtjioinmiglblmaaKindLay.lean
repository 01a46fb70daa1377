/- Fields as they lie, cell by cell; fields in another order lie so, too. No condition. -/
import Derived.Test.YtjioinmiglblmaaKindDeep
import Derived.Test.YtjioinmiglblmaaKindAwake
import Derived.Maps.AppendAt
import Derived.Deep.AppendLies
namespace Go.Proofs.Ytjioinmiglblmaa
open Go.RowKit Go.Sort
set_option linter.unusedVariables false
set_option linter.unusedSimpArgs false
/-- fields lie so. -/
def FieldsAt (w : World) (n : Nat) (fs : List (FdF (Ty n))) (b off : Nat) : Prop := ∀ i f, fs[i]? = some f → ∃ q : Raw, TyAt w n f.type q ∧ rng f.width ∧ f.name.size ≤ 9223372036854775807 ∧
        w.cell? ⟨b, off + i * 9, none⟩ = some (.string f.name) ∧ w.cell? ⟨b, off + i * 9 + 1, none⟩ = some (.int .i64 q.kind) ∧ w.cell? ⟨b, off + i * 9 + 2, none⟩ = some (.int .i64 q.size) ∧
        w.cell? ⟨b, off + i * 9 + 3, none⟩ = some (.bool q.packed) ∧ w.cell? ⟨b, off + i * 9 + 4, none⟩ = some (.slice q.fa q.fl q.fc) ∧ w.cell? ⟨b, off + i * 9 + 5, none⟩ = some (.int .i64 q.count) ∧
        w.cell? ⟨b, off + i * 9 + 6, none⟩ = some (.slice q.ea q.el q.ec) ∧ w.cell? ⟨b, off + i * 9 + 7, none⟩ = some (.bool f.isBits) ∧ w.cell? ⟨b, off + i * 9 + 8, none⟩ = some (.int .i64 f.width)
/-- cells of fields. -/
def LayOf (w : World) (n : Nat) (fs : List (FdF (Ty n))) (L : List Value) : Prop := ∀ i f, fs[i]? = some f → ∃ q : Raw, TyAt w n f.type q ∧ rng f.width ∧ f.name.size ≤ 9223372036854775807 ∧
        L[i * 9]? = some (.string f.name) ∧ L[i * 9 + 1]? = some (.int .i64 q.kind) ∧ L[i * 9 + 2]? = some (.int .i64 q.size) ∧
        L[i * 9 + 3]? = some (.bool q.packed) ∧ L[i * 9 + 4]? = some (.slice q.fa q.fl q.fc) ∧ L[i * 9 + 5]? = some (.int .i64 q.count) ∧
        L[i * 9 + 6]? = some (.slice q.ea q.el q.ec) ∧ L[i * 9 + 7]? = some (.bool f.isBits) ∧ L[i * 9 + 8]? = some (.int .i64 f.width)
theorem lay_of {w : World} {n : Nat} : ∀ (fs : List (FdF (Ty n))) (b off : Nat), FieldsAt w n fs b off → ∃ L : List Value, L.length = 9 * fs.length ∧ (∀ u ∈ L, u.oneCell' = true) ∧ (∀ j u, L[j]? = some u → w.cell? ⟨b, off + j, none⟩ = some u) ∧ LayOf w n fs L
  | [], b, off, h => ⟨[], rfl, by simp, by simp, fun i f hi => by simp at hi⟩
  | f :: fs, b, off, h => by
    obtain ⟨L, l1, l2, l3, l4⟩ := lay_of fs b (off + 9) (fun i g hi => by
      obtain ⟨q, hq⟩ := h (i + 1) g (by simpa using hi)
      refine ⟨q, ?_⟩
      have e : off + (i + 1) * 9 = off + 9 + i * 9 := by omega
      rw [e] at hq
      exact hq)
    obtain ⟨q, hq, g1, g2, c0, c1, c2, c3, c4, c5, c6, c7, c8⟩ := h 0 f rfl
    simp only [Nat.zero_mul, Nat.add_zero] at c0 c1 c2 c3 c4 c5 c6 c7 c8
    refine ⟨[.string f.name, .int .i64 q.kind, .int .i64 q.size, .bool q.packed, .slice q.fa q.fl q.fc, .int .i64 q.count, .slice q.ea q.el q.ec, .bool f.isBits, .int .i64 f.width] ++ L, by simp [l1]; omega, ?_, ?_, ?_⟩
    · intro u hu
      rcases List.mem_append.mp hu with hu | hu
      · simp at hu
        rcases hu with rfl | rfl | rfl | rfl | rfl | rfl | rfl | rfl | rfl <;> rfl
      · exact l2 u hu
    · intro j u hj
      match j, hj with
      | 0, hj => simp at hj; subst hj; exact c0
      | 1, hj => simp at hj; subst hj; exact c1
      | 2, hj => simp at hj; subst hj; exact c2
      | 3, hj => simp at hj; subst hj; exact c3
      | 4, hj => simp at hj; subst hj; exact c4
      | 5, hj => simp at hj; subst hj; exact c5
      | 6, hj => simp at hj; subst hj; exact c6
      | 7, hj => simp at hj; subst hj; exact c7
      | 8, hj => simp at hj; subst hj; exact c8
      | j + 9, hj =>
        have := l3 j u (by simpa using hj)
        have e : off + (j + 9) = off + 9 + j := by omega
        rw [e]
        exact this
    · intro i g hi
      match i, hi with
      | 0, hi =>
        obtain rfl : f = g := by simpa using hi
        exact ⟨q, hq, g1, g2, rfl, rfl, rfl, rfl, rfl, rfl, rfl, rfl, rfl⟩
      | i + 1, hi =>
        obtain ⟨q, hq⟩ := l4 i g (by simpa using hi)
        refine ⟨q, ?_⟩
        have e : (i + 1) * 9 = i * 9 + 9 := by omega
        simp only [e]
        simpa [Nat.add_right_comm] using hq
theorem LayOf.get {w : World} {n : Nat} {fs gs : List (FdF (Ty n))} {L M : List Value} {i k : Nat} (h : LayOf w n fs L) {f : FdF (Ty n)} (hf : fs[k]? = some f) (hm : ∀ o, o < 9 → M[i * 9 + o]? = L[k * 9 + o]?) : ∃ q : Raw, TyAt w n f.type q ∧ rng f.width ∧ f.name.size ≤ 9223372036854775807 ∧
        M[i * 9]? = some (.string f.name) ∧ M[i * 9 + 1]? = some (.int .i64 q.kind) ∧ M[i * 9 + 2]? = some (.int .i64 q.size) ∧
        M[i * 9 + 3]? = some (.bool q.packed) ∧ M[i * 9 + 4]? = some (.slice q.fa q.fl q.fc) ∧ M[i * 9 + 5]? = some (.int .i64 q.count) ∧
        M[i * 9 + 6]? = some (.slice q.ea q.el q.ec) ∧ M[i * 9 + 7]? = some (.bool f.isBits) ∧ M[i * 9 + 8]? = some (.int .i64 f.width) := by
  obtain ⟨q, hq, g1, g2, c0, c1, c2, c3, c4, c5, c6, c7, c8⟩ := h k f hf
  exact ⟨q, hq, g1, g2, (hm 0 (by omega)).trans c0, (hm 1 (by omega)).trans c1, (hm 2 (by omega)).trans c2, (hm 3 (by omega)).trans c3, (hm 4 (by omega)).trans c4, (hm 5 (by omega)).trans c5, (hm 6 (by omega)).trans c6, (hm 7 (by omega)).trans c7, (hm 8 (by omega)).trans c8⟩
theorem LayOf.turn {w : World} {n : Nat} {fs : List (FdF (Ty n))} {L : List Value} (h : LayOf w n fs L) (hl : L.length = 9 * fs.length) (c : Nat) (hc : c ≤ fs.length) : LayOf w n (fs.drop c ++ fs.take c) (L.drop (9 * c) ++ L.take (9 * c)) := by
  intro i f hi
  rw [List.getElem?_append] at hi
  split at hi
  · rename_i h1
    rw [List.length_drop] at h1
    rw [List.getElem?_drop] at hi
    refine h.get (k := c + i) (gs := fs) hi fun o ho => ?_
    rw [List.getElem?_append_left (by rw [List.length_drop]; omega), List.getElem?_drop]
    congr 1
    omega
  · rename_i h1
    rw [List.length_drop] at h1 hi
    rw [List.getElem?_take] at hi
    split at hi
    · rename_i h2
      refine h.get (k := i - (fs.length - c)) (gs := fs) hi fun o ho => ?_
      rw [List.getElem?_append_right (by rw [List.length_drop]; omega), List.length_drop, List.getElem?_take, if_pos (by omega)]
      congr 1
      omega
    · cases hi
theorem LayOf.at {w W : World} {n : Nat} {fs : List (FdF (Ty n))} {L : List Value} (h : LayOf w n fs L) {g : Nat} (hT : ∀ t q, TyAt w n t q → TyAt W n t q) (hc : ∀ j, j < 9 * fs.length → W.cell? ⟨g, j, none⟩ = L[j]?) : FieldsAt W n fs g 0 := by
  intro i f hi
  obtain ⟨hlt, _⟩ := List.getElem?_eq_some_iff.mp hi
  obtain ⟨q, hq, g1, g2, c0, c1, c2, c3, c4, c5, c6, c7, c8⟩ := h i f hi
  simp only [Nat.zero_add]
  exact ⟨q, hT _ _ hq, g1, g2, (hc _ (by omega)).trans c0, (hc _ (by omega)).trans c1, (hc _ (by omega)).trans c2, (hc _ (by omega)).trans c3, (hc _ (by omega)).trans c4, (hc _ (by omega)).trans c5, (hc _ (by omega)).trans c6, (hc _ (by omega)).trans c7, (hc _ (by omega)).trans c8⟩
/-- AT A STEP OF A REGION THAT DRAWS ITS ORDER: an append of so many, of none, too, to an owned row; the row is not empty behind it. -/
theorem step_append_some {P : Program} {ops : Array Oper} {o : Oper} {a : Act} {w : World} {K : Act → World → Prop} {Q : Exit → Act → World → Prop} {E : Prop} (hgd : o.guard = none) (s x : Operand) (t : TypeId)
    (ho : o.op = .call { callee := .builtin .append, args := #[s, x], argTypes := #[t, t] })
    (base : Nat) (e : TypeId) (i : TypeInfo) (z : Value) (size bytes : Nat) (ht : P.underlying t = some (.slice e)) (hi : P.info? e = some i) (hz : i.zero = some z)
    (hsize : i.size = size) (hby : i.bytes = bytes) (hzs : z.cells.size = size) (hsz : 0 < size)
    (v : Value) (n : Nat) (xs : List Value) (hs : a.eval s = v) (hown : w.ownsRow base e size v n xs)
    (ad : Addr) (m c : Nat) (news : List Value) (hx : a.eval x = .slice (some ad) m c) (hl : news.length = m * size) (hnews : ∀ j u, news[j]? = some u → w.cell? (ad.add j) = some u) (h1 : ∀ u ∈ news, u.oneCell' = true)
    (hm : 0 < n + m) (h63 : n + m ≤ maxLen) (hbytes : (n + m) * bytes ≤ 140737488355328) (hbase : base ≤ w.heap.size)
    (h : ∀ g cap w', w'.ownsRow base e size (.slice (some ⟨g, 0, none⟩) (n + m) cap) (n + m) (xs ++ news) → w.grownBy w' v.ownBlock → (v.ownBlock = some g ∨ g = w.heap.size) → g < w'.heap.size → K (a.put o.dst (.slice (some ⟨g, 0, none⟩) (n + m) cap)) w') :
    if Region.wanted o (yielded ops a.tmps) = true then Oper.wp P o a w K Q else E := by
  have hw : Region.wanted o (yielded ops a.tmps) = true := by simp [Region.wanted, hgd]
  rw [if_pos hw]
  obtain ⟨v', w', hr, h2, h3, _, h5⟩ := run_append_own_at (P := P) w base t o.type e i z size bytes ht hi hz hsize hby hzs hsz v n xs hown ad m c news hl hnews h1 h63 hbytes hbase
  obtain ⟨g, cap, rfl, _, hlt⟩ := h2.form (by omega)
  unfold Oper.wp execOp
  simp only [ho, resolve, invoke, builtin, Sem.run_bind, Sem.run_pure, Result.andThen_ok, List.map_toArray, List.map_cons, List.map_nil, hs, hx, hr]
  refine h g cap w' h2 h3 ?_ hlt
  rcases h5 with h5 | h5
  · exact .inl (by rw [← h5]; rfl)
  · right
    simpa [Value.ownBlock] using h5
end Go.Proofs.Ytjioinmiglblmaa
