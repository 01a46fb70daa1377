/- A packed struct of numbers with names of one letter, as it lies in memory; its layout, on plain data. No condition. -/
import Derived.Test.YtlbkloamabomcaaKindTurnMath
import Derived.Test.YtlbkloamabomcaaLayApartT
import Derived.Test.YtlbkloamabomcaaStepBytes
import Derived.Maps.AppendAt
import Derived.Deep.AppendLies
import Derived.Lib.SmallJoins
namespace Go.Proofs.Ytlbkloamabomcaa
open Go.RowKit Go.Sort
set_option linter.unusedVariables false
set_option linter.unusedSimpArgs false
theorem fd_info : (Try.prog.info? 51).map (fun i => (i.zero, i.size, i.bytes)) = some (some (.agg #[.string ⟨#[]⟩, .int .i64 0, .int .i64 0, .bool false, .slice none 0 0, .int .i64 0, .slice none 0 0, .bool false, .int .i64 0]), 9, 112) := by kernel_rfl
theorem cell_upd (w : World) (b i j : Nat) (v : Value) : ((w.setCell ⟨b, i, none⟩ v).cell? ⟨b, j, none⟩) = if i = j then (w.cell? ⟨b, j, none⟩).map (fun _ => v) else w.cell? ⟨b, j, none⟩ := by
  by_cases h : i = j
  · subst h
    rw [if_pos rfl]
    cases hc : w.cell? ⟨b, i, none⟩ with
    | some u => exact World.cell?_setCell_same _ _ _ hc
    | none =>
      simp only [Option.map_none]
      unfold World.cell? at hc ⊢
      simp only [World.setCell, Array.getElem?_modify]
      cases hb : w.heap[b]? with
      | none => simp [hb]
      | some o =>
        simp only [hb] at hc
        cases o with
        | cells c e f =>
          have hc2 : c[i]? = none := by simpa using hc
          have : c.size ≤ i := by simpa using hc2
          simp
          omega
        | _ => simp
  · rw [if_neg h]
    exact World.cell?_setCell_other _ _ _ _ (by simp [h])
def FieldsAt (w : World) (n : Nat) (fs : List (FdF (Ty n))) (b off : Nat) : Prop := ∀ i f, fs[i]? = some f → ∃ q : Raw, TyAt w n f.type q ∧ rng f.width ∧ f.name.size ≤ 9223372036854775807 ∧
        w.cell? ⟨b, off + i * 9, none⟩ = some (.string f.name) ∧ w.cell? ⟨b, off + i * 9 + 1, none⟩ = some (.int .i64 q.kind) ∧ w.cell? ⟨b, off + i * 9 + 2, none⟩ = some (.int .i64 q.size) ∧
        w.cell? ⟨b, off + i * 9 + 3, none⟩ = some (.bool q.packed) ∧ w.cell? ⟨b, off + i * 9 + 4, none⟩ = some (.slice q.fa q.fl q.fc) ∧ w.cell? ⟨b, off + i * 9 + 5, none⟩ = some (.int .i64 q.count) ∧
        w.cell? ⟨b, off + i * 9 + 6, none⟩ = some (.slice q.ea q.el q.ec) ∧ w.cell? ⟨b, off + i * 9 + 7, none⟩ = some (.bool f.isBits) ∧ w.cell? ⟨b, off + i * 9 + 8, none⟩ = some (.int .i64 f.width)
def LayOf (w : World) (n : Nat) (fs : List (FdF (Ty n))) (L : List Value) : Prop := ∀ i f, fs[i]? = some f → ∃ q : Raw, TyAt w n f.type q ∧ rng f.width ∧ f.name.size ≤ 9223372036854775807 ∧
        L[i * 9]? = some (.string f.name) ∧ L[i * 9 + 1]? = some (.int .i64 q.kind) ∧ L[i * 9 + 2]? = some (.int .i64 q.size) ∧
        L[i * 9 + 3]? = some (.bool q.packed) ∧ L[i * 9 + 4]? = some (.slice q.fa q.fl q.fc) ∧ L[i * 9 + 5]? = some (.int .i64 q.count) ∧
        L[i * 9 + 6]? = some (.slice q.ea q.el q.ec) ∧ L[i * 9 + 7]? = some (.bool f.isBits) ∧ L[i * 9 + 8]? = some (.int .i64 f.width)
theorem LayOf.get {w : World} {n : Nat} {fs gs : List (FdF (Ty n))} {L M : List Value} {i k : Nat} (h : LayOf w n fs L) {f : FdF (Ty n)} (hf : fs[k]? = some f) (hm : ∀ o, o < 9 → M[i * 9 + o]? = L[k * 9 + o]?) : ∃ q : Raw, TyAt w n f.type q ∧ rng f.width ∧ f.name.size ≤ 9223372036854775807 ∧
        M[i * 9]? = some (.string f.name) ∧ M[i * 9 + 1]? = some (.int .i64 q.kind) ∧ M[i * 9 + 2]? = some (.int .i64 q.size) ∧
        M[i * 9 + 3]? = some (.bool q.packed) ∧ M[i * 9 + 4]? = some (.slice q.fa q.fl q.fc) ∧ M[i * 9 + 5]? = some (.int .i64 q.count) ∧
        M[i * 9 + 6]? = some (.slice q.ea q.el q.ec) ∧ M[i * 9 + 7]? = some (.bool f.isBits) ∧ M[i * 9 + 8]? = some (.int .i64 f.width) := by
  obtain ⟨q, hq, g1, g2, c0, c1, c2, c3, c4, c5, c6, c7, c8⟩ := h k f hf
  exact ⟨q, hq, g1, g2, (hm 0 (by omega)).trans c0, (hm 1 (by omega)).trans c1, (hm 2 (by omega)).trans c2, (hm 3 (by omega)).trans c3, (hm 4 (by omega)).trans c4, (hm 5 (by omega)).trans c5, (hm 6 (by omega)).trans c6, (hm 7 (by omega)).trans c7, (hm 8 (by omega)).trans c8⟩
theorem LayOf.at {w W : World} {n : Nat} {fs : List (FdF (Ty n))} {L : List Value} (h : LayOf w n fs L) {g : Nat} (hT : ∀ t q, TyAt w n t q → TyAt W n t q) (hc : ∀ j, j < 9 * fs.length → W.cell? ⟨g, j, none⟩ = L[j]?) : FieldsAt W n fs g 0 := by
  intro i f hi
  obtain ⟨hlt, _⟩ := List.getElem?_eq_some_iff.mp hi
  obtain ⟨q, hq, g1, g2, c0, c1, c2, c3, c4, c5, c6, c7, c8⟩ := h i f hi
  simp only [Nat.zero_add]
  exact ⟨q, hT _ _ hq, g1, g2, (hc _ (by omega)).trans c0, (hc _ (by omega)).trans c1, (hc _ (by omega)).trans c2, (hc _ (by omega)).trans c3, (hc _ (by omega)).trans c4, (hc _ (by omega)).trans c5, (hc _ (by omega)).trans c6, (hc _ (by omega)).trans c7, (hc _ (by omega)).trans c8⟩
/-- a number of so many bytes, as a type. -/
def tyI (n : Nat) (s : Int) : TyF (Ty n) := { kind := 1, size := s, packed := false, fields := [], count := 0, elem := [] }
/-- the field's name. -/
def nmK (i : Nat) : ByteArray := ⟨#[UInt8.ofNat (97 + i)]⟩
/-- the field. -/
def fdK (sz : Nat → Int) (i : Nat) : FdF (Ty 1) := { name := nmK i, type := tyI 0 (sz i), isBits := false, width := 0 }
/-- the type of so many of them. -/
def tyK (k : Int) (p : Bool) (fs : List (FdF (Ty 1))) : TyF (Ty 1) := { kind := k, size := 0, packed := p, fields := fs, count := 0, elem := [] }
def fsK (sz : Nat → Int) (m : Nat) : List (FdF (Ty 1)) := (List.range m).map (fdK sz)
theorem fsK_len (sz : Nat → Int) (m : Nat) : (fsK sz m).length = m := by simp [fsK]
theorem fsK_get (sz : Nat → Int) (m i : Nat) (h : i < m) : (fsK sz m)[i]? = some (fdK sz i) := by simp [fsK, h]
theorem nmK_name : ∀ i, i < 26 → nameB (nmK i) = true := by decide
theorem nmK_ne : ∀ i, i < 26 → ∀ j, j < 26 → ((nmK i).toList == (nmK j).toList) = decide (i = j) := by
  simp only [ByteArray.toList_eq]
  decide
theorem nmK_there : ∀ i, i < 26 → (nmK i).toList.isEmpty = false := by
  simp only [ByteArray.toList_eq]
  decide
theorem tyI_sound (s : Int) (h : s = 1 ∨ s = 2 ∨ s = 4 ∨ s = 8) : soundF 1 (tyI 0 s) = 0 := by
  rw [soundF_succ]
  rcases h with rfl | rfl | rfl | rfl <;> rfl
theorem tyI_depth (s : Int) (most : Int) : depthF 1 (tyI 0 s) most = 1 := by
  rw [depthF_succ]
  unfold tyI
  simp
def szOk (sz : Nat → Int) : Prop := ∀ i, sz i = 1 ∨ sz i = 2 ∨ sz i = 4 ∨ sz i = 8
theorem fdK_ok {sz : Nat → Int} (hs : szOk sz) (p : Bool) (i : Nat) (hi : i < 26) (tw : Bool) : fieldE p (nmK i) tw (soundF 1 (tyI 0 (sz i))) false 0 1 (sz i) = if tw = true then 7 else 0 := by
  unfold fieldE
  rw [nmK_name i hi, nmK_there i hi, tyI_sound _ (hs i)]
  cases tw <;> simp
theorem kOnly {k : Int} (hk : k = 3 ∨ k = 4) (p : Bool) (m : Nat) : onlyB k 0 p m 0 0 = true := by
  rcases hk with rfl | rfl <;> unfold onlyB <;> simp
theorem group_hit {k : Int} (hk : k = 3 ∨ k = 4) (p : Bool) (fs : List (FdF (Ty 1))) : soundF 2 (tyK k p fs) = groupE (soundF 1) (tkind 1) (tsize 1) (tyK k p fs) := by
  rw [soundF_succ]
  unfold oneE
  have e : onlyB (tyK k p fs).kind (tyK k p fs).size (tyK k p fs).packed (tyK k p fs).fields.length (tyK k p fs).count (tyK k p fs).elem.length = true := kOnly hk p _
  rw [if_neg (by rw [e]; simp), if_neg (by show ¬ k = 1; omega), if_neg (by show ¬ k = 2; omega), if_neg (by show ¬ k = 5; omega)]
theorem depth_two {k : Int} (p : Bool) (sz : Nat → Int) (fs : List (FdF (Ty 1))) (h0 : 0 < fs.length) (h : ∀ f ∈ fs, ∃ i, f = fdK sz i) (most : Int) (hm : 2 ≤ most) : depthF 2 (tyK k p fs) most = 2 := by
  rw [depthF_succ, if_pos (by omega)]
  have e1 : ∀ (l : List (FdF (Ty 1))) (o : Int), (∀ f ∈ l, ∃ i, f = fdK sz i) → 0 ≤ o → o ≤ 1 → l.foldl (fun o f => max o (depthF 1 f.type (most - 1))) o = if l = [] then o else 1 := by
    intro l
    induction l with
    | nil => intro o _ _ _; simp
    | cons f l ih =>
      intro o hl h0 h1
      obtain ⟨i, rfl⟩ := hl _ List.mem_cons_self
      have e : depthF 1 (fdK sz i).type (most - 1) = 1 := tyI_depth _ _
      rw [List.foldl_cons, e, ih _ (fun f hf => hl f (List.mem_cons_of_mem _ hf)) (by omega) (by omega)]
      split <;> simp <;> omega
  show (List.foldl _ (List.foldl _ 0 fs) []) + 1 = 2
  rw [List.foldl_nil, e1 fs 0 h (by omega) (by omega), if_neg (by intro e; rw [e] at h0; simp at h0)]
  rfl
theorem fsK_all (sz : Nat → Int) (m : Nat) : ∀ f ∈ fsK sz m, ∃ i, f = fdK sz i := by
  intro f hf
  obtain ⟨i, _, rfl⟩ := List.mem_map.mp hf
  exact ⟨i, rfl⟩
theorem fsK_zero {k : Int} (hk : k = 3 ∨ k = 4) (p : Bool) : SoundF 2 (tyK k p []) = 12 := by
  unfold SoundF
  have e : depthF 2 (tyK k p []) 65 = 1 := by rw [depthF_succ]; simp [tyK]
  rw [e, if_neg (by omega), group_hit hk]
  unfold groupE
  rw [if_pos (by left; simp [tyK])]
theorem fsK_of {sz : Nat → Int} {k : Int} {p : Bool} (i m : Nat) (fs : List (FdF (Ty 1))) (h : fs[i]? = some (fdK sz m)) : fieldOf (soundF 1) (tkind 1) (tsize 1) (tyK k p fs) i = fieldE p (nmK m) (anyB (nameAt fs) (nmK m) i) (soundF 1 (tyI 0 (sz m))) false 0 1 (sz m) := by
  rw [fieldOf_some _ _ _ (tyK k p fs) i (fdK sz m) h]
  rfl
theorem fsK_apart {sz : Nat → Int} {m i : Nat} (hm : m ≤ 26) (hi : i < m) (fs : List (FdF (Ty 1))) (hf : ∀ j, j < m → fs[j]? = some (fdK sz j)) : anyB (nameAt fs) (nmK i) i = false := by
  unfold anyB
  rw [List.any_eq_false]
  intro j hj
  have := List.mem_range.1 hj
  rw [nameAt_eq fs j _ (hf j (by omega))]
  show ¬ ((nmK j).toList == (nmK i).toList) = true
  rw [nmK_ne j (by omega) i (by omega)]
  simp
  omega
theorem fsK_sound {sz : Nat → Int} (hs : szOk sz) {k : Int} (hk : k = 3 ∨ k = 4) (p : Bool) (m : Nat) (h0 : 0 < m) (hm : m ≤ 26) : SoundF 2 (tyK k p (fsK sz m)) = 0 := by
  unfold SoundF
  rw [depth_two (k := k) p sz (fsK sz m) (by rw [fsK_len]; omega) (fsK_all sz m) 65 (by omega), if_neg (by omega), group_hit hk]
  unfold groupE
  rw [if_neg (by show ¬ ((fsK sz m).length < 1 ∨ 32 < (fsK sz m).length); rw [fsK_len]; omega)]
  refine firstE_zero _ _ fun i hi => ?_
  have hi' : i < m := by rw [← fsK_len sz m]; exact hi
  rw [fsK_of i i _ (fsK_get sz m i hi'), fsK_apart hm hi' _ (fun j hj => fsK_get sz m j hj), fdK_ok hs p i (by omega)]
  rfl
def szF (l : List Int) (i : Nat) : Int := if (l.getD i 0) % 4 = 0 then 1 else if (l.getD i 0) % 4 = 1 then 2 else if (l.getD i 0) % 4 = 2 then 4 else 8
theorem szF_ok (l : List Int) : szOk (szF l) := by
  intro i
  unfold szF
  repeat' split
  all_goals simp
def rwK (s : Int) : Raw := ⟨1, s, false, none, 0, 0, 0, none, 0, 0⟩
def clK (sz : Nat → Int) (i : Nat) : List Value := [.string (nmK i), .int .i64 1, .int .i64 (sz i), .bool false, .slice none 0 0, .int .i64 0, .slice none 0 0, .bool false, .int .i64 0]
def cellsK (sz : Nat → Int) : Nat → List Value
  | 0 => []
  | m + 1 => cellsK sz m ++ clK sz m
theorem cellsK_len (sz : Nat → Int) : ∀ m, (cellsK sz m).length = 9 * m
  | 0 => rfl
  | m + 1 => by
    unfold cellsK
    rw [List.length_append, cellsK_len sz m]
    rfl
theorem clK_one (sz : Nat → Int) (i : Nat) : ∀ u ∈ clK sz i, u.oneCell' = true := by
  intro u hu
  simp [clK] at hu
  rcases hu with rfl | rfl | rfl | rfl | rfl | rfl | rfl | rfl | rfl <;> rfl
theorem tyI_at (W : World) (s : Int) (h : rng s) : TyAt W 1 (tyI 0 s) (rwK s) := by
  refine ⟨rfl, rfl, rfl, rfl, rfl, rfl, ?_, h, ?_, ⟨by simp [rwK], by simp [rwK], fun h => by simp [rwK] at h⟩, ⟨by simp [rwK], by simp [rwK], fun h => by simp [rwK] at h⟩⟩ <;> (unfold rng tyI; simp)
theorem LayOf.snoc {w : World} {fs : List (FdF (Ty 1))} {L : List Value} (h : LayOf w 1 fs L) (hl : L.length = 9 * fs.length) (sz : Nat → Int) (hs : szOk sz) (i : Nat) : LayOf w 1 (fs ++ [fdK sz i]) (L ++ clK sz i) := by
  intro j f hj
  rcases Nat.lt_or_ge j fs.length with h1 | h1
  · rw [List.getElem?_append_left h1] at hj
    exact h.get (k := j) (gs := fs) hj fun o ho => List.getElem?_append_left (by omega)
  · rw [List.getElem?_append_right h1] at hj
    match hd : j - fs.length, hj with
    | 0, hj =>
      obtain rfl : fdK sz i = f := by simpa using hj
      obtain rfl : j = fs.length := by omega
      refine ⟨rwK (sz i), tyI_at w _ (by unfold rng; have := hs i; omega), by unfold rng fdK; simp, by unfold fdK nmK; simp [ByteArray.size], ?_⟩
      have e : ∀ o, (L ++ clK sz i)[fs.length * 9 + o]? = (clK sz i)[o]? := fun o => by
        rw [List.getElem?_append_right (by omega)]
        congr 1
        omega
      have e0 := e 0
      rw [Nat.add_zero] at e0
      exact ⟨e0.trans rfl, (e 1).trans rfl, (e 2).trans rfl, (e 3).trans rfl, (e 4).trans rfl, (e 5).trans rfl, (e 6).trans rfl, (e 7).trans rfl, (e 8).trans rfl⟩
    | d + 1, hj => simp at hj
theorem cellsK_lay (w : World) (sz : Nat → Int) (hs : szOk sz) : ∀ m, LayOf w 1 (fsK sz m) (cellsK sz m)
  | 0 => fun i f hi => by simp [fsK] at hi
  | m + 1 => by
    have h := (cellsK_lay w sz hs m).snoc (by rw [cellsK_len, fsK_len]) sz hs m
    have e : fsK sz (m + 1) = fsK sz m ++ [fdK sz m] := by simp [fsK, List.range_succ]
    rw [e]
    exact h
theorem nmK_of (k : Nat) : ([97 + (k : Int)] : List Int).foldl (fun r n => r.push (UInt8.ofNat n.toNat)) ByteArray.empty = nmK k := by
  have e : (97 + (k : Int)).toNat = 97 + k := by omega
  simp only [List.foldl_cons, List.foldl_nil, e]
  rfl
theorem run_name (wr : World) (k : Nat) : (convert 48 9 (.slice (some ⟨wr.heap.size, 0, none⟩) 1 1)).run Try.prog (wr.alloc (.cells #[.int .u8 (97 + (k : Int))] 5)) = .ok (.string (nmK k)) (wr.alloc (.cells #[.int .u8 (97 + (k : Int))] 5)) := by
  rw [run_convert_bytes_string _ 48 9 5 _ 1 1 Try.underlying48 Try.underlying5 Try.underlying9]
  have hl := run_loadCells_list (P := Try.prog) (wr.alloc (.cells #[.int .u8 (97 + (k : Int))] 5)) ⟨wr.heap.size, 0, none⟩ ([97 + (k : Int)].map (Value.int .u8)) (World.news_of_block (fr := (0, 0)) (heap_alloc_new wr _))
  rw [run_bytesToString (P := Try.prog) _ ⟨wr.heap.size, 0, none⟩ 1 1 [97 + (k : Int)] hl, nmK_of k]
theorem szF_eq (l : List Int) (k : Nat) (y : Int) (hy : l[k]? = some y) (h0 : 0 ≤ y) : IntKind.i64.wrap (2 ^ min (IntKind.u64.wrap (y.tmod 4)).toNat 64) = szF l k := by
  have e : y.tmod 4 = y % 4 := Int.tmod_eq_emod_of_nonneg h0
  rw [e]
  unfold szF
  have e2 : l.getD k 0 = y := by rw [List.getD, hy]; rfl
  rw [e2]
  have h1 : y % 4 = 0 ∨ y % 4 = 1 ∨ y % 4 = 2 ∨ y % 4 = 3 := by omega
  rcases h1 with h | h | h | h <;> rw [h] <;> rfl
/-- what the loop keeps. -/
def FInv (w wr : World) (kd : Int) (pk : Bool) (sz : Nat → Int) (k : Nat) (v : Value) : Prop :=
  Below w.heap.size w wr ∧ w.heap.size < wr.heap.size ∧ wr.cell? ⟨w.heap.size, 0, none⟩ = some (.int .i64 kd) ∧ wr.cell? ⟨w.heap.size, 1, none⟩ = some (.int .i64 0) ∧ wr.cell? ⟨w.heap.size, 2, none⟩ = some (.bool pk) ∧
    wr.cell? ⟨w.heap.size, 3, none⟩ = some v ∧ wr.cell? ⟨w.heap.size, 4, none⟩ = some (.int .i64 0) ∧ wr.cell? ⟨w.heap.size, 5, none⟩ = some (.slice none 0 0) ∧ wr.frozen? ⟨w.heap.size, 3, none⟩ = false ∧
    wr.ownsRow (w.heap.size + 1) 51 9 v k (cellsK sz k)
theorem cellsK_get (sz : Nat → Int) (i o : Nat) (ho : o < 9) : ∀ m, i < m → (cellsK sz m)[i * 9 + o]? = (clK sz i)[o]?
  | 0, h => by omega
  | m + 1, h => by
    unfold cellsK
    rcases Nat.lt_or_ge i m with h1 | h1
    · rw [List.getElem?_append_left (by rw [cellsK_len]; omega)]
      exact cellsK_get sz i o ho m h1
    · obtain rfl : i = m := by omega
      rw [List.getElem?_append_right (by rw [cellsK_len]; omega), cellsK_len]
      congr 1
      omega
theorem own_caps2 {W : World} {base g n cap : Nat} {xs : List Value} (h : W.ownsRow base 51 9 (.slice (some ⟨g, 0, none⟩) n cap) n xs) : n ≤ cap ∧ cap ≤ 9223372036854775807 ∧ base ≤ g ∧ g < W.heap.size := by
  rcases h.2 with ⟨h, _⟩ | ⟨g', cap', cur, hv, hb, hh, h1, h2, _⟩
  · cases h
  · cases hv
    refine ⟨h1, by unfold maxLen at h2; omega, hb, ?_⟩
    rcases Nat.lt_or_ge g W.heap.size with h | h
    · exact h
    · rw [Array.getElem?_eq_none h] at hh; cases hh
theorem row_at {W : World} {base : Nat} {v : Value} {kd : Int} (hkd : kd = 3 ∨ kd = 4) (pk : Bool) {fs : List (FdF (Ty 1))} {xs : List Value} {n : Nat} (hn : n = fs.length) (hL : LayOf W 1 fs xs) (h : W.ownsRow base 51 9 v n xs) (h9 : n ≤ 9223372036854775807) :
    ∃ (fa : Option Addr) (fc : Nat), v = .slice fa n fc ∧ n ≤ fc ∧ (0 < n → ∃ g, fa = some ⟨g, 0, none⟩ ∧ g < W.heap.size ∧ base ≤ g) ∧ TyAt W 2 (tyK kd pk fs) ⟨kd, 0, pk, fa, n, fc, 0, none, 0, 0⟩ := by
  have hr : rng kd := by unfold rng; omega
  have hz : rng 0 := by unfold rng; omega
  subst hn
  rcases h.2 with ⟨hv, h0⟩ | ⟨g, cap, cur, hv, _⟩
  · subst hv
    refine ⟨none, 0, by rw [h0], by omega, fun h => by omega, rfl, rfl, rfl, rfl, rfl, rfl, hr, hz, hz, ⟨by rw [h0]; exact Nat.le_refl _, by simp, fun h => by simp only at h; omega⟩, by simp, by simp, fun h => by simp at h⟩
  · subst hv
    obtain ⟨c1, c2, c3, c4⟩ := own_caps2 h
    refine ⟨some ⟨g, 0, none⟩, cap, rfl, c1, fun _ => ⟨g, rfl, c4, c3⟩, rfl, rfl, rfl, rfl, rfl, rfl, hr, hz, hz, ⟨c1, c2, fun h0 => ⟨g, 0, rfl, c4, ?_⟩⟩, by simp, by simp, fun h => by simp at h⟩
    exact hL.at (fun t q h => h) (fun j hj => h.cellAt j (by omega))
theorem tyK_at {W : World} {base k : Nat} {v : Value} {kd : Int} (hkd : kd = 3 ∨ kd = 4) (pk : Bool) {sz : Nat → Int} (hs : szOk sz) (h : W.ownsRow base 51 9 v k (cellsK sz k)) (h9 : k ≤ 9223372036854775807) :
    ∃ (fa : Option Addr) (fc : Nat), v = .slice fa k fc ∧ k ≤ fc ∧ (0 < k → ∃ g, fa = some ⟨g, 0, none⟩ ∧ g < W.heap.size ∧ base ≤ g) ∧ TyAt W 2 (tyK kd pk (fsK sz k)) ⟨kd, 0, pk, fa, k, fc, 0, none, 0, 0⟩ :=
  row_at hkd pk (fsK_len sz k).symm (cellsK_lay W sz hs k) h h9
theorem kdK3 : (3 : Int) = 3 ∨ (3 : Int) = 4 := .inl rfl
theorem kdK4 : (4 : Int) = 3 ∨ (4 : Int) = 4 := .inr rfl
def sumK (sz : Nat → Int) : Nat → Int
  | 0 => 0
  | k + 1 => sumK sz k + sz k
theorem sumK_succ (sz : Nat → Int) (k : Nat) : sumK sz (k + 1) = sumK sz k + sz k := rfl
theorem sumK_bound {sz : Nat → Int} (hs : szOk sz) : ∀ k : Nat, 0 ≤ sumK sz k ∧ sumK sz k ≤ 8 * k
  | 0 => by simp [sumK]
  | k + 1 => by
    have := sumK_bound hs k
    have := hs k
    rw [sumK_succ]
    omega
theorem form_tyI (s : Int) : formF 1 (tyI 0 s) = some (s, s) := by
  rw [formF_succ]
  unfold formOne tyI
  simp
theorem up8 (n : Int) : upF (8 * n) 8 = 8 * n := upF_same (by omega) (by omega)
theorem plK_pk {sz : Nat → Int} (hs : szOk sz) (m : Nat) : ∀ k, k ≤ m → plK (formF 1) (tsize 1) (tyK 3 true (fsK sz m)) k = some ⟨8 * sumK sz k, sumK sz k, 1⟩
  | 0, _ => rfl
  | k + 1, h => by
    have ih := plK_pk hs m k (by omega)
    have hb := sumK_bound hs k
    have hk := hs k
    rw [plK_succ (formF 1) (tsize 1) _ k ih (fsK_get sz m k (by omega)) (form_tyI (sz k))]
    have hB : begF true false (fdK sz k) (tsize 1 (fdK sz k).type) (sz k, sz k) ⟨8 * sumK sz k, sumK sz k, 1⟩ = 8 * sumK sz k := by
      unfold begF wideF fdK
      simp only [Bool.false_eq_true, if_false, true_or, if_true]
      rw [up8, show 8 * sumK sz k / 8 = sumK sz k by omega, upF_one]
    have hN : numF (fdK sz k) (sz k, sz k) = 8 * sz k := rfl
    have hW : wideF true (fdK sz k) (tsize 1 (fdK sz k).type) (sz k, sz k) = 1 := by unfold wideF; simp
    show some (stepF true false (fdK sz k) (tsize 1 (fdK sz k).type) (sz k, sz k) ⟨8 * sumK sz k, sumK sz k, 1⟩) = _
    unfold stepF
    rw [hB, hN, hW, ← Int.mul_add, up8]
    simp only [Option.some.injEq, Pl.mk.injEq]
    rw [sumK_succ]
    omega
theorem spots_pk {sz : Nat → Int} (hs : szOk sz) (m : Nat) (i : Nat) (hi : i < m) : (spotsF 2 (tyK 3 true (fsK sz m)))[i]? = some ⟨sumK sz i, sz i, 1, false, 0, 0⟩ := by
  have hl : (tyK 3 true (fsK sz m)).fields.length = m := fsK_len sz m
  have hq := plK_pk hs m m (Nat.le_refl _)
  obtain ⟨p, f, g, e1, e2, e3, _, e5⟩ := spK_get (formF 1) (tsize 1) (tkind 1) (tyK 3 true (fsK sz m)) m _ hq i hi
  rw [plK_pk hs m i (by omega)] at e1
  cases e1
  have e2' : (tyK 3 true (fsK sz m)).fields[i]? = some (fdK sz i) := fsK_get sz m i hi
  rw [e2'] at e2
  cases e2
  have e3' : formF 1 (fdK sz i).type = some (sz i, sz i) := form_tyI (sz i)
  rw [e3'] at e3
  cases e3
  have hs2 : spotsF 2 (tyK 3 true (fsK sz m)) = spK (formF 1) (tsize 1) (tkind 1) (tyK 3 true (fsK sz m)) m := by
    show spK (formF 1) (tsize 1) (tkind 1) (tyK 3 true (fsK sz m)) (tyK 3 true (fsK sz m)).fields.length = _
    rw [hl]
  rw [hs2, e5]
  have hb := sumK_bound hs i
  have hB : begF true false (fdK sz i) (tsize 1 (fdK sz i).type) (sz i, sz i) ⟨8 * sumK sz i, sumK sz i, 1⟩ = 8 * sumK sz i := by
    unfold begF wideF fdK
    simp only [Bool.false_eq_true, if_false, true_or, if_true]
    rw [up8, show 8 * sumK sz i / 8 = sumK sz i by omega, upF_one]
  show some (spotF true false (fdK sz i) (tsize 1 (fdK sz i).type) (tkind 1 (fdK sz i).type) (sz i, sz i) ⟨8 * sumK sz i, sumK sz i, 1⟩) = _
  unfold spotF
  rw [hB, show 8 * sumK sz i / 8 = sumK sz i by omega]
  rfl
structure PlU (sz : Nat → Int) (k : Nat) (p : Pl) : Prop where
  b0 : 8 * sumK sz k ≤ p.bit
  b1 : p.bit ≤ 128 * k
  b8 : p.bit % 8 = 0
  s0 : sumK sz k ≤ p.size
  s1 : p.size ≤ 16 * k
  al : p.align = 1 ∨ p.align = 2 ∨ p.align = 4 ∨ p.align = 8
theorem plK_un {sz : Nat → Int} (hs : szOk sz) (m : Nat) : ∀ k, k ≤ m → ∃ p, plK (formF 1) (tsize 1) (tyK 3 false (fsK sz m)) k = some p ∧ PlU sz k p
  | 0, _ => ⟨⟨0, 0, 1⟩, rfl, ⟨by simp [sumK], by simp, by simp, by simp [sumK], by simp, .inl rfl⟩⟩
  | k + 1, h => by
    obtain ⟨p, ih, u⟩ := plK_un hs m k (by omega)
    have hb := sumK_bound hs k
    have hk := hs k
    obtain ⟨b0, b1, b8, s0, s1, al⟩ := u
    refine ⟨_, plK_succ (formF 1) (tsize 1) _ k ih (fsK_get sz m k (by omega)) (form_tyI (sz k)), ?_⟩
    have hW : wideF false (fdK sz k) (tsize 1 (fdK sz k).type) (sz k, sz k) = sz k := by unfold wideF fdK; simp
    have hN : numF (fdK sz k) (sz k, sz k) = 8 * sz k := rfl
    have hB : begF false false (fdK sz k) (tsize 1 (fdK sz k).type) (sz k, sz k) p = 8 * upF (p.bit / 8) (sz k) := by
      unfold begF
      rw [hW, if_neg (by unfold fdK; simp)]
      simp only [Bool.false_eq_true, if_false]
      rw [upF_same (by omega) b8]
    have hU := upF_ge (n := p.bit / 8) (s := sz k) (by omega)
    show PlU sz (k + 1) (stepF false false (fdK sz k) (tsize 1 (fdK sz k).type) (sz k, sz k) p)
    unfold stepF
    rw [hB, hN, hW, ← Int.mul_add, up8]
    generalize upF (p.bit / 8) (sz k) = U at *
    refine ⟨by rw [sumK_succ]; simp only; omega, by simp only; omega, by simp only; omega, by rw [sumK_succ]; simp only; omega, by simp only; omega, by simp only; omega⟩
theorem loose_fs (sz : Nat → Int) : ∀ (l : List (FdF (Ty 1))), (∀ f ∈ l, ∃ i, f = fdK sz i) → l.any (fun f => looseF 1 f.type) = false ∧ l.any (fun f => tornF 1 f.type) = false
  | [], _ => ⟨rfl, rfl⟩
  | f :: l, h => by
    obtain ⟨i, rfl⟩ := h f List.mem_cons_self
    obtain ⟨h1, h2⟩ := loose_fs sz l (fun g hg => h g (List.mem_cons_of_mem _ hg))
    have e1 : looseF 1 (fdK sz i).type = false := by
      show looseF 1 (tyI 0 (sz i)) = false
      rw [looseF_succ]
      unfold tyI
      simp
    have e2 : tornF 1 (fdK sz i).type = false := by
      show tornF 1 (tyI 0 (sz i)) = false
      rw [tornF_succ]
      unfold tyI
      simp
    rw [List.any_cons, List.any_cons, h1, h2, e1, e2]
    exact ⟨rfl, rfl⟩
theorem torn_tyK (sz : Nat → Int) (pk : Bool) (m : Nat) : tornF 2 (tyK 3 pk (fsK sz m)) = false := by
  obtain ⟨h1, h2⟩ := loose_fs sz (fsK sz m) (fsK_all sz m)
  have hl : looseF 2 (tyK 3 pk (fsK sz m)) = false := by
    rw [looseF_succ]
    show (_ || (fsK sz m).any (fun f => looseF 1 f.type)) = false
    rw [h1]
    simp [tyK]
  rw [tornF_succ, hl]
  show (_ || (fsK sz m).any (fun f => tornF 1 f.type)) = false
  rw [h2]
  simp [tyK]
theorem form_pk {sz : Nat → Int} (hs : szOk sz) (m : Nat) (hm : m ≤ 26) : formF 2 (tyK 3 true (fsK sz m)) = some (sumK sz m, 1) := by
  have hl : (tyK 3 true (fsK sz m)).fields.length = m := fsK_len sz m
  have hb := sumK_bound hs m
  rw [formF_succ]
  unfold formOne
  rw [if_neg (by show ¬ ((3 : Int) = 1 ∨ (3 : Int) = 2); decide), if_neg (by show ¬ ((3 : Int) = 5); decide), hl, plK_pk hs m m (Nat.le_refl _)]
  simp only [Option.bind_some]
  unfold finF
  rw [upF_one, if_pos (by simp only; omega)]
theorem form_un {sz : Nat → Int} (hs : szOk sz) (m : Nat) (hm : m ≤ 26) : ∃ g, formF 2 (tyK 3 false (fsK sz m)) = some g ∧ sumK sz m ≤ g.1 := by
  have hl : (tyK 3 false (fsK sz m)).fields.length = m := fsK_len sz m
  obtain ⟨p, hp, u⟩ := plK_un hs m m (Nat.le_refl _)
  obtain ⟨b0, b1, b8, s0, s1, al⟩ := u
  have hU := upF_ge (n := p.size) (s := p.align) (by omega)
  rw [formF_succ]
  unfold formOne
  rw [if_neg (by show ¬ ((3 : Int) = 1 ∨ (3 : Int) = 2); decide), if_neg (by show ¬ ((3 : Int) = 5); decide), hl, hp]
  simp only [Option.bind_some]
  unfold finF
  rw [if_pos (by omega)]
  exact ⟨_, rfl, by simp only; omega⟩
theorem check_tyK {sz : Nat → Int} (hs : szOk sz) (pk : Bool) (m : Nat) (h0 : 0 < m) (hm : m ≤ 26) : checkF 2 (tyK 3 pk (fsK sz m)) = 0 ∧ ∀ g, formF 2 (tyK 3 pk (fsK sz m)) = some g → formOf 2 (tyK 3 pk (fsK sz m)) = g := by
  have h1 := fsK_sound hs (.inl rfl) pk m h0 hm
  have h2 := torn_tyK sz pk m
  have hf : ∃ g, formF 2 (tyK 3 pk (fsK sz m)) = some g := by
    cases pk
    · obtain ⟨g, hg, _⟩ := form_un hs m hm
      exact ⟨g, hg⟩
    · exact ⟨_, form_pk hs m hm⟩
  obtain ⟨g, hg⟩ := hf
  have hc : checkF 2 (tyK 3 pk (fsK sz m)) = 0 := by unfold checkF; rw [h1, h2, hg]; simp
  refine ⟨hc, fun g2 hg2 => ?_⟩
  unfold formOf
  rw [if_pos hc, hg2]
  rfl
end Go.Proofs.Ytlbkloamabomcaa
