/- A struct of numbers with names that are unlike: what the loop keeps. No condition. -/
import Derived.Test.YtjioinmiglblmaaKindLay
import Derived.Test.YtjioinmiglblmaaKindFieldsMath
import Derived.Test.YtjioinmiglblmaaStepBytes
import Derived.Deep.RegionLawGrows
import Derived.Lib.SmallJoins
namespace Go.Proofs.Ytjioinmiglblmaa
open Go.RowKit Go.Sort
set_option linter.unusedVariables false
set_option linter.unusedSimpArgs false
def szF (l : List Int) (i : Nat) : Int := if (l.getD i 0) % 4 = 0 then 1 else if (l.getD i 0) % 4 = 1 then 2 else if (l.getD i 0) % 4 = 2 then 4 else 8
theorem szF_ok (l : List Int) : szOk (szF l) := by
  intro i
  unfold szF
  repeat' split
  all_goals simp
def rwK (s : Int) : Raw := ⟨1, s, false, none, 0, 0, 0, none, 0, 0⟩
def clK (sz : Nat → Int) (i : Nat) : List Value := [.string (nmK i), .int .i64 1, .int .i64 (sz i), .bool false, .slice none 0 0, .int .i64 0, .slice none 0 0, .bool false, .int .i64 0]
def cellsK (sz : Nat → Int) : Nat → List Value
  | 0 => []
  | m + 1 => cellsK sz m ++ clK sz m
theorem cellsK_len (sz : Nat → Int) : ∀ m, (cellsK sz m).length = 9 * m
  | 0 => rfl
  | m + 1 => by
    unfold cellsK
    rw [List.length_append, cellsK_len sz m]
    rfl
theorem clK_one (sz : Nat → Int) (i : Nat) : ∀ u ∈ clK sz i, u.oneCell' = true := by
  intro u hu
  simp [clK] at hu
  rcases hu with rfl | rfl | rfl | rfl | rfl | rfl | rfl | rfl | rfl <;> rfl
theorem tyI_at (W : World) (s : Int) (h : rng s) : TyAt W 1 (tyI 0 s) (rwK s) := by
  refine ⟨rfl, rfl, rfl, rfl, rfl, rfl, ?_, h, ?_, ⟨by simp [rwK], by simp [rwK], fun h => by simp [rwK] at h⟩, ⟨by simp [rwK], by simp [rwK], fun h => by simp [rwK] at h⟩⟩ <;> (unfold rng tyI; simp)
theorem LayOf.snoc {w : World} {fs : List (FdF (Ty 1))} {L : List Value} (h : LayOf w 1 fs L) (hl : L.length = 9 * fs.length) (sz : Nat → Int) (hs : szOk sz) (i : Nat) : LayOf w 1 (fs ++ [fdK sz i]) (L ++ clK sz i) := by
  intro j f hj
  rcases Nat.lt_or_ge j fs.length with h1 | h1
  · rw [List.getElem?_append_left h1] at hj
    exact h.get (k := j) (gs := fs) hj fun o ho => List.getElem?_append_left (by omega)
  · rw [List.getElem?_append_right h1] at hj
    match hd : j - fs.length, hj with
    | 0, hj =>
      obtain rfl : fdK sz i = f := by simpa using hj
      obtain rfl : j = fs.length := by omega
      refine ⟨rwK (sz i), tyI_at w _ (by unfold rng; have := hs i; omega), by unfold rng fdK; simp, by unfold fdK nmK; simp [ByteArray.size], ?_⟩
      have e : ∀ o, (L ++ clK sz i)[fs.length * 9 + o]? = (clK sz i)[o]? := fun o => by
        rw [List.getElem?_append_right (by omega)]
        congr 1
        omega
      have e0 := e 0
      rw [Nat.add_zero] at e0
      exact ⟨e0.trans rfl, (e 1).trans rfl, (e 2).trans rfl, (e 3).trans rfl, (e 4).trans rfl, (e 5).trans rfl, (e 6).trans rfl, (e 7).trans rfl, (e 8).trans rfl⟩
    | d + 1, hj => simp at hj
theorem cellsK_lay (w : World) (sz : Nat → Int) (hs : szOk sz) : ∀ m, LayOf w 1 (fsK sz m) (cellsK sz m)
  | 0 => fun i f hi => by simp [fsK] at hi
  | m + 1 => by
    have h := (cellsK_lay w sz hs m).snoc (by rw [cellsK_len, fsK_len]) sz hs m
    have e : fsK sz (m + 1) = fsK sz m ++ [fdK sz m] := by simp [fsK, List.range_succ]
    rw [e]
    exact h
theorem nmK_of (k : Nat) : ([97 + (k : Int), 95] : List Int).foldl (fun r n => r.push (UInt8.ofNat n.toNat)) ByteArray.empty = nmK k := by
  have e : (97 + (k : Int)).toNat = 97 + k := by omega
  simp only [List.foldl_cons, List.foldl_nil, e]
  rfl
theorem run_name (wr : World) (k : Nat) : (convert 52 9 (.slice (some ⟨wr.heap.size, 0, none⟩) 2 2)).run Try.prog (wr.alloc (.cells #[.int .u8 (97 + (k : Int)), .int .u8 95] 5)).drew = .ok (.string (nmK k)) (wr.alloc (.cells #[.int .u8 (97 + (k : Int)), .int .u8 95] 5)).drew := by
  rw [run_convert_bytes_string _ 52 9 5 _ 2 2 Try.underlying52 Try.underlying5 Try.underlying9]
  have hl := run_loadCells_list (P := Try.prog) (wr.alloc (.cells #[.int .u8 (97 + (k : Int)), .int .u8 95] 5)).drew ⟨wr.heap.size, 0, none⟩ ([97 + (k : Int), 95].map (Value.int .u8)) (World.news_of_block (fr := (0, 0)) (heap_alloc_new wr _))
  rw [run_bytesToString (P := Try.prog) _ ⟨wr.heap.size, 0, none⟩ 2 2 [97 + (k : Int), 95] hl, nmK_of k]
theorem szF_eq (l : List Int) (k : Nat) (y : Int) (hy : l[k]? = some y) (h0 : 0 ≤ y) : IntKind.i64.wrap (2 ^ min (IntKind.u64.wrap (y.tmod 4)).toNat 64) = szF l k := by
  have e : y.tmod 4 = y % 4 := Int.tmod_eq_emod_of_nonneg h0
  rw [e]
  unfold szF
  have e2 : l.getD k 0 = y := by rw [List.getD, hy]; rfl
  rw [e2]
  have h1 : y % 4 = 0 ∨ y % 4 = 1 ∨ y % 4 = 2 ∨ y % 4 = 3 := by omega
  rcases h1 with h | h | h | h <;> rw [h] <;> rfl
/-- what the loop keeps. -/
def FInv (w wr : World) (kd : Int) (pk : Bool) (sz : Nat → Int) (k : Nat) (v : Value) : Prop :=
  Below w.heap.size w wr ∧ w.heap.size < wr.heap.size ∧ wr.cell? ⟨w.heap.size, 0, none⟩ = some (.int .i64 kd) ∧ wr.cell? ⟨w.heap.size, 1, none⟩ = some (.int .i64 0) ∧ wr.cell? ⟨w.heap.size, 2, none⟩ = some (.bool pk) ∧
    wr.cell? ⟨w.heap.size, 3, none⟩ = some v ∧ wr.cell? ⟨w.heap.size, 4, none⟩ = some (.int .i64 0) ∧ wr.cell? ⟨w.heap.size, 5, none⟩ = some (.slice none 0 0) ∧ wr.frozen? ⟨w.heap.size, 3, none⟩ = false ∧
    wr.ownsRow (w.heap.size + 1) 49 9 v k (cellsK sz k)
theorem cellsK_get (sz : Nat → Int) (i o : Nat) (ho : o < 9) : ∀ m, i < m → (cellsK sz m)[i * 9 + o]? = (clK sz i)[o]?
  | 0, h => by omega
  | m + 1, h => by
    unfold cellsK
    rcases Nat.lt_or_ge i m with h1 | h1
    · rw [List.getElem?_append_left (by rw [cellsK_len]; omega)]
      exact cellsK_get sz i o ho m h1
    · obtain rfl : i = m := by omega
      rw [List.getElem?_append_right (by rw [cellsK_len]; omega), cellsK_len]
      congr 1
      omega
theorem own_caps2 {W : World} {base g n cap : Nat} {xs : List Value} (h : W.ownsRow base 49 9 (.slice (some ⟨g, 0, none⟩) n cap) n xs) : n ≤ cap ∧ cap ≤ 9223372036854775807 ∧ base ≤ g ∧ g < W.heap.size := by
  rcases h.2 with ⟨h, _⟩ | ⟨g', cap', cur, hv, hb, hh, h1, h2, _⟩
  · cases h
  · cases hv
    refine ⟨h1, by unfold maxLen at h2; omega, hb, ?_⟩
    rcases Nat.lt_or_ge g W.heap.size with h | h
    · exact h
    · rw [Array.getElem?_eq_none h] at hh; cases hh
theorem row_at {W : World} {base : Nat} {v : Value} {kd : Int} (hkd : kd = 3 ∨ kd = 4) (pk : Bool) {fs : List (FdF (Ty 1))} {xs : List Value} {n : Nat} (hn : n = fs.length) (hL : LayOf W 1 fs xs) (h : W.ownsRow base 49 9 v n xs) (h9 : n ≤ 9223372036854775807) :
    ∃ (fa : Option Addr) (fc : Nat), v = .slice fa n fc ∧ n ≤ fc ∧ (0 < n → ∃ g, fa = some ⟨g, 0, none⟩ ∧ g < W.heap.size ∧ base ≤ g) ∧ TyAt W 2 (tyK kd pk fs) ⟨kd, 0, pk, fa, n, fc, 0, none, 0, 0⟩ := by
  have hr : rng kd := by unfold rng; omega
  have hz : rng 0 := by unfold rng; omega
  subst hn
  rcases h.2 with ⟨hv, h0⟩ | ⟨g, cap, cur, hv, _⟩
  · subst hv
    refine ⟨none, 0, by rw [h0], by omega, fun h => by omega, rfl, rfl, rfl, rfl, rfl, rfl, hr, hz, hz, ⟨by rw [h0]; exact Nat.le_refl _, by simp, fun h => by simp only at h; omega⟩, by simp, by simp, fun h => by simp at h⟩
  · subst hv
    obtain ⟨c1, c2, c3, c4⟩ := own_caps2 h
    refine ⟨some ⟨g, 0, none⟩, cap, rfl, c1, fun _ => ⟨g, rfl, c4, c3⟩, rfl, rfl, rfl, rfl, rfl, rfl, hr, hz, hz, ⟨c1, c2, fun h0 => ⟨g, 0, rfl, c4, ?_⟩⟩, by simp, by simp, fun h => by simp at h⟩
    exact hL.at (fun t q h => h) (fun j hj => h.cellAt j (by omega))
theorem tyK_at {W : World} {base k : Nat} {v : Value} {kd : Int} (hkd : kd = 3 ∨ kd = 4) (pk : Bool) {sz : Nat → Int} (hs : szOk sz) (h : W.ownsRow base 49 9 v k (cellsK sz k)) (h9 : k ≤ 9223372036854775807) :
    ∃ (fa : Option Addr) (fc : Nat), v = .slice fa k fc ∧ k ≤ fc ∧ (0 < k → ∃ g, fa = some ⟨g, 0, none⟩ ∧ g < W.heap.size ∧ base ≤ g) ∧ TyAt W 2 (tyK kd pk (fsK sz k)) ⟨kd, 0, pk, fa, k, fc, 0, none, 0, 0⟩ :=
  row_at hkd pk (fsK_len sz k).symm (cellsK_lay W sz hs k) h h9
theorem kdK3 : (3 : Int) = 3 ∨ (3 : Int) = 4 := .inl rfl
theorem kdK4 : (4 : Int) = 3 ∨ (4 : Int) = 4 := .inr rfl
end Go.Proofs.Ytjioinmiglblmaa
