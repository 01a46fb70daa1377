/- The sort of spans by the library lies in the program: which numbers its functions and types have. No condition. The library's sort over a row of spans that is owned: what the row holds behind it. Walks: the order of spans; the sort. No condition. Walk: slices.Compact over a row of spans that is owned. Conditions: the row is not too long. Walk: slices.Compact over a row of spans that is owned. Conditions: the row is not too long. -/
import Derived.Shelf.SlSortCmp.WholeK
import Derived.Test.YtlbkloamabomcaaProg
import Derived.Test.YtlbkloamabomcaaLayRet
import Derived.Test.YtlbkloamabomcaaOnto
import Derived.Deep.RegionHeld3
import Derived.Handy
import Derived.Deep.RegionWith
import Derived.Lib.SliceRun
import Derived.Deep.CutRange
import Derived.Deep.LoopGhost
import Derived.Laws.StructEq
namespace Go.Proofs.Ytlbkloamabomcaa
def sortRen : Go.Shelf.Ren := ⟨fun | 6 => 51 | 15 => 70 | 14 => 69 | 28 => 87 | 29 => 88 | 20 => 79 | 21 => 80 | 22 => 81 | 23 => 82 | 24 => 83 | 25 => 84 | 26 => 85 | 27 => 86 | 46 => 90 | 47 => 91 | 48 => 92 | 49 => 93 | 50 => 94 | 57 => 97 | n => n, fun | 22 => 44 | 24 => 40 | 25 => 110 | 3 => 3 | 39 => 49 | 0 => 0 | 53 => 134 | 55 => 76 | 4 => 4 | 46 => 127 | 45 => 126 | 50 => 131 | 5 => 5 | 9 => 9 | 66 => 137 | 70 => 141 | 76 => 143 | 77 => 144 | n => n, fun | n => n⟩
theorem sortLays : Go.Proofs.SlLaysF0.n6 Try.prog sortRen where
  mixed := by kernel_rfl
  f6 := ⟨ "slices.SortFunc[[]rabbet/api.Span,rabbet/api.Span]", by decide, Try.func51.trans (congrArg some (by kernel_rfl))⟩
  f14 := ⟨ "slices.pdqsortCmpFunc[rabbet/api.Span]", by decide, Try.func69.trans (congrArg some (by kernel_rfl))⟩
  f15 := Try.func70.trans (congrArg some (by kernel_rfl))
  f20 := ⟨ "slices.insertionSortCmpFunc[rabbet/api.Span]", by decide, Try.func79.trans (congrArg some (by kernel_rfl))⟩
  f21 := ⟨ "slices.heapSortCmpFunc[rabbet/api.Span]", by decide, Try.func80.trans (congrArg some (by kernel_rfl))⟩
  f22 := ⟨ "slices.breakPatternsCmpFunc[rabbet/api.Span]", by decide, Try.func81.trans (congrArg some (by kernel_rfl))⟩
  f23 := ⟨ "slices.choosePivotCmpFunc[rabbet/api.Span]", by decide, Try.func82.trans (congrArg some (by kernel_rfl))⟩
  f24 := ⟨ "slices.reverseRangeCmpFunc[rabbet/api.Span]", by decide, Try.func83.trans (congrArg some (by kernel_rfl))⟩
  f25 := ⟨ "slices.partialInsertionSortCmpFunc[rabbet/api.Span]", by decide, Try.func84.trans (congrArg some (by kernel_rfl))⟩
  f26 := ⟨ "slices.partitionEqualCmpFunc[rabbet/api.Span]", by decide, Try.func85.trans (congrArg some (by kernel_rfl))⟩
  f27 := ⟨ "slices.partitionCmpFunc[rabbet/api.Span]", by decide, Try.func86.trans (congrArg some (by kernel_rfl))⟩
  f28 := Try.func87.trans (congrArg some (by kernel_rfl))
  f29 := Try.func88.trans (congrArg some (by kernel_rfl))
  f46 := ⟨ "slices.siftDownCmpFunc[rabbet/api.Span]", by decide, Try.func90.trans (congrArg some (by kernel_rfl))⟩
  f47 := Try.func91.trans (congrArg some (by kernel_rfl))
  f48 := Try.func92.trans (congrArg some (by kernel_rfl))
  f49 := ⟨ "slices.medianAdjacentCmpFunc[rabbet/api.Span]", by decide, Try.func93.trans (congrArg some (by kernel_rfl))⟩
  f50 := ⟨ "slices.medianCmpFunc[rabbet/api.Span]", by decide, Try.func94.trans (congrArg some (by kernel_rfl))⟩
  f57 := ⟨ "slices.order2CmpFunc[rabbet/api.Span]", by decide, Try.func97.trans (congrArg some (by kernel_rfl))⟩
  t0 := Try.underlying0
  a0 := Try.isAgg0
  z0 := Try.sizeOf0
  v0 := Try.zeroValue0
  t3 := Try.underlying3
  a3 := Try.isAgg3
  z3 := Try.sizeOf3
  v3 := Try.zeroValue3
  t4 := Try.underlying4
  a4 := Try.isAgg4
  z4 := Try.sizeOf4
  v4 := Try.zeroValue4
  t5 := Try.underlying5
  a5 := Try.isAgg5
  z5 := Try.sizeOf5
  v5 := Try.zeroValue5
  t9 := Try.underlying9
  a9 := Try.isAgg9
  z9 := Try.sizeOf9
  v9 := Try.zeroValue9
  t22 := Try.underlying44
  a22 := Try.isAgg44
  z22 := Try.sizeOf44
  v22 := Try.zeroValue44
  t25 := Try.underlying110
  a25 := Try.isAgg110
  z25 := Try.sizeOf110
  v25 := Try.zeroValue110
  t39 := Try.underlying49
  a39 := Try.isAgg49
  z39 := Try.sizeOf49
  v39 := Try.zeroValue49
  t45 := Try.underlying126
  a45 := Try.isAgg126
  z45 := Try.sizeOf126
  v45 := Try.zeroValue126
  t46 := Try.underlying127
  a46 := Try.isAgg127
  z46 := Try.sizeOf127
  v46 := Try.zeroValue127
  t50 := Try.underlying131
  a50 := Try.isAgg131
  z50 := Try.sizeOf131
  v50 := Try.zeroValue131
  t53 := Try.underlying134
  a53 := Try.isAgg134
  z53 := Try.sizeOf134
  v53 := Try.zeroValue134
  t55 := Try.underlying76
  a55 := Try.isAgg76
  z55 := Try.sizeOf76
  v55 := Try.zeroValue76
  t66 := Try.underlying137
  a66 := Try.isAgg137
  z66 := Try.sizeOf137
  v66 := Try.zeroValue137
  t70 := Try.underlying141
  a70 := Try.isAgg141
  z70 := Try.sizeOf141
  v70 := Try.zeroValue141
  t76 := Try.underlying143
  a76 := Try.isAgg143
  z76 := Try.sizeOf143
  v76 := Try.zeroValue143
  t77 := Try.underlying144
  a77 := Try.isAgg144
  z77 := Try.sizeOf144
  v77 := Try.zeroValue144
end Go.Proofs.Ytlbkloamabomcaa
namespace Go.Proofs.Ytlbkloamabomcaa
open Go.RowKit Go.Sort
set_option linter.unusedVariables false
set_option linter.unusedSimpArgs false
/-- a span's two cells. -/
def spnC (x : Int × Int) : List Value := [.int .i64 x.1, .int .i64 x.2]
theorem spnC_len (l : List (Int × Int)) : (l.flatMap spnC).length = l.length * 2 := by
  induction l with
  | nil => rfl
  | cons a r ih => simp [List.flatMap_cons, ih, spnC]; omega
theorem spnC_get (l : List (Int × Int)) : ∀ t, t < l.length * 2 → (l.flatMap spnC)[t]? = some ((spnC (l[t / 2]!))[t % 2]!) := by
  induction l with
  | nil => intro t h; simp at h
  | cons a r ih =>
    intro t h
    match t with
    | 0 => rfl
    | 1 => rfl
    | t + 2 =>
      have h2 : t < r.length * 2 := by simp at h; omega
      have e1 : (t + 2) / 2 = t / 2 + 1 := by omega
      have e2 : (t + 2) % 2 = t % 2 := by omega
      rw [e1, e2]
      show ((a :: r).flatMap spnC)[t + 2]? = _
      rw [List.flatMap_cons]
      show (Value.int .i64 a.1 :: Value.int .i64 a.2 :: r.flatMap spnC)[t + 2]? = _
      simp only [List.getElem?_cons_succ]
      rw [ih t h2]
      rfl
theorem flat_list (l : List (Int × Int)) : (flatK spnC 2 l.toArray).toList = l.flatMap spnC := by
  apply List.ext_getElem?
  intro t
  by_cases h : t < l.length * 2
  · rw [spnC_get l t h]
    have h2 : t < (flatK spnC 2 l.toArray).size := by simpa using h
    have := get_flatK spnC 2 l.toArray t (by simpa using h)
    rw [Array.getElem?_toList, Array.getElem?_eq_getElem h2]
    rw [getElem!_pos _ t h2] at this
    rw [this]
    simp
  · rw [List.getElem?_eq_none (by simp; omega), List.getElem?_eq_none (by rw [spnC_len]; omega)]
theorem holdsK_of {w : World} {B g n cap : Nat} {e : TypeId} {l : List (Int × Int)} (h : w.ownsRow B e 2 (.slice (some ⟨g, 0, none⟩) n cap) n (l.flatMap spnC)) : HoldsK spnC 2 w g 0 l.toArray ∧ l.length = n ∧ g < w.heap.size := by
  have hl : l.length = n := by have := h.1; rw [spnC_len] at this; omega
  rcases h.2 with ⟨e0, _⟩ | ⟨g', cap', cur, e0, hb, hg, hn, hm, hs, ht⟩
  · cases e0
  · injection e0 with e1 _ e3
    injection e1 with e1
    injection e1 with e1
    subst e1; subst e3
    have hlt : g < w.heap.size := by
      rcases Nat.lt_or_ge g w.heap.size with h' | h'
      · exact h'
      · rw [Array.getElem?_eq_none h'] at hg; cases hg
    refine ⟨fun j hj => ?_, hl, hlt⟩
    have hj' : j < n * 2 := by simpa [hl] using hj
    refine ⟨?_, by simp [World.frozen?, hg]⟩
    have e1 : (cur.toList.take (n * 2))[j]? = (l.flatMap spnC)[j]? := by rw [ht]
    rw [List.getElem?_take, if_pos (by omega), Array.getElem?_toList, ← flat_list, Array.getElem?_toList, Array.getElem?_eq_getElem hj] at e1
    simp only [World.cell?, hg, Nat.zero_add]
    simp only [Option.isSome_none, Bool.false_eq_true, if_false]
    rw [e1]
    simp [getElem!_pos (flatK spnC 2 l.toArray) j hj]
theorem owns_putRowK {w : World} {B g n cap q : Nat} {e : TypeId} {l ys : List (Int × Int)} (h : w.ownsRow B e 2 (.slice (some ⟨g, 0, none⟩) n cap) n (l.flatMap spnC)) (hy : ys.length = n) :
    (putRowK spnC 2 (Sort.ahead w q) g 0 ys.toArray).ownsRow B e 2 (.slice (some ⟨g, 0, none⟩) n cap) n (ys.flatMap spnC) := by
  rcases h.2 with ⟨e0, _⟩ | ⟨g', cap', cur, e0, hb, hg, hn, hm, hs, ht⟩
  · cases e0
  · injection e0 with e1 _ e3
    injection e1 with e1
    injection e1 with e1
    subst e1; subst e3
    refine ⟨by rw [spnC_len, hy], .inr ⟨g, cap, putCells id 0 (flatK spnC 2 ys.toArray) cur, rfl, hb, ?_, hn, hm, by simpa [putCells] using hs, ?_⟩⟩
    · simp [putRowK, putRow, mapBlock, Sort.ahead, Array.getElem?_modify, hg, onCells]
    · rw [← flat_list]
      apply List.ext_getElem?
      intro j
      rw [List.getElem?_take, Array.getElem?_toList, Array.getElem?_toList]
      have hc : n * 2 ≤ cap * 2 := Nat.mul_le_mul_right 2 hn
      by_cases hj : j < n * 2
      · have hjc : j < cur.size := by omega
        have hjf : j < (flatK spnC 2 ys.toArray).size := by simp [hy]; exact hj
        simp only [if_pos hj, putCells, Array.getElem?_mapIdx, Array.getElem?_eq_getElem hjc, Option.map_some]
        rw [if_pos (by simpa using hjf), Array.getElem?_eq_getElem hjf]
        simp [getElem!_pos (flatK spnC 2 ys.toArray) j hjf]
      · rw [if_neg hj, Array.getElem?_eq_none (by simp [hy]; omega)]
theorem grown_putRowK (w : World) (g q : Nat) (d : Array (Int × Int)) (os : Array Obj) : w.grownBy (grow (putRowK spnC 2 (Sort.ahead w q) g 0 d) os) (some g) := by
  refine ⟨rfl, rfl, rfl, ?_, fun k hk hne => ?_⟩
  · simp [grow, putRowK, putRow, mapBlock, Sort.ahead]
  · have : g ≠ k := fun e => hne (by rw [e])
    have hk2 : k < (putRowK spnC 2 (Sort.ahead w q) g 0 d).heap.size := by simpa [putRowK, putRow, mapBlock, Sort.ahead] using hk
    rw [show (grow (putRowK spnC 2 (Sort.ahead w q) g 0 d) os).heap[k]? = (putRowK spnC 2 (Sort.ahead w q) g 0 d).heap[k]? from heap_grow_old _ _ hk2]
    simp [putRowK, putRow, mapBlock, Sort.ahead, Array.getElem?_modify, this]
/-- the order of spans. -/
def cmpI (x y : Int) : Int := if x < y then -1 else if y < x then 1 else 0
def cmpS (x y : Int × Int) : Int := if cmpI x.1 y.1 ≠ 0 then cmpI x.1 y.1 else cmpI x.2 y.2
def ltS (x y : Int × Int) : Bool := decide (x.1 < y.1 ∨ (x.1 = y.1 ∧ x.2 < y.2))
theorem ltS_of (x y : Int × Int) : ltOf cmpS x y = ltS x y := by
  unfold ltOf cmpS cmpI ltS
  by_cases h1 : x.1 < y.1
  · simp [h1]
  · by_cases h2 : y.1 < x.1
    · have h3 : ¬ x.1 = y.1 := by omega
      simp [h1, h2, h3]
    · have h3 : x.1 = y.1 := by omega
      by_cases h4 : x.2 < y.2
      · simp [h3, h4]
      · by_cases h5 : y.2 < x.2 <;> simp [h3, h4, h5]
theorem swo_S : SWO (ltOf cmpS) where
  irrefl x := by rw [ltS_of]; simp [ltS]
  trans x y z h1 h2 := by rw [ltS_of] at *; simp [ltS] at *; omega
  ntrans x y z h1 h2 := by rw [ltS_of] at *; simp [ltS] at *; omega
theorem isNaN_any (x : Int) (w : World) : Calls Try.prog 71 #[.int .i64 x] w fun e w' => e = .returned (.bool false) ∧ w = w' := by
  go_enter Try.func71, Try.ntmps71
  go_wp2
  go_ret
  exact ⟨by simp, rfl⟩
theorem compare_any (x y : Int) (w : World) : Calls Try.prog 54 #[.int .i64 x, .int .i64 y] w fun e w' => e = .returned (.int .i64 (cmpI x y)) ∧ w = w' := by
  have hc : (x < y ∧ cmpI x y = -1) ∨ (¬ x < y ∧ y < x ∧ cmpI x y = 1) ∨ (¬ x < y ∧ ¬ y < x ∧ cmpI x y = 0) := by
    unfold cmpI
    by_cases h1 : x < y
    · exact .inl ⟨h1, if_pos h1⟩
    · by_cases h2 : y < x
      · exact .inr (.inl ⟨h1, h2, by rw [if_neg h1, if_pos h2]⟩)
      · exact .inr (.inr ⟨h1, h2, by rw [if_neg h1, if_neg h2]⟩)
  generalize cmpI x y = C at *
  have NN := Lib.hid isNaN_any
  rcases hc with ⟨h1, rfl⟩ | ⟨h1, h2, rfl⟩ | ⟨h1, h2, rfl⟩
  all_goals
    go_enter Try.func54, Try.ntmps54
    go_wp2_with (go_at_call 71; refine (NN.out _ _).mono ?_; rintro e w1 ⟨rfl, rfl⟩)
    go_ret
    exact ⟨rfl, rfl⟩
theorem or_any (x y : Int) (b : Nat) (w : World) (h0 : w.cell? ⟨b, 0, none⟩ = some (.int .i64 x)) (h1 : w.cell? ⟨b, 1, none⟩ = some (.int .i64 y)) : Calls Try.prog 53 #[.slice (some ⟨b, 0, none⟩) 2 2] w fun e w' => e = .returned (.int .i64 (if x ≠ 0 then x else y)) ∧ w = w' := by
  have hR : Hid ((x = 0 → y = 0 → (if x ≠ 0 then x else y) = 0) ∧ (x ≠ 0 → (if x ≠ 0 then x else y) = x) ∧ (x = 0 → (if x ≠ 0 then x else y) = y)) := Lib.hid ⟨fun h1 h2 => by simp [h1, h2], fun h => by simp [h], fun h => by simp [h]⟩
  generalize (if x ≠ 0 then x else y) = R at *
  go_enter Try.func53, Try.ntmps53
  go_wp2_with fail
  go_loopw [8] (fun i wx => ∃ k : Nat, k ≤ 2 ∧ i = .int .i64 k ∧ (0 < k → x = 0) ∧ (1 < k → y = 0) ∧ w = wx) (fun i _ => 2 - (intOf i).toNat)
  case atStart => exact ⟨0, by omega, rfl, by omega, by omega, rfl⟩
  case round =>
    obtain ⟨k, hk, rfl, hx, hy, rfl⟩ := hrel
    match k, hk with
    | 0, _ =>
      clear hx hy
      by_cases hx : x = 0
      · have hb : (x != 0) = false := by simp [hx]
        have HX := Lib.hid hx
        clear hx
        go_wp2_with fail
        go_roundw
        case rel => exact ⟨1, by omega, rfl, fun _ => HX.out, by omega, by first | rfl | trivial⟩
        case measure => simp [intOf]
      · have hb : (x != 0) = true := by simp [hx]
        have HX := Lib.hid hx
        clear hx
        go_wp2_with fail
        go_ret
        exact ⟨by rw [hR.out.2.1 HX.out]; rfl, rfl⟩
    | 1, _ =>
      have HX := Lib.hid (hx (by omega))
      clear hx hy
      by_cases hy : y = 0
      · have hb : (y != 0) = false := by simp [hy]
        have HY := Lib.hid hy
        clear hy
        go_wp2_with fail
        go_roundw
        case rel => exact ⟨2, by omega, rfl, fun _ => HX.out, fun _ => HY.out, by first | rfl | trivial⟩
        case measure => simp [intOf]
      · have hb : (y != 0) = true := by simp [hy]
        clear hy
        go_wp2_with fail
        go_ret
        exact ⟨by rw [hR.out.2.2 HX.out]; rfl, rfl⟩
    | 2, _ =>
      have HX := Lib.hid (hx (by omega))
      have HY := Lib.hid (hy (by omega))
      clear hx hy
      go_wp2_with fail
      go_ret
      exact ⟨by rw [hR.out.1 HX.out HY.out]; rfl, rfl⟩
set_option maxRecDepth 100000 in
set_option maxHeartbeats 3200000 in
/-- the order that tidy sorts by. -/
theorem order_any (x y : Int × Int) (W : World) : Calls Try.prog 52 #[.agg #[.int .i64 x.1, .int .i64 x.2], .agg #[.int .i64 y.1, .int .i64 y.2]] W fun e w' => e = .returned (.int .i64 (cmpS x y)) ∧ ∃ q os', w' = grow (W.drewN q) os' := by
  have C1 := Lib.hid (fun W => compare_any x.1 y.1 W)
  have C2 := Lib.hid (fun W => compare_any x.2 y.2 W)
  have OR := Lib.hid (fun b W h0 h1 => or_any (cmpI x.1 y.1) (cmpI x.2 y.2) b W h0 h1)
  have hS : cmpS x y = if cmpI x.1 y.1 ≠ 0 then cmpI x.1 y.1 else cmpI x.2 y.2 := rfl
  rw [← hS] at OR
  clear hS
  obtain ⟨x1, x2⟩ := x
  obtain ⟨y1, y2⟩ := y
  simp only at *
  generalize cmpS (x1, x2) (y1, y2) = R at *
  generalize cmpI x1 y1 = A at *
  generalize cmpI x2 y2 = B at *
  go_enter Try.func52, Try.ntmps52
  go_wp2_with fail
  refine wp_letter (R := fun w0 => (∃ os, w0 = grow W os) ∧ w0.cell? ⟨W.heap.size, 0, none⟩ = some (.int .i64 x1) ∧ w0.cell? ⟨W.heap.size, 1, none⟩ = some (.int .i64 x2) ∧ w0.cell? ⟨W.heap.size + 1, 0, none⟩ = some (.int .i64 y1) ∧ w0.cell? ⟨W.heap.size + 1, 1, none⟩ = some (.int .i64 y2)) ⟨⟨_, by rw [alloc_eq_grow, alloc_eq_grow, grow_grow]⟩, by simp [go_sem], by simp [go_sem], by simp [go_sem], by simp [go_sem]⟩ ?_
  rintro w0 ⟨⟨os, hw0⟩, x0c, x1c, y0c, y1c⟩
  have HW := Lib.hid hw0
  have l1 := cell_lt2 x0c
  have l2 := cell_lt2 y0c
  clear hw0
  go_region_held3 (fun w' => w'.cell? ⟨W.heap.size, 0, none⟩ = some (.int .i64 x1) ∧ w'.cell? ⟨W.heap.size, 1, none⟩ = some (.int .i64 x2) ∧ w'.cell? ⟨W.heap.size + 1, 0, none⟩ = some (.int .i64 y1) ∧ w'.cell? ⟨W.heap.size + 1, 1, none⟩ = some (.int .i64 y2))
    (first | (go_keep; done) | (simp [go_sem, ↓IntWalk.iteOmega, x0c, x1c, y0c, y1c]; done))
    (first
    | (go_at_call_of 54 (Value.int IntKind.i64 x1); refine (C1.out _).mono ?_; rintro e w1 ⟨rfl, rfl⟩)
    | (go_at_call_of 54 (Value.int IntKind.i64 x2); refine (C2.out _).mono ?_; rintro e w1 ⟨rfl, rfl⟩)
    | (go_at_call 53; refine (OR.out _ _ (by simp [go_sem]) (by simp [go_sem])).mono ?_; rintro e w1 ⟨rfl, rfl⟩))
  all_goals try go_wp2_with fail
  all_goals
    go_ret
    exact ⟨by rfl, 1, _, by rw [HW.out, alloc_eq_grow, grow_grow]; rfl⟩
/-- behind the sort the row holds the spans in order; nothing else has turned. -/
theorem sort_any {B g n cap : Nat} {l : List (Int × Int)} (w : World) (h : w.ownsRow B 40 2 (.slice (some ⟨g, 0, none⟩) n cap) n (l.flatMap spnC)) (hn : n ≤ 1000000) :
    Calls Try.prog 51 #[.slice (some ⟨g, 0, none⟩) n cap, .func (.func 52) #[] #[]] w fun e w' => e = .returned (.tuple #[]) ∧
      ∃ l' : List (Int × Int), l'.Perm l ∧ l'.Pairwise (fun x y => ltS y x = false) ∧ w'.ownsRow B 40 2 (.slice (some ⟨g, 0, none⟩) n cap) n (l'.flatMap spnC) ∧ w.grownBy w' (some g) := by
  obtain ⟨hH, hl, hg⟩ := holdsK_of h
  have eg : ∀ args w, (callFunc 52 args).run Try.prog w = .ok (.enter 52 args) w := enters_of Try.func52 (by kernel_rfl) rfl
  have hcmp : CmpLays Try.prog 52 #[] spnC 2 cmpS g 0 l.toArray.size w := fun _ _ _ _ x y => order_any x y _
  have hcon := AnyQ.slices_SortFunc sortLays 2 Try.isAgg40 Try.sizeOf40 spnC (fun _ => rfl) (fun x v hv => by simp [spnC] at hv; rcases hv with rfl | rfl <;> rfl) cmpS swo_S 52 #[] g 0 cap l.toArray w eg hcmp hH hg (by simp; omega)
  have hsz : l.toArray.size = n := by simpa using hl
  rw [hsz] at hcon
  change Calls Try.prog 51 _ _ _ at hcon
  refine hcon.mono ?_
  rintro e w' ⟨rfl, d', m, os, hp, hs, rfl⟩
  have hds : d'.size = n := by rw [hp.1]; simpa using hl
  refine ⟨rfl, d'.toList, ?_, ?_, ?_, grown_putRowK w g m d' os⟩
  · have h2 := hp.2.2
    have e1 : (d'.extract 0 n).toList = d'.toList := by rw [← hds]; simp
    have e2 : (l.toArray.extract 0 n).toList = l := by rw [← hl]; simp
    rwa [e1, e2] at h2
  · rw [List.pairwise_iff_getElem]
    intro i j hi hj hij
    have h3 := hs i j (Nat.zero_le _) hij (by simpa [hds] using hj)
    rw [ltS_of] at h3
    have hi' : i < d'.size := by simpa using hi
    have hj' : j < d'.size := by simpa using hj
    rw [getElem!_pos d' i hi', getElem!_pos d' j hj'] at h3
    simpa using h3
  · have h4 := owns_putRowK (q := m) (ys := d'.toList) h (by simpa using hds)
    rw [show d'.toList.toArray = d' from by simp] at h4
    exact h4.kept (row := none) ⟨rfl, rfl, rfl, by simp [sortWorldK, grow], fun k hk _ => heap_grow_old _ _ hk⟩ (.inr (by simp [Value.ownBlock]))
end Go.Proofs.Ytlbkloamabomcaa
namespace Go.Proofs.Ytlbkloamabomcaa
open Go.RowKit Go.Sort Go.Lib
set_option linter.unusedVariables false
set_option linter.unusedSimpArgs false
/-- of the first k those that are not as the one ahead. -/
def ddK (l : List (Int × Int)) : Nat → List (Int × Int)
  | 0 => []
  | k + 1 => if 0 < k ∧ l[k]? = l[k - 1]? then ddK l k else ddK l k ++ l[k]?.toList
theorem ddK_eq (l : List (Int × Int)) {k : Nat} (h0 : 0 < k) (h : l[k]? = l[k - 1]?) : ddK l (k + 1) = ddK l k := by
  show (if 0 < k ∧ l[k]? = l[k - 1]? then ddK l k else ddK l k ++ l[k]?.toList) = _
  rw [if_pos ⟨h0, h⟩]
theorem ddK_ne (l : List (Int × Int)) {k : Nat} {x : Int × Int} (hx : l[k]? = some x) (h : ¬ (0 < k ∧ l[k]? = l[k - 1]?)) : ddK l (k + 1) = ddK l k ++ [x] := by
  show (if 0 < k ∧ l[k]? = l[k - 1]? then ddK l k else ddK l k ++ l[k]?.toList) = _
  rw [if_neg h, hx]
  rfl
theorem ddK_len (l : List (Int × Int)) : ∀ k, (ddK l k).length ≤ k
  | 0 => Nat.le_refl _
  | k + 1 => by
    have h := ddK_len l k
    show (if 0 < k ∧ l[k]? = l[k - 1]? then ddK l k else ddK l k ++ l[k]?.toList).length ≤ k + 1
    split
    · omega
    · rw [List.length_append]
      cases l[k]? <;> simp <;> omega
/-- block g holds just these cells. -/
def Blk (w : World) (g : Nat) (e : TypeId) (cur : Array Value) : Prop := w.heap[g]? = some (.cells cur e (0, 0))
theorem Blk.cell {w : World} {g : Nat} {e : TypeId} {cur : Array Value} (h : Blk w g e cur) (i : Nat) : w.cell? ⟨g, i, none⟩ = cur[i]? := by
  unfold Blk at h
  simp [World.cell?, h]
theorem Blk.frozen {w : World} {g : Nat} {e : TypeId} {cur : Array Value} (h : Blk w g e cur) (i : Nat) : w.frozen? ⟨g, i, none⟩ = false := by
  unfold Blk at h
  simp [World.frozen?, h]
theorem Blk.set {w : World} {g : Nat} {e : TypeId} {cur : Array Value} (h : Blk w g e cur) (i : Nat) (v : Value) : Blk (w.setCell ⟨g, i, none⟩ v) g e (cur.setIfInBounds i v) := by
  unfold Blk at *
  simp [World.setCell, Array.getElem?_modify, h]
theorem Blk.next {w w' : World} {g : Nat} {e : TypeId} {cur : Array Value} (h : Blk w g e cur) (hb : Below w.heap.size w w') : Blk w' g e cur := by
  unfold Blk at *
  have hg : g < w.heap.size := by
    rcases Nat.lt_or_ge g w.heap.size with h' | h'
    · exact h'
    · rw [Array.getElem?_eq_none h'] at h; cases h
  rw [hb.block g hg]
  exact h
theorem Blk.setCells {g : Nat} {e : TypeId} : ∀ (vs : List Value) (o : Nat) {w : World} {cur : Array Value}, Blk w g e cur → ∃ cur', Blk (w.setCells g o vs) g e cur' ∧ cur'.size = cur.size ∧ ∀ i, i < o → cur'[i]? = cur[i]?
  | [], _, w, cur, h => ⟨cur, h, rfl, fun _ _ => rfl⟩
  | v :: r, o, w, cur, h => by
    obtain ⟨c', h1, h2, h3⟩ := Blk.setCells r (o + 1) (h.set o v)
    refine ⟨c', h1, by simpa using h2, fun i hi => ?_⟩
    rw [h3 i (by omega)]
    rw [Array.getElem?_setIfInBounds]
    rw [if_neg (by omega)]
/-- what lies there while it is compacted. -/
structure CmpW (w wr : World) (g : Nat) (e : TypeId) (cap : Nat) (l : List (Int × Int)) (k : Nat) : Prop where
  onto : Onto g w wr
  blk : ∃ cur, Blk wr g e cur ∧ cur.size = cap * 2 ∧ (∀ j x, (ddK l k)[j]? = some x → cur[j * 2]? = some (.int .i64 x.1) ∧ cur[j * 2 + 1]? = some (.int .i64 x.2)) ∧
    (∀ j x, (ddK l k).length ≤ j → l[j]? = some x → cur[j * 2]? = some (.int .i64 x.1) ∧ cur[j * 2 + 1]? = some (.int .i64 x.2))
theorem CmpW.same {w wr : World} {g cap k : Nat} {e : TypeId} {l : List (Int × Int)} (h : CmpW w wr g e cap l k) (h0 : 0 < k) (he : l[k]? = l[k - 1]?) : CmpW w wr g e cap l (k + 1) := by
  obtain ⟨ho, cur, b1, b2, b3, b4⟩ := h
  exact ⟨ho, cur, b1, b2, by rw [ddK_eq l h0 he]; exact b3, by rw [ddK_eq l h0 he]; exact b4⟩
theorem CmpW.next {w wr wy : World} {g cap k : Nat} {e : TypeId} {l : List (Int × Int)} (h : CmpW w wr g e cap l k) (p : Regrown) : CmpW w (more wr p) g e cap l k := by
  obtain ⟨ho, cur, b1, b2, b3, b4⟩ := h
  exact ⟨ho.more p, cur, b1.next (more_below _ _), b2, b3, b4⟩
theorem CmpW.keep {w wr : World} {g cap k : Nat} {e : TypeId} {l : List (Int × Int)} (h : CmpW w wr g e cap l k) {x : Int × Int} (hx : l[k]? = some x) (hk : k < cap) (he : ¬ (0 < k ∧ l[k]? = l[k - 1]?)) :
    CmpW w ((wr.setCell ⟨g, (ddK l k).length * 2, none⟩ (.int .i64 x.1)).setCell ⟨g, (ddK l k).length * 2 + 1, none⟩ (.int .i64 x.2)) g e cap l (k + 1) := by
  obtain ⟨ho, cur, b1, b2, b3, b4⟩ := h
  have hl := ddK_len l k
  refine ⟨(ho.set _ _).set _ _, _, (b1.set _ _).set _ _, by simpa using b2, ?_, ?_⟩
  · rw [ddK_ne l hx he]
    intro j y hy
    rcases Nat.lt_or_ge j (ddK l k).length with hj | hj
    · rw [List.getElem?_append_left hj] at hy
      have := b3 j y hy
      simp only [Array.getElem?_setIfInBounds]
      rw [if_neg (by omega), if_neg (by omega), if_neg (by omega), if_neg (by omega)]
      exact this
    · rw [List.getElem?_append_right hj] at hy
      have hj2 : j = (ddK l k).length := by
        rcases Nat.lt_or_ge (j - (ddK l k).length) 1 with h1 | h1
        · omega
        · rw [List.getElem?_eq_none (by simpa using h1)] at hy; cases hy
      subst hj2
      simp at hy
      subst hy
      constructor
      · simp [Array.getElem?_setIfInBounds]
        omega
      · simp [Array.getElem?_setIfInBounds]
        omega
  · intro j y hj hy
    rw [ddK_ne l hx he, List.length_append] at hj
    simp only [List.length_cons, List.length_nil] at hj
    have := b4 j y (by omega) hy
    simp only [Array.getElem?_setIfInBounds]
    rw [if_neg (by omega), if_neg (by omega), if_neg (by omega), if_neg (by omega)]
    exact this
/-- a slot that is read. -/
theorem CmpW.high {w wr : World} {g cap k j : Nat} {e : TypeId} {l : List (Int × Int)} (h : CmpW w wr g e cap l k) {x : Int × Int} (hj : (ddK l k).length ≤ j) (hx : l[j]? = some x) :
    wr.cell? ⟨g, j * 2, none⟩ = some (.int .i64 x.1) ∧ wr.cell? ⟨g, j * 2 + 1, none⟩ = some (.int .i64 x.2) := by
  obtain ⟨ho, cur, b1, b2, b3, b4⟩ := h
  rw [b1.cell, b1.cell]
  exact b4 j x hj hx
theorem CmpW.there {w wr : World} {g cap k : Nat} {e : TypeId} {l : List (Int × Int)} (h : CmpW w wr g e cap l k) (i : Nat) (hi : i < cap * 2) : (wr.cell? ⟨g, i, none⟩).isSome = true ∧ wr.frozen? ⟨g, i, none⟩ = false := by
  obtain ⟨ho, cur, b1, b2, b3, b4⟩ := h
  rw [b1.cell, b1.frozen]
  refine ⟨?_, rfl⟩
  rw [Array.getElem?_eq_getElem (by omega)]
  rfl
theorem blk_of {w : World} {B g n cap : Nat} {e : TypeId} {l : List (Int × Int)} (h : w.ownsRow B e 2 (.slice (some ⟨g, 0, none⟩) n cap) n (l.flatMap spnC)) : B ≤ g ∧ n ≤ cap ∧ cap ≤ maxLen ∧ l.length = n ∧ ∃ cur, Blk w g e cur ∧ cur.size = cap * 2 ∧ ∀ j x, l[j]? = some x → cur[j * 2]? = some (.int .i64 x.1) ∧ cur[j * 2 + 1]? = some (.int .i64 x.2) := by
  have hl : l.length = n := by have := h.1; rw [spnC_len] at this; omega
  rcases h.2 with ⟨e0, _⟩ | ⟨g', cap', cur, e0, hb, hg, hn, hm, hs, ht⟩
  · cases e0
  · injection e0 with e1 _ e3
    injection e1 with e1
    injection e1 with e1
    subst e1; subst e3
    refine ⟨hb, hn, hm, hl, cur, hg, hs, fun j x hx => ?_⟩
    have hj : j < l.length := (List.getElem?_eq_some_iff.1 hx).1
    have hx2 : l[j]! = x := by
      obtain ⟨h1, h2⟩ := List.getElem?_eq_some_iff.1 hx
      rw [getElem!_pos l j h1, h2]
    have e1 : ∀ t, t < n * 2 → cur[t]? = some ((spnC (l[t / 2]!))[t % 2]!) := fun t ht2 => by
      have e1 : (cur.toList.take (n * 2))[t]? = (l.flatMap spnC)[t]? := by rw [ht]
      rw [List.getElem?_take, if_pos ht2, Array.getElem?_toList, spnC_get l t (by omega)] at e1
      exact e1
    have h1 := e1 (j * 2) (by omega)
    have h2 := e1 (j * 2 + 1) (by omega)
    rw [show j * 2 / 2 = j by omega, show j * 2 % 2 = 0 by omega, hx2] at h1
    rw [show (j * 2 + 1) / 2 = j by omega, show (j * 2 + 1) % 2 = 1 by omega, hx2] at h2
    exact ⟨h1, h2⟩
theorem owns_of_blk {w : World} {B g n cap : Nat} {e : TypeId} {cur : Array Value} {l : List (Int × Int)} (hB : B ≤ g) (hb : Blk w g e cur) (hs : cur.size = cap * 2) (hm : cap ≤ maxLen) (hn : n ≤ cap) (hl : l.length = n) (hc : ∀ j x, l[j]? = some x → cur[j * 2]? = some (.int .i64 x.1) ∧ cur[j * 2 + 1]? = some (.int .i64 x.2)) :
    w.ownsRow B e 2 (.slice (some ⟨g, 0, none⟩) n cap) n (l.flatMap spnC) := by
  refine ⟨by rw [spnC_len, hl], .inr ⟨g, cap, cur, rfl, hB, hb, hn, hm, hs, ?_⟩⟩
  apply List.ext_getElem?
  intro t
  rw [List.getElem?_take, Array.getElem?_toList]
  by_cases ht : t < n * 2
  · rw [if_pos ht, spnC_get l t (by omega)]
    have hj : t / 2 < l.length := by omega
    have hx : l[t / 2]? = some (l[t / 2]!) := by rw [getElem!_pos l _ hj]; exact List.getElem?_eq_getElem hj
    obtain ⟨h1, h2⟩ := hc _ _ hx
    rcases (by omega : t % 2 = 0 ∨ t % 2 = 1) with h3 | h3
    · rw [show t / 2 * 2 = t by omega] at h1
      rw [h1, h3]
      rfl
    · rw [show t / 2 * 2 + 1 = t by omega] at h2
      rw [h2, h3]
      rfl
  · rw [if_neg ht, List.getElem?_eq_none (by rw [spnC_len]; omega)]
theorem zero_span (W : World) : (zeroValue 40).run Try.prog W = .ok (.agg #[.int .i64 0, .int .i64 0]) W := by kernel_rfl
theorem clear_spans (w : World) (ty : TypeId) (b o n c : Nat) (hn : 0 < n) (hc : ∀ j, j < n * 2 → (w.cell? ⟨b, o + j, none⟩).isSome = true) (hf : ∀ j, j < n * 2 → w.frozen? ⟨b, o + j, none⟩ = false) :
    (Builtin.clear_ #[44] ty #[.slice (some ⟨b, o, none⟩) n c]).run Try.prog w = .ok (.tuple #[]) (w.setCells b o (List.replicate (n * 2) (.int .i64 0))) := by
  have hzc : (Builtin.zeroCells (Value.agg #[.int .i64 0, .int .i64 0]).cells n).toList = List.replicate (n * 2) (.int .i64 0) := by
    simp [Builtin.zeroCells, Value.cells]
    apply List.ext_getElem
    · simp
    · intro i h1 h2
      simp
      rcases (by omega : i % 2 = 0 ∨ i % 2 = 1) with h3 | h3 <;> simp [h3]
  have hst := run_storeCells_cells (P := Try.prog) b o (List.replicate (n * 2) (.int .i64 0)) 0 w (by simpa using hc) (by simpa using hf) (by intro v hv'; rw [List.eq_of_mem_replicate hv']; rfl)
  simp only [Nat.add_zero] at hst
  obtain ⟨m, rfl⟩ : ∃ m, n = m + 1 := ⟨n - 1, by omega⟩
  simp [Builtin.clear_, run_underlying Try.underlying44, zero_span, hzc, hst]
end Go.Proofs.Ytlbkloamabomcaa
namespace Go.Proofs.Ytlbkloamabomcaa
open Go.RowKit Go.Sort Go.Lib
set_option linter.unusedVariables false
set_option linter.unusedSimpArgs false
theorem guard_spn : Try.prog.eqGuardType Try.prog.depth 40 = false := by kernel_rfl
theorem stood_spn : Try.prog.stoodInHeld 40 = false := by kernel_rfl
theorem eql_spn (a b c d : Int) (w : World) : (binOp .eql 40 (.agg #[.int .i64 a, .int .i64 b]) (.agg #[.int .i64 c, .int .i64 d])).run Try.prog w = .ok (.bool (a == c && b == d)) w := by
  have h1 := stood_spn
  by_cases h : a = c <;> by_cases k : b = d <;> simp [go_sem, h1, h, k]
theorem neq_spn (a b c d : Int) (w : World) : (binOp .neq 40 (.agg #[.int .i64 a, .int .i64 b]) (.agg #[.int .i64 c, .int .i64 d])).run Try.prog w = .ok (.bool (!(a == c && b == d))) w := by
  have h1 := stood_spn
  by_cases h : a = c <;> by_cases k : b = d <;> simp [go_sem, h1, h, k]
theorem get_sm {α : Type} (l : List α) (i : Nat) (h : i < l.length) : ∃ x, l[i]? = some x := ⟨l[i], List.getElem?_eq_getElem h⟩
theorem CmpW.low {w wr : World} {g cap k j : Nat} {e : TypeId} {l : List (Int × Int)} (h : CmpW w wr g e cap l k) {x : Int × Int} (hx : (ddK l k)[j]? = some x) :
    wr.cell? ⟨g, j * 2, none⟩ = some (.int .i64 x.1) ∧ wr.cell? ⟨g, j * 2 + 1, none⟩ = some (.int .i64 x.2) := by
  obtain ⟨ho, cur, b1, b2, b3, b4⟩ := h
  rw [b1.cell, b1.cell]
  exact b3 j x hx
theorem CmpW.stay {w wr : World} {g cap k : Nat} {e : TypeId} {l : List (Int × Int)} (h : CmpW w wr g e cap l k) (hd : ddK l k = l.take k) {x : Int × Int} (hx : l[k]? = some x) (he : ¬ (0 < k ∧ l[k]? = l[k - 1]?)) : ddK l (k + 1) = l.take (k + 1) ∧ CmpW w wr g e cap l (k + 1) := by
  have hk : k < l.length := (List.getElem?_eq_some_iff.1 hx).1
  have e1 : ddK l (k + 1) = l.take (k + 1) := by rw [ddK_ne l hx he, hd, List.take_add_one, hx]; rfl
  refine ⟨e1, ?_⟩
  obtain ⟨ho, cur, b1, b2, b3, b4⟩ := h
  refine ⟨ho, cur, b1, b2, ?_, ?_⟩
  · rw [e1]
    intro j y hy
    rw [List.getElem?_take] at hy
    split at hy
    · rcases Nat.lt_or_ge j k with hj | hj
      · exact b3 j y (by rw [hd, List.getElem?_take, if_pos hj]; exact hy)
      · exact b4 j y (by rw [hd]; simp; omega) hy
    · cases hy
  · rw [e1]
    intro j y hj hy
    exact b4 j y (by rw [hd]; simp at hj ⊢; omega) hy
theorem CmpW.dn {w wr : World} {g cap k : Nat} {e : TypeId} {l : List (Int × Int)} (h : CmpW w wr g e cap l k) (m : Nat) : CmpW w (wr.drewN m) g e cap l k := by
  obtain ⟨p, hp⟩ := more_of_below (below_dn (Below.refl wr.heap.size wr) m)
  rw [hp]
  exact h.next (wy := wr) p
theorem pair_ne {a b c d : Int} (h : (a == c && b == d) = false) : ((a, b) : Int × Int) ≠ (c, d) := fun e => by
  injection e with h1 h2
  simp [h1, h2] at h
theorem pair_eq {a b c d : Int} (h : (a == c && b == d) = true) : ((a, b) : Int × Int) = (c, d) := by
  simp at h
  rw [h.1, h.2]
set_option maxRecDepth 100000 in
set_option maxHeartbeats 3200000 in
theorem compact_any {B g n cap : Nat} {l : List (Int × Int)} (w : World) (h : w.ownsRow B 40 2 (.slice (some ⟨g, 0, none⟩) n cap) n (l.flatMap spnC)) (hn : n ≤ 1000000) :
    Calls Try.prog 55 #[.slice (some ⟨g, 0, none⟩) n cap] w fun e w' => e = .returned (.slice (some ⟨g, 0, none⟩) (ddK l n).length cap) ∧ Onto g w w' ∧ w'.ownsRow B 40 2 (.slice (some ⟨g, 0, none⟩) (ddK l n).length cap) (ddK l n).length ((ddK l n).flatMap spnC) := by
  obtain ⟨hB, hnc, hcm, hl, cur, b1, b2, b3⟩ := blk_of h
  have hcm2 : cap ≤ 9223372036854775807 := by unfold maxLen at hcm; exact hcm
  have H := Lib.hid h
  have HQ := eql_spn
  have HN := neq_spn
  by_cases h2 : n < 2
  · have hd : ddK l n = l := by
      match n, l, hl with
      | 0, [], _ => rfl
      | 1, [x], _ => rfl
    rw [hd]
    have HL := Lib.hid hl
    clear h hd b3 hl
    go_enter Try.func55, Try.ntmps55
    go_wp2_with fail
    go_ret
    exact ⟨by rw [HL.out]; rfl, Onto.refl, by rw [HL.out]; exact H.out⟩
  · have h0 : CmpW w w g 40 cap l 1 := by
      refine ⟨Onto.refl, cur, b1, b2, ?_, fun j x _ hx => b3 j x hx⟩
      have e : ddK l 1 = l[0]?.toList := by
        show (if 0 < 0 ∧ _ then ddK l 0 else ddK l 0 ++ l[0]?.toList) = _
        rw [if_neg (by omega)]
        rfl
      intro j x hx
      rw [e] at hx
      cases h00 : l[0]? with
      | none => rw [h00] at hx; simp at hx
      | some y =>
        rw [h00] at hx
        have hj : j = 0 := by
          rcases Nat.lt_or_ge j 1 with h1 | h1
          · omega
          · rw [List.getElem?_eq_none (by simpa using h1)] at hx; cases hx
        subst hj
        simp at hx
        subst hx
        exact b3 0 y h00
    have e1 : ddK l 1 = l.take 1 := by
      show (if 0 < 0 ∧ _ then ddK l 0 else ddK l 0 ++ l[0]?.toList) = _
      rw [if_neg (by omega)]
      cases l <;> rfl
    have H0 := Lib.hid h0
    have E1 := Lib.hid e1
    have HL := Lib.hid hl
    clear h b3 h0 e1 hl b1 b2
    go_enter Try.func55, Try.ntmps55
    go_wp2_with fail
    go_loopw [3] (fun v3 wr => ∃ j : Nat, j + 1 ≤ n ∧ v3 = .int .i64 ((j : Int) + 1) ∧ ddK l (j + 1) = l.take (j + 1) ∧ CmpW w wr g 40 cap l (j + 1)) (fun v3 _ => n - (intOf v3).toNat)
    case atStart => exact ⟨0, by omega, by go_num, E1.out, H0.out⟩
    case round =>
      obtain ⟨j, hj, rfl, hlen, hc⟩ := hrel
      have HC := Lib.hid hc
      have HLN := Lib.hid hlen
      by_cases hlt : (j : Int) + 1 < n
      · obtain ⟨y, hy⟩ := get_sm l (j + 1) (by have := HL.out; omega)
        obtain ⟨x, hx⟩ := get_sm l j (by have := HL.out; omega)
        obtain ⟨y0, y1⟩ := hc.high (j := j + 1) (by rw [hlen]; simp; omega) hy
        obtain ⟨x0, x1⟩ := hc.low (j := j) (x := x) (by rw [hlen, List.getElem?_take, if_pos (by omega)]; exact hx)
        have HX := Lib.hid hx
        have HY := Lib.hid hy
        clear hc hlen hx hy H0
        obtain ⟨xa, xb⟩ := x
        obtain ⟨ya, yb⟩ := y
        simp only at x0 x1 y0 y1
        cases he : (ya == xa && yb == xb) with
        | false =>
          have HS := Lib.hid (fun m => (HC.out.dn m).stay HLN.out HY.out (fun h => pair_ne he (by
            have h1 := h.2
            rw [HY.out, show j + 1 - 1 = j by omega, HX.out] at h1
            exact Option.some.inj h1)))
          go_wp2_with fail
          go_quiet (fail)
          go_wp2_with fail
          exact ⟨⟨j + 1, by omega, by go_num, (HS.out nq).1, (HS.out nq).2⟩, by simp [intOf]; omega⟩
        | true =>
          have hdup : l[j + 1]? = l[j + 1 - 1]? := by
            rw [HY.out, show j + 1 - 1 = j by omega, HX.out]
            exact congrArg some (pair_eq he)
          have hd2 : ddK l (j + 1 + 1) = ddK l (j + 1) := ddK_eq l (by omega) hdup
          have HD2 : Hid ((ddK l (j + 1 + 1)).length = j + 1) := Lib.hid (by rw [hd2, HLN.out]; simp; have := HL.out; omega)
          have HC2 := Lib.hid (fun m => (HC.out.dn m).same (by omega) hdup)
          clear hdup hd2
          go_wp2_with fail
          go_quiet (fail)
          go_wp2_with fail
          clear x0 x1 y0 y1 HX HY he HC HLN
          have HC3 := Lib.hid (HC2.out nq)
          generalize wr.drewN nq = wq at *
          clear HC2
          go_loopw [3, 5] (fun v3 v5 wr2 => ∃ m : Nat, j + 1 + (m + 1) ≤ n ∧ v5 = .int .i64 ((m : Int) + 1) ∧ v3 = .int .i64 ((ddK l (j + 1 + (m + 1))).length : Nat) ∧ CmpW w wr2 g 40 cap l (j + 1 + (m + 1)) ∧ (ddK l (j + 1 + (m + 1))).length ≤ j + 1 + m) (fun _ v5 _ => n - (intOf v5).toNat)
          case atStart => exact ⟨0, by omega, rfl, by rw [show j + 1 + (0 + 1) = j + 1 + 1 by omega, HD2.out]; go_num, HC3.out, by rw [show j + 1 + (0 + 1) = j + 1 + 1 by omega, HD2.out]; omega⟩
          case round =>
            obtain ⟨m, hm, rfl, rfl, hc, hdl⟩ := hrel
            have HC := Lib.hid hc
            clear hc HC3 HD2
            by_cases hml : (j : Int) + 1 + ((m : Int) + 1) < n
            · obtain ⟨y, hy⟩ := get_sm l (j + 1 + (m + 1)) (by have := HL.out; omega)
              obtain ⟨x, hx⟩ := get_sm l (j + 1 + m) (by have := HL.out; omega)
              obtain ⟨y0, y1⟩ := HC.out.high (j := j + 1 + (m + 1)) (by omega) hy
              obtain ⟨x0, x1⟩ := HC.out.high (j := j + 1 + m) (by omega) hx
              have a1 : (j + 1 + (m + 1)) * 2 = (j + 1) * 2 + (m + 1) * 2 := by omega
              have a2 : (j + 1 + m) * 2 = (j + 1) * 2 + m * 2 := by omega
              rw [a1] at y0 y1
              rw [a2] at x0 x1
              clear a1 a2
              have HX := Lib.hid hx
              have HY := Lib.hid hy
              clear hx hy
              obtain ⟨xa, xb⟩ := x
              obtain ⟨ya, yb⟩ := y
              simp only at x0 x1 y0 y1
              have hpi : j + 1 + (m + 1) - 1 = j + 1 + m := by omega
              cases he : (ya == xa && yb == xb) with
              | true =>
                have hdup : l[j + 1 + (m + 1)]? = l[j + 1 + (m + 1) - 1]? := by
                  rw [HY.out, hpi, HX.out]
                  exact congrArg some (pair_eq he)
                have HD : Hid (ddK l (j + 1 + (m + 1) + 1) = ddK l (j + 1 + (m + 1))) := Lib.hid (ddK_eq l (by omega) hdup)
                have HS := Lib.hid (fun m' => (HC.out.dn m').same (by omega) hdup)
                clear hdup hpi
                generalize hdn : (ddK l (j + 1 + (m + 1))).length = d at *
                have HDN := Lib.hid hdn
                clear hdn
                go_wp2_with fail
                go_quiet (fail)
                go_wp2_with fail
                exact ⟨⟨m + 1, by omega, by go_num, by rw [show j + 1 + (m + 1 + 1) = j + 1 + (m + 1) + 1 by omega, HD.out, HDN.out], by rw [show j + 1 + (m + 1 + 1) = j + 1 + (m + 1) + 1 by omega]; exact HS.out nq, by rw [show j + 1 + (m + 1 + 1) = j + 1 + (m + 1) + 1 by omega, HD.out, HDN.out]; omega⟩, by simp [intOf]; omega⟩
              | false =>
                have hnd : ¬ (0 < j + 1 + (m + 1) ∧ l[j + 1 + (m + 1)]? = l[j + 1 + (m + 1) - 1]?) := fun h => pair_ne he (by
                  have h1 := h.2
                  rw [HY.out, hpi, HX.out] at h1
                  exact Option.some.inj h1)
                have HD : Hid ((ddK l (j + 1 + (m + 1) + 1)).length = (ddK l (j + 1 + (m + 1))).length + 1) := Lib.hid (by rw [ddK_ne l HY.out hnd]; simp)
                have HS := Lib.hid (fun m' => (HC.out.dn m').keep HY.out (by omega) hnd)
                obtain ⟨t0, f0⟩ := HC.out.there ((ddK l (j + 1 + (m + 1))).length * 2) (by omega)
                obtain ⟨t1, f1⟩ := HC.out.there ((ddK l (j + 1 + (m + 1))).length * 2 + 1) (by omega)
                obtain ⟨v0, t0⟩ := Option.isSome_iff_exists.1 t0
                obtain ⟨v1, t1⟩ := Option.isSome_iff_exists.1 t1
                clear hnd hpi
                generalize hdn : (ddK l (j + 1 + (m + 1))).length = d at *
                clear hdn
                go_wp2_with fail
                go_quiet (fail)
                go_wp2_with fail
                exact ⟨⟨m + 1, by omega, by go_num, by rw [show j + 1 + (m + 1 + 1) = j + 1 + (m + 1) + 1 by omega, HD.out]; go_num, by rw [show j + 1 + (m + 1 + 1) = j + 1 + (m + 1) + 1 by omega]; exact HS.out nq, by rw [show j + 1 + (m + 1 + 1) = j + 1 + (m + 1) + 1 by omega, HD.out]; omega⟩, by simp [intOf]; omega⟩
            · have hkn : j + 1 + (m + 1) = n := by omega
              rw [hkn] at HC hdl
              have hcl := fun ty => clear_spans wr ty g ((ddK l n).length * 2) (n - (ddK l n).length) (cap - (ddK l n).length) (by omega) (fun i hi => (HC.out.there _ (by omega)).1) (fun i hi => (HC.out.there _ (by omega)).2)
              have hdl2 : (ddK l n).length ≤ n := by omega
              rw [hkn]
              have HF : Hid (Onto g w (wr.setCells g ((ddK l n).length * 2) (List.replicate ((n - (ddK l n).length) * 2) (.int .i64 0))) ∧ (wr.setCells g ((ddK l n).length * 2) (List.replicate ((n - (ddK l n).length) * 2) (.int .i64 0))).ownsRow B 40 2 (.slice (some ⟨g, 0, none⟩) (ddK l n).length cap) (ddK l n).length ((ddK l n).flatMap spnC)) := Lib.hid (by
                obtain ⟨ho, cur2, b1, b2, b3, b4⟩ := HC.out
                obtain ⟨cur3, c1, c2, c3⟩ := Blk.setCells (List.replicate ((n - (ddK l n).length) * 2) (.int .i64 0)) ((ddK l n).length * 2) b1
                refine ⟨Onto.setCells _ _ _ ho, owns_of_blk hB c1 (by omega) hcm (by omega) rfl (fun i x hx => ?_)⟩
                have hi : i < (ddK l n).length := (List.getElem?_eq_some_iff.1 hx).1
                rw [c3 _ (by omega), c3 _ (by omega)]
                exact b3 i x hx)
              clear HC
              generalize hdn : (ddK l n).length = d at *
              have HDN := Lib.hid hdn
              clear hdn
              go_wp2_with fail
              go_ret
              have hdn := HDN.out
              subst hdn
              exact ⟨rfl, HF.out.1, HF.out.2⟩
      · have hjn : j + 1 = n := by omega
        rw [hjn] at hlen hc
        have hl2 : ddK l n = l := by rw [hlen, ← HL.out]; exact List.take_length
        have HL2 := Lib.hid hl2
        have HF : Hid (wr.ownsRow B 40 2 (.slice (some ⟨g, 0, none⟩) l.length cap) l.length (l.flatMap spnC)) := Lib.hid (by
          obtain ⟨ho, cur2, b1, b2, b3, b4⟩ := hc
          rw [hl2] at b3
          exact owns_of_blk hB b1 b2 hcm (by have := HL.out; omega) rfl b3)
        have HO := Lib.hid hc.onto
        have HLL := Lib.hid HL.out.symm
        clear hc hlen hl2 HC HLN H0 E1 HL
        go_wp2_with fail
        go_ret
        rw [HL2.out]
        exact ⟨by rw [← HLL.out]; rfl, HO.out, HF.out⟩
end Go.Proofs.Ytlbkloamabomcaa
