/- Walks: what span's small functions compute. Conditions: numbers fit their kinds. -/
import Derived.Test.YtigbdndjlkmemaaProg
import Derived.Test.YtigbdndjlkmemaaKit
namespace Go.Proofs.Ytigbdndjlkmemaa
open Go.RowKit
set_option linter.unusedVariables false
set_option linter.unusedSimpArgs false
def sndB (a l : Int) : Bool := decide (0 ≤ a ∧ a ≤ 1099511627776 ∧ 0 ≤ l ∧ l ≤ 1048576)
theorem sndB_yes {a l : Int} (h : sndB a l = true) : 0 ≤ a ∧ a ≤ 1099511627776 ∧ 0 ≤ l ∧ l ≤ 1048576 := of_decide_eq_true h
theorem sndB_no {a l : Int} (h : sndB a l = false) : ¬ (0 ≤ a ∧ a ≤ 1099511627776 ∧ 0 ≤ l ∧ l ≤ 1048576) := of_decide_eq_false h
theorem ret_bool {a b : Bool} (h : a = b) : Ending.returned (.bool a) = .returned (.bool b) := by rw [h]
theorem below2 (w : World) (o : Obj) : Below w.heap.size w (w.alloc o) := (Below.refl _ _).alloc (Nat.le_refl _) _

theorem sound_any (a l : Int) (w : World) :
    Calls Try.prog 35 #[.agg #[.int .i64 a, .int .i64 l]] w fun e w' => e = .returned (.bool (sndB a l)) ∧ Below w.heap.size w w' := by
  by_cases h1 : 0 ≤ a
  case neg =>
    have H : Hid (sndB a l = false) := Lib.hid (decide_eq_false (by omega))
    go_enter Try.func35, Try.ntmps35
    go_wp2
    go_ret
    exact ⟨ret_bool (by rw [H.out]), below2 _ _⟩
  by_cases h2 : a ≤ 1099511627776
  case neg =>
    have H : Hid (sndB a l = false) := Lib.hid (decide_eq_false (by omega))
    go_enter Try.func35, Try.ntmps35
    go_wp2
    go_ret
    exact ⟨ret_bool (by rw [H.out]), below2 _ _⟩
  by_cases h3 : 0 ≤ l
  case neg =>
    have H : Hid (sndB a l = false) := Lib.hid (decide_eq_false (by omega))
    go_enter Try.func35, Try.ntmps35
    go_wp2
    go_ret
    exact ⟨ret_bool (by rw [H.out]), below2 _ _⟩
  by_cases h4 : l ≤ 1048576
  case neg =>
    have H : Hid (sndB a l = false) := Lib.hid (decide_eq_false (by omega))
    go_enter Try.func35, Try.ntmps35
    go_wp2
    go_ret
    exact ⟨ret_bool (by rw [H.out]), below2 _ _⟩
  have H : Hid (sndB a l = true) := Lib.hid (decide_eq_true (by omega))
  go_enter Try.func35, Try.ntmps35
  go_wp2
  go_ret
  exact ⟨ret_bool (by rw [H.out]), below2 _ _⟩
theorem lsound_any (a l : Int) (w : World) :
    Calls Try.prog 23 #[.agg #[.int .i64 a, .int .i64 l]] w fun e w' => e = .returned (.bool (sndB a l)) ∧ Below w.heap.size w w' := by
  by_cases h1 : 0 ≤ a
  case neg =>
    have H : Hid (sndB a l = false) := Lib.hid (decide_eq_false (by omega))
    go_enter Try.func23, Try.ntmps23
    go_wp2
    go_ret
    exact ⟨ret_bool (by rw [H.out]), below2 _ _⟩
  by_cases h2 : a ≤ 1099511627776
  case neg =>
    have H : Hid (sndB a l = false) := Lib.hid (decide_eq_false (by omega))
    go_enter Try.func23, Try.ntmps23
    go_wp2
    go_ret
    exact ⟨ret_bool (by rw [H.out]), below2 _ _⟩
  by_cases h3 : 0 ≤ l
  case neg =>
    have H : Hid (sndB a l = false) := Lib.hid (decide_eq_false (by omega))
    go_enter Try.func23, Try.ntmps23
    go_wp2
    go_ret
    exact ⟨ret_bool (by rw [H.out]), below2 _ _⟩
  by_cases h4 : l ≤ 1048576
  case neg =>
    have H : Hid (sndB a l = false) := Lib.hid (decide_eq_false (by omega))
    go_enter Try.func23, Try.ntmps23
    go_wp2
    go_ret
    exact ⟨ret_bool (by rw [H.out]), below2 _ _⟩
  have H : Hid (sndB a l = true) := Lib.hid (decide_eq_true (by omega))
  go_enter Try.func23, Try.ntmps23
  go_wp2
  go_ret
  exact ⟨ret_bool (by rw [H.out]), below2 _ _⟩
theorem empty_any (f t : Int) (w : World) :
    Calls Try.prog 34 #[.agg #[.int .i64 f, .int .i64 t]] w fun e w' => e = .returned (.bool (f == t)) ∧ Below w.heap.size w w' := by
  go_enter Try.func34, Try.ntmps34
  go_wp2
  go_ret
  exact ⟨rfl, below2 _ _⟩
/-- a span's first byte, and the one behind its last. -/
def loI (a l : Int) : Int := if sndB a l then a else 0
def hiI (a l : Int) : Int := if sndB a l then a + l else 0
theorem below_a {w w1 : World} {o : Obj} (h : Below (w.alloc o).heap.size (w.alloc o) w1) : Below w.heap.size w w1 := below_next (below2 w o) h
theorem of_any (a l : Int) (w : World) :
    Calls Try.prog 32 #[.agg #[.int .i64 a, .int .i64 l]] w fun e w' => e = .returned (.agg #[.int .i64 (loI a l), .int .i64 (hiI a l)]) ∧ Below w.heap.size w w' := by
  have A1 := Lib.hid (sound_any a l)
  cases h : sndB a l
  · have H1 : Hid (loI a l = 0) := by unfold loI; rw [h]; exact Lib.hid rfl
    have H2 : Hid (hiI a l = 0) := by unfold hiI; rw [h]; exact Lib.hid rfl
    rw [h] at A1
    clear h
    go_enter Try.func32, Try.ntmps32
    go_wp2_with fail
    refine (A1.out _).mono ?_
    rintro e w1 ⟨rfl, hb⟩
    have d0 := hb.cell (p := ⟨w.heap.size, 0, none⟩) (by simp; omega)
    have d1 := hb.cell (p := ⟨w.heap.size, 1, none⟩) (by simp; omega)
    have d2 := hb.cell (p := ⟨w.heap.size + 1, 0, none⟩) (by simp)
    have d3 := hb.cell (p := ⟨w.heap.size + 1, 1, none⟩) (by simp)
    have f2 := hb.frozen (p := ⟨w.heap.size + 1, 0, none⟩) (by simp)
    have f3 := hb.frozen (p := ⟨w.heap.size + 1, 1, none⟩) (by simp)
    simp at d0 d1 d2 d3 f2 f3
    have HB := Lib.hid (below_a (below_a hb))
    clear hb
    go_wp2_with fail
    rw [H1.out, H2.out]
    refine bodyPost_ret (v := .agg #[.int .i64 0, .int .i64 0]) (by simp [results, Try.results32, go_sem, d2, d3]) rfl ⟨rfl, ?_⟩
    exact (HB.out.setCell (by simp) _).setCell (by simp) _
  · have H1 : Hid (loI a l = a) := by unfold loI; rw [h]; exact Lib.hid rfl
    have H2 : Hid (hiI a l = (a + l)) := by unfold hiI; rw [h]; exact Lib.hid rfl
    have hs := sndB_yes h
    rw [h] at A1
    clear h
    go_enter Try.func32, Try.ntmps32
    go_wp2_with fail
    refine (A1.out _).mono ?_
    rintro e w1 ⟨rfl, hb⟩
    have d0 := hb.cell (p := ⟨w.heap.size, 0, none⟩) (by simp; omega)
    have d1 := hb.cell (p := ⟨w.heap.size, 1, none⟩) (by simp; omega)
    have d2 := hb.cell (p := ⟨w.heap.size + 1, 0, none⟩) (by simp)
    have d3 := hb.cell (p := ⟨w.heap.size + 1, 1, none⟩) (by simp)
    have f2 := hb.frozen (p := ⟨w.heap.size + 1, 0, none⟩) (by simp)
    have f3 := hb.frozen (p := ⟨w.heap.size + 1, 1, none⟩) (by simp)
    simp at d0 d1 d2 d3 f2 f3
    have HB := Lib.hid (below_a (below_a hb))
    clear hb
    go_wp2_with fail
    rw [H1.out, H2.out]
    refine bodyPost_ret (v := .agg #[.int .i64 a, .int .i64 (a + l)]) (by simp [results, Try.results32, go_sem, d2, d3]) rfl ⟨rfl, ?_⟩
    exact (HB.out.setCell (by simp) _).setCell (by simp) _
def bLo (f t g u : Int) : Int := if min t u ≤ max f g then 0 else max f g
def bHi (f t g u : Int) : Int := if min t u ≤ max f g then 0 else min t u
theorem both000 (f t g u : Int) (w : World) (h1 : f < g) (h2 : t ≤ u) (h3 : t ≤ g) : Calls Try.prog 33 #[.agg #[.int .i64 f, .int .i64 t], .agg #[.int .i64 g, .int .i64 u]] w fun e w' => e = .returned (.agg #[.int .i64 (bLo f t g u), .int .i64 (bHi f t g u)]) ∧ Below w.heap.size w w' := by
  have H1 : Hid (bLo f t g u = 0) := by unfold bLo; exact Lib.hid (by omega)
  have H2 : Hid (bHi f t g u = 0) := by unfold bHi; exact Lib.hid (by omega)
  go_enter Try.func33, Try.ntmps33
  go_wp2
  rw [H1.out, H2.out]
  refine bodyPost_ret (v := .agg #[.int .i64 0, .int .i64 0]) (by simp [results, Try.results33, go_sem]) rfl ⟨rfl, ?_⟩
  exact ((((Below.refl _ _).alloc (Nat.le_refl _) _).alloc (by simp) _).alloc (by simp; omega) _).alloc (by simp; omega) _
theorem both001 (f t g u : Int) (w : World) (h1 : f < g) (h2 : t ≤ u) (h3 : g < t) : Calls Try.prog 33 #[.agg #[.int .i64 f, .int .i64 t], .agg #[.int .i64 g, .int .i64 u]] w fun e w' => e = .returned (.agg #[.int .i64 (bLo f t g u), .int .i64 (bHi f t g u)]) ∧ Below w.heap.size w w' := by
  have H1 : Hid (bLo f t g u = g) := by unfold bLo; exact Lib.hid (by omega)
  have H2 : Hid (bHi f t g u = t) := by unfold bHi; exact Lib.hid (by omega)
  go_enter Try.func33, Try.ntmps33
  go_wp2
  rw [H1.out, H2.out]
  refine bodyPost_ret (v := .agg #[.int .i64 g, .int .i64 t]) (by simp [results, Try.results33, go_sem]) rfl ⟨rfl, ?_⟩
  exact ((((Below.refl _ _).alloc (Nat.le_refl _) _).alloc (by simp) _).alloc (by simp; omega) _).alloc (by simp; omega) _
theorem both010 (f t g u : Int) (w : World) (h1 : f < g) (h2 : u < t) (h3 : u ≤ g) : Calls Try.prog 33 #[.agg #[.int .i64 f, .int .i64 t], .agg #[.int .i64 g, .int .i64 u]] w fun e w' => e = .returned (.agg #[.int .i64 (bLo f t g u), .int .i64 (bHi f t g u)]) ∧ Below w.heap.size w w' := by
  have H1 : Hid (bLo f t g u = 0) := by unfold bLo; exact Lib.hid (by omega)
  have H2 : Hid (bHi f t g u = 0) := by unfold bHi; exact Lib.hid (by omega)
  go_enter Try.func33, Try.ntmps33
  go_wp2
  rw [H1.out, H2.out]
  refine bodyPost_ret (v := .agg #[.int .i64 0, .int .i64 0]) (by simp [results, Try.results33, go_sem]) rfl ⟨rfl, ?_⟩
  exact ((((Below.refl _ _).alloc (Nat.le_refl _) _).alloc (by simp) _).alloc (by simp; omega) _).alloc (by simp; omega) _
theorem both011 (f t g u : Int) (w : World) (h1 : f < g) (h2 : u < t) (h3 : g < u) : Calls Try.prog 33 #[.agg #[.int .i64 f, .int .i64 t], .agg #[.int .i64 g, .int .i64 u]] w fun e w' => e = .returned (.agg #[.int .i64 (bLo f t g u), .int .i64 (bHi f t g u)]) ∧ Below w.heap.size w w' := by
  have H1 : Hid (bLo f t g u = g) := by unfold bLo; exact Lib.hid (by omega)
  have H2 : Hid (bHi f t g u = u) := by unfold bHi; exact Lib.hid (by omega)
  go_enter Try.func33, Try.ntmps33
  go_wp2
  rw [H1.out, H2.out]
  refine bodyPost_ret (v := .agg #[.int .i64 g, .int .i64 u]) (by simp [results, Try.results33, go_sem]) rfl ⟨rfl, ?_⟩
  exact ((((Below.refl _ _).alloc (Nat.le_refl _) _).alloc (by simp) _).alloc (by simp; omega) _).alloc (by simp; omega) _
theorem both100 (f t g u : Int) (w : World) (h1 : g ≤ f) (h2 : t ≤ u) (h3 : t ≤ f) : Calls Try.prog 33 #[.agg #[.int .i64 f, .int .i64 t], .agg #[.int .i64 g, .int .i64 u]] w fun e w' => e = .returned (.agg #[.int .i64 (bLo f t g u), .int .i64 (bHi f t g u)]) ∧ Below w.heap.size w w' := by
  have H1 : Hid (bLo f t g u = 0) := by unfold bLo; exact Lib.hid (by omega)
  have H2 : Hid (bHi f t g u = 0) := by unfold bHi; exact Lib.hid (by omega)
  go_enter Try.func33, Try.ntmps33
  go_wp2
  rw [H1.out, H2.out]
  refine bodyPost_ret (v := .agg #[.int .i64 0, .int .i64 0]) (by simp [results, Try.results33, go_sem]) rfl ⟨rfl, ?_⟩
  exact ((((Below.refl _ _).alloc (Nat.le_refl _) _).alloc (by simp) _).alloc (by simp; omega) _).alloc (by simp; omega) _
theorem both101 (f t g u : Int) (w : World) (h1 : g ≤ f) (h2 : t ≤ u) (h3 : f < t) : Calls Try.prog 33 #[.agg #[.int .i64 f, .int .i64 t], .agg #[.int .i64 g, .int .i64 u]] w fun e w' => e = .returned (.agg #[.int .i64 (bLo f t g u), .int .i64 (bHi f t g u)]) ∧ Below w.heap.size w w' := by
  have H1 : Hid (bLo f t g u = f) := by unfold bLo; exact Lib.hid (by omega)
  have H2 : Hid (bHi f t g u = t) := by unfold bHi; exact Lib.hid (by omega)
  go_enter Try.func33, Try.ntmps33
  go_wp2
  rw [H1.out, H2.out]
  refine bodyPost_ret (v := .agg #[.int .i64 f, .int .i64 t]) (by simp [results, Try.results33, go_sem]) rfl ⟨rfl, ?_⟩
  exact ((((Below.refl _ _).alloc (Nat.le_refl _) _).alloc (by simp) _).alloc (by simp; omega) _).alloc (by simp; omega) _
theorem both110 (f t g u : Int) (w : World) (h1 : g ≤ f) (h2 : u < t) (h3 : u ≤ f) : Calls Try.prog 33 #[.agg #[.int .i64 f, .int .i64 t], .agg #[.int .i64 g, .int .i64 u]] w fun e w' => e = .returned (.agg #[.int .i64 (bLo f t g u), .int .i64 (bHi f t g u)]) ∧ Below w.heap.size w w' := by
  have H1 : Hid (bLo f t g u = 0) := by unfold bLo; exact Lib.hid (by omega)
  have H2 : Hid (bHi f t g u = 0) := by unfold bHi; exact Lib.hid (by omega)
  go_enter Try.func33, Try.ntmps33
  go_wp2
  rw [H1.out, H2.out]
  refine bodyPost_ret (v := .agg #[.int .i64 0, .int .i64 0]) (by simp [results, Try.results33, go_sem]) rfl ⟨rfl, ?_⟩
  exact ((((Below.refl _ _).alloc (Nat.le_refl _) _).alloc (by simp) _).alloc (by simp; omega) _).alloc (by simp; omega) _
theorem both111 (f t g u : Int) (w : World) (h1 : g ≤ f) (h2 : u < t) (h3 : f < u) : Calls Try.prog 33 #[.agg #[.int .i64 f, .int .i64 t], .agg #[.int .i64 g, .int .i64 u]] w fun e w' => e = .returned (.agg #[.int .i64 (bLo f t g u), .int .i64 (bHi f t g u)]) ∧ Below w.heap.size w w' := by
  have H1 : Hid (bLo f t g u = f) := by unfold bLo; exact Lib.hid (by omega)
  have H2 : Hid (bHi f t g u = u) := by unfold bHi; exact Lib.hid (by omega)
  go_enter Try.func33, Try.ntmps33
  go_wp2
  rw [H1.out, H2.out]
  refine bodyPost_ret (v := .agg #[.int .i64 f, .int .i64 u]) (by simp [results, Try.results33, go_sem]) rfl ⟨rfl, ?_⟩
  exact ((((Below.refl _ _).alloc (Nat.le_refl _) _).alloc (by simp) _).alloc (by simp; omega) _).alloc (by simp; omega) _
theorem both_any (f t g u : Int) (w : World) :
    Calls Try.prog 33 #[.agg #[.int .i64 f, .int .i64 t], .agg #[.int .i64 g, .int .i64 u]] w fun e w' => e = .returned (.agg #[.int .i64 (bLo f t g u), .int .i64 (bHi f t g u)]) ∧ Below w.heap.size w w' := by
  rcases Int.lt_or_le f g with a | a <;> rcases Int.lt_or_le u t with b | b
  · rcases Int.lt_or_le g u with c | c
    · exact both011 f t g u w a b c
    · exact both010 f t g u w a b c
  · rcases Int.lt_or_le g t with c | c
    · exact both001 f t g u w a b c
    · exact both000 f t g u w a b c
  · rcases Int.lt_or_le f u with c | c
    · exact both111 f t g u w a b c
    · exact both110 f t g u w a b c
  · rcases Int.lt_or_le f t with c | c
    · exact both101 f t g u w a b c
    · exact both100 f t g u w a b c
end Go.Proofs.Ytigbdndjlkmemaa
