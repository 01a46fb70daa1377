/- Whether a field may be: the program's walk, way by way. Conditions: the field lies in memory; what it calls is given. -/
import Derived.Test.YtlbkloamabomcaaKindTwice
import Derived.Test.YtlbkloamabomcaaKindOnly2
import Derived.Test.YtlbkloamabomcaaKindName
namespace Go.Proofs.Ytlbkloamabomcaa
open Go.RowKit Go.Sort
set_option linter.unusedVariables false
set_option linter.unusedSimpArgs false
theorem FdCells.below {w w' : World} {b off m : Nat} {nm : Nat → ByteArray} (hb : Below w.heap.size w w') (hbb : b < w.heap.size) (h : FdCells w b off m nm) : FdCells w' b off m nm := fun j hj => by
  obtain ⟨q, bt, wd, c0, c1, c2, c3, c4, c5, c6, c7, c8⟩ := h j hj
  have k : ∀ o, w'.cell? ⟨b, o, none⟩ = w.cell? ⟨b, o, none⟩ := fun o => hb.cell (p := ⟨b, o, none⟩) hbb
  exact ⟨q, bt, wd, (k _).trans c0, (k _).trans c1, (k _).trans c2, (k _).trans c3, (k _).trans c4, (k _).trans c5, (k _).trans c6, (k _).trans c7, (k _).trans c8⟩
/-- what a field's walk reads. -/
structure FieldIn (w : World) (b off fl fc i : Nat) (s : ByteArray) (q : Raw) (bt : Bool) (wd : Int) (nm : Nat → ByteArray) : Prop where
  hb : b < w.heap.size
  hi : i < fl
  hfc : fl ≤ fc
  hfm : fc ≤ 9223372036854775807
  c0 : w.cell? ⟨b, off + i * 9, none⟩ = some (.string s)
  c1 : w.cell? ⟨b, off + i * 9 + 1, none⟩ = some (.int .i64 q.kind)
  c2 : w.cell? ⟨b, off + i * 9 + 2, none⟩ = some (.int .i64 q.size)
  c3 : w.cell? ⟨b, off + i * 9 + 3, none⟩ = some (.bool q.packed)
  c4 : w.cell? ⟨b, off + i * 9 + 4, none⟩ = some (.slice q.fa q.fl q.fc)
  c5 : w.cell? ⟨b, off + i * 9 + 5, none⟩ = some (.int .i64 q.count)
  c6 : w.cell? ⟨b, off + i * 9 + 6, none⟩ = some (.slice q.ea q.el q.ec)
  c7 : w.cell? ⟨b, off + i * 9 + 7, none⟩ = some (.bool bt)
  c8 : w.cell? ⟨b, off + i * 9 + 8, none⟩ = some (.int .i64 wd)
  all : FdCells w b off i nm
  len : s.size ≤ 9223372036854775807

set_option maxHeartbeats 1000000 in
theorem field_0 (rk rs : Int) (rp : Bool) (b off fl fc : Nat) (rc : Int) (ea : Option Addr) (el ec : Nat) (s : ByteArray) (qk qs : Int) (qp : Bool) (qfa : Option Addr) (qfl qfc : Nat) (qc : Int) (qea : Option Addr) (qel qec : Nat) (bt : Bool) (wd : Int) (i : Nat) (nm : Nat → ByteArray) (w : World)
    (I : FieldIn w b off fl fc i s ⟨qk, qs, qp, qfa, qfl, qfc, qc, qea, qel, qec⟩ bt wd nm) (N : nameB s = false) (em : s.toList.isEmpty = false) :
    Calls Try.prog 89 #[.agg #[.int .i64 rk, .int .i64 rs, .bool rp, .slice (some ⟨b, off, none⟩) fl fc, .int .i64 rc, .slice ea el ec], .int .i64 i] w (Gives w (.int .i64 6)) := by
  have n1 := fun W => name_any s I.len W
  rw [N] at n1
  have N1 := Lib.hid n1
  clear n1 N
  obtain ⟨hb, hi, hfc, hfm, c0, c1, c2, c3, c4, c5, c6, c7, c8, _, _⟩ := I
  simp only at c1 c2 c3 c4 c5 c6
  go_enter Try.func89, Try.ntmps89
  go_wp2_with (first | (go_at_call 95; refine (N1.out _).mono ?_; rintro e w1 ⟨rfl, p, rfl⟩))
  go_ret
  exact Gives.mk rfl (by repeat (first | exact Below.refl _ _ | refine below_mo ?_ _ | refine below_al ?_ _))
set_option maxHeartbeats 1000000 in
theorem field_1 (rk rs : Int) (rp : Bool) (b off fl fc : Nat) (rc : Int) (ea : Option Addr) (el ec : Nat) (s : ByteArray) (qk qs : Int) (qp : Bool) (qfa : Option Addr) (qfl qfc : Nat) (qc : Int) (qea : Option Addr) (qel qec : Nat) (wd : Int) (i : Nat) (nm : Nat → ByteArray) (w : World)
    (I : FieldIn w b off fl fc i s ⟨qk, qs, qp, qfa, qfl, qfc, qc, qea, qel, qec⟩ false wd nm) (N : nameB s = false) (em : s.toList.isEmpty = true) :
    Calls Try.prog 89 #[.agg #[.int .i64 rk, .int .i64 rs, .bool rp, .slice (some ⟨b, off, none⟩) fl fc, .int .i64 rc, .slice ea el ec], .int .i64 i] w (Gives w (.int .i64 6)) := by
  have n1 := fun W => name_any s I.len W
  rw [N] at n1
  have N1 := Lib.hid n1
  clear n1 N
  obtain ⟨hb, hi, hfc, hfm, c0, c1, c2, c3, c4, c5, c6, c7, c8, _, _⟩ := I
  simp only at c1 c2 c3 c4 c5 c6
  go_enter Try.func89, Try.ntmps89
  go_wp2_with (first | (go_at_call 95; refine (N1.out _).mono ?_; rintro e w1 ⟨rfl, p, rfl⟩))
  go_ret
  exact Gives.mk rfl (by repeat (first | exact Below.refl _ _ | refine below_mo ?_ _ | refine below_al ?_ _))
set_option maxHeartbeats 1000000 in
theorem field_2 (rk rs : Int) (rp : Bool) (b off fl fc : Nat) (rc : Int) (ea : Option Addr) (el ec : Nat) (s : ByteArray) (qk qs : Int) (qp : Bool) (qfa : Option Addr) (qfl qfc : Nat) (qc : Int) (qea : Option Addr) (qel qec : Nat) (bt : Bool) (wd : Int) (i : Nat) (nm : Nat → ByteArray) (w : World)
    (I : FieldIn w b off fl fc i s ⟨qk, qs, qp, qfa, qfl, qfc, qc, qea, qel, qec⟩ bt wd nm) (N : nameB s = true) (em : s.toList.isEmpty = false) (T : anyB nm s i = true) :
    Calls Try.prog 89 #[.agg #[.int .i64 rk, .int .i64 rs, .bool rp, .slice (some ⟨b, off, none⟩) fl fc, .int .i64 rc, .slice ea el ec], .int .i64 i] w (Gives w (.int .i64 7)) := by
  have n1 := fun W => name_any s I.len W
  rw [N] at n1
  have N1 := Lib.hid n1
  clear n1 N
  have HT := Lib.hid T
  have HC := Lib.hid I.all
  clear T
  obtain ⟨hb, hi, hfc, hfm, c0, c1, c2, c3, c4, c5, c6, c7, c8, _, _⟩ := I
  simp only at c1 c2 c3 c4 c5 c6
  go_enter Try.func89, Try.ntmps89
  go_wp2_with (first | (go_at_call 95; refine (N1.out _).mono ?_; rintro e w1 ⟨rfl, p, rfl⟩) | (go_at_call 64; refine (contains_any b off i fc nm s (w.heap.size + 1) _ (by simp [go_sem]; omega) (by simp [go_sem] <;> omega) (by omega) (FdCells.below (w := w) (by repeat (first | exact Below.refl _ _ | refine below_mo ?_ _ | refine below_al ?_ _)) hb HC.out) (by simp [go_sem])).mono ?_; rw [HT.out]; rintro e w1 ⟨rfl, p, rfl⟩))
  go_ret
  exact Gives.mk rfl (by repeat (first | exact Below.refl _ _ | refine below_mo ?_ _ | refine below_al ?_ _))
set_option maxHeartbeats 1000000 in
theorem field_3 (rk rs : Int) (rp : Bool) (b off fl fc : Nat) (rc : Int) (ea : Option Addr) (el ec : Nat) (s : ByteArray) (qk qs : Int) (qp : Bool) (qfa : Option Addr) (qfl qfc : Nat) (qc : Int) (qea : Option Addr) (qel qec : Nat) (bt : Bool) (wd : Int) (i : Nat) (nm : Nat → ByteArray) (e : Int) (w : World)
    (I : FieldIn w b off fl fc i s ⟨qk, qs, qp, qfa, qfl, qfc, qc, qea, qel, qec⟩ bt wd nm) (N : nameB s = true) (em : s.toList.isEmpty = false) (T : anyB nm s i = false) (S : ∀ W, Below w.heap.size w W → Calls Try.prog 61 #[.agg #[.int .i64 qk, .int .i64 qs, .bool qp, .slice qfa qfl qfc, .int .i64 qc, .slice qea qel qec]] W (Gives W (.int .i64 e))) (be : (e != 0) = true) :
    Calls Try.prog 89 #[.agg #[.int .i64 rk, .int .i64 rs, .bool rp, .slice (some ⟨b, off, none⟩) fl fc, .int .i64 rc, .slice ea el ec], .int .i64 i] w (Gives w (.int .i64 e)) := by
  have n1 := fun W => name_any s I.len W
  rw [N] at n1
  have N1 := Lib.hid n1
  clear n1 N
  have HT := Lib.hid T
  have HC := Lib.hid I.all
  clear T
  have HS := Lib.hid S
  clear S
  obtain ⟨hb, hi, hfc, hfm, c0, c1, c2, c3, c4, c5, c6, c7, c8, _, _⟩ := I
  simp only at c1 c2 c3 c4 c5 c6
  go_enter Try.func89, Try.ntmps89
  go_wp2_with (first | (go_at_call 95; refine (N1.out _).mono ?_; rintro e w1 ⟨rfl, p, rfl⟩) | (go_at_call 64; refine (contains_any b off i fc nm s (w.heap.size + 1) _ (by simp [go_sem]; omega) (by simp [go_sem] <;> omega) (by omega) (FdCells.below (w := w) (by repeat (first | exact Below.refl _ _ | refine below_mo ?_ _ | refine below_al ?_ _)) hb HC.out) (by simp [go_sem])).mono ?_; rw [HT.out]; rintro e w1 ⟨rfl, p, rfl⟩) | (go_at_call 61; refine (HS.out _ (by repeat (first | exact Below.refl _ _ | refine below_mo ?_ _ | refine below_al ?_ _))).mono ?_; rintro e w1 ⟨rfl, p, rfl⟩))
  go_ret
  exact Gives.mk rfl (by repeat (first | exact Below.refl _ _ | refine below_mo ?_ _ | refine below_al ?_ _))
set_option maxHeartbeats 1000000 in
theorem field_4 (rk rs : Int) (rp : Bool) (b off fl fc : Nat) (rc : Int) (ea : Option Addr) (el ec : Nat) (s : ByteArray) (qk qs : Int) (qp : Bool) (qfa : Option Addr) (qfl qfc : Nat) (qc : Int) (qea : Option Addr) (qel qec : Nat) (wd : Int) (i : Nat) (nm : Nat → ByteArray) (w : World)
    (I : FieldIn w b off fl fc i s ⟨qk, qs, qp, qfa, qfl, qfc, qc, qea, qel, qec⟩ false wd nm) (N : nameB s = true) (em : s.toList.isEmpty = false) (T : anyB nm s i = false) (S : ∀ W, Below w.heap.size w W → Calls Try.prog 61 #[.agg #[.int .i64 qk, .int .i64 qs, .bool qp, .slice qfa qfl qfc, .int .i64 qc, .slice qea qel qec]] W (Gives W (.int .i64 0))) (f1 : (wd != 0) = true) :
    Calls Try.prog 89 #[.agg #[.int .i64 rk, .int .i64 rs, .bool rp, .slice (some ⟨b, off, none⟩) fl fc, .int .i64 rc, .slice ea el ec], .int .i64 i] w (Gives w (.int .i64 8)) := by
  have n1 := fun W => name_any s I.len W
  rw [N] at n1
  have N1 := Lib.hid n1
  clear n1 N
  have HT := Lib.hid T
  have HC := Lib.hid I.all
  clear T
  have HS := Lib.hid S
  clear S
  obtain ⟨hb, hi, hfc, hfm, c0, c1, c2, c3, c4, c5, c6, c7, c8, _, _⟩ := I
  simp only at c1 c2 c3 c4 c5 c6
  go_enter Try.func89, Try.ntmps89
  go_wp2_with (first | (go_at_call 95; refine (N1.out _).mono ?_; rintro e w1 ⟨rfl, p, rfl⟩) | (go_at_call 64; refine (contains_any b off i fc nm s (w.heap.size + 1) _ (by simp [go_sem]; omega) (by simp [go_sem] <;> omega) (by omega) (FdCells.below (w := w) (by repeat (first | exact Below.refl _ _ | refine below_mo ?_ _ | refine below_al ?_ _)) hb HC.out) (by simp [go_sem])).mono ?_; rw [HT.out]; rintro e w1 ⟨rfl, p, rfl⟩) | (go_at_call 61; refine (HS.out _ (by repeat (first | exact Below.refl _ _ | refine below_mo ?_ _ | refine below_al ?_ _))).mono ?_; rintro e w1 ⟨rfl, p, rfl⟩))
  go_ret
  exact Gives.mk rfl (by repeat (first | exact Below.refl _ _ | refine below_mo ?_ _ | refine below_al ?_ _))
set_option maxHeartbeats 1000000 in
theorem field_5 (rk rs : Int) (rp : Bool) (b off fl fc : Nat) (rc : Int) (ea : Option Addr) (el ec : Nat) (s : ByteArray) (qk qs : Int) (qp : Bool) (qfa : Option Addr) (qfl qfc : Nat) (qc : Int) (qea : Option Addr) (qel qec : Nat) (wd : Int) (i : Nat) (nm : Nat → ByteArray) (w : World)
    (I : FieldIn w b off fl fc i s ⟨qk, qs, qp, qfa, qfl, qfc, qc, qea, qel, qec⟩ false wd nm) (N : nameB s = true) (em : s.toList.isEmpty = false) (T : anyB nm s i = false) (S : ∀ W, Below w.heap.size w W → Calls Try.prog 61 #[.agg #[.int .i64 qk, .int .i64 qs, .bool qp, .slice qfa qfl qfc, .int .i64 qc, .slice qea qel qec]] W (Gives W (.int .i64 0))) (f1 : (wd != 0) = false) :
    Calls Try.prog 89 #[.agg #[.int .i64 rk, .int .i64 rs, .bool rp, .slice (some ⟨b, off, none⟩) fl fc, .int .i64 rc, .slice ea el ec], .int .i64 i] w (Gives w (.int .i64 0)) := by
  have n1 := fun W => name_any s I.len W
  rw [N] at n1
  have N1 := Lib.hid n1
  clear n1 N
  have HT := Lib.hid T
  have HC := Lib.hid I.all
  clear T
  have HS := Lib.hid S
  clear S
  obtain ⟨hb, hi, hfc, hfm, c0, c1, c2, c3, c4, c5, c6, c7, c8, _, _⟩ := I
  simp only at c1 c2 c3 c4 c5 c6
  go_enter Try.func89, Try.ntmps89
  go_wp2_with (first | (go_at_call 95; refine (N1.out _).mono ?_; rintro e w1 ⟨rfl, p, rfl⟩) | (go_at_call 64; refine (contains_any b off i fc nm s (w.heap.size + 1) _ (by simp [go_sem]; omega) (by simp [go_sem] <;> omega) (by omega) (FdCells.below (w := w) (by repeat (first | exact Below.refl _ _ | refine below_mo ?_ _ | refine below_al ?_ _)) hb HC.out) (by simp [go_sem])).mono ?_; rw [HT.out]; rintro e w1 ⟨rfl, p, rfl⟩) | (go_at_call 61; refine (HS.out _ (by repeat (first | exact Below.refl _ _ | refine below_mo ?_ _ | refine below_al ?_ _))).mono ?_; rintro e w1 ⟨rfl, p, rfl⟩))
  go_ret
  exact Gives.mk rfl (by repeat (first | exact Below.refl _ _ | refine below_mo ?_ _ | refine below_al ?_ _))
set_option maxHeartbeats 1000000 in
theorem field_6 (rk rs : Int) (rp : Bool) (b off fl fc : Nat) (rc : Int) (ea : Option Addr) (el ec : Nat) (s : ByteArray) (qk qs : Int) (qp : Bool) (qfa : Option Addr) (qfl qfc : Nat) (qc : Int) (qea : Option Addr) (qel qec : Nat) (wd : Int) (i : Nat) (nm : Nat → ByteArray) (w : World)
    (I : FieldIn w b off fl fc i s ⟨qk, qs, qp, qfa, qfl, qfc, qc, qea, qel, qec⟩ true wd nm) (N : nameB s = true) (em : s.toList.isEmpty = false) (T : anyB nm s i = false) (S : ∀ W, Below w.heap.size w W → Calls Try.prog 61 #[.agg #[.int .i64 qk, .int .i64 qs, .bool qp, .slice qfa qfl qfc, .int .i64 qc, .slice qea qel qec]] W (Gives W (.int .i64 0))) (f2 : (qk != 1) = true) :
    Calls Try.prog 89 #[.agg #[.int .i64 rk, .int .i64 rs, .bool rp, .slice (some ⟨b, off, none⟩) fl fc, .int .i64 rc, .slice ea el ec], .int .i64 i] w (Gives w (.int .i64 8)) := by
  have n1 := fun W => name_any s I.len W
  rw [N] at n1
  have N1 := Lib.hid n1
  clear n1 N
  have HT := Lib.hid T
  have HC := Lib.hid I.all
  clear T
  have HS := Lib.hid S
  clear S
  obtain ⟨hb, hi, hfc, hfm, c0, c1, c2, c3, c4, c5, c6, c7, c8, _, _⟩ := I
  simp only at c1 c2 c3 c4 c5 c6
  go_enter Try.func89, Try.ntmps89
  go_wp2_with (first | (go_at_call 95; refine (N1.out _).mono ?_; rintro e w1 ⟨rfl, p, rfl⟩) | (go_at_call 64; refine (contains_any b off i fc nm s (w.heap.size + 1) _ (by simp [go_sem]; omega) (by simp [go_sem] <;> omega) (by omega) (FdCells.below (w := w) (by repeat (first | exact Below.refl _ _ | refine below_mo ?_ _ | refine below_al ?_ _)) hb HC.out) (by simp [go_sem])).mono ?_; rw [HT.out]; rintro e w1 ⟨rfl, p, rfl⟩) | (go_at_call 61; refine (HS.out _ (by repeat (first | exact Below.refl _ _ | refine below_mo ?_ _ | refine below_al ?_ _))).mono ?_; rintro e w1 ⟨rfl, p, rfl⟩))
  go_ret
  exact Gives.mk rfl (by repeat (first | exact Below.refl _ _ | refine below_mo ?_ _ | refine below_al ?_ _))
set_option maxHeartbeats 1000000 in
theorem field_7 (rk rs : Int) (b off fl fc : Nat) (rc : Int) (ea : Option Addr) (el ec : Nat) (s : ByteArray) (qk qs : Int) (qp : Bool) (qfa : Option Addr) (qfl qfc : Nat) (qc : Int) (qea : Option Addr) (qel qec : Nat) (wd : Int) (i : Nat) (nm : Nat → ByteArray) (w : World)
    (I : FieldIn w b off fl fc i s ⟨qk, qs, qp, qfa, qfl, qfc, qc, qea, qel, qec⟩ true wd nm) (N : nameB s = true) (em : s.toList.isEmpty = false) (T : anyB nm s i = false) (S : ∀ W, Below w.heap.size w W → Calls Try.prog 61 #[.agg #[.int .i64 qk, .int .i64 qs, .bool qp, .slice qfa qfl qfc, .int .i64 qc, .slice qea qel qec]] W (Gives W (.int .i64 0))) (f2 : (qk != 1) = false) :
    Calls Try.prog 89 #[.agg #[.int .i64 rk, .int .i64 rs, .bool true, .slice (some ⟨b, off, none⟩) fl fc, .int .i64 rc, .slice ea el ec], .int .i64 i] w (Gives w (.int .i64 8)) := by
  have n1 := fun W => name_any s I.len W
  rw [N] at n1
  have N1 := Lib.hid n1
  clear n1 N
  have HT := Lib.hid T
  have HC := Lib.hid I.all
  clear T
  have HS := Lib.hid S
  clear S
  obtain ⟨hb, hi, hfc, hfm, c0, c1, c2, c3, c4, c5, c6, c7, c8, _, _⟩ := I
  simp only at c1 c2 c3 c4 c5 c6
  go_enter Try.func89, Try.ntmps89
  go_wp2_with (first | (go_at_call 95; refine (N1.out _).mono ?_; rintro e w1 ⟨rfl, p, rfl⟩) | (go_at_call 64; refine (contains_any b off i fc nm s (w.heap.size + 1) _ (by simp [go_sem]; omega) (by simp [go_sem] <;> omega) (by omega) (FdCells.below (w := w) (by repeat (first | exact Below.refl _ _ | refine below_mo ?_ _ | refine below_al ?_ _)) hb HC.out) (by simp [go_sem])).mono ?_; rw [HT.out]; rintro e w1 ⟨rfl, p, rfl⟩) | (go_at_call 61; refine (HS.out _ (by repeat (first | exact Below.refl _ _ | refine below_mo ?_ _ | refine below_al ?_ _))).mono ?_; rintro e w1 ⟨rfl, p, rfl⟩))
  go_ret
  exact Gives.mk rfl (by repeat (first | exact Below.refl _ _ | refine below_mo ?_ _ | refine below_al ?_ _))
set_option maxHeartbeats 1000000 in
theorem field_8 (rk rs : Int) (b off fl fc : Nat) (rc : Int) (ea : Option Addr) (el ec : Nat) (s : ByteArray) (qk qs : Int) (qp : Bool) (qfa : Option Addr) (qfl qfc : Nat) (qc : Int) (qea : Option Addr) (qel qec : Nat) (wd : Int) (i : Nat) (nm : Nat → ByteArray) (w : World)
    (I : FieldIn w b off fl fc i s ⟨qk, qs, qp, qfa, qfl, qfc, qc, qea, qel, qec⟩ true wd nm) (N : nameB s = true) (em : s.toList.isEmpty = false) (T : anyB nm s i = false) (S : ∀ W, Below w.heap.size w W → Calls Try.prog 61 #[.agg #[.int .i64 qk, .int .i64 qs, .bool qp, .slice qfa qfl qfc, .int .i64 qc, .slice qea qel qec]] W (Gives W (.int .i64 0))) (f2 : (qk != 1) = false) (f4 : wd < 0) :
    Calls Try.prog 89 #[.agg #[.int .i64 rk, .int .i64 rs, .bool false, .slice (some ⟨b, off, none⟩) fl fc, .int .i64 rc, .slice ea el ec], .int .i64 i] w (Gives w (.int .i64 9)) := by
  have n1 := fun W => name_any s I.len W
  rw [N] at n1
  have N1 := Lib.hid n1
  clear n1 N
  have HT := Lib.hid T
  have HC := Lib.hid I.all
  clear T
  have HS := Lib.hid S
  clear S
  obtain ⟨hb, hi, hfc, hfm, c0, c1, c2, c3, c4, c5, c6, c7, c8, _, _⟩ := I
  simp only at c1 c2 c3 c4 c5 c6
  go_enter Try.func89, Try.ntmps89
  go_wp2_with (first | (go_at_call 95; refine (N1.out _).mono ?_; rintro e w1 ⟨rfl, p, rfl⟩) | (go_at_call 64; refine (contains_any b off i fc nm s (w.heap.size + 1) _ (by simp [go_sem]; omega) (by simp [go_sem] <;> omega) (by omega) (FdCells.below (w := w) (by repeat (first | exact Below.refl _ _ | refine below_mo ?_ _ | refine below_al ?_ _)) hb HC.out) (by simp [go_sem])).mono ?_; rw [HT.out]; rintro e w1 ⟨rfl, p, rfl⟩) | (go_at_call 61; refine (HS.out _ (by repeat (first | exact Below.refl _ _ | refine below_mo ?_ _ | refine below_al ?_ _))).mono ?_; rintro e w1 ⟨rfl, p, rfl⟩))
  go_ret
  exact Gives.mk rfl (by repeat (first | exact Below.refl _ _ | refine below_mo ?_ _ | refine below_al ?_ _))
set_option maxHeartbeats 1000000 in
theorem field_9 (rk rs : Int) (b off fl fc : Nat) (rc : Int) (ea : Option Addr) (el ec : Nat) (s : ByteArray) (qk qs : Int) (qp : Bool) (qfa : Option Addr) (qfl qfc : Nat) (qc : Int) (qea : Option Addr) (qel qec : Nat) (wd : Int) (i : Nat) (nm : Nat → ByteArray) (w : World)
    (I : FieldIn w b off fl fc i s ⟨qk, qs, qp, qfa, qfl, qfc, qc, qea, qel, qec⟩ true wd nm) (N : nameB s = true) (em : s.toList.isEmpty = false) (T : anyB nm s i = false) (S : ∀ W, Below w.heap.size w W → Calls Try.prog 61 #[.agg #[.int .i64 qk, .int .i64 qs, .bool qp, .slice qfa qfl qfc, .int .i64 qc, .slice qea qel qec]] W (Gives W (.int .i64 0))) (f2 : (qk != 1) = false) (f3 : 1 ≤ qs ∧ qs ≤ 8) (f4 : 0 ≤ wd) (f5 : 8 * qs < wd) :
    Calls Try.prog 89 #[.agg #[.int .i64 rk, .int .i64 rs, .bool false, .slice (some ⟨b, off, none⟩) fl fc, .int .i64 rc, .slice ea el ec], .int .i64 i] w (Gives w (.int .i64 9)) := by
  have n1 := fun W => name_any s I.len W
  rw [N] at n1
  have N1 := Lib.hid n1
  clear n1 N
  have HT := Lib.hid T
  have HC := Lib.hid I.all
  clear T
  have HS := Lib.hid S
  clear S
  obtain ⟨hb, hi, hfc, hfm, c0, c1, c2, c3, c4, c5, c6, c7, c8, _, _⟩ := I
  simp only at c1 c2 c3 c4 c5 c6
  go_enter Try.func89, Try.ntmps89
  go_wp2_with (first | (go_at_call 95; refine (N1.out _).mono ?_; rintro e w1 ⟨rfl, p, rfl⟩) | (go_at_call 64; refine (contains_any b off i fc nm s (w.heap.size + 1) _ (by simp [go_sem]; omega) (by simp [go_sem] <;> omega) (by omega) (FdCells.below (w := w) (by repeat (first | exact Below.refl _ _ | refine below_mo ?_ _ | refine below_al ?_ _)) hb HC.out) (by simp [go_sem])).mono ?_; rw [HT.out]; rintro e w1 ⟨rfl, p, rfl⟩) | (go_at_call 61; refine (HS.out _ (by repeat (first | exact Below.refl _ _ | refine below_mo ?_ _ | refine below_al ?_ _))).mono ?_; rintro e w1 ⟨rfl, p, rfl⟩))
  go_ret
  exact Gives.mk rfl (by repeat (first | exact Below.refl _ _ | refine below_mo ?_ _ | refine below_al ?_ _))
set_option maxHeartbeats 1000000 in
theorem field_10 (rk rs : Int) (b off fl fc : Nat) (rc : Int) (ea : Option Addr) (el ec : Nat) (s : ByteArray) (qk qs : Int) (qp : Bool) (qfa : Option Addr) (qfl qfc : Nat) (qc : Int) (qea : Option Addr) (qel qec : Nat) (wd : Int) (i : Nat) (nm : Nat → ByteArray) (w : World)
    (I : FieldIn w b off fl fc i s ⟨qk, qs, qp, qfa, qfl, qfc, qc, qea, qel, qec⟩ true wd nm) (N : nameB s = true) (em : s.toList.isEmpty = false) (T : anyB nm s i = false) (S : ∀ W, Below w.heap.size w W → Calls Try.prog 61 #[.agg #[.int .i64 qk, .int .i64 qs, .bool qp, .slice qfa qfl qfc, .int .i64 qc, .slice qea qel qec]] W (Gives W (.int .i64 0))) (f2 : (qk != 1) = false) (f3 : 1 ≤ qs ∧ qs ≤ 8) (f4 : 0 ≤ wd) (f5 : wd ≤ 8 * qs) (f6 : (wd == 0) = true) :
    Calls Try.prog 89 #[.agg #[.int .i64 rk, .int .i64 rs, .bool false, .slice (some ⟨b, off, none⟩) fl fc, .int .i64 rc, .slice ea el ec], .int .i64 i] w (Gives w (.int .i64 9)) := by
  have n1 := fun W => name_any s I.len W
  rw [N] at n1
  have N1 := Lib.hid n1
  clear n1 N
  have HT := Lib.hid T
  have HC := Lib.hid I.all
  clear T
  have HS := Lib.hid S
  clear S
  obtain ⟨hb, hi, hfc, hfm, c0, c1, c2, c3, c4, c5, c6, c7, c8, _, _⟩ := I
  simp only at c1 c2 c3 c4 c5 c6
  go_enter Try.func89, Try.ntmps89
  go_wp2_with (first | (go_at_call 95; refine (N1.out _).mono ?_; rintro e w1 ⟨rfl, p, rfl⟩) | (go_at_call 64; refine (contains_any b off i fc nm s (w.heap.size + 1) _ (by simp [go_sem]; omega) (by simp [go_sem] <;> omega) (by omega) (FdCells.below (w := w) (by repeat (first | exact Below.refl _ _ | refine below_mo ?_ _ | refine below_al ?_ _)) hb HC.out) (by simp [go_sem])).mono ?_; rw [HT.out]; rintro e w1 ⟨rfl, p, rfl⟩) | (go_at_call 61; refine (HS.out _ (by repeat (first | exact Below.refl _ _ | refine below_mo ?_ _ | refine below_al ?_ _))).mono ?_; rintro e w1 ⟨rfl, p, rfl⟩))
  go_ret
  exact Gives.mk rfl (by repeat (first | exact Below.refl _ _ | refine below_mo ?_ _ | refine below_al ?_ _))
set_option maxHeartbeats 1000000 in
theorem field_11 (rk rs : Int) (b off fl fc : Nat) (rc : Int) (ea : Option Addr) (el ec : Nat) (s : ByteArray) (qk qs : Int) (qp : Bool) (qfa : Option Addr) (qfl qfc : Nat) (qc : Int) (qea : Option Addr) (qel qec : Nat) (wd : Int) (i : Nat) (nm : Nat → ByteArray) (w : World)
    (I : FieldIn w b off fl fc i s ⟨qk, qs, qp, qfa, qfl, qfc, qc, qea, qel, qec⟩ true wd nm) (N : nameB s = true) (em : s.toList.isEmpty = false) (T : anyB nm s i = false) (S : ∀ W, Below w.heap.size w W → Calls Try.prog 61 #[.agg #[.int .i64 qk, .int .i64 qs, .bool qp, .slice qfa qfl qfc, .int .i64 qc, .slice qea qel qec]] W (Gives W (.int .i64 0))) (f2 : (qk != 1) = false) (f3 : 1 ≤ qs ∧ qs ≤ 8) (f4 : 0 ≤ wd) (f5 : wd ≤ 8 * qs) (f6 : (wd == 0) = false) :
    Calls Try.prog 89 #[.agg #[.int .i64 rk, .int .i64 rs, .bool false, .slice (some ⟨b, off, none⟩) fl fc, .int .i64 rc, .slice ea el ec], .int .i64 i] w (Gives w (.int .i64 0)) := by
  have n1 := fun W => name_any s I.len W
  rw [N] at n1
  have N1 := Lib.hid n1
  clear n1 N
  have HT := Lib.hid T
  have HC := Lib.hid I.all
  clear T
  have HS := Lib.hid S
  clear S
  obtain ⟨hb, hi, hfc, hfm, c0, c1, c2, c3, c4, c5, c6, c7, c8, _, _⟩ := I
  simp only at c1 c2 c3 c4 c5 c6
  go_enter Try.func89, Try.ntmps89
  go_wp2_with (first | (go_at_call 95; refine (N1.out _).mono ?_; rintro e w1 ⟨rfl, p, rfl⟩) | (go_at_call 64; refine (contains_any b off i fc nm s (w.heap.size + 1) _ (by simp [go_sem]; omega) (by simp [go_sem] <;> omega) (by omega) (FdCells.below (w := w) (by repeat (first | exact Below.refl _ _ | refine below_mo ?_ _ | refine below_al ?_ _)) hb HC.out) (by simp [go_sem])).mono ?_; rw [HT.out]; rintro e w1 ⟨rfl, p, rfl⟩) | (go_at_call 61; refine (HS.out _ (by repeat (first | exact Below.refl _ _ | refine below_mo ?_ _ | refine below_al ?_ _))).mono ?_; rintro e w1 ⟨rfl, p, rfl⟩))
  go_ret
  exact Gives.mk rfl (by repeat (first | exact Below.refl _ _ | refine below_mo ?_ _ | refine below_al ?_ _))
set_option maxHeartbeats 1000000 in
theorem field_12 (rk rs : Int) (rp : Bool) (b off fl fc : Nat) (rc : Int) (ea : Option Addr) (el ec : Nat) (s : ByteArray) (qk qs : Int) (qp : Bool) (qfa : Option Addr) (qfl qfc : Nat) (qc : Int) (qea : Option Addr) (qel qec : Nat) (wd : Int) (i : Nat) (nm : Nat → ByteArray) (e : Int) (w : World)
    (I : FieldIn w b off fl fc i s ⟨qk, qs, qp, qfa, qfl, qfc, qc, qea, qel, qec⟩ true wd nm) (N : nameB s = false) (em : s.toList.isEmpty = true) (S : ∀ W, Below w.heap.size w W → Calls Try.prog 61 #[.agg #[.int .i64 qk, .int .i64 qs, .bool qp, .slice qfa qfl qfc, .int .i64 qc, .slice qea qel qec]] W (Gives W (.int .i64 e))) (be : (e != 0) = true) :
    Calls Try.prog 89 #[.agg #[.int .i64 rk, .int .i64 rs, .bool rp, .slice (some ⟨b, off, none⟩) fl fc, .int .i64 rc, .slice ea el ec], .int .i64 i] w (Gives w (.int .i64 e)) := by
  have n1 := fun W => name_any s I.len W
  rw [N] at n1
  have N1 := Lib.hid n1
  clear n1 N
  have HS := Lib.hid S
  clear S
  obtain ⟨hb, hi, hfc, hfm, c0, c1, c2, c3, c4, c5, c6, c7, c8, _, _⟩ := I
  simp only at c1 c2 c3 c4 c5 c6
  go_enter Try.func89, Try.ntmps89
  go_wp2_with (first | (go_at_call 95; refine (N1.out _).mono ?_; rintro e w1 ⟨rfl, p, rfl⟩) | (go_at_call 61; refine (HS.out _ (by repeat (first | exact Below.refl _ _ | refine below_mo ?_ _ | refine below_al ?_ _))).mono ?_; rintro e w1 ⟨rfl, p, rfl⟩))
  go_ret
  exact Gives.mk rfl (by repeat (first | exact Below.refl _ _ | refine below_mo ?_ _ | refine below_al ?_ _))
set_option maxHeartbeats 1000000 in
theorem field_13 (rk rs : Int) (rp : Bool) (b off fl fc : Nat) (rc : Int) (ea : Option Addr) (el ec : Nat) (s : ByteArray) (qk qs : Int) (qp : Bool) (qfa : Option Addr) (qfl qfc : Nat) (qc : Int) (qea : Option Addr) (qel qec : Nat) (wd : Int) (i : Nat) (nm : Nat → ByteArray) (w : World)
    (I : FieldIn w b off fl fc i s ⟨qk, qs, qp, qfa, qfl, qfc, qc, qea, qel, qec⟩ true wd nm) (N : nameB s = false) (em : s.toList.isEmpty = true) (S : ∀ W, Below w.heap.size w W → Calls Try.prog 61 #[.agg #[.int .i64 qk, .int .i64 qs, .bool qp, .slice qfa qfl qfc, .int .i64 qc, .slice qea qel qec]] W (Gives W (.int .i64 0))) (f2 : (qk != 1) = true) :
    Calls Try.prog 89 #[.agg #[.int .i64 rk, .int .i64 rs, .bool rp, .slice (some ⟨b, off, none⟩) fl fc, .int .i64 rc, .slice ea el ec], .int .i64 i] w (Gives w (.int .i64 8)) := by
  have n1 := fun W => name_any s I.len W
  rw [N] at n1
  have N1 := Lib.hid n1
  clear n1 N
  have HS := Lib.hid S
  clear S
  obtain ⟨hb, hi, hfc, hfm, c0, c1, c2, c3, c4, c5, c6, c7, c8, _, _⟩ := I
  simp only at c1 c2 c3 c4 c5 c6
  go_enter Try.func89, Try.ntmps89
  go_wp2_with (first | (go_at_call 95; refine (N1.out _).mono ?_; rintro e w1 ⟨rfl, p, rfl⟩) | (go_at_call 61; refine (HS.out _ (by repeat (first | exact Below.refl _ _ | refine below_mo ?_ _ | refine below_al ?_ _))).mono ?_; rintro e w1 ⟨rfl, p, rfl⟩))
  go_ret
  exact Gives.mk rfl (by repeat (first | exact Below.refl _ _ | refine below_mo ?_ _ | refine below_al ?_ _))
set_option maxHeartbeats 1000000 in
theorem field_14 (rk rs : Int) (b off fl fc : Nat) (rc : Int) (ea : Option Addr) (el ec : Nat) (s : ByteArray) (qk qs : Int) (qp : Bool) (qfa : Option Addr) (qfl qfc : Nat) (qc : Int) (qea : Option Addr) (qel qec : Nat) (wd : Int) (i : Nat) (nm : Nat → ByteArray) (w : World)
    (I : FieldIn w b off fl fc i s ⟨qk, qs, qp, qfa, qfl, qfc, qc, qea, qel, qec⟩ true wd nm) (N : nameB s = false) (em : s.toList.isEmpty = true) (S : ∀ W, Below w.heap.size w W → Calls Try.prog 61 #[.agg #[.int .i64 qk, .int .i64 qs, .bool qp, .slice qfa qfl qfc, .int .i64 qc, .slice qea qel qec]] W (Gives W (.int .i64 0))) (f2 : (qk != 1) = false) :
    Calls Try.prog 89 #[.agg #[.int .i64 rk, .int .i64 rs, .bool true, .slice (some ⟨b, off, none⟩) fl fc, .int .i64 rc, .slice ea el ec], .int .i64 i] w (Gives w (.int .i64 8)) := by
  have n1 := fun W => name_any s I.len W
  rw [N] at n1
  have N1 := Lib.hid n1
  clear n1 N
  have HS := Lib.hid S
  clear S
  obtain ⟨hb, hi, hfc, hfm, c0, c1, c2, c3, c4, c5, c6, c7, c8, _, _⟩ := I
  simp only at c1 c2 c3 c4 c5 c6
  go_enter Try.func89, Try.ntmps89
  go_wp2_with (first | (go_at_call 95; refine (N1.out _).mono ?_; rintro e w1 ⟨rfl, p, rfl⟩) | (go_at_call 61; refine (HS.out _ (by repeat (first | exact Below.refl _ _ | refine below_mo ?_ _ | refine below_al ?_ _))).mono ?_; rintro e w1 ⟨rfl, p, rfl⟩))
  go_ret
  exact Gives.mk rfl (by repeat (first | exact Below.refl _ _ | refine below_mo ?_ _ | refine below_al ?_ _))
set_option maxHeartbeats 1000000 in
theorem field_15 (rk rs : Int) (b off fl fc : Nat) (rc : Int) (ea : Option Addr) (el ec : Nat) (s : ByteArray) (qk qs : Int) (qp : Bool) (qfa : Option Addr) (qfl qfc : Nat) (qc : Int) (qea : Option Addr) (qel qec : Nat) (wd : Int) (i : Nat) (nm : Nat → ByteArray) (w : World)
    (I : FieldIn w b off fl fc i s ⟨qk, qs, qp, qfa, qfl, qfc, qc, qea, qel, qec⟩ true wd nm) (N : nameB s = false) (em : s.toList.isEmpty = true) (S : ∀ W, Below w.heap.size w W → Calls Try.prog 61 #[.agg #[.int .i64 qk, .int .i64 qs, .bool qp, .slice qfa qfl qfc, .int .i64 qc, .slice qea qel qec]] W (Gives W (.int .i64 0))) (f2 : (qk != 1) = false) (f4 : wd < 0) :
    Calls Try.prog 89 #[.agg #[.int .i64 rk, .int .i64 rs, .bool false, .slice (some ⟨b, off, none⟩) fl fc, .int .i64 rc, .slice ea el ec], .int .i64 i] w (Gives w (.int .i64 9)) := by
  have n1 := fun W => name_any s I.len W
  rw [N] at n1
  have N1 := Lib.hid n1
  clear n1 N
  have HS := Lib.hid S
  clear S
  obtain ⟨hb, hi, hfc, hfm, c0, c1, c2, c3, c4, c5, c6, c7, c8, _, _⟩ := I
  simp only at c1 c2 c3 c4 c5 c6
  go_enter Try.func89, Try.ntmps89
  go_wp2_with (first | (go_at_call 95; refine (N1.out _).mono ?_; rintro e w1 ⟨rfl, p, rfl⟩) | (go_at_call 61; refine (HS.out _ (by repeat (first | exact Below.refl _ _ | refine below_mo ?_ _ | refine below_al ?_ _))).mono ?_; rintro e w1 ⟨rfl, p, rfl⟩))
  go_ret
  exact Gives.mk rfl (by repeat (first | exact Below.refl _ _ | refine below_mo ?_ _ | refine below_al ?_ _))
set_option maxHeartbeats 1000000 in
theorem field_16 (rk rs : Int) (b off fl fc : Nat) (rc : Int) (ea : Option Addr) (el ec : Nat) (s : ByteArray) (qk qs : Int) (qp : Bool) (qfa : Option Addr) (qfl qfc : Nat) (qc : Int) (qea : Option Addr) (qel qec : Nat) (wd : Int) (i : Nat) (nm : Nat → ByteArray) (w : World)
    (I : FieldIn w b off fl fc i s ⟨qk, qs, qp, qfa, qfl, qfc, qc, qea, qel, qec⟩ true wd nm) (N : nameB s = false) (em : s.toList.isEmpty = true) (S : ∀ W, Below w.heap.size w W → Calls Try.prog 61 #[.agg #[.int .i64 qk, .int .i64 qs, .bool qp, .slice qfa qfl qfc, .int .i64 qc, .slice qea qel qec]] W (Gives W (.int .i64 0))) (f2 : (qk != 1) = false) (f3 : 1 ≤ qs ∧ qs ≤ 8) (f4 : 0 ≤ wd) (f5 : 8 * qs < wd) :
    Calls Try.prog 89 #[.agg #[.int .i64 rk, .int .i64 rs, .bool false, .slice (some ⟨b, off, none⟩) fl fc, .int .i64 rc, .slice ea el ec], .int .i64 i] w (Gives w (.int .i64 9)) := by
  have n1 := fun W => name_any s I.len W
  rw [N] at n1
  have N1 := Lib.hid n1
  clear n1 N
  have HS := Lib.hid S
  clear S
  obtain ⟨hb, hi, hfc, hfm, c0, c1, c2, c3, c4, c5, c6, c7, c8, _, _⟩ := I
  simp only at c1 c2 c3 c4 c5 c6
  go_enter Try.func89, Try.ntmps89
  go_wp2_with (first | (go_at_call 95; refine (N1.out _).mono ?_; rintro e w1 ⟨rfl, p, rfl⟩) | (go_at_call 61; refine (HS.out _ (by repeat (first | exact Below.refl _ _ | refine below_mo ?_ _ | refine below_al ?_ _))).mono ?_; rintro e w1 ⟨rfl, p, rfl⟩))
  go_ret
  exact Gives.mk rfl (by repeat (first | exact Below.refl _ _ | refine below_mo ?_ _ | refine below_al ?_ _))
set_option maxHeartbeats 1000000 in
theorem field_17 (rk rs : Int) (b off fl fc : Nat) (rc : Int) (ea : Option Addr) (el ec : Nat) (s : ByteArray) (qk qs : Int) (qp : Bool) (qfa : Option Addr) (qfl qfc : Nat) (qc : Int) (qea : Option Addr) (qel qec : Nat) (wd : Int) (i : Nat) (nm : Nat → ByteArray) (w : World)
    (I : FieldIn w b off fl fc i s ⟨qk, qs, qp, qfa, qfl, qfc, qc, qea, qel, qec⟩ true wd nm) (N : nameB s = false) (em : s.toList.isEmpty = true) (S : ∀ W, Below w.heap.size w W → Calls Try.prog 61 #[.agg #[.int .i64 qk, .int .i64 qs, .bool qp, .slice qfa qfl qfc, .int .i64 qc, .slice qea qel qec]] W (Gives W (.int .i64 0))) (f2 : (qk != 1) = false) (f3 : 1 ≤ qs ∧ qs ≤ 8) (f4 : 0 ≤ wd) (f5 : wd ≤ 8 * qs) (f6 : (wd == 0) = true) :
    Calls Try.prog 89 #[.agg #[.int .i64 rk, .int .i64 rs, .bool false, .slice (some ⟨b, off, none⟩) fl fc, .int .i64 rc, .slice ea el ec], .int .i64 i] w (Gives w (.int .i64 0)) := by
  have n1 := fun W => name_any s I.len W
  rw [N] at n1
  have N1 := Lib.hid n1
  clear n1 N
  have HS := Lib.hid S
  clear S
  obtain ⟨hb, hi, hfc, hfm, c0, c1, c2, c3, c4, c5, c6, c7, c8, _, _⟩ := I
  simp only at c1 c2 c3 c4 c5 c6
  go_enter Try.func89, Try.ntmps89
  go_wp2_with (first | (go_at_call 95; refine (N1.out _).mono ?_; rintro e w1 ⟨rfl, p, rfl⟩) | (go_at_call 61; refine (HS.out _ (by repeat (first | exact Below.refl _ _ | refine below_mo ?_ _ | refine below_al ?_ _))).mono ?_; rintro e w1 ⟨rfl, p, rfl⟩))
  go_ret
  exact Gives.mk rfl (by repeat (first | exact Below.refl _ _ | refine below_mo ?_ _ | refine below_al ?_ _))
set_option maxHeartbeats 1000000 in
theorem field_18 (rk rs : Int) (b off fl fc : Nat) (rc : Int) (ea : Option Addr) (el ec : Nat) (s : ByteArray) (qk qs : Int) (qp : Bool) (qfa : Option Addr) (qfl qfc : Nat) (qc : Int) (qea : Option Addr) (qel qec : Nat) (wd : Int) (i : Nat) (nm : Nat → ByteArray) (w : World)
    (I : FieldIn w b off fl fc i s ⟨qk, qs, qp, qfa, qfl, qfc, qc, qea, qel, qec⟩ true wd nm) (N : nameB s = false) (em : s.toList.isEmpty = true) (S : ∀ W, Below w.heap.size w W → Calls Try.prog 61 #[.agg #[.int .i64 qk, .int .i64 qs, .bool qp, .slice qfa qfl qfc, .int .i64 qc, .slice qea qel qec]] W (Gives W (.int .i64 0))) (f2 : (qk != 1) = false) (f3 : 1 ≤ qs ∧ qs ≤ 8) (f4 : 0 ≤ wd) (f5 : wd ≤ 8 * qs) (f6 : (wd == 0) = false) :
    Calls Try.prog 89 #[.agg #[.int .i64 rk, .int .i64 rs, .bool false, .slice (some ⟨b, off, none⟩) fl fc, .int .i64 rc, .slice ea el ec], .int .i64 i] w (Gives w (.int .i64 0)) := by
  have n1 := fun W => name_any s I.len W
  rw [N] at n1
  have N1 := Lib.hid n1
  clear n1 N
  have HS := Lib.hid S
  clear S
  obtain ⟨hb, hi, hfc, hfm, c0, c1, c2, c3, c4, c5, c6, c7, c8, _, _⟩ := I
  simp only at c1 c2 c3 c4 c5 c6
  go_enter Try.func89, Try.ntmps89
  go_wp2_with (first | (go_at_call 95; refine (N1.out _).mono ?_; rintro e w1 ⟨rfl, p, rfl⟩) | (go_at_call 61; refine (HS.out _ (by repeat (first | exact Below.refl _ _ | refine below_mo ?_ _ | refine below_al ?_ _))).mono ?_; rintro e w1 ⟨rfl, p, rfl⟩))
  go_ret
  exact Gives.mk rfl (by repeat (first | exact Below.refl _ _ | refine below_mo ?_ _ | refine below_al ?_ _))
end Go.Proofs.Ytlbkloamabomcaa
