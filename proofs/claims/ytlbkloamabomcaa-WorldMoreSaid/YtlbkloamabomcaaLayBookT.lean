/- The book of locations: what it holds, what stays. No condition. Walks: the book is put in order; a location is added. Conditions: the book is not too long. Walk: a location is added to the book. Conditions: the book is not too long. -/
import Derived.Test.YtlbkloamabomcaaLaySortT
import Derived.Test.YtlbkloamabomcaaLayPlace
namespace Go.Proofs.Ytlbkloamabomcaa
open Go.RowKit Go.Sort
set_option linter.unusedVariables false
set_option linter.unusedSimpArgs false
/-- which blocks stay: all but the book's own and its row. -/
structure Fr (w w' : World) (P : Nat) (v : Value) : Prop where
  os : w'.os = w.os
  tape : w'.tape = w.tape
  output : w'.output = w.output
  size : w.heap.size ≤ w'.heap.size
  block : ∀ k, k < w.heap.size → k ≠ P → some k ≠ v.ownBlock → w'.heap[k]? = w.heap[k]?
theorem Fr.refl (w : World) (P : Nat) (v : Value) : Fr w w P v := ⟨rfl, rfl, rfl, Nat.le_refl _, fun _ _ _ _ => rfl⟩
theorem Fr.of_below {w w' : World} (h : Below w.heap.size w w') (P : Nat) (v : Value) : Fr w w' P v := ⟨h.os, h.tape, h.output, h.size, fun k hk _ _ => h.block k hk⟩
theorem Fr.of_grown {w w' : World} {v : Value} (h : w.grownBy w' v.ownBlock) (P : Nat) : Fr w w' P v := ⟨h.os, h.tape, h.output, h.size, fun k hk _ hne => h.block k hk hne⟩
theorem Fr.set (w : World) (P k : Nat) (v x : Value) : Fr w (w.setCell ⟨P, k, none⟩ x) P v := by
  refine ⟨rfl, rfl, rfl, by simp, fun j hj hne _ => ?_⟩
  have : P ≠ j := fun e => hne e.symm
  unfold World.setCell
  simp [Array.getElem?_modify, this]
/-- the row stays the same block, or is a new one. -/
def Later (w : World) (v v' : Value) : Prop := ∀ g, v'.ownBlock = some g → v.ownBlock = some g ∨ w.heap.size ≤ g
theorem Later.refl (w : World) (v : Value) : Later w v v := fun g h => .inl h
theorem Fr.trans {a b c : World} {P : Nat} {v u : Value} (h : Fr a b P v) (hl : Later a v u) (k : Fr b c P u) : Fr a c P v := by
  refine ⟨k.os.trans h.os, k.tape.trans h.tape, k.output.trans h.output, Nat.le_trans h.size k.size, fun j hj h1 h2 => ?_⟩
  rw [k.block j (Nat.lt_of_lt_of_le hj h.size) h1 (fun e => ?_), h.block j hj h1 h2]
  rcases hl j e.symm with h3 | h3
  · exact h2 h3.symm
  · omega
theorem Later.trans {a b : World} {v u x : Value} (hs : a.heap.size ≤ b.heap.size) (h : Later a v u) (k : Later b u x) : Later a v x := fun g hg => by
  rcases k g hg with h1 | h1
  · exact h g h1
  · exact .inr (by omega)
theorem Fr.cell {w w' : World} {P b o : Nat} {v : Value} (h : Fr w w' P v) (hb : b < w.heap.size) (h1 : b ≠ P) (h2 : some b ≠ v.ownBlock) : w'.cell? ⟨b, o, none⟩ = w.cell? ⟨b, o, none⟩ := by
  simp [World.cell?, h.block b hb h1 h2]
theorem Fr.frozen {w w' : World} {P b o : Nat} {v : Value} (h : Fr w w' P v) (hb : b < w.heap.size) (h1 : b ≠ P) (h2 : some b ≠ v.ownBlock) : w'.frozen? ⟨b, o, none⟩ = w.frozen? ⟨b, o, none⟩ := by
  simp [World.frozen?, h.block b hb h1 h2]
/-- below a base, where neither lies, nothing has turned. -/
theorem Fr.below {w w' : World} {P B : Nat} {v : Value} (h : Fr w w' P v) (hB : B ≤ w.heap.size) (hP : B ≤ P) (hv : ∀ g, v.ownBlock = some g → B ≤ g) : Below B w w' :=
  ⟨h.os, h.tape, h.output, h.size, fun k hk => h.block k (by omega) (by omega) (fun e => by have := hv k e.symm; omega)⟩
/-- what the book holds. -/
structure Bk (w : World) (P B : Nat) (v : Value) (L : List (Int × Int)) (full : Bool) : Prop where
  val : ∃ a c, v = .slice a L.length c
  c0 : w.cell? ⟨P, 0, none⟩ = some v
  c1 : w.cell? ⟨P, 1, none⟩ = some (.bool full)
  row : w.ownsRow B 40 2 v L.length (L.flatMap spnC)
  ap : v.ownBlock ≠ some P
  z : ∀ k, w.frozen? ⟨P, k, none⟩ = false
theorem Bk.lt {w : World} {P B : Nat} {v : Value} {L : List (Int × Int)} {full : Bool} (h : Bk w P B v L full) : P < w.heap.size := cell_lt2 h.c0
theorem Bk.next {w w' : World} {P B : Nat} {v : Value} {L : List (Int × Int)} {full : Bool} (h : Bk w P B v L full) (hb : Below w.heap.size w w') : Bk w' P B v L full := by
  have hl := h.lt
  have hc : ∀ k, w'.cell? ⟨P, k, none⟩ = w.cell? ⟨P, k, none⟩ := fun k => hb.cell (p := ⟨P, k, none⟩) hl
  exact ⟨h.val, by rw [hc]; exact h.c0, by rw [hc]; exact h.c1, h.row.kept (row := none) ⟨hb.os, hb.tape, hb.output, hb.size, fun k hk _ => hb.block k hk⟩ (by cases hv : v.ownBlock <;> simp), h.ap, fun k => (hb.frozen (p := ⟨P, k, none⟩) hl).trans (h.z k)⟩
/-- another block is written. -/
theorem Bk.far {w : World} {P B : Nat} {v : Value} {L : List (Int × Int)} {full : Bool} (h : Bk w P B v L full) {b k : Nat} (hP : b ≠ P) (hv : v.ownBlock ≠ some b) (x : Value) : Bk (w.setCell ⟨b, k, none⟩ x) P B v L full := by
  have ho : ∀ j, (w.setCell ⟨b, k, none⟩ x).cell? ⟨P, j, none⟩ = w.cell? ⟨P, j, none⟩ := fun j => World.cell?_setCell_other _ _ _ _ (fun e => hP (congrArg Addr.block e))
  exact ⟨h.val, by rw [ho]; exact h.c0, by rw [ho]; exact h.c1, h.row.kept (grown_set _ _ _) (.inr hv), h.ap, fun k => by rw [World.frozen?_setCell]; exact h.z k⟩
def leS (x y : Int × Int) : Prop := ltS y x = false
def Strict (l : List (Int × Int)) : Prop := l.Pairwise (fun x y => ltS x y = true)
/-- what its list and its mark say of what was found. -/
def Inv (L : List (Int × Int)) (full : Bool) (F : List (Int × Int)) : Prop :=
  (∀ x, x ∈ L → x ∈ F) ∧ (full = false → ∀ x, x ∈ F → x ∈ L) ∧ (full = true → ∃ C : List (Int × Int), Strict C ∧ (∀ x, x ∈ C → x ∈ F) ∧ 4096 < C.length)
theorem Inv.start : Inv [] false [] := ⟨fun x h => h, fun _ x h => h, fun h => by cases h⟩
theorem Inv.more {L F F' : List (Int × Int)} (h : Inv L true F) (hs : ∀ x, x ∈ F → x ∈ F') : Inv L true F' := by
  refine ⟨fun x hx => hs x (h.1 x hx), fun h => (by cases h), fun _ => ?_⟩
  obtain ⟨C, h1, h2, h3⟩ := h.2.2 rfl
  exact ⟨C, h1, fun x hx => hs x (h2 x hx), h3⟩
theorem Inv.push {L F : List (Int × Int)} (h : Inv L false F) (s : Int × Int) : Inv (L ++ [s]) false (F ++ [s]) := by
  refine ⟨fun x hx => ?_, fun _ x hx => ?_, fun h => (by cases h)⟩
  · rw [List.mem_append] at hx ⊢
    exact hx.imp (h.1 x) id
  · rw [List.mem_append] at hx ⊢
    exact hx.imp (h.2.1 rfl x) id
theorem Inv.tidy {L L' F : List (Int × Int)} {full : Bool} (h : Inv L full F) (hm : ∀ x, x ∈ L' ↔ x ∈ L) (hs : Strict L') : Inv L' (full || decide (4096 < L'.length)) F := by
  refine ⟨fun x hx => h.1 x ((hm x).1 hx), fun hf x hx => (hm x).2 (h.2.1 (by cases full <;> simp_all) x hx), fun hf => ?_⟩
  cases full with
  | true => exact h.2.2 rfl
  | false =>
    simp at hf
    exact ⟨L', hs, fun x hx => h.1 x ((hm x).1 hx), hf⟩
theorem ltS_of_le {x y : Int × Int} (h : leS x y) (hne : x ≠ y) : ltS x y = true := by
  unfold leS ltS at h
  unfold ltS
  obtain ⟨x1, x2⟩ := x
  obtain ⟨y1, y2⟩ := y
  have hne2 : ¬ (x1 = y1 ∧ x2 = y2) := fun e => hne (by rw [e.1, e.2])
  simp at h ⊢
  omega
theorem ltS_tr {x y z : Int × Int} (h : ltS x y = true) (k : ltS y z = true) : ltS x z = true := by
  unfold ltS at *
  simp at *
  omega
/-- of a list in order those that are not as the one ahead are strictly in order, and have the same members. -/
theorem ddK_sorted (l : List (Int × Int)) (hs : l.Pairwise leS) : ∀ k, k ≤ l.length → Strict (ddK l k) ∧ (∀ x, x ∈ ddK l k ↔ x ∈ l.take k) ∧ ∀ y, 0 < k → l[k - 1]? = some y → ∀ x, x ∈ ddK l k → x = y ∨ ltS x y = true
  | 0, _ => ⟨List.Pairwise.nil, fun x => by simp [ddK], fun y h => by omega⟩
  | k + 1, hk => by
    obtain ⟨h1, h2, h3⟩ := ddK_sorted l hs k (by omega)
    obtain ⟨z, hz⟩ := get_sm l k (by omega)
    have hpw := List.pairwise_iff_getElem.1 hs
    by_cases hd : 0 < k ∧ l[k]? = l[k - 1]?
    · have e : ddK l (k + 1) = ddK l k := ddK_eq l hd.1 hd.2
      have hz2 : l[k - 1]? = some z := by rw [← hd.2]; exact hz
      have hzm : z ∈ l.take k := List.mem_of_getElem? (i := k - 1) (by rw [List.getElem?_take, if_pos (by omega)]; exact hz2)
      rw [e]
      refine ⟨h1, fun x => ?_, fun y _ hy x hx => ?_⟩
      · rw [h2, List.take_add_one, hz, List.mem_append]
        refine ⟨.inl, fun h => h.elim id fun h => ?_⟩
        simp at h
        rw [h]
        exact hzm
      · rw [Nat.add_sub_cancel, hz] at hy
        cases hy
        exact h3 z hd.1 hz2 x hx
    · have e : ddK l (k + 1) = ddK l k ++ [z] := ddK_ne l hz hd
      have hall : ∀ x, x ∈ ddK l k → ltS x z = true := fun x hx => by
        rcases Nat.eq_zero_or_pos k with h0 | h0
        · subst h0
          simp [ddK] at hx
        · obtain ⟨y, hy⟩ := get_sm l (k - 1) (by omega)
          have hyz : ltS y z = true := by
            obtain ⟨i1, e1⟩ := List.getElem?_eq_some_iff.1 hy
            obtain ⟨i2, e2⟩ := List.getElem?_eq_some_iff.1 hz
            have h4 := hpw (k - 1) k i1 i2 (by omega)
            rw [e1, e2] at h4
            exact ltS_of_le h4 (fun e => hd ⟨h0, by rw [hz, hy, e]⟩)
          rcases h3 y h0 hy x hx with h5 | h5
          · rw [h5]; exact hyz
          · exact ltS_tr h5 hyz
      rw [e]
      refine ⟨?_, fun x => ?_, fun y _ hy x hx => ?_⟩
      · refine List.pairwise_append.2 ⟨h1, List.pairwise_singleton _ _, fun x hx y hy => ?_⟩
        simp at hy
        rw [hy]
        exact hall x hx
      · rw [List.mem_append, h2, List.take_add_one, hz, List.mem_append]
        simp
      · rw [Nat.add_sub_cancel, hz] at hy
        cases hy
        rw [List.mem_append] at hx
        rcases hx with hx | hx
        · exact .inr (hall x hx)
        · simp at hx
          exact .inl hx
end Go.Proofs.Ytlbkloamabomcaa
namespace Go.Proofs.Ytlbkloamabomcaa
open Go.RowKit Go.Sort
set_option linter.unusedVariables false
set_option linter.unusedSimpArgs false
set_option maxHeartbeats 2000000 in
theorem ins_nil (p : Option Addr) (cap : Nat) (fv : Value) (w : World) : Calls Try.prog 79 #[.slice p 0 cap, .int .i64 0, .int .i64 0, fv] w fun e w' => e = .returned (.tuple #[]) ∧ w' = w := by
  go_enter Try.func79, Try.ntmps79
  go_wp2
  refine wp_loop_rounds 1 ?_
  rw [rounds_succ]
  go_wp2
  go_end0
  exact ⟨rfl, rfl⟩
set_option maxHeartbeats 2000000 in
theorem pdq_nil (p : Option Addr) (cap : Nat) (lim : Int) (fv : Value) (w : World) : Calls Try.prog 69 #[.slice p 0 cap, .int .i64 0, .int .i64 0, .int .i64 lim, fv] w fun e w' => e = .returned (.tuple #[]) ∧ w' = w := by
  have hi := Lib.hid (fun W => ins_nil p cap fv W)
  go_enter Try.func69, Try.ntmps69
  go_wp2
  refine wp_loop_rounds 1 ?_
  rw [rounds_succ]
  go_wp2_with (go_at_call 79; refine (hi.out _).mono ?_; rintro e w' ⟨rfl, rfl⟩)
  (try simp only [Exit.inBlock, Exit.then]); refine bodyPost_ret (results_none rfl _ _ _) rfl ?_
  exact ⟨rfl, rfl⟩
set_option maxHeartbeats 2000000 in
theorem sort_nil (p : Option Addr) (cap : Nat) (fv : Value) (w : World) : Calls Try.prog 51 #[.slice p 0 cap, fv] w fun e w' => e = .returned (.tuple #[]) ∧ w' = w := by
  have hp := Lib.hid (fun lim W => pdq_nil p cap lim fv W)
  have hl : Hid (∀ W, Calls Try.prog 70 #[.int .u64 0] W fun e w' => e = .returned (.int .i64 (Lib.bitLen 0 : Nat)) ∧ w' = W) := Lib.hid (fun W => by
    have h := Any.bits_Len (SlLaysF0.n15.bits (P := Try.prog) (ρ := sortRen) { sortLays with }) 0 W (by omega) (by omega)
    exact h)
  go_enter Try.func51, Try.ntmps51
  go_wp2_with (first | (go_at_call 70; refine (hl.out _).mono ?_; rintro e w' ⟨rfl, rfl⟩) | (go_at_call 69; refine (hp.out _ _).mono ?_; rintro e w' ⟨rfl, rfl⟩))
  go_end0
  exact ⟨rfl, rfl⟩
theorem compact_nil (p : Option Addr) (cap : Nat) (w : World) : Calls Try.prog 55 #[.slice p 0 cap] w fun e w' => e = .returned (.slice p 0 cap) ∧ w = w' := by
  go_enter Try.func55, Try.ntmps55
  go_wp2_with fail
  go_ret
  exact ⟨rfl, rfl⟩
/-- what a call on the book leaves. -/
def BkPost (w : World) (P B : Nat) (v : Value) (R : List (Int × Int) → Bool → Prop) (e : Ending) (w' : World) : Prop :=
  e = .returned (.tuple #[]) ∧ ∃ v' L' full', Bk w' P B v' L' full' ∧ R L' full' ∧ Fr w w' P v ∧ Later w v v'
theorem onto_grown {g : Nat} {a b : World} (h : Onto g a b) : ∀ k, k < a.heap.size → k ≠ g → b.heap[k]? = a.heap[k]? := by
  induction h with
  | refl => exact fun _ _ _ => rfl
  | set _ k v ih =>
    intro j hj hne
    rw [← ih j hj hne]
    unfold World.setCell
    simp [Array.getElem?_modify, show g ≠ j from fun e => hne e.symm]
  | more h1 p ih =>
    intro j hj hne
    rw [(more_below _ p).block j (Nat.lt_of_lt_of_le hj h1.size)]
    exact ih j hj hne
  | alloc h1 o ih =>
    intro j hj hne
    rw [heap_alloc_old _ _ (Nat.lt_of_lt_of_le hj h1.size)]
    exact ih j hj hne
theorem onto_os {g : Nat} {a b : World} (h : Onto g a b) : b.os = a.os ∧ b.tape = a.tape ∧ b.output = a.output := by
  induction h with
  | refl => exact ⟨rfl, rfl, rfl⟩
  | set _ k v ih => exact ih
  | more h1 p ih => exact ⟨(more_below _ p).os.trans ih.1, (more_below _ p).tape.trans ih.2.1, (more_below _ p).output.trans ih.2.2⟩
  | alloc h1 o ih => exact ih
theorem Fr.of_onto {w w' : World} {g : Nat} {v : Value} (h : Onto g w w') (hv : v.ownBlock = some g) (P : Nat) : Fr w w' P v :=
  ⟨(onto_os h).1, (onto_os h).2.1, (onto_os h).2.2, h.size, fun k hk _ hne => onto_grown h k hk (fun e => hne (by rw [hv, e]))⟩
/-- the book's two cells are written. -/
theorem Bk.store {w : World} {P B : Nat} {x y v : Value} {L : List (Int × Int)} {f : Bool} (h0 : w.cell? ⟨P, 0, none⟩ = some x) (h1 : w.cell? ⟨P, 1, none⟩ = some y) (z : ∀ k, w.frozen? ⟨P, k, none⟩ = false) (hv : ∃ a c, v = .slice a L.length c)
    (hr : w.ownsRow B 40 2 v L.length (L.flatMap spnC)) (ap : v.ownBlock ≠ some P) : Bk ((w.setCell ⟨P, 0, none⟩ v).setCell ⟨P, 1, none⟩ (.bool f)) P B v L f := by
  refine ⟨hv, ?_, ?_, (hr.kept (grown_set _ _ _) (.inr ap)).kept (grown_set _ _ _) (.inr ap), ap, fun k => by rw [World.frozen?_setCell, World.frozen?_setCell]; exact z k⟩
  · rw [World.cell?_setCell_other _ _ _ _ (by simp)]
    exact World.cell?_setCell_same _ _ _ h0
  · have h2 : (w.setCell ⟨P, 0, none⟩ v).cell? ⟨P, 1, none⟩ = some y := by rw [World.cell?_setCell_other _ _ _ _ (by simp)]; exact h1
    exact World.cell?_setCell_same _ _ _ h2
theorem Bk.store0 {w : World} {P B : Nat} {x v : Value} {L : List (Int × Int)} {f : Bool} (h0 : w.cell? ⟨P, 0, none⟩ = some x) (h1 : w.cell? ⟨P, 1, none⟩ = some (.bool f)) (z : ∀ k, w.frozen? ⟨P, k, none⟩ = false) (hv : ∃ a c, v = .slice a L.length c)
    (hr : w.ownsRow B 40 2 v L.length (L.flatMap spnC)) (ap : v.ownBlock ≠ some P) : Bk (w.setCell ⟨P, 0, none⟩ v) P B v L f := by
  refine ⟨hv, World.cell?_setCell_same _ _ _ h0, ?_, hr.kept (grown_set _ _ _) (.inr ap), ap, fun k => by rw [World.frozen?_setCell]; exact z k⟩
  rw [World.cell?_setCell_other _ _ _ _ (by simp)]
  exact h1
theorem row_form {w : World} {B c : Nat} {a : Option Addr} {L : List (Int × Int)} (h : w.ownsRow B 40 2 (.slice a L.length c) L.length (L.flatMap spnC)) (hn : L ≠ []) : ∃ g, a = some ⟨g, 0, none⟩ := by
  rcases h.2 with ⟨e0, e1⟩ | ⟨g, cap, cur, e0, _⟩
  · exact absurd (List.eq_nil_of_length_eq_zero e1) hn
  · injection e0 with e1
    exact ⟨g, e1⟩
set_option maxRecDepth 100000 in
set_option maxHeartbeats 3200000 in
theorem tidy_any {P B : Nat} {v : Value} {L : List (Int × Int)} {full : Bool} (w : World) (h : Bk w P B v L full) (hL : L.length ≤ 100000) :
    Calls Try.prog 34 #[.pointer (some ⟨P, 0, none⟩)] w (BkPost w P B v (fun L' full' => Strict L' ∧ (∀ x, x ∈ L' ↔ x ∈ L) ∧ L'.length ≤ L.length ∧ full' = (full || decide (4096 < L'.length)))) := by
  obtain ⟨a, c, rfl⟩ := h.val
  have H := Lib.hid h
  have c0 := h.c0
  have c1 := h.c1
  have z0 := h.z 0
  have z1 := h.z 1
  have hl := h.lt
  by_cases hn : L = []
  · subst hn
    have SN := Lib.hid (fun fv W => sort_nil a c fv W)
    have CN := Lib.hid (fun W => compact_nil a c W)
    simp only [List.length_nil] at c0
    clear h
    cases full
    all_goals
      go_enter Try.func34, Try.ntmps34
      go_wp2_with (first
        | (go_at_call 51; refine (SN.out _ _).mono ?_; rintro e w1 ⟨rfl, rfl⟩)
        | (go_at_call 55; refine (CN.out _).mono ?_; rintro e w1 ⟨rfl, rfl⟩))
      go_returns
      refine ⟨rfl, .slice a 0 c, [], _, Bk.store c0 c1 H.out.z ⟨a, c, rfl⟩ H.out.row H.out.ap, ⟨List.Pairwise.nil, fun x => Iff.rfl, Nat.le_refl _, by simp⟩, ?_, Later.refl _ _⟩
      exact ((Fr.set _ P 0 _ _).trans (Later.refl _ _) (Fr.set _ P 1 _ _))
  · obtain ⟨g, rfl⟩ := row_form h.row hn
    have hgP : g ≠ P := fun e => h.ap (by rw [e]; rfl)
    have SO := Lib.hid (sort_any w h.row (by omega))
    have HP1 : Hid (∀ w1 : World, w.grownBy w1 (some g) → w1.cell? ⟨P, 0, none⟩ = some (.slice (some ⟨g, 0, none⟩) L.length c) ∧ w1.cell? ⟨P, 1, none⟩ = some (.bool full) ∧ (∀ k, w1.frozen? ⟨P, k, none⟩ = false) ∧ P < w1.heap.size) := Lib.hid (fun w1 hg => by
      have hne : some P ≠ some g := fun e => hgP (Option.some.inj e).symm
      exact ⟨(hg.cell_far ⟨P, 0, none⟩ hl hne).trans c0, (hg.cell_far ⟨P, 1, none⟩ hl hne).trans c1, fun k => (hg.frozen_far ⟨P, k, none⟩ hl hne).trans (H.out.z k), Nat.lt_of_lt_of_le hl hg.size⟩)
    have hgl : g < w.heap.size := (h.row.lt g rfl).2
    clear h
    go_enter Try.func34, Try.ntmps34
    go_upto_region 1 with (go_at_call 51; refine (SO.out).mono ?_; rintro e w1 ⟨rfl, l', hperm, hpw, hrow, hgr⟩)
    obtain ⟨d0, d1, dz, dl⟩ := HP1.out w1 hgr
    have CO := Lib.hid (compact_any w1 hrow (by omega))
    have HD : Hid (Strict (ddK l' L.length) ∧ (∀ x, x ∈ ddK l' L.length ↔ x ∈ L) ∧ (ddK l' L.length).length ≤ L.length) := Lib.hid (by
      have e1 : L.length = l'.length := hperm.length_eq.symm
      rw [e1]
      obtain ⟨q1, q2, _⟩ := ddK_sorted l' hpw l'.length (Nat.le_refl _)
      refine ⟨q1, fun x => ?_, ddK_len _ _⟩
      rw [q2, List.take_length]
      exact hperm.mem_iff)
    have HFR := Lib.hid (Fr.of_grown (v := .slice (some ⟨g, 0, none⟩) L.length c) hgr P)
    have HP2 : Hid (∀ w2 : World, Onto g w1 w2 → w2.cell? ⟨P, 0, none⟩ = some (.slice (some ⟨g, 0, none⟩) L.length c) ∧ w2.cell? ⟨P, 1, none⟩ = some (.bool full) ∧ (∀ k, w2.frozen? ⟨P, k, none⟩ = false) ∧ P < w2.heap.size) := Lib.hid (fun w2 ho =>
      ⟨(ho.cell dl (fun e => hgP e.symm)).trans d0, (ho.cell dl (fun e => hgP e.symm)).trans d1, fun k => (ho.frozen dl).trans (dz k), Nat.lt_of_lt_of_le dl ho.size⟩)
    have y0 := dz 0
    clear hperm hpw hrow hgr dz SO HP1 c0 c1 z0 z1
    generalize hdd : ddK l' L.length = D at *
    clear hdd
    go_upto_region 2 with (go_at_call 55; refine (CO.out).mono ?_; rintro e w2 ⟨rfl, ho, hrow2⟩; have HO2 := Lib.hid ho; have HR2 := Lib.hid hrow2; obtain ⟨f0, f1, fz, fl⟩ := HP2.out w2 ho; have fz0 := fz 0; have fz1 := fz 1; clear ho hrow2 fz)
    have hfz := Lib.hid (HP2.out w2 HO2.out).2.2.1
    cases full
    · rcases (by omega : D.length ≤ 4096 ∨ 4096 < D.length) with hle | hgt
      all_goals
        go_wp2_with fail
        go_returns
        refine ⟨rfl, _, D, _, Bk.store f0 f1 hfz.out ⟨_, _, rfl⟩ HR2.out (by simp [Value.ownBlock]; exact hgP), ⟨HD.out.1, HD.out.2.1, HD.out.2.2, by simp; try omega⟩, ?_, ?_⟩
        · refine (HFR.out.trans (Later.refl _ _) ((Fr.of_onto HO2.out rfl P).trans (Later.refl _ _) ((Fr.set _ P 0 _ _).trans (Later.refl _ _) (Fr.set _ P 1 _ _))))
        · exact fun g' h' => .inl h'
    · go_wp2_with fail
      go_returns
      refine ⟨rfl, _, D, _, Bk.store f0 f1 hfz.out ⟨_, _, rfl⟩ HR2.out (by simp [Value.ownBlock]; exact hgP), ⟨HD.out.1, HD.out.2.1, HD.out.2.2, by simp⟩, ?_, ?_⟩
      · refine (HFR.out.trans (Later.refl _ _) ((Fr.of_onto HO2.out rfl P).trans (Later.refl _ _) ((Fr.set _ P 0 _ _).trans (Later.refl _ _) (Fr.set _ P 1 _ _))))
      · exact fun g' h' => .inl h'
end Go.Proofs.Ytlbkloamabomcaa
namespace Go.Proofs.Ytlbkloamabomcaa
open Go.RowKit Go.Sort
set_option linter.unusedVariables false
set_option linter.unusedSimpArgs false
/-- what the book says of what was found. -/
def BkR (F : List (Int × Int)) (L : List (Int × Int)) (full : Bool) : Prop := Inv L full F ∧ L.length ≤ 8193 ∧ (full = false → L.length ≤ 8192)
theorem BkR.tidy {F L L' : List (Int × Int)} {full : Bool} (h : Inv L full F) (hl : L.length ≤ 8193) (hs : Strict L') (hm : ∀ x, x ∈ L' ↔ x ∈ L) (hl2 : L'.length ≤ L.length) : BkR F L' (full || decide (4096 < L'.length)) := by
  refine ⟨h.tidy hm hs, by omega, fun hf => ?_⟩
  simp at hf
  omega
theorem span_info : (Try.prog.info? 40).map (fun i => (i.zero, i.size, i.bytes)) = some (some (.agg #[.int .i64 0, .int .i64 0]), 2, 16) := by kernel_rfl
theorem BkPost.mono {w : World} {P B : Nat} {v : Value} {R R' : List (Int × Int) → Bool → Prop} (h : ∀ L f, R L f → R' L f) {e : Ending} {w' : World} (k : BkPost w P B v R e w') : BkPost w P B v R' e w' := by
  obtain ⟨h1, v', L', f', h2, h3, h4, h5⟩ := k
  exact ⟨h1, v', L', f', h2, h _ _ h3, h4, h5⟩
/-- two calls one behind the other. -/
theorem BkPost.after {w w1 : World} {P B : Nat} {v v1 : Value} {R : List (Int × Int) → Bool → Prop} (h : Fr w w1 P v) (hl : Later w v v1) {e : Ending} {w' : World} (k : BkPost w1 P B v1 R e w') : BkPost w P B v R e w' := by
  obtain ⟨h1, v', L', f', h2, h3, h4, h5⟩ := k
  exact ⟨h1, v', L', f', h2, h3, h.trans hl h4, hl.trans h.size h5⟩
set_option maxRecDepth 100000 in
set_option maxHeartbeats 3200000 in
theorem add_full {P B : Nat} {v : Value} {L F : List (Int × Int)} (w : World) (h : Bk w P B v L true) (hR : BkR F L true) (s : Int × Int) :
    Calls Try.prog 49 #[.pointer (some ⟨P, 0, none⟩), .agg #[.int .i64 s.1, .int .i64 s.2]] w (BkPost w P B v (BkR (F ++ [s]))) := by
  have HI := Lib.hid (hR.1.more (F' := F ++ [s]) (fun x hx => List.mem_append.2 (.inl hx)))
  have hl := hR.2.1
  obtain ⟨a, c, rfl⟩ := h.val
  have H := Lib.hid h
  have c0 := h.c0
  have c1 := h.c1
  have hlt := h.lt
  have TD := Lib.hid (fun W (hW : Bk W P B (.slice a L.length c) L true) => tidy_any W hW (by omega))
  obtain ⟨s1, s2⟩ := s
  simp only at *
  clear h hR
  have HLL : Hid (∃ n, n = L.length) := Lib.hid ⟨_, rfl⟩
  rcases (by omega : L.length ≤ 8192 ∨ L.length = 8193) with hle | heq
  · go_enter Try.func49, Try.ntmps49
    go_wp2_with fail
    go_returns
    exact ⟨rfl, _, L, true, H.out.next (below_al (Below.refl _ _) _), ⟨HI.out, by omega, fun h => by cases h⟩, Fr.of_below (below_al (Below.refl _ _) _) _ _, Later.refl _ _⟩
  · have HEQ := Lib.hid heq
    rw [heq] at c0 TD
    clear heq
    go_enter Try.func49, Try.ntmps49
    go_wp2_with (go_at_call 34; refine (TD.out _ (by have h9 := H.out.next (below_al (Below.refl w.heap.size w) (.cells #[.int .i64 s1, .int .i64 s2] 40)); rw [HEQ.out] at h9; exact h9)).mono ?_; rintro e w2 ⟨rfl, v2, L2, f2, hb2, ⟨q1, q2, q3, q4⟩, hfr, hla⟩)
    go_returns
    refine ⟨rfl, v2, L2, f2, hb2, ?_, (Fr.of_below (below_al (Below.refl _ _) _) _ _).trans (Later.refl _ _) (by rw [HEQ.out]; exact hfr), ?_⟩
    · rw [q4]
      exact BkR.tidy HI.out (by have := HEQ.out; omega) q1 q2 (by rw [HEQ.out]; exact q3)
    · rw [HEQ.out]
      exact Later.trans (by simp) (Later.refl _ _) hla
set_option maxRecDepth 100000 in
set_option maxHeartbeats 3200000 in
theorem add_open {P B : Nat} {v : Value} {L F : List (Int × Int)} (w : World) (h : Bk w P B v L false) (hR : BkR F L false) (hB : B ≤ P) (s : Int × Int) :
    Calls Try.prog 49 #[.pointer (some ⟨P, 0, none⟩), .agg #[.int .i64 s.1, .int .i64 s.2]] w (BkPost w P B v (BkR (F ++ [s]))) := by
  have HI := Lib.hid (hR.1.push s)
  have hl := hR.2.2 rfl
  obtain ⟨a, c, rfl⟩ := h.val
  have H := Lib.hid h
  have c0 := h.c0
  have c1 := h.c1
  have z0 := h.z 0
  have hlt := h.lt
  have HR := Lib.hid h.row
  have hne : some P ≠ (Value.slice a L.length c).ownBlock := fun e => h.ap e.symm
  have TD := Lib.hid (fun W v' L' (hW : Bk W P B v' L' false) (hl' : L'.length ≤ 100000) => tidy_any W hW hl')
  obtain ⟨i0, hi, hz0, hz1, hz2⟩ := info_parts span_info
  have HS : Hid ((L ++ [s]).length = L.length + 1 ∧ (L ++ [s]).flatMap spnC = L.flatMap spnC ++ [.int .i64 s.1, .int .i64 s.2]) := Lib.hid ⟨by simp, by simp [List.flatMap_append, spnC]⟩
  obtain ⟨s1, s2⟩ := s
  simp only at HS ⊢
  clear h hR
  generalize hLn : L.length = n at *
  have HLN := Lib.hid hLn
  clear hLn
  go_enter Try.func49, Try.ntmps49
  go_wp2_with fail
  refine wp_letter (R := fun W => Bk W P B (.slice a n c) L false ∧ Below w.heap.size w W ∧ W.cell? ⟨w.heap.size, 0, none⟩ = some (.int .i64 s1) ∧ W.cell? ⟨w.heap.size, 1, none⟩ = some (.int .i64 s2)) ⟨H.out.next (below_al (Below.refl _ _) _), below_al (Below.refl _ _) _, by simp [go_sem], by simp [go_sem]⟩ ?_
  rintro wA ⟨hA, hBl, x0, x1⟩
  have a0 : wA.cell? ⟨P, 0, none⟩ = some (.slice a n c) := hA.c0
  have a1 : wA.cell? ⟨P, 1, none⟩ = some (.bool false) := hA.c1
  have az : wA.frozen? ⟨P, 0, none⟩ = false := hA.z 0
  have hlA := hA.lt
  have hlx := cell_lt2 x0
  have HA := Lib.hid hA
  have HO : Hid (wA.ownsRow B 40 2 (.slice a n c) n (L.flatMap spnC)) := Lib.hid (by have := hA.row; rwa [HLN.out] at this)
  have HBL := Lib.hid hBl
  clear hA hBl c0 c1 z0
  have hBw : B ≤ wA.heap.size := by omega
  have hgr : ∀ (w1 : World), (wA.alloc (.cells #[.int .i64 s1, .int .i64 s2] 40)).drew.grownBy w1 (Value.slice a n c).ownBlock → w1.frozen? ⟨P, 0, none⟩ = false ∧ w1.cell? ⟨P, 0, none⟩ = some (.slice a n c) ∧ w1.cell? ⟨P, 1, none⟩ = some (.bool false) ∧ P < w1.heap.size := fun w1 hg => by
    have h0 : P < (wA.alloc (.cells #[.int .i64 s1, .int .i64 s2] 40)).drew.heap.size := by simp; omega
    refine ⟨?_, ?_, ?_, Nat.lt_of_lt_of_le h0 hg.size⟩
    · rw [hg.frozen_far ⟨P, 0, none⟩ h0 hne]; simp [go_sem, ↓IntWalk.iteOmega, az]
    · rw [hg.cell_far ⟨P, 0, none⟩ h0 hne]; simp [go_sem, ↓IntWalk.iteOmega, a0]
    · rw [hg.cell_far ⟨P, 1, none⟩ h0 hne]; simp [go_sem, ↓IntWalk.iteOmega, a1]
  have HG := Lib.hid hgr
  clear hgr
  go_region_law ((refine step_append_lies _ rfl (.tmp 13) (.tmp 15) 44 rfl B 40 i0 _ 2 16 Try.underlying44 hi hz0 hz1 hz2 rfl (by decide) (.slice a n c) n (L.flatMap spnC) (by simp [Act.eval, Act.put]) ((HO.out.alloc _).drew) ⟨wA.heap.size, 0, none⟩ 1 1 [.int .i64 s1, .int .i64 s2] (by simp [Act.eval, Act.put]) rfl (World.news_of_block (cs := #[.int .i64 s1, .int .i64 s2]) (t := 40) (fr := (0, 0)) (heap_alloc_new wA _)) (by simp [Value.oneCell']) (by omega) (by unfold maxLen; omega) (by omega) (by simp; omega) (wA.heap.size + 1) (by simp) ?_; intro gg cap w1 hown1 hgrow hat hlt1; obtain ⟨k0, k1, k2, k3⟩ := HG.out w1 hgrow))
  all_goals
    have h0 : P < (wA.alloc (.cells #[.int .i64 s1, .int .i64 s2] 40)).drew.heap.size := by simp; omega
    have hgP : gg ≠ P := fun e => by
      subst e
      rcases hat with h9 | h9
      · exact hne h9.symm
      · omega
    have HB2 : Hid (Bk (w1.setCell ⟨P, 0, none⟩ (.slice (some ⟨gg, 0, none⟩) (n + 1) cap)) P B (.slice (some ⟨gg, 0, none⟩) (n + 1) cap) (L ++ [(s1, s2)]) false) := Lib.hid (by
      refine Bk.store0 k1 k2 (fun k => ?_) ⟨_, _, by rw [HS.out.1]⟩ (by rw [HS.out.1, HS.out.2]; exact hown1) (by simp [Value.ownBlock]; exact hgP)
      rw [hgrow.frozen_far ⟨P, k, none⟩ h0 hne]
      have h9 := HA.out.z k
      simp [go_sem, ↓IntWalk.iteOmega, h9])
    have HFR : Hid (Fr w (w1.setCell ⟨P, 0, none⟩ (.slice (some ⟨gg, 0, none⟩) (n + 1) cap)) P (.slice a n c)) := Lib.hid (by
      refine (Fr.of_below HBL.out _ _).trans (Later.refl _ _) ((Fr.of_below (below_dr (below_al (Below.refl _ _) _)) _ _).trans (Later.refl _ _) ((Fr.of_grown hgrow P).trans (Later.refl _ _) (Fr.set _ _ _ _ _))))
    have HLT : Hid (Later w (.slice a n c) (.slice (some ⟨gg, 0, none⟩) (n + 1) cap)) := Lib.hid (fun g' hg' => by
      have : gg = g' := Option.some.inj hg'
      subst this
      rcases hat with h9 | h9
      · exact .inl h9
      · exact .inr (by omega))
    have y0 : (w1.setCell ⟨P, 0, none⟩ (.slice (some ⟨gg, 0, none⟩) (n + 1) cap)).cell? ⟨P, 0, none⟩ = some (.slice (some ⟨gg, 0, none⟩) (n + 1) cap) := HB2.out.c0
    clear hown1 hgrow hat hlt1 HG k0 k1 k2
    generalize hw2 : w1.setCell ⟨P, 0, none⟩ (.slice (some ⟨gg, 0, none⟩) (n + 1) cap) = w2 at *
    clear hw2
    rcases (by omega : n + 1 ≤ 8192 ∨ 8192 < n + 1) with hle | hgt
    · go_wp2_with fail
      go_returns
      exact ⟨rfl, _, _, false, HB2.out, ⟨HI.out, by rw [HS.out.1]; omega, fun _ => by rw [HS.out.1]; omega⟩, HFR.out, HLT.out⟩
    · go_wp2_with (go_at_call 34; refine (TD.out _ _ _ HB2.out (by rw [HS.out.1]; omega)).mono ?_; rintro e w3 ⟨rfl, v2, L2, f2, hb2, ⟨q1, q2, q3, q4⟩, hfr, hla⟩)
      go_returns
      refine ⟨rfl, v2, L2, f2, hb2, ?_, HFR.out.trans HLT.out hfr, HLT.out.trans HFR.out.size hla⟩
      rw [q4]
      exact BkR.tidy HI.out (by rw [HS.out.1]; omega) q1 q2 q3
theorem add_any {P B : Nat} {v : Value} {L F : List (Int × Int)} {full : Bool} (w : World) (h : Bk w P B v L full) (hR : BkR F L full) (hB : B ≤ P) (s : Int × Int) :
    Calls Try.prog 49 #[.pointer (some ⟨P, 0, none⟩), .agg #[.int .i64 s.1, .int .i64 s.2]] w (BkPost w P B v (BkR (F ++ [s]))) := by
  cases full with
  | true => exact add_full w h hR s
  | false => exact add_open w h hR hB s
end Go.Proofs.Ytlbkloamabomcaa
