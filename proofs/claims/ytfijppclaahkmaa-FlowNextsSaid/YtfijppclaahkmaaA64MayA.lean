/- May an instruction be (the document's answer)? What its walk needs. No condition. -/
import Derived.Test.YtfijppclaahkmaaA64Enc
import Derived.Test.YtfijppclaahkmaaA64Pat
import Derived.Test.YtfijppclaahkmaaA64MayMath
import Derived.Deep.WholeRow
import Derived.Deep.RegionLawGrows
namespace Go.Proofs.Ytfijppclaahkmaa
open Go.RowKit Go.Sort
set_option linter.unusedVariables false
set_option linter.unusedSimpArgs false
def z256 : Array Value := Array.replicate 256 (.int .i64 0)
theorem z256_size : z256.size = 256 := by unfold z256; simp
theorem zero_256 (W : World) : (zeroValue 61).run Try.prog W = .ok (.agg z256) W := by kernel_rfl
theorem info_256 : (Try.prog.info? 61).map (·.size) = some 256 := by kernel_rfl
theorem one_256 : z256.all (·.oneCell') = true := by kernel_rfl
theorem store_256 (W : World) (B : Nat) (hB : W.heap.size = B) : (storeCells ⟨B, 0, none⟩ z256.toList 0).run Try.prog (W.alloc (.cells z256 61)) = .ok () (W.alloc (.cells z256 61)) := by
  subst hB
  exact run_storeCells_new W 61 z256 z256 (by rw [z256_size]; exact info_256) rfl one_256
/-- counts lie in a block. -/
def CntAt (w : World) (H : Nat) (g : Nat → Int) : Prop := ∀ c, c < 256 → w.cell? ⟨H, c, none⟩ = some (.int .i64 (g c)) ∧ w.frozen? ⟨H, c, none⟩ = false
theorem CntAt.below {w w' : World} {H : Nat} {g : Nat → Int} (h : CntAt w H g) (hH : H < w.heap.size) (hb : Below w.heap.size w w') : CntAt w' H g := fun k hk =>
  ⟨(hb.cell (p := ⟨H, k, none⟩) hH).trans (h k hk).1, (hb.frozen (p := ⟨H, k, none⟩) hH).trans (h k hk).2⟩
theorem CntAt.setc {w : World} {H : Nat} {g : Nat → Int} (h : CntAt w H g) (k : Nat) (hk : k < 256) (x : Int) : CntAt (w.setCell ⟨H, k, none⟩ (.int .i64 x)) H (fun c => if c = k then x else g c) := fun j hj => by
  refine ⟨?_, ?_⟩
  · show _ = some (Value.int .i64 (if j = k then x else g j))
    by_cases e : j = k
    · subst e
      rw [if_pos rfl]
      exact World.cell?_setCell_same _ _ _ (h j hk).1
    · rw [if_neg e, World.cell?_setCell_other _ _ _ _ (fun h2 => e (congrArg Addr.off h2).symm)]
      exact (h j hj).1
  · rw [World.frozen?_setCell]
    exact (h j hj).2
theorem cnt_new (W : World) (B : Nat) (hB : W.heap.size = B) : CntAt (W.alloc (.cells z256 61)) B (fun _ => 0) := by
  subst hB
  intro k hk
  refine ⟨?_, ?_⟩
  · rw [alloc_cell, if_neg (by omega), if_pos rfl]
    unfold z256
    simp [hk]
  · rw [alloc_frozen, if_neg (by omega)]
theorem reg_any (x most : Int) (on : Bool) (w : World) : Calls Try.prog 38 #[.int .i64 x, .bool on, .int .i64 most] w (Gives w (.bool (regB x on most))) := by
  have e : Hid (regB x on most = ((decide (0 ≤ x) && decide (x ≤ most)) && (on || x == 0))) := Lib.hid rfl
  generalize regB x on most = v at e ⊢
  by_cases h1 : 0 ≤ x
  · by_cases h2 : x ≤ most
    · cases on
      · have e2 : Hid (v = (x == 0)) := by rw [e.out, decide_eq_true h1, decide_eq_true h2]; exact Lib.hid (by simp)
        clear e
        by_cases h3 : x = 0
        all_goals
          first | (have h4 : (x == 0) = true := by simpa using h3) | (have h4 : (x == 0) = false := by simpa using h3)
          rw [h4] at e2
          go_enter Try.func38, Try.ntmps38
          go_wp2
          go_ret
          exact Gives.mk (ret_boolA (by rw [e2.out])) (Below.refl _ _)
      · have e2 : Hid (v = true) := by rw [e.out, decide_eq_true h1, decide_eq_true h2]; exact Lib.hid (by simp)
        clear e
        go_enter Try.func38, Try.ntmps38
        go_wp2
        go_ret
        exact Gives.mk (ret_boolA (by rw [e2.out])) (Below.refl _ _)
    · have e2 : Hid (v = false) := by rw [e.out, decide_eq_true h1, decide_eq_false h2]; exact Lib.hid (by simp)
      clear e
      go_enter Try.func38, Try.ntmps38
      go_wp2
      go_ret
      exact Gives.mk (ret_boolA (by rw [e2.out])) (Below.refl _ _)
  · have e2 : Hid (v = false) := by rw [e.out, decide_eq_false h1]; exact Lib.hid (by simp)
    clear e
    go_enter Try.func38, Try.ntmps38
    go_wp2
    go_ret
    exact Gives.mk (ret_boolA (by rw [e2.out])) (Below.refl _ _)
theorem pat_all : (List.range 33).all (fun k => decide ((patI k).length ≤ 32) && (patI k).all (fun c => decide (c < 256))) = true := by decide +kernel
theorem pat_ok (op : Int) : (patI op).length ≤ 32 ∧ ∀ c ∈ patI op, c < 256 := by
  by_cases h : 0 ≤ op ∧ op ≤ 32
  · have h2 := List.all_eq_true.1 pat_all op.toNat (List.mem_range.2 (by omega))
    have e : (op.toNat : Int) = op := by omega
    rw [e] at h2
    simpa using h2
  · have : patI op = [] := by
      unfold patI
      split
      · rw [patN_out _ (by omega)]
      · rfl
    rw [this]
    simp
theorem strB_get {ls : List Nat} {k c : Nat} (h : ls[k]? = some c) (hc : c < 256) (hk : k < (strB ls).size) : ((strB ls)[k]'hk).toNat = c := by
  obtain ⟨hlt, e⟩ := List.getElem?_eq_some_iff.mp h
  have : (strB ls)[k]'hk = UInt8.ofNat c := by
    have h2 : (strB ls).data[k]? = some (UInt8.ofNat c) := by
      unfold strB
      simp [h]
    exact (Array.getElem?_eq_some_iff.mp h2).2
  rw [this]
  simp
  omega
theorem regT (x most : Int) (P : Prop) [Decidable P] : (regB x (decide P) most = true) ↔ (0 ≤ x ∧ x ≤ most ∧ (P ∨ x = 0)) := by
  unfold regB
  simp [and_assoc]
theorem regF (x most : Int) (P : Prop) [Decidable P] : (regB x (decide P) most = false) ↔ ¬ (0 ≤ x ∧ x ≤ most ∧ (P ∨ x = 0)) := by
  rw [← regT]
  simp
theorem reg_prop (x most : Int) (P : Prop) [Decidable P] (w : World) : Calls Try.prog 38 #[.int .i64 x, .bool (decide P), .int .i64 most] w (Gives w (.bool (decide (0 ≤ x ∧ x ≤ most ∧ (P ∨ x = 0))))) := by
  have h := reg_any x most (decide P) w
  have e : regB x (decide P) most = decide (0 ≤ x ∧ x ≤ most ∧ (P ∨ x = 0)) := by
    rw [Bool.eq_iff_iff, regT, decide_eq_true_eq]
  rw [e] at h
  exact h
theorem wrap64_in {x : Int} (h1 : -9223372036854775808 ≤ x) (h2 : x ≤ 9223372036854775807) : wrap64 x = x := by
  unfold wrap64
  omega
theorem pow_cast (k : Nat) : (2 : Int) ^ k = ((2 ^ k : Nat) : Int) := (Int.natCast_pow 2 k).symm
theorem imm_pat : (List.range 4).all (fun k => decide (1 ≤ cntR ((13 + k : Nat) : Int) 105)) = true := by decide +kernel
theorem imm_cnt {op : Int} (h : 13 ≤ op ∧ op ≤ 16) : 1 ≤ cntR op 105 := by
  have := List.all_eq_true.1 imm_pat (op.toNat - 13) (List.mem_range.2 (by omega))
  rw [(show ((13 + (op.toNat - 13) : Nat) : Int) = op by omega)] at this
  simpa using this
theorem take_count {ls : List Nat} {k c : Nat} (h : ls[k]? = some c) (x : Nat) : (ls.take (k + 1)).count x = (ls.take k).count x + if x = c then 1 else 0 := by
  rw [List.take_add_one, h, List.count_append]
  congr 1
  by_cases e : x = c
  · subst e; simp
  · rw [if_neg e]
    simp only [Option.toList_some]
    rw [List.count_singleton]
    have : (c == x) = false := by simp; omega
    rw [this]
    rfl
def MInv (w wr : World) (H : Nat) (i : Ins) (g : Nat → Int) : Prop :=
  Below w.heap.size w wr ∧ H < wr.heap.size ∧ w.heap.size < H ∧ InsAt wr w.heap.size i ∧ CntAt wr H g
theorem MInv.setc {w wr : World} {H : Nat} {i : Ins} {g : Nat → Int} (h : MInv w wr H i g) (k : Nat) (hk : k < 256) (x : Int) : MInv w (wr.setCell ⟨H, k, none⟩ (.int .i64 x)) H i (fun c => if c = k then x else g c) := by
  obtain ⟨h1, h2, h3, h4, h5⟩ := h
  refine ⟨below_st h1 (by simp; omega) _, by simpa using h2, h3, fun j hj => ⟨?_, ?_⟩, h5.setc k hk x⟩
  · rw [World.cell?_setCell_other _ _ _ _ (fun e => by have := congrArg Addr.block e; simp only at this; omega)]
    exact (h4 j hj).1
  · rw [World.frozen?_setCell]
    exact (h4 j hj).2
theorem reg_t (x most : Int) (on : Bool) (h : 0 ≤ x ∧ x ≤ most ∧ (on = true ∨ x = 0)) (w : World) : Calls Try.prog 38 #[.int .i64 x, .bool on, .int .i64 most] w (Gives w (.bool true)) := by
  have e : regB x on most = true := by
    unfold regB
    rw [decide_eq_true h.1, decide_eq_true h.2.1]
    rcases h.2.2 with h | h <;> simp [h]
  have h2 := reg_any x most on w
  rw [e] at h2
  exact h2
theorem reg_f (x most : Int) (on : Bool) (h : ¬ (0 ≤ x ∧ x ≤ most ∧ (on = true ∨ x = 0))) (w : World) : Calls Try.prog 38 #[.int .i64 x, .bool on, .int .i64 most] w (Gives w (.bool false)) := by
  have e : regB x on most = false := by
    have h3 := regT x most (on = true)
    rw [Bool.eq_false_iff]
    intro h4
    apply h
    have e5 : decide (on = true) = on := by cases on <;> rfl
    rw [e5] at h3
    exact h3.1 h4
  have h2 := reg_any x most on w
  rw [e] at h2
  exact h2
theorem reg_tp (x most : Int) (P : Prop) {_ : Decidable P} (h : 0 ≤ x ∧ x ≤ most ∧ (P ∨ x = 0)) (w : World) : Calls Try.prog 38 #[.int .i64 x, .bool (decide P), .int .i64 most] w (Gives w (.bool true)) :=
  reg_t x most (decide P) (by rw [decide_eq_true_eq]; exact h) w
theorem reg_fp (x most : Int) (P : Prop) {_ : Decidable P} (h : ¬ (0 ≤ x ∧ x ≤ most ∧ (P ∨ x = 0))) (w : World) : Calls Try.prog 38 #[.int .i64 x, .bool (decide P), .int .i64 most] w (Gives w (.bool false)) :=
  reg_f x most (decide P) (by rw [decide_eq_true_eq]; exact h) w
theorem may_iff (i : Ins) (hn : patI i.op ≠ []) : mayB i = true ↔ ((0 ≤ i.d ∧ i.d ≤ 31 ∧ (0 < cntR i.op 100 ∨ i.d = 0)) ∧ (0 ≤ i.n ∧ i.n ≤ 31 ∧ (0 < cntR i.op 110 + cntR i.op 97 ∨ i.n = 0)) ∧ (0 ≤ i.m ∧ i.m ≤ 31 ∧ (0 < cntR i.op 109 ∨ i.m = 0)) ∧ (0 ≤ i.e ∧ i.e ≤ 31 ∧ (0 < cntR i.op 101 + cntR i.op 113 + cntR i.op 107 ∨ i.e = 0)) ∧ (0 ≤ i.sz ∧ i.sz ≤ 3 ∧ (0 < cntR i.op 115 ∨ i.sz = 0)) ∧ ¬ (0 < cntR i.op 97 ∧ i.n = 31) ∧ ¬ (0 < cntR i.op 113 + cntR i.op 107 ∧ 3 < i.e) ∧ (0 < cntR i.op 98 → 0 ≤ i.imm ∧ i.imm ≤ 2) ∧ (¬ 0 < cntR i.op 98 → (13 ≤ i.op ∧ i.op ≤ 16) → -((2 ^ ((cntR i.op 105).toNat - 1) : Nat) : Int) ≤ i.imm ∧ i.imm < ((2 ^ ((cntR i.op 105).toNat - 1) : Nat) : Int)) ∧ (¬ 0 < cntR i.op 98 → ¬ (13 ≤ i.op ∧ i.op ≤ 16) → 0 ≤ i.imm ∧ i.imm < ((2 ^ (cntR i.op 105).toNat : Nat) : Int))) := by
  have hpe : (patI i.op).isEmpty = false := by
    cases h : patI i.op with
    | nil => exact absurd h hn
    | cons a l => rfl
  unfold mayB fineB immB
  rw [hpe]
  simp only [Bool.and_eq_true, regT, Bool.not_eq_true', Bool.and_eq_false_iff, decide_eq_true_eq, decide_eq_false_iff_not, beq_iff_eq, beq_eq_false_iff_ne, Bool.not_false, true_and, ne_eq]
  generalize ((2 ^ (cntR i.op 105).toNat : Nat) : Int) = P1
  generalize ((2 ^ ((cntR i.op 105).toNat - 1) : Nat) : Int) = P2
  constructor
  · rintro ⟨⟨⟨⟨⟨⟨⟨a0, a1⟩, a2⟩, a3⟩, a4⟩, b1⟩, b2⟩, c⟩
    refine ⟨a0, a1, a2, a3, a4, fun h => b1.elim (fun k => k h.1) (fun k => k h.2), fun h => b2.elim (fun k => k h.1) (fun k => k h.2), ?_⟩
    clear a0 a1 a2 a3 a4 b1 b2
    split at c
    · rename_i h1
      simp only [Bool.and_eq_true, decide_eq_true_eq] at c
      exact ⟨fun _ => c, fun h => absurd h1 h, fun h => absurd h1 h⟩
    · rename_i h1
      split at c
      · rename_i h2
        simp only [Bool.and_eq_true, decide_eq_true_eq] at c
        exact ⟨fun h => absurd h h1, fun _ _ => c, fun _ h => absurd h2 h⟩
      · rename_i h2
        simp only [Bool.and_eq_true, decide_eq_true_eq] at c
        exact ⟨fun h => absurd h h1, fun _ h => absurd h h2, fun _ _ => c⟩
  · rintro ⟨a0, a1, a2, a3, a4, b1, b2, c1, c2, c3⟩
    refine ⟨⟨⟨⟨⟨⟨⟨a0, a1⟩, a2⟩, a3⟩, a4⟩, ?_⟩, ?_⟩, ?_⟩
    · clear a0 a1 a2 a3 a4 b2 c1 c2 c3
      omega
    · clear a0 a1 a2 a3 a4 b1 c1 c2 c3
      omega
    · split
      · rename_i h1
        simp only [Bool.and_eq_true, decide_eq_true_eq]
        exact c1 h1
      · rename_i h1
        split
        · rename_i h2
          simp only [Bool.and_eq_true, decide_eq_true_eq]
          exact c2 h1 h2
        · rename_i h2
          simp only [Bool.and_eq_true, decide_eq_true_eq]
          exact c3 h1 h2
end Go.Proofs.Ytfijppclaahkmaa
