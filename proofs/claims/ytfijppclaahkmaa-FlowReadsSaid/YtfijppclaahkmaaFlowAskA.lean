/- Walk: what an instruction asks of memory. Conditions: numbers fit. -/
import Derived.Test.YtfijppclaahkmaaFlowNum
import Derived.Test.YtfijppclaahkmaaQuietTail
import Derived.Deep.RegionHeld3
import Derived.Deep.CutRange
import Derived.Deep.MidRow
namespace Go.Proofs.Ytfijppclaahkmaa
open Go.RowKit Go.Sort
set_option linter.unusedVariables false
set_option linter.unusedSimpArgs false
theorem sound_any (i : Ins) (hi : i.rng) (w : World) : Calls Try.prog 20 #[insV i] w (Gives w (.bool (enc i).isSome)) := by
  have E := Lib.hid (fun W => encode_any i hi W)
  generalize ((((enc i).getD 0 : Nat)) : Int) = V at E
  generalize (enc i).isSome = b at E ⊢
  obtain ⟨op, d, n, m, e, sz, imm⟩ := i
  unfold insV
  clear hi
  simp only at *
  cases b
  all_goals
    simp at E
    go_enter Try.func20, Try.ntmps20
    go_wp2_with (first | (go_at_call 37; refine (E.out _).mono ?_; rintro e w1 ⟨rfl, p, rfl⟩))
    go_ret
    exact Gives.mk rfl (by repeat (first | exact Below.refl _ _ | refine below_mo ?_ _ | refine below_al ?_ _ | refine below_dr ?_))
theorem st_new (w : World) (s : St) (t : TypeId) : StAt (w.alloc (.cells (stC s.f) t)) w.heap.size s := fun k hk => by
  refine ⟨?_, ?_⟩
  · rw [alloc_cell, if_neg (by omega), if_pos rfl, stC_get, if_pos hk]
  · rw [alloc_frozen, if_neg (by omega)]
/-- an instruction lies in a block. -/
def IAt (w : World) (B : Nat) (i : Ins) : Prop := w.cell? ⟨B, 0, none⟩ = some (.int .i64 i.op) ∧ w.cell? ⟨B, 1, none⟩ = some (.int .i64 i.d) ∧ w.cell? ⟨B, 2, none⟩ = some (.int .i64 i.n) ∧ w.cell? ⟨B, 3, none⟩ = some (.int .i64 i.m) ∧ w.cell? ⟨B, 4, none⟩ = some (.int .i64 i.e) ∧ w.cell? ⟨B, 5, none⟩ = some (.int .i64 i.sz) ∧ w.cell? ⟨B, 6, none⟩ = some (.int .i64 i.imm)
theorem IAt.below {w w' : World} {B : Nat} {i : Ins} (h : IAt w B i) (hb : Below w.heap.size w w') : IAt w' B i := by
  have hl : B < w.heap.size := cell_lt h.1
  obtain ⟨h0, h1, h2, h3, h4, h5, h6⟩ := h
  exact ⟨(hb.cell (p := ⟨B, 0, none⟩) hl).trans h0, (hb.cell (p := ⟨B, 1, none⟩) hl).trans h1, (hb.cell (p := ⟨B, 2, none⟩) hl).trans h2, (hb.cell (p := ⟨B, 3, none⟩) hl).trans h3, (hb.cell (p := ⟨B, 4, none⟩) hl).trans h4, (hb.cell (p := ⟨B, 5, none⟩) hl).trans h5, (hb.cell (p := ⟨B, 6, none⟩) hl).trans h6⟩
def Acc8 (w : World) (B : Nat) (x : Bool) (a l : Int) (ex acq rel : Bool) (d0 d1 : Int) : Prop :=
  (w.cell? ⟨B, 0, none⟩ = some (.bool x) ∧ w.cell? ⟨B, 1, none⟩ = some (.int .i64 a) ∧ w.cell? ⟨B, 2, none⟩ = some (.int .i64 l) ∧ w.cell? ⟨B, 3, none⟩ = some (.bool ex) ∧ w.cell? ⟨B, 4, none⟩ = some (.bool acq) ∧ w.cell? ⟨B, 5, none⟩ = some (.bool rel)
    ∧ w.cell? ⟨B, 6, none⟩ = some (.int .u64 d0) ∧ w.cell? ⟨B, 7, none⟩ = some (.int .u64 d1)) ∧ (w.frozen? ⟨B, 0, none⟩ = false ∧ w.frozen? ⟨B, 1, none⟩ = false ∧ w.frozen? ⟨B, 2, none⟩ = false ∧ w.frozen? ⟨B, 3, none⟩ = false
    ∧ w.frozen? ⟨B, 4, none⟩ = false ∧ w.frozen? ⟨B, 5, none⟩ = false ∧ w.frozen? ⟨B, 6, none⟩ = false ∧ w.frozen? ⟨B, 7, none⟩ = false)
def accV (w : Bool) (a l : Int) (ex acq rel : Bool) (d0 d1 : Int) : Value := .agg #[.bool w, .int .i64 a, .int .i64 l, .bool ex, .bool acq, .bool rel, .int .u64 d0, .int .u64 d1]
def acqB (op : Int) : Bool := (op == 19 || op == 22) || op == 26
def relB (op : Int) : Bool := (op == 20 || op == 24) || op == 28
def ask0 (s : St) (i : Ins) : Int := if wrB i.op then (if paB i.op then (getX s i.d : Nat) else bits .and .u64 (getX s i.d : Nat) (mask (8 * lenI i) : Nat)) else 0
def ask1 (s : St) (i : Ins) : Int := if wrB i.op && paB i.op then (getX s i.e : Nat) else 0
theorem lenI_in {i : Ins} (hf : Facts i) : 1 ≤ lenI i ∧ lenI i ≤ 16 := by
  unfold lenI
  have := hf.sz
  split
  · omega
  · have h : i.sz = 0 ∨ i.sz = 1 ∨ i.sz = 2 ∨ i.sz = 3 := by omega
    rcases h with h | h | h | h <;> rw [h] <;> simp
set_option maxHeartbeats 1000000 in
theorem ask_no (s : St) (i : Ins) (hi : i.rng) (h : (enc i).isSome = false ∨ meB i.op = false) (w : World) : Calls Try.prog 7 #[stV s, insV i] w (Gives w (.tuple #[accV false 0 0 false false false 0 0, .bool false])) := by
  have SO := Lib.hid (fun W => sound_any i hi W)
  have ME := Lib.hid (fun W => memory_fl i.op W)
  generalize (enc i).isSome = b at *
  generalize meB i.op = m1 at *
  obtain ⟨op, d, n, m, e, sz, imm⟩ := i
  unfold insV stV accV at *
  generalize s.f = f
  clear hi
  simp only at *
  rcases h with rfl | rfl
  · go_enter Try.func7, Try.ntmps7
    go_wp2_with (first
      | (go_at_call 20; refine (SO.out _).mono ?_; rintro e w1 ⟨rfl, p, rfl⟩)
      | (go_at_call 21; refine (ME.out _).mono ?_; rintro e w1 ⟨rfl, rfl⟩))
    go_returns
    exact Gives.mk rfl (by repeat (first | exact Below.refl _ _ | refine below_mo ?_ _ | refine below_al ?_ _ | refine below_dr ?_))
  · cases b
    all_goals
      go_enter Try.func7, Try.ntmps7
      go_wp2_with (first
        | (go_at_call 20; refine (SO.out _).mono ?_; rintro e w1 ⟨rfl, p, rfl⟩)
        | (go_at_call 21; refine (ME.out _).mono ?_; rintro e w1 ⟨rfl, rfl⟩))
      go_returns
      exact Gives.mk rfl (by repeat (first | exact Below.refl _ _ | refine below_mo ?_ _ | refine below_al ?_ _ | refine below_dr ?_))
theorem stat_setc {w : World} {B : Nat} {s : St} (h : StAt w B s) {b k : Nat} {v : Value} (hb : B ≠ b) : StAt (w.setCell ⟨b, k, none⟩ v) B s := fun j hj => by
  refine ⟨?_, ?_⟩
  · rw [World.cell?_setCell_other _ _ _ _ (fun e => hb (congrArg Addr.block e).symm)]
    exact (h j hj).1
  · rw [World.frozen?_setCell]
    exact (h j hj).2
theorem stat_more {w : World} {B : Nat} {s : St} (h : StAt w B s) (p : Regrown) : StAt (more w p) B s := h.below (more_below w p)
theorem i_new (w : World) (i : Ins) (t : TypeId) : IAt (w.alloc (.cells #[.int .i64 i.op, .int .i64 i.d, .int .i64 i.n, .int .i64 i.m, .int .i64 i.e, .int .i64 i.sz, .int .i64 i.imm] t)) w.heap.size i := by
  unfold IAt
  simp [alloc_cell]
theorem acc_new (w : World) (x : Bool) (a l : Int) (ex acq rel : Bool) (d0 d1 : Int) (t : TypeId) : Acc8 (w.alloc (.cells #[.bool x, .int .i64 a, .int .i64 l, .bool ex, .bool acq, .bool rel, .int .u64 d0, .int .u64 d1] t)) w.heap.size x a l ex acq rel d0 d1 := by
  unfold Acc8
  simp [alloc_cell, alloc_frozen]
theorem i_new2 (w : World) (i : Ins) (t : TypeId) (B : Nat) (hB : w.heap.size = B) : IAt (w.alloc (.cells #[.int .i64 i.op, .int .i64 i.d, .int .i64 i.n, .int .i64 i.m, .int .i64 i.e, .int .i64 i.sz, .int .i64 i.imm] t)) B i := hB ▸ i_new w i t
theorem acc_new2 (w : World) (x : Bool) (a l : Int) (ex acq rel : Bool) (d0 d1 : Int) (t : TypeId) (B : Nat) (hB : w.heap.size = B) : Acc8 (w.alloc (.cells #[.bool x, .int .i64 a, .int .i64 l, .bool ex, .bool acq, .bool rel, .int .u64 d0, .int .u64 d1] t)) B x a l ex acq rel d0 d1 := hB ▸ acc_new w x a l ex acq rel d0 d1 t
theorem Acc8.below {w w' : World} {B : Nat} {x : Bool} {a l : Int} {ex acq rel : Bool} {d0 d1 : Int} (h : Acc8 w B x a l ex acq rel d0 d1) (hb : Below w.heap.size w w') : Acc8 w' B x a l ex acq rel d0 d1 := by
  have hl : B < w.heap.size := cell_lt h.1.1
  unfold Acc8 at *
  have hc := fun k => hb.cell (p := ⟨B, k, none⟩) hl
  have hf := fun k => hb.frozen (p := ⟨B, k, none⟩) hl
  simp only [hc, hf]
  exact h
theorem acc_more {w : World} {B : Nat} {x : Bool} {a l : Int} {ex acq rel : Bool} {d0 d1 : Int} (h : Acc8 w B x a l ex acq rel d0 d1) (p : Regrown) : Acc8 (more w p) B x a l ex acq rel d0 d1 := h.below (more_below w p)
theorem res_cell_tmp {P : Program} {fn : Func} {tmps : Array Value} {w : World} {T : TypeId} {c t B : Nat} {v : Value} (hr : fn.results = #[.cell c T, .tmp t]) (hp : tmps.getD c undef = .pointer (some ⟨B, 0, none⟩))
    (hl : (loadVar T ⟨B, 0, none⟩).run P w = .ok v w) : (results fn tmps).run P w = .ok (.tuple #[v, tmps.getD t undef]) w := by
  unfold results
  rw [hr]
  have hp2 : (tmps[c]?).getD undef = .pointer (some ⟨B, 0, none⟩) := by simpa [Array.getD_eq_getD_getElem?] using hp
  simp [hp2, asAddr, hl]
theorem Acc8.set4 {w : World} {B : Nat} {x : Bool} {a l : Int} {ex acq rel : Bool} {d0 d1 : Int} (h : Acc8 w B x a l ex acq rel d0 d1) (q : Bool) : Acc8 (w.setCell ⟨B, 4, none⟩ (.bool q)) B x a l ex q rel d0 d1 := by
  obtain ⟨⟨c0, c1, c2, c3, c4, c5, c6, c7⟩, z0, z1, z2, z3, z4, z5, z6, z7⟩ := h
  unfold Acc8
  refine ⟨⟨?_, ?_, ?_, ?_, World.cell?_setCell_same _ _ _ c4, ?_, ?_, ?_⟩, ?_, ?_, ?_, ?_, ?_, ?_, ?_, ?_⟩
  all_goals first | (rw [World.frozen?_setCell]; assumption) | (rw [World.cell?_setCell_other _ _ _ _ (by simp)]; assumption)
theorem Acc8.set5 {w : World} {B : Nat} {x : Bool} {a l : Int} {ex acq rel : Bool} {d0 d1 : Int} (h : Acc8 w B x a l ex acq rel d0 d1) (q : Bool) : Acc8 (w.setCell ⟨B, 5, none⟩ (.bool q)) B x a l ex acq q d0 d1 := by
  obtain ⟨⟨c0, c1, c2, c3, c4, c5, c6, c7⟩, z0, z1, z2, z3, z4, z5, z6, z7⟩ := h
  unfold Acc8
  refine ⟨⟨?_, ?_, ?_, ?_, ?_, World.cell?_setCell_same _ _ _ c5, ?_, ?_⟩, ?_, ?_, ?_, ?_, ?_, ?_, ?_, ?_⟩
  all_goals first | (rw [World.frozen?_setCell]; assumption) | (rw [World.cell?_setCell_other _ _ _ _ (by simp)]; assumption)
theorem Acc8.far {w : World} {B : Nat} {x : Bool} {a l : Int} {ex acq rel : Bool} {d0 d1 : Int} (h : Acc8 w B x a l ex acq rel d0 d1) {b k : Nat} {v : Value} (hb : B ≠ b) : Acc8 (w.setCell ⟨b, k, none⟩ v) B x a l ex acq rel d0 d1 := by
  have hc : ∀ j, (w.setCell ⟨b, k, none⟩ v).cell? ⟨B, j, none⟩ = w.cell? ⟨B, j, none⟩ := fun j => World.cell?_setCell_other _ _ _ _ (fun e => hb (congrArg Addr.block e).symm)
  have hf : ∀ j, (w.setCell ⟨b, k, none⟩ v).frozen? ⟨B, j, none⟩ = w.frozen? ⟨B, j, none⟩ := fun j => World.frozen?_setCell _ _ _ _
  unfold Acc8 at *
  simp only [hc, hf]
  exact h
theorem IAt.far {w : World} {B : Nat} {i : Ins} (h : IAt w B i) {b k : Nat} {v : Value} (hb : B ≠ b) : IAt (w.setCell ⟨b, k, none⟩ v) B i := by
  have hc : ∀ j, (w.setCell ⟨b, k, none⟩ v).cell? ⟨B, j, none⟩ = w.cell? ⟨B, j, none⟩ := fun j => World.cell?_setCell_other _ _ _ _ (fun e => hb (congrArg Addr.block e).symm)
  unfold IAt at *
  simp only [hc]
  exact h
theorem Acc8.there {w : World} {B : Nat} {x : Bool} {a l : Int} {ex acq rel : Bool} {d0 d1 : Int} (h : Acc8 w B x a l ex acq rel d0 d1) : w.there B 0 8 := fun j hj => by
  obtain ⟨⟨c0, c1, c2, c3, c4, c5, c6, c7⟩, z0, z1, z2, z3, z4, z5, z6, z7⟩ := h
  have h8 : j = 0 ∨ j = 1 ∨ j = 2 ∨ j = 3 ∨ j = 4 ∨ j = 5 ∨ j = 6 ∨ j = 7 := by omega
  rcases h8 with rfl | rfl | rfl | rfl | rfl | rfl | rfl | rfl <;> simp [*]
/-- the rest of the walk's world: state, instruction, result, the access. -/
structure AskW (w wx : World) (s : St) (i : Ins) (b : Nat) (x : Bool) (a l : Int) (ex acq rel : Bool) (d0 d1 : Int) : Prop where
  st : StAt wx w.heap.size s
  ins : IAt wx (w.heap.size + 1) i
  res : Acc8 wx (w.heap.size + 1 + 1) false 0 0 false false false 0 0
  acc : Acc8 wx b x a l ex acq rel d0 d1
  lo : w.heap.size + 3 ≤ b
  below : Below w.heap.size w wx
theorem AskW.set4 {w wx : World} {s : St} {i : Ins} {b : Nat} {x : Bool} {a l : Int} {ex acq rel : Bool} {d0 d1 : Int} (h : AskW w wx s i b x a l ex acq rel d0 d1) (q : Bool) : AskW w (wx.setCell ⟨b, 4, none⟩ (.bool q)) s i b x a l ex q rel d0 d1 := by
  have := h.lo
  exact ⟨stat_setc h.st (by omega), h.ins.far (by omega), h.res.far (by omega), h.acc.set4 q, h.lo, below_st h.below (by simp only []; omega) _⟩
theorem AskW.set5 {w wx : World} {s : St} {i : Ins} {b : Nat} {x : Bool} {a l : Int} {ex acq rel : Bool} {d0 d1 : Int} (h : AskW w wx s i b x a l ex acq rel d0 d1) (q : Bool) : AskW w (wx.setCell ⟨b, 5, none⟩ (.bool q)) s i b x a l ex acq q d0 d1 := by
  have := h.lo
  exact ⟨stat_setc h.st (by omega), h.ins.far (by omega), h.res.far (by omega), h.acc.set5 q, h.lo, below_st h.below (by simp only []; omega) _⟩
theorem ask4t {w wx : World} {s : St} {i : Ins} {b : Nat} {x : Bool} {a l : Int} {ex acq rel : Bool} {d0 d1 op : Int} (h : AskW w wx s i b x a l ex acq rel d0 d1) (hq : op = 19 ∨ op = 22 ∨ op = 26) : AskW w (wx.setCell ⟨b, 4, none⟩ (.bool true)) s i b x a l ex (op == 19 || op == 22 || op == 26) rel d0 d1 := by
  rw [show (op == 19 || op == 22 || op == 26) = true by simp; omega]
  exact h.set4 true
theorem ask4f {w wx : World} {s : St} {i : Ins} {b : Nat} {x : Bool} {a l : Int} {ex acq rel : Bool} {d0 d1 op : Int} (h : AskW w wx s i b x a l ex acq rel d0 d1) (hq : ¬ (op = 19 ∨ op = 22 ∨ op = 26)) : AskW w (wx.setCell ⟨b, 4, none⟩ (.bool false)) s i b x a l ex (op == 19 || op == 22 || op == 26) rel d0 d1 := by
  rw [show (op == 19 || op == 22 || op == 26) = false by simp; omega]
  exact h.set4 false
theorem ask5t {w wx : World} {s : St} {i : Ins} {b : Nat} {x : Bool} {a l : Int} {ex acq rel : Bool} {d0 d1 op : Int} (h : AskW w wx s i b x a l ex acq rel d0 d1) (hq : op = 20 ∨ op = 24 ∨ op = 28) : AskW w (wx.setCell ⟨b, 5, none⟩ (.bool true)) s i b x a l ex acq (op == 20 || op == 24 || op == 28) d0 d1 := by
  rw [show (op == 20 || op == 24 || op == 28) = true by simp; omega]
  exact h.set5 true
theorem ask5f {w wx : World} {s : St} {i : Ins} {b : Nat} {x : Bool} {a l : Int} {ex acq rel : Bool} {d0 d1 op : Int} (h : AskW w wx s i b x a l ex acq rel d0 d1) (hq : ¬ (op = 20 ∨ op = 24 ∨ op = 28)) : AskW w (wx.setCell ⟨b, 5, none⟩ (.bool false)) s i b x a l ex acq (op == 20 || op == 24 || op == 28) d0 d1 := by
  rw [show (op == 20 || op == 24 || op == 28) = false by simp; omega]
  exact h.set5 false
theorem ask_ret {Y : World} {r : Nat} {q : Bool} {tmps : Array Value} {v0 v1 v2 v3 v4 v5 v6 v7 : Value} (hY : Y.there r 0 8) (h4 : tmps.getD 4 undef = .pointer (some ⟨r, 0, none⟩)) (h5 : tmps.getD 5 undef = .bool q) :
    (results Try.f7 tmps).run Try.prog ((((((((Y.setCell ⟨r, 0, none⟩ v0).setCell ⟨r, 1, none⟩ v1).setCell ⟨r, 2, none⟩ v2).setCell ⟨r, 3, none⟩ v3).setCell ⟨r, 4, none⟩ v4).setCell ⟨r, 5, none⟩ v5).setCell ⟨r, 6, none⟩ v6).setCell ⟨r, 7, none⟩ v7) = .ok (.tuple #[.agg #[v0, v1, v2, v3, v4, v5, v6, v7], .bool q]) ((((((((Y.setCell ⟨r, 0, none⟩ v0).setCell ⟨r, 1, none⟩ v1).setCell ⟨r, 2, none⟩ v2).setCell ⟨r, 3, none⟩ v3).setCell ⟨r, 4, none⟩ v4).setCell ⟨r, 5, none⟩ v5).setCell ⟨r, 6, none⟩ v6).setCell ⟨r, 7, none⟩ v7) := by
  have hr : (World.setCells Y r 0 [v0, v1, v2, v3, v4, v5, v6, v7]).rangeAt r 0 [v0, v1, v2, v3, v4, v5, v6, v7] := World.rangeAt_setCells_same Y r 0 [v0, v1, v2, v3, v4, v5, v6, v7] hY
  have hl := run_loadVar_mid (P := Try.prog) (World.setCells Y r 0 [v0, v1, v2, v3, v4, v5, v6, v7]) r 0 32 [v0, v1, v2, v3, v4, v5, v6, v7] _ hr Try.underlying32 rfl (by kernel_rfl)
  have := res_cell_tmp (fn := Try.f7) (t := 5) (show Try.f7.results = #[.cell 4 32, .tmp 5] from rfl) h4 hl
  rw [h5] at this
  exact this
theorem below8 {a Y : World} {r : Nat} {v0 v1 v2 v3 v4 v5 v6 v7 : Value} (h : Below a.heap.size a Y) (hr : a.heap.size ≤ r) : Below a.heap.size a ((((((((Y.setCell ⟨r, 0, none⟩ v0).setCell ⟨r, 1, none⟩ v1).setCell ⟨r, 2, none⟩ v2).setCell ⟨r, 3, none⟩ v3).setCell ⟨r, 4, none⟩ v4).setCell ⟨r, 5, none⟩ v5).setCell ⟨r, 6, none⟩ v6).setCell ⟨r, 7, none⟩ v7) :=
  below_st (below_st (below_st (below_st (below_st (below_st (below_st (below_st h hr v0) hr v1) hr v2) hr v3) hr v4) hr v5) hr v6) hr v7
theorem Acc8.set6 {w : World} {B : Nat} {x : Bool} {a l : Int} {ex acq rel : Bool} {d0 d1 : Int} (h : Acc8 w B x a l ex acq rel d0 d1) (q : Int) : Acc8 (w.setCell ⟨B, 6, none⟩ (.int .u64 q)) B x a l ex acq rel q d1 := by
  obtain ⟨⟨c0, c1, c2, c3, c4, c5, c6, c7⟩, z0, z1, z2, z3, z4, z5, z6, z7⟩ := h
  unfold Acc8
  refine ⟨⟨?_, ?_, ?_, ?_, ?_, ?_, World.cell?_setCell_same _ _ _ c6, ?_⟩, ?_, ?_, ?_, ?_, ?_, ?_, ?_, ?_⟩
  all_goals first | (rw [World.frozen?_setCell]; assumption) | (rw [World.cell?_setCell_other _ _ _ _ (by simp)]; assumption)
theorem AskW.set6 {w wx : World} {s : St} {i : Ins} {b : Nat} {x : Bool} {a l : Int} {ex acq rel : Bool} {d0 d1 : Int} (h : AskW w wx s i b x a l ex acq rel d0 d1) (q : Int) : AskW w (wx.setCell ⟨b, 6, none⟩ (.int .u64 q)) s i b x a l ex acq rel q d1 := by
  have := h.lo
  exact ⟨stat_setc h.st (by omega), h.ins.far (by omega), h.res.far (by omega), h.acc.set6 q, h.lo, below_st h.below (by simp only []; omega) _⟩
theorem Acc8.set7 {w : World} {B : Nat} {x : Bool} {a l : Int} {ex acq rel : Bool} {d0 d1 : Int} (h : Acc8 w B x a l ex acq rel d0 d1) (q : Int) : Acc8 (w.setCell ⟨B, 7, none⟩ (.int .u64 q)) B x a l ex acq rel d0 q := by
  obtain ⟨⟨c0, c1, c2, c3, c4, c5, c6, c7⟩, z0, z1, z2, z3, z4, z5, z6, z7⟩ := h
  unfold Acc8
  refine ⟨⟨?_, ?_, ?_, ?_, ?_, ?_, ?_, World.cell?_setCell_same _ _ _ c7⟩, ?_, ?_, ?_, ?_, ?_, ?_, ?_, ?_⟩
  all_goals first | (rw [World.frozen?_setCell]; assumption) | (rw [World.cell?_setCell_other _ _ _ _ (by simp)]; assumption)
theorem AskW.set7 {w wx : World} {s : St} {i : Ins} {b : Nat} {x : Bool} {a l : Int} {ex acq rel : Bool} {d0 d1 : Int} (h : AskW w wx s i b x a l ex acq rel d0 d1) (q : Int) : AskW w (wx.setCell ⟨b, 7, none⟩ (.int .u64 q)) s i b x a l ex acq rel d0 q := by
  have := h.lo
  exact ⟨stat_setc h.st (by omega), h.ins.far (by omega), h.res.far (by omega), h.acc.set7 q, h.lo, below_st h.below (by simp only []; omega) _⟩
theorem AskW.more {w wx : World} {s : St} {i : Ins} {b : Nat} {x : Bool} {a l : Int} {ex acq rel : Bool} {d0 d1 : Int} (h : AskW w wx s i b x a l ex acq rel d0 d1) (p : Regrown) : AskW w (more wx p) s i b x a l ex acq rel d0 d1 :=
  ⟨stat_more h.st p, h.ins.below (more_below _ _), acc_more h.res p, acc_more h.acc p, h.lo, below_mo h.below p⟩
end Go.Proofs.Ytfijppclaahkmaa
