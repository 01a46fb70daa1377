/- Walk: FlowNexts, where it is no instruction. Conditions: numbers fit. What the walk through FlowNexts needs: the world between its statements, what each class of instructions makes of a thread. No condition. -/
import Derived.Test.YtfijppclaahkmaaFlowStaysT
import Derived.Test.YtfijppclaahkmaaFlowEqT
import Derived.Test.YtfijppclaahkmaaFlowVals
import Derived.Test.YtfijppclaahkmaaA64RefEnc
namespace Go.Proofs.Ytfijppclaahkmaa
open Go.RowKit Go.Sort
set_option linter.unusedVariables false
set_option linter.unusedSimpArgs false
/-- a guard: the goal is a list of operations. -/
theorem is_list {P : Program} {ops : Array Oper} {l : List Oper} {a : Act} {w : World} {Q : Exit → Act → World → Prop} (h : wpList P ops Q l a w) : wpList P ops Q l a w := h
theorem wpList_load_stg {ops : Array Oper} {rest : List Oper} {op : Oper} {a : Act} {w : World} {Q : Exit → Act → World → Prop} {s : St} {b : Nat} (x : Operand) (ho : op.op = .load 27 x) (hx : a.eval x = .pointer (some ⟨b, 0, none⟩)) (hw : Region.wanted op (yielded ops a.tmps) = true) (hS : StAt w b s)
    (h : wpList Try.prog ops Q rest (a.put op.dst (stV s)) w) : wpList Try.prog ops Q (op :: rest) a w :=
  BigFrame.wpList_want hw fun _ hK => wp_load_mid 27 x ho b 0 hx ((List.range 36).map s.f) _ (st_range hS) Try.underlying27 rfl (by simpa using info_st) (hK _ _ h)
theorem wpList_build0g {ops : Array Oper} {rest : List Oper} {op : Oper} {a : Act} {w : World} {Q : Exit → Act → World → Prop} {T : St} (hT : T = St.zero) (ho : op.op = .build 27 #[]) (hw : Region.wanted op (yielded ops a.tmps) = true)
    (h : wpList Try.prog ops Q rest (a.put op.dst (stV T)) w) : wpList Try.prog ops Q (op :: rest) a w :=
  BigFrame.wpList_want hw fun K hK => by
    subst hT
    have e : ∀ W, (Instr.build 27 #[]).run Try.prog W = .ok (stV St.zero) W := fun W => by kernel_rfl
    unfold Oper.wp execOp
    simp only [ho, Array.map_empty, Array.mapM_empty, Sem.run_bind, Sem.run_pure, Result.andThen_ok, e]
    exact hK _ _ h
theorem wpList_eql_st {ops : Array Oper} {rest : List Oper} {op : Oper} {a : Act} {w : World} {Q : Exit → Act → World → Prop} {s : St} (x y : Operand) (ho : op.op = .binOp .eql 27 x y 27) (hx : a.eval x = stV s) (hy : a.eval y = stV s) (hw : Region.wanted op (yielded ops a.tmps) = true)
    (h : wpList Try.prog ops Q rest (a.put op.dst (.bool true)) w) : wpList Try.prog ops Q (op :: rest) a w :=
  BigFrame.wpList_want hw fun K hK => by
    have hg : (eqGuard .eql 27 x y (stV s) (stV s)).run Try.prog w = .ok () w := run_eqGuard_agg w .eql 27 x y _ _ (by kernel_rfl)
    unfold Oper.wp execOp
    simp only [ho, hx, hy, Sem.run_bind, Sem.run_pure, Result.andThen_ok, hg, eql_st]
    exact hK _ _ h
set_option maxRecDepth 10000 in
set_option maxHeartbeats 4000000 in
theorem nexts_no (s : St) (i : Ins) (hi : i.rng) (g0 g1 : Nat) (fits : Bool) (h : enc i = none) (w : World) : Calls Try.prog 4 #[stV s, insV i, .agg #[.int .u64 (g0 : Nat), .int .u64 (g1 : Nat)], .bool fits] w fun e w' => e = .returned (.bool true) ∧ Below w.heap.size w w' := by
  have A := Lib.hid awake_fl
  have NX := Lib.hid (fun W => next_no s i hi g0 g1 fits h W)
  have RE := Lib.hid (fun W => rencode_any i hi W)
  rw [h] at RE
  have ST := Lib.hid (fun W => st_new W s 27)
  have SS := Lib.hid (fun t p => stay_start w s t i g0 g1 p)
  clear h hi
  obtain ⟨op, d, n, m, e, sz, imm⟩ := i
  rw [show stV s = .agg (stC s.f) from rfl]
  generalize hv : stV s = V at NX
  generalize hT : St.zero = T at NX
  have HT := Lib.hid hT.symm
  clear hT
  unfold insV at NX ⊢
  simp only [Option.getD_none, Option.isSome_none] at RE
  simp only at NX
  show Calls Try.prog _ #[.agg (stC s.f), .agg #[.int .i64 op, .int .i64 d, .int .i64 n, .int .i64 m, .int .i64 e, .int .i64 sz, .int .i64 imm], .agg #[.int .u64 (g0 : Nat), .int .u64 (g1 : Nat)], .bool fits] w _
  go_enter Try.func4, Try.ntmps4
  go_upto_region 1 with fail
  refine wp_region_lit ?_
  refine wpList_load_st (s := s) (b := w.heap.size) (.tmp 4) rfl rfl rfl (stat_alloc (stat_alloc (ST.out w) _) _) ?_
  rw [hv]
  go_frame
  go_upto_region 2 with (first
    | (refine wpList_alloc_st rfl rfl ?_; go_frame)
    | (refine wpList_store_new (s := T) (.tmp 9) (.tmp 26) rfl rfl rfl rfl ?_ ?_; (generalize stV _ = Z; rfl); go_frame)
    | (go_at_call 14; refine (NX.out _).mono ?_; rintro e w1 ⟨rfl, p1, rfl⟩))
  refine wp_letter (R := fun W => StayW w W s ⟨op, d, n, m, e, sz, imm⟩ (w.heap.size + 1 + 1 + 1 + p1.os.size) T) (SS.out T p1) ?_
  intro wx hN
  have lr : w.heap.size + 1 + 1 + 1 + p1.os.size < _ := cell_lt (hN.nx 0 (by omega)).1
  have lz : w.heap.size + 1 < _ := cell_lt hN.ins.1
  have HN := Lib.hid hN
  clear hN SS ST
  have hI := HN.out.ins
  unfold IAt at hI
  obtain ⟨i0, i1, i2, i3, i4, i5, i6⟩ := hI
  go_wp2_with (first
    | (refine wpList_load_stg (s := T) (b := w.heap.size + 1 + 1 + 1 + p1.os.size) (.tmp 9) rfl rfl (by kernel_rfl) ?_ ?_; (repeat (first | with_reducible exact HN.out.nx | with_reducible refine stat_more ?_ _ | with_reducible refine stat_alloc ?_ _)); go_frame)
    | (refine wpList_build0g HT.out rfl (by kernel_rfl) ?_; go_frame)
    | (refine wpList_eql_st (s := T) (.tmp 41) (.tmp 42) rfl rfl rfl (by kernel_rfl) ?_; go_frame)
    | (go_at_call 8; refine (RE.out _).mono ?_; rintro e w1 ⟨rfl, p3, rfl⟩)
    | (go_at_call 10; refine (A.out _).mono ?_; rintro e w1 ⟨rfl, p2, rfl⟩))
  all_goals (go_ret; exact ⟨rfl, by repeat (first | with_reducible exact HN.out.below | with_reducible refine below_mo ?_ _ | with_reducible refine below_al ?_ _)⟩)
end Go.Proofs.Ytfijppclaahkmaa
namespace Go.Proofs.Ytfijppclaahkmaa
open Go.RowKit Go.Sort
set_option linter.unusedVariables false
set_option linter.unusedSimpArgs false
theorem stat_onto {w w' : World} {B c : Nat} {s : St} (h : StAt w c s) (ho : Onto B w w') (hc : c ≠ B) : StAt w' c s := fun k hk => by
  have hl := cell_lt (h k hk).1
  rw [ho.cell hl hc, ho.frozen hl]
  exact h k hk
theorem acc_onto {w w' : World} {B c : Nat} {x : Bool} {a l : Int} {ex acq rel : Bool} {d0 d1 : Int} (h : Acc8 w c x a l ex acq rel d0 d1) (ho : Onto B w w') (hc : c ≠ B) : Acc8 w' c x a l ex acq rel d0 d1 := by
  have hl := cell_lt h.1.1
  unfold Acc8 at *
  have hb := fun k => ho.cell (k := k) hl hc
  have hf := fun k => ho.frozen (k := k) hl
  simp only [hb, hf]
  exact h
theorem onto_setCells {B : Nat} {a : World} : ∀ (vs : List Value) (o : Nat) (w : World), Onto B a w → Onto B a (w.setCells B o vs)
  | [], _, _, h => h
  | v :: r, o, w, h => onto_setCells r (o + 1) _ (h.set o v)
theorem stat_setCells {w : World} {B : Nat} {s t : St} (h : StAt w B s) : StAt (w.setCells B 0 (stL t)) B t := fun k hk => by
  have ht : w.there B 0 (stL t).length := fun j hj => by
    have hj2 : j < 36 := by simpa [stL] using hj
    rw [Nat.zero_add]
    exact ⟨by rw [(h j hj2).1]; rfl, (h j hj2).2⟩
  have h1 := World.rangeAt_setCells_same w B 0 (stL t) ht k (t.f k) (by simp [stL, hk])
  rw [Nat.zero_add] at h1
  exact ⟨h1, by rw [World.frozen?_setCells]; exact (h k hk).2⟩
theorem st_there {w : World} {B : Nat} {s : St} (h : StAt w B s) : w.there B 0 36 := fun j hj => by
  rw [Nat.zero_add]
  exact ⟨by rw [(h j hj).1]; rfl, (h j hj).2⟩
/-- the world between the statements of FlowNexts: thread, instruction, what memory answered; what Next made; what is wanted. -/
structure NxW (w wx : World) (s : St) (i : Ins) (g0 g1 : Nat) (r : Nat) (t : St) (b : Nat) (u : St) : Prop where
  st : StAt wx w.heap.size s
  ins : IAt wx (w.heap.size + 1) i
  got : Two wx (w.heap.size + 1 + 1) (.int .u64 (g0 : Nat)) (.int .u64 (g1 : Nat))
  nx : StAt wx r t
  want : StAt wx b u
  lo : w.heap.size + 1 + 1 < r
  ne : r < b
  lb : b < wx.heap.size
  below : Below w.heap.size w wx
section
variable {w wx wy : World} {s t u u' : St} {i : Ins} {g0 g1 r b : Nat}
theorem NxW.onto (h : NxW w wx s i g0 g1 r t b u) (ho : Onto b wx wy) (hu : StAt wy b u') : NxW w wy s i g0 g1 r t b u' := by
  have h1 := h.lo
  have h2 := h.ne
  exact ⟨stat_onto h.st ho (by omega), h.ins.onto ho (by omega), h.got.onto ho (by omega), stat_onto h.nx ho (by omega), hu, h1, h2, Nat.lt_of_lt_of_le h.lb ho.size, ho.under h.below (by omega)⟩
theorem NxW.more (h : NxW w wx s i g0 g1 r t b u) (p : Regrown) : NxW w (more wx p) s i g0 g1 r t b u := h.onto (Onto.refl.more p) (stat_more h.want p)
theorem NxW.alloc (h : NxW w wx s i g0 g1 r t b u) (o : Obj) : NxW w (wx.alloc o) s i g0 g1 r t b u := h.onto (Onto.refl.alloc o) (stat_alloc h.want o)
theorem NxW.all (h : NxW w wx s i g0 g1 r t b u) (u' : St) : NxW w (wx.setCells b 0 (stL u')) s i g0 g1 r t b u' := h.onto (onto_setCells _ _ _ Onto.refl) (stat_setCells h.want)
theorem NxW.pc (h : NxW w wx s i g0 g1 r t b u) (v : Int) (e : u' = { u with pc := v }) : NxW w (wx.setCell ⟨b, 31, none⟩ (.int .i64 v)) s i g0 g1 r t b u' := h.onto (Onto.refl.set 31 _) (e ▸ stat_pc h.want v)
theorem NxW.zer (h : NxW w wx s i g0 g1 r t b u) (v : Bool) (e : u' = { u with z := v }) : NxW w (wx.setCell ⟨b, 32, none⟩ (.bool v)) s i g0 g1 r t b u' := h.onto (Onto.refl.set 32 _) (e ▸ stat_z h.want v)
theorem NxW.car (h : NxW w wx s i g0 g1 r t b u) (v : Bool) (e : u' = { u with c := v }) : NxW w (wx.setCell ⟨b, 33, none⟩ (.bool v)) s i g0 g1 r t b u' := h.onto (Onto.refl.set 33 _) (e ▸ stat_c h.want v)
theorem NxW.wat (h : NxW w wx s i g0 g1 r t b u) (x y : Int) (e : u' = { u with wa := x, wl := y }) : NxW w ((wx.setCell ⟨b, 34, none⟩ (.int .i64 x)).setCell ⟨b, 35, none⟩ (.int .i64 y)) s i g0 g1 r t b u' := h.onto ((Onto.refl.set 34 _).set 35 _) (e ▸ stat_w h.want x y)
end
theorem nx_start (w : World) (s t : St) (i : Ins) (g0 g1 : Nat) (p p2 : Regrown) : NxW w ((more ((more (((w.alloc (.cells (stC s.f) 27)).alloc (.cells #[.int .i64 i.op, .int .i64 i.d, .int .i64 i.n, .int .i64 i.m, .int .i64 i.e, .int .i64 i.sz, .int .i64 i.imm] 29)).alloc (.cells #[.int .u64 (g0 : Nat), .int .u64 (g1 : Nat)] 30)) p).alloc (.cells (stC t.f) 27)) p2).alloc (.cells (stC s.f) 27)) s i g0 g1 (w.heap.size + 1 + 1 + 1 + p.os.size) t (w.heap.size + 1 + 1 + 1 + p.os.size + 1 + p2.os.size) s := by
  have h0 := stay_start w s t i g0 g1 p
  have h1 : Two (((w.alloc (.cells (stC s.f) 27)).alloc (.cells #[.int .i64 i.op, .int .i64 i.d, .int .i64 i.n, .int .i64 i.m, .int .i64 i.e, .int .i64 i.sz, .int .i64 i.imm] 29)).alloc (.cells #[.int .u64 (g0 : Nat), .int .u64 (g1 : Nat)] 30)) (w.heap.size + 1 + 1) (.int .u64 (g0 : Nat)) (.int .u64 (g1 : Nat)) := by
    unfold Two
    simp [alloc_cell]
  refine ⟨(h0.more p2).alloc _ |>.st, (h0.more p2).alloc _ |>.ins, ?_, (h0.more p2).alloc _ |>.nx, ?_, by omega, by omega, ?_, (h0.more p2).alloc _ |>.below⟩
  · exact (((h1.onto (B := 0) (Onto.refl.more p) (by omega)).onto (B := 0) (Onto.refl.alloc _) (by omega)).onto (B := 0) (Onto.refl.more p2) (by omega)).onto (B := 0) (Onto.refl.alloc _) (by omega)
  · have := st_new (more ((more (((w.alloc (.cells (stC s.f) 27)).alloc (.cells #[.int .i64 i.op, .int .i64 i.d, .int .i64 i.n, .int .i64 i.m, .int .i64 i.e, .int .i64 i.sz, .int .i64 i.imm] 29)).alloc (.cells #[.int .u64 (g0 : Nat), .int .u64 (g1 : Nat)] 30)) p).alloc (.cells (stC t.f) 27)) p2) s 27
    simpa [more_size] using this
  · simp [more_size]
theorem lset_int (s : St) (n : Int) (hn : 0 ≤ n ∧ n ≤ 31) (v : Nat) (x : Int) (hx : x = (v : Int)) (w : World) : Calls Try.prog 17 #[stV s, .int .i64 n, .int .u64 x] w (Gives w (stV (setX s n v))) := by
  obtain ⟨k, rfl⟩ : ∃ k : Nat, n = k := ⟨n.toNat, by omega⟩
  subst hx
  exact lset_any s k v (by omega) w
theorem setX_pc (s : St) (q : Int) (n : Int) (v : Nat) : setX { s with pc := q } n v = { setX s n v with pc := q } := by unfold setX; split <;> rfl
theorem setX_w (s : St) (x y : Int) (n : Int) (v : Nat) : setX { s with wa := x, wl := y } n v = { setX s n v with wa := x, wl := y } := by unfold setX; split <;> rfl
theorem setX_zc (s : St) (z c : Bool) (n : Int) (v : Nat) : setX { s with z := z, c := c } n v = { setX s n v with z := z, c := c } := by unfold setX; split <;> rfl
def nxI (s : St) (i : Ins) : Int := wrap64 (if takB s i then s.pc + i.imm else s.pc + 1)
section
variable (s : St) (i : Ins) (g0 g1 : Nat) (fits : Bool)
theorem nextS_eq : nextS s i g0 g1 fits = { bodyS s i g0 g1 fits with pc := nxI s i } := rfl
theorem nexts30 (h : i.op = 30) : nextS s i g0 g1 fits = { { s with pc := nxI s i } with wa := 0, wl := 0 } := by
  rw [nextS_eq]
  generalize nxI s i = q
  unfold bodyS
  rw [if_pos h]
theorem nexts_num (h : numB i.op = true) (h5 : i.op ≠ 5) : nextS s i g0 g1 fits = setX { s with pc := nxI s i } i.d (numI s i).toNat := by
  have h1 : 1 ≤ i.op ∧ i.op ≤ 12 := by simpa [numB] using h
  have h2 : meB i.op = false := by simp [meB]; omega
  rw [nextS_eq]
  generalize nxI s i = q
  unfold bodyS
  rw [if_neg (by omega), h2, h]
  simp only [h5, Bool.false_eq_true, if_false, if_true]
  exact (setX_pc s q _ _).symm
theorem nexts_five (h5 : i.op = 5) : nextS s i g0 g1 fits = { { setX { s with pc := nxI s i } i.d (numI s i).toNat with z := numI s i == 0 } with c := decide (getX s i.m ≤ getX s i.n) } := by
  have h2 : meB i.op = false := by simp [meB]; omega
  have h : numB i.op = true := by simp [numB]; omega
  rw [nextS_eq]
  generalize nxI s i = q
  unfold bodyS
  rw [if_neg (by omega), h2, h, if_pos h5]
  simp only [Bool.false_eq_true, if_false, if_true]
  rw [setX_pc s q, setX_zc s]
theorem nexts_still (h : numB i.op = false) (hm : meB i.op = false) (h30 : i.op ≠ 30) : nextS s i g0 g1 fits = { s with pc := nxI s i } := by
  rw [nextS_eq]
  generalize nxI s i = q
  unfold bodyS
  rw [if_neg h30, hm, h]
  simp
theorem op_mem {op : Int} (hm : meB op = true) : 17 ≤ op ∧ op ≤ 28 := by simpa [meB] using hm
theorem nexts_we (hm : meB i.op = true) (hw : wrB i.op = true) (hx : exB i.op = true) : nextS s i g0 g1 fits = setX { { s with pc := nxI s i } with wa := 0, wl := 0 } i.m (if fits then 0 else 1) := by
  have h1 := op_mem hm
  rw [nextS_eq]
  generalize nxI s i = q
  unfold bodyS accS
  rw [if_neg (by omega), hm, hw, hx]
  simp only [Bool.false_eq_true, if_false, if_true]
  rw [setX_w { s with pc := q }, setX_pc s q]
theorem nexts_w (hm : meB i.op = true) (hw : wrB i.op = true) (hx : exB i.op = false) : nextS s i g0 g1 fits = { s with pc := nxI s i } := by
  have h1 := op_mem hm
  rw [nextS_eq]
  generalize nxI s i = q
  unfold bodyS accS
  rw [if_neg (by omega), hm, hw, hx]
  simp
theorem nexts_p (hm : meB i.op = true) (hw : wrB i.op = false) (hp : paB i.op = true) : nextS s i g0 g1 fits = { setX (setX { s with pc := nxI s i } i.d g0) i.e g1 with wa := spanA s i, wl := lenI i } := by
  have h1 := op_mem hm
  rw [nextS_eq]
  generalize nxI s i = q
  unfold bodyS accS
  rw [if_neg (by omega), hm, hw, hp]
  simp only [Bool.false_eq_true, if_false, if_true]
  rw [setX_pc s q, setX_pc (setX s i.d g0) q]
theorem nexts_x (hm : meB i.op = true) (hw : wrB i.op = false) (hp : paB i.op = false) (hx : exB i.op = true) : nextS s i g0 g1 fits = { setX { s with pc := nxI s i } i.d (g0 &&& mask (8 * lenI i)) with wa := spanA s i, wl := lenI i } := by
  have h1 := op_mem hm
  rw [nextS_eq]
  generalize nxI s i = q
  unfold bodyS accS
  rw [if_neg (by omega), hm, hw, hp, hx]
  simp only [Bool.false_eq_true, if_false, if_true]
  rw [setX_pc s q]
theorem nexts_r (hm : meB i.op = true) (hw : wrB i.op = false) (hp : paB i.op = false) (hx : exB i.op = false) : nextS s i g0 g1 fits = setX { s with pc := nxI s i } i.d (g0 &&& mask (8 * lenI i)) := by
  have h1 := op_mem hm
  rw [nextS_eq]
  generalize nxI s i = q
  unfold bodyS accS
  rw [if_neg (by omega), hm, hw, hp, hx]
  simp only [Bool.false_eq_true, if_false, if_true]
  rw [setX_pc s q]
end
end Go.Proofs.Ytfijppclaahkmaa
