/- What the walk through Next needs: the world between its statements, its last steps. No condition. -/
import Derived.Test.YtfijppclaahkmaaFlowAcc
namespace Go.Proofs.Ytfijppclaahkmaa
open Go.RowKit Go.Sort
set_option linter.unusedVariables false
set_option linter.unusedSimpArgs false
theorem access_any (s : St) (i : Ins) (hf : Facts i) (hs : s.ok) (g0 g1 : Nat) (h0 : g0 < 18446744073709551616) (fits : Bool) (B : Nat) (w : World) (hS : StAt w B s) : Calls Try.prog 33 #[.pointer (some ⟨B, 0, none⟩), insV i, .agg #[.int .u64 (g0 : Nat), .int .u64 (g1 : Nat)], .bool fits] w
    fun e w' => e = .returned (.tuple #[]) ∧ Onto B w w' ∧ StAt w' B (accS s i g0 g1 fits) := by
  cases hw : wrB i.op
  · cases hp : paB i.op
    · cases hx : exB i.op
      · exact acc_n s i hf hs g0 g1 h0 fits hw hp hx B w hS
      · exact acc_x s i hf hs g0 g1 h0 fits hw hp hx B w hS
    · exact acc_p s i hf hs g0 g1 h0 fits hw hp B w hS
  · cases hx : exB i.op
    · exact acc_w s i hf hs g0 g1 h0 fits hw hx B w hS
    · exact acc_we s i hf hs g0 g1 h0 fits hw hx B w hS
theorem there_onto {B : Nat} {w w' : World} {b n : Nat} (h : w.there b 0 n) (hb : b < w.heap.size) (ho : Onto B w w') (hB : b ≠ B) : w'.there b 0 n := fun j hj => by
  rw [ho.cell hb hB, ho.frozen hb]
  exact h j hj
/-- the world between the statements of Next. -/
structure NextW (w wx : World) (s : St) (i : Ins) (g0 g1 : Nat) : Prop where
  st : StAt wx w.heap.size s
  ins : IAt wx (w.heap.size + 1) i
  got : Two wx (w.heap.size + 1 + 1) (.int .u64 (g0 : Nat)) (.int .u64 (g1 : Nat))
  res : wx.there (w.heap.size + 1 + 1 + 1) 0 36
  rlt : w.heap.size + 1 + 1 + 1 < wx.heap.size
  below : Below w.heap.size w wx
theorem NextW.onto {w wx wy : World} {s t : St} {i : Ins} {g0 g1 : Nat} (h : NextW w wx s i g0 g1) (ho : Onto w.heap.size wx wy) (ht : StAt wy w.heap.size t) : NextW w wy t i g0 g1 :=
  ⟨ht, h.ins.onto ho (by omega), h.got.onto ho (by omega), there_onto h.res h.rlt ho (by omega), Nat.lt_of_lt_of_le h.rlt ho.size, ho.under h.below (Nat.le_refl _)⟩
theorem NextW.more {w wx : World} {s : St} {i : Ins} {g0 g1 : Nat} (h : NextW w wx s i g0 g1) (p : Regrown) : NextW w (more wx p) s i g0 g1 := h.onto (Onto.refl.more p) (stat_more h.st p)
theorem there_new (w : World) (c : Array Value) (t : TypeId) : (w.alloc (.cells c t)).there w.heap.size 0 c.size := fun j hj => by
  rw [alloc_cell, alloc_frozen, if_neg (by omega), if_pos rfl, if_neg (by omega)]
  simp [hj]
theorem next_start (w : World) (s : St) (i : Ins) (g0 g1 : Nat) (c : Array Value) (hc : c.size = 36) : NextW w ((((w.alloc (.cells (stC s.f) 27)).alloc (.cells #[.int .i64 i.op, .int .i64 i.d, .int .i64 i.n, .int .i64 i.m, .int .i64 i.e, .int .i64 i.sz, .int .i64 i.imm] 29)).alloc (.cells #[.int .u64 (g0 : Nat), .int .u64 (g1 : Nat)] 30)).alloc (.cells c 27)) s i g0 g1 := by
  refine ⟨?_, ?_, ?_, ?_, ?_, ?_⟩
  · exact stat_alloc (stat_alloc (stat_alloc (st_new w s _) _) _) _
  · refine IAt.below (IAt.below (i_new2 (w.alloc (.cells (stC s.f) 27)) i 29 (w.heap.size + 1) (by simp)) (below_al (Below.refl _ _) _)) (below_al (Below.refl _ _) _)
  · unfold Two
    simp [alloc_cell]
  · have h := there_new (((w.alloc (.cells (stC s.f) 27)).alloc (.cells #[.int .i64 i.op, .int .i64 i.d, .int .i64 i.n, .int .i64 i.m, .int .i64 i.e, .int .i64 i.sz, .int .i64 i.imm] 29)).alloc (.cells #[.int .u64 (g0 : Nat), .int .u64 (g1 : Nat)] 30)) c 27
    rw [hc] at h
    simpa using h
  · simp
  · exact below_al (below_al (below_al (below_al (Below.refl _ _) _) _) _) _
theorem wp_letter {P : Program} {c : Code} {Q : Exit → Act → World → Prop} {a : Act} {wx : World} (R : World → Prop) (h : R wx) (k : ∀ wy, R wy → c.wp P Q a wy) : c.wp P Q a wx := k wx h
def stL (s : St) : List Value := (List.range 36).map s.f
theorem st_range {w : World} {B : Nat} {s : St} (h : StAt w B s) : w.rangeAt B 0 ((List.range 36).map s.f) := fun j v hv => by
  have hj : j < 36 := by
    have := (List.getElem?_eq_some_iff.1 hv).1
    simpa using this
  rw [List.getElem?_map, List.getElem?_range hj] at hv
  simp at hv
  subst hv
  rw [Nat.zero_add]
  exact (h j hj).1
theorem below_setCells {a : World} {b : Nat} (hb : a.heap.size ≤ b) : ∀ (vs : List Value) (o : Nat) (w : World), Below a.heap.size a w → Below a.heap.size a (w.setCells b o vs)
  | [], _, _, h => h
  | v :: r, o, w, h => below_setCells hb r (o + 1) _ (below_st h hb v)
theorem next_ret {Y : World} {r : Nat} {q : Int} {tmps : Array Value} {s : St} (hY : Y.there r 0 36) (h8 : tmps.getD 8 undef = .pointer (some ⟨r, 0, none⟩)) (h9 : tmps.getD 9 undef = .int .i64 q) :
    (results Try.f14 tmps).run Try.prog (Y.setCells r 0 (stL s)) = .ok (.tuple #[stV s, .int .i64 q]) (Y.setCells r 0 (stL s)) := by
  have hr : (World.setCells Y r 0 (stL s)).rangeAt r 0 (stL s) := World.rangeAt_setCells_same Y r 0 _ (by simpa [stL] using hY)
  have hl := run_loadVar_mid (P := Try.prog) (World.setCells Y r 0 (stL s)) r 0 27 (stL s) _ hr Try.underlying27 rfl (by simpa [stL] using info_st)
  have := res_cell_tmp (fn := Try.f14) (t := 9) (show Try.f14.results = #[.cell 8 27, .tmp 9] from rfl) h8 hl
  rw [h9] at this
  exact this
theorem wpList_build0 {ops : Array Oper} {rest : List Oper} {op : Oper} {a : Act} {w : World} {Q : Exit → Act → World → Prop} (hgd : op.guard = none) (ho : op.op = .build 27 #[])
    (h : wpList Try.prog ops Q rest (a.put op.dst (stV St.zero)) w) : wpList Try.prog ops Q (op :: rest) a w :=
  wpList_plain hgd fun K hK => by
    have e : ∀ W, (Instr.build 27 #[]).run Try.prog W = .ok (stV St.zero) W := fun W => by kernel_rfl
    unfold Oper.wp execOp
    simp only [ho, Array.map_empty, Array.mapM_empty, Sem.run_bind, Sem.run_pure, Result.andThen_ok, e]
    exact hK _ _ h
/-- a whole thread out of a block, into a block. -/
theorem wpList_load_st {ops : Array Oper} {rest : List Oper} {op : Oper} {a : Act} {w : World} {Q : Exit → Act → World → Prop} {s : St} {b : Nat} (x : Operand) (hgd : op.guard = none) (ho : op.op = .load 27 x) (hx : a.eval x = .pointer (some ⟨b, 0, none⟩)) (hS : StAt w b s)
    (h : wpList Try.prog ops Q rest (a.put op.dst (stV s)) w) : wpList Try.prog ops Q (op :: rest) a w :=
  wpList_load_mid hgd 27 x ho b 0 hx ((List.range 36).map s.f) _ (st_range hS) Try.underlying27 rfl (by simpa using info_st) h
theorem wpList_store_st {ops : Array Oper} {rest : List Oper} {op : Oper} {a : Act} {w : World} {Q : Exit → Act → World → Prop} {s : St} {b : Nat} (x y : Operand) (hgd : op.guard = none) (ho : op.op = .store 27 x y) (hx : a.eval x = .pointer (some ⟨b, 0, none⟩)) (hy : a.eval y = stV s) (ht : w.there b 0 36)
    (h : wpList Try.prog ops Q rest (a.put op.dst undef) (w.setCells b 0 (stL s))) : wpList Try.prog ops Q (op :: rest) a w := by
  refine wpList_store_mid hgd 27 x y ho b 0 (stC s.f) hx hy (by rw [stC_size]; exact ht) (by rw [stC_size]; exact info_st) (stC_one s) ?_
  exact h
theorem u64_in (x : Int) : 0 ≤ IntKind.u64.wrap x ∧ IntKind.u64.wrap x < 18446744073709551616 := by
  rw [IntKind.wrap_u64]
  omega
def inU (y : Int) : Prop := 0 ≤ y ∧ y < 18446744073709551616
theorem inU_ite (c : Prop) [Decidable c] {a b : Int} (h1 : inU a) (h2 : inU b) : inU (if c then a else b) := by
  by_cases h : c
  · rw [if_pos h]; exact h1
  · rw [if_neg h]; exact h2
theorem num_ok (s : St) (i : Ins) (hf : Facts i) (hs : s.ok) : 0 ≤ numI s i ∧ numI s i < 18446744073709551616 := by
  have gn := getX_lt hs i.n
  have gm := getX_lt hs i.m
  have gd := getX_lt hs i.d
  have hput := putN_lt (getX s i.d) (16 * i.e) 16 i.imm.toNat gd
  show inU (numI s i)
  unfold numI
  repeat' (with_reducible refine inU_ite _ ?_ ?_)
  all_goals unfold inU
  all_goals first
    | exact u64_in _
    | omega
    | skip
  · have h1 : (0 : Int) ≤ (getX s i.n : Int) / 2 ^ ((getX s i.m : Int) % 64).toNat := Int.ediv_nonneg (by omega) (Int.le_of_lt (Int.pow_pos (by omega)))
    have h2 : (getX s i.n : Int) / 2 ^ ((getX s i.m : Int) % 64).toNat ≤ (getX s i.n : Int) := Int.ediv_le_self _ (by omega)
    omega
/-- what Next makes of a thread. -/
def bodyS (s : St) (i : Ins) (g0 g1 : Nat) (fits : Bool) : St :=
  if i.op = 30 then { s with wa := 0, wl := 0 }
  else if meB i.op then accS s i g0 g1 fits
  else if numB i.op then setX (if i.op = 5 then { s with z := numI s i == 0, c := decide (getX s i.m ≤ getX s i.n) } else s) i.d (numI s i).toNat
  else s
def nextS (s : St) (i : Ins) (g0 g1 : Nat) (fits : Bool) : St := { bodyS s i g0 g1 fits with pc := wrap64 (if takB s i then s.pc + i.imm else s.pc + 1) }
end Go.Proofs.Ytfijppclaahkmaa
