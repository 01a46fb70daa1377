/- A variable more, on plain data; rows of variables, cell by cell; variables and one more that came in. No condition. Walk: the statement WorldMore, as far as both answers. Conditions: what came in lies in memory, and a row of as many variables fits. Walk: the statement WorldMore, ahead of no variable. Conditions: what came in lies in memory. Walk: the statement WorldMore; variables and one more that came in, at one level. Conditions: what came in lies in memory, and a row of as many variables fits. The statement 'WorldMore' of the program's functions holds: for every input the call returns true, and each argument reads afterwards as it did. No condition. -/
import Derived.Test.YtlbkloamabomcaaWldLawMaps
import Derived.Maps.AppendAt
import Derived.Deep.AppendLies
import Derived.Deep.RegionLaw
import Derived.Deep.Upon
import Derived.Test.YtlbkloamabomcaaRows
import Derived.Test.YtlbkloamabomcaaLawKit
namespace Go.Proofs.Ytlbkloamabomcaa
open Go.RowKit Go.Sort
set_option linter.unusedVariables false
set_option linter.unusedSimpArgs false
section
variable {n : Nat}
theorem get_app (l : List (Vr n)) (x : Vr n) {k : Nat} (h : k < l.length) : (l ++ [x])[k]? = l[k]? := List.getElem?_append_left h
theorem atK_app (l : List (Vr n)) (x : Vr n) : ∀ k, k ≤ l.length → atK (l ++ [x]) k = atK l k
  | 0, _ => rfl
  | k + 1, h => by
    obtain ⟨v, hv⟩ := get_some l k (by omega)
    rw [atK_succ l hv, atK_succ (l ++ [x]) (by rw [get_app l x (by omega)]; exact hv), atK_app l x k (by omega)]
theorem glK_app (l : List (Vr n)) (x : Vr n) : ∀ k, k ≤ l.length → glK (l ++ [x]) k = glK l k
  | 0, _ => rfl
  | k + 1, h => by
    obtain ⟨v, hv⟩ := get_some l k (by omega)
    rw [glK_succ l hv, glK_succ (l ++ [x]) (by rw [get_app l x (by omega)]; exact hv), glK_app l x k (by omega), atK_app l x k (by omega)]
theorem errF_app : ∀ (l : List (Vr n)) (x : Vr n), errF l ≠ 0 → errF (l ++ [x]) = errF l
  | [], x, h => absurd rfl h
  | v :: l, x, h => by
    show (if checkF n v.type ≠ 0 then checkF n v.type else errF (l ++ [x])) = (if checkF n v.type ≠ 0 then checkF n v.type else errF l)
    have h' : (if checkF n v.type ≠ 0 then checkF n v.type else errF l) ≠ 0 := h
    split
    · rfl
    · rename_i h9
      rw [if_neg h9] at h'
      exact errF_app l x h'
/-- where one variable more may lie, the others may. -/
theorem worldE_app (l : List (Vr n)) (x : Vr n) (h : worldE (l ++ [x]) = 0) : worldE l = 0 := by
  obtain ⟨hok, hA⟩ := worldE_zero (l ++ [x]) h
  have hok2 : ∀ (j : Nat) u, l[j]? = some u → checkF n u.type = 0 := fun j u hu => hok j u (by rw [get_app l x (List.getElem?_eq_some_iff.1 hu).1]; exact hu)
  have hE := errF_ok l hok2
  unfold worldE
  rw [if_neg (by simp [hE])]
  have h1 := atK_pre (l ++ [x]) hok hA l.length (by simp)
  rw [atK_app l x _ (Nat.le_refl _)] at h1
  rw [if_neg (by omega)]
/-- what the statement asks of both. -/
theorem more_at (l : List (Vr n)) (x : Vr n) (h : worldE (l ++ [x]) = 0) : atK (l ++ [x]) (l.length + 1) = stW (atK l l.length) (vF x) + (vF x).1 ∧ atK l l.length ≤ stW (atK l l.length) (vF x) ∧ stW (atK l l.length) (vF x) ≤ 65536 ∧ 0 ≤ (vF x).1 ∧ 0 ≤ atK l l.length ∧ (glK (l ++ [x]) (l.length + 1))[l.length]? = some (Gl.mk x.name (65536 + stW (atK l l.length) (vF x)) (vF x).1) ∧ ∀ (i : Nat) g, (glK l l.length)[i]? = some g → (glK (l ++ [x]) (l.length + 1))[i]? = some g := by
  obtain ⟨hok, hA⟩ := worldE_zero (l ++ [x]) h
  have hx : (l ++ [x])[l.length]? = some x := by simp
  have hc := hok l.length x hx
  have hst := st_eq (l ++ [x]) hok hA l.length x hx
  have ha := atK_app l x l.length (Nat.le_refl _)
  rw [ha] at hst
  have hg := glK_get (l ++ [x]) (l.length + 1) (by simp) l.length x (by omega) hx
  rw [ha] at hg
  have hb := atK_bound l l.length (fun j u hj hu => hok j u (by rw [get_app l x hj]; exact hu))
  refine ⟨by rw [atK_succ _ hx, ha], hst.2.1, hst.2.2, (vF_ok hc).1, hb.1, hg, fun i g hi => ?_⟩
  have hl := glK_len l l.length (Nat.le_refl _)
  have hil : i < l.length := by rw [← hl]; exact (List.getElem?_eq_some_iff.1 hi).1
  rw [glK_succ _ hx, glK_app l x _ (Nat.le_refl _), List.getElem?_append_left (by omega)]
  exact hi
/-- cells of variables. -/
def VLay (w : World) (l : List (Vr n)) (L : List Value) : Prop := ∀ (i : Nat) v, l[i]? = some v → ∃ q : Raw, TyAt w n v.type q ∧ v.name.size ≤ 9223372036854775807 ∧
  L[i * 7]? = some (.string v.name) ∧ L[i * 7 + 1]? = some (.int .i64 q.kind) ∧ L[i * 7 + 2]? = some (.int .i64 q.size) ∧
  L[i * 7 + 3]? = some (.bool q.packed) ∧ L[i * 7 + 4]? = some (.slice q.fa q.fl q.fc) ∧ L[i * 7 + 5]? = some (.int .i64 q.count) ∧ L[i * 7 + 6]? = some (.slice q.ea q.el q.ec)
theorem vlay_of {w : World} : ∀ (l : List (Vr n)) (b off : Nat), (∀ (i : Nat) v, l[i]? = some v → VrAt w v b (off + i * 7)) → ∃ L : List Value, L.length = 7 * l.length ∧ (∀ u ∈ L, u.oneCell' = true) ∧ (∀ j u, L[j]? = some u → w.cell? ⟨b, off + j, none⟩ = some u) ∧ VLay w l L
  | [], b, off, h => ⟨[], rfl, by simp, by simp, fun i f hi => by simp at hi⟩
  | v :: l, b, off, h => by
    obtain ⟨L, l1, l2, l3, l4⟩ := vlay_of l b (off + 7) (fun i g hi => by
      have := h (i + 1) g (by simpa using hi)
      have e : off + (i + 1) * 7 = off + 7 + i * 7 := by omega
      rw [e] at this
      exact this)
    obtain ⟨q, hq, hn, c0, c1, c2, c3, c4, c5, c6⟩ := h 0 v rfl
    simp only [Nat.zero_mul, Nat.add_zero] at c0 c1 c2 c3 c4 c5 c6
    refine ⟨[.string v.name, .int .i64 q.kind, .int .i64 q.size, .bool q.packed, .slice q.fa q.fl q.fc, .int .i64 q.count, .slice q.ea q.el q.ec] ++ L, by simp [l1]; omega, ?_, ?_, ?_⟩
    · intro u hu
      rcases List.mem_append.mp hu with hu | hu
      · simp at hu
        rcases hu with rfl | rfl | rfl | rfl | rfl | rfl | rfl <;> rfl
      · exact l2 u hu
    · intro j u hj
      match j, hj with
      | 0, hj => simp at hj; subst hj; exact c0
      | 1, hj => simp at hj; subst hj; exact c1
      | 2, hj => simp at hj; subst hj; exact c2
      | 3, hj => simp at hj; subst hj; exact c3
      | 4, hj => simp at hj; subst hj; exact c4
      | 5, hj => simp at hj; subst hj; exact c5
      | 6, hj => simp at hj; subst hj; exact c6
      | j + 7, hj =>
        have := l3 j u (by simpa using hj)
        have e : off + (j + 7) = off + 7 + j := by omega
        rw [e]
        exact this
    · intro i g hi
      match i, hi with
      | 0, hi =>
        obtain rfl : v = g := by simpa using hi
        exact ⟨q, hq, hn, rfl, rfl, rfl, rfl, rfl, rfl, rfl⟩
      | i + 1, hi =>
        obtain ⟨q, hq⟩ := l4 i g (by simpa using hi)
        refine ⟨q, ?_⟩
        have e : (i + 1) * 7 = i * 7 + 7 := by omega
        simp only [e]
        simpa [Nat.add_right_comm] using hq
/-- a variable more behind them. -/
def vCs (x : Vr n) (q : Raw) : List Value := [.string x.name, .int .i64 q.kind, .int .i64 q.size, .bool q.packed, .slice q.fa q.fl q.fc, .int .i64 q.count, .slice q.ea q.el q.ec]
theorem VLay.snoc {w : World} {l : List (Vr n)} {L : List Value} (h : VLay w l L) (hl : L.length = 7 * l.length) {x : Vr n} {q : Raw} (hq : TyAt w n x.type q) (hn : x.name.size ≤ 9223372036854775807) : VLay w (l ++ [x]) (L ++ vCs x q) := by
  intro i v hi
  rcases Nat.lt_or_ge i l.length with h1 | h1
  · rw [List.getElem?_append_left h1] at hi
    obtain ⟨q2, hq2, hn2, c0, c1, c2, c3, c4, c5, c6⟩ := h i v hi
    refine ⟨q2, hq2, hn2, ?_, ?_, ?_, ?_, ?_, ?_, ?_⟩
    all_goals (rw [List.getElem?_append_left (by omega)]; assumption)
  · have hil : i < (l ++ [x]).length := (List.getElem?_eq_some_iff.1 hi).1
    simp at hil
    obtain rfl : i = l.length := by omega
    have : v = x := by simpa using hi.symm
    subst this
    refine ⟨q, hq, hn, ?_, ?_, ?_, ?_, ?_, ?_, ?_⟩
    all_goals (rw [List.getElem?_append_right (by omega)])
    · rw [show l.length * 7 - L.length = 0 by omega]; rfl
    · rw [show l.length * 7 + 1 - L.length = 1 by omega]; rfl
    · rw [show l.length * 7 + 2 - L.length = 2 by omega]; rfl
    · rw [show l.length * 7 + 3 - L.length = 3 by omega]; rfl
    · rw [show l.length * 7 + 4 - L.length = 4 by omega]; rfl
    · rw [show l.length * 7 + 5 - L.length = 5 by omega]; rfl
    · rw [show l.length * 7 + 6 - L.length = 6 by omega]; rfl
theorem VLay.at {w W : World} {l : List (Vr n)} {L : List Value} (h : VLay w l L) {g : Nat} (hb : Below w.heap.size w W) (hc : ∀ j, j < 7 * l.length → W.cell? ⟨g, j, none⟩ = L[j]?) : ∀ (i : Nat) v, l[i]? = some v → VrAt W v g (0 + i * 7) := by
  intro i v hi
  have hlt : i < l.length := (List.getElem?_eq_some_iff.1 hi).1
  obtain ⟨q, hq, hn, c0, c1, c2, c3, c4, c5, c6⟩ := h i v hi
  simp only [Nat.zero_add]
  exact ⟨q, hq.below hb, hn, (hc _ (by omega)).trans c0, (hc _ (by omega)).trans c1, (hc _ (by omega)).trans c2, (hc _ (by omega)).trans c3, (hc _ (by omega)).trans c4, (hc _ (by omega)).trans c5, (hc _ (by omega)).trans c6⟩
end
end Go.Proofs.Ytlbkloamabomcaa
namespace Go.Proofs.Ytlbkloamabomcaa
open Go.RowKit Go.Sort
set_option linter.unusedVariables false
set_option linter.unusedSimpArgs false
theorem vr_info : (Try.prog.info? 73).map (fun i => (i.zero, i.size, i.bytes)) = some (some (.agg #[.string .empty, .int .i64 0, .int .i64 0, .bool false, .slice none 0 0, .int .i64 0, .slice none 0 0]), 7, 96) := by kernel_rfl
theorem step_append_more {P : Program} {ops : Array Oper} {o : Oper} {a : Act} {w : World} {K : Act → World → Prop} {Q : Exit → Act → World → Prop} {E : Prop} (hgd : o.guard = none) (s x : Operand) (t : TypeId)
    (ho : o.op = .call { callee := .builtin .append, args := #[s, x], argTypes := #[t, t] })
    (base : Nat) (e : TypeId) (i : TypeInfo) (z : Value) (size bytes : Nat) (ht : P.underlying t = some (.slice e)) (hi : P.info? e = some i) (hz : i.zero = some z)
    (hsize : i.size = size) (hby : i.bytes = bytes) (hzs : z.cells.size = size) (hsz : 0 < size)
    (v : Value) (n : Nat) (xs : List Value) (hs : a.eval s = v) (hown : w.ownsRow base e size v n xs)
    (ad : Addr) (m c : Nat) (news : List Value) (hx : a.eval x = .slice (some ad) m c) (hl : news.length = m * size) (hnews : ∀ j u, news[j]? = some u → w.cell? (ad.add j) = some u) (h1 : ∀ u ∈ news, u.oneCell' = true)
    (hm : 0 < n + m) (h63 : n + m ≤ maxLen) (hbytes : (n + m) * bytes ≤ 140737488355328) (hbase : base ≤ w.heap.size)
    (h : ∀ g cap w', w'.ownsRow base e size (.slice (some ⟨g, 0, none⟩) (n + m) cap) (n + m) (xs ++ news) → w.grownBy w' v.ownBlock → g < w'.heap.size → K (a.put o.dst (.slice (some ⟨g, 0, none⟩) (n + m) cap)) w') :
    if Region.wanted o (yielded ops a.tmps) = true then Oper.wp P o a w K Q else E := by
  have hw : Region.wanted o (yielded ops a.tmps) = true := by simp [Region.wanted, hgd]
  rw [if_pos hw]
  obtain ⟨v', w', hr, h2, h3, _, h5⟩ := run_append_own_at (P := P) w base t o.type e i z size bytes ht hi hz hsize hby hzs hsz v n xs hown ad m c news hl hnews h1 h63 hbytes hbase
  obtain ⟨g, cap, rfl, _, hlt⟩ := h2.form (by omega)
  unfold Oper.wp execOp
  simp only [ho, resolve, invoke, builtin, Sem.run_bind, Sem.run_pure, Result.andThen_ok, List.map_toArray, List.map_cons, List.map_nil, hs, hx, hr]
  exact h g cap w' h2 h3 hlt
section
variable {n : Nat}
/-- what Map gives back, where it fails and where it does not. -/
def MapX (l : List (Vr n)) (W : World) (e : Ending) (w' : World) : Prop := ∃ (ad : Option Addr) (m c : Nat) (N : Int), e = .returned (.tuple #[.slice ad m c, .int .i64 N, .int .i64 (worldE l)]) ∧ (worldE l = 0 → m = l.length ∧ N = atK l l.length ∧ GlRow w' l ad c) ∧ ∃ p : Regrown, w' = more W p
theorem map_x (l : List (Vr n)) (a : Option Addr) (c : Nat) (W : World) (hV : VrsAt W l a c) (hr : l.length * 32 ≤ 140737488355328) : Calls Try.prog 21 #[.slice a l.length c] W (MapX l W) := by
  by_cases hE : worldE l = 0
  · refine (map_yes l a c W W hV hr hE (Below.refl _ _)).mono fun e w' h => ?_
    obtain ⟨ad, cg, rfl, h2, h3⟩ := h.row
    exact ⟨ad, l.length, cg, atK l l.length, by rw [hE], fun _ => ⟨rfl, rfl, h2⟩, h3⟩
  · refine (map_no l a c W W hV hr hE (Below.refl _ _)).mono fun e w' h => ?_
    obtain ⟨rfl, hp⟩ := h
    exact ⟨none, 0, 0, 0, rfl, fun h => absurd h hE, hp⟩
theorem row_vrs {W : World} {base g m cap : Nat} {l : List (Vr n)} {L : List Value} {w : World} (hL : VLay w l L) (hl : L.length = 7 * l.length) (hm : m = l.length) (hb : Below w.heap.size w W) (h : W.ownsRow base 73 7 (.slice (some ⟨g, 0, none⟩) m cap) m L) : VrsAt W l (some ⟨g, 0, none⟩) cap := by
  subst hm
  have hc := fun j hj => World.ownsRow.cellAt h j hj
  rcases h.2 with ⟨h0, _⟩ | ⟨g', cap', cur, hv, hb2, hh, h1, h2, _⟩
  · cases h0
  · cases hv
    refine ⟨h1, by unfold maxLen at h2; omega, fun _ => ⟨g, 0, rfl, ?_, VLay.at hL hb (fun j hj => hc j (by omega))⟩⟩
    rcases Nat.lt_or_ge g W.heap.size with h | h
    · exact h
    · rw [Array.getElem?_eq_none h] at hh; cases hh
set_option maxRecDepth 100000 in
set_option maxHeartbeats 12800000 in
theorem worldMore_some (l : List (Vr n)) (b off c : Nat) (w : World) (hV : VrsAt w l (some ⟨b, off, none⟩) c) (hb : b < w.heap.size) (hvs : ∀ (i : Nat) v, l[i]? = some v → VrAt w v b (off + i * 7)) (hl0 : 0 < l.length) (hr : l.length * 96 ≤ 140737488351232) (x : Vr n) (q : Raw) (hq : TyAt w n x.type q) (hn : x.name.size ≤ 9223372036854775807) :
    Calls Try.prog 11 #[.slice (some ⟨b, off, none⟩) l.length c, .agg #[.string x.name, .int .i64 q.kind, .int .i64 q.size, .bool q.packed, .slice q.fa q.fl q.fc, .int .i64 q.count, .slice q.ea q.el q.ec]] w (Gives w (.bool true)) := by
  have AW := Lib.hid awakeW_any
  have MX := Lib.hid (fun W (hW : Below w.heap.size w W) => map_x l (some ⟨b, off, none⟩) c W (hV.below hW) (by omega))
  have hc1 := hV.1
  have hc2 := hV.2.1
  obtain ⟨L, l1, l2, l3, l4⟩ := vlay_of l b off hvs
  have l5 := l4.snoc l1 hq hn
  have MX2 : Hid (∀ (W : World) (g cap : Nat), Below w.heap.size w W → W.ownsRow w.heap.size 73 7 (.slice (some ⟨g, 0, none⟩) (0 + l.length + 1) cap) (0 + l.length + 1) ([] ++ L ++ vCs x q) → Calls Try.prog 21 #[.slice (some ⟨g, 0, none⟩) (l.length + 1) cap] W (MapX (l ++ [x]) W)) := Lib.hid (fun W g cap hW ho => by
    have hl7 : (L ++ vCs x q).length = 7 * (l ++ [x]).length := by simp [l1, vCs]; omega
    have h1 := row_vrs (m := 0 + l.length + 1) l5 hl7 (by simp) hW (by rw [List.nil_append] at ho; exact ho)
    have := map_x (l ++ [x]) (some ⟨g, 0, none⟩) cap W h1 (by simp; omega)
    rw [show (l ++ [x]).length = l.length + 1 by simp] at this
    exact this)
  have HL1 := l1
  have HL2 := Lib.hid l2
  have HL3 := Lib.hid l3
  obtain ⟨i0, hi0, hz0, hz1, hz2⟩ := info_parts vr_info
  clear hV hvs l3 l4 l5 l2
  have hxc : Hid (vCs x q = [.string x.name, .int .i64 q.kind, .int .i64 q.size, .bool q.packed, .slice q.fa q.fl q.fc, .int .i64 q.count, .slice q.ea q.el q.ec]) := Lib.hid rfl
  generalize hvc : vCs x q = VC at *
  clear hvc hq
  obtain ⟨qk, qs, qp, qfa, qfl, qfc, qc, qea, qel, qec⟩ := q
  simp only at hxc
  generalize hxn : x.name = xn at *
  go_enter Try.func11, Try.ntmps11
  go_upto_region 2 with (go_at_call 21; refine (MX.out _ (by repeat (first | with_reducible exact Below.refl _ _ | with_reducible refine below_mo ?_ _ | with_reducible refine below_al ?_ _))).mono ?_; rintro e w1 ⟨ad, m, cg, N1, rfl, hg, p1, rfl⟩; have HG1 := Lib.hid hg; clear hg)
  refine wp_letter (R := fun W => Below w.heap.size w W ∧ (worldE l = 0 → m = l.length ∧ N1 = atK l l.length ∧ GlRow W l ad cg) ∧ (W.cell? ⟨w.heap.size, 0, none⟩ = some (.string xn) ∧ W.cell? ⟨w.heap.size, 1, none⟩ = some (.int .i64 qk) ∧ W.cell? ⟨w.heap.size, 2, none⟩ = some (.int .i64 qs) ∧ W.cell? ⟨w.heap.size, 3, none⟩ = some (.bool qp) ∧ W.cell? ⟨w.heap.size, 4, none⟩ = some (.slice qfa qfl qfc) ∧ W.cell? ⟨w.heap.size, 5, none⟩ = some (.int .i64 qc) ∧ W.cell? ⟨w.heap.size, 6, none⟩ = some (.slice qea qel qec))) ?letA ?_
  case letA =>
    refine ⟨by repeat (first | with_reducible exact Below.refl _ _ | with_reducible refine below_mo ?_ _ | with_reducible refine below_al ?_ _), HG1.out, ?_, ?_, ?_, ?_, ?_, ?_, ?_⟩
    all_goals (simp [go_sem, ↓IntWalk.iteOmega]; done)
  rintro wA ⟨hA, hgA, x0, x1, x2, x3, x4, x5, x6⟩
  have HA := Lib.hid hA
  have HGA := Lib.hid hgA
  have hbs := hA.size
  have hlX := cell_lt2 x0
  clear hA hgA HG1 MX
  have hbA : b < wA.heap.size := by omega
  have HLA : Hid (∀ (j : Nat) (u : Value), L[j]? = some u → wA.cell? ⟨b, off + j, none⟩ = some u) := Lib.hid (fun j u hj => (HA.out.cell (p := ⟨b, off + j, none⟩) hb).trans (HL3.out j u hj))
  have hVC7 : VC.length = 1 * 7 := by rw [hxc.out]; rfl
  have HVC1 : Hid (∀ u ∈ VC, u.oneCell' = true) := Lib.hid (by rw [hxc.out]; intro u hu; simp at hu; rcases hu with rfl | rfl | rfl | rfl | rfl | rfl | rfl <;> rfl)

  have HBA : Hid (Below wA.heap.size wA (wA.drew.alloc (.cells #[] 73))) := Lib.hid (by repeat (first | with_reducible exact Below.refl _ _ | with_reducible refine below_dr ?_ | with_reducible refine below_al ?_ _))
  have HOA : Hid ((wA.drew.alloc (.cells #[] 73)).ownsRow wA.heap.size 73 7 (.slice (some ⟨wA.heap.size, 0, none⟩) 0 0) 0 []) := Lib.hid (by
    have h := World.ownsRow_lit (base := wA.heap.size) (e := 73) (size := 7) wA.drew #[] 0 (Nat.le_refl _) (by simp [maxLen]) rfl
    simpa [go_sem] using h)
  have HNA : Hid (∀ (j : Nat) (u : Value), L[j]? = some u → (wA.drew.alloc (.cells #[] 73)).cell? ((⟨b, off, none⟩ : Addr).add j) = some u) := Lib.hid (fun j u hj => by rw [WideShapes.add_plain]; exact (HBA.out.cell (p := ⟨b, off + j, none⟩) hbA).trans (HLA.out j u hj))
  have hzA : wA.heap.size ≤ (wA.drew.alloc (.cells #[] 73)).heap.size := HBA.out.size
  have HBB : Hid (Below wA.heap.size wA ((wA.drew.alloc (.cells #[] 73)).alloc (.cells #[.string xn, .int .i64 qk, .int .i64 qs, .bool qp, .slice qfa qfl qfc, .int .i64 qc, .slice qea qel qec] 73))) := Lib.hid (by repeat (first | with_reducible exact Below.refl _ _ | with_reducible refine below_dr ?_ | with_reducible refine below_al ?_ _))
  have HOB : Hid (((wA.drew.alloc (.cells #[] 73)).alloc (.cells #[.string xn, .int .i64 qk, .int .i64 qs, .bool qp, .slice qfa qfl qfc, .int .i64 qc, .slice qea qel qec] 73)).ownsRow wA.heap.size 73 7 (.slice (some ⟨wA.heap.size, 0, none⟩) 0 0) 0 []) := Lib.hid (by
    have h := (World.ownsRow_lit (base := wA.heap.size) (e := 73) (size := 7) wA.drew #[] 0 (Nat.le_refl _) (by simp [maxLen]) rfl).alloc (.cells #[.string xn, .int .i64 qk, .int .i64 qs, .bool qp, .slice qfa qfl qfc, .int .i64 qc, .slice qea qel qec] 73)
    simpa [go_sem] using h)
  have HNB : Hid (∀ (j : Nat) (u : Value), L[j]? = some u → ((wA.drew.alloc (.cells #[] 73)).alloc (.cells #[.string xn, .int .i64 qk, .int .i64 qs, .bool qp, .slice qfa qfl qfc, .int .i64 qc, .slice qea qel qec] 73)).cell? ((⟨b, off, none⟩ : Addr).add j) = some u) := Lib.hid (fun j u hj => by rw [WideShapes.add_plain]; exact (HBB.out.cell (p := ⟨b, off + j, none⟩) hbA).trans (HLA.out j u hj))
  have hzB : wA.heap.size ≤ ((wA.drew.alloc (.cells #[] 73)).alloc (.cells #[.string xn, .int .i64 qk, .int .i64 qs, .bool qp, .slice qfa qfl qfc, .int .i64 qc, .slice qea qel qec] 73)).heap.size := HBB.out.size
  have HBC : Hid (Below wA.heap.size wA ((wA.drew.alloc (.cells #[.string xn, .int .i64 qk, .int .i64 qs, .bool qp, .slice qfa qfl qfc, .int .i64 qc, .slice qea qel qec] 73)).alloc (.cells #[] 73))) := Lib.hid (by repeat (first | with_reducible exact Below.refl _ _ | with_reducible refine below_dr ?_ | with_reducible refine below_al ?_ _))
  have HOC : Hid (((wA.drew.alloc (.cells #[.string xn, .int .i64 qk, .int .i64 qs, .bool qp, .slice qfa qfl qfc, .int .i64 qc, .slice qea qel qec] 73)).alloc (.cells #[] 73)).ownsRow wA.heap.size 73 7 (.slice (some ⟨(wA.heap.size + 1), 0, none⟩) 0 0) 0 []) := Lib.hid (by
    have h := World.ownsRow_lit (base := wA.heap.size) (e := 73) (size := 7) (wA.drew.alloc (.cells #[.string xn, .int .i64 qk, .int .i64 qs, .bool qp, .slice qfa qfl qfc, .int .i64 qc, .slice qea qel qec] 73)) #[] 0 (by simp) (by simp [maxLen]) rfl
    simpa [go_sem] using h)
  have HNC : Hid (∀ (j : Nat) (u : Value), L[j]? = some u → ((wA.drew.alloc (.cells #[.string xn, .int .i64 qk, .int .i64 qs, .bool qp, .slice qfa qfl qfc, .int .i64 qc, .slice qea qel qec] 73)).alloc (.cells #[] 73)).cell? ((⟨b, off, none⟩ : Addr).add j) = some u) := Lib.hid (fun j u hj => by rw [WideShapes.add_plain]; exact (HBC.out.cell (p := ⟨b, off + j, none⟩) hbA).trans (HLA.out j u hj))
  have hzC : wA.heap.size ≤ ((wA.drew.alloc (.cells #[.string xn, .int .i64 qk, .int .i64 qs, .bool qp, .slice qfa qfl qfc, .int .i64 qc, .slice qea qel qec] 73)).alloc (.cells #[] 73)).heap.size := HBC.out.size
  have HVB : Hid (∀ (j : Nat) (u : Value), VC[j]? = some u → ((wA.drew.alloc (.cells #[] 73)).alloc (.cells #[.string xn, .int .i64 qk, .int .i64 qs, .bool qp, .slice qfa qfl qfc, .int .i64 qc, .slice qea qel qec] 73)).cell? ⟨(wA.heap.size + 1), j, none⟩ = some u) := Lib.hid (by
    rw [hxc.out]
    intro j u hj
    match j, hj with
    | 0, hj => cases hj; simp [go_sem, ↓IntWalk.iteOmega]
    | 1, hj => cases hj; simp [go_sem, ↓IntWalk.iteOmega]
    | 2, hj => cases hj; simp [go_sem, ↓IntWalk.iteOmega]
    | 3, hj => cases hj; simp [go_sem, ↓IntWalk.iteOmega]
    | 4, hj => cases hj; simp [go_sem, ↓IntWalk.iteOmega]
    | 5, hj => cases hj; simp [go_sem, ↓IntWalk.iteOmega]
    | 6, hj => cases hj; simp [go_sem, ↓IntWalk.iteOmega]
    | j + 7, hj => simp at hj)
  have HVC : Hid (∀ (j : Nat) (u : Value), VC[j]? = some u → ((wA.drew.alloc (.cells #[.string xn, .int .i64 qk, .int .i64 qs, .bool qp, .slice qfa qfl qfc, .int .i64 qc, .slice qea qel qec] 73)).alloc (.cells #[] 73)).cell? ⟨wA.heap.size, j, none⟩ = some u) := Lib.hid (by
    rw [hxc.out]
    intro j u hj
    match j, hj with
    | 0, hj => cases hj; simp [go_sem, ↓IntWalk.iteOmega]
    | 1, hj => cases hj; simp [go_sem, ↓IntWalk.iteOmega]
    | 2, hj => cases hj; simp [go_sem, ↓IntWalk.iteOmega]
    | 3, hj => cases hj; simp [go_sem, ↓IntWalk.iteOmega]
    | 4, hj => cases hj; simp [go_sem, ↓IntWalk.iteOmega]
    | 5, hj => cases hj; simp [go_sem, ↓IntWalk.iteOmega]
    | 6, hj => cases hj; simp [go_sem, ↓IntWalk.iteOmega]
    | j + 7, hj => simp at hj)
  have hb1 : (0 + l.length) * 96 ≤ 140737488355328 := by omega
  have hb2 : (0 + l.length + 1) * 96 ≤ 140737488355328 := by omega
  have hm1 : 0 + l.length ≤ maxLen := by unfold maxLen; omega
  have hm2 : 0 + l.length + 1 ≤ maxLen := by unfold maxLen; omega
  have hL7 : L.length = l.length * 7 := by omega
  clear HL3 HLA HL1 l1
  go_region_law (first
    | (refine step_append_more rfl (.tmp 19) (.tmp 20) 53 rfl wA.heap.size 73 i0 _ 7 96 Try.underlying53 hi0 hz0 hz1 hz2 rfl (by decide) (.slice (some ⟨wA.heap.size, 0, none⟩) 0 0) 0 [] (by simp [Act.eval, Act.put]; done) HOA.out ⟨b, off, none⟩ l.length c L (by simp [Act.eval, Act.put]; done) hL7 HNA.out HL2.out (by omega) hm1 hb1 hzA ?_; intro g cap w1 hown1 hgrow1 hlt1; have HB1 := Lib.hid (own_below HBA.out HOA.out hgrow1 (Nat.le_refl _)); have HO1 := Lib.hid hown1; have k0 := (HB1.out.cell (p := ⟨w.heap.size, 0, none⟩) hlX).trans x0; have k1 := (HB1.out.cell (p := ⟨w.heap.size, 1, none⟩) hlX).trans x1; have k2 := (HB1.out.cell (p := ⟨w.heap.size, 2, none⟩) hlX).trans x2; have k3 := (HB1.out.cell (p := ⟨w.heap.size, 3, none⟩) hlX).trans x3; have k4 := (HB1.out.cell (p := ⟨w.heap.size, 4, none⟩) hlX).trans x4; have k5 := (HB1.out.cell (p := ⟨w.heap.size, 5, none⟩) hlX).trans x5; have k6 := (HB1.out.cell (p := ⟨w.heap.size, 6, none⟩) hlX).trans x6; have hs1 := HB1.out.size; clear hown1 hgrow1)
    | (refine step_append_more rfl (.tmp 19) (.tmp 20) 53 rfl wA.heap.size 73 i0 _ 7 96 Try.underlying53 hi0 hz0 hz1 hz2 rfl (by decide) (.slice (some ⟨wA.heap.size, 0, none⟩) 0 0) 0 [] (by simp [Act.eval, Act.put]; done) HOB.out ⟨b, off, none⟩ l.length c L (by simp [Act.eval, Act.put]; done) hL7 HNB.out HL2.out (by omega) hm1 hb1 hzB ?_; intro g cap w1 hown1 hgrow1 hlt1; have HB1 := Lib.hid (own_below HBB.out HOB.out hgrow1 (Nat.le_refl _)); have HO1 := Lib.hid hown1; have k0 := (HB1.out.cell (p := ⟨w.heap.size, 0, none⟩) hlX).trans x0; have k1 := (HB1.out.cell (p := ⟨w.heap.size, 1, none⟩) hlX).trans x1; have k2 := (HB1.out.cell (p := ⟨w.heap.size, 2, none⟩) hlX).trans x2; have k3 := (HB1.out.cell (p := ⟨w.heap.size, 3, none⟩) hlX).trans x3; have k4 := (HB1.out.cell (p := ⟨w.heap.size, 4, none⟩) hlX).trans x4; have k5 := (HB1.out.cell (p := ⟨w.heap.size, 5, none⟩) hlX).trans x5; have k6 := (HB1.out.cell (p := ⟨w.heap.size, 6, none⟩) hlX).trans x6; have HVW : Hid (∀ (j : Nat) (u : Value), VC[j]? = some u → w1.cell? ((⟨(wA.heap.size + 1), 0, none⟩ : Addr).add j) = some u) := Lib.hid (fun j u hj => by rw [WideShapes.add_plain, Nat.zero_add]; exact (World.cell?_of_block (w := ((wA.drew.alloc (.cells #[] 73)).alloc (.cells #[.string xn, .int .i64 qk, .int .i64 qs, .bool qp, .slice qfa qfl qfc, .int .i64 qc, .slice qea qel qec] 73))) (hgrow1.block (wA.heap.size + 1) (by simp <;> omega) (by simp [Value.ownBlock]))).trans (HVB.out j u hj)); have hs1 := HB1.out.size; clear hown1 hgrow1)
    | (refine step_append_more rfl (.tmp 19) (.tmp 20) 53 rfl wA.heap.size 73 i0 _ 7 96 Try.underlying53 hi0 hz0 hz1 hz2 rfl (by decide) (.slice (some ⟨(wA.heap.size + 1), 0, none⟩) 0 0) 0 [] (by simp [Act.eval, Act.put]; done) HOC.out ⟨b, off, none⟩ l.length c L (by simp [Act.eval, Act.put]; done) hL7 HNC.out HL2.out (by omega) hm1 hb1 hzC ?_; intro g cap w1 hown1 hgrow1 hlt1; have HB1 := Lib.hid (own_below HBC.out HOC.out hgrow1 (Nat.le_refl _)); have HO1 := Lib.hid hown1; have k0 := (HB1.out.cell (p := ⟨w.heap.size, 0, none⟩) hlX).trans x0; have k1 := (HB1.out.cell (p := ⟨w.heap.size, 1, none⟩) hlX).trans x1; have k2 := (HB1.out.cell (p := ⟨w.heap.size, 2, none⟩) hlX).trans x2; have k3 := (HB1.out.cell (p := ⟨w.heap.size, 3, none⟩) hlX).trans x3; have k4 := (HB1.out.cell (p := ⟨w.heap.size, 4, none⟩) hlX).trans x4; have k5 := (HB1.out.cell (p := ⟨w.heap.size, 5, none⟩) hlX).trans x5; have k6 := (HB1.out.cell (p := ⟨w.heap.size, 6, none⟩) hlX).trans x6; have HVW : Hid (∀ (j : Nat) (u : Value), VC[j]? = some u → w1.cell? ((⟨wA.heap.size, 0, none⟩ : Addr).add j) = some u) := Lib.hid (fun j u hj => by rw [WideShapes.add_plain, Nat.zero_add]; exact (World.cell?_of_block (w := ((wA.drew.alloc (.cells #[.string xn, .int .i64 qk, .int .i64 qs, .bool qp, .slice qfa qfl qfc, .int .i64 qc, .slice qea qel qec] 73)).alloc (.cells #[] 73))) (hgrow1.block wA.heap.size (by simp <;> omega) (by simp [Value.ownBlock]))).trans (HVC.out j u hj)); have hs1 := HB1.out.size; clear hown1 hgrow1)
    | (refine step_append_more rfl (.tmp 21) (.tmp 23) 53 rfl wA.heap.size 73 i0 _ 7 96 Try.underlying53 hi0 hz0 hz1 hz2 rfl (by decide) (.slice (some ⟨g, 0, none⟩) (0 + l.length) cap) (0 + l.length) ([] ++ L) (by simp [Act.eval, Act.put]; done) (HO1.out.alloc _) ⟨w1.heap.size, 0, none⟩ 1 1 VC (by simp [Act.eval, Act.put]; done) hVC7 (by rw [hxc.out]; exact World.news_of_block (heap_alloc_new w1 _)) HVC1.out (by omega) hm2 hb2 (by simp; omega) ?_; intro g2 cap2 w2 hown2 hgrow2 hlt2; have HB2 := Lib.hid (own_below (below_al HB1.out _) (HO1.out.alloc _) hgrow2 (Nat.le_refl _)); have HO2 := Lib.hid hown2; clear hown2 hgrow2)
    | (refine step_append_more rfl (.tmp 21) (.tmp 23) 53 rfl wA.heap.size 73 i0 _ 7 96 Try.underlying53 hi0 hz0 hz1 hz2 rfl (by decide) (.slice (some ⟨g, 0, none⟩) (0 + l.length) cap) (0 + l.length) ([] ++ L) (by simp [Act.eval, Act.put]; done) HO1.out ⟨(wA.heap.size + 1), 0, none⟩ 1 1 VC (by simp [Act.eval, Act.put]; done) hVC7 HVW.out HVC1.out (by omega) hm2 hb2 (by omega) ?_; intro g2 cap2 w2 hown2 hgrow2 hlt2; have HB2 := Lib.hid (own_below HB1.out HO1.out hgrow2 (Nat.le_refl _)); have HO2 := Lib.hid hown2; clear hown2 hgrow2)
    | (refine step_append_more rfl (.tmp 21) (.tmp 23) 53 rfl wA.heap.size 73 i0 _ 7 96 Try.underlying53 hi0 hz0 hz1 hz2 rfl (by decide) (.slice (some ⟨g, 0, none⟩) (0 + l.length) cap) (0 + l.length) ([] ++ L) (by simp [Act.eval, Act.put]; done) HO1.out ⟨wA.heap.size, 0, none⟩ 1 1 VC (by simp [Act.eval, Act.put]; done) hVC7 HVW.out HVC1.out (by omega) hm2 hb2 (by omega) ?_; intro g2 cap2 w2 hown2 hgrow2 hlt2; have HB2 := Lib.hid (own_below HB1.out HO1.out hgrow2 (Nat.le_refl _)); have HO2 := Lib.hid hown2; clear hown2 hgrow2)
    | (go_simp; go_at_call 21; refine (MX2.out w2 g2 cap2 (below_next HA.out HB2.out) (owns_base HO2.out HA.out.size)).mono ?_; rintro e w3 ⟨ad2, m2, cg2, N2, rfl, hg2, p2, rfl⟩; have HG2 := Lib.hid hg2; clear hg2))
  all_goals
    have HW3 : Hid (Below w.heap.size w (more w2 p2)) := Lib.hid (below_mo (below_next HA.out HB2.out) _)
    have HWA : Hid (Below wA.heap.size wA (more w2 p2)) := Lib.hid (below_mo HB2.out _)
    clear HBA HBB HBC HOA HOB HOC HNA HNB HNC hzA hzB hzC HVB HVC hb1 hb2 hm1 hm2 hL7 HVC1 hVC7 hxc MX2 HO1 HB1 HO2 HB2 HL2 hi0 hz0 hz1 hz2
    generalize more w2 p2 = wB at *
    by_cases hE2 : worldE (l ++ [x]) = 0
    · have hE1 := worldE_app l x hE2
      have hM := more_at l x hE2
      have HG3 := Lib.hid (HGA.out hE1)
      have HG4 := Lib.hid (HG2.out hE2)
      rw [hE1, hE2]
      obtain ⟨rfl, rfl, hr1⟩ := HG3.out
      have hlen : (l ++ [x]).length = l.length + 1 := by simp
      obtain ⟨hm2', hn2', hr2⟩ := HG4.out
      rw [hlen] at hm2' hn2'
      subst hm2' hn2'
      have HR1 := Lib.hid (hr1.below HWA.out)
      have HR2 := Lib.hid hr2
      have HGT := Lib.hid (glrow_get l)
      have NQ := neq_glb
      obtain ⟨ha1, ha2, ha3, ha4, ha5, hgl, hpre⟩ := hM
      have HGL := Lib.hid hgl
      have HPRE := Lib.hid hpre
      rw [ha1]
      clear hr1 hr2 HG2 HG3 HG4 hE1 hE2 HGA hgl hpre ha1 x0 x1 x2 x3 x4 x5 x6 HWA hlX hbA
      generalize hAT : atK l l.length = AT at *
      generalize hST : stW AT (vF x) = ST at *
      generalize (vF x).1 = gz at *
      have hlt0 : decide (ST + gz < AT) = false := by simp; omega
      have hlt00 : ¬ (ST + gz < AT) := by omega
      go_wp2_with fail
      refine wp_letter (R := fun W => Below wB.heap.size wB W) (by repeat (first | with_reducible exact Below.refl _ _ | with_reducible refine below_dr ?_ | with_reducible refine below_mo ?_ _ | with_reducible refine below_al ?_ _)) ?_
      rintro wC hC
      have HWC := Lib.hid (below_next HW3.out hC)
      have HR3 := Lib.hid (GlRow.below hC HR1.out)
      have HR4 := Lib.hid (GlRow.below hC HR2.out)
      clear hC HR1 HR2 HW3
      go_loopw [11] (fun v11 wr => ∃ i : Nat, i ≤ l.length ∧ v11 = .int .i64 i ∧ ∃ p : Regrown, wr = more wC p) (fun v11 _ => l.length - (intOf v11).toNat)
      case atStart => exact ⟨0, by omega, rfl, more_of_below (Below.refl _ _)⟩
      case round =>
        obtain ⟨i, hil, rfl, p0, rfl⟩ := hrel
        obtain ⟨T, rfl, k3, k4, hT, hTc⟩ := HR4.out (by omega)
        rw [hlen] at hTc k3
        have hcm2 : cg2 ≤ 9223372036854775807 := k4
        by_cases hlt : (i : Int) < l.length
        · obtain ⟨S, rfl, k1, k2, hS, hSc⟩ := HR3.out (by omega)
          obtain ⟨g, hg⟩ := HGT.out i (by omega)
          obtain ⟨s0, s1, s2⟩ := hSc i g hg
          obtain ⟨t0, t1, t2⟩ := hTc i g (HPRE.out i g hg)
          obtain ⟨gn, ga, gs⟩ := g
          simp only at s0 s1 s2 t0 t1 t2
          have hcm : cg ≤ 9223372036854775807 := k2
          have hi2 : (i : Int) < l.length + 1 := by omega
          clear hSc hTc hg
          go_upto_region 10 with fail
          refine wp_quiet_more (by kernel_rfl) (by kernel_rfl) ?_
          repeat (go_big_quiet_step (fail))
          refine wpQuiet_nil ?_
          intro p8
          go_wp2_with fail
          go_roundw
          case rel => exact ⟨i + 1, by omega, by go_num, more_more _ _ _⟩
          case measure => first | (simp [intOf]; done) | (simp [intOf]; omega)
        · obtain rfl : i = l.length := by omega
          obtain ⟨t0, t1, t2⟩ := hTc l.length _ HGL.out
          simp only at t0 t1 t2
          clear hTc hil hlt
          go_wp2_with (go_at_call 23; refine (AW.out _).mono ?_; rintro e w1 ⟨rfl, p3, rfl⟩)
          go_ret
          exact Gives.mk (by first | rfl | (simp; done) | (simp; omega)) (by repeat (first | with_reducible exact HWC.out | with_reducible refine below_mo ?_ _))
    · clear HGA HG2 x0 x1 x2 x3 x4 x5 x6 HWA hlX hbA
      generalize worldE (l ++ [x]) = E2 at *
      generalize worldE l = E1 at *
      have hb2 : (E2 != 0) = true := by simpa using hE2
      have hb3 : (E2 == 0) = false := by simpa using hE2
      clear hE2
      by_cases hE1 : E1 = 0
      · subst hE1
        go_wp2_with (go_at_call 23; refine (AW.out _).mono ?_; rintro e w1 ⟨rfl, p3, rfl⟩)
        go_ret
        exact Gives.mk (by first | rfl | (simp; done)) (by repeat (first | with_reducible exact HW3.out | with_reducible refine below_mo ?_ _))
      · have hb4 : (E1 != 0) = true := by simpa using hE1
        have hb5 : (E1 == 0) = false := by simpa using hE1
        clear hE1
        cases hee : (E2 == E1)
        all_goals
          go_wp2_with (go_at_call 23; refine (AW.out _).mono ?_; rintro e w1 ⟨rfl, p3, rfl⟩)
          go_ret
          exact Gives.mk (by first | rfl | (simp; done)) (by repeat (first | with_reducible exact HW3.out | with_reducible refine below_mo ?_ _))
end
end Go.Proofs.Ytlbkloamabomcaa
namespace Go.Proofs.Ytlbkloamabomcaa
open Go.RowKit Go.Sort
set_option linter.unusedVariables false
set_option linter.unusedSimpArgs false
theorem step_append_none {P : Program} {ops : Array Oper} {o : Oper} {a : Act} {w : World} {K : Act → World → Prop} {Q : Exit → Act → World → Prop} {E : Prop} (hgd : o.guard = none) (s x : Operand) (t : TypeId)
    (ho : o.op = .call { callee := .builtin .append, args := #[s, x], argTypes := #[t, t] }) (e : TypeId) (i : TypeInfo) (ht : P.underlying t = some (.slice e)) (hi : P.info? e = some i)
    (base : Option Addr) (sLen sCap : Nat) (hle : sLen ≤ sCap) (hs : a.eval s = .slice base sLen sCap) (v : Value) (hx : a.eval x = v) (hS : Src P i.size t v 0 [] w) (h : K (a.put o.dst (.slice base sLen sCap)) w) :
    if Region.wanted o (yielded ops a.tmps) = true then Oper.wp P o a w K Q else E := by
  have hw : Region.wanted o (yielded ops a.tmps) = true := by simp [Region.wanted, hgd]
  rw [if_pos hw]
  have hr := run_append_nothing (P := P) w t t o.type e i ht hi base sLen sCap hle v hS
  unfold Oper.wp execOp
  simp only [ho, resolve, invoke, builtin, Sem.run_bind, Sem.run_pure, Result.andThen_ok, List.map_toArray, List.map_cons, List.map_nil, hs, hx, hr]
  exact h
section
variable {n : Nat}
set_option maxRecDepth 100000 in
set_option maxHeartbeats 12800000 in
theorem worldMore_none (l : List (Vr n)) (a : Option Addr) (c : Nat) (w : World) (hV : VrsAt w l a c) (hl0 : l.length = 0) (x : Vr n) (q : Raw) (hq : TyAt w n x.type q) (hn : x.name.size ≤ 9223372036854775807) :
    Calls Try.prog 11 #[.slice a l.length c, .agg #[.string x.name, .int .i64 q.kind, .int .i64 q.size, .bool q.packed, .slice q.fa q.fl q.fc, .int .i64 q.count, .slice q.ea q.el q.ec]] w (Gives w (.bool true)) := by
  have AW := Lib.hid awakeW_any
  have MX := Lib.hid (fun W (hW : Below w.heap.size w W) => map_x l a c W (hV.below hW) (by omega))
  have hc1 := hV.1
  have hc2 := hV.2.1
  have l4 : VLay w l [] := by
    have hl := List.eq_nil_of_length_eq_zero hl0
    subst hl
    exact fun i f hi => by simp at hi
  have l5 := l4.snoc (by simp [hl0]) hq hn
  have MX2 : Hid (∀ (W : World) (g cap : Nat), Below w.heap.size w W → W.ownsRow w.heap.size 73 7 (.slice (some ⟨g, 0, none⟩) (0 + 1) cap) (0 + 1) ([] ++ vCs x q) → Calls Try.prog 21 #[.slice (some ⟨g, 0, none⟩) 1 cap] W (MapX (l ++ [x]) W)) := Lib.hid (fun W g cap hW ho => by
    have hl7 : (([] : List Value) ++ vCs x q).length = 7 * (l ++ [x]).length := by simp [hl0, vCs]
    have h1 := row_vrs (m := 0 + 1) l5 hl7 (by simp [hl0]) hW ho
    have := map_x (l ++ [x]) (some ⟨g, 0, none⟩) cap W h1 (by simp; omega)
    rw [show (l ++ [x]).length = 1 by simp [hl0]] at this
    exact this)
  obtain ⟨i0, hi0, hz0, hz1, hz2⟩ := info_parts vr_info
  have HS : Hid (∀ W, Src Try.prog i0.size 53 (.slice a l.length c) 0 [] W) := Lib.hid (fun W => by
    rw [hl0]
    cases a with
    | none => exact Src.ofNil W Try.underlying53 c
    | some ad => exact Src.ofSlice W Try.underlying53 ad 0 c [] (by simp) (fun j u h => by simp at h) (fun u h => by simp at h))
  have hbnd : l.length ≤ 1000 := by omega
  clear hV l4 l5 hl0
  have hxc : Hid (vCs x q = [.string x.name, .int .i64 q.kind, .int .i64 q.size, .bool q.packed, .slice q.fa q.fl q.fc, .int .i64 q.count, .slice q.ea q.el q.ec]) := Lib.hid rfl
  generalize hvc : vCs x q = VC at *
  clear hvc hq
  obtain ⟨qk, qs, qp, qfa, qfl, qfc, qc, qea, qel, qec⟩ := q
  simp only at hxc
  generalize hxn : x.name = xn at *
  go_enter Try.func11, Try.ntmps11
  go_upto_region 2 with (go_at_call 21; refine (MX.out _ (by repeat (first | with_reducible exact Below.refl _ _ | with_reducible refine below_mo ?_ _ | with_reducible refine below_al ?_ _))).mono ?_; rintro e w1 ⟨ad, m, cg, N1, rfl, hg, p1, rfl⟩; have HG1 := Lib.hid hg; clear hg)
  refine wp_letter (R := fun W => Below w.heap.size w W ∧ (worldE l = 0 → m = l.length ∧ N1 = atK l l.length ∧ GlRow W l ad cg) ∧ (W.cell? ⟨w.heap.size, 0, none⟩ = some (.string xn) ∧ W.cell? ⟨w.heap.size, 1, none⟩ = some (.int .i64 qk) ∧ W.cell? ⟨w.heap.size, 2, none⟩ = some (.int .i64 qs) ∧ W.cell? ⟨w.heap.size, 3, none⟩ = some (.bool qp) ∧ W.cell? ⟨w.heap.size, 4, none⟩ = some (.slice qfa qfl qfc) ∧ W.cell? ⟨w.heap.size, 5, none⟩ = some (.int .i64 qc) ∧ W.cell? ⟨w.heap.size, 6, none⟩ = some (.slice qea qel qec))) ?letA ?_
  case letA =>
    refine ⟨by repeat (first | with_reducible exact Below.refl _ _ | with_reducible refine below_mo ?_ _ | with_reducible refine below_al ?_ _), HG1.out, ?_, ?_, ?_, ?_, ?_, ?_, ?_⟩
    all_goals (simp [go_sem, ↓IntWalk.iteOmega]; done)
  rintro wA ⟨hA, hgA, x0, x1, x2, x3, x4, x5, x6⟩
  have HA := Lib.hid hA
  have HGA := Lib.hid hgA
  have hbs := hA.size
  have hlX := cell_lt2 x0
  clear hA hgA HG1 MX
  have hVC7 : VC.length = 1 * 7 := by rw [hxc.out]; rfl
  have HVC1 : Hid (∀ u ∈ VC, u.oneCell' = true) := Lib.hid (by rw [hxc.out]; intro u hu; simp at hu; rcases hu with rfl | rfl | rfl | rfl | rfl | rfl | rfl <;> rfl)

  have HBA : Hid (Below wA.heap.size wA (wA.drew.alloc (.cells #[] 73))) := Lib.hid (by repeat (first | with_reducible exact Below.refl _ _ | with_reducible refine below_dr ?_ | with_reducible refine below_al ?_ _))
  have HOA : Hid ((wA.drew.alloc (.cells #[] 73)).ownsRow wA.heap.size 73 7 (.slice (some ⟨wA.heap.size, 0, none⟩) 0 0) 0 []) := Lib.hid (by
    have h := World.ownsRow_lit (base := wA.heap.size) (e := 73) (size := 7) wA.drew #[] 0 (Nat.le_refl _) (by simp [maxLen]) rfl
    simpa [go_sem] using h)
  have hzA : wA.heap.size ≤ (wA.drew.alloc (.cells #[] 73)).heap.size := HBA.out.size
  have HBB : Hid (Below wA.heap.size wA ((wA.drew.alloc (.cells #[] 73)).alloc (.cells #[.string xn, .int .i64 qk, .int .i64 qs, .bool qp, .slice qfa qfl qfc, .int .i64 qc, .slice qea qel qec] 73))) := Lib.hid (by repeat (first | with_reducible exact Below.refl _ _ | with_reducible refine below_dr ?_ | with_reducible refine below_al ?_ _))
  have HOB : Hid (((wA.drew.alloc (.cells #[] 73)).alloc (.cells #[.string xn, .int .i64 qk, .int .i64 qs, .bool qp, .slice qfa qfl qfc, .int .i64 qc, .slice qea qel qec] 73)).ownsRow wA.heap.size 73 7 (.slice (some ⟨wA.heap.size, 0, none⟩) 0 0) 0 []) := Lib.hid (by
    have h := (World.ownsRow_lit (base := wA.heap.size) (e := 73) (size := 7) wA.drew #[] 0 (Nat.le_refl _) (by simp [maxLen]) rfl).alloc (.cells #[.string xn, .int .i64 qk, .int .i64 qs, .bool qp, .slice qfa qfl qfc, .int .i64 qc, .slice qea qel qec] 73)
    simpa [go_sem] using h)
  have hzB : wA.heap.size ≤ ((wA.drew.alloc (.cells #[] 73)).alloc (.cells #[.string xn, .int .i64 qk, .int .i64 qs, .bool qp, .slice qfa qfl qfc, .int .i64 qc, .slice qea qel qec] 73)).heap.size := HBB.out.size
  have HBC : Hid (Below wA.heap.size wA ((wA.drew.alloc (.cells #[.string xn, .int .i64 qk, .int .i64 qs, .bool qp, .slice qfa qfl qfc, .int .i64 qc, .slice qea qel qec] 73)).alloc (.cells #[] 73))) := Lib.hid (by repeat (first | with_reducible exact Below.refl _ _ | with_reducible refine below_dr ?_ | with_reducible refine below_al ?_ _))
  have HOC : Hid (((wA.drew.alloc (.cells #[.string xn, .int .i64 qk, .int .i64 qs, .bool qp, .slice qfa qfl qfc, .int .i64 qc, .slice qea qel qec] 73)).alloc (.cells #[] 73)).ownsRow wA.heap.size 73 7 (.slice (some ⟨(wA.heap.size + 1), 0, none⟩) 0 0) 0 []) := Lib.hid (by
    have h := World.ownsRow_lit (base := wA.heap.size) (e := 73) (size := 7) (wA.drew.alloc (.cells #[.string xn, .int .i64 qk, .int .i64 qs, .bool qp, .slice qfa qfl qfc, .int .i64 qc, .slice qea qel qec] 73)) #[] 0 (by simp) (by simp [maxLen]) rfl
    simpa [go_sem] using h)
  have hzC : wA.heap.size ≤ ((wA.drew.alloc (.cells #[.string xn, .int .i64 qk, .int .i64 qs, .bool qp, .slice qfa qfl qfc, .int .i64 qc, .slice qea qel qec] 73)).alloc (.cells #[] 73)).heap.size := HBC.out.size
  have HVB : Hid (∀ (j : Nat) (u : Value), VC[j]? = some u → ((wA.drew.alloc (.cells #[] 73)).alloc (.cells #[.string xn, .int .i64 qk, .int .i64 qs, .bool qp, .slice qfa qfl qfc, .int .i64 qc, .slice qea qel qec] 73)).cell? ⟨(wA.heap.size + 1), j, none⟩ = some u) := Lib.hid (by
    rw [hxc.out]
    intro j u hj
    match j, hj with
    | 0, hj => cases hj; simp [go_sem, ↓IntWalk.iteOmega]
    | 1, hj => cases hj; simp [go_sem, ↓IntWalk.iteOmega]
    | 2, hj => cases hj; simp [go_sem, ↓IntWalk.iteOmega]
    | 3, hj => cases hj; simp [go_sem, ↓IntWalk.iteOmega]
    | 4, hj => cases hj; simp [go_sem, ↓IntWalk.iteOmega]
    | 5, hj => cases hj; simp [go_sem, ↓IntWalk.iteOmega]
    | 6, hj => cases hj; simp [go_sem, ↓IntWalk.iteOmega]
    | j + 7, hj => simp at hj)
  have HVC : Hid (∀ (j : Nat) (u : Value), VC[j]? = some u → ((wA.drew.alloc (.cells #[.string xn, .int .i64 qk, .int .i64 qs, .bool qp, .slice qfa qfl qfc, .int .i64 qc, .slice qea qel qec] 73)).alloc (.cells #[] 73)).cell? ⟨wA.heap.size, j, none⟩ = some u) := Lib.hid (by
    rw [hxc.out]
    intro j u hj
    match j, hj with
    | 0, hj => cases hj; simp [go_sem, ↓IntWalk.iteOmega]
    | 1, hj => cases hj; simp [go_sem, ↓IntWalk.iteOmega]
    | 2, hj => cases hj; simp [go_sem, ↓IntWalk.iteOmega]
    | 3, hj => cases hj; simp [go_sem, ↓IntWalk.iteOmega]
    | 4, hj => cases hj; simp [go_sem, ↓IntWalk.iteOmega]
    | 5, hj => cases hj; simp [go_sem, ↓IntWalk.iteOmega]
    | 6, hj => cases hj; simp [go_sem, ↓IntWalk.iteOmega]
    | j + 7, hj => simp at hj)
  have hb2 : (0 + 1) * 96 ≤ 140737488355328 := by omega
  have hm2 : 0 + 1 ≤ maxLen := by unfold maxLen; omega
  go_region_law (first
    | (refine step_append_none rfl (.tmp 19) (.tmp 20) 53 rfl 73 i0 Try.underlying53 hi0 (some ⟨wA.heap.size, 0, none⟩) 0 0 (Nat.le_refl _) (by simp [Act.eval, Act.put]; done) (.slice a l.length c) (by simp [Act.eval, Act.put]; done) (HS.out (wA.drew.alloc (.cells #[] 73))) ?_)
    | (refine step_append_none rfl (.tmp 19) (.tmp 20) 53 rfl 73 i0 Try.underlying53 hi0 (some ⟨wA.heap.size, 0, none⟩) 0 0 (Nat.le_refl _) (by simp [Act.eval, Act.put]; done) (.slice a l.length c) (by simp [Act.eval, Act.put]; done) (HS.out ((wA.drew.alloc (.cells #[] 73)).alloc (.cells #[.string xn, .int .i64 qk, .int .i64 qs, .bool qp, .slice qfa qfl qfc, .int .i64 qc, .slice qea qel qec] 73))) ?_)
    | (refine step_append_none rfl (.tmp 19) (.tmp 20) 53 rfl 73 i0 Try.underlying53 hi0 (some ⟨(wA.heap.size + 1), 0, none⟩) 0 0 (Nat.le_refl _) (by simp [Act.eval, Act.put]; done) (.slice a l.length c) (by simp [Act.eval, Act.put]; done) (HS.out ((wA.drew.alloc (.cells #[.string xn, .int .i64 qk, .int .i64 qs, .bool qp, .slice qfa qfl qfc, .int .i64 qc, .slice qea qel qec] 73)).alloc (.cells #[] 73))) ?_)
    | (refine step_append_more rfl (.tmp 21) (.tmp 23) 53 rfl wA.heap.size 73 i0 _ 7 96 Try.underlying53 hi0 hz0 hz1 hz2 rfl (by decide) (.slice (some ⟨wA.heap.size, 0, none⟩) 0 0) 0 [] (by simp [Act.eval, Act.put]; done) HOB.out ⟨(wA.heap.size + 1), 0, none⟩ 1 1 VC (by simp [Act.eval, Act.put]; done) hVC7 (fun j u hj => by rw [WideShapes.add_plain, Nat.zero_add]; exact HVB.out j u hj) HVC1.out (by omega) hm2 hb2 hzB ?_; intro g2 cap2 w2 hown2 hgrow2 hlt2; have HB2 := Lib.hid (own_below HBB.out HOB.out hgrow2 (Nat.le_refl _)); have HO2 := Lib.hid hown2; clear hown2 hgrow2)
    | (refine step_append_more rfl (.tmp 21) (.tmp 23) 53 rfl wA.heap.size 73 i0 _ 7 96 Try.underlying53 hi0 hz0 hz1 hz2 rfl (by decide) (.slice (some ⟨(wA.heap.size + 1), 0, none⟩) 0 0) 0 [] (by simp [Act.eval, Act.put]; done) HOC.out ⟨wA.heap.size, 0, none⟩ 1 1 VC (by simp [Act.eval, Act.put]; done) hVC7 (fun j u hj => by rw [WideShapes.add_plain, Nat.zero_add]; exact HVC.out j u hj) HVC1.out (by omega) hm2 hb2 hzC ?_; intro g2 cap2 w2 hown2 hgrow2 hlt2; have HB2 := Lib.hid (own_below HBC.out HOC.out hgrow2 (Nat.le_refl _)); have HO2 := Lib.hid hown2; clear hown2 hgrow2)
    | (go_simp; go_at_call 21; refine (MX2.out w2 g2 cap2 (below_next HA.out HB2.out) (owns_base HO2.out HA.out.size)).mono ?_; rintro e w3 ⟨ad2, m2, cg2, N2, rfl, hg2, p2, rfl⟩; have HG2 := Lib.hid hg2; clear hg2))
  all_goals
    have HW3 : Hid (Below w.heap.size w (more w2 p2)) := Lib.hid (below_mo (below_next HA.out HB2.out) _)
    have HWA : Hid (Below wA.heap.size wA (more w2 p2)) := Lib.hid (below_mo HB2.out _)
    clear HBA HBB HBC HOA HOB HOC hzA hzB hzC HVB HVC hb2 hm2 HVC1 hVC7 hxc MX2 HO2 HB2 hi0 hz0 hz1 hz2 HS
    generalize more w2 p2 = wB at *
    by_cases hE2 : worldE (l ++ [x]) = 0
    · have hE1 := worldE_app l x hE2
      have hM := more_at l x hE2
      have HG3 := Lib.hid (HGA.out hE1)
      have HG4 := Lib.hid (HG2.out hE2)
      rw [hE1, hE2]
      obtain ⟨rfl, rfl, hr1⟩ := HG3.out
      have hlen : (l ++ [x]).length = l.length + 1 := by simp
      obtain ⟨hm2', hn2', hr2⟩ := HG4.out
      rw [hlen] at hm2' hn2'
      subst hm2' hn2'
      have HR1 := Lib.hid (hr1.below HWA.out)
      have HR2 := Lib.hid hr2
      have HGT := Lib.hid (glrow_get l)
      have NQ := neq_glb
      obtain ⟨ha1, ha2, ha3, ha4, ha5, hgl, hpre⟩ := hM
      have HGL := Lib.hid hgl
      have HPRE := Lib.hid hpre
      rw [ha1]
      clear hr1 hr2 HG2 HG3 HG4 hE1 hE2 HGA hgl hpre ha1 x0 x1 x2 x3 x4 x5 x6 HWA hlX
      generalize hAT : atK l l.length = AT at *
      generalize hST : stW AT (vF x) = ST at *
      generalize (vF x).1 = gz at *
      have hlt0 : decide (ST + gz < AT) = false := by simp; omega
      have hlt00 : ¬ (ST + gz < AT) := by omega
      go_wp2_with fail
      refine wp_letter (R := fun W => Below wB.heap.size wB W) (by repeat (first | with_reducible exact Below.refl _ _ | with_reducible refine below_dr ?_ | with_reducible refine below_mo ?_ _ | with_reducible refine below_al ?_ _)) ?_
      rintro wC hC
      have HWC := Lib.hid (below_next HW3.out hC)
      have HR3 := Lib.hid (GlRow.below hC HR1.out)
      have HR4 := Lib.hid (GlRow.below hC HR2.out)
      clear hC HR1 HR2 HW3
      go_loopw [11] (fun v11 wr => ∃ i : Nat, i ≤ l.length ∧ v11 = .int .i64 i ∧ ∃ p : Regrown, wr = more wC p) (fun v11 _ => l.length - (intOf v11).toNat)
      case atStart => exact ⟨0, by omega, rfl, more_of_below (Below.refl _ _)⟩
      case round =>
        obtain ⟨i, hil, rfl, p0, rfl⟩ := hrel
        obtain ⟨T, rfl, k3, k4, hT, hTc⟩ := HR4.out (by omega)
        rw [hlen] at hTc k3
        have hcm2 : cg2 ≤ 9223372036854775807 := k4
        by_cases hlt : (i : Int) < l.length
        · obtain ⟨S, rfl, k1, k2, hS, hSc⟩ := HR3.out (by omega)
          obtain ⟨g, hg⟩ := HGT.out i (by omega)
          obtain ⟨s0, s1, s2⟩ := hSc i g hg
          obtain ⟨t0, t1, t2⟩ := hTc i g (HPRE.out i g hg)
          obtain ⟨gn, ga, gs⟩ := g
          simp only at s0 s1 s2 t0 t1 t2
          have hcm : cg ≤ 9223372036854775807 := k2
          have hi2 : (i : Int) < l.length + 1 := by omega
          clear hSc hTc hg
          go_upto_region 10 with fail
          refine wp_quiet_more (by kernel_rfl) (by kernel_rfl) ?_
          repeat (go_big_quiet_step (fail))
          refine wpQuiet_nil ?_
          intro p8
          go_wp2_with fail
          go_roundw
          case rel => exact ⟨i + 1, by omega, by go_num, more_more _ _ _⟩
          case measure => first | (simp [intOf]; done) | (simp [intOf]; omega)
        · obtain rfl : i = l.length := by omega
          obtain ⟨t0, t1, t2⟩ := hTc l.length _ HGL.out
          simp only at t0 t1 t2
          clear hTc hil hlt
          go_wp2_with (go_at_call 23; refine (AW.out _).mono ?_; rintro e w1 ⟨rfl, p3, rfl⟩)
          go_ret
          exact Gives.mk (by first | rfl | (simp; done) | (simp; omega)) (by repeat (first | with_reducible exact HWC.out | with_reducible refine below_mo ?_ _))
    · clear HGA HG2 x0 x1 x2 x3 x4 x5 x6 HWA hlX
      generalize worldE (l ++ [x]) = E2 at *
      generalize worldE l = E1 at *
      have hb2 : (E2 != 0) = true := by simpa using hE2
      have hb3 : (E2 == 0) = false := by simpa using hE2
      clear hE2
      by_cases hE1 : E1 = 0
      · subst hE1
        go_wp2_with (go_at_call 23; refine (AW.out _).mono ?_; rintro e w1 ⟨rfl, p3, rfl⟩)
        go_ret
        exact Gives.mk (by first | rfl | (simp; done)) (by repeat (first | with_reducible exact HW3.out | with_reducible refine below_mo ?_ _))
      · have hb4 : (E1 != 0) = true := by simpa using hE1
        have hb5 : (E1 == 0) = false := by simpa using hE1
        clear hE1
        cases hee : (E2 == E1)
        all_goals
          go_wp2_with (go_at_call 23; refine (AW.out _).mono ?_; rintro e w1 ⟨rfl, p3, rfl⟩)
          go_ret
          exact Gives.mk (by first | rfl | (simp; done)) (by repeat (first | with_reducible exact HW3.out | with_reducible refine below_mo ?_ _))
end
end Go.Proofs.Ytlbkloamabomcaa
namespace Go.Proofs.Ytlbkloamabomcaa
open Go.RowKit Go.Sort
set_option linter.unusedVariables false
set_option linter.unusedSimpArgs false
section
open Go.ChangeShapes Go.WideShapes Go.ChangeAt
set_option maxRecDepth 100000 in
theorem vars_var_open {H : Type} {enc : TypeId × Value → H} {W : World} {r r1 : Reach} {b0 b1 : Nat} {v v1 : Value} {d d1 : DataW H} {p p1 : List MemPlace} (hv1 : Value.okWide Try.prog W r1 b1 73 v1) (h1 : DataW.Trod enc Try.prog W 0 (fun _ => true) true 73 v1 d1 p1) (hv : Value.okWide Try.prog W r b0 53 v) (h : DataW.Trod enc Try.prog W 0 (fun _ => true) true 53 v d p) :
    ∃ (n : Nat) (l : List (Vr n)) (a : Option Addr) (c : Nat) (x : Vr n) (q : Raw), v = .slice a l.length c ∧ VrsAt W l a c ∧ v1 = .agg #[.string x.name, .int .i64 q.kind, .int .i64 q.size, .bool q.packed, .slice q.fa q.fl q.fc, .int .i64 q.count, .slice q.ea q.el q.ec] ∧ TyAt W n x.type q ∧ x.name.size ≤ 9223372036854775807 := by
  obtain ⟨fuel, hf⟩ := h
  obtain ⟨cs1, rfl, _⟩ := okWide_struct Try.underlying73 hv1
  obtain ⟨f1, hf1⟩ := h1
  obtain ⟨x, q, hcs1, hT1, hn1⟩ := vr_open (fuel + f1) f1 _ _ (by omega) hf1
  have hx1 : Value.agg cs1 = .agg #[.string x.name, .int .i64 q.kind, .int .i64 q.size, .bool q.packed, .slice q.fa q.fl q.fc, .int .i64 q.count, .slice q.ea q.el q.ec] := by
    congr 1
    apply Array.ext'
    simpa [Value.cells] using hcs1
  obtain ⟨a0, n0, c0, rfl⟩ := okWide_slice Try.underlying53 hv
  rcases open_sl Try.underlying53 hf with ⟨hcs, _⟩ | ⟨a, len, cap, n, hcs, hn, hlc, hcm, hel⟩
  · simp [Value.cells] at hcs
    obtain ⟨rfl, rfl, rfl⟩ := hcs
    exact ⟨fuel + f1, [], none, 0, x, q, rfl, ⟨by simp, by simp, fun h => by simp at h⟩, hx1, hT1, hn1⟩
  · simp [Value.cells] at hcs
    obtain ⟨rfl, rfl, rfl⟩ := hcs
    obtain ⟨l, hlen2, hp⟩ := list_of n0 (fun i (v : Vr (fuel + f1)) => ∃ q : Raw, TyAt W (fuel + f1) v.type q ∧ v.name.size ≤ 9223372036854775807 ∧ ∀ j (u : Value), ([.string v.name, .int .i64 q.kind, .int .i64 q.size, .bool q.packed, .slice q.fa q.fl q.fc, .int .i64 q.count, .slice q.ea q.el q.ec] : List Value)[j]? = some u → W.cell? (a.add (i * 7 + j)) = some u) (fun i hi => by
      obtain ⟨cs', y, hcells, htr⟩ := hel i hi
      rw [vr_cells] at hcells
      obtain ⟨hcl, hcv⟩ := cells_at hcells
      obtain ⟨v, q, d1, hq, hnm⟩ := vr_open (fuel + f1) n _ _ (by omega) htr
      subst d1
      exact ⟨v, q, hq, hnm, fun j u hj => by rw [← Go.Deep.add_add]; exact hcv j u hj⟩)
    subst hlen2
    refine ⟨fuel + f1, l, some a, c0, x, q, rfl, ⟨hlc, by unfold maxLen at hcm; exact hcm, fun hpos => ?_⟩, hx1, hT1, hn1⟩
    have h0 : W.cell? a = some (.string (l[0]).name) := by
      obtain ⟨q, _, _, hc⟩ := hp 0 l[0] (List.getElem?_eq_getElem hpos)
      exact hc 0 _ rfl
    have ha := spot_of_cell h0
    refine ⟨a.block, a.off, by rw [← ha], by rw [ha] at h0; exact lt_of_cell h0, fun i v hi => ?_⟩
    obtain ⟨q, hq, hnm, hc⟩ := hp i v hi
    rw [ha] at hc
    simp only [add_plain] at hc
    exact ⟨q, hq, hnm, hc 0 _ rfl, hc 1 _ rfl, hc 2 _ rfl, hc 3 _ rfl, hc 4 _ rfl, hc 5 _ rfl, hc 6 _ rfl⟩
end
theorem worldMore_walk {n : Nat} (l : List (Vr n)) (a : Option Addr) (c : Nat) (w : World) (hV : VrsAt w l a c) (hr : l.length * 96 ≤ 140737488351232) (x : Vr n) (q : Raw) (hq : TyAt w n x.type q) (hn : x.name.size ≤ 9223372036854775807) :
    Calls Try.prog 11 #[.slice a l.length c, .agg #[.string x.name, .int .i64 q.kind, .int .i64 q.size, .bool q.packed, .slice q.fa q.fl q.fc, .int .i64 q.count, .slice q.ea q.el q.ec]] w (Gives w (.bool true)) := by
  rcases Nat.eq_zero_or_pos l.length with h0 | h0
  · exact worldMore_none l a c w hV h0 x q hq hn
  · obtain ⟨b, off, rfl, hb, hvs⟩ := hV.2.2 h0
    exact worldMore_some l b off c w hV hb hvs h0 hr x q hq hn
end Go.Proofs.Ytlbkloamabomcaa
namespace Go.Proofs.Ytlbkloamabomcaa.worldMore
open Go.ChangeShapes Go.WideShapes Go.ChangeAt Go.RowKit
set_option linter.unusedVariables false
theorem own : ownKnob Try.prog.godebug = none := by kernel_rfl
theorem laid : laidOutB Try.prog = true := by kernel_rfl
theorem reads : (Try.f11.params.toList.all fun t => Try.prog.readableRec t && decide (t < Try.prog.types.size)) = true := by kernel_rfl
set_option maxRecDepth 100000 in
theorem lifted (os : Os) (started : os.Started) (H : Type) (enc : TypeId × Value → H) :
    ReturnsInHanded {} Try.checked os 11 .any (Rows.worldMoreSpec.pre6 enc Try.prog Try.f11 Rows.worldMoreRow.domain false) (Rows.worldMoreSpec.post enc Try.prog Try.f11 false true false false) := by
  refine returnsInHanded_of_change_sized (C := Try.checked) own started (by kernel_rfl) Try.func11
    (ChangeSpec.witness6 (enc := enc) (C := Try.checked) false ⟨#[], #[.slice none 0 0, .agg #[.string ByteArray.empty, .int .i64 0, .int .i64 0, .bool false, .slice none 0 0, .int .i64 0, .slice none 0 0]], []⟩ 8 (by kernel_rfl) (by kernel_rfl) (by kernel_rfl) (by kernel_rfl)) ?_
  intro W base args ds gs before hval0 hW hcnd hsz hholds
  have hval : ∀ (j : Nat) t v, Try.f11.params[j]? = some t → args[j]? = some v → Value.okWide Try.prog W .any base t v := hval0
  have hW' := hW
  obtain ⟨p, q, hA0, hV, rfl, hfz, hnd⟩ := hW
  have hA : DataW.TrodAll enc Try.prog W 0 (fun _ => true) true Try.f11.params.toList args.toList ds p := hA0
  rw [Try.params11] at hA hval
  obtain ⟨v0, vs0, d0, ds0, p0, q0, hargs, rfl, rfl, h0, r0⟩ := trodAll_cons hA
  obtain ⟨v1, vs1, d1, ds1, p1, q1, rfl, rfl, rfl, h1, r1⟩ := trodAll_cons r0
  obtain ⟨rfl, rfl, rfl⟩ := trodAll_nil r1
  obtain rfl : args = #[v0, v1] := by cases args; simp_all
  obtain ⟨rfl, rfl⟩ := trodVars_none hV
  obtain ⟨n0, l0, a0, c0, x1, q1, rfl, V0, rfl, T1, hn1⟩ := vars_var_open (hval 1 73 v1 rfl rfl) h1 (hval 0 53 v0 rfl rfl) h0
  clear hA0 hval0
  refine ((worldMore_walk l0 a0 c0 W V0 (by have := vars_room hsz (j := 0) rfl rfl h0; omega) x1 q1 T1 hn1).mono gives_both).mono fun e W' ⟨he, hb⟩ => ?_
  subst he
  exact ⟨_, rfl, law_end hW' rfl rfl rfl rfl laid reads rfl Try.underlying4 hb⟩
theorem over : Rows.worldMoreRow.holds Try.pinned (OpenSpec.ofChange Rows.worldMoreSpec) :=
  OpenClaim.holds_of_wide 11 Try.f11 rfl rfl rfl rfl rfl rfl rfl ⟨rfl, rfl, rfl, rfl, rfl⟩ rfl rfl rfl rfl rfl (by kernel_rfl) Try.func11 (by kernel_rfl)
    (of_decide_eq_true (by kernel_rfl)) (by unfold Func.isWrapper; first | (rw [if_pos (by decide +kernel)]; kernel_rfl) | (rw [if_neg (by decide +kernel)]; exact ⟨rfl, rfl⟩))
    (fun os started H enc _ => lifted os started H enc)
/-- THE STATEMENT. -/
theorem proved : Rows.WorldMoreSaid := over
#print axioms proved
end Go.Proofs.Ytlbkloamabomcaa.worldMore
