/- Walk: a type within so many others. Condition: what came in lies in memory. -/
import Derived.Test.YtjioinmiglblmaaKindLaws
import Derived.Test.YtjioinmiglblmaaKindDeepMath
namespace Go.Proofs.Ytjioinmiglblmaa
open Go.RowKit Go.Sort
set_option linter.unusedVariables false
set_option linter.unusedSimpArgs false
theorem TyAt.mono {w w' : World} (h : ∀ b o v, w.cell? ⟨b, o, none⟩ = some v → w'.cell? ⟨b, o, none⟩ = some v) (hz : w.heap.size ≤ w'.heap.size) : ∀ (n : Nat) (t : Ty n) (r : Raw), TyAt w n t r → TyAt w' n t r
  | 0, t, _, _ => nomatch t
  | n + 1, (t : TyF (Ty n)), r, ⟨h1, h2, h3, h4, h5, h6, h7, h8, h9, hf, he⟩ => by
    refine ⟨h1, h2, h3, h4, h5, h6, h7, h8, h9, ⟨hf.1, hf.2.1, fun hn => ?_⟩, ⟨he.1, he.2.1, fun hn => ?_⟩⟩
    · obtain ⟨b, off, ha, hb, hc⟩ := hf.2.2 hn
      refine ⟨b, off, ha, by omega, fun i f hi => ?_⟩
      obtain ⟨q, hq, g1, g2, c0, c1, c2, c3, c4, c5, c6, c7, c8⟩ := hc i f hi
      exact ⟨q, TyAt.mono h hz n f.type q hq, g1, g2, h _ _ _ c0, h _ _ _ c1, h _ _ _ c2, h _ _ _ c3, h _ _ _ c4, h _ _ _ c5, h _ _ _ c6, h _ _ _ c7, h _ _ _ c8⟩
    · obtain ⟨b, off, ha, hb, hc⟩ := he.2.2 hn
      refine ⟨b, off, ha, by omega, fun i f hi => ?_⟩
      obtain ⟨q, hq, c0, c1, c2, c3, c4, c5⟩ := hc i f hi
      exact ⟨q, TyAt.mono h hz n f q hq, h _ _ _ c0, h _ _ _ c1, h _ _ _ c2, h _ _ _ c3, h _ _ _ c4, h _ _ _ c5⟩
/-- a type's six cells, to be written. -/
def UBox (w : World) (b : Nat) (q : Raw) : Prop :=
  w.cell? ⟨b, 0, none⟩ = some (.int .i64 q.kind) ∧ w.cell? ⟨b, 1, none⟩ = some (.int .i64 q.size) ∧ w.cell? ⟨b, 2, none⟩ = some (.bool q.packed) ∧ w.cell? ⟨b, 3, none⟩ = some (.slice q.fa q.fl q.fc) ∧ w.cell? ⟨b, 4, none⟩ = some (.int .i64 q.count) ∧ w.cell? ⟨b, 5, none⟩ = some (.slice q.ea q.el q.ec) ∧
    w.frozen? ⟨b, 0, none⟩ = false ∧ w.frozen? ⟨b, 1, none⟩ = false ∧ w.frozen? ⟨b, 2, none⟩ = false ∧ w.frozen? ⟨b, 3, none⟩ = false ∧ w.frozen? ⟨b, 4, none⟩ = false ∧ w.frozen? ⟨b, 5, none⟩ = false
/-- what lies in V lies in w, and not in the block B. -/
def Beside (V w : World) (B : Nat) : Prop := V.heap.size = w.heap.size ∧ ∀ b o v, V.cell? ⟨b, o, none⟩ = some v → b ≠ B ∧ w.cell? ⟨b, o, none⟩ = some v
/-- a type, written into a box. -/
def setU (w : World) (b : Nat) (q : Raw) : World :=
  ((((((w.setCell ⟨b, 0, none⟩ (.int .i64 q.kind)).setCell ⟨b, 1, none⟩ (.int .i64 q.size)).setCell ⟨b, 2, none⟩ (.bool q.packed)).setCell ⟨b, 3, none⟩ (.slice q.fa q.fl q.fc)).setCell ⟨b, 4, none⟩ (.int .i64 q.count)).setCell ⟨b, 5, none⟩ (.slice q.ea q.el q.ec))
theorem setU_size (w : World) (b : Nat) (q : Raw) : (setU w b q).heap.size = w.heap.size := by simp [setU]
theorem setU_far (w : World) (b : Nat) (q : Raw) {a o : Nat} (h : a ≠ b) : (setU w b q).cell? ⟨a, o, none⟩ = w.cell? ⟨a, o, none⟩ := by
  unfold setU
  have e : ∀ i, (⟨b, i, none⟩ : Addr) ≠ ⟨a, o, none⟩ := fun i h1 => h (congrArg Addr.block h1).symm
  repeat rw [World.cell?_setCell_other _ _ _ _ (e _)]
theorem below_setU {a w : World} {B : Nat} (h : Below a.heap.size a w) (hB : a.heap.size ≤ B) (q : Raw) : Below a.heap.size a (setU w B q) :=
  below_st (below_st (below_st (below_st (below_st (below_st h hB _) hB _) hB _) hB _) hB _) hB _
theorem cell_upd (w : World) (b i j : Nat) (v : Value) : ((w.setCell ⟨b, i, none⟩ v).cell? ⟨b, j, none⟩) = if i = j then (w.cell? ⟨b, j, none⟩).map (fun _ => v) else w.cell? ⟨b, j, none⟩ := by
  by_cases h : i = j
  · subst h
    rw [if_pos rfl]
    cases hc : w.cell? ⟨b, i, none⟩ with
    | some u => exact World.cell?_setCell_same _ _ _ hc
    | none =>
      simp only [Option.map_none]
      unfold World.cell? at hc ⊢
      simp only [World.setCell, Array.getElem?_modify]
      cases hb : w.heap[b]? with
      | none => simp [hb]
      | some o =>
        simp only [hb] at hc
        cases o with
        | cells c e f =>
          have hc2 : c[i]? = none := by simpa using hc
          have : c.size ≤ i := by simpa using hc2
          simp
          omega
        | _ => simp
  · rw [if_neg h]
    exact World.cell?_setCell_other _ _ _ _ (by simp [h])
theorem setU_box {w : World} {b : Nat} {q0 q : Raw} (h : UBox w b q0) : UBox (setU w b q) b q := by
  obtain ⟨c0, c1, c2, c3, c4, c5, f0, f1, f2, f3, f4, f5⟩ := h
  unfold UBox setU
  simp [cell_upd, World.frozen?_setCell, *]
theorem box_al {w : World} {b : Nat} {q : Raw} (h : UBox w b q) (hb : b < w.heap.size) (o : Obj) : UBox (w.alloc o) b q := by
  obtain ⟨c0, c1, c2, c3, c4, c5, f0, f1, f2, f3, f4, f5⟩ := h
  have hx := (below_al (Below.refl w.heap.size w) o)
  have k := fun i => hx.cell (p := ⟨b, i, none⟩) hb
  have l := fun i => hx.frozen (p := ⟨b, i, none⟩) hb
  exact ⟨(k _).trans c0, (k _).trans c1, (k _).trans c2, (k _).trans c3, (k _).trans c4, (k _).trans c5, (l _).trans f0, (l _).trans f1, (l _).trans f2, (l _).trans f3, (l _).trans f4, (l _).trans f5⟩
theorem beside_al {V w : World} {B : Nat} (h : Beside V w B) (hB : B < w.heap.size) (q : Raw) (c : Array Value) (t : TypeId) : Beside (V.alloc (.cells c t)) ((setU w B q).alloc (.cells c t)) B := by
  obtain ⟨h1, h2⟩ := h
  refine ⟨by simp [setU_size, h1], fun b o v hv => ?_⟩
  rw [alloc_cell] at hv ⊢
  rw [setU_size, ← h1]
  split at hv
  · rename_i hlt
    rw [if_pos hlt]
    obtain ⟨g1, g2⟩ := h2 b o v hv
    exact ⟨g1, (setU_far w B q g1).trans g2⟩
  · rename_i hlt
    rw [if_neg hlt]
    split at hv
    · rename_i he
      rw [if_pos he]
      exact ⟨by omega, hv⟩
    · cases hv
theorem tyG_at {V : World} {m : Nat} {u : Ty m} {q : Raw} (h : TyAt V m u q) :
    TyAt (V.alloc (.cells #[.string ⟨#[120]⟩, .int .i64 q.kind, .int .i64 q.size, .bool q.packed, .slice q.fa q.fl q.fc, .int .i64 q.count, .slice q.ea q.el q.ec, .bool false, .int .i64 0] 49)) (m + 1) (wrapG u) ⟨3, 0, false, some ⟨V.heap.size, 0, none⟩, 1, 1, 0, none, 0, 0⟩ := by
  refine ⟨rfl, rfl, rfl, rfl, rfl, rfl, (by decide : -9223372036854775808 ≤ (3 : Int) ∧ (3 : Int) ≤ 9223372036854775807), (by decide : -9223372036854775808 ≤ (0 : Int) ∧ (0 : Int) ≤ 9223372036854775807), (by decide : -9223372036854775808 ≤ (0 : Int) ∧ (0 : Int) ≤ 9223372036854775807), ⟨by simp, by simp, fun _ => ⟨V.heap.size, 0, rfl, by simp, fun i f hi => ?_⟩⟩, ⟨by simp, by simp, fun h => by simp at h⟩⟩
  match i, hi with
  | 0, hi =>
    obtain rfl : _ = f := by simpa [wrapG] using hi
    exact ⟨q, h.below (below_al (Below.refl _ _) _), (by decide : -9223372036854775808 ≤ (0 : Int) ∧ (0 : Int) ≤ 9223372036854775807), (by decide : (⟨#[120]⟩ : ByteArray).size ≤ 9223372036854775807), by simp [go_sem], by simp [go_sem], by simp [go_sem], by simp [go_sem], by simp [go_sem], by simp [go_sem], by simp [go_sem], by simp [go_sem], by simp [go_sem]⟩
  | i + 1, hi => simp [wrapG] at hi
theorem tyA_at {V : World} {m : Nat} {u : Ty m} {q : Raw} (h : TyAt V m u q) :
    TyAt (V.alloc (.cells #[.int .i64 q.kind, .int .i64 q.size, .bool q.packed, .slice q.fa q.fl q.fc, .int .i64 q.count, .slice q.ea q.el q.ec] 41)) (m + 1) (wrapA u) ⟨5, 0, false, none, 0, 0, 1, some ⟨V.heap.size, 0, none⟩, 1, 1⟩ := by
  refine ⟨rfl, rfl, rfl, rfl, rfl, rfl, (by decide : -9223372036854775808 ≤ (5 : Int) ∧ (5 : Int) ≤ 9223372036854775807), (by decide : -9223372036854775808 ≤ (0 : Int) ∧ (0 : Int) ≤ 9223372036854775807), (by decide : -9223372036854775808 ≤ (1 : Int) ∧ (1 : Int) ≤ 9223372036854775807), ⟨by simp, by simp, fun h => by simp at h⟩, ⟨by simp, by simp, fun _ => ⟨V.heap.size, 0, rfl, by simp, fun i f hi => ?_⟩⟩⟩
  match i, hi with
  | 0, hi =>
    obtain rfl : u = f := by simpa [wrapA] using hi
    exact ⟨q, h.below (below_al (Below.refl _ _) _), by simp [go_sem], by simp [go_sem], by simp [go_sem], by simp [go_sem], by simp [go_sem], by simp [go_sem]⟩
  | i + 1, hi => simp [wrapA] at hi
set_option maxRecDepth 100000 in
set_option maxHeartbeats 4000000 in
theorem kindDeep_walk (n : Nat) (t : Ty n) (r : Raw) (x : Nat) (hx : x < 256) (gr : Bool) (w : World) (hT : TyAt w n t r) : Calls Try.prog 10 #[r.val, .int .u8 x, .bool gr] w fun e w' => e = .returned (.bool true) ∧ Below w.heap.size w w' := by
  have A := Lib.hid awake_any
  have S1 := Lib.hid (fun W (hW : Below w.heap.size w W) => Sound_any n t r W (hT.below hW))
  have D1 := Lib.hid (fun W (hW : Below w.heap.size w W) => Depth_any n t r W (hT.below hW))
  have hr := depthF_rng n t 65 (by omega)
  have HT := Lib.hid hT
  clear hT
  obtain ⟨rk, rs, rp, fa, fl, fc, rc, ea, el, ec⟩ := r
  unfold Raw.val at S1 D1 ⊢
  simp only at S1 D1 ⊢
  by_cases hs : SoundF n t = 0
  · have hd : depthF n t 65 ≤ 64 := by
      unfold SoundF at hs
      split at hs
      · omega
      · omega
    have hs2 : soundF n t = 0 := by
      unfold SoundF at hs
      rw [if_neg (by omega)] at hs
      exact hs
    rw [hs] at S1
    have HE := Lib.hid (fun (m : Nat) (u : Ty m) (k : Int) h0 h1 => deep_end (n := n) (t := t) (m := m) (u := u) (k := k) h0 h1 hd)
    have H0 := Lib.hid (deep_0 hs2)
    clear hs hs2
    generalize depthF n t 65 = d at *
    have hx2 : (x : Int) < 256 := by omega
    go_enter Try.func10, Try.ntmps10
    go_wp2_with (first
      | (go_at_call 22; refine (S1.out _ (by repeat (first | exact Below.refl _ _ | refine below_mo ?_ _ | refine below_al ?_ _))).mono ?_; rintro e w1 ⟨rfl, p1, rfl⟩)
      | (go_at_call 24; refine (D1.out _ (by repeat (first | exact Below.refl _ _ | refine below_mo ?_ _ | refine below_al ?_ _))).mono ?_; rintro e w1 ⟨rfl, p2, rfl⟩))
    obtain ⟨hk0, hk1⟩ : 0 ≤ (x : Int) % 70 ∧ (x : Int) % 70 < 70 := by omega
    generalize (x : Int) % 70 = k at *
    go_loopw [9] (fun i wr => ∃ j : Int, 0 ≤ j ∧ j ≤ k ∧ i = .int .i64 j ∧ ∃ (m : Nat) (u : Ty m) (q : Raw) (V : World), DeepBy n t m u j ∧ TyAt V m u q ∧ Beside V wr (w.heap.size + 1 + p1.os.size + p2.os.size) ∧ UBox wr (w.heap.size + 1 + p1.os.size + p2.os.size) q ∧ (w.heap.size + 1 + p1.os.size + p2.os.size) < wr.heap.size ∧ Below (w.alloc (.cells #[.int .i64 rk, .int .i64 rs, .bool rp, .slice fa fl fc, .int .i64 rc, .slice ea el ec] 41)).heap.size (w.alloc (.cells #[.int .i64 rk, .int .i64 rs, .bool rp, .slice fa fl fc, .int .i64 rc, .slice ea el ec] 41)) wr) (fun i _ => (k - intOf i).toNat)
    case atStart =>
      refine ⟨0, by omega, by omega, rfl, n, t, ⟨rk, rs, rp, fa, fl, fc, rc, ea, el, ec⟩, (more (more (w.alloc (.cells #[.int .i64 rk, .int .i64 rs, .bool rp, .slice fa fl fc, .int .i64 rc, .slice ea el ec] 41)) p1) p2).alloc (.cells #[] 41), H0.out, HT.out.below (by repeat (first | exact Below.refl _ _ | refine below_mo ?_ _ | refine below_al ?_ _)), ⟨by simp [go_sem], fun b o v hv => ?_⟩, ?_, ?_, (by repeat (first | exact Below.refl _ _ | refine below_mo ?_ _ | refine below_al ?_ _))⟩
      · rw [alloc_cell] at hv ⊢
        split at hv
        · rename_i hlt
          rw [if_pos hlt]
          refine ⟨?_, hv⟩
          simp [go_sem] at hlt
          omega
        · split at hv <;> simp at hv
      · unfold UBox; simp [go_sem, ↓IntWalk.iteOmega] <;> (intros; omega)
      · simp [go_sem] <;> omega
    case round =>
      obtain ⟨j, hj0, hj1, rfl, m, u, q, V, hdb, hT, hV, hU, hsz, hB⟩ := hrel
      have HD := Lib.hid hdb
      have HTu := Lib.hid hT
      have HV := Lib.hid hV
      have HB := Lib.hid hB
      clear hdb hT hV hB
      obtain ⟨qk, qs, qp, qfa, qfl, qfc, qc, qea, qel, qec⟩ := q
      have HU := Lib.hid hU
      obtain ⟨c0, c1, c2, c3, c4, c5, f0, f1, f2, f3, f4, f5⟩ := hU
      simp only at c0 c1 c2 c3 c4 c5
      by_cases hlt : j < k
      · cases gr
        · skip
          go_wp2_with fail
          go_roundw
          case rel =>
            have HTn : Hid (TyAt (V.alloc (.cells #[.int .i64 qk, .int .i64 qs, .bool qp, .slice qfa qfl qfc, .int .i64 qc, .slice qea qel qec] 41)) (m + 1) (wrapA u) ⟨5, 0, false, none, 0, 0, 1, some ⟨wr.heap.size, 0, none⟩, 1, 1⟩) := Lib.hid (by rw [← HV.out.1]; exact tyA_at HTu.out)
            have HBn := Lib.hid (beside_al HV.out hsz ⟨5, 0, false, none, 0, 0, 1, some ⟨wr.heap.size, 0, none⟩, 1, 1⟩ #[.int .i64 qk, .int .i64 qs, .bool qp, .slice qfa qfl qfc, .int .i64 qc, .slice qea qel qec] 41)
            have HUn : Hid (UBox ((setU wr (w.heap.size + 1 + p1.os.size + p2.os.size) ⟨5, 0, false, none, 0, 0, 1, some ⟨wr.heap.size, 0, none⟩, 1, 1⟩).alloc (.cells #[.int .i64 qk, .int .i64 qs, .bool qp, .slice qfa qfl qfc, .int .i64 qc, .slice qea qel qec] 41)) (w.heap.size + 1 + p1.os.size + p2.os.size) ⟨5, 0, false, none, 0, 0, 1, some ⟨wr.heap.size, 0, none⟩, 1, 1⟩) := Lib.hid (box_al (setU_box HU.out) (by rw [setU_size]; exact hsz) _)
            have HWn := below_setU HB.out (B := (w.heap.size + 1 + p1.os.size + p2.os.size)) (by simp; omega) ⟨5, 0, false, none, 0, 0, 1, some ⟨wr.heap.size, 0, none⟩, 1, 1⟩
            simp only [setU] at HWn
            have HBn2 := HBn.out
            have HUn2 := HUn.out
            simp only [setU] at HBn2 HUn2
            have HDn := Lib.hid (deep_step hj0 HD.out (soundF_wrapA u HD.out.1) (depthF_wrapA u))
            exact ⟨j + 1, by omega, by omega, rfl, m + 1, wrapA u, ⟨5, 0, false, none, 0, 0, 1, some ⟨wr.heap.size, 0, none⟩, 1, 1⟩, V.alloc (.cells #[.int .i64 qk, .int .i64 qs, .bool qp, .slice qfa qfl qfc, .int .i64 qc, .slice qea qel qec] 41), HDn.out, HTn.out, HBn2, HUn2, (by simp; omega), below_al HWn _⟩
          case measure => simp [intOf]; omega
        · skip
          go_wp2_with fail
          go_roundw
          case rel =>
            have HTn : Hid (TyAt (V.alloc (.cells #[.string ⟨#[120]⟩, .int .i64 qk, .int .i64 qs, .bool qp, .slice qfa qfl qfc, .int .i64 qc, .slice qea qel qec, .bool false, .int .i64 0] 49)) (m + 1) (wrapG u) ⟨3, 0, false, some ⟨wr.heap.size, 0, none⟩, 1, 1, 0, none, 0, 0⟩) := Lib.hid (by rw [← HV.out.1]; exact tyG_at HTu.out)
            have HBn := Lib.hid (beside_al HV.out hsz ⟨3, 0, false, some ⟨wr.heap.size, 0, none⟩, 1, 1, 0, none, 0, 0⟩ #[.string ⟨#[120]⟩, .int .i64 qk, .int .i64 qs, .bool qp, .slice qfa qfl qfc, .int .i64 qc, .slice qea qel qec, .bool false, .int .i64 0] 49)
            have HUn : Hid (UBox ((setU wr (w.heap.size + 1 + p1.os.size + p2.os.size) ⟨3, 0, false, some ⟨wr.heap.size, 0, none⟩, 1, 1, 0, none, 0, 0⟩).alloc (.cells #[.string ⟨#[120]⟩, .int .i64 qk, .int .i64 qs, .bool qp, .slice qfa qfl qfc, .int .i64 qc, .slice qea qel qec, .bool false, .int .i64 0] 49)) (w.heap.size + 1 + p1.os.size + p2.os.size) ⟨3, 0, false, some ⟨wr.heap.size, 0, none⟩, 1, 1, 0, none, 0, 0⟩) := Lib.hid (box_al (setU_box HU.out) (by rw [setU_size]; exact hsz) _)
            have HWn := below_setU HB.out (B := (w.heap.size + 1 + p1.os.size + p2.os.size)) (by simp; omega) ⟨3, 0, false, some ⟨wr.heap.size, 0, none⟩, 1, 1, 0, none, 0, 0⟩
            simp only [setU] at HWn
            have HBn2 := HBn.out
            have HUn2 := HUn.out
            simp only [setU] at HBn2 HUn2
            have HDn := Lib.hid (deep_step hj0 HD.out (soundF_wrapG u HD.out.1) (depthF_wrapG u))
            exact ⟨j + 1, by omega, by omega, rfl, m + 1, wrapG u, ⟨3, 0, false, some ⟨wr.heap.size, 0, none⟩, 1, 1, 0, none, 0, 0⟩, V.alloc (.cells #[.string ⟨#[120]⟩, .int .i64 qk, .int .i64 qs, .bool qp, .slice qfa qfl qfc, .int .i64 qc, .slice qea qel qec, .bool false, .int .i64 0] 49), HDn.out, HTn.out, HBn2, HUn2, (by simp; omega), below_al HWn _⟩
          case measure => simp [intOf]; omega
      · obtain rfl : j = k := by omega
        have HBw := Lib.hid (below_next (below_al (Below.refl w.heap.size w) (.cells #[.int .i64 rk, .int .i64 rs, .bool rp, .slice fa fl fc, .int .i64 rc, .slice ea el ec] 41)) HB.out)
        have hTu : TyAt wr m u ⟨qk, qs, qp, qfa, qfl, qfc, qc, qea, qel, qec⟩ := TyAt.mono (fun b o v hv => (HV.out.2 b o v hv).2) (by rw [HV.out.1]; exact Nat.le_refl _) m u _ HTu.out
        have SU := Lib.hid (fun W (hW : Below wr.heap.size wr W) => Sound_any m u _ W (hTu.below hW))
        have DU := Lib.hid (fun W (hW : Below wr.heap.size wr W) => Depth_any m u _ W (hTu.below hW))
        clear hTu HTu HV
        unfold Raw.val at SU DU
        simp only at SU DU
        have KB := fun o => HB.out.cell (p := ⟨w.heap.size, o, none⟩) (by simp)
        have t0 : wr.cell? ⟨w.heap.size, 0, none⟩ = some (.int .i64 rk) := (KB 0).trans (by simp)
        have t1 : wr.cell? ⟨w.heap.size, 1, none⟩ = some (.int .i64 rs) := (KB 1).trans (by simp)
        have t2 : wr.cell? ⟨w.heap.size, 2, none⟩ = some (.bool rp) := (KB 2).trans (by simp)
        have t3 : wr.cell? ⟨w.heap.size, 3, none⟩ = some (.slice fa fl fc) := (KB 3).trans (by simp)
        have t4 : wr.cell? ⟨w.heap.size, 4, none⟩ = some (.int .i64 rc) := (KB 4).trans (by simp)
        have t5 : wr.cell? ⟨w.heap.size, 5, none⟩ = some (.slice ea el ec) := (KB 5).trans (by simp)
        clear KB
        have hsw : w.heap.size < wr.heap.size := by omega
        obtain ⟨E1, E2⟩ := HE.out m u j hk0 HD.out
        by_cases hdk : 64 < d + j
        · rw [E1 hdk] at SU
          clear E1 E2
          go_wp2_with (first
            | (go_at_call 19; refine (A.out _).mono ?_; rintro e w1 ⟨rfl, p3, rfl⟩)
            | (go_at_call 24; refine (D1.out _ (by repeat (first | exact HBw.out | exact Below.refl _ _ | refine below_mo ?_ _ | refine below_al ?_ _))).mono ?_; rintro e w1 ⟨rfl, p4, rfl⟩)
            | (go_at_call 22; refine (SU.out _ (by repeat (first | exact Below.refl _ _ | refine below_mo ?_ _ | refine below_al ?_ _))).mono ?_; rintro e w1 ⟨rfl, p5, rfl⟩))
          go_ret
          exact ⟨by simp, (by repeat (first | exact HBw.out | exact Below.refl _ _ | refine below_mo ?_ _ | refine below_al ?_ _))⟩
        · obtain ⟨g1, g2⟩ := E2 (by omega)
          rw [g1] at SU
          rw [g2] at DU
          clear E1 E2 g1 g2
          go_wp2_with (first
            | (go_at_call 24; refine (D1.out _ (by repeat (first | exact HBw.out | exact Below.refl _ _ | refine below_mo ?_ _ | refine below_al ?_ _))).mono ?_; rintro e w1 ⟨rfl, p4, rfl⟩))
          refine wp_quiet_more (by kernel_rfl) (by kernel_rfl) ?_
          repeat (go_big_quiet_step (first | (go_at_call 19; exact quiet_more (A.out _)) | (go_at_call 22; exact quiet_more (SU.out _ (by repeat (first | exact Below.refl _ _ | refine below_mo ?_ _ | refine below_al ?_ _)))) | (go_at_call 24; exact quiet_more (DU.out _ (by repeat (first | exact Below.refl _ _ | refine below_mo ?_ _ | refine below_al ?_ _)))) | (go_at_call 24; exact quiet_more (D1.out _ (by repeat (first | exact HBw.out | exact Below.refl _ _ | refine below_mo ?_ _ | refine below_al ?_ _))))))
          refine wpQuiet_nil ?_
          intro p6
          go_wp2
          go_ret
          exact ⟨by simp, (by repeat (first | exact HBw.out | exact Below.refl _ _ | refine below_mo ?_ _ | refine below_al ?_ _))⟩
  · have h2 : (SoundF n t != 0) = true := by simpa using hs
    clear hs
    generalize SoundF n t = U at *
    go_enter Try.func10, Try.ntmps10
    go_wp2_with (first
      | (go_at_call 19; refine (A.out _).mono ?_; rintro e w1 ⟨rfl, p1, rfl⟩)
      | (go_at_call 22; refine (S1.out _ (by repeat (first | exact Below.refl _ _ | refine below_mo ?_ _ | refine below_al ?_ _))).mono ?_; rintro e w1 ⟨rfl, p2, rfl⟩))
    go_ret
    exact ⟨by simp, (by repeat (first | exact Below.refl _ _ | refine below_mo ?_ _ | refine below_al ?_ _))⟩
end Go.Proofs.Ytjioinmiglblmaa
