/- Walk: what lies at a place that is there: the document's Find. Conditions: what came in lies in memory, and a row of as many globals fits. Walk: the statement WorldFinds. Conditions: what came in lies in memory, and a row of as many globals fits. The statement 'WorldFinds' of the program's functions holds: for every input the call returns true, and each argument reads afterwards as it did. No condition. -/
import Derived.Test.YtlbkloamabomcaaWldRPlace
import Derived.Test.YtlbkloamabomcaaWldLawMaps
import Derived.Test.YtlbkloamabomcaaLawKit
import Derived.Test.YtlbkloamabomcaaRows
namespace Go.Proofs.Ytlbkloamabomcaa
open Go.RowKit Go.Sort
set_option linter.unusedVariables false
set_option linter.unusedSimpArgs false
/-- a world in which nothing but two blocks has turned. -/
structure Ov2 (S T : Nat) (w w' : World) : Prop where
  os : w'.os = w.os
  tape : w'.tape = w.tape
  output : w'.output = w.output
  size : w.heap.size ≤ w'.heap.size
  block : ∀ k, k < w.heap.size → k ≠ S → k ≠ T → w'.heap[k]? = w.heap[k]?
  fz : ∀ c k, c < w.heap.size → w'.frozen? ⟨c, k, none⟩ = w.frozen? ⟨c, k, none⟩
theorem Ov2.refl {S T : Nat} {w : World} : Ov2 S T w w := ⟨rfl, rfl, rfl, Nat.le_refl _, fun _ _ _ _ => rfl, fun _ _ _ => rfl⟩
theorem Ov2.trans {S T : Nat} {a b c : World} (h : Ov2 S T a b) (k : Ov2 S T b c) : Ov2 S T a c :=
  ⟨k.os.trans h.os, k.tape.trans h.tape, k.output.trans h.output, Nat.le_trans h.size k.size, fun i hi hx hy => (k.block i (Nat.lt_of_lt_of_le hi h.size) hx hy).trans (h.block i hi hx hy), fun c j hc => (k.fz c j (Nat.lt_of_lt_of_le hc h.size)).trans (h.fz c j hc)⟩
theorem Ov2.of_below {S T : Nat} {a b : World} (k : Below a.heap.size a b) : Ov2 S T a b := ⟨k.os, k.tape, k.output, k.size, fun i hi _ _ => k.block i hi, fun c j hc => k.frozen (p := ⟨c, j, none⟩) hc⟩
theorem Ov2.below {S T : Nat} {a b c : World} (h : Ov2 S T a b) (k : Below b.heap.size b c) : Ov2 S T a c := h.trans (.of_below k)
theorem Ov2.alloc {S T : Nat} {a b : World} (h : Ov2 S T a b) (o : Obj) : Ov2 S T a (b.alloc o) := h.below (below_al (Below.refl _ _) o)
theorem Ov2.more {S T : Nat} {a b : World} (h : Ov2 S T a b) (p : Regrown) : Ov2 S T a (more b p) := h.below (below_mo (Below.refl _ _) p)
theorem Ov2.drew {S T : Nat} {a b : World} (h : Ov2 S T a b) : Ov2 S T a b.drew := h.below (below_dr (Below.refl _ _))
theorem Ov2.set {S T : Nat} {a b : World} (h : Ov2 S T a b) (c k : Nat) (v : Value) (hc : c = S ∨ c = T) : Ov2 S T a (b.setCell ⟨c, k, none⟩ v) := by
  have hb : Below c b (b.setCell ⟨c, k, none⟩ v) := (Below.refl c b).setCell (Nat.le_refl _) v
  refine ⟨hb.os.trans h.os, hb.tape.trans h.tape, hb.output.trans h.output, Nat.le_trans h.size hb.size, fun i hi hx hy => ?_, fun d j hd => ?_⟩
  · rw [← h.block i hi hx hy]
    exact Below.heap_setCell _ _ _ _ (by rcases hc with rfl | rfl <;> assumption)
  · rw [World.frozen?_setCell]
    exact h.fz d j hd
theorem Ov2.setS {S T : Nat} {a b : World} (h : Ov2 S T a b) (k : Nat) (v : Value) : Ov2 S T a (b.setCell ⟨S, k, none⟩ v) := h.set S k v (.inl rfl)
theorem Ov2.setT {S T : Nat} {a b : World} (h : Ov2 S T a b) (k : Nat) (v : Value) : Ov2 S T a (b.setCell ⟨T, k, none⟩ v) := h.set T k v (.inr rfl)
theorem Ov2.under {S T : Nat} {w a b : World} (h : Ov2 S T a b) (hb : Below w.heap.size w a) (hS : w.heap.size ≤ S) (hT : w.heap.size ≤ T) : Below w.heap.size w b :=
  ⟨h.os.trans hb.os, h.tape.trans hb.tape, h.output.trans hb.output, Nat.le_trans hb.size h.size, fun i hi => (h.block i (Nat.lt_of_lt_of_le hi hb.size) (by omega) (by omega)).trans (hb.block i hi)⟩
theorem Ov2.cell {S T : Nat} {a b : World} (h : Ov2 S T a b) {c k : Nat} (hc : c < a.heap.size) (hS : c ≠ S) (hT : c ≠ T) : b.cell? ⟨c, k, none⟩ = a.cell? ⟨c, k, none⟩ := World.cell?_of_block (w := a) (h.block c hc hS hT)
theorem ZAt.ov2 {S T R : Nat} {w w' : World} (h : ZAt w R) (ho : Ov2 S T w w') (hS : R ≠ S) (hT : R ≠ T) : ZAt w' R := by
  have hl := cell_lt2 h.z0
  exact ⟨(ho.cell hl hS hT).trans h.z0, (ho.cell hl hS hT).trans h.z1, (ho.cell hl hS hT).trans h.z2, (ho.cell hl hS hT).trans h.z3, (ho.cell hl hS hT).trans h.z4, (ho.cell hl hS hT).trans h.z5, fun k => (ho.fz R k hl).trans (h.zf k)⟩
/-- a spot and a type, cell by cell. -/
structure FkAt (w : World) (S T : Nat) (q : Raw) (sp : Sp) : Prop where
  s0 : w.cell? ⟨S, 0, none⟩ = some (.int .i64 sp.at_)
  s1 : w.cell? ⟨S, 1, none⟩ = some (.int .i64 sp.len)
  s2 : w.cell? ⟨S, 2, none⟩ = some (.int .i64 sp.kind)
  s3 : w.cell? ⟨S, 3, none⟩ = some (.bool sp.isBits)
  s4 : w.cell? ⟨S, 4, none⟩ = some (.int .i64 sp.bit)
  s5 : w.cell? ⟨S, 5, none⟩ = some (.int .i64 sp.width)
  t : TyB6 w T q.kind q.size q.packed q.fa q.fl q.fc q.count q.ea q.el q.ec
theorem FkAt.below {w w' : World} {S T : Nat} {q : Raw} {sp : Sp} (hb : Below w.heap.size w w') (h : FkAt w S T q sp) : FkAt w' S T q sp := by
  have hl := cell_lt2 h.s0
  have hl2 := cell_lt2 h.t.1
  have hc : ∀ k, w'.cell? ⟨S, k, none⟩ = w.cell? ⟨S, k, none⟩ := fun k => hb.cell (p := ⟨S, k, none⟩) hl
  have hd : ∀ k, w'.cell? ⟨T, k, none⟩ = w.cell? ⟨T, k, none⟩ := fun k => hb.cell (p := ⟨T, k, none⟩) hl2
  obtain ⟨s0, s1, s2, s3, s4, s5, y0, y1, y2, y3, y4, y5⟩ := h
  exact ⟨(hc _).trans s0, (hc _).trans s1, (hc _).trans s2, (hc _).trans s3, (hc _).trans s4, (hc _).trans s5, (hd _).trans y0, (hd _).trans y1, (hd _).trans y2, (hd _).trans y3, (hd _).trans y4, (hd _).trans y5⟩
theorem field_sz (s a : Int) (a2 : Option Addr) (n2 k2 : Nat) (a3 : Option Addr) (n3 k3 : Nat) (L : Bool) (w : World) : (Instr.field 33 (.agg #[.int .i64 s, .int .i64 a, .slice a2 n2 k2, .slice a3 n3 k3, .bool L]) 0).run Try.prog w = .ok (.int .i64 s) w := by kernel_rfl
/-- where a part leads on. -/
theorem partE_inv {n : Nat} {t : TyF (Ty n)} (hs : soundF (n + 1) t = 0) {p : Pt} {u : Ty n} (h : partE t p = (0, some u)) : (p.idx = 1 ∧ t.kind = 5 ∧ t.elem = [u] ∧ 1 ≤ t.count ∧ t.count ≤ 65536) ∨ (p.idx = 0 ∧ (t.kind = 3 ∨ t.kind = 4) ∧ ∃ (c : Nat) (f : FdF (Ty n)), ixK (fun f : FdF (Ty n) => nmE f.name p.field) t.fields = c ∧ t.fields[c]? = some f ∧ nmE f.name p.field = true ∧ (∀ (j : Nat) e, j < c → t.fields[j]? = some e → nmE e.name p.field = false) ∧ f.type = u) := by
  by_cases hA : p.idx = 1 ∧ isE p.field = true ∧ t.kind = 5
  · unfold partE at h
    rw [if_pos hA] at h
    rcases sound_cases n t hs with ⟨hk, _⟩ | ⟨_, _, _, _, h1, h2, e, he, _⟩ | ⟨hk, _⟩
    · omega
    · rw [he] at h
      injection h with _ h
      cases (Option.some.inj h)
      exact .inl ⟨hA.1, hA.2.2, he, h1, h2⟩
    · omega
  · by_cases hB : p.idx = 0 ∧ isE p.field = false ∧ (t.kind = 3 ∨ t.kind = 4)
    · unfold partE at h
      rw [if_neg hA, if_pos hB] at h
      have hg := ixK_ge (fun f : FdF (Ty n) => nmE f.name p.field) t.fields
      split at h
      · cases h
      · obtain ⟨c, hc⟩ : ∃ c : Nat, ixK (fun f : FdF (Ty n) => nmE f.name p.field) t.fields = c := ⟨_, (Int.toNat_of_nonneg (by omega)).symm⟩
        obtain ⟨f, hf, h1, h2⟩ := ixK_at _ t.fields c hc
        rw [hc, show ((c : Int)).toNat = c by omega, hf] at h
        injection h with _ h
        exact .inr ⟨hB.1, hB.2.2, c, f, hc, hf, h1, h2, Option.some.inj h⟩
    · unfold partE at h
      rw [if_neg hA, if_neg hB] at h
      cases h
/-- the document's Lay, of a type that may be laid. -/
theorem lay_ty {n : Nat} (t : Ty n) (r : Raw) (w W : World) (hE : checkF n t = 0) (hT : TyAt w n t r) (hW : Below w.heap.size w W) : Calls Try.prog 16 #[r.val] W fun e w' => ∃ a2 n2 k2 a3 n3 k3 L, e = .returned (.agg #[.int .i64 (formOf n t).1, .int .i64 (formOf n t).2, .slice a2 n2 k2, .slice a3 n3 k3, .bool L]) ∧ ∃ p : Regrown, w' = more W p := by
  obtain ⟨_, hs, _, g, hg, hg2⟩ := checkF_zero hE
  refine (lay_any n t r W hs (hT.below hW)).mono (fun e w' (h : LayC n t W e w') => ?_)
  obtain ⟨⟨s, a, a2, n2, k2, a3, n3, k3, L, he, _, h2, _⟩, hp⟩ := h
  obtain ⟨rfl, rfl⟩ := h2 g hg
  rw [hg2]
  exact ⟨a2, n2, k2, a3, n3, k3, L, he, hp⟩
/-- the document's Lay, of a group: its rows. -/
theorem lay_rows {n : Nat} (t : TyF (Ty n)) (r : Raw) (w W : World) (hE : checkF (n + 1) t = 0) (hk : t.kind = 3 ∨ t.kind = 4) (hT : TyAt w (n + 1) t r) (hW : Below w.heap.size w W) : Calls Try.prog 16 #[r.val] W fun e w' => ∃ s a g2 k2 g3 k3 L, e = .returned (.agg #[.int .i64 s, .int .i64 a, .slice (some ⟨g2, 0, none⟩) t.fields.length k2, .slice (some ⟨g3, 0, none⟩) t.fields.length k3, .bool L]) ∧ t.fields.length ≤ k2 ∧ t.fields.length ≤ k3 ∧ FbAt w' g2 g3 (fbF (n + 1) t) ∧ ∃ p : Regrown, w' = more W p := by
  obtain ⟨_, hs, _, g, hg, hg2⟩ := checkF_zero hE
  obtain ⟨q, hq, _⟩ := grp_parts n t hk hg
  have hlen : 1 ≤ t.fields.length := by
    rcases sound_cases n t hs with ⟨h, _⟩ | ⟨h, _⟩ | ⟨_, _, _, _, h1, h2, _⟩
    · omega
    · omega
    · exact h1
  have hlf : (fbF (n + 1) t).length = t.fields.length := fbK_len _ _ t _ q hq
  refine (lay_any (n + 1) t r W hs (hT.below hW)).mono (fun e w1 (h : LayC (n + 1) t W e w1) => ?_)
  obtain ⟨⟨s, a, a2, n2, k2, a3, n3, k3, L, he, _, _, h3⟩, hp⟩ := h
  obtain ⟨e2, e3, o2, o3⟩ := h3 ⟨hk, q, hq⟩
  have o2' : w1.ownsRow W.heap.size 3 1 (.slice a2 n2 k2) n2 (((fbF (n + 1) t).map (·.1)).map fun x => .int .i64 x) := by rw [List.map_map]; exact o2
  have o3' : w1.ownsRow W.heap.size 3 1 (.slice a3 n3 k3) n3 (((fbF (n + 1) t).map (·.2)).map fun x => .int .i64 x) := by rw [List.map_map]; exact o3
  have hne : fbF (n + 1) t ≠ [] := fun h => by rw [h] at hlf; simp at hlf; omega
  obtain ⟨_, g2, rfl, b1, b2, _, b4⟩ := ints_at o2' (by simpa using hne)
  obtain ⟨_, g3, rfl, c1, c2, _, c4⟩ := ints_at o3' (by simpa using hne)
  rw [hlf] at e2 e3
  subst e2 e3
  exact ⟨s, a, g2, k2, g3, k3, L, he, b2, c2, ⟨b1, c1, fun i x hi => ⟨b4 i _ (by rw [List.getElem?_map, hi]; rfl), c4 i _ (by rw [List.getElem?_map, hi]; rfl)⟩⟩, hp⟩
section
variable {n : Nat}
set_option maxRecDepth 100000 in
set_option maxHeartbeats 12800000 in
theorem rFind_yes (l : List (Vr n)) (a : Option Addr) (c : Nat) (w : World) (hV : VrsAt w l a c) (hr : l.length * 32 ≤ 140737488355328) (nm : ByteArray) (ps : List Pt) (pa : Option Addr) (pc : Nat) (hP : PtsAt w ps pa pc) (ix : List Nat) (ia : Option Addr) (ic : Nat) (hI : IxAt w ix ia ic) (hE : worldE l = 0) {m : Nat} {u : Ty m}
    (hps : ∀ p, p ∈ ps → p.idx ≤ 1) (hl : ix.length = cntP ps) {i : Nat} {v : Vr n} (hix : ixK (fun v : Vr n => nmE v.name nm) l = i) (hv : l[i]? = some v) (hgo : goP n v.type ps = (0, some ⟨m, u⟩)) {RS : Option Sp} (hRS : findP n v.type (startS l i v) ps ix = RS) :
    Calls Try.prog 27 #[.slice a l.length c, .agg #[.string nm, .slice pa ps.length pc], .slice ia ix.length ic] w (Gives w (.tuple #[(resSp RS (tkind m u)).val, .bool RS.isSome])) := by
  have MP := Lib.hid (fun W hW => rmap_yes l a c w W hV hr hE hW)
  have HPT := Lib.hid hP.2.2
  have hpc1 := hP.1
  have hpc2 := hP.2.1
  have hic1 := hI.1
  have hic2 := hI.2.1
  have HI := Lib.hid hI
  have HV := Lib.hid hV.2.2
  have hc1 := hV.1
  have hc2 := hV.2.1
  have hil : i < l.length := (List.getElem?_eq_some_iff.1 hv).1
  have hbnd : (l.length : Int) ≤ 4398046511104 := by omega
  obtain ⟨hcv, hwi⟩ := start_in hE hv
  have HG := Lib.hid (glK_get l l.length (Nat.le_refl _))
  have HIX := Lib.hid hix
  have HVI := Lib.hid hv
  have HST := Lib.hid hRS
  have HGO := Lib.hid hgo
  have HWI := Lib.hid hwi
  have HCV := Lib.hid hcv
  have HLN := Lib.hid hl
  have HPS := Lib.hid hps
  have hfs := field_sz
  clear hV hP hix hv hgo hRS hps hI hcv hwi hl hE
  go_enter Try.func27, Try.ntmps27
  go_wp2_with (go_at_call 22; refine (MP.out _ (by repeat (first | with_reducible exact Below.refl _ _ | with_reducible refine below_mo ?_ _ | with_reducible refine below_al ?_ _))).mono ?_; rintro e w1 ⟨ad, cg, rfl, hgl, p1, rfl⟩; have HGL := Lib.hid hgl; clear hgl)
  obtain ⟨G, rfl, hg1, hg2, _, hg4⟩ := HGL.out (by omega)
  have HG4 := Lib.hid hg4
  clear hg4 HGL
  refine wp_letter (R := fun W => Below w.heap.size w W ∧ W.cell? ⟨w.heap.size, 0, none⟩ = some (.string nm) ∧ W.cell? ⟨w.heap.size, 1, none⟩ = some (.slice pa ps.length pc) ∧ ZAt W (w.heap.size + 1) ∧ GlAt W G (glK l l.length) ∧ FkAt W (w.heap.size + 1 + 1 + p1.os.size) (w.heap.size + 1 + 1 + p1.os.size + 1) zRaw zeroSp ∧ (∀ k, W.frozen? ⟨w.heap.size + 1 + 1 + p1.os.size, k, none⟩ = false) ∧ (∀ k, W.frozen? ⟨w.heap.size + 1 + 1 + p1.os.size + 1, k, none⟩ = false) ∧ G < w.heap.size + 1 + 1 + p1.os.size) ?letA ?_
  case letA =>
    have hGl := HG4.out.1
    refine ⟨?_, ?_, ?_, ⟨?_, ?_, ?_, ?_, ?_, ?_, fun k => ?_⟩, HG4.out.below ?gb, ⟨?_, ?_, ?_, ?_, ?_, ?_, ?_, ?_, ?_, ?_, ?_, ?_⟩, fun k => ?_, fun k => ?_, ?gs⟩
    case gb => repeat (first | with_reducible exact Below.refl _ _ | with_reducible refine below_mo ?_ _ | with_reducible refine below_al ?_ _)
    case gs => simp [go_sem] at hGl; omega
    · repeat (first | with_reducible exact Below.refl _ _ | with_reducible refine below_mo ?_ _ | with_reducible refine below_al ?_ _)
    any_goals (simp [zRaw, zeroSp, go_sem, ↓IntWalk.iteOmega]; done)
    all_goals (simp [go_sem, ↓IntWalk.iteOmega]; first | done | (intro h; omega) | trace_state)
  rintro wA ⟨hA1, x0, x1, hz, hGA, hfk, sf, tf, hGS⟩
  have HA1 := Lib.hid hA1
  have HZ := Lib.hid hz
  have HGA := Lib.hid hGA
  have HFK := Lib.hid hfk
  have hbs := hA1.size
  have hl1 := cell_lt2 x1
  have hlR := cell_lt2 hz.z0
  have hlS := cell_lt2 hfk.s0
  have hlT := cell_lt2 hfk.t.1
  have hlG := hGA.1
  have hRS1 : w.heap.size + 1 < w.heap.size + 1 + 1 + p1.os.size := by omega
  generalize hSS : w.heap.size + 1 + 1 + p1.os.size = SB at *
  generalize hTT : SB + 1 = TB at *
  have hST : ¬ SB = TB := by omega
  have hTS : ¬ TB = SB := by omega
  clear hA1 hz hGA hfk HG4 MP
  go_loopw [13] (fun v13 wr => ∃ (I F A L : Int) (q : Raw), -1 ≤ I ∧ I < l.length ∧ v13 = .int .i64 I ∧ FstK (fun v => nmE v.name nm) l I F ∧ FkAt wr SB TB q ⟨A, L, 0, false, 0, 0⟩ ∧ (F = -1 ∨ ∃ (f : Nat) (x : Vr n), F = f ∧ l[f]? = some x ∧ A = 65536 + stW (atK l f) (vF x) ∧ L = (vF x).1 ∧ TyAt w n x.type q) ∧ Ov2 SB TB wA wr) (fun v13 _ => (intOf v13 + 1).toNat)
  case atStart => exact ⟨(l.length : Int) - 1, -1, 0, 0, zRaw, by omega, by omega, by go_num, FstK.start _ _, HFK.out, .inl rfl, Ov2.refl⟩
  case round =>
    obtain ⟨I, F, A, L, q, hI0, hI1, rfl, hF, hfk, hcs, hov⟩ := hrel
    have HF := Lib.hid hF
    have HFK2 := Lib.hid hfk
    have HCS := Lib.hid hcs
    have HOV := Lib.hid hov
    have hsr := hov.size
    have x0r := (hov.cell (k := 0) hl1 (by omega) (by omega)).trans x0
    have HBR : Hid (Below w.heap.size w wr) := Lib.hid (hov.under HA1.out (by omega) (by omega))
    have hlSr := cell_lt2 hfk.s0
    have hlTr := cell_lt2 hfk.t.1
    have sfr : ∀ k, wr.frozen? ⟨SB, k, none⟩ = false := fun k => (hov.fz SB k hlS).trans (sf k)
    have tfr : ∀ k, wr.frozen? ⟨TB, k, none⟩ = false := fun k => (hov.fz TB k hlT).trans (tf k)
    clear hF hfk hcs hov
    by_cases hge : 0 ≤ I
    · obtain ⟨j, rfl⟩ : ∃ j : Nat, I = j := ⟨I.toNat, by omega⟩
      obtain ⟨b, off, rfl, hb, hvs⟩ := HV.out (by omega)
      obtain ⟨x, hx⟩ := get_some l j (by omega)
      obtain ⟨q2, hq2, hnm, c0, c1, c2, c3, c4, c5, c6⟩ := hvs j x hx
      have hcc : ∀ (o : Nat) (y : Value), w.cell? ⟨b, o, none⟩ = some y → wr.cell? ⟨b, o, none⟩ = some y := fun o y hy => (HBR.out.cell (p := ⟨b, o, none⟩) hb).trans hy
      replace c0 := hcc _ _ c0
      replace c1 := hcc _ _ c1
      replace c2 := hcc _ _ c2
      replace c3 := hcc _ _ c3
      replace c4 := hcc _ _ c4
      replace c5 := hcc _ _ c5
      replace c6 := hcc _ _ c6
      have hbr : b < wr.heap.size := by omega
      have hbS : ¬ SB = b := by omega
      have hbT : ¬ TB = b := by omega
      obtain ⟨n0, n1, n2⟩ := HGA.out.2 j _ (HG.out j x (by omega) hx)
      simp only at n0 n1 n2
      replace n1 := (HOV.out.cell hlG (by omega) (by omega)).trans n1
      replace n2 := (HOV.out.cell hlG (by omega) (by omega)).trans n2
      have hGr : G < wr.heap.size := by omega
      have hSG : ¬ SB = G := by omega
      have hTG : ¬ TB = G := by omega
      have HHIT := Lib.hid (fun h => FstK.hit (P := fun v : Vr n => nmE v.name nm) (r := F) hx h)
      have HMISS := Lib.hid (fun h => HF.out.miss hx h)
      have HNEW : Hid (∃ (f : Nat) (y : Vr n), (j : Int) = f ∧ l[f]? = some y ∧ 65536 + stW (atK l j) (vF x) = 65536 + stW (atK l f) (vF y) ∧ (vF x).1 = (vF y).1 ∧ TyAt w n y.type q2) := Lib.hid ⟨j, x, rfl, hx, rfl, rfl, hq2⟩
      generalize 65536 + stW (atK l j) (vF x) = A2 at *
      generalize (vF x).1 = L2 at *
      generalize hxn : x.name = xn at *
      clear hvs hq2 hcc hx HF n0
      obtain ⟨gk, gs, gp, gfa, gfl, gfc, gc, gea, gel, gec⟩ := q2
      simp only at c1 c2 c3 c4 c5 c6
      obtain ⟨s0, s1, s2, s3, s4, s5, y0, y1, y2, y3, y4, y5⟩ := HFK2.out
      simp only at s0 s1 s2 s3 s4 s5
      cases hm : nmE xn nm
      · have hm' : (xn.toList == nm.toList) = false := hm
        have HMI := Lib.hid (HMISS.out hm)
        clear HMISS HHIT hm HNEW hxn
        go_upto_region 7 with fail
        refine wp_quiet_more (by kernel_rfl) (by kernel_rfl) ?_
        repeat (go_big_quiet_step (fail))
        refine wpQuiet_nil ?_
        intro p8
        go_wp2_with fail
        go_roundw
        case rel => exact ⟨(j : Int) - 1, F, A, L, q, by omega, by omega, by go_num, HMI.out, HFK2.out.below (more_below _ _), HCS.out, HOV.out.more _⟩
        case measure => first | (simp [intOf]; done) | (simp [intOf]; omega)
      · have hm' : (xn.toList == nm.toList) = true := hm
        have HHI := Lib.hid (HHIT.out hm)
        clear HMISS HHIT hm HCS hxn
        go_upto_region 7 with fail
        refine wp_quiet_more (by kernel_rfl) (by kernel_rfl) ?_
        repeat (go_big_quiet_step (fail))
        refine wpQuiet_nil ?_
        intro p8
        go_wp2_with fail
        go_roundw
        case rel =>
          refine ⟨(j : Int) - 1, j, A2, L2, ⟨gk, gs, gp, gfa, gfl, gfc, gc, gea, gel, gec⟩, by omega, by omega, by go_num, HHI.out, ⟨?_, ?_, ?_, ?_, ?_, ?_, ?_, ?_, ?_, ?_, ?_, ?_⟩, .inr HNEW.out, ?ovH⟩
          case ovH => repeat (first | with_reducible exact HOV.out | with_reducible refine Ov2.setS ?_ _ _ | with_reducible refine Ov2.setT ?_ _ _ | with_reducible refine Ov2.more ?_ _ | with_reducible refine Ov2.alloc ?_ _)
          all_goals (simp [go_sem, ↓IntWalk.iteOmega, cell_upd2, s0, s1, s2, s3, s4, s5, y0, y1, y2, y3, y4, y5]; done)
        case measure => first | (simp [intOf]; done) | (simp [intOf]; omega)
    · obtain rfl : I = -1 := by omega
      have hFi : F = i := HF.out.fin.trans HIX.out
      subst hFi
      have HQ : Hid (A = (startS l i v).at_ ∧ L = (startS l i v).len ∧ TyAt w n v.type q) := Lib.hid (by
        rcases HCS.out with h | ⟨f, x, h1, h2, h3, h4, h5⟩
        · omega
        · obtain rfl : f = i := by omega
          rw [HVI.out] at h2
          cases h2
          exact ⟨h3, h4, h5⟩)
      obtain ⟨hA, hL, hQ⟩ := HQ.out
      have HQT := Lib.hid hQ
      have HST2 : Hid (findP n v.type ⟨A, L, 0, false, 0, 0⟩ ps ix = RS) := Lib.hid (by rw [hA, hL]; exact HST.out)
      have HWI2 : Hid (WIn n v.type A) := Lib.hid (by rw [hA]; exact HWI.out)
      clear hA hL hQ HQ HCS HF HIX HST HWI HG HVI
      obtain ⟨wB, hwB⟩ : ∃ W, W = wr := ⟨_, rfl⟩
      subst hwB
      have HZB := Lib.hid (HZ.out.ov2 HOV.out (by omega) (by omega))
      have x1B := (HOV.out.cell (k := 1) hl1 (by omega) (by omega)).trans x1
      have hXB : w.heap.size < wB.heap.size := by omega
      have hRB := cell_lt2 HZB.out.z0
      clear x0r x0 x1 HZ HGA hGS hlG HFK HV hg1 hg2
      go_wp2_with fail
      go_loopw [14, 15] (fun v14 v15 wr => ∃ (j k m' : Nat) (u' : Ty m') (S' : Sp) (q' : Raw), j ≤ ps.length ∧ v15 = .int .i64 j ∧ v14 = .int .i64 k ∧ k + cntP (ps.drop j) = ix.length ∧ goP n v.type ps = goP m' u' (ps.drop j) ∧ checkF m' u' = 0 ∧ findP n v.type ⟨A, L, 0, false, 0, 0⟩ ps ix = findP m' u' S' (ps.drop j) (ix.drop k) ∧ WIn m' u' S'.at_ ∧ FkAt wr SB TB q' S' ∧ TyAt w m' u' q' ∧ Ov2 SB TB wB wr) (fun _ v15 _ => ps.length - (intOf v15).toNat)
      case atStart => exact ⟨0, 0, n, v.type, ⟨A, L, 0, false, 0, 0⟩, q, by omega, rfl, rfl, by rw [List.drop_zero, HLN.out]; omega, by rw [List.drop_zero], HCV.out, by rw [List.drop_zero, List.drop_zero], HWI2.out, HFK2.out, HQT.out, Ov2.refl⟩
      case round =>
        obtain ⟨j, k, m', u', S', q', hjl, rfl, rfl, hkc, hg, hcu, hf, hwi, hfk, hqu, hov⟩ := hrel
        have HG := Lib.hid hg
        have HF := Lib.hid hf
        have HCU := Lib.hid hcu
        have HW2 := Lib.hid hwi
        have HKC := Lib.hid hkc
        have HQU := Lib.hid hqu
        have HO2 := Lib.hid hov
        have HFK3 := Lib.hid hfk
        have hsr2 := hov.size
        have HBW : Hid (Below w.heap.size w wr) := Lib.hid (hov.under HBR.out (by omega) (by omega))
        have hbw := HBW.out.size
        have HZr := Lib.hid (HZB.out.ov2 hov (by omega) (by omega))
        have x1r := (hov.cell (k := 1) hXB (by omega) (by omega)).trans x1B
        have hXr : w.heap.size < wr.heap.size := by omega
        have hlS2 := cell_lt2 hfk.s0
        have hlT2 := cell_lt2 hfk.t.1
        have sf2 : ∀ k, wr.frozen? ⟨SB, k, none⟩ = false := fun k => (hov.fz SB k hlSr).trans (sfr k)
        have tf2 : ∀ k, wr.frozen? ⟨TB, k, none⟩ = false := fun k => (hov.fz TB k hlTr).trans (tfr k)
        clear hg hcu hf hwi hkc hfk hqu hov
        by_cases hlt : (j : Int) < ps.length
        · obtain ⟨pb, poff, rfl, hpb, hpp⟩ := HPT.out (by omega)
          obtain ⟨pt, hpt⟩ := get_some ps j (by omega)
          obtain ⟨hnf, d0, ka, kc, d1, hkc1, hkc2⟩ := hpp j pt hpt
          replace d0 := (HBW.out.cell (p := ⟨pb, poff + j * 2, none⟩) hpb).trans d0
          replace d1 := (HBW.out.cell (p := ⟨pb, poff + j * 2 + 1, none⟩) hpb).trans d1
          have hpbr : pb < wr.heap.size := by omega
          have hdr := drop_at hpt
          rw [hdr] at HG HF HKC
          have hkc3 : k + (pt.idx + cntP (ps.drop (j + 1))) = ix.length := HKC.out
          clear hpp hpt hdr HKC
          cases m' with
          | zero => exact nomatch u'
          | succ m' =>
            have hsu := (checkF_zero HCU.out).2.1
            obtain ⟨uu, hpe⟩ : ∃ uu, partE (n := m') u' pt = (0, some uu) := by
              rcases partE_cases (n := m') (t := u') hsu pt with ⟨uu, h1, _⟩ | ⟨er, h1, h2⟩
              · exact ⟨uu, h1⟩
              · have h3 := HG.out
                rw [goP_none h1, HGO.out] at h3
                cases h3
            have HG2 : Hid (goP n v.type ps = goP m' uu (ps.drop (j + 1))) := Lib.hid (HG.out.trans (goP_some hpe _))
            rcases partE_inv hsu hpe with ⟨h1, hk5, hel, hcn1, hcn2⟩ | ⟨h1, hk34, cI, f, hcI, hfI, hnI, hbI, hfu⟩
            · obtain ⟨hcuu, hg0, hg1, hg2⟩ := checkF_elem (n := m') (t := u') HCU.out hk5 hel
              have hwi := HW2.out
              have hA0 := hwi.1
              have hA1 := hwi.2.2 (fun h9 => by rw [show tkind (m' + 1) u' = 5 from hk5] at h9; omega)
              rw [← hg2] at hA1
              obtain ⟨i0, hi0⟩ := get_some ix k (by omega)
              have hdi := drop_at hi0
              obtain ⟨ib, ioff, rfl, hib, hics⟩ := HI.out.2.2 (by omega)
              obtain ⟨hi64, ixc⟩ := hics k i0 hi0
              replace ixc := (HBW.out.cell (p := ⟨ib, ioff + k, none⟩) hib).trans ixc
              obtain ⟨e1, e2, e3, e4, e5, e6, e7, e8, e9, hfd, he⟩ := HQU.out
              obtain ⟨qk, qs, qp, qfa, qfl, qfc, qc, qea, qel, qec⟩ := q'
              rw [hel] at e6
              simp only at e5 e6 he
              obtain rfl : qel = 1 := by simpa using e6
              obtain ⟨eb, eoff, rfl, heb, hecs⟩ := he.2.2 (by omega)
              obtain ⟨q2, hq2, g0, g1, g2, g3, g4, g5⟩ := hecs 0 uu (by rw [hel]; rfl)
              simp only [Nat.zero_mul, Nat.add_zero] at g0 g1 g2 g3 g4 g5
              have hec := he.1
              have hem := he.2.1
              have hcc : ∀ (o : Nat) (x : Value), w.cell? ⟨eb, o, none⟩ = some x → wr.cell? ⟨eb, o, none⟩ = some x := fun o x hx => (HBW.out.cell (p := ⟨eb, o, none⟩) heb).trans hx
              replace g0 := hcc _ _ g0
              replace g1 := hcc _ _ g1
              replace g2 := hcc _ _ g2
              replace g3 := hcc _ _ g3
              replace g4 := hcc _ _ g4
              replace g5 := hcc _ _ g5
              obtain ⟨s0, s1, s2, s3, s4, s5, y0, y1, y2, y3, y4, y5⟩ := HFK3.out
              simp only at y0 y1 y2 y3 y4 y5
              have LYK := Lib.hid (fun W hW => lay_ty uu q2 w W hcuu hq2 hW)
              have hstp : stepS (n := m') u' S' pt (ix.drop k) = if TyF.count (α := Ty m') u' ≤ i0 then none else some (uu, ⟨S'.at_ + i0 * (formOf m' uu).1, (formOf m' uu).1, S'.kind, S'.isBits, S'.bit, S'.width⟩, ix.drop (k + 1)) := by
                unfold stepS
                rw [if_pos h1, hel, hdi]
                rfl
              have HSTP := Lib.hid hstp
              have HQ2 := Lib.hid hq2
              have HNX := Lib.hid (fun S2 ix2 h9 => step_next (n := m') (t := u') HCU.out hpe HW2.out (ix := ix.drop k) (by rw [h1, hdi]; simp) (u' := uu) (S' := S2) (ix' := ix2) h9)
              obtain ⟨pf, px⟩ := pt
              simp only at h1 d0 d1 hkc1 hkc3
              subst h1
              have hqc : qc = TyF.count (α := Ty m') u' := e5
              rw [← hqc] at HSTP hcn1 hcn2 hg2 hA1
              have hebr : eb < wr.heap.size := by omega
              have hibr : ib < wr.heap.size := by omega
              have hSe : ¬ SB = eb := by omega
              have hTe : ¬ TB = eb := by omega
              have hSi : ¬ SB = ib := by omega
              have hTi : ¬ TB = ib := by omega
              have hkI : (k : Int) < ix.length := by omega
              have hcnt2 : k + 1 + cntP (ps.drop (j + 1)) = ix.length := by omega
              clear e1 e2 e3 e4 e5 e6 e7 e8 e9 hfd he hecs hcc hq2 hcuu hstp hqc hel hk5 hics hi0 hdi hwi hpe hsu
              generalize (formOf m' uu).1 = gz at *
              generalize (formOf m' uu).2 = ga at *
              obtain ⟨gk, gs, gp, gfa, gfl, gfc, gc, gea, gel, gec⟩ := q2
              unfold Raw.val at LYK
              simp only at g0 g1 g2 g3 g4 g5 LYK
              by_cases hge : qc ≤ (i0 : Int)
              · have hRSn : RS = none := by rw [← HST2.out, HF.out]; exact findP_none (by rw [HSTP.out, if_pos hge]) _
                subst hRSn
                obtain ⟨z0, z1, z2, z3, z4, z5, zf⟩ := HZr.out
                clear HSTP HNX LYK
                go_upto_region 15 with fail
                refine wp_quiet_more (by kernel_rfl) (by kernel_rfl) ?_
                repeat (go_big_quiet_step (fail))
                refine wpQuiet_nil ?_
                intro p8
                go_wp2_with fail
                refine bodyPost_ret (v := .tuple #[.agg #[.int .i64 0, .int .i64 0, .int .i64 0, .bool false, .int .i64 0, .int .i64 0], .bool false]) ?hresA rfl ?postA
                case hresA =>
                  refine ret_ct (cs := [.int .i64 0, .int .i64 0, .int .i64 0, .bool false, .int .i64 0, .int .i64 0]) (t := 7) (c := 6) rfl rfl rfl Try.underlying42 rfl (by kernel_rfl) (range6 ?_ ?_ ?_ ?_ ?_ ?_)
                  all_goals simp [go_sem, ↓IntWalk.iteOmega, cell_upd2, z0, z1, z2, z3, z4, z5]
                case postA => exact Gives.mk rfl (by repeat (first | with_reducible exact HBW.out | with_reducible refine below_st ?_ (by simp <;> omega) _ | with_reducible refine below_mo ?_ _))
              · have hst2 : stepS (n := m') u' S' ⟨pf, 1⟩ (ix.drop k) = some (uu, ⟨S'.at_ + i0 * gz, gz, S'.kind, S'.isBits, S'.bit, S'.width⟩, ix.drop (k + 1)) := by rw [HSTP.out, if_neg hge]
                obtain ⟨_, hc2, hw2, _⟩ := HNX.out _ _ hst2
                have HC2 := Lib.hid hc2
                have HW3 := Lib.hid hw2
                have HF2 : Hid (findP n v.type ⟨A, L, 0, false, 0, 0⟩ ps ix = findP m' uu ⟨S'.at_ + i0 * gz, gz, S'.kind, S'.isBits, S'.bit, S'.width⟩ (ps.drop (j + 1)) (ix.drop (k + 1))) := Lib.hid (HF.out.trans (findP_some hst2 _))
                have hm0 : 0 ≤ (i0 : Int) * gz := Int.mul_nonneg (by omega) hg0
                have hm1 : (i0 : Int) * gz + gz ≤ gz * qc := by
                  have h9 : gz * ((i0 : Int) + 1) ≤ gz * qc := Int.mul_le_mul_of_nonneg_left (by omega) hg0
                  rw [Int.mul_add, Int.mul_one, Int.mul_comm] at h9
                  omega
                clear hst2 hc2 hw2 HNX HSTP HF HG
                go_upto_region 15 with fail
                refine wp_quiet_more (by kernel_rfl) (by kernel_rfl) ?_
                repeat (go_big_quiet_step (fail))
                refine wpQuiet_nil ?_
                intro p8
                go_upto_region 19 with (go_at_call 16; refine (LYK.out _ (by repeat (first | with_reducible exact HBW.out | with_reducible refine below_st ?_ (by simp <;> omega) _ | with_reducible refine below_mo ?_ _ | with_reducible refine below_al ?_ _))).mono ?_; rintro e w9 ⟨ya, yn, yk, za, zn, zk, yL, rfl, p7, rfl⟩)
                refine wp_letter (R := fun W => Ov2 SB TB wr W ∧ FkAt W SB TB ⟨gk, gs, gp, gfa, gfl, gfc, gc, gea, gel, gec⟩ S') ?letC ?_
                case letC =>
                  refine ⟨?ovC, ⟨?_, ?_, ?_, ?_, ?_, ?_, ?_, ?_, ?_, ?_, ?_, ?_⟩⟩
                  case ovC => repeat (first | with_reducible exact Ov2.refl | with_reducible refine Ov2.setS ?_ _ _ | with_reducible refine Ov2.setT ?_ _ _ | with_reducible refine Ov2.more ?_ _ | with_reducible refine Ov2.alloc ?_ _)
                  all_goals (simp [go_sem, ↓IntWalk.iteOmega, cell_upd2, s0, s1, s2, s3, s4, s5, y0, y1, y2, y3, y4, y5]; done)
                rintro wC ⟨hoC, t0, t1, t2, t3, t4, t5, v0, v1, v2, v3, v4, v5⟩
                simp only at v0 v1 v2 v3 v4 v5
                have HOC := Lib.hid (HO2.out.trans hoC)
                have ixC := (hoC.cell (k := ioff + k) hibr (by omega) (by omega)).trans ixc
                have sfC : ∀ k, wC.frozen? ⟨SB, k, none⟩ = false := fun k => (hoC.fz SB k hlS2).trans (sf2 k)
                have hsC := hoC.size
                have hlSC : SB < wC.heap.size := by omega
                have hlTC : TB < wC.heap.size := by omega
                have hibC : ib < wC.heap.size := by omega
                clear hoC s0 s1 s2 s3 s4 s5 y0 y1 y2 y3 y4 y5 g0 g1 g2 g3 g4 g5 LYK
                refine wp_tail_more 14 (by kernel_rfl) (by kernel_rfl) ?_
                simp only [List.take_succ_cons, List.take_zero, List.drop_succ_cons, List.drop_zero]
                repeat (go_big_quiet_step (fail))
                refine wpQuiet_nil ?_
                intro p9
                go_wp2_with fail
                go_roundw
                case rel =>
                  refine ⟨j + 1, k + 1, m', uu, _, ⟨gk, gs, gp, gfa, gfl, gfc, gc, gea, gel, gec⟩, by omega, by go_num, by go_num, hcnt2, HG2.out, HC2.out, HF2.out, HW3.out, ⟨?_, ?_, ?_, ?_, ?_, ?_, ?_, ?_, ?_, ?_, ?_, ?_⟩, HQ2.out, ?ovD⟩
                  case ovD => repeat (first | with_reducible exact HOC.out | with_reducible refine Ov2.setS ?_ _ _ | with_reducible refine Ov2.setT ?_ _ _ | with_reducible refine Ov2.more ?_ _ | with_reducible refine Ov2.alloc ?_ _)
                  all_goals (simp [go_sem, ↓IntWalk.iteOmega, cell_upd2, t0, t1, t2, t3, t4, t5, v0, v1, v2, v3, v4, v5]; done)
                case measure => first | (simp [intOf]; done) | (simp [intOf]; omega)
            · obtain ⟨_, hs, _, g, hg, hg2⟩ := checkF_zero HCU.out
              obtain ⟨qq, hq, _⟩ := grp_parts m' u' hk34 hg
              have hcl : cI < (TyF.fields (α := Ty m') u').length := (List.getElem?_eq_some_iff.1 hfI).1
              obtain ⟨f', xb, yb, hf', hsp, hfb, hx0, hx1, hy0, hy1⟩ := spots_fb m' u' hs hk34 hq cI hcl
              obtain rfl : f' = f := by rw [hfI] at hf'; exact (Option.some.inj hf').symm
              have hstp : stepS (n := m') u' S' pt (ix.drop k) = some (f'.type, ⟨(spotOf f'.isBits (tkind m' f'.type) xb yb).at_ + S'.at_, (spotOf f'.isBits (tkind m' f'.type) xb yb).len, (spotOf f'.isBits (tkind m' f'.type) xb yb).kind, (spotOf f'.isBits (tkind m' f'.type) xb yb).isBits, (spotOf f'.isBits (tkind m' f'.type) xb yb).bit, (spotOf f'.isBits (tkind m' f'.type) xb yb).width⟩, ix.drop k) := by
                unfold stepS
                rw [if_neg (by omega), hcI, show ((cI : Int)).toNat = cI by omega, hfI, hsp]
              obtain ⟨hfe, hc2, hw2, _⟩ := step_next (n := m') (t := u') HCU.out hpe HW2.out (ix := ix.drop k) (by rw [h1]; omega) hstp
              have HF2 := Lib.hid (HF.out.trans (findP_some hstp _))
              have hsb := checkF_field (n := m') (t := u') HCU.out hk34 hfI
              obtain ⟨_, sp0, hsp0, hsp1, hsp2, _⟩ := hsb
              have hspe : sp0 = spotOf f'.isBits (tkind m' f'.type) xb yb := by rw [hsp] at hsp0; exact (Option.some.inj hsp0).symm
              rw [hspe] at hsp1 hsp2
              have hA0 := HW2.out.1
              have hA1 := HW2.out.2.1
              have LR := Lib.hid (fun W hW => lay_rows (n := m') u' q' w W HCU.out hk34 HQU.out hW)
              have SPT := Lib.hid (fun W (hW : Below w.heap.size w W) => spot_any m' u' q' W (HQU.out.below hW) cI f' hfI)
              obtain ⟨e1, e2, e3, e4, e5, e6, e7, e8, e9, hfd, he⟩ := HQU.out
              have hfc := hfd.1
              have hfm := hfd.2.1
              obtain ⟨qk, qs, qp, qfa, qfl, qfc, qc, qea, qel, qec⟩ := q'
              simp only at e4 hfd hfc hfm
              obtain ⟨fb, foff, rfl, hfbl, hfcs⟩ := hfd.2.2 (by omega)
              have HFN : Hid (∀ c, c ≤ cI → ∃ nmc : ByteArray, nmc.size ≤ 9223372036854775807 ∧ wr.cell? ⟨fb, foff + c * 9, none⟩ = some (.string nmc) ∧ (c < cI → (nmc.toList == pt.field.toList) = false) ∧ (c = cI → (nmc.toList == pt.field.toList) = true)) := Lib.hid (fun c hc => by
                obtain ⟨fc2, hfc2⟩ := get_some (TyF.fields (α := Ty m') u') c (by omega)
                obtain ⟨_, _, _, hnm, c0, _⟩ := hfcs c fc2 hfc2
                refine ⟨fc2.name, hnm, (HBW.out.cell (p := ⟨fb, foff + c * 9, none⟩) hfbl).trans c0, fun h => hbI c fc2 h hfc2, fun h => ?_⟩
                subst h
                rw [hfI] at hfc2
                cases hfc2
                exact hnI)
              obtain ⟨q3, hq3, _, _, _, c1, c2, c3, c4, c5, c6, _, _⟩ := hfcs cI f' hfI
              have hcc : ∀ (o : Nat) (x : Value), w.cell? ⟨fb, o, none⟩ = some x → wr.cell? ⟨fb, o, none⟩ = some x := fun o x hx => (HBW.out.cell (p := ⟨fb, o, none⟩) hfbl).trans hx
              replace c1 := hcc _ _ c1
              replace c2 := hcc _ _ c2
              replace c3 := hcc _ _ c3
              replace c4 := hcc _ _ c4
              replace c5 := hcc _ _ c5
              replace c6 := hcc _ _ c6
              obtain ⟨s0, s1, s2, s3, s4, s5, y0, y1, y2, y3, y4, y5⟩ := HFK3.out
              simp only at y0 y1 y2 y3 y4 y5
              have HQ3 := Lib.hid hq3
              have HC2 : Hid (checkF m' f'.type = 0) := Lib.hid (by rw [hfe]; exact hc2)
              have HW3 : Hid (WIn m' f'.type ((spotOf f'.isBits (tkind m' f'.type) xb yb).at_ + S'.at_)) := Lib.hid (by rw [hfe] at hw2 ⊢; exact hw2)
              have HG3 : Hid (goP n v.type ps = goP m' f'.type (ps.drop (j + 1))) := Lib.hid (by rw [hfe]; exact HG2.out)
              have HFB := Lib.hid hfb
              obtain ⟨pf, px⟩ := pt
              simp only at h1 d0 d1 hkc1 hkc3 HFN
              subst h1
              have hfbr : fb < wr.heap.size := by omega
              have hSf : ¬ SB = fb := by omega
              have hTf : ¬ TB = fb := by omega
              have hSp : ¬ SB = pb := by omega
              have hTp : ¬ TB = pb := by omega
              have hcnt2 : k + cntP (ps.drop (j + 1)) = ix.length := by omega
              rw [← e4] at LR hcl
              clear e1 e2 e3 e4 e5 e6 e7 e8 e9 hfd he hfcs hcc hq3 hstp hsp hfb hf' hsp0 hspe hfe hc2 hw2 hbI hnI hcI hfI hs hg hg2 hq hpe hsu HF HG HG2 hk34
              generalize hSQ : spotOf f'.isBits (tkind m' f'.type) xb yb = sq at *
              have HSQ := Lib.hid hSQ
              clear hSQ
              obtain ⟨r0, r1, r2, r3, r4, r5⟩ := sq
              obtain ⟨gk, gs, gp, gfa, gfl, gfc, gc, gea, gel, gec⟩ := q3
              unfold Raw.val at LR SPT
              simp only at c1 c2 c3 c4 c5 c6 LR SPT hsp1 hsp2
              go_wp2_with (go_at_call 16; refine (LR.out _ (by repeat (first | with_reducible exact HBW.out | with_reducible refine below_mo ?_ _ | with_reducible refine below_al ?_ _))).mono ?_; rintro e w9 ⟨la, lb, g2, k2, g3, k3, lL, rfl, hk2, hk3, hfbA, p7, rfl⟩; have HFA := Lib.hid hfbA; clear hfbA)
              refine wp_letter (R := fun W => Below wr.heap.size wr W ∧ FbAt W g2 g3 (fbF (m' + 1) u') ∧ (W.cell? ⟨wr.heap.size + p7.os.size, 0, none⟩ = some (.int .i64 la) ∧ W.cell? ⟨wr.heap.size + p7.os.size, 1, none⟩ = some (.int .i64 lb) ∧ W.cell? ⟨wr.heap.size + p7.os.size, 2, none⟩ = some (.slice (some ⟨g2, 0, none⟩) qfl k2) ∧ W.cell? ⟨wr.heap.size + p7.os.size, 3, none⟩ = some (.slice (some ⟨g3, 0, none⟩) qfl k3) ∧ W.cell? ⟨wr.heap.size + p7.os.size, 4, none⟩ = some (.bool lL))) ?letC ?_
              case letC =>
                refine ⟨?_, HFA.out.below ?_, ?_, ?_, ?_, ?_, ?_⟩
                · repeat (first | with_reducible exact Below.refl _ _ | with_reducible refine below_mo ?_ _ | with_reducible refine below_al ?_ _)
                · repeat (first | with_reducible exact Below.refl _ _ | with_reducible refine below_mo ?_ _ | with_reducible refine below_al ?_ _)
                all_goals (simp [go_sem, ↓IntWalk.iteOmega]; done)
              rintro wC ⟨hC, hFA, b0, b1, b2, b3, b4⟩
              have HC := Lib.hid hC
              have hsC := hC.size
              have hlL := cell_lt2 b0
              have HFA2 := Lib.hid hFA
              generalize hLB : wr.heap.size + p7.os.size = LB at *
              have hLr : wr.heap.size ≤ LB := by omega
              have hcw : ∀ (b o : Nat) (x : Value), b < wr.heap.size → wr.cell? ⟨b, o, none⟩ = some x → wC.cell? ⟨b, o, none⟩ = some x := fun b o x hb hx => (HC.out.cell (p := ⟨b, o, none⟩) hb).trans hx
              replace c1 := hcw _ _ _ hfbr c1
              replace c2 := hcw _ _ _ hfbr c2
              replace c3 := hcw _ _ _ hfbr c3
              replace c4 := hcw _ _ _ hfbr c4
              replace c5 := hcw _ _ _ hfbr c5
              replace c6 := hcw _ _ _ hfbr c6
              replace s0 := hcw _ _ _ hlS2 s0
              replace s1 := hcw _ _ _ hlS2 s1
              replace s2 := hcw _ _ _ hlS2 s2
              replace s3 := hcw _ _ _ hlS2 s3
              replace s4 := hcw _ _ _ hlS2 s4
              replace s5 := hcw _ _ _ hlS2 s5
              replace y0 := hcw _ _ _ hlT2 y0
              replace y1 := hcw _ _ _ hlT2 y1
              replace y2 := hcw _ _ _ hlT2 y2
              replace y3 := hcw _ _ _ hlT2 y3
              replace y4 := hcw _ _ _ hlT2 y4
              replace y5 := hcw _ _ _ hlT2 y5
              replace d0 := hcw _ _ _ hpbr d0
              replace x1r := hcw _ _ _ hXr x1r
              have HFN2 : Hid (∀ c, c ≤ cI → ∃ nmc : ByteArray, nmc.size ≤ 9223372036854775807 ∧ wC.cell? ⟨fb, foff + c * 9, none⟩ = some (.string nmc) ∧ (c < cI → (nmc.toList == pf.toList) = false) ∧ (c = cI → (nmc.toList == pf.toList) = true)) := Lib.hid (fun c hc => by
                obtain ⟨nmc, h1, h2, h3⟩ := HFN.out c hc
                exact ⟨nmc, h1, hcw _ _ _ hfbr h2, h3⟩)
              have sfC : ∀ k, wC.frozen? ⟨SB, k, none⟩ = false := fun k => (hC.frozen (p := ⟨SB, k, none⟩) hlS2).trans (sf2 k)
              have tfC : ∀ k, wC.frozen? ⟨TB, k, none⟩ = false := fun k => (hC.frozen (p := ⟨TB, k, none⟩) hlT2).trans (tf2 k)
              have HOC := Lib.hid (HO2.out.below hC)
              have HBC : Hid (Below w.heap.size w wC) := Lib.hid (below_next HBW.out hC)
              obtain ⟨ff2, ff3⟩ := hFA.2.2 cI _ HFB.out
              have hlg2 := hFA.1
              have hlg3 := hFA.2.1
              have hlSC : SB < wC.heap.size := by omega
              have hlTC : TB < wC.heap.size := by omega
              have hfC : fb < wC.heap.size := by omega
              have hpC : pb < wC.heap.size := by omega
              have hXC : w.heap.size < wC.heap.size := by omega
              clear hC hFA HFA hcw HFN d1 HFA2 HFB LR
              go_loopw [18] (fun v18 wr => ∃ c : Nat, c ≤ cI ∧ v18 = .int .i64 c ∧ ∃ p : Regrown, wr = more wC p) (fun v18 _ => cI - (intOf v18).toNat)
              case atStart => exact ⟨0, by omega, rfl, more_of_below (Below.refl _ _)⟩
              case round =>
                obtain ⟨c, hcle, rfl, p0, rfl⟩ := hrel
                obtain ⟨nmc, hnc1, hnc2, hnc3, hnc4⟩ := HFN2.out c hcle
                have hcq : (c : Int) < qfl := by omega
                have hjp : (j : Int) < ps.length := by omega
                rcases Nat.lt_or_ge c cI with hclt | hcge
                · have hne := hnc3 hclt
                  clear hnc3 hnc4
                  go_upto_region 23 with fail
                  refine wp_quiet_more (by kernel_rfl) (by kernel_rfl) ?_
                  repeat (go_big_quiet_step (fail))
                  refine wpQuiet_nil ?_
                  intro p8
                  go_wp2_with fail
                  go_roundw
                  case rel => exact ⟨c + 1, by omega, by go_num, more_more _ _ _⟩
                  case measure => first | (simp [intOf]; done) | (simp [intOf]; omega)
                · obtain rfl : c = cI := by omega
                  have heq := hnc4 rfl
                  clear hnc3 hnc4
                  go_upto_region 23 with fail
                  refine wp_quiet_more (by kernel_rfl) (by kernel_rfl) ?_
                  repeat (go_big_quiet_step (fail))
                  refine wpQuiet_nil ?_
                  intro p8
                  have SPC : Hid (Calls Try.prog 18 #[.agg #[.int .i64 qk, .int .i64 qs, .bool qp, .slice (some ⟨fb, foff, none⟩) qfl qfc, .int .i64 qc, .slice qea qel qec], .agg #[.int .i64 la, .int .i64 lb, .slice (some ⟨g2, 0, none⟩) qfl k2, .slice (some ⟨g3, 0, none⟩) qfl k3, .bool lL],   .int .i64 c] (more (more wC p0) p8) (Gives (more (more wC p0) p8) (.agg #[.int .i64 r0, .int .i64 r1, .int .i64 r2, .bool r3, .int .i64 r4, .int .i64 r5]))) := Lib.hid (by
                    have h9 := SPT.out _ (below_mo (below_mo HBC.out p0) p8) la lb g2 g3 qfl k2 k3 lL xb yb hx0 hx1 hy0 hy1 hcl hk2 hk3 (by simp [go_sem, ↓IntWalk.iteOmega, ff2]) (by simp [go_sem, ↓IntWalk.iteOmega, ff3])
                    rw [HSQ.out] at h9
                    exact h9)
                  clear SPT HSQ ff2 ff3 hlg2 hlg3 hx0 hx1 hy0 hy1 hcl hk2 hk3 hnc1 hnc2 heq d0 x1r HFN2
                  go_upto_region 27 with (go_at_call 18; refine (SPC.out).mono ?_; rintro e w9 ⟨rfl, p9, rfl⟩)
                  refine wp_letter (R := fun W => Ov2 SB TB wC W ∧ FkAt W SB TB ⟨qk, qs, qp, some ⟨fb, foff, none⟩, qfl, qfc, qc, qea, qel, qec⟩ ⟨r0, r1, r2, r3, r4, r5⟩) ?letD ?_
                  case letD =>
                    refine ⟨?ovE, ⟨?_, ?_, ?_, ?_, ?_, ?_, ?_, ?_, ?_, ?_, ?_, ?_⟩⟩
                    case ovE => repeat (first | with_reducible exact Ov2.refl | with_reducible refine Ov2.setS ?_ _ _ | with_reducible refine Ov2.setT ?_ _ _ | with_reducible refine Ov2.more ?_ _ | with_reducible refine Ov2.alloc ?_ _)
                    all_goals (simp [go_sem, ↓IntWalk.iteOmega, cell_upd2, s0, s1, s2, s3, s4, s5, y0, y1, y2, y3, y4, y5]; done)
                  rintro wD ⟨hoD, t0, t1, t2, t3, t4, t5, v0, v1, v2, v3, v4, v5⟩
                  simp only at t0 t1 t2 t3 t4 t5 v0 v1 v2 v3 v4 v5
                  have HOD := Lib.hid (HOC.out.trans hoD)
                  replace c1 := (hoD.cell hfC (by omega) (by omega)).trans c1
                  replace c2 := (hoD.cell hfC (by omega) (by omega)).trans c2
                  replace c3 := (hoD.cell hfC (by omega) (by omega)).trans c3
                  replace c4 := (hoD.cell hfC (by omega) (by omega)).trans c4
                  replace c5 := (hoD.cell hfC (by omega) (by omega)).trans c5
                  replace c6 := (hoD.cell hfC (by omega) (by omega)).trans c6
                  have sfD : ∀ k, wD.frozen? ⟨SB, k, none⟩ = false := fun k => (hoD.fz SB k hlSC).trans (sfC k)
                  have tfD : ∀ k, wD.frozen? ⟨TB, k, none⟩ = false := fun k => (hoD.fz TB k hlTC).trans (tfC k)
                  have hsD := hoD.size
                  have hlSD : SB < wD.heap.size := by omega
                  have hlTD : TB < wD.heap.size := by omega
                  have hfD : fb < wD.heap.size := by omega
                  clear hoD s0 s1 s2 s3 s4 s5 y0 y1 y2 y3 y4 y5 SPC sfC tfC b0 b1 b2 b3 b4
                  go_wp2_with fail
                  go_roundw
                  case rel =>
                    refine ⟨j + 1, k, m', f'.type, _, ⟨gk, gs, gp, gfa, gfl, gfc, gc, gea, gel, gec⟩, by omega, by go_num, by go_num, hcnt2, HG3.out, HC2.out, HF2.out, HW3.out, ⟨?_, ?_, ?_, ?_, ?_, ?_, ?_, ?_, ?_, ?_, ?_, ?_⟩, HQ3.out, ?ovD⟩
                    case ovD => repeat (first | with_reducible exact HOD.out | with_reducible refine Ov2.setS ?_ _ _ | with_reducible refine Ov2.setT ?_ _ _ | with_reducible refine Ov2.more ?_ _ | with_reducible refine Ov2.alloc ?_ _)
                    all_goals (simp [go_sem, ↓IntWalk.iteOmega, cell_upd2, t0, t1, t2, t3, t4, t5, v0, v1, v2, v3, v4, v5]; done)
                  case measure => first | (simp [intOf]; done) | (simp [intOf]; omega)
        · obtain rfl : j = ps.length := by omega
          rw [List.drop_length] at HG HF
          have hRSs : RS = some S' := by rw [← HST2.out, HF.out]; exact findP_nil _ _ _ _
          have hkd : q'.kind = tkind m u := by
            have h9 := HG.out.symm.trans HGO.out
            have h8 : goP m' u' [] = (0, some ⟨m', u'⟩) := by cases m' <;> rfl
            rw [h8] at h9
            cases h9
            cases m with
            | zero => exact nomatch u
            | succ m => exact HQU.out.1
          subst hRSs
          obtain ⟨z0, z1, z2, z3, z4, z5, zf⟩ := HZr.out
          obtain ⟨s0, s1, s2, s3, s4, s5, y0, y1, y2, y3, y4, y5⟩ := HFK3.out
          rw [hkd] at y0
          clear HG HF hkd
          generalize tkind m u = KD at *
          obtain ⟨S0, S1, S2, S3, S4, S5⟩ := S'
          simp only at s0 s1 s2 s3 s4 s5
          go_wp2_with fail
          refine bodyPost_ret (v := .tuple #[.agg #[.int .i64 S0, .int .i64 S1, .int .i64 KD, .bool S3, .int .i64 S4, .int .i64 S5], .bool true]) ?hresB rfl ?postB
          case hresB =>
            refine ret_ct (cs := [.int .i64 S0, .int .i64 S1, .int .i64 KD, .bool S3, .int .i64 S4, .int .i64 S5]) (t := 7) (c := 6) rfl rfl rfl Try.underlying42 rfl (by kernel_rfl) (range6 ?_ ?_ ?_ ?_ ?_ ?_)
            all_goals simp [go_sem, ↓IntWalk.iteOmega, cell_upd2, z0, z1, z2, z3, z4, z5]
          case postB =>
            refine Gives.mk rfl ?_
            repeat (first | with_reducible exact HBW.out | with_reducible refine below_st ?_ (by simp <;> omega) _)
end
end Go.Proofs.Ytlbkloamabomcaa
namespace Go.Proofs.Ytlbkloamabomcaa
open Go.RowKit Go.Sort
set_option linter.unusedVariables false
set_option linter.unusedSimpArgs false
section
open Go.ChangeShapes Go.WideShapes Go.ChangeAt
set_option maxRecDepth 100000 in
theorem ix_open {H : Type} {enc : TypeId × Value → H} {W : World} {r : Reach} {b0 : Nat} {v : Value} {d : DataW H} {p : List MemPlace} (hv : Value.okWide Try.prog W r b0 63 v) (h : DataW.Trod enc Try.prog W 0 (fun _ => true) true 63 v d p) :
    ∃ (ix : List Nat) (a : Option Addr) (c : Nat), v = .slice a ix.length c ∧ IxAt W ix a c := by
  obtain ⟨l, a, c, rfl, h1, h2, h3, h4⟩ := ints_open Try.underlying63 Try.underlying76 (by kernel_rfl) hv h
  refine ⟨l.map Int.toNat, a, c, by simp, by simpa using h1, h2, fun h0 => ?_⟩
  obtain ⟨b, off, ha, hlt, hc⟩ := h3 (by simpa using h0)
  refine ⟨b, off, ha, hlt, fun i x hi => ?_⟩
  rw [List.getElem?_map] at hi
  obtain ⟨y, hy, rfl⟩ := Option.map_eq_some_iff.1 hi
  have hw := h4 y (List.mem_of_getElem? hy)
  obtain ⟨m, rfl, hm⟩ := nat_u64 hw
  have := hc i _ hy
  exact ⟨by rw [Int.toNat_natCast]; omega, by rw [Int.toNat_natCast]; exact this⟩
end
theorem stood_sp : Try.prog.stoodInHeld 42 = false := by kernel_rfl
theorem eql_sp (a b k : Int) (bt : Bool) (c d : Int) (w : World) : (binOp .eql 42 (.agg #[.int .i64 a, .int .i64 b, .int .i64 k, .bool bt, .int .i64 c, .int .i64 d]) (.agg #[.int .i64 a, .int .i64 b, .int .i64 k, .bool bt, .int .i64 c, .int .i64 d])).run Try.prog w = .ok (.bool true) w := by
  have h1 := stood_sp
  simp [go_sem, h1, Op.eqFields, part]
section
variable {n : Nat}
/-- the document's Place: kind and error. -/
theorem rplace_kind (l : List (Vr n)) (a : Option Addr) (c : Nat) (w W : World) (hV : VrsAt w l a c) (nm : ByteArray) (ps : List Pt) (pa : Option Addr) (pc : Nat) (hP : PtsAt w ps pa pc) (hW : Below w.heap.size w W) :
    Calls Try.prog 25 #[.slice a l.length c, .agg #[.string nm, .slice pa ps.length pc]] W fun e w' => ∃ q : Raw, e = .returned (.tuple #[.agg #[.int .i64 q.kind, .int .i64 q.size, .bool q.packed, .slice q.fa q.fl q.fc, .int .i64 q.count, .slice q.ea q.el q.ec], .int .i64 (placeE l nm ps).1]) ∧ (∀ m u, (placeE l nm ps).2 = some ⟨m, u⟩ → q.kind = tkind m u) ∧ ∃ p : Regrown, w' = more W p := by
  refine (rPlace_any l a c W (hV.below hW) nm ps pa pc (hP.below hW)).mono ?_
  rintro e w1 ⟨⟨q, rfl, hq⟩, hp⟩
  refine ⟨q, rfl, fun m u hu => ?_, hp⟩
  have hq := hq m u hu
  cases m with
  | zero => exact nomatch u
  | succ m => exact hq.1
set_option maxRecDepth 100000 in
set_option maxHeartbeats 6400000 in
theorem worldFinds_walk (l : List (Vr n)) (a : Option Addr) (c : Nat) (w : World) (hV : VrsAt w l a c) (hr : l.length * 32 ≤ 140737488355328) (nm : ByteArray) (ps : List Pt) (pa : Option Addr) (pc : Nat) (hP : PtsAt w ps pa pc) (ix : List Nat) (ia : Option Addr) (ic : Nat) (hI : IxAt w ix ia ic) :
    Calls Try.prog 9 #[.slice a l.length c, .agg #[.string nm, .slice pa ps.length pc], .slice ia ix.length ic] w (Gives w (.bool true)) := by
  have AW := Lib.hid awakeW_any
  have FN := Lib.hid (fun W (hW : Below w.heap.size w W) => Find_any l a c W (hV.below hW) hr nm ps pa pc (hP.below hW) ix ia ic (hI.below hW))
  have PL := Lib.hid (fun W (hW : Below w.heap.size w W) => rplace_kind l a c w W hV nm ps pa pc hP hW)
  have HQ := eql_sp
  have hic1 := hI.1
  have hic2 := hI.2.1
  by_cases hE : worldE l = 0
  · have MP : Hid (∀ W, Below w.heap.size w W → Calls Try.prog 22 #[.slice a l.length c] W fun e w' => ∃ ad cg, e = .returned (.tuple #[.slice ad l.length cg, .int .i64 (atK l l.length), .int .i64 0]) ∧ ∃ p : Regrown, w' = more W p) := Lib.hid (fun W hW => (rmap_yes l a c w W hV hr hE hW).mono (fun _ _ ⟨ad, cg, h1, _, h2⟩ => ⟨ad, cg, h1, h2⟩))
    rcases hR : placeE l nm ps with ⟨e, _ | ⟨m, u⟩⟩
    · have hF : findE l nm ps ix = (e, zeroSp) := by unfold findE; rw [if_neg (by simp [hE]), hR]
      have he : e ≠ 0 := by
        rcases placeE_zero hR with ⟨_, h⟩ | ⟨_, _, h, _⟩
        · exact h
        · cases h
      rw [hF] at FN
      rw [hR] at PL
      have hb1 : (e != 0) = true := by simpa using he
      clear hV hP hI hR hF hE
      unfold zeroSp Sp.val at FN
      simp only at FN PL
      go_enter Try.func9, Try.ntmps9
      go_wp2_with (first
        | (go_at_call 24; refine (FN.out _ (by repeat (first | with_reducible exact Below.refl _ _ | with_reducible refine below_mo ?_ _ | with_reducible refine below_al ?_ _))).mono ?_; rintro e w1 ⟨rfl, p1, rfl⟩)
        | (go_at_call 22; refine (MP.out _ (by repeat (first | with_reducible exact Below.refl _ _ | with_reducible refine below_mo ?_ _ | with_reducible refine below_al ?_ _))).mono ?_; rintro e w1 ⟨ad, cg, rfl, p2, rfl⟩)
        | (go_at_call 25; refine (PL.out _ (by repeat (first | with_reducible exact Below.refl _ _ | with_reducible refine below_mo ?_ _ | with_reducible refine below_al ?_ _))).mono ?_; rintro e w1 ⟨q2, rfl, -, p3, rfl⟩; obtain ⟨q2k, q2s, q2p, q2fa, q2fl, q2fc, q2c, q2ea, q2el, q2ec⟩ := q2; simp only)
        | (go_at_call 23; refine (AW.out _).mono ?_; rintro e w1 ⟨rfl, p4, rfl⟩))
      go_ret
      exact Gives.mk (by first | rfl | simp) (by repeat (first | with_reducible exact Below.refl _ _ | with_reducible refine below_mo ?_ _ | with_reducible refine below_al ?_ _))
    · have hz : e = 0 := by
        rcases placeE_zero hR with ⟨h9, _⟩ | ⟨_, _, _, h, _⟩
        · cases h9
        · exact h
      subst hz
      obtain ⟨i, v, hix, hv, hsv, hgo⟩ := placeE_some hR
      rw [hR] at PL
      have PL2 : Hid (∀ W, Below w.heap.size w W → Calls Try.prog 25 #[.slice a l.length c, .agg #[.string nm, .slice pa ps.length pc]] W fun e w' => ∃ q : Raw, e = .returned (.tuple #[.agg #[.int .i64 (tkind m u), .int .i64 q.size, .bool q.packed, .slice q.fa q.fl q.fc, .int .i64 q.count, .slice q.ea q.el q.ec], .int .i64 0]) ∧ ∃ p : Regrown, w' = more W p) := Lib.hid (fun W hW => (PL.out W hW).mono (fun e w1 ⟨q, h1, h2, h3⟩ => ⟨q, by rw [h1, h2 m u rfl], h3⟩))
      clear PL
      by_cases hk : tkind m u ≠ 1 ∧ tkind m u ≠ 2
      · have hF : findE l nm ps ix = (8, zeroSp) := by unfold findE; rw [if_neg (by simp [hE]), hR]; simp only; rw [if_pos hk]
        rw [hF] at FN
        clear hV hP hI hR hF hE hix hv hsv hgo
        generalize tkind m u = kd at *
        have hb1 : (kd != 1) = true := by simpa using hk.1
        have hb2 : (kd != 2) = true := by simpa using hk.2
        clear hk
        unfold zeroSp Sp.val at FN
        simp only at FN
        go_enter Try.func9, Try.ntmps9
        go_wp2_with (first
          | (go_at_call 24; refine (FN.out _ (by repeat (first | with_reducible exact Below.refl _ _ | with_reducible refine below_mo ?_ _ | with_reducible refine below_al ?_ _))).mono ?_; rintro e w1 ⟨rfl, p1, rfl⟩)
          | (go_at_call 22; refine (MP.out _ (by repeat (first | with_reducible exact Below.refl _ _ | with_reducible refine below_mo ?_ _ | with_reducible refine below_al ?_ _))).mono ?_; rintro e w1 ⟨ad, cg, rfl, p2, rfl⟩)
          | (go_at_call 25; refine (PL2.out _ (by repeat (first | with_reducible exact Below.refl _ _ | with_reducible refine below_mo ?_ _ | with_reducible refine below_al ?_ _))).mono ?_; rintro e w1 ⟨q2, rfl, p3, rfl⟩; obtain ⟨q2k, q2s, q2p, q2fa, q2fl, q2fc, q2c, q2ea, q2el, q2ec⟩ := q2; simp only)
          | (go_at_call 23; refine (AW.out _).mono ?_; rintro e w1 ⟨rfl, p4, rfl⟩))
        go_ret
        exact Gives.mk (by first | rfl | simp) (by repeat (first | with_reducible exact Below.refl _ _ | with_reducible refine below_mo ?_ _ | with_reducible refine below_al ?_ _))
      · have hps := goP_idx n v.type ps m u (SoundF_zero hsv) hgo
        have MN := Lib.hid (fun W (hW : Below w.heap.size w W) => rMany_any ps pa pc W (hP.below hW) hps nm)
        have hm1 := manyK_le ps hps ps.length
        have hpc1 := hP.1
        have hpc2 := hP.2.1
        rw [many_cnt] at MN hm1
        have hkd : tkind m u = 1 ∨ tkind m u = 2 := by omega
        by_cases hl : ix.length = cntP ps
        · have RF := Lib.hid (fun W (hW : Below w.heap.size w W) => rFind_yes l a c W (hV.below hW) hr nm ps pa pc (hP.below hW) ix ia ic (hI.below hW) hE hps hl hix hv hgo rfl)
          have hF : findE l nm ps ix = (resE (findP n v.type (startS l i v) ps ix), resSp (findP n v.type (startS l i v) ps ix) (tkind m u)) := by
            unfold findE
            rw [if_neg (by simp [hE]), hR]
            simp only
            rw [if_neg hk, if_neg (by simp [hl]), hix, show ((i : Int)).toNat = i by omega, hv]
            simp only
            cases findP n v.type (startS l i v) ps ix <;> rfl
          rw [hF] at FN
          rw [← hl] at MN hm1
          have hb0 : ((ix.length : Int) != (ix.length : Int)) = false := by simp
          clear hV hP hI hR hF hE hix hsv hgo hps hl hk
          generalize findP n v.type (startS l i v) ps ix = R at *
          clear hv
          generalize tkind m u = kd at *
          cases R with
          | none =>
            rw [show (resSp none kd).val = (.agg #[.int .i64 0, .int .i64 0, .int .i64 0, .bool false, .int .i64 0, .int .i64 0] : Value) from rfl] at FN RF
            rw [show resE none = 14 from rfl] at FN
            simp only [Option.isSome] at RF
            rcases hkd with rfl | rfl
            all_goals
              go_enter Try.func9, Try.ntmps9
              go_wp2_with (first
                | (go_at_call 24; refine (FN.out _ (by repeat (first | with_reducible exact Below.refl _ _ | with_reducible refine below_mo ?_ _ | with_reducible refine below_al ?_ _))).mono ?_; rintro e w1 ⟨rfl, p1, rfl⟩)
                | (go_at_call 22; refine (MP.out _ (by repeat (first | with_reducible exact Below.refl _ _ | with_reducible refine below_mo ?_ _ | with_reducible refine below_al ?_ _))).mono ?_; rintro e w1 ⟨ad, cg, rfl, p2, rfl⟩)
                | (go_at_call 25; refine (PL2.out _ (by repeat (first | with_reducible exact Below.refl _ _ | with_reducible refine below_mo ?_ _ | with_reducible refine below_al ?_ _))).mono ?_; rintro e w1 ⟨q2, rfl, p3, rfl⟩; obtain ⟨q2k, q2s, q2p, q2fa, q2fl, q2fc, q2c, q2ea, q2el, q2ec⟩ := q2; simp only)
                | (go_at_call 26; refine (MN.out _ (by repeat (first | with_reducible exact Below.refl _ _ | with_reducible refine below_mo ?_ _ | with_reducible refine below_al ?_ _))).mono ?_; rintro e w1 ⟨rfl, p5, rfl⟩)
                | (go_at_call 27; refine (RF.out _ (by repeat (first | with_reducible exact Below.refl _ _ | with_reducible refine below_mo ?_ _ | with_reducible refine below_al ?_ _))).mono ?_; rintro e w1 ⟨rfl, p6, rfl⟩)
                | (go_at_call 23; refine (AW.out _).mono ?_; rintro e w1 ⟨rfl, p4, rfl⟩))
              go_ret
              exact Gives.mk (by first | rfl | simp) (by repeat (first | with_reducible exact Below.refl _ _ | with_reducible refine below_mo ?_ _ | with_reducible refine below_al ?_ _))
          | some S =>
            obtain ⟨S0, S1, S2, S3, S4, S5⟩ := S
            rw [show (resSp (some ⟨S0, S1, S2, S3, S4, S5⟩) kd).val = (.agg #[.int .i64 S0, .int .i64 S1, .int .i64 kd, .bool S3, .int .i64 S4, .int .i64 S5] : Value) from rfl] at FN RF
            rw [show resE (some ⟨S0, S1, S2, S3, S4, S5⟩) = 0 from rfl] at FN
            simp only [Option.isSome] at RF
            rcases hkd with rfl | rfl
            all_goals
              go_enter Try.func9, Try.ntmps9
              go_wp2_with (first
                | (go_at_call 24; refine (FN.out _ (by repeat (first | with_reducible exact Below.refl _ _ | with_reducible refine below_mo ?_ _ | with_reducible refine below_al ?_ _))).mono ?_; rintro e w1 ⟨rfl, p1, rfl⟩)
                | (go_at_call 22; refine (MP.out _ (by repeat (first | with_reducible exact Below.refl _ _ | with_reducible refine below_mo ?_ _ | with_reducible refine below_al ?_ _))).mono ?_; rintro e w1 ⟨ad, cg, rfl, p2, rfl⟩)
                | (go_at_call 25; refine (PL2.out _ (by repeat (first | with_reducible exact Below.refl _ _ | with_reducible refine below_mo ?_ _ | with_reducible refine below_al ?_ _))).mono ?_; rintro e w1 ⟨q2, rfl, p3, rfl⟩; obtain ⟨q2k, q2s, q2p, q2fa, q2fl, q2fc, q2c, q2ea, q2el, q2ec⟩ := q2; simp only)
                | (go_at_call 26; refine (MN.out _ (by repeat (first | with_reducible exact Below.refl _ _ | with_reducible refine below_mo ?_ _ | with_reducible refine below_al ?_ _))).mono ?_; rintro e w1 ⟨rfl, p5, rfl⟩)
                | (go_at_call 27; refine (RF.out _ (by repeat (first | with_reducible exact Below.refl _ _ | with_reducible refine below_mo ?_ _ | with_reducible refine below_al ?_ _))).mono ?_; rintro e w1 ⟨rfl, p6, rfl⟩)
                | (go_at_call 23; refine (AW.out _).mono ?_; rintro e w1 ⟨rfl, p4, rfl⟩))
              go_ret
              exact Gives.mk (by first | rfl | simp) (by repeat (first | with_reducible exact Below.refl _ _ | with_reducible refine below_mo ?_ _ | with_reducible refine below_al ?_ _))
        · have hF : findE l nm ps ix = (1, zeroSp) := by unfold findE; rw [if_neg (by simp [hE]), hR]; simp only; rw [if_neg hk, if_pos hl]
          rw [hF] at FN
          have hb0 : ((ix.length : Int) != (cntP ps : Int)) = true := by simpa using (fun h => hl (by omega))
          clear hV hP hI hR hF hE hix hsv hgo hps hl hk hv
          generalize tkind m u = kd at *
          generalize cntP ps = M at *
          unfold zeroSp Sp.val at FN
          simp only at FN
          rcases hkd with rfl | rfl
          all_goals
            go_enter Try.func9, Try.ntmps9
            go_wp2_with (first
              | (go_at_call 24; refine (FN.out _ (by repeat (first | with_reducible exact Below.refl _ _ | with_reducible refine below_mo ?_ _ | with_reducible refine below_al ?_ _))).mono ?_; rintro e w1 ⟨rfl, p1, rfl⟩)
              | (go_at_call 22; refine (MP.out _ (by repeat (first | with_reducible exact Below.refl _ _ | with_reducible refine below_mo ?_ _ | with_reducible refine below_al ?_ _))).mono ?_; rintro e w1 ⟨ad, cg, rfl, p2, rfl⟩)
              | (go_at_call 25; refine (PL2.out _ (by repeat (first | with_reducible exact Below.refl _ _ | with_reducible refine below_mo ?_ _ | with_reducible refine below_al ?_ _))).mono ?_; rintro e w1 ⟨q2, rfl, p3, rfl⟩; obtain ⟨q2k, q2s, q2p, q2fa, q2fl, q2fc, q2c, q2ea, q2el, q2ec⟩ := q2; simp only)
              | (go_at_call 26; refine (MN.out _ (by repeat (first | with_reducible exact Below.refl _ _ | with_reducible refine below_mo ?_ _ | with_reducible refine below_al ?_ _))).mono ?_; rintro e w1 ⟨rfl, p5, rfl⟩)
              | (go_at_call 23; refine (AW.out _).mono ?_; rintro e w1 ⟨rfl, p4, rfl⟩))
            go_ret
            exact Gives.mk (by first | rfl | simp) (by repeat (first | with_reducible exact Below.refl _ _ | with_reducible refine below_mo ?_ _ | with_reducible refine below_al ?_ _))
  · have MP := Lib.hid (fun W hW => rmap_no l a c w W hV hr hE hW)
    have hF : findE l nm ps ix = (worldE l, zeroSp) := by unfold findE; rw [if_pos hE]
    rw [hF] at FN
    clear hV hP hI hF
    generalize worldE l = E at *
    have hb1 : (E != 0) = true := by simpa using hE
    clear hE
    unfold zeroSp Sp.val at FN
    simp only at FN
    go_enter Try.func9, Try.ntmps9
    go_wp2_with (first
      | (go_at_call 24; refine (FN.out _ (by repeat (first | with_reducible exact Below.refl _ _ | with_reducible refine below_mo ?_ _ | with_reducible refine below_al ?_ _))).mono ?_; rintro e w1 ⟨rfl, p1, rfl⟩)
      | (go_at_call 22; refine (MP.out _ (by repeat (first | with_reducible exact Below.refl _ _ | with_reducible refine below_mo ?_ _ | with_reducible refine below_al ?_ _))).mono ?_; rintro e w1 ⟨rfl, p2, rfl⟩)
      | (go_at_call 25; refine (PL.out _ (by repeat (first | with_reducible exact Below.refl _ _ | with_reducible refine below_mo ?_ _ | with_reducible refine below_al ?_ _))).mono ?_; rintro e w1 ⟨q2, rfl, -, p3, rfl⟩; obtain ⟨q2k, q2s, q2p, q2fa, q2fl, q2fc, q2c, q2ea, q2el, q2ec⟩ := q2; simp only)
      | (go_at_call 23; refine (AW.out _).mono ?_; rintro e w1 ⟨rfl, p4, rfl⟩))
    go_ret
    exact Gives.mk (by first | rfl | simp) (by repeat (first | with_reducible exact Below.refl _ _ | with_reducible refine below_mo ?_ _ | with_reducible refine below_al ?_ _))
end
end Go.Proofs.Ytlbkloamabomcaa
namespace Go.Proofs.Ytlbkloamabomcaa.worldFinds
open Go.ChangeShapes Go.WideShapes Go.ChangeAt Go.RowKit
set_option linter.unusedVariables false
theorem own : ownKnob Try.prog.godebug = none := by kernel_rfl
theorem laid : laidOutB Try.prog = true := by kernel_rfl
theorem reads : (Try.f9.params.toList.all fun t => Try.prog.readableRec t && decide (t < Try.prog.types.size)) = true := by kernel_rfl
set_option maxRecDepth 100000 in
theorem lifted (os : Os) (started : os.Started) (H : Type) (enc : TypeId × Value → H) :
    ReturnsInHanded {} Try.checked os 9 .any (Rows.worldFindsSpec.pre6 enc Try.prog Try.f9 Rows.worldFindsRow.domain false) (Rows.worldFindsSpec.post enc Try.prog Try.f9 false true false false) := by
  refine returnsInHanded_of_change_sized (C := Try.checked) own started (by kernel_rfl) Try.func9
    (ChangeSpec.witness6 (enc := enc) (C := Try.checked) false ⟨#[], #[.slice none 0 0, .agg #[.string ByteArray.empty, .slice none 0 0], .slice none 0 0], []⟩ 8 (by kernel_rfl) (by kernel_rfl) (by kernel_rfl) (by kernel_rfl)) ?_
  intro W base args ds gs before hval0 hW hcnd hsz hholds
  have hval : ∀ (j : Nat) t v, Try.f9.params[j]? = some t → args[j]? = some v → Value.okWide Try.prog W .any base t v := hval0
  have hW' := hW
  obtain ⟨p, q, hA0, hV, rfl, hfz, hnd⟩ := hW
  have hA : DataW.TrodAll enc Try.prog W 0 (fun _ => true) true Try.f9.params.toList args.toList ds p := hA0
  rw [Try.params9] at hA hval
  obtain ⟨v0, vs0, d0, ds0, p0, q0, hargs, rfl, rfl, h0, r0⟩ := trodAll_cons hA
  obtain ⟨v1, vs1, d1, ds1, p1, q1, rfl, rfl, rfl, h1, r1⟩ := trodAll_cons r0
  obtain ⟨v2, vs2, d2, ds2, p2, q2, rfl, rfl, rfl, h2, r2⟩ := trodAll_cons r1
  obtain ⟨rfl, rfl, rfl⟩ := trodAll_nil r2
  obtain rfl : args = #[v0, v1, v2] := by cases args; simp_all
  obtain ⟨rfl, rfl⟩ := trodVars_none hV
  obtain ⟨n0, l0, a0, c0, rfl, V0⟩ := vars_open (hval 0 53 v0 rfl rfl) h0
  obtain ⟨nm1, ps1, pa1, pc1, rfl, hnm1, P1⟩ := place_open (hval 1 62 v1 rfl rfl) h1
  obtain ⟨ix2, a2, c2, rfl, I2⟩ := ix_open (hval 2 63 v2 rfl rfl) h2
  clear hA0 hval0
  refine ((worldFinds_walk l0 a0 c0 W V0 (by have := vars_room hsz (j := 0) rfl rfl h0; omega) nm1 ps1 pa1 pc1 P1 ix2 a2 c2 I2).mono gives_both).mono fun e W' ⟨he, hb⟩ => ?_
  subst he
  exact ⟨_, rfl, law_end hW' rfl rfl rfl rfl laid reads rfl Try.underlying4 hb⟩
theorem over : Rows.worldFindsRow.holds Try.pinned (OpenSpec.ofChange Rows.worldFindsSpec) :=
  OpenClaim.holds_of_wide 9 Try.f9 rfl rfl rfl rfl rfl rfl rfl ⟨rfl, rfl, rfl, rfl, rfl⟩ rfl rfl rfl rfl rfl (by kernel_rfl) Try.func9 (by kernel_rfl)
    (of_decide_eq_true (by kernel_rfl)) (by unfold Func.isWrapper; first | (rw [if_pos (by decide +kernel)]; kernel_rfl) | (rw [if_neg (by decide +kernel)]; exact ⟨rfl, rfl⟩))
    (fun os started H enc _ => lifted os started H enc)
/-- THE STATEMENT. -/
theorem proved : Rows.WorldFindsSaid := over
#print axioms proved
end Go.Proofs.Ytlbkloamabomcaa.worldFinds
