/- Walk: the type of what lies at a place: the document's Place. Conditions: what came in lies in memory. -/
import Derived.Test.YtlbkloamabomcaaWldD
namespace Go.Proofs.Ytlbkloamabomcaa
open Go.RowKit Go.Sort
set_option linter.unusedVariables false
set_option linter.unusedSimpArgs false
/-- the first that is so, told from the end. -/
def FstK {α : Type} (P : α → Bool) (l : List α) (i : Int) (r : Int) : Prop := (r = -1 ∧ ∀ (j : Nat) e, i < j → l[j]? = some e → P e = false) ∨ ∃ (k : Nat) (f : α), r = k ∧ i < k ∧ l[k]? = some f ∧ P f = true ∧ ∀ (j : Nat) e, i < j → j < k → l[j]? = some e → P e = false
theorem FstK.start {α : Type} (P : α → Bool) (l : List α) : FstK P l ((l.length : Int) - 1) (-1) := .inl ⟨rfl, fun j e hj he => by
  have := (List.getElem?_eq_some_iff.1 he).1
  omega⟩
theorem FstK.hit {α : Type} {P : α → Bool} {l : List α} {i : Nat} {r : Int} {f : α} (hf : l[i]? = some f) (hp : P f = true) : FstK P l ((i : Int) - 1) i := .inr ⟨i, f, rfl, by omega, hf, hp, fun j e h1 h2 _ => by omega⟩
theorem FstK.miss {α : Type} {P : α → Bool} {l : List α} {i : Nat} {r : Int} {f : α} (h : FstK P l i r) (hf : l[i]? = some f) (hp : P f = false) : FstK P l ((i : Int) - 1) r := by
  rcases h with ⟨rfl, h⟩ | ⟨k, g, rfl, h1, h2, h3, h4⟩
  · refine .inl ⟨rfl, fun j e hj he => ?_⟩
    by_cases hji : j = i
    · subst hji
      rw [hf] at he
      cases he
      exact hp
    · exact h j e (by omega) he
  · refine .inr ⟨k, g, rfl, by omega, h2, h3, fun j e hj hjk he => ?_⟩
    by_cases hji : j = i
    · subst hji
      rw [hf] at he
      cases he
      exact hp
    · exact h4 j e (by omega) hjk he
theorem FstK.fin {α : Type} {P : α → Bool} {l : List α} {r : Int} (h : FstK P l (-1) r) : r = ixK P l := by
  rcases h with ⟨rfl, h⟩ | ⟨k, g, rfl, h1, h2, h3, h4⟩
  · exact (ixK_none P l (fun j e _ he => h j e (by omega) he)).symm
  · exact (ixK_some P l k g h2 h3 (fun j e hj he => h4 j e (by omega) hj he)).symm
theorem ov_new {T U : Nat} {a b c : World} (h : Ov T a b) (k : Onto U b c) (hU : a.heap.size ≤ U) : Ov T a c := by
  induction k with
  | refl => exact h
  | set _ k v ih => exact ih.set (.inr hU) v
  | more _ p ih => exact ih.more p
  | alloc _ o ih => exact ih.alloc o
set_option maxRecDepth 100000 in
set_option maxHeartbeats 12800000 in
theorem rPlace_any {n : Nat} (l : List (Vr n)) (a : Option Addr) (c : Nat) (w : World) (hV : VrsAt w l a c) (nm : ByteArray) (ps : List Pt) (pa : Option Addr) (pc : Nat) (hP : PtsAt w ps pa pc) :
    Calls Try.prog 25 #[.slice a l.length c, .agg #[.string nm, .slice pa ps.length pc]] w (PlcC w (placeE l nm ps)) := by
  have SO := Lib.hid (fun (t : Ty n) (r : Raw) (W : World) (hT : TyAt w n t r) (hW : Below w.heap.size w W) => refSound_any n t r W (hT.below hW))
  have HV := Lib.hid hV.2.2
  have hc1 := hV.1
  have hc2 := hV.2.1
  have HPT := Lib.hid hP.2.2
  have hpc1 := hP.1
  have hpc2 := hP.2.1
  have HPE : Hid (placeE l nm ps = if ixK (fun v => nmE v.name nm) l < 0 then (6, none) else
    match l[(ixK (fun v => nmE v.name nm) l).toNat]? with
      | none => (6, none)
      | some v => if SoundF n v.type ≠ 0 then (SoundF n v.type, none) else goP n v.type ps) := Lib.hid rfl
  clear hV hP
  go_enter Try.func25, Try.ntmps25
  go_wp2_with fail
  refine wp_letter (R := fun W => Below w.heap.size w W ∧ W.cell? ⟨w.heap.size, 0, none⟩ = some (.string nm) ∧ W.cell? ⟨w.heap.size, 1, none⟩ = some (.slice pa ps.length pc) ∧ TyB6 W (w.heap.size + 1) 0 0 false none 0 0 0 none 0 0 ∧ (∀ k, W.frozen? ⟨w.heap.size + 1, k, none⟩ = false)) ?letZ ?_
  case letZ =>
    refine ⟨?_, by simp [go_sem, ↓IntWalk.iteOmega], by simp [go_sem, ↓IntWalk.iteOmega], ⟨?_, ?_, ?_, ?_, ?_, ?_⟩, fun k => ?_⟩
    · repeat (first | with_reducible exact Below.refl _ _ | with_reducible refine below_mo ?_ _ | with_reducible refine below_al ?_ _)
    all_goals first | (simp [go_sem, ↓IntWalk.iteOmega]; done) | (simp [go_sem, ↓IntWalk.iteOmega]; intro h; omega)
  rintro w1 ⟨h1, x0, x1, hZ, hzZ⟩
  have H1 := Lib.hid h1
  have HZ := Lib.hid hZ
  have HZZ := Lib.hid hzZ
  have hbs1 := h1.size
  have hlX := cell_lt2 x0
  have hlZ := cell_lt2 hZ.1
  clear h1 hZ hzZ
  go_loopw [6, 7] (fun f i wr => ∃ (I F : Int), -1 ≤ I ∧ I < l.length ∧ i = .int .i64 I ∧ f = .int .i64 F ∧ FstK (fun v => nmE v.name nm) l I F ∧ ∃ p : Regrown, wr = more w1 p) (fun _ i _ => (intOf i + 1).toNat)
  case atStart => exact ⟨(l.length : Int) - 1, -1, by omega, by omega, by go_num, rfl, FstK.start _ _, more_of_below (Below.refl _ _)⟩
  case round =>
    obtain ⟨I, F, hI0, hI1, rfl, rfl, hF, p0, rfl⟩ := hrel
    have HF := Lib.hid hF
    clear hF
    by_cases hge : 0 ≤ I
    · obtain ⟨i, rfl⟩ : ∃ i : Nat, I = i := ⟨I.toNat, by omega⟩
      obtain ⟨b, off, rfl, hb, hcs⟩ := HV.out (by omega)
      obtain ⟨v, hv⟩ := get_some l i (by omega)
      obtain ⟨q, hq, hnm, c0, c1, c2, c3, c4, c5, c6⟩ := hcs i v hv
      replace c0 := (H1.out.cell (p := ⟨b, off + i * 7, none⟩) hb).trans c0
      have hb1 : b < w1.heap.size := by omega
      have HHIT := Lib.hid (fun h => FstK.hit (P := fun v : Vr n => nmE v.name nm) (r := F) hv h)
      have HMISS := Lib.hid (fun h => HF.out.miss hv h)
      clear hcs hq c1 c2 c3 c4 c5 c6 hv HF
      cases hm : nmE v.name nm
      · have hm' : (v.name.toList == nm.toList) = false := hm
        have HMI := Lib.hid (HMISS.out hm)
        clear HMISS HHIT hm
        go_upto_region 5 with fail
        refine wp_quiet_more (by kernel_rfl) (by kernel_rfl) ?_
        repeat (go_big_quiet_step (fail))
        refine wpQuiet_nil ?_
        intro p8
        go_wp2_with fail
        go_roundw
        case rel => exact ⟨(i : Int) - 1, F, by omega, by omega, by go_num, rfl, HMI.out, more_more _ _ _⟩
        case measure => first | (simp [intOf]; done) | (simp [intOf]; omega)
      · have hm' : (v.name.toList == nm.toList) = true := hm
        have HHI := Lib.hid (HHIT.out hm)
        clear HMISS HHIT hm
        go_upto_region 5 with fail
        refine wp_quiet_more (by kernel_rfl) (by kernel_rfl) ?_
        repeat (go_big_quiet_step (fail))
        refine wpQuiet_nil ?_
        intro p8
        go_wp2_with fail
        go_roundw
        case rel => exact ⟨(i : Int) - 1, i, by omega, by omega, by go_num, rfl, HHI.out, more_more _ _ _⟩
        case measure => first | (simp [intOf]; done) | (simp [intOf]; omega)
    · obtain rfl : I = -1 := by omega
      have hFx := HF.out.fin
      have hix := ixK_ge (fun v : Vr n => nmE v.name nm) l
      clear HF
      rw [← hFx] at HPE hix
      clear hFx
      have HB0 : Hid (Below w.heap.size w (more w1 p0)) := Lib.hid (below_mo H1.out p0)
      have HX1 : Hid ((more w1 p0).cell? ⟨w.heap.size, 1, none⟩ = some (.slice pa ps.length pc)) := Lib.hid (((more_below w1 p0).cell (p := ⟨w.heap.size, 1, none⟩) hlX).trans x1)
      by_cases hF0 : F < 0
      · obtain rfl : F = -1 := by omega
        have hR : placeE l nm ps = (6, none) := by rw [HPE.out, if_pos hF0]
        rw [hR]
        obtain ⟨z0, z1, z2, z3, z4, z5⟩ := HZ.out
        have zf := HZZ.out
        go_wp2_with fail
        refine bodyPost_ret (v := .tuple #[.agg #[.int .i64 0, .int .i64 0, .bool false, .slice none 0 0, .int .i64 0, .slice none 0 0], .int .i64 6]) ?hresA rfl ?postA
        case hresA =>
          refine ret_ct (cs := [.int .i64 0, .int .i64 0, .bool false, .slice none 0 0, .int .i64 0, .slice none 0 0]) (t := 5) (c := 4) rfl rfl rfl Try.underlying25 rfl (by kernel_rfl) (range6 ?_ ?_ ?_ ?_ ?_ ?_)
          all_goals simp [go_sem, ↓IntWalk.iteOmega, cell_upd2, z0, z1, z2, z3, z4, z5]
        case postA => exact ⟨⟨zRaw, rfl, fun m u hu => by cases hu⟩, more_of_below (by repeat (first | with_reducible exact H1.out | with_reducible refine below_mo ?_ _ | with_reducible refine below_al ?_ _ | with_reducible refine below_dr ?_ | with_reducible refine below_dn ?_ _ | with_reducible refine below_st ?_ (by simp <;> omega) _))⟩
      · obtain ⟨i, rfl⟩ : ∃ i : Nat, F = i := ⟨F.toNat, by omega⟩
        have hil : i < l.length := by omega
        obtain ⟨b, off, rfl, hb, hcs⟩ := HV.out (by omega)
        obtain ⟨v, hv⟩ := get_some l i hil
        obtain ⟨q, hq, hnm, c0, c1, c2, c3, c4, c5, c6⟩ := hcs i v hv
        have hR : placeE l nm ps = if SoundF n v.type ≠ 0 then (SoundF n v.type, none) else goP n v.type ps := by
          rw [HPE.out, if_neg hF0, show ((i : Int)).toNat = i by omega, hv]
        have SOK := Lib.hid (fun W (hW : Below w.heap.size w W) => SO.out v.type q W hq hW)
        have HQ := Lib.hid hq
        have hii : (0 : Int) ≤ (i : Int) := by omega
        have hcc : ∀ (o : Nat) (x : Value), w.cell? ⟨b, o, none⟩ = some x → w1.cell? ⟨b, o, none⟩ = some x := fun o x hx => (H1.out.cell (p := ⟨b, o, none⟩) hb).trans hx
        replace c1 := hcc _ _ c1
        replace c2 := hcc _ _ c2
        replace c3 := hcc _ _ c3
        replace c4 := hcc _ _ c4
        replace c5 := hcc _ _ c5
        replace c6 := hcc _ _ c6
        have hb1 : b < w1.heap.size := by omega
        have HSF := Lib.hid (fun h : SoundF n v.type = 0 => SoundF_zero h)
        generalize hRES : (if SoundF n v.type ≠ 0 then (SoundF n v.type, none) else goP n v.type ps) = RES at *
        have HRES := Lib.hid hRES
        have HPR := Lib.hid hR
        generalize SoundF n v.type = E at *
        clear hcs hq hF0 hR HPE hv SO hcc c0 hRES
        obtain ⟨qk, qs, qp, qfa, qfl, qfc, qc, qea, qel, qec⟩ := q
        unfold Raw.val at SOK
        simp only at c1 c2 c3 c4 c5 c6 SOK
        go_wp2_with (go_at_call 30; refine (SOK.out _ (by repeat (first | with_reducible exact HB0.out | with_reducible refine below_mo ?_ _ | with_reducible refine below_al ?_ _))).mono ?_; rintro e w1 ⟨rfl, p2, rfl⟩)
        refine wp_letter (R := fun W => Below w.heap.size w W ∧ W.cell? ⟨w.heap.size, 1, none⟩ = some (.slice pa ps.length pc) ∧ TyB6 W (w.heap.size + 1) 0 0 false none 0 0 0 none 0 0 ∧ TyB6 W (w1.heap.size + p0.os.size) qk qs qp qfa qfl qfc qc qea qel qec ∧ (∀ k, W.frozen? ⟨w.heap.size + 1, k, none⟩ = false) ∧ (∀ k, W.frozen? ⟨w1.heap.size + p0.os.size, k, none⟩ = false)) ?letA ?_
        case letA =>
          obtain ⟨z0, z1, z2, z3, z4, z5⟩ := HZ.out
          have zf := HZZ.out
          refine ⟨?_, by simp [go_sem, ↓IntWalk.iteOmega, x1], ⟨?_, ?_, ?_, ?_, ?_, ?_⟩, ⟨?_, ?_, ?_, ?_, ?_, ?_⟩, fun k => ?_, fun k => ?_⟩
          · repeat (first | with_reducible exact HB0.out | with_reducible refine below_mo ?_ _ | with_reducible refine below_al ?_ _)
          all_goals first | (simp [go_sem, ↓IntWalk.iteOmega, z0, z1, z2, z3, z4, z5, zf]; done) | (simp [go_sem, ↓IntWalk.iteOmega, zf]; intro h; omega)
        rintro wA ⟨hA1, xA, hZA, hTA, hzZ, hzT⟩
        have HA1 := Lib.hid hA1
        have HZA := Lib.hid hZA
        have HZZA := Lib.hid hzZ
        have HZT := Lib.hid hzT
        have HTA := Lib.hid hTA
        have hbs := hA1.size
        have hlXA := cell_lt2 xA
        have hlZA := cell_lt2 hZA.1
        have hlT := cell_lt2 hTA.1
        have hTX : w.heap.size + 1 < w1.heap.size + p0.os.size := by omega
        generalize w1.heap.size + p0.os.size = T at *
        clear hA1 hZA hzZ hzT hTA c1 c2 c3 c4 c5 c6 SOK HB0 HX1 x0 x1 HZ HZZ H1 hlX hlZ hbs1 hb1
        go_loopw [9, 10] (fun v9 v10 wr => ∃ (k : Nat) (er : Int), k ≤ ps.length ∧ v10 = .int .i64 k ∧ v9 = .int .i64 er ∧ ((er = 0 ∧ ∃ (m : Nat) (u : Ty m) (q : Raw), RES = goP m u (ps.drop k) ∧ soundF m u = 0 ∧ TyAt w m u q ∧ TyB6 wr T q.kind q.size q.packed q.fa q.fl q.fc q.count q.ea q.el q.ec) ∨ (er ≠ 0 ∧ RES = (er, none) ∧ ∃ q : Raw, TyB6 wr T q.kind q.size q.packed q.fa q.fl q.fc q.count q.ea q.el q.ec)) ∧ Ov T wA wr ∧ ∀ j, wr.frozen? ⟨T, j, none⟩ = false) (fun _ v10 _ => ps.length - (intOf v10).toNat)
        case atStart =>
          refine ⟨0, E, by omega, rfl, rfl, ?_, Ov.refl, HZT.out⟩
          by_cases hE : E = 0
          · exact .inl ⟨hE, n, v.type, _, by rw [← HRES.out, hE, List.drop_zero]; rfl, HSF.out hE, HQ.out, HTA.out⟩
          · exact .inr ⟨hE, by rw [← HRES.out, if_pos hE], ⟨qk, qs, qp, qfa, qfl, qfc, qc, qea, qel, qec⟩, HTA.out⟩
        case round =>
          obtain ⟨k, er, hkl, rfl, rfl, hst, hon, tf⟩ := hrel
          have HON := Lib.hid hon
          have hson := hon.size
          have x1 := (hon.cell hlXA (by omega)).trans xA
          obtain ⟨z0, z1, z2, z3, z4, z5⟩ := HZA.out
          replace z0 := (hon.cell hlZA (by omega)).trans z0
          replace z1 := (hon.cell hlZA (by omega)).trans z1
          replace z2 := (hon.cell hlZA (by omega)).trans z2
          replace z3 := (hon.cell hlZA (by omega)).trans z3
          replace z4 := (hon.cell hlZA (by omega)).trans z4
          replace z5 := (hon.cell hlZA (by omega)).trans z5
          have zf : ∀ j, wr.frozen? ⟨w.heap.size + 1, j, none⟩ = false := fun j => (hon.frozen hlZA (by omega)).trans (HZZA.out j)
          have HBW : Hid (Below w.heap.size w wr) := Lib.hid (hon.under HA1.out (by omega))
          have hlr : w.heap.size ≤ wr.heap.size := HBW.out.size
          have hlXr := cell_lt2 x1
          have hlZr := cell_lt2 z0
          have hlTr : T < wr.heap.size := by omega
          clear hon
          rcases hst with ⟨rfl, m, u, q, hgo, hsu, hqu, hqb⟩ | ⟨her, hR, q, hqb⟩
          · have HGO := Lib.hid hgo
            have HSU := Lib.hid hsu
            have HQU := Lib.hid hqu
            clear hgo hsu hqu
            obtain ⟨y0, y1, y2, y3, y4, y5⟩ := hqb
            by_cases hlt : (k : Int) < ps.length
            · obtain ⟨pb, poff, rfl, hpb, hpp⟩ := HPT.out (by omega)
              obtain ⟨pt, hpt⟩ := get_some ps k (by omega)
              obtain ⟨hnf, d0, ia, ic, d1, hic1, hic2⟩ := hpp k pt hpt
              replace d0 := (HBW.out.cell (p := ⟨pb, poff + k * 2, none⟩) hpb).trans d0
              replace d1 := (HBW.out.cell (p := ⟨pb, poff + k * 2 + 1, none⟩) hpb).trans d1
              have hpbr : pb < wr.heap.size := by omega
              have hdr : ps.drop k = pt :: ps.drop (k + 1) := by
                have hk' : k < ps.length := by omega
                rw [List.drop_eq_getElem_cons hk']
                congr 1
                exact Option.some.inj ((List.getElem?_eq_getElem hk').symm.trans hpt)
              rw [hdr] at HGO
              clear hpp hpt hdr
              cases m with
              | zero => exact nomatch u
              | succ m =>
                obtain ⟨tu, htu⟩ : ∃ t : TyF (Ty m), (u : Ty (m + 1)) = t := ⟨u, rfl⟩
                subst htu
                have hku : q.kind = u.kind := HQU.out.1
                obtain ⟨pf, px⟩ := pt
                simp only at d0 d1 hic1
                by_cases hA : px = 1 ∧ isE pf = true ∧ u.kind = 5
                · rcases sound_cases m u HSU.out with ⟨hk, _⟩ | ⟨-, -, -, -, -, -, ue, hue, hsue⟩ | ⟨hk, _⟩
                  · omega
                  · have hpe : partE u ⟨pf, px⟩ = (0, some ue) := by unfold partE; rw [if_pos hA, hue]; rfl
                    have HG2 : Hid (RES = goP m ue (ps.drop (k + 1))) := Lib.hid (HGO.out.trans (goP_some hpe _))
                    obtain ⟨e1, e2, e3, e4, e5, e6, e7, e8, e9, hf, he⟩ := HQU.out
                    rw [hue] at e6
                    obtain ⟨qk, qs, qp, qfa, qfl, qfc, qc, qea, qel, qec⟩ := q
                    simp only at y0 y1 y2 y3 y4 y5 e6 he hku
                    obtain rfl : qel = 1 := by simpa using e6
                    obtain ⟨eb, eoff, rfl, heb, hecs⟩ := he.2.2 (by omega)
                    obtain ⟨q2, hq2, g0, g1, g2, g3, g4, g5⟩ := hecs 0 ue (by rw [hue]; rfl)
                    simp only [Nat.zero_mul, Nat.add_zero] at g0 g1 g2 g3 g4 g5
                    have hec := he.1
                    have hem := he.2.1
                    have hcc : ∀ (o : Nat) (x : Value), w.cell? ⟨eb, o, none⟩ = some x → wr.cell? ⟨eb, o, none⟩ = some x := fun o x hx => (HBW.out.cell (p := ⟨eb, o, none⟩) heb).trans hx
                    replace g0 := hcc _ _ g0
                    replace g1 := hcc _ _ g1
                    replace g2 := hcc _ _ g2
                    replace g3 := hcc _ _ g3
                    replace g4 := hcc _ _ g4
                    replace g5 := hcc _ _ g5
                    have hebr : eb < wr.heap.size := by omega
                    have hTe : eb ≠ T := by omega
                    have hTe2 : T ≠ eb := by omega
                    have HQ2 := Lib.hid hq2
                    have HS2 := Lib.hid hsue
                    obtain ⟨q2k, q2s, q2p, q2fa, q2fl, q2fc, q2c, q2ea, q2el, q2ec⟩ := q2
                    simp only at g0 g1 g2 g3 g4 g5
                    obtain ⟨rfl, hem2, hk5⟩ := hA
                    have em : pf.toList.isEmpty = true := hem2
                    rw [← hku] at hk5
                    subst hk5
                    clear hf he hecs e1 e2 e3 e4 e5 e6 e7 e8 e9 hcc hq2 hpe hem2 hku hue hsue
                    go_wp2_with fail
                    go_roundw
                    case rel =>
                      refine ⟨k + 1, 0, by omega, by go_num, rfl, .inl ⟨rfl, m, ue, _, HG2.out, HS2.out, HQ2.out, ⟨?_, ?_, ?_, ?_, ?_, ?_⟩⟩, ?ovE, ?fzE⟩
                      case ovE => repeat (first | with_reducible exact HON.out | with_reducible refine Ov.setX ?_ _ _ | with_reducible refine Ov.more ?_ _ | with_reducible refine Ov.alloc ?_ _)
                      case fzE => exact fun j => (Onto.frozen (B := T) (by repeat (first | with_reducible exact Onto.refl | with_reducible refine Onto.set ?_ _ _ | with_reducible refine Onto.more ?_ _ | with_reducible refine Onto.alloc ?_ _)) hlTr).trans (tf j)
                      all_goals (simp [go_sem, ↓IntWalk.iteOmega, cell_upd2, y0, y1, y2, y3, y4, y5]; done)
                    case measure => simp [intOf]; omega
                  · omega
                · by_cases hB : px = 0 ∧ isE pf = false ∧ (u.kind = 3 ∨ u.kind = 4)
                  · obtain ⟨hpx, hem2, hk34⟩ := hB
                    have em : pf.toList.isEmpty = false := hem2
                    have hPE : partE u ⟨pf, px⟩ = (if ixK (fun f => nmE f.name pf) u.fields < 0 then (6, none) else (0, (u.fields[(ixK (fun f => nmE f.name pf) u.fields).toNat]?).map (fun f => f.type))) := by unfold partE; rw [if_neg hA, if_pos ⟨hpx, hem2, hk34⟩]
                    subst hpx
                    have HPE2 := Lib.hid hPE
                    obtain ⟨e1, e2, e3, e4, e5, e6, e7, e8, e9, hf, he⟩ := HQU.out
                    have HSP := Lib.hid (fun v hv => part_sound (t := u) (p := ⟨pf, 0⟩) (u := v) HSU.out hv)
                    have hufl := e4
                    have hfc := hf.1
                    have hfm := hf.2.1
                    have HF := Lib.hid hf.2.2
                    obtain ⟨qk, qs, qp, qfa, qfl, qfc, qc, qea, qel, qec⟩ := q
                    simp only at y0 y1 y2 y3 y4 y5 hku hufl hfc hfm HF
                    rw [← hku] at hk34
                    clear hf he e1 e2 e3 e4 e5 e6 e7 e8 e9 hA hku hPE
                    generalize hfs : u.fields = fs at *
                    subst hufl
                    clear hfs
                    rcases hk34 with rfl | rfl
                    all_goals
                      go_wp2_with fail
                      refine wp_letter (R := fun W => Below wr.heap.size wr W ∧ W.cell? ⟨wr.heap.size, 0, none⟩ = some (.string pf) ∧ TyB6 W (wr.heap.size + 1) 0 0 false none 0 0 0 none 0 0 ∧ (∀ k, W.frozen? ⟨wr.heap.size + 1, k, none⟩ = false)) ?letC ?_
                      case letC =>
                        refine ⟨?_, ?_, ⟨?_, ?_, ?_, ?_, ?_, ?_⟩, fun k => ?_⟩
                        · repeat (first | with_reducible exact Below.refl _ _ | with_reducible refine below_mo ?_ _ | with_reducible refine below_al ?_ _)
                        any_goals (simp [go_sem, ↓IntWalk.iteOmega]; done)
                        all_goals (simp [go_sem, ↓IntWalk.iteOmega]; intro h; omega)
                      rintro wC ⟨hC, n0, hU, hUf⟩
                      have HC := Lib.hid hC
                      have hsC := hC.size
                      have hlP := cell_lt2 n0
                      have hlU := cell_lt2 hU.1
                      have HU := Lib.hid hU
                      have HUF := Lib.hid hUf
                      generalize hUU : wr.heap.size + 1 = U at *
                      generalize hPP : wr.heap.size = PB at *
                      replace y0 := (hC.cell (p := ⟨T, 0, none⟩) hlTr).trans y0
                      replace y1 := (hC.cell (p := ⟨T, 1, none⟩) hlTr).trans y1
                      replace y2 := (hC.cell (p := ⟨T, 2, none⟩) hlTr).trans y2
                      replace y3 := (hC.cell (p := ⟨T, 3, none⟩) hlTr).trans y3
                      replace y4 := (hC.cell (p := ⟨T, 4, none⟩) hlTr).trans y4
                      replace y5 := (hC.cell (p := ⟨T, 5, none⟩) hlTr).trans y5
                      have tfC : ∀ j, wC.frozen? ⟨T, j, none⟩ = false := fun j => (hC.frozen (p := ⟨T, j, none⟩) hlTr).trans (tf j)
                      have HOC : Hid (Ov T wA wC) := Lib.hid (HON.out.trans (Ov.of_below (by rw [hPP]; exact hC)))
                      have HBC : Hid (Below w.heap.size w wC) := Lib.hid (by rw [← hPP] at hC; exact below_next HBW.out hC)
                      have hTC : T < wC.heap.size := by omega
                      clear hC hU hUf x1 z0 z1 z2 z3 z4 z5 zf d0 d1
                      go_loopw [9, 13] (fun v9 v13 wq => ∃ (i : Nat) (er : Int), i ≤ fs.length ∧ v13 = .int .i64 i ∧ v9 = .int .i64 er ∧ ((er = 6 ∧ (∀ (j : Nat) e, j < i → fs[j]? = some e → nmE e.name pf = false) ∧ TyB6 wq U 0 0 false none 0 0 0 none 0 0) ∨ (er = 0 ∧ ∃ (f : FdF (Ty m)) (q : Raw), partE u ⟨pf, 0⟩ = (0, some f.type) ∧ TyAt w m f.type q ∧ TyB6 wq U q.kind q.size q.packed q.fa q.fl q.fc q.count q.ea q.el q.ec)) ∧ Onto U wC wq) (fun _ v13 _ => fs.length - (intOf v13).toNat)
                      case atStart => exact ⟨0, 6, by omega, rfl, rfl, .inl ⟨rfl, fun j e hj => by omega, HU.out⟩, Onto.refl⟩
                      case round =>
                        obtain ⟨i, er, hil, rfl, rfl, hst, hoq⟩ := hrel
                        have HOQ := Lib.hid hoq
                        have hsq := hoq.size
                        have n0q := (hoq.cell hlP (by omega)).trans n0
                        have hTU : ¬ T = U := by omega
                        replace y0 := (hoq.cell hTC hTU).trans y0
                        replace y1 := (hoq.cell hTC hTU).trans y1
                        replace y2 := (hoq.cell hTC hTU).trans y2
                        replace y3 := (hoq.cell hTC hTU).trans y3
                        replace y4 := (hoq.cell hTC hTU).trans y4
                        replace y5 := (hoq.cell hTC hTU).trans y5
                        have tfq : ∀ j, wr.frozen? ⟨T, j, none⟩ = false := fun j => (hoq.frozen hTC).trans (tfC j)
                        have ufq : ∀ j, wr.frozen? ⟨U, j, none⟩ = false := fun j => (hoq.frozen hlU).trans (HUF.out j)
                        have HOT : Hid (Ov T wA wr) := Lib.hid (ov_new HOC.out hoq (by omega))
                        have hTq : T < wr.heap.size := by omega
                        have hlUq : U < wr.heap.size := by omega
                        have HBQ : Hid (Below w.heap.size w wr) := Lib.hid (hoq.under HBC.out (by omega))
                        clear hoq
                        rcases hst with ⟨rfl, hmiss, u0, u1, u2, u3, u4, u5⟩ | ⟨rfl, f, q3, hpe, hq3, u0, u1, u2, u3, u4, u5⟩
                        · have HMI := Lib.hid hmiss
                          clear hmiss
                          by_cases hlti : (i : Int) < fs.length
                          · obtain ⟨fb, foff, rfl, hfb, hcs⟩ := HF.out (by omega)
                            obtain ⟨f, hf⟩ := get_some fs i (by omega)
                            obtain ⟨q3, hq3, _, hnm, c0, c1, c2, c3, c4, c5, c6, _, _⟩ := hcs i f hf
                            have hcc : ∀ (o : Nat) (x : Value), w.cell? ⟨fb, o, none⟩ = some x → wr.cell? ⟨fb, o, none⟩ = some x := fun o x hx => (HBQ.out.cell (p := ⟨fb, o, none⟩) hfb).trans hx
                            replace c0 := hcc _ _ c0
                            replace c1 := hcc _ _ c1
                            replace c2 := hcc _ _ c2
                            replace c3 := hcc _ _ c3
                            replace c4 := hcc _ _ c4
                            replace c5 := hcc _ _ c5
                            replace c6 := hcc _ _ c6
                            have hfbq : fb < wr.heap.size := by omega
                            have hfU : ¬ U = fb := by omega
                            have HQ3 := Lib.hid hq3
                            have HHIT : Hid (nmE f.name pf = true → partE u ⟨pf, 0⟩ = (0, some f.type)) := Lib.hid (fun h => by
                              rw [HPE2.out, ixK_some (fun g : FdF (Ty m) => nmE g.name pf) fs i f hf h HMI.out, if_neg (by omega), show ((i : Int)).toNat = i by omega, hf]
                              rfl)
                            have HNX : Hid (nmE f.name pf = false → ∀ (j : Nat) e, j < i + 1 → fs[j]? = some e → nmE e.name pf = false) := Lib.hid (fun h j e hj he => by
                              rcases Nat.lt_or_ge j i with h1 | h1
                              · exact HMI.out j e h1 he
                              · obtain rfl : j = i := by omega
                                rw [hf] at he
                                cases he
                                exact h)
                            clear hcs hq3 hcc hf HMI
                            obtain ⟨gk, gs, gp, gfa, gfl, gfc, gc, gea, gel, gec⟩ := q3
                            simp only at c1 c2 c3 c4 c5 c6
                            cases hm : nmE f.name pf
                            · have hm' : (f.name.toList == pf.toList) = false := hm
                              have HN2 := Lib.hid (HNX.out hm)
                              clear HNX HHIT hm
                              go_upto_region 24 with fail
                              refine wp_quiet_more (by kernel_rfl) (by kernel_rfl) ?_
                              repeat (go_big_quiet_step (fail))
                              refine wpQuiet_nil ?_
                              intro p8
                              go_wp2_with fail
                              go_roundw
                              case rel =>
                                refine ⟨i + 1, 6, by omega, by go_num, rfl, .inl ⟨rfl, HN2.out, ?_, ?_, ?_, ?_, ?_, ?_⟩, HOQ.out.more _⟩
                                all_goals (simp only [go_sem, ↓IntWalk.iteOmega]; first | exact u0 | exact u1 | exact u2 | exact u3 | exact u4 | exact u5)
                              case measure => first | (simp [intOf]; done) | (simp [intOf]; omega)
                            · have hm' : (f.name.toList == pf.toList) = true := hm
                              have HP2 := Lib.hid (HHIT.out hm)
                              clear HNX HHIT hm
                              go_upto_region 24 with fail
                              refine wp_quiet_more (by kernel_rfl) (by kernel_rfl) ?_
                              repeat (go_big_quiet_step (fail))
                              refine wpQuiet_nil ?_
                              intro p8
                              go_wp2_with fail
                              go_roundw
                              case rel =>
                                refine ⟨i + 1, 0, by omega, by go_num, rfl, .inr ⟨rfl, f, _, HP2.out, HQ3.out, ?_, ?_, ?_, ?_, ?_, ?_⟩, ?onH⟩
                                case onH => repeat (first | with_reducible exact HOQ.out | with_reducible refine Onto.set ?_ _ _ | with_reducible refine Onto.more ?_ _ | with_reducible refine Onto.alloc ?_ _)
                                all_goals (simp [go_sem, ↓IntWalk.iteOmega, cell_upd2, u0, u1, u2, u3, u4, u5]; done)
                              case measure => first | (simp [intOf]; done) | (simp [intOf]; omega)
                          · obtain rfl : i = fs.length := by omega
                            have HG2 : Hid (RES = (6, none)) := Lib.hid (HGO.out.trans (goP_none (by rw [HPE2.out, ixK_none _ fs HMI.out, if_pos (by decide)]) _))
                            clear HMI
                            go_wp2_with fail
                            go_roundw
                            case rel =>
                              refine ⟨k + 1, 6, by omega, by go_num, rfl, .inr ⟨by decide, HG2.out, zRaw, ⟨?_, ?_, ?_, ?_, ?_, ?_⟩⟩, ?ovM, ?fzM⟩
                              case ovM => repeat (first | with_reducible exact HOT.out | with_reducible refine Ov.setX ?_ _ _ | with_reducible refine Ov.more ?_ _ | with_reducible refine Ov.alloc ?_ _)
                              case fzM => exact fun j => (Onto.frozen (B := T) (by repeat (first | with_reducible exact Onto.refl | with_reducible refine Onto.set ?_ _ _ | with_reducible refine Onto.more ?_ _ | with_reducible refine Onto.alloc ?_ _)) hTq).trans (tfq j)
                              all_goals (unfold zRaw; simp [go_sem, ↓IntWalk.iteOmega, cell_upd2, y0, y1, y2, y3, y4, y5]; done)
                            case measure => first | (simp [intOf]; done) | (simp [intOf]; omega)
                        · have HG2 : Hid (RES = goP m f.type (ps.drop (k + 1))) := Lib.hid (HGO.out.trans (goP_some hpe _))
                          have HS2 : Hid (soundF m f.type = 0) := Lib.hid (HSP.out f.type (by rw [hpe]))
                          have HQ3 := Lib.hid hq3
                          clear hpe hq3
                          obtain ⟨gk, gs, gp, gfa, gfl, gfc, gc, gea, gel, gec⟩ := q3
                          simp only at u0 u1 u2 u3 u4 u5
                          by_cases hlti : (i : Int) < fs.length
                          all_goals
                            go_wp2_with fail
                            go_roundw
                            case rel =>
                              refine ⟨k + 1, 0, by omega, by go_num, rfl, .inl ⟨rfl, m, f.type, _, HG2.out, HS2.out, HQ3.out, ⟨?_, ?_, ?_, ?_, ?_, ?_⟩⟩, ?ovF, ?fzF⟩
                              case ovF => repeat (first | with_reducible exact HOT.out | with_reducible refine Ov.setX ?_ _ _ | with_reducible refine Ov.more ?_ _ | with_reducible refine Ov.alloc ?_ _)
                              case fzF => exact fun j => (Onto.frozen (B := T) (by repeat (first | with_reducible exact Onto.refl | with_reducible refine Onto.set ?_ _ _ | with_reducible refine Onto.more ?_ _ | with_reducible refine Onto.alloc ?_ _)) hTq).trans (tfq j)
                              all_goals (simp [go_sem, ↓IntWalk.iteOmega, cell_upd2, y0, y1, y2, y3, y4, y5]; done)
                            case measure => first | (simp [intOf]; done) | (simp [intOf]; omega)
                  · have hpe : partE u ⟨pf, px⟩ = (8, none) := by unfold partE; rw [if_neg hA, if_neg hB]
                    have HG2 : Hid (RES = (8, none)) := Lib.hid (HGO.out.trans (goP_none hpe _))
                    rw [← hku] at hA hB
                    unfold isE at hA hB
                    obtain ⟨qk, qs, qp, qfa, qfl, qfc, qc, qea, qel, qec⟩ := q
                    simp only at y0 y1 y2 y3 y4 y5 hA hB
                    clear hpe hku HQU HSU HGO
                    have hcase : (px = 0 ∧ pf.toList.isEmpty = true) ∨ (px = 0 ∧ pf.toList.isEmpty = false ∧ (qk == 3) = false ∧ (qk == 4) = false) ∨ (px = 1 ∧ pf.toList.isEmpty = false) ∨ (px = 1 ∧ pf.toList.isEmpty = true ∧ (qk == 5) = false) ∨ (((px : Int) == 1) = false ∧ ((px : Int) == 0) = false) := by
                      rcases (show px = 0 ∨ px = 1 ∨ 1 < px by omega) with rfl | rfl | h
                      · cases em : pf.toList.isEmpty
                        · rw [em] at hB
                          simp at hB
                          exact .inr (.inl ⟨rfl, rfl, by simp; omega, by simp; omega⟩)
                        · exact .inl ⟨rfl, rfl⟩
                      · cases em : pf.toList.isEmpty
                        · exact .inr (.inr (.inl ⟨rfl, rfl⟩))
                        · rw [em] at hA
                          simp at hA
                          exact .inr (.inr (.inr (.inl ⟨rfl, rfl, by simp; omega⟩)))
                      · exact .inr (.inr (.inr (.inr ⟨by simp; omega, by simp; omega⟩)))
                    clear hA hB
                    rcases hcase with ⟨rfl, em⟩ | ⟨rfl, em, b3, b4⟩ | ⟨rfl, em⟩ | ⟨rfl, em, b5⟩ | ⟨x1', x0'⟩
                    all_goals
                      go_wp2_with fail
                      go_roundw
                      case rel =>
                        refine ⟨k + 1, 8, by omega, by go_num, rfl, .inr ⟨by decide, HG2.out, ⟨qk, qs, qp, qfa, qfl, qfc, qc, qea, qel, qec⟩, ⟨?_, ?_, ?_, ?_, ?_, ?_⟩⟩, ?_, ?_⟩
                        rotate_left 6
                        · repeat (first | with_reducible exact HON.out | with_reducible refine Ov.setX ?_ _ _ | with_reducible refine Ov.more ?_ _ | with_reducible refine Ov.alloc ?_ _)
                        · exact fun j => (Onto.frozen (B := T) (by repeat (first | with_reducible exact Onto.refl | with_reducible refine Onto.set ?_ _ _ | with_reducible refine Onto.more ?_ _ | with_reducible refine Onto.alloc ?_ _)) hlTr).trans (tf j)
                        all_goals (simp only [go_sem, ↓IntWalk.iteOmega]; first | exact y0 | exact y1 | exact y2 | exact y3 | exact y4 | exact y5)
                      case measure => simp [intOf]; omega
            · obtain rfl : k = ps.length := by omega
              have HG2 : Hid (RES = (0, some ⟨m, u⟩)) := Lib.hid (by
                rw [HGO.out, List.drop_length]
                cases m <;> rfl)
              obtain ⟨qk, qs, qp, qfa, qfl, qfc, qc, qea, qel, qec⟩ := q
              simp only at y0 y1 y2 y3 y4 y5
              go_wp2_with fail
              refine bodyPost_ret (v := .tuple #[.agg #[.int .i64 qk, .int .i64 qs, .bool qp, .slice qfa qfl qfc, .int .i64 qc, .slice qea qel qec], .int .i64 0]) ?hresD rfl ?postD
              case hresD =>
                refine ret_ct (cs := [.int .i64 qk, .int .i64 qs, .bool qp, .slice qfa qfl qfc, .int .i64 qc, .slice qea qel qec]) (t := 5) (c := 4) rfl rfl rfl Try.underlying25 rfl (by kernel_rfl) (range6 ?_ ?_ ?_ ?_ ?_ ?_)
                all_goals simp [go_sem, ↓IntWalk.iteOmega, cell_upd2, z0, z1, z2, z3, z4, z5]
              case postD =>
                rw [HPR.out, HG2.out]
                exact ⟨⟨_, rfl, fun m u hu => by cases hu; exact HQU.out⟩, more_of_below (by repeat (first | with_reducible exact HBW.out | with_reducible refine below_mo ?_ _ | with_reducible refine below_al ?_ _ | with_reducible refine below_dr ?_ | with_reducible refine below_dn ?_ _ | with_reducible refine below_st ?_ (by simp <;> omega) _))⟩
          · obtain ⟨y0, y1, y2, y3, y4, y5⟩ := hqb
            have hb1 : (er != 0) = true := by simpa using her
            have hb2 : (er == 0) = false := by simpa using her
            have HR := Lib.hid hR
            clear hR
            by_cases hlt : (k : Int) < ps.length
            all_goals
              go_wp2_with fail
              refine bodyPost_ret (v := .tuple #[.agg #[.int .i64 0, .int .i64 0, .bool false, .slice none 0 0, .int .i64 0, .slice none 0 0], .int .i64 er]) ?hresB rfl ?postB
              case hresB =>
                refine ret_ct (cs := [.int .i64 0, .int .i64 0, .bool false, .slice none 0 0, .int .i64 0, .slice none 0 0]) (t := 5) (c := 4) rfl rfl rfl Try.underlying25 rfl (by kernel_rfl) (range6 ?_ ?_ ?_ ?_ ?_ ?_)
                all_goals simp [go_sem, ↓IntWalk.iteOmega, cell_upd2, z0, z1, z2, z3, z4, z5]
              case postB =>
                rw [HPR.out, HR.out]
                exact ⟨⟨zRaw, rfl, fun m u hu => by cases hu⟩, more_of_below (by repeat (first | with_reducible exact HBW.out | with_reducible refine below_mo ?_ _ | with_reducible refine below_al ?_ _ | with_reducible refine below_dr ?_ | with_reducible refine below_dn ?_ _ | with_reducible refine below_st ?_ (by simp <;> omega) _))⟩
end Go.Proofs.Ytlbkloamabomcaa
