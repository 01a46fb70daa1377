/- Walk: where a group's fields lie, bit by bit: the document's Lay. Conditions: the type lies in memory and is sound. -/
import Derived.Test.YtlbkloamabomcaaLayRefLay0
import Derived.Test.YtlbkloamabomcaaQuietTail
import Derived.Deep.CutRange
namespace Go.Proofs.Ytlbkloamabomcaa
open Go.RowKit Go.Sort
set_option linter.unusedVariables false
set_option linter.unusedSimpArgs false
set_option maxRecDepth 100000 in
set_option maxHeartbeats 6400000 in
theorem lay_step3 (n : Nat) (LYI : ∀ (t : Ty n) (r : Raw) (w : World), soundF n t = 0 → TyAt w n t r → Calls Try.prog 16 #[r.val] w (LayC n t w))
    (t : TyF (Ty n)) (r : Raw) (w : World) (hs : soundF (n + 1) t = 0) (hk0 : t.kind = 3) (hT : TyAt w (n + 1) t r) :
    Calls Try.prog 16 #[r.val] w (LayC (n + 1) t w) := by
  have hk : t.kind = 3 ∨ t.kind = 4 := .inl hk0
  have HT := Lib.hid hT
  have FOK := Lib.hid (field_ok n t hs hk)
  have hlen : t.fields.length ≤ 32 := by
    rcases sound_cases n t hs with ⟨hk', _⟩ | ⟨hk', _⟩ | ⟨_, _, _, _, _, h, _⟩
    · omega
    · omega
    · exact h
  have PLO := Lib.hid (plK_ok (formF n) (tsize n) t (fun i f g hi hg => (FOK.out i f g hi hg).2))
  have SND : Hid (∀ (i : Nat) (f : FdF (Ty n)), t.fields[i]? = some f → soundF n f.type = 0 ∧ (f.isBits = true → t.packed = false ∧ ∀ g, formF n f.type = some g → g = (tsize n f.type, tsize n f.type))) := Lib.hid (fun i f hi => by
    rcases sound_cases n t hs with ⟨hk', _⟩ | ⟨hk', _⟩ | ⟨_, _, _, _, _, _, h⟩
    · omega
    · omega
    · refine ⟨(h i f hi).1, fun hb => ?_⟩
      rcases (h i f hi).2 with h2 | h2
      · exact ⟨h2.2.2.1, fun g hg => form_int n f.type h2.2.1 g hg⟩
      · rw [h2.1] at hb; cases hb)
  have HFM : Hid (formF (n + 1) t = (plK (formF n) (tsize n) t t.fields.length).bind finF) := Lib.hid (by
    rw [formF_succ]; unfold formOne; rw [if_neg (by omega), if_neg (by omega)])
  have HFB : Hid (fbF (n + 1) t = fbK (formF n) (tsize n) t t.fields.length ∧ (grpOk (n + 1) t → ∃ p, plK (formF n) (tsize n) t t.fields.length = some p)) := Lib.hid ⟨rfl, fun h => h.2⟩
  replace LYI := Lib.hid LYI
  obtain ⟨e1, e2, e3, e4, e5, e6, e7, e8, e9, hf, he⟩ := hT
  obtain ⟨rk, rs, rp, fa, fl, fc, rc, ea, el, ec⟩ := r
  simp only at e1 e2 e3 e4 e5 e6 hf he
  have HF := Lib.hid hf.2.2
  have hfc := hf.1
  have hfm := hf.2.1
  have E4 := Lib.hid e4
  have E1 := Lib.hid e1
  have E3 := Lib.hid e3
  have hk3 : (rk == 1) = false ∧ (rk == 2) = false ∧ (rk == 5) = false := by rw [e1]; rcases hk with h | h <;> rw [h] <;> decide
  obtain ⟨hk1, hk2, hk5⟩ := hk3
  clear hk
  rw [← e1] at hk0
  have HKK := Lib.hid hk0
  clear hk0
  rw [← e4] at hlen HFM HFB
  clear hf he e4 e6 e5 e7 e8 e9 e1 e2 e3 hs
  unfold Raw.val
  simp only
  go_enter Try.func16, Try.ntmps16
  go_wp2_with fail
  have HW0 : Hid (∃ w0, w0 = (w.alloc (.cells #[.int .i64 rk, .int .i64 rs, .bool rp, .slice fa fl fc, .int .i64 rc, .slice ea el ec] 25)).alloc (.cells #[.int .i64 0, .int .i64 0, .slice none 0 0, .slice none 0 0, .bool false] 33) ∧ w0.heap.size = w.heap.size + 1 + 1 ∧ Below w.heap.size w w0 ∧ (w0.cell? ⟨w.heap.size, 0, none⟩ = some (.int .i64 rk) ∧ w0.cell? ⟨w.heap.size, 1, none⟩ = some (.int .i64 rs) ∧ w0.cell? ⟨w.heap.size, 2, none⟩ = some (.bool rp) ∧ w0.cell? ⟨w.heap.size, 3, none⟩ = some (.slice fa fl fc) ∧ w0.cell? ⟨w.heap.size, 4, none⟩ = some (.int .i64 rc) ∧ w0.cell? ⟨w.heap.size, 5, none⟩ = some (.slice ea el ec)) ∧
      (w0.cell? ⟨w.heap.size + 1, 0, none⟩ = some (.int .i64 0) ∧ w0.cell? ⟨w.heap.size + 1, 1, none⟩ = some (.int .i64 0) ∧ w0.cell? ⟨w.heap.size + 1, 2, none⟩ = some (.slice none 0 0) ∧ w0.cell? ⟨w.heap.size + 1, 3, none⟩ = some (.slice none 0 0) ∧ w0.cell? ⟨w.heap.size + 1, 4, none⟩ = some (.bool false)) ∧ ∀ k, w0.frozen? ⟨w.heap.size + 1, k, none⟩ = false) := Lib.hid (by
    refine ⟨_, rfl, by simp [go_sem], by repeat (first | exact Below.refl _ _ | refine below_al ?_ _), ?_, ?_, ?_⟩
    · refine ⟨?_, ?_, ?_, ?_, ?_, ?_⟩ <;> simp [go_sem]
    · refine ⟨?_, ?_, ?_, ?_, ?_⟩ <;> simp [go_sem]
    · intro k; simp [go_sem])
  obtain ⟨w0, hw0, hz0, hB0, ⟨t0, t1, t2, t3, t4, t5⟩, ⟨r0, r1, r2, r3, r4⟩, rz⟩ := HW0.out
  clear HW0
  rw [← hw0]
  have HP0 : Hid (LdV w0 (w0.alloc (.cells #[.int .i64 0, .int .i64 1, .slice none 0 0, .slice none 0 0, .bool false] 33)) 1 (.slice none 0 0) 0 [] (.slice none 0 0) 0 []) := Lib.hid (by
    refine ⟨below_al (Below.refl _ _) _, by simp [go_sem], by simp [go_sem], by simp [go_sem], by simp [go_sem], by simp [go_sem], World.ownsRow_nil _ _ _ _, World.ownsRow_nil _ _ _ _, fun g h => by simp [Value.ownBlock] at h, fun k => by simp [go_sem]⟩)
  clear hw0
  go_loopw [5, 6, 7] (fun v5 v6 v7 wr => ∃ (k : Nat) (p : Pl) (en : Int) (a2 : Option Addr) (k2 : Nat) (a3 : Option Addr) (k3 : Nat), k ≤ fl ∧ v7 = .int .i64 k ∧ v5 = .int .i64 p.bit ∧ v6 = .int .i64 en ∧ plK (formF n) (tsize n) t k = some p ∧ 0 ≤ en ∧ p.size = upF en 8 / 8 ∧
      LdV w0 wr p.align (.slice a2 k k2) k ((fbK (formF n) (tsize n) t k).map fun x => .int .i64 x.1) (.slice a3 k k3) k ((fbK (formF n) (tsize n) t k).map fun x => .int .i64 x.2)) (fun _ _ i _ => fl - (intOf i).toNat)
  case atStart => exact ⟨0, ⟨0, 0, 1⟩, 0, none, 0, none, 0, by omega, rfl, rfl, rfl, rfl, by omega, by decide, HP0.out⟩
  case round =>
    obtain ⟨k, p, en, va2, vk2, va3, vk3, hkl, rfl, rfl, rfl, hpk, hen, hsz, hP⟩ := hrel
    have HP := Lib.hid hP
    have HPK := Lib.hid hpk
    have HSZ := Lib.hid hsz
    have hbr := hP.below
    have HBW := Lib.hid (below_next hB0 ⟨hbr.os, hbr.tape, hbr.output, hbr.size, hbr.block⟩)
    have kp : ∀ (a o : Nat) (v : Value), a < w.heap.size + 1 + 1 → w0.cell? ⟨a, o, none⟩ = some v → wr.cell? ⟨a, o, none⟩ = some v := fun a o v ha hv => (hbr.cell (p := ⟨a, o, none⟩) (by rw [hz0]; exact ha)).trans hv
    have kz : ∀ (k : Nat), wr.frozen? ⟨w.heap.size + 1, k, none⟩ = false := fun k => (hbr.frozen (p := ⟨w.heap.size + 1, k, none⟩) (by rw [hz0]; simp)).trans (rz k)
    replace t0 := kp _ _ _ (by omega) t0
    replace t1 := kp _ _ _ (by omega) t1
    replace t2 := kp _ _ _ (by omega) t2
    replace t3 := kp _ _ _ (by omega) t3
    replace t4 := kp _ _ _ (by omega) t4
    replace t5 := kp _ _ _ (by omega) t5
    replace r0 := kp _ _ _ (by omega) r0
    replace r1 := kp _ _ _ (by omega) r1
    replace r2 := kp _ _ _ (by omega) r2
    replace r3 := kp _ _ _ (by omega) r3
    replace r4 := kp _ _ _ (by omega) r4
    have rz0 := kz 0
    have rz1 := kz 1
    have rz2 := kz 2
    have rz3 := kz 3
    have rz4 := kz 4
    have p0 := hP.c0
    have p1 := hP.c1
    have p2 := hP.c2
    have p3 := hP.c3
    have p4 := hP.c4
    have pl := hP.lt
    have pz0 := hP.z 0
    have pz1 := hP.z 1
    have pz2 := hP.z 2
    have pz3 := hP.z 3
    have pz4 := hP.z 4
    have hok := PLO.out k p hpk
    obtain ⟨b0, b1, s0, s1, al, _⟩ := hok
    obtain ⟨pb, ps, pa⟩ := p
    simp only at p0 p1 p2 p3 p4 b0 b1 s0 s1 al hsz
    have hal := al.pos
    have hen2 := (upF_ge (n := en) (s := 8) (by omega)).1
    have henb : en ≤ 8 * ps := by
      have := upF_mod (n := en) (s := 8)
      omega
    rw [hz0] at p0 p1 p2 p3 p4 pl pz0 pz1 pz2 pz3 pz4
    clear hP hpk hbr kp kz rz al hen2 hsz
    have pl1 : w.heap.size + 1 < wr.heap.size := by omega
    have pl2 : w.heap.size < wr.heap.size := by omega
    have hL1 : Hid (∀ x : Nat, w.heap.size + 1 + 1 < wr.heap.size + 1 + x) := Lib.hid (fun x => by omega)
    have hL2 : Hid (∀ x : Nat, w.heap.size + 1 < wr.heap.size + 1 + x) := Lib.hid (fun x => by omega)
    have hL3 : Hid (∀ x : Nat, w.heap.size < wr.heap.size + 1 + x) := Lib.hid (fun x => by omega)
    have hL5 : Hid (∀ x : Nat, w.heap.size + 1 + 1 < wr.heap.size + 1 + x + 1) := Lib.hid (fun x => by omega)
    by_cases hlt : (k : Int) < fl
    · obtain ⟨b, off, rfl, hb, hc⟩ := HF.out (by omega)
      obtain ⟨f, hfk⟩ := get_some t.fields k (by have := E4.out; omega)
      obtain ⟨q, hq, g1, g2, c0, c1, c2, c3, c4, c5, c6, c7, c8⟩ := hc k f hfk
      have kw : ∀ (o : Nat) (v : Value), w.cell? ⟨b, o, none⟩ = some v → wr.cell? ⟨b, o, none⟩ = some v := fun o v hv => (HBW.out.cell (p := ⟨b, o, none⟩) hb).trans hv
      replace c0 := kw _ _ c0
      replace c1 := kw _ _ c1
      replace c2 := kw _ _ c2
      replace c3 := kw _ _ c3
      replace c4 := kw _ _ c4
      replace c5 := kw _ _ c5
      replace c6 := kw _ _ c6
      replace c7 := kw _ _ c7
      replace c8 := kw _ _ c8
      have hbr : b < wr.heap.size := Nat.lt_of_lt_of_le hb HBW.out.size
      have LYK := Lib.hid (fun W (hW : Below wr.heap.size wr W) => LYI.out f.type q W (SND.out k f hfk).1 (hq.below (below_next HBW.out hW)))
      have HFK := Lib.hid hfk
      obtain ⟨qz1, qz2⟩ := tyAt_parts hq
      clear hc hq kw
      cases hF : formF n f.type with
      | none =>
        have LY : Hid (∀ W, Below wr.heap.size wr W → Calls Try.prog 16 #[q.val] W fun e w' => ∃ (s a : Int) (a2 : Option Addr) (n2 k2 : Nat) (a3 : Option Addr) (n3 k3 : Nat), e = .returned (.agg #[.int .i64 s, .int .i64 a, .slice a2 n2 k2, .slice a3 n3 k3, .bool true]) ∧ ∃ p : Regrown, w' = more W p) := Lib.hid (fun W hW => (LYK.out W hW).mono (by
          rintro e w1 ⟨⟨s, a, a2, n2, k2, a3, n3, k3, L, rfl, rfl, _, _⟩, p1, rfl⟩
          rw [hF]
          exact ⟨s, a, a2, n2, k2, a3, n3, k3, rfl, p1, rfl⟩))
        have HN := Lib.hid (plK_none (formF n) (tsize n) t k hfk hF fl (by omega))
        clear hF hfk qz1 qz2 LYK
        obtain ⟨qk, qs, qp, qfa, qfl, qfc, qc, qea, qel, qec⟩ := q
        obtain ⟨nm, ty, bt, wd⟩ := f
        unfold Raw.val at LY
        simp only at c0 c1 c2 c3 c4 c5 c6 c7 c8 LY
        go_wp2_with (go_at_call 16; refine (LY.out _ (by repeat (first | exact Below.refl _ _ | refine below_mo ?_ _ | refine below_al ?_ _))).mono ?_; rintro e w1 ⟨s, a, a2, n2, k2, a3, n3, k3, rfl, pA, rfl⟩; have lA1 := hL1.out pA.os.size; have lA2 := hL2.out pA.os.size; have lA3 := hL3.out pA.os.size; have lA5 := hL5.out pA.os.size)
        refine bodyPost_ret (v := .agg #[.int .i64 0, .int .i64 1, .slice none 0 0, .slice none 0 0, .bool true]) ?hresA rfl ?postA
        case hresA =>
          refine ret_c (cs := [.int .i64 0, .int .i64 1, .slice none 0 0, .slice none 0 0, .bool true]) (c := 2) rfl rfl Try.underlying33 rfl (by kernel_rfl) (range5 ?_ ?_ ?_ ?_ ?_)
          all_goals simp [go_sem, ↓IntWalk.iteOmega, cell_upd2, r0, r1, r2, r3, r4]
        case postA =>
          have hFN : formF (n + 1) t = none := by rw [HFM.out, HN.out]; rfl
          refine ⟨⟨0, 1, none, 0, 0, none, 0, 0, true, rfl, (by rw [hFN]; rfl), (fun g hg => by rw [hFN] at hg; cases hg), fun hg => ?_⟩, more_of_below ?_⟩
          · obtain ⟨p, hp⟩ := HFB.out.2 hg
            rw [HN.out] at hp
            cases hp
          · repeat (first | with_reducible exact HBW.out | with_reducible refine below_mo ?_ _ | with_reducible refine below_al ?_ _ | with_reducible refine below_dr ?_ | with_reducible refine below_dn ?_ _ | with_reducible refine below_st ?_ (by simp <;> omega) _)
      | some g =>
        have LY : Hid (∀ W, Below wr.heap.size wr W → Calls Try.prog 16 #[q.val] W fun e w' => ∃ (a2 : Option Addr) (n2 k2 : Nat) (a3 : Option Addr) (n3 k3 : Nat), e = .returned (.agg #[.int .i64 g.1, .int .i64 g.2, .slice a2 n2 k2, .slice a3 n3 k3, .bool false]) ∧ ∃ p : Regrown, w' = more W p) := Lib.hid (fun W hW => (LYK.out W hW).mono (by
          rintro e w1 ⟨⟨s, a, a2, n2, k2, a3, n3, k3, L, rfl, rfl, hg, _⟩, p1, rfl⟩
          obtain ⟨rfl, rfl⟩ := hg _ hF
          rw [hF]
          exact ⟨a2, n2, k2, a3, n3, k3, rfl, p1, rfl⟩))
        obtain ⟨hsf, hfo⟩ := FOK.out k f g hfk hF
        have HK1 := Lib.hid (plK_succ (formF n) (tsize n) t k HPK.out hfk hF)
        have HK2 := Lib.hid (fbK_succ (formF n) (tsize n) t k HPK.out hfk hF)
        have HBG := Lib.hid (fun hb : f.isBits = true => ((SND.out k f hfk).2 hb).2 g hF)
        have HBP := Lib.hid (fun hb : f.isBits = true => ((SND.out k f hfk).2 hb).1)
        rw [← E3.out, ← E1.out, ← qz2] at HK1 HK2
        rw [← qz2] at hfo HBG
        rw [← E3.out] at HBP
        have hVp := (wideF_pow hfo rp).pos
        have hNN := numF_bound hfo
        have hBN : 0 ≤ begF rp (rk == 4) f q.size g ⟨pb, ps, pa⟩ ∧ begF rp (rk == 4) f q.size g ⟨pb, ps, pa⟩ ≤ pb + 200 := begF_bound hfo rp (rk == 4) (p := ⟨pb, ps, pa⟩) b0
        have HST : Hid (stepF rp (rk == 4) f q.size g ⟨pb, ps, pa⟩ = ⟨begF rp (rk == 4) f q.size g ⟨pb, ps, pa⟩ + numF f g, max ps (upF (begF rp (rk == 4) f q.size g ⟨pb, ps, pa⟩ + numF f g) 8 / 8), max pa (wideF rp f q.size g)⟩) := Lib.hid rfl
        have hgp := hfo.g2.pos
        have hBB : (f.isBits = true ∧ begF rp (rk == 4) f q.size g ⟨pb, ps, pa⟩ = upF (if (rk == 4) = true then 0 else pb) (if (decide (f.width = 0) || decide (8 * q.size < (if (rk == 4) = true then 0 else pb) % (8 * q.size) + f.width)) = true then 8 * q.size else 1) ∧ numF f g = f.width ∧ wideF rp f q.size g = (if f.width = 0 then 1 else q.size)) ∨
            (f.isBits = false ∧ begF rp (rk == 4) f q.size g ⟨pb, ps, pa⟩ = upF (if (rk == 4) = true then 0 else pb) (if rp = true then 8 else 8 * g.2) ∧ numF f g = 8 * g.1 ∧ wideF rp f q.size g = (if rp = true then 1 else g.2)) := by
          have hb' : 0 ≤ (if (rk == 4) = true then 0 else pb) := by split <;> omega
          cases hbt : f.isBits with
          | true =>
            have h1 := hfo.bits hbt
            have h2 := HBP.out hbt
            refine .inl ⟨rfl, ?_, by unfold numF; rw [if_pos hbt], ?_⟩
            · unfold begF
              rw [if_pos hbt]
              exact bitAt_step hb' (by omega) h1.2.1 h1.2.2
            · unfold wideF
              by_cases hw : f.width = 0 <;> simp [hbt, hw, h2]
          | false =>
            have hV : wideF rp f q.size g = if rp = true then 1 else g.2 := by unfold wideF; cases rp <;> simp [hbt]
            refine .inr ⟨rfl, ?_, by unfold numF; rw [if_neg (by simp [hbt])], hV⟩
            unfold begF
            rw [if_neg (by simp [hbt]), hV, up_two hb' (by split <;> omega)]
            cases rp <;> rfl
        rw [HST.out] at HK1
        clear HST
        generalize begF rp (rk == 4) f q.size g ⟨pb, ps, pa⟩ = B at *
        generalize numF f g = N at *
        generalize wideF rp f q.size g = V at *
        have hg1 := hfo.g1
        have hfb := hfo.bits
        have hk31 : k ≤ 31 := by omega
        have hpb : pb ≤ 19200000 := by omega
        have hps : ps ≤ 3200000 := by omega
        obtain ⟨i0, hi, hz0', hz1, hz2⟩ := info_parts int_info
        generalize hL2' : (fbK (formF n) (tsize n) t k).map (fun x : Int × Int => Value.int .i64 x.1) = l2 at *
        generalize hL3' : (fbK (formF n) (tsize n) t k).map (fun x : Int × Int => Value.int .i64 x.2) = l3 at *
        have HE2 : Hid ((fbK (formF n) (tsize n) t (k + 1)).map (fun x : Int × Int => Value.int .i64 x.1) = l2 ++ [.int .i64 B]) := by rw [HK2.out, List.map_append, hL2']; exact Lib.hid rfl
        have HE3 : Hid ((fbK (formF n) (tsize n) t (k + 1)).map (fun x : Int × Int => Value.int .i64 x.2) = l3 ++ [.int .i64 N]) := by rw [HK2.out, List.map_append, hL3']; exact Lib.hid rfl
        have HS1 : Hid (max ps (upF (B + N) 8 / 8) = upF (max en (B + N)) 8 / 8) := Lib.hid (size_step HSZ.out)
        clear hL2' hL3' HK2
        have hif : ∀ x : Int, (if ((3 : Int) == 4) = true then (0 : Int) else x) = x ∧ (if ((4 : Int) == 4) = true then (0 : Int) else x) = 0 := fun x => by simp
        obtain ⟨qk, qs, qp, qfa, qfl, qfc, qc, qea, qel, qec⟩ := q
        obtain ⟨nm, ty, bt, wd⟩ := f
        obtain ⟨ga, gb⟩ := g
        unfold Raw.val at LY
        simp only at c0 c1 c2 c3 c4 c5 c6 c7 c8 LY hg1 hgp hfb hBB HBG HBP
        clear hF hfk hsf hfo HFK qz1 qz2 HF HT LYK HPK
        have hk := HKK.out
        subst hk
        · rw [(hif pb).1] at hBB
          clear hif
          cases bt with
          | true =>
            rcases hBB with ⟨_, hBe, hNe, hVe⟩ | ⟨h, _⟩
            rotate_left
            · cases h
            obtain rfl : rp = false := HBP.out rfl
            have hg2 := HBG.out rfl
            obtain ⟨rfl, rfl⟩ : qs = ga ∧ qs = gb := by injection hg2 with h1 h2; exact ⟨h1.symm, h2.symm⟩
            have hfb2 := hfb rfl
            clear HBG HBP hg2 hfb
            by_cases hw : wd = 0
            · subst hw
              replace hBe : B = upF pb (8 * qs) := by rw [hBe]; simp
              replace hVe : V = 1 := by rw [hVe]; simp
              subst hNe hVe
              have hub := upF_ge (n := pb) (s := 8 * qs) (by omega)
              have hum := upF_mod (n := pb) (s := 8 * qs)
              have hleast := fun (b : Int) (h1 : pb ≤ b) (h2 : b ≤ B) (h3 : b % (8 * qs) = 0) => upF_least (n := pb) (s := 8 * qs) (b := b) (by omega) h1 (by rw [← hBe]; exact h2) h3
              rw [← hBe] at hub hum hleast
              replace hleast := Lib.hid hleast
              replace hum := Lib.hid hum
              clear hBe
              go_upto_region 21 with (go_at_call 16; refine (LY.out _ (by repeat (first | exact Below.refl _ _ | refine below_mo ?_ _ | refine below_al ?_ _))).mono ?_; rintro e w1 ⟨a2, n2, k2, a3, n3, k3, rfl, pA, rfl⟩; have lA1 := hL1.out pA.os.size; have lA2 := hL2.out pA.os.size; have lA3 := hL3.out pA.os.size; have lA5 := hL5.out pA.os.size)
              go_quiet (fail)
              go_wp2_with fail
              go_quiet (fail)
              go_wp2_with fail
              refine wp_letter (R := fun W => LdV w0 W pa (.slice va2 k vk2) k l2 (.slice va3 k vk3) k l3 ∧ W.cell? ⟨w.heap.size, 2, none⟩ = some (.bool false) ∧ W.cell? ⟨w.heap.size, 3, none⟩ = some (.slice (some ⟨b, off, none⟩) fl fc) ∧ W.cell? ⟨wr.heap.size, 7, none⟩ = some (.bool true) ∧ W.cell? ⟨wr.heap.size + 1 + pA.os.size, 1, none⟩ = some (.int .i64 qs) ∧ Below w.heap.size w W) ?letA3z ?_
              case letA3z =>
                refine ⟨?_, by simp [go_sem, ↓IntWalk.iteOmega, cell_upd2, t2], by simp [go_sem, ↓IntWalk.iteOmega, cell_upd2, t3], by simp [go_sem, ↓IntWalk.iteOmega, cell_upd2], by simp [go_sem, ↓IntWalk.iteOmega, cell_upd2], ?_⟩
                · repeat (first | with_reducible exact HP.out | with_reducible refine LdV.next (w' := World.drewN _ _) ?_ (below_dn (Below.refl _ _) _) | with_reducible refine LdV.next (w' := World.drew _) ?_ (below_dr (Below.refl _ _)) | with_reducible refine LdV.next (w' := World.alloc _ _) ?_ (below_al (Below.refl _ _) _) | with_reducible refine LdV.next (w' := more _ _) ?_ (more_below _ _) | with_reducible refine LdV.setAl (al := pa) hz0 ?_ _)
                · repeat (first | with_reducible exact HBW.out | with_reducible refine below_mo ?_ _ | with_reducible refine below_al ?_ _ | with_reducible refine below_dr ?_ | with_reducible refine below_dn ?_ _ | with_reducible refine below_st ?_ (by simp <;> omega) _)
              rintro wA ⟨hA, x2, x3, x7, xg, hBA⟩
              have HA := Lib.hid hA
              have HBA := Lib.hid hBA
              have u2 := hA.c2
              have u3 := hA.c3
              have hne2 : ∀ a : Nat, a ≤ w.heap.size + 1 + 1 ∨ wr.heap.size ≤ a → some a ≠ (Value.slice va2 k vk2).ownBlock := fun a ha e => by
                have h1 := (hA.r2.lt a e.symm).1
                have h2 := (HP.out.r2.lt a e.symm).2
                omega
              have hne3 : ∀ a : Nat, a ≤ w.heap.size + 1 + 1 ∨ wr.heap.size ≤ a → some a ≠ (Value.slice va3 k vk3).ownBlock := fun a ha e => by
                have h1 := (hA.r3.lt a e.symm).1
                have h2 := (HP.out.r3.lt a e.symm).2
                omega
              have hlA := hA.lt
              have hlB : wr.heap.size + 1 + pA.os.size < wA.heap.size := cell_lt2 xg
              have hlC : wr.heap.size < wA.heap.size := cell_lt2 x7
              clear hA hBA
              have hs0 : ((8 * qs : Int) == 0) = false := by simp; try omega
              have hbb : pb ≤ B := by omega
              go_loopw [5] (fun v5 wx => ∃ bb : Int, v5 = .int .i64 bb ∧ pb ≤ bb ∧ bb ≤ B ∧ wA = wx) (fun v5 _ => (B - intOf v5).toNat)
              case atStart => exact ⟨pb, rfl, by omega, by omega, rfl⟩
              case round =>
                obtain ⟨bb, rfl, h1, h2, rfl⟩ := hrel
                have hbm : Int.tmod bb (8 * qs) = bb % (8 * qs) := Int.tmod_eq_emod_of_nonneg (by omega)
                by_cases hm : bb % (8 * qs) = 0
                · have hbe : bb = B := hleast.out bb h1 h2 hm
                  subst hbe
                  rw [Int.add_zero] at HK1 HS1
                  have hbs : w0.heap.size + 1 ≤ wA.heap.size + 1 := by have := HA.out.below.size; omega
                  have hlE : w.heap.size + 1 + 1 < wA.heap.size := by omega
                  have HZ := Lib.hid hz0
                  clear hz0 hleast
                  have hz2' : wA.frozen? ⟨w.heap.size + 1 + 1, 2, none⟩ = false := by have := HA.out.z 2; rwa [HZ.out] at this
                  have hz3' : wA.frozen? ⟨w.heap.size + 1 + 1, 3, none⟩ = false := by have := HA.out.z 3; rwa [HZ.out] at this
                  rw [HZ.out] at u2 u3
                  go_wp2_with (at_builtin; refine wpList_append_lies _ rfl _ _ 31 rfl (w0.heap.size + 1) 3 i0 (.int .i64 0) 1 8 Try.underlying31 hi hz0' hz1 hz2 rfl (by decide) (.slice va2 k vk2) k l2 (by rfl) (HA.out.r2.alloc _) ⟨wA.heap.size, 0, none⟩ 1 1 [.int .i64 bb] (by rfl) (by rfl) (World.news_of_block (cs := #[.int .i64 bb]) (t := 3) (fr := (0, 0)) (heap_alloc_new wA _)) (by simp [Value.oneCell']) (by omega) (by unfold maxLen; omega) (by omega) (by simpa using hbs) (wA.heap.size + 1) (by simp) ?_)
                  intro g6 cap6 w6 hown6 hgrow6 hat6 hlt6
                  have HP6 : Hid (LdV w0 (w6.setCell ⟨w.heap.size + 1 + 1, 2, none⟩ (.slice (some ⟨g6, 0, none⟩) (k + 1) cap6)) pa (.slice (some ⟨g6, 0, none⟩) (k + 1) cap6) (k + 1) (l2 ++ [.int .i64 bb]) (.slice va3 k vk3) k l3) := Lib.hid (LdV.push2 HZ.out (HA.out.next (below_al (Below.refl _ _) _)) hown6 hgrow6 (by simpa using hat6))
                  have hsz6 : ∀ a : Nat, a < wA.heap.size → a < (wA.alloc (.cells #[.int .i64 bb] 3)).heap.size := fun a h => by simp; omega
                  have v26 : w6.cell? ⟨w.heap.size, 2, none⟩ = some (.bool false) := (hgrow6.cell_far ⟨w.heap.size, 2, none⟩ (hsz6 (w.heap.size) (by omega)) (hne2 w.heap.size (by omega))).trans (by simp [go_sem, ↓IntWalk.iteOmega, x2])
                  have v76 : w6.cell? ⟨wr.heap.size, 7, none⟩ = some (.bool true) := (hgrow6.cell_far ⟨wr.heap.size, 7, none⟩ (hsz6 (wr.heap.size) (by omega)) (hne2 wr.heap.size (by omega))).trans (by simp [go_sem, ↓IntWalk.iteOmega, x7])
                  have vg6 : w6.cell? ⟨wr.heap.size + 1 + pA.os.size, 1, none⟩ = some (.int .i64 qs) := (hgrow6.cell_far ⟨wr.heap.size + 1 + pA.os.size, 1, none⟩ (hsz6 (wr.heap.size + 1 + pA.os.size) (by omega)) (hne2 (wr.heap.size + 1 + pA.os.size) (by omega))).trans (by simp [go_sem, ↓IntWalk.iteOmega, xg])
                  have y2 : w6.cell? ⟨w.heap.size + 1 + 1, 2, none⟩ = some (.slice va2 k vk2) := (hgrow6.cell_far ⟨w.heap.size + 1 + 1, 2, none⟩ (hsz6 (w.heap.size + 1 + 1) (by omega)) (hne2 (w.heap.size + 1 + 1) (by omega))).trans (by simp [go_sem, ↓IntWalk.iteOmega, u2])
                  have yz2 : w6.frozen? ⟨w.heap.size + 1 + 1, 2, none⟩ = false := (hgrow6.frozen_far ⟨w.heap.size + 1 + 1, 2, none⟩ (hsz6 (w.heap.size + 1 + 1) (by omega)) (hne2 (w.heap.size + 1 + 1) (by omega))).trans (by simp [go_sem, ↓IntWalk.iteOmega, hz2'])
                  clear hgrow6 hown6 hat6 hlt6 hsz6 HA x2 x7 xg u2 u3 x3 hz2' hz3'
                  go_upto_region 32 with fail
                  refine wp_letter (R := fun W => LdV w0 W pa (.slice (some ⟨g6, 0, none⟩) (k + 1) cap6) (k + 1) (l2 ++ [.int .i64 bb]) (.slice va3 k vk3) k l3 ∧ W.cell? ⟨w.heap.size, 2, none⟩ = some (.bool false) ∧ W.cell? ⟨wr.heap.size, 7, none⟩ = some (.bool true) ∧ W.cell? ⟨wr.heap.size + 1 + pA.os.size, 1, none⟩ = some (.int .i64 qs)) ⟨HP6.out, by simp [go_sem, ↓IntWalk.iteOmega, cell_upd2, v26], by simp [go_sem, ↓IntWalk.iteOmega, cell_upd2, v76], by simp [go_sem, ↓IntWalk.iteOmega, cell_upd2, vg6]⟩ ?_
                  clear HP6 v26 v76 vg6 y2 yz2
                  rintro wB ⟨hA, x2, x7, xg⟩
                  have HA := Lib.hid hA
                  have hlA := hA.lt
                  have hlB : wr.heap.size + 1 + pA.os.size < wB.heap.size := cell_lt2 xg
                  have hlC : wr.heap.size < wB.heap.size := cell_lt2 x7
                  have u3 : wB.cell? ⟨w.heap.size + 1 + 1, 3, none⟩ = some (.slice va3 k vk3) := by have := hA.c3; rwa [HZ.out] at this
                  have hz3' : wB.frozen? ⟨w.heap.size + 1 + 1, 3, none⟩ = false := by have := hA.z 3; rwa [HZ.out] at this
                  have hlD : w.heap.size + 1 + 1 < wB.heap.size := cell_lt2 u3
                  have hbs2 : w0.heap.size + 1 ≤ wB.heap.size + 1 := by have := hA.below.size; omega
                  clear hA
                  go_wp2_with (at_builtin; refine wpList_append_lies _ rfl _ _ 31 rfl (w0.heap.size + 1) 3 i0 (.int .i64 0) 1 8 Try.underlying31 hi hz0' hz1 hz2 rfl (by decide) (.slice va3 k vk3) k l3 (by rfl) (HA.out.r3.alloc _) ⟨wB.heap.size, 0, none⟩ 1 1 [.int .i64 (0)] (by rfl) (by rfl) (World.news_of_block (cs := #[.int .i64 (0)]) (t := 3) (fr := (0, 0)) (heap_alloc_new wB _)) (by simp [Value.oneCell']) (by omega) (by unfold maxLen; omega) (by omega) (by simpa using hbs2) (wB.heap.size + 1) (by simp) ?_)
                  intro g7 cap7 w7 hown7 hgrow7 hat7 hlt7
                  have HP7 : Hid (LdV w0 (w7.setCell ⟨w.heap.size + 1 + 1, 3, none⟩ (.slice (some ⟨g7, 0, none⟩) (k + 1) cap7)) pa (.slice (some ⟨g6, 0, none⟩) (k + 1) cap6) (k + 1) (l2 ++ [.int .i64 bb]) (.slice (some ⟨g7, 0, none⟩) (k + 1) cap7) (k + 1) (l3 ++ [.int .i64 (0)])) := Lib.hid (LdV.push3 HZ.out (HA.out.next (below_al (Below.refl _ _) _)) hown7 hgrow7 (by simpa using hat7))
                  have hsz7 : ∀ a : Nat, a < wB.heap.size → a < (wB.alloc (.cells #[.int .i64 (0)] 3)).heap.size := fun a h => by simp; omega
                  have v27 : w7.cell? ⟨w.heap.size, 2, none⟩ = some (.bool false) := (hgrow7.cell_far ⟨w.heap.size, 2, none⟩ (hsz7 (w.heap.size) (by omega)) (hne3 w.heap.size (by omega))).trans (by simp [go_sem, ↓IntWalk.iteOmega, x2])
                  have v77 : w7.cell? ⟨wr.heap.size, 7, none⟩ = some (.bool true) := (hgrow7.cell_far ⟨wr.heap.size, 7, none⟩ (hsz7 (wr.heap.size) (by omega)) (hne3 wr.heap.size (by omega))).trans (by simp [go_sem, ↓IntWalk.iteOmega, x7])
                  have vg7 : w7.cell? ⟨wr.heap.size + 1 + pA.os.size, 1, none⟩ = some (.int .i64 qs) := (hgrow7.cell_far ⟨wr.heap.size + 1 + pA.os.size, 1, none⟩ (hsz7 (wr.heap.size + 1 + pA.os.size) (by omega)) (hne3 (wr.heap.size + 1 + pA.os.size) (by omega))).trans (by simp [go_sem, ↓IntWalk.iteOmega, xg])
                  have y3 : w7.cell? ⟨w.heap.size + 1 + 1, 3, none⟩ = some (.slice va3 k vk3) := (hgrow7.cell_far ⟨w.heap.size + 1 + 1, 3, none⟩ (hsz7 (w.heap.size + 1 + 1) (by omega)) (hne3 (w.heap.size + 1 + 1) (by omega))).trans (by simp [go_sem, ↓IntWalk.iteOmega, u3])
                  have yz3 : w7.frozen? ⟨w.heap.size + 1 + 1, 3, none⟩ = false := (hgrow7.frozen_far ⟨w.heap.size + 1 + 1, 3, none⟩ (hsz7 (w.heap.size + 1 + 1) (by omega)) (hne3 (w.heap.size + 1 + 1) (by omega))).trans (by simp [go_sem, ↓IntWalk.iteOmega, hz3'])
                  clear hgrow7 hown7 hat7 hlt7 hsz7 HA x2 x7 xg u3 hz3'
                  go_upto_region 34 with fail
                  refine wp_letter (R := fun W => LdV w0 W pa (.slice (some ⟨g6, 0, none⟩) (k + 1) cap6) (k + 1) (l2 ++ [.int .i64 bb]) (.slice (some ⟨g7, 0, none⟩) (k + 1) cap7) (k + 1) (l3 ++ [.int .i64 (0)]) ∧ W.cell? ⟨w.heap.size, 2, none⟩ = some (.bool false) ∧ W.cell? ⟨wr.heap.size, 7, none⟩ = some (.bool true) ∧ W.cell? ⟨wr.heap.size + 1 + pA.os.size, 1, none⟩ = some (.int .i64 qs)) ⟨HP7.out, by simp [go_sem, ↓IntWalk.iteOmega, cell_upd2, v27], by simp [go_sem, ↓IntWalk.iteOmega, cell_upd2, v77], by simp [go_sem, ↓IntWalk.iteOmega, cell_upd2, vg7]⟩ ?_
                  clear HP7 v27 v77 vg7 y3 yz3
                  rintro wC ⟨hA, x2, x7, xg⟩
                  have HA := Lib.hid hA
                  have u1 : wC.cell? ⟨w.heap.size + 1 + 1, 1, none⟩ = some (.int .i64 pa) := by have := hA.c1; rwa [HZ.out] at this
                  have hz1' : wC.frozen? ⟨w.heap.size + 1 + 1, 1, none⟩ = false := by have := hA.z 1; rwa [HZ.out] at this
                  clear hA
                  go_upto_if 125 with fail
                  go_cut [6] from 53 to 144 (fun v6 wx => v6 = .int .i64 (max en bb) ∧ wC = wx)
                  case first =>
                    by_cases hgt : en < bb
                    · go_wp2_with fail
                      go_meet
                      case rel => exact ⟨by rw [Int.max_eq_right (by omega)], rfl⟩
                    · go_wp2_with fail
                      go_meet
                      case rel => exact ⟨by rw [Int.max_eq_left (by omega)], rfl⟩
                  case rest =>
                    obtain ⟨rfl, rfl⟩ := hcut
                    go_upto_if 142 with fail
                    have hcm : (1 : Int) ≤ pa ∨ pa < 1 := by omega
                    rcases hcm with hgt | hgt
                    · go_wp2_with fail
                      go_roundw
                      case rel => exact ⟨k + 1, _, max en bb, _, _, _, _, by omega, by go_num, rfl, rfl, HK1.out, by omega, HS1.out, by have e : max pa (1) = pa := Int.max_eq_left (by omega); rw [HE2.out, HE3.out]; simp only [e]; exact HA.out⟩
                      case measure => simp [intOf]; omega
                    · exfalso; omega
                · have hne : bb ≠ B := fun e => by rw [e] at hm; exact hm hum.out
                  have hm2 : (bb % (8 * qs) == 0) = false := by simpa using hm
                  go_wp2_with fail
                  go_roundw
                  case rel => exact ⟨bb + 1, rfl, by omega, by omega, by first | rfl | trivial⟩
                  case measure => simp [intOf]; omega
            · have hw0 : (wd == 0) = false := by simpa using hw
              replace hVe : V = qs := by rw [hVe]; simp [hw]
              have hNe' := hNe.symm
              clear hNe
              have hVe' := hVe.symm
              clear hVe
              subst hNe' hVe'
              have hsq : (8 * qs == 0) = false := by simp; omega
              have hmd : Int.tmod pb (8 * qs) = pb % (8 * qs) := Int.tmod_eq_emod_of_nonneg (by omega)
              have hmr : 0 ≤ pb % (8 * qs) ∧ pb % (8 * qs) < 8 * qs := ⟨Int.emod_nonneg _ (by omega), Int.emod_lt_of_pos _ (by omega)⟩
              by_cases hc : 8 * qs < pb % (8 * qs) + wd
              · replace hBe : B = upF pb (8 * qs) := by rw [hBe]; simp [hc]
                have hub := upF_ge (n := pb) (s := 8 * qs) (by omega)
                have hum := upF_mod (n := pb) (s := 8 * qs)
                have hleast := fun (b : Int) (h1 : pb ≤ b) (h2 : b ≤ B) (h3 : b % (8 * qs) = 0) => upF_least (n := pb) (s := 8 * qs) (b := b) (by omega) h1 (by rw [← hBe]; exact h2) h3
                rw [← hBe] at hub hum hleast
                replace hleast := Lib.hid hleast
                replace hum := Lib.hid hum
                clear hBe
                go_upto_region 21 with (go_at_call 16; refine (LY.out _ (by repeat (first | exact Below.refl _ _ | refine below_mo ?_ _ | refine below_al ?_ _))).mono ?_; rintro e w1 ⟨a2, n2, k2, a3, n3, k3, rfl, pA, rfl⟩; have lA1 := hL1.out pA.os.size; have lA2 := hL2.out pA.os.size; have lA3 := hL3.out pA.os.size; have lA5 := hL5.out pA.os.size)
                go_quiet (fail)
                go_wp2_with fail
                go_quiet (fail)
                go_wp2_with fail
                refine wp_letter (R := fun W => LdV w0 W pa (.slice va2 k vk2) k l2 (.slice va3 k vk3) k l3 ∧ W.cell? ⟨w.heap.size, 2, none⟩ = some (.bool false) ∧ W.cell? ⟨w.heap.size, 3, none⟩ = some (.slice (some ⟨b, off, none⟩) fl fc) ∧ W.cell? ⟨wr.heap.size, 7, none⟩ = some (.bool true) ∧ W.cell? ⟨wr.heap.size + 1 + pA.os.size, 1, none⟩ = some (.int .i64 qs) ∧ Below w.heap.size w W) ?letA3c ?_
                case letA3c =>
                  refine ⟨?_, by simp [go_sem, ↓IntWalk.iteOmega, cell_upd2, t2], by simp [go_sem, ↓IntWalk.iteOmega, cell_upd2, t3], by simp [go_sem, ↓IntWalk.iteOmega, cell_upd2], by simp [go_sem, ↓IntWalk.iteOmega, cell_upd2], ?_⟩
                  · repeat (first | with_reducible exact HP.out | with_reducible refine LdV.next (w' := World.drewN _ _) ?_ (below_dn (Below.refl _ _) _) | with_reducible refine LdV.next (w' := World.drew _) ?_ (below_dr (Below.refl _ _)) | with_reducible refine LdV.next (w' := World.alloc _ _) ?_ (below_al (Below.refl _ _) _) | with_reducible refine LdV.next (w' := more _ _) ?_ (more_below _ _) | with_reducible refine LdV.setAl (al := pa) hz0 ?_ _)
                  · repeat (first | with_reducible exact HBW.out | with_reducible refine below_mo ?_ _ | with_reducible refine below_al ?_ _ | with_reducible refine below_dr ?_ | with_reducible refine below_dn ?_ _ | with_reducible refine below_st ?_ (by simp <;> omega) _)
                rintro wA ⟨hA, x2, x3, x7, xg, hBA⟩
                have HA := Lib.hid hA
                have HBA := Lib.hid hBA
                have u2 := hA.c2
                have u3 := hA.c3
                have hne2 : ∀ a : Nat, a ≤ w.heap.size + 1 + 1 ∨ wr.heap.size ≤ a → some a ≠ (Value.slice va2 k vk2).ownBlock := fun a ha e => by
                  have h1 := (hA.r2.lt a e.symm).1
                  have h2 := (HP.out.r2.lt a e.symm).2
                  omega
                have hne3 : ∀ a : Nat, a ≤ w.heap.size + 1 + 1 ∨ wr.heap.size ≤ a → some a ≠ (Value.slice va3 k vk3).ownBlock := fun a ha e => by
                  have h1 := (hA.r3.lt a e.symm).1
                  have h2 := (HP.out.r3.lt a e.symm).2
                  omega
                have hlA := hA.lt
                have hlB : wr.heap.size + 1 + pA.os.size < wA.heap.size := cell_lt2 xg
                have hlC : wr.heap.size < wA.heap.size := cell_lt2 x7
                clear hA hBA
                have hs0 : ((8 * qs : Int) == 0) = false := by simp; try omega
                have hbb : pb ≤ B := by omega
                go_loopw [5] (fun v5 wx => ∃ bb : Int, v5 = .int .i64 bb ∧ pb ≤ bb ∧ bb ≤ B ∧ wA = wx) (fun v5 _ => (B - intOf v5).toNat)
                case atStart => exact ⟨pb, rfl, by omega, by omega, rfl⟩
                case round =>
                  obtain ⟨bb, rfl, h1, h2, rfl⟩ := hrel
                  have hbm : Int.tmod bb (8 * qs) = bb % (8 * qs) := Int.tmod_eq_emod_of_nonneg (by omega)
                  by_cases hm : bb % (8 * qs) = 0
                  · have hbe : bb = B := hleast.out bb h1 h2 hm
                    subst hbe
                    have hbs : w0.heap.size + 1 ≤ wA.heap.size + 1 := by have := HA.out.below.size; omega
                    have hlE : w.heap.size + 1 + 1 < wA.heap.size := by omega
                    have HZ := Lib.hid hz0
                    clear hz0 hleast
                    have hz2' : wA.frozen? ⟨w.heap.size + 1 + 1, 2, none⟩ = false := by have := HA.out.z 2; rwa [HZ.out] at this
                    have hz3' : wA.frozen? ⟨w.heap.size + 1 + 1, 3, none⟩ = false := by have := HA.out.z 3; rwa [HZ.out] at this
                    rw [HZ.out] at u2 u3
                    go_wp2_with (at_builtin; refine wpList_append_lies _ rfl _ _ 31 rfl (w0.heap.size + 1) 3 i0 (.int .i64 0) 1 8 Try.underlying31 hi hz0' hz1 hz2 rfl (by decide) (.slice va2 k vk2) k l2 (by rfl) (HA.out.r2.alloc _) ⟨wA.heap.size, 0, none⟩ 1 1 [.int .i64 bb] (by rfl) (by rfl) (World.news_of_block (cs := #[.int .i64 bb]) (t := 3) (fr := (0, 0)) (heap_alloc_new wA _)) (by simp [Value.oneCell']) (by omega) (by unfold maxLen; omega) (by omega) (by simpa using hbs) (wA.heap.size + 1) (by simp) ?_)
                    intro g6 cap6 w6 hown6 hgrow6 hat6 hlt6
                    have HP6 : Hid (LdV w0 (w6.setCell ⟨w.heap.size + 1 + 1, 2, none⟩ (.slice (some ⟨g6, 0, none⟩) (k + 1) cap6)) pa (.slice (some ⟨g6, 0, none⟩) (k + 1) cap6) (k + 1) (l2 ++ [.int .i64 bb]) (.slice va3 k vk3) k l3) := Lib.hid (LdV.push2 HZ.out (HA.out.next (below_al (Below.refl _ _) _)) hown6 hgrow6 (by simpa using hat6))
                    have hsz6 : ∀ a : Nat, a < wA.heap.size → a < (wA.alloc (.cells #[.int .i64 bb] 3)).heap.size := fun a h => by simp; omega
                    have v26 : w6.cell? ⟨w.heap.size, 2, none⟩ = some (.bool false) := (hgrow6.cell_far ⟨w.heap.size, 2, none⟩ (hsz6 (w.heap.size) (by omega)) (hne2 w.heap.size (by omega))).trans (by simp [go_sem, ↓IntWalk.iteOmega, x2])
                    have v76 : w6.cell? ⟨wr.heap.size, 7, none⟩ = some (.bool true) := (hgrow6.cell_far ⟨wr.heap.size, 7, none⟩ (hsz6 (wr.heap.size) (by omega)) (hne2 wr.heap.size (by omega))).trans (by simp [go_sem, ↓IntWalk.iteOmega, x7])
                    have vg6 : w6.cell? ⟨wr.heap.size + 1 + pA.os.size, 1, none⟩ = some (.int .i64 qs) := (hgrow6.cell_far ⟨wr.heap.size + 1 + pA.os.size, 1, none⟩ (hsz6 (wr.heap.size + 1 + pA.os.size) (by omega)) (hne2 (wr.heap.size + 1 + pA.os.size) (by omega))).trans (by simp [go_sem, ↓IntWalk.iteOmega, xg])
                    have y2 : w6.cell? ⟨w.heap.size + 1 + 1, 2, none⟩ = some (.slice va2 k vk2) := (hgrow6.cell_far ⟨w.heap.size + 1 + 1, 2, none⟩ (hsz6 (w.heap.size + 1 + 1) (by omega)) (hne2 (w.heap.size + 1 + 1) (by omega))).trans (by simp [go_sem, ↓IntWalk.iteOmega, u2])
                    have yz2 : w6.frozen? ⟨w.heap.size + 1 + 1, 2, none⟩ = false := (hgrow6.frozen_far ⟨w.heap.size + 1 + 1, 2, none⟩ (hsz6 (w.heap.size + 1 + 1) (by omega)) (hne2 (w.heap.size + 1 + 1) (by omega))).trans (by simp [go_sem, ↓IntWalk.iteOmega, hz2'])
                    clear hgrow6 hown6 hat6 hlt6 hsz6 HA x2 x7 xg u2 u3 x3 hz2' hz3'
                    go_upto_region 32 with fail
                    refine wp_letter (R := fun W => LdV w0 W pa (.slice (some ⟨g6, 0, none⟩) (k + 1) cap6) (k + 1) (l2 ++ [.int .i64 bb]) (.slice va3 k vk3) k l3 ∧ W.cell? ⟨w.heap.size, 2, none⟩ = some (.bool false) ∧ W.cell? ⟨wr.heap.size, 7, none⟩ = some (.bool true) ∧ W.cell? ⟨wr.heap.size + 1 + pA.os.size, 1, none⟩ = some (.int .i64 qs)) ⟨HP6.out, by simp [go_sem, ↓IntWalk.iteOmega, cell_upd2, v26], by simp [go_sem, ↓IntWalk.iteOmega, cell_upd2, v76], by simp [go_sem, ↓IntWalk.iteOmega, cell_upd2, vg6]⟩ ?_
                    clear HP6 v26 v76 vg6 y2 yz2
                    rintro wB ⟨hA, x2, x7, xg⟩
                    have HA := Lib.hid hA
                    have hlA := hA.lt
                    have hlB : wr.heap.size + 1 + pA.os.size < wB.heap.size := cell_lt2 xg
                    have hlC : wr.heap.size < wB.heap.size := cell_lt2 x7
                    have u3 : wB.cell? ⟨w.heap.size + 1 + 1, 3, none⟩ = some (.slice va3 k vk3) := by have := hA.c3; rwa [HZ.out] at this
                    have hz3' : wB.frozen? ⟨w.heap.size + 1 + 1, 3, none⟩ = false := by have := hA.z 3; rwa [HZ.out] at this
                    have hlD : w.heap.size + 1 + 1 < wB.heap.size := cell_lt2 u3
                    have hbs2 : w0.heap.size + 1 ≤ wB.heap.size + 1 := by have := hA.below.size; omega
                    clear hA
                    go_wp2_with (at_builtin; refine wpList_append_lies _ rfl _ _ 31 rfl (w0.heap.size + 1) 3 i0 (.int .i64 0) 1 8 Try.underlying31 hi hz0' hz1 hz2 rfl (by decide) (.slice va3 k vk3) k l3 (by rfl) (HA.out.r3.alloc _) ⟨wB.heap.size, 0, none⟩ 1 1 [.int .i64 (wd)] (by rfl) (by rfl) (World.news_of_block (cs := #[.int .i64 (wd)]) (t := 3) (fr := (0, 0)) (heap_alloc_new wB _)) (by simp [Value.oneCell']) (by omega) (by unfold maxLen; omega) (by omega) (by simpa using hbs2) (wB.heap.size + 1) (by simp) ?_)
                    intro g7 cap7 w7 hown7 hgrow7 hat7 hlt7
                    have HP7 : Hid (LdV w0 (w7.setCell ⟨w.heap.size + 1 + 1, 3, none⟩ (.slice (some ⟨g7, 0, none⟩) (k + 1) cap7)) pa (.slice (some ⟨g6, 0, none⟩) (k + 1) cap6) (k + 1) (l2 ++ [.int .i64 bb]) (.slice (some ⟨g7, 0, none⟩) (k + 1) cap7) (k + 1) (l3 ++ [.int .i64 (wd)])) := Lib.hid (LdV.push3 HZ.out (HA.out.next (below_al (Below.refl _ _) _)) hown7 hgrow7 (by simpa using hat7))
                    have hsz7 : ∀ a : Nat, a < wB.heap.size → a < (wB.alloc (.cells #[.int .i64 (wd)] 3)).heap.size := fun a h => by simp; omega
                    have v27 : w7.cell? ⟨w.heap.size, 2, none⟩ = some (.bool false) := (hgrow7.cell_far ⟨w.heap.size, 2, none⟩ (hsz7 (w.heap.size) (by omega)) (hne3 w.heap.size (by omega))).trans (by simp [go_sem, ↓IntWalk.iteOmega, x2])
                    have v77 : w7.cell? ⟨wr.heap.size, 7, none⟩ = some (.bool true) := (hgrow7.cell_far ⟨wr.heap.size, 7, none⟩ (hsz7 (wr.heap.size) (by omega)) (hne3 wr.heap.size (by omega))).trans (by simp [go_sem, ↓IntWalk.iteOmega, x7])
                    have vg7 : w7.cell? ⟨wr.heap.size + 1 + pA.os.size, 1, none⟩ = some (.int .i64 qs) := (hgrow7.cell_far ⟨wr.heap.size + 1 + pA.os.size, 1, none⟩ (hsz7 (wr.heap.size + 1 + pA.os.size) (by omega)) (hne3 (wr.heap.size + 1 + pA.os.size) (by omega))).trans (by simp [go_sem, ↓IntWalk.iteOmega, xg])
                    have y3 : w7.cell? ⟨w.heap.size + 1 + 1, 3, none⟩ = some (.slice va3 k vk3) := (hgrow7.cell_far ⟨w.heap.size + 1 + 1, 3, none⟩ (hsz7 (w.heap.size + 1 + 1) (by omega)) (hne3 (w.heap.size + 1 + 1) (by omega))).trans (by simp [go_sem, ↓IntWalk.iteOmega, u3])
                    have yz3 : w7.frozen? ⟨w.heap.size + 1 + 1, 3, none⟩ = false := (hgrow7.frozen_far ⟨w.heap.size + 1 + 1, 3, none⟩ (hsz7 (w.heap.size + 1 + 1) (by omega)) (hne3 (w.heap.size + 1 + 1) (by omega))).trans (by simp [go_sem, ↓IntWalk.iteOmega, hz3'])
                    clear hgrow7 hown7 hat7 hlt7 hsz7 HA x2 x7 xg u3 hz3'
                    go_upto_region 34 with fail
                    refine wp_letter (R := fun W => LdV w0 W pa (.slice (some ⟨g6, 0, none⟩) (k + 1) cap6) (k + 1) (l2 ++ [.int .i64 bb]) (.slice (some ⟨g7, 0, none⟩) (k + 1) cap7) (k + 1) (l3 ++ [.int .i64 (wd)]) ∧ W.cell? ⟨w.heap.size, 2, none⟩ = some (.bool false) ∧ W.cell? ⟨wr.heap.size, 7, none⟩ = some (.bool true) ∧ W.cell? ⟨wr.heap.size + 1 + pA.os.size, 1, none⟩ = some (.int .i64 qs)) ⟨HP7.out, by simp [go_sem, ↓IntWalk.iteOmega, cell_upd2, v27], by simp [go_sem, ↓IntWalk.iteOmega, cell_upd2, v77], by simp [go_sem, ↓IntWalk.iteOmega, cell_upd2, vg7]⟩ ?_
                    clear HP7 v27 v77 vg7 y3 yz3
                    rintro wC ⟨hA, x2, x7, xg⟩
                    have HA := Lib.hid hA
                    have u1 : wC.cell? ⟨w.heap.size + 1 + 1, 1, none⟩ = some (.int .i64 pa) := by have := hA.c1; rwa [HZ.out] at this
                    have hz1' : wC.frozen? ⟨w.heap.size + 1 + 1, 1, none⟩ = false := by have := hA.z 1; rwa [HZ.out] at this
                    clear hA
                    go_upto_if 125 with fail
                    go_cut [6] from 53 to 144 (fun v6 wx => v6 = .int .i64 (max en (bb + wd)) ∧ wC = wx)
                    case first =>
                      by_cases hgt : en < (bb + wd)
                      · go_wp2_with fail
                        go_meet
                        case rel => exact ⟨by rw [Int.max_eq_right (by omega)], rfl⟩
                      · go_wp2_with fail
                        go_meet
                        case rel => exact ⟨by rw [Int.max_eq_left (by omega)], rfl⟩
                    case rest =>
                      obtain ⟨rfl, rfl⟩ := hcut
                      go_upto_if 142 with fail
                      have hcm : (qs : Int) ≤ pa ∨ pa < qs := by omega
                      rcases hcm with hgt | hgt
                      · go_wp2_with fail
                        go_roundw
                        case rel => exact ⟨k + 1, _, max en (bb + wd), _, _, _, _, by omega, by go_num, rfl, rfl, HK1.out, by omega, HS1.out, by have e : max pa (qs) = pa := Int.max_eq_left (by omega); rw [HE2.out, HE3.out]; simp only [e]; exact HA.out⟩
                        case measure => simp [intOf]; omega
                      · go_wp2_with fail
                        go_roundw
                        case rel => exact ⟨k + 1, _, max en (bb + wd), _, _, _, _, by omega, by go_num, rfl, rfl, HK1.out, by omega, HS1.out, by have e : max pa (qs) = qs := Int.max_eq_right (by omega); rw [HE2.out, HE3.out]; simp only [e]; exact HA.out.setAl HZ.out _⟩
                        case measure => simp [intOf]; omega
                  · have hne : bb ≠ B := fun e => by rw [e] at hm; exact hm hum.out
                    have hm2 : (bb % (8 * qs) == 0) = false := by simpa using hm
                    go_wp2_with fail
                    go_roundw
                    case rel => exact ⟨bb + 1, rfl, by omega, by omega, by first | rfl | trivial⟩
                    case measure => simp [intOf]; omega
              · replace hBe : B = upF pb 1 := by rw [hBe]; simp [hw, hc]
                have hub := upF_ge (n := pb) (s := 1) (by omega)
                have hum := upF_mod (n := pb) (s := 1)
                have hleast := fun (b : Int) (h1 : pb ≤ b) (h2 : b ≤ B) (h3 : b % (1) = 0) => upF_least (n := pb) (s := 1) (b := b) (by omega) h1 (by rw [← hBe]; exact h2) h3
                rw [← hBe] at hub hum hleast
                replace hleast := Lib.hid hleast
                replace hum := Lib.hid hum
                clear hBe
                go_upto_region 21 with (go_at_call 16; refine (LY.out _ (by repeat (first | exact Below.refl _ _ | refine below_mo ?_ _ | refine below_al ?_ _))).mono ?_; rintro e w1 ⟨a2, n2, k2, a3, n3, k3, rfl, pA, rfl⟩; have lA1 := hL1.out pA.os.size; have lA2 := hL2.out pA.os.size; have lA3 := hL3.out pA.os.size; have lA5 := hL5.out pA.os.size)
                go_quiet (fail)
                go_wp2_with fail
                go_quiet (fail)
                go_wp2_with fail
                refine wp_letter (R := fun W => LdV w0 W pa (.slice va2 k vk2) k l2 (.slice va3 k vk3) k l3 ∧ W.cell? ⟨w.heap.size, 2, none⟩ = some (.bool false) ∧ W.cell? ⟨w.heap.size, 3, none⟩ = some (.slice (some ⟨b, off, none⟩) fl fc) ∧ W.cell? ⟨wr.heap.size, 7, none⟩ = some (.bool true) ∧ W.cell? ⟨wr.heap.size + 1 + pA.os.size, 1, none⟩ = some (.int .i64 qs) ∧ Below w.heap.size w W) ?letA3n ?_
                case letA3n =>
                  refine ⟨?_, by simp [go_sem, ↓IntWalk.iteOmega, cell_upd2, t2], by simp [go_sem, ↓IntWalk.iteOmega, cell_upd2, t3], by simp [go_sem, ↓IntWalk.iteOmega, cell_upd2], by simp [go_sem, ↓IntWalk.iteOmega, cell_upd2], ?_⟩
                  · repeat (first | with_reducible exact HP.out | with_reducible refine LdV.next (w' := World.drewN _ _) ?_ (below_dn (Below.refl _ _) _) | with_reducible refine LdV.next (w' := World.drew _) ?_ (below_dr (Below.refl _ _)) | with_reducible refine LdV.next (w' := World.alloc _ _) ?_ (below_al (Below.refl _ _) _) | with_reducible refine LdV.next (w' := more _ _) ?_ (more_below _ _) | with_reducible refine LdV.setAl (al := pa) hz0 ?_ _)
                  · repeat (first | with_reducible exact HBW.out | with_reducible refine below_mo ?_ _ | with_reducible refine below_al ?_ _ | with_reducible refine below_dr ?_ | with_reducible refine below_dn ?_ _ | with_reducible refine below_st ?_ (by simp <;> omega) _)
                rintro wA ⟨hA, x2, x3, x7, xg, hBA⟩
                have HA := Lib.hid hA
                have HBA := Lib.hid hBA
                have u2 := hA.c2
                have u3 := hA.c3
                have hne2 : ∀ a : Nat, a ≤ w.heap.size + 1 + 1 ∨ wr.heap.size ≤ a → some a ≠ (Value.slice va2 k vk2).ownBlock := fun a ha e => by
                  have h1 := (hA.r2.lt a e.symm).1
                  have h2 := (HP.out.r2.lt a e.symm).2
                  omega
                have hne3 : ∀ a : Nat, a ≤ w.heap.size + 1 + 1 ∨ wr.heap.size ≤ a → some a ≠ (Value.slice va3 k vk3).ownBlock := fun a ha e => by
                  have h1 := (hA.r3.lt a e.symm).1
                  have h2 := (HP.out.r3.lt a e.symm).2
                  omega
                have hlA := hA.lt
                have hlB : wr.heap.size + 1 + pA.os.size < wA.heap.size := cell_lt2 xg
                have hlC : wr.heap.size < wA.heap.size := cell_lt2 x7
                clear hA hBA
                have hs0 : ((1 : Int) == 0) = false := by simp; try omega
                have hbb : pb ≤ B := by omega
                go_loopw [5] (fun v5 wx => ∃ bb : Int, v5 = .int .i64 bb ∧ pb ≤ bb ∧ bb ≤ B ∧ wA = wx) (fun v5 _ => (B - intOf v5).toNat)
                case atStart => exact ⟨pb, rfl, by omega, by omega, rfl⟩
                case round =>
                  obtain ⟨bb, rfl, h1, h2, rfl⟩ := hrel
                  have hm : bb % 1 = 0 := Int.emod_one bb
                  · have hbe : bb = B := hleast.out bb h1 h2 hm
                    subst hbe
                    have hbs : w0.heap.size + 1 ≤ wA.heap.size + 1 := by have := HA.out.below.size; omega
                    have hlE : w.heap.size + 1 + 1 < wA.heap.size := by omega
                    have HZ := Lib.hid hz0
                    clear hz0 hleast
                    have hz2' : wA.frozen? ⟨w.heap.size + 1 + 1, 2, none⟩ = false := by have := HA.out.z 2; rwa [HZ.out] at this
                    have hz3' : wA.frozen? ⟨w.heap.size + 1 + 1, 3, none⟩ = false := by have := HA.out.z 3; rwa [HZ.out] at this
                    rw [HZ.out] at u2 u3
                    go_wp2_with (at_builtin; refine wpList_append_lies _ rfl _ _ 31 rfl (w0.heap.size + 1) 3 i0 (.int .i64 0) 1 8 Try.underlying31 hi hz0' hz1 hz2 rfl (by decide) (.slice va2 k vk2) k l2 (by rfl) (HA.out.r2.alloc _) ⟨wA.heap.size, 0, none⟩ 1 1 [.int .i64 bb] (by rfl) (by rfl) (World.news_of_block (cs := #[.int .i64 bb]) (t := 3) (fr := (0, 0)) (heap_alloc_new wA _)) (by simp [Value.oneCell']) (by omega) (by unfold maxLen; omega) (by omega) (by simpa using hbs) (wA.heap.size + 1) (by simp) ?_)
                    intro g6 cap6 w6 hown6 hgrow6 hat6 hlt6
                    have HP6 : Hid (LdV w0 (w6.setCell ⟨w.heap.size + 1 + 1, 2, none⟩ (.slice (some ⟨g6, 0, none⟩) (k + 1) cap6)) pa (.slice (some ⟨g6, 0, none⟩) (k + 1) cap6) (k + 1) (l2 ++ [.int .i64 bb]) (.slice va3 k vk3) k l3) := Lib.hid (LdV.push2 HZ.out (HA.out.next (below_al (Below.refl _ _) _)) hown6 hgrow6 (by simpa using hat6))
                    have hsz6 : ∀ a : Nat, a < wA.heap.size → a < (wA.alloc (.cells #[.int .i64 bb] 3)).heap.size := fun a h => by simp; omega
                    have v26 : w6.cell? ⟨w.heap.size, 2, none⟩ = some (.bool false) := (hgrow6.cell_far ⟨w.heap.size, 2, none⟩ (hsz6 (w.heap.size) (by omega)) (hne2 w.heap.size (by omega))).trans (by simp [go_sem, ↓IntWalk.iteOmega, x2])
                    have v76 : w6.cell? ⟨wr.heap.size, 7, none⟩ = some (.bool true) := (hgrow6.cell_far ⟨wr.heap.size, 7, none⟩ (hsz6 (wr.heap.size) (by omega)) (hne2 wr.heap.size (by omega))).trans (by simp [go_sem, ↓IntWalk.iteOmega, x7])
                    have vg6 : w6.cell? ⟨wr.heap.size + 1 + pA.os.size, 1, none⟩ = some (.int .i64 qs) := (hgrow6.cell_far ⟨wr.heap.size + 1 + pA.os.size, 1, none⟩ (hsz6 (wr.heap.size + 1 + pA.os.size) (by omega)) (hne2 (wr.heap.size + 1 + pA.os.size) (by omega))).trans (by simp [go_sem, ↓IntWalk.iteOmega, xg])
                    have y2 : w6.cell? ⟨w.heap.size + 1 + 1, 2, none⟩ = some (.slice va2 k vk2) := (hgrow6.cell_far ⟨w.heap.size + 1 + 1, 2, none⟩ (hsz6 (w.heap.size + 1 + 1) (by omega)) (hne2 (w.heap.size + 1 + 1) (by omega))).trans (by simp [go_sem, ↓IntWalk.iteOmega, u2])
                    have yz2 : w6.frozen? ⟨w.heap.size + 1 + 1, 2, none⟩ = false := (hgrow6.frozen_far ⟨w.heap.size + 1 + 1, 2, none⟩ (hsz6 (w.heap.size + 1 + 1) (by omega)) (hne2 (w.heap.size + 1 + 1) (by omega))).trans (by simp [go_sem, ↓IntWalk.iteOmega, hz2'])
                    clear hgrow6 hown6 hat6 hlt6 hsz6 HA x2 x7 xg u2 u3 x3 hz2' hz3'
                    go_upto_region 32 with fail
                    refine wp_letter (R := fun W => LdV w0 W pa (.slice (some ⟨g6, 0, none⟩) (k + 1) cap6) (k + 1) (l2 ++ [.int .i64 bb]) (.slice va3 k vk3) k l3 ∧ W.cell? ⟨w.heap.size, 2, none⟩ = some (.bool false) ∧ W.cell? ⟨wr.heap.size, 7, none⟩ = some (.bool true) ∧ W.cell? ⟨wr.heap.size + 1 + pA.os.size, 1, none⟩ = some (.int .i64 qs)) ⟨HP6.out, by simp [go_sem, ↓IntWalk.iteOmega, cell_upd2, v26], by simp [go_sem, ↓IntWalk.iteOmega, cell_upd2, v76], by simp [go_sem, ↓IntWalk.iteOmega, cell_upd2, vg6]⟩ ?_
                    clear HP6 v26 v76 vg6 y2 yz2
                    rintro wB ⟨hA, x2, x7, xg⟩
                    have HA := Lib.hid hA
                    have hlA := hA.lt
                    have hlB : wr.heap.size + 1 + pA.os.size < wB.heap.size := cell_lt2 xg
                    have hlC : wr.heap.size < wB.heap.size := cell_lt2 x7
                    have u3 : wB.cell? ⟨w.heap.size + 1 + 1, 3, none⟩ = some (.slice va3 k vk3) := by have := hA.c3; rwa [HZ.out] at this
                    have hz3' : wB.frozen? ⟨w.heap.size + 1 + 1, 3, none⟩ = false := by have := hA.z 3; rwa [HZ.out] at this
                    have hlD : w.heap.size + 1 + 1 < wB.heap.size := cell_lt2 u3
                    have hbs2 : w0.heap.size + 1 ≤ wB.heap.size + 1 := by have := hA.below.size; omega
                    clear hA
                    go_wp2_with (at_builtin; refine wpList_append_lies _ rfl _ _ 31 rfl (w0.heap.size + 1) 3 i0 (.int .i64 0) 1 8 Try.underlying31 hi hz0' hz1 hz2 rfl (by decide) (.slice va3 k vk3) k l3 (by rfl) (HA.out.r3.alloc _) ⟨wB.heap.size, 0, none⟩ 1 1 [.int .i64 (wd)] (by rfl) (by rfl) (World.news_of_block (cs := #[.int .i64 (wd)]) (t := 3) (fr := (0, 0)) (heap_alloc_new wB _)) (by simp [Value.oneCell']) (by omega) (by unfold maxLen; omega) (by omega) (by simpa using hbs2) (wB.heap.size + 1) (by simp) ?_)
                    intro g7 cap7 w7 hown7 hgrow7 hat7 hlt7
                    have HP7 : Hid (LdV w0 (w7.setCell ⟨w.heap.size + 1 + 1, 3, none⟩ (.slice (some ⟨g7, 0, none⟩) (k + 1) cap7)) pa (.slice (some ⟨g6, 0, none⟩) (k + 1) cap6) (k + 1) (l2 ++ [.int .i64 bb]) (.slice (some ⟨g7, 0, none⟩) (k + 1) cap7) (k + 1) (l3 ++ [.int .i64 (wd)])) := Lib.hid (LdV.push3 HZ.out (HA.out.next (below_al (Below.refl _ _) _)) hown7 hgrow7 (by simpa using hat7))
                    have hsz7 : ∀ a : Nat, a < wB.heap.size → a < (wB.alloc (.cells #[.int .i64 (wd)] 3)).heap.size := fun a h => by simp; omega
                    have v27 : w7.cell? ⟨w.heap.size, 2, none⟩ = some (.bool false) := (hgrow7.cell_far ⟨w.heap.size, 2, none⟩ (hsz7 (w.heap.size) (by omega)) (hne3 w.heap.size (by omega))).trans (by simp [go_sem, ↓IntWalk.iteOmega, x2])
                    have v77 : w7.cell? ⟨wr.heap.size, 7, none⟩ = some (.bool true) := (hgrow7.cell_far ⟨wr.heap.size, 7, none⟩ (hsz7 (wr.heap.size) (by omega)) (hne3 wr.heap.size (by omega))).trans (by simp [go_sem, ↓IntWalk.iteOmega, x7])
                    have vg7 : w7.cell? ⟨wr.heap.size + 1 + pA.os.size, 1, none⟩ = some (.int .i64 qs) := (hgrow7.cell_far ⟨wr.heap.size + 1 + pA.os.size, 1, none⟩ (hsz7 (wr.heap.size + 1 + pA.os.size) (by omega)) (hne3 (wr.heap.size + 1 + pA.os.size) (by omega))).trans (by simp [go_sem, ↓IntWalk.iteOmega, xg])
                    have y3 : w7.cell? ⟨w.heap.size + 1 + 1, 3, none⟩ = some (.slice va3 k vk3) := (hgrow7.cell_far ⟨w.heap.size + 1 + 1, 3, none⟩ (hsz7 (w.heap.size + 1 + 1) (by omega)) (hne3 (w.heap.size + 1 + 1) (by omega))).trans (by simp [go_sem, ↓IntWalk.iteOmega, u3])
                    have yz3 : w7.frozen? ⟨w.heap.size + 1 + 1, 3, none⟩ = false := (hgrow7.frozen_far ⟨w.heap.size + 1 + 1, 3, none⟩ (hsz7 (w.heap.size + 1 + 1) (by omega)) (hne3 (w.heap.size + 1 + 1) (by omega))).trans (by simp [go_sem, ↓IntWalk.iteOmega, hz3'])
                    clear hgrow7 hown7 hat7 hlt7 hsz7 HA x2 x7 xg u3 hz3'
                    go_upto_region 34 with fail
                    refine wp_letter (R := fun W => LdV w0 W pa (.slice (some ⟨g6, 0, none⟩) (k + 1) cap6) (k + 1) (l2 ++ [.int .i64 bb]) (.slice (some ⟨g7, 0, none⟩) (k + 1) cap7) (k + 1) (l3 ++ [.int .i64 (wd)]) ∧ W.cell? ⟨w.heap.size, 2, none⟩ = some (.bool false) ∧ W.cell? ⟨wr.heap.size, 7, none⟩ = some (.bool true) ∧ W.cell? ⟨wr.heap.size + 1 + pA.os.size, 1, none⟩ = some (.int .i64 qs)) ⟨HP7.out, by simp [go_sem, ↓IntWalk.iteOmega, cell_upd2, v27], by simp [go_sem, ↓IntWalk.iteOmega, cell_upd2, v77], by simp [go_sem, ↓IntWalk.iteOmega, cell_upd2, vg7]⟩ ?_
                    clear HP7 v27 v77 vg7 y3 yz3
                    rintro wC ⟨hA, x2, x7, xg⟩
                    have HA := Lib.hid hA
                    have u1 : wC.cell? ⟨w.heap.size + 1 + 1, 1, none⟩ = some (.int .i64 pa) := by have := hA.c1; rwa [HZ.out] at this
                    have hz1' : wC.frozen? ⟨w.heap.size + 1 + 1, 1, none⟩ = false := by have := hA.z 1; rwa [HZ.out] at this
                    clear hA
                    go_upto_if 125 with fail
                    go_cut [6] from 53 to 144 (fun v6 wx => v6 = .int .i64 (max en (bb + wd)) ∧ wC = wx)
                    case first =>
                      by_cases hgt : en < (bb + wd)
                      · go_wp2_with fail
                        go_meet
                        case rel => exact ⟨by rw [Int.max_eq_right (by omega)], rfl⟩
                      · go_wp2_with fail
                        go_meet
                        case rel => exact ⟨by rw [Int.max_eq_left (by omega)], rfl⟩
                    case rest =>
                      obtain ⟨rfl, rfl⟩ := hcut
                      go_upto_if 142 with fail
                      have hcm : (qs : Int) ≤ pa ∨ pa < qs := by omega
                      rcases hcm with hgt | hgt
                      · go_wp2_with fail
                        go_roundw
                        case rel => exact ⟨k + 1, _, max en (bb + wd), _, _, _, _, by omega, by go_num, rfl, rfl, HK1.out, by omega, HS1.out, by have e : max pa (qs) = pa := Int.max_eq_left (by omega); rw [HE2.out, HE3.out]; simp only [e]; exact HA.out⟩
                        case measure => simp [intOf]; omega
                      · go_wp2_with fail
                        go_roundw
                        case rel => exact ⟨k + 1, _, max en (bb + wd), _, _, _, _, by omega, by go_num, rfl, rfl, HK1.out, by omega, HS1.out, by have e : max pa (qs) = qs := Int.max_eq_right (by omega); rw [HE2.out, HE3.out]; simp only [e]; exact HA.out.setAl HZ.out _⟩
                        case measure => simp [intOf]; omega
                
          | false =>
            rcases hBB with ⟨h, _⟩ | ⟨_, hBe, hNe, hVe⟩
            · cases h
            clear HBG HBP hfb
            cases rp with
            | true =>
              rw [if_pos rfl] at hBe hVe
              subst hNe hVe
              have hub := upF_ge (n := pb) (s := 8) (by omega)
              have hum := upF_mod (n := pb) (s := 8)
              have hleast := fun (b : Int) (h1 : pb ≤ b) (h2 : b ≤ B) (h3 : b % (8) = 0) => upF_least (n := pb) (s := 8) (b := b) (by omega) h1 (by rw [← hBe]; exact h2) h3
              rw [← hBe] at hub hum hleast
              replace hleast := Lib.hid hleast
              replace hum := Lib.hid hum
              clear hBe
              go_upto_region 21 with (go_at_call 16; refine (LY.out _ (by repeat (first | exact Below.refl _ _ | refine below_mo ?_ _ | refine below_al ?_ _))).mono ?_; rintro e w1 ⟨a2, n2, k2, a3, n3, k3, rfl, pA, rfl⟩; have lA1 := hL1.out pA.os.size; have lA2 := hL2.out pA.os.size; have lA3 := hL3.out pA.os.size; have lA5 := hL5.out pA.os.size)
              go_quiet (fail)
              go_wp2_with fail
              refine wp_letter (R := fun W => LdV w0 W pa (.slice va2 k vk2) k l2 (.slice va3 k vk3) k l3 ∧ W.cell? ⟨w.heap.size, 2, none⟩ = some (.bool true) ∧ W.cell? ⟨w.heap.size, 3, none⟩ = some (.slice (some ⟨b, off, none⟩) fl fc) ∧ W.cell? ⟨wr.heap.size, 7, none⟩ = some (.bool false) ∧ W.cell? ⟨wr.heap.size + 1 + pA.os.size, 1, none⟩ = some (.int .i64 gb) ∧ Below w.heap.size w W) ?letA3p ?_
              case letA3p =>
                refine ⟨?_, by simp [go_sem, ↓IntWalk.iteOmega, cell_upd2, t2], by simp [go_sem, ↓IntWalk.iteOmega, cell_upd2, t3], by simp [go_sem, ↓IntWalk.iteOmega, cell_upd2], by simp [go_sem, ↓IntWalk.iteOmega, cell_upd2], ?_⟩
                · repeat (first | with_reducible exact HP.out | with_reducible refine LdV.next (w' := World.drewN _ _) ?_ (below_dn (Below.refl _ _) _) | with_reducible refine LdV.next (w' := World.drew _) ?_ (below_dr (Below.refl _ _)) | with_reducible refine LdV.next (w' := World.alloc _ _) ?_ (below_al (Below.refl _ _) _) | with_reducible refine LdV.next (w' := more _ _) ?_ (more_below _ _) | with_reducible refine LdV.setAl (al := pa) hz0 ?_ _)
                · repeat (first | with_reducible exact HBW.out | with_reducible refine below_mo ?_ _ | with_reducible refine below_al ?_ _ | with_reducible refine below_dr ?_ | with_reducible refine below_dn ?_ _ | with_reducible refine below_st ?_ (by simp <;> omega) _)
              rintro wA ⟨hA, x2, x3, x7, xg, hBA⟩
              have HA := Lib.hid hA
              have HBA := Lib.hid hBA
              have u2 := hA.c2
              have u3 := hA.c3
              have hne2 : ∀ a : Nat, a ≤ w.heap.size + 1 + 1 ∨ wr.heap.size ≤ a → some a ≠ (Value.slice va2 k vk2).ownBlock := fun a ha e => by
                have h1 := (hA.r2.lt a e.symm).1
                have h2 := (HP.out.r2.lt a e.symm).2
                omega
              have hne3 : ∀ a : Nat, a ≤ w.heap.size + 1 + 1 ∨ wr.heap.size ≤ a → some a ≠ (Value.slice va3 k vk3).ownBlock := fun a ha e => by
                have h1 := (hA.r3.lt a e.symm).1
                have h2 := (HP.out.r3.lt a e.symm).2
                omega
              have hlA := hA.lt
              have hlB : wr.heap.size + 1 + pA.os.size < wA.heap.size := cell_lt2 xg
              have hlC : wr.heap.size < wA.heap.size := cell_lt2 x7
              clear hA hBA
              have hs0 : ((8 : Int) == 0) = false := by simp; try omega
              have hbb : pb ≤ B := by omega
              go_loopw [5] (fun v5 wx => ∃ bb : Int, v5 = .int .i64 bb ∧ pb ≤ bb ∧ bb ≤ B ∧ wA = wx) (fun v5 _ => (B - intOf v5).toNat)
              case atStart => exact ⟨pb, rfl, by omega, by omega, rfl⟩
              case round =>
                obtain ⟨bb, rfl, h1, h2, rfl⟩ := hrel
                have hbm : Int.tmod bb (8) = bb % (8) := Int.tmod_eq_emod_of_nonneg (by omega)
                by_cases hm : bb % (8) = 0
                · have hbe : bb = B := hleast.out bb h1 h2 hm
                  subst hbe
                  have hbs : w0.heap.size + 1 ≤ wA.heap.size + 1 := by have := HA.out.below.size; omega
                  have hlE : w.heap.size + 1 + 1 < wA.heap.size := by omega
                  have HZ := Lib.hid hz0
                  clear hz0 hleast
                  have hz2' : wA.frozen? ⟨w.heap.size + 1 + 1, 2, none⟩ = false := by have := HA.out.z 2; rwa [HZ.out] at this
                  have hz3' : wA.frozen? ⟨w.heap.size + 1 + 1, 3, none⟩ = false := by have := HA.out.z 3; rwa [HZ.out] at this
                  rw [HZ.out] at u2 u3
                  go_wp2_with (at_builtin; refine wpList_append_lies _ rfl _ _ 31 rfl (w0.heap.size + 1) 3 i0 (.int .i64 0) 1 8 Try.underlying31 hi hz0' hz1 hz2 rfl (by decide) (.slice va2 k vk2) k l2 (by rfl) (HA.out.r2.alloc _) ⟨wA.heap.size, 0, none⟩ 1 1 [.int .i64 bb] (by rfl) (by rfl) (World.news_of_block (cs := #[.int .i64 bb]) (t := 3) (fr := (0, 0)) (heap_alloc_new wA _)) (by simp [Value.oneCell']) (by omega) (by unfold maxLen; omega) (by omega) (by simpa using hbs) (wA.heap.size + 1) (by simp) ?_)
                  intro g6 cap6 w6 hown6 hgrow6 hat6 hlt6
                  have HP6 : Hid (LdV w0 (w6.setCell ⟨w.heap.size + 1 + 1, 2, none⟩ (.slice (some ⟨g6, 0, none⟩) (k + 1) cap6)) pa (.slice (some ⟨g6, 0, none⟩) (k + 1) cap6) (k + 1) (l2 ++ [.int .i64 bb]) (.slice va3 k vk3) k l3) := Lib.hid (LdV.push2 HZ.out (HA.out.next (below_al (Below.refl _ _) _)) hown6 hgrow6 (by simpa using hat6))
                  have hsz6 : ∀ a : Nat, a < wA.heap.size → a < (wA.alloc (.cells #[.int .i64 bb] 3)).heap.size := fun a h => by simp; omega
                  have v26 : w6.cell? ⟨w.heap.size, 2, none⟩ = some (.bool true) := (hgrow6.cell_far ⟨w.heap.size, 2, none⟩ (hsz6 (w.heap.size) (by omega)) (hne2 w.heap.size (by omega))).trans (by simp [go_sem, ↓IntWalk.iteOmega, x2])
                  have v76 : w6.cell? ⟨wr.heap.size, 7, none⟩ = some (.bool false) := (hgrow6.cell_far ⟨wr.heap.size, 7, none⟩ (hsz6 (wr.heap.size) (by omega)) (hne2 wr.heap.size (by omega))).trans (by simp [go_sem, ↓IntWalk.iteOmega, x7])
                  have vg6 : w6.cell? ⟨wr.heap.size + 1 + pA.os.size, 1, none⟩ = some (.int .i64 gb) := (hgrow6.cell_far ⟨wr.heap.size + 1 + pA.os.size, 1, none⟩ (hsz6 (wr.heap.size + 1 + pA.os.size) (by omega)) (hne2 (wr.heap.size + 1 + pA.os.size) (by omega))).trans (by simp [go_sem, ↓IntWalk.iteOmega, xg])
                  have y2 : w6.cell? ⟨w.heap.size + 1 + 1, 2, none⟩ = some (.slice va2 k vk2) := (hgrow6.cell_far ⟨w.heap.size + 1 + 1, 2, none⟩ (hsz6 (w.heap.size + 1 + 1) (by omega)) (hne2 (w.heap.size + 1 + 1) (by omega))).trans (by simp [go_sem, ↓IntWalk.iteOmega, u2])
                  have yz2 : w6.frozen? ⟨w.heap.size + 1 + 1, 2, none⟩ = false := (hgrow6.frozen_far ⟨w.heap.size + 1 + 1, 2, none⟩ (hsz6 (w.heap.size + 1 + 1) (by omega)) (hne2 (w.heap.size + 1 + 1) (by omega))).trans (by simp [go_sem, ↓IntWalk.iteOmega, hz2'])
                  clear hgrow6 hown6 hat6 hlt6 hsz6 HA x2 x7 xg u2 u3 x3 hz2' hz3'
                  go_upto_region 32 with fail
                  refine wp_letter (R := fun W => LdV w0 W pa (.slice (some ⟨g6, 0, none⟩) (k + 1) cap6) (k + 1) (l2 ++ [.int .i64 bb]) (.slice va3 k vk3) k l3 ∧ W.cell? ⟨w.heap.size, 2, none⟩ = some (.bool true) ∧ W.cell? ⟨wr.heap.size, 7, none⟩ = some (.bool false) ∧ W.cell? ⟨wr.heap.size + 1 + pA.os.size, 1, none⟩ = some (.int .i64 gb)) ⟨HP6.out, by simp [go_sem, ↓IntWalk.iteOmega, cell_upd2, v26], by simp [go_sem, ↓IntWalk.iteOmega, cell_upd2, v76], by simp [go_sem, ↓IntWalk.iteOmega, cell_upd2, vg6]⟩ ?_
                  clear HP6 v26 v76 vg6 y2 yz2
                  rintro wB ⟨hA, x2, x7, xg⟩
                  have HA := Lib.hid hA
                  have hlA := hA.lt
                  have hlB : wr.heap.size + 1 + pA.os.size < wB.heap.size := cell_lt2 xg
                  have hlC : wr.heap.size < wB.heap.size := cell_lt2 x7
                  have u3 : wB.cell? ⟨w.heap.size + 1 + 1, 3, none⟩ = some (.slice va3 k vk3) := by have := hA.c3; rwa [HZ.out] at this
                  have hz3' : wB.frozen? ⟨w.heap.size + 1 + 1, 3, none⟩ = false := by have := hA.z 3; rwa [HZ.out] at this
                  have hlD : w.heap.size + 1 + 1 < wB.heap.size := cell_lt2 u3
                  have hbs2 : w0.heap.size + 1 ≤ wB.heap.size + 1 := by have := hA.below.size; omega
                  clear hA
                  go_wp2_with (at_builtin; refine wpList_append_lies _ rfl _ _ 31 rfl (w0.heap.size + 1) 3 i0 (.int .i64 0) 1 8 Try.underlying31 hi hz0' hz1 hz2 rfl (by decide) (.slice va3 k vk3) k l3 (by rfl) (HA.out.r3.alloc _) ⟨wB.heap.size, 0, none⟩ 1 1 [.int .i64 (8 * ga)] (by rfl) (by rfl) (World.news_of_block (cs := #[.int .i64 (8 * ga)]) (t := 3) (fr := (0, 0)) (heap_alloc_new wB _)) (by simp [Value.oneCell']) (by omega) (by unfold maxLen; omega) (by omega) (by simpa using hbs2) (wB.heap.size + 1) (by simp) ?_)
                  intro g7 cap7 w7 hown7 hgrow7 hat7 hlt7
                  have HP7 : Hid (LdV w0 (w7.setCell ⟨w.heap.size + 1 + 1, 3, none⟩ (.slice (some ⟨g7, 0, none⟩) (k + 1) cap7)) pa (.slice (some ⟨g6, 0, none⟩) (k + 1) cap6) (k + 1) (l2 ++ [.int .i64 bb]) (.slice (some ⟨g7, 0, none⟩) (k + 1) cap7) (k + 1) (l3 ++ [.int .i64 (8 * ga)])) := Lib.hid (LdV.push3 HZ.out (HA.out.next (below_al (Below.refl _ _) _)) hown7 hgrow7 (by simpa using hat7))
                  have hsz7 : ∀ a : Nat, a < wB.heap.size → a < (wB.alloc (.cells #[.int .i64 (8 * ga)] 3)).heap.size := fun a h => by simp; omega
                  have v27 : w7.cell? ⟨w.heap.size, 2, none⟩ = some (.bool true) := (hgrow7.cell_far ⟨w.heap.size, 2, none⟩ (hsz7 (w.heap.size) (by omega)) (hne3 w.heap.size (by omega))).trans (by simp [go_sem, ↓IntWalk.iteOmega, x2])
                  have v77 : w7.cell? ⟨wr.heap.size, 7, none⟩ = some (.bool false) := (hgrow7.cell_far ⟨wr.heap.size, 7, none⟩ (hsz7 (wr.heap.size) (by omega)) (hne3 wr.heap.size (by omega))).trans (by simp [go_sem, ↓IntWalk.iteOmega, x7])
                  have vg7 : w7.cell? ⟨wr.heap.size + 1 + pA.os.size, 1, none⟩ = some (.int .i64 gb) := (hgrow7.cell_far ⟨wr.heap.size + 1 + pA.os.size, 1, none⟩ (hsz7 (wr.heap.size + 1 + pA.os.size) (by omega)) (hne3 (wr.heap.size + 1 + pA.os.size) (by omega))).trans (by simp [go_sem, ↓IntWalk.iteOmega, xg])
                  have y3 : w7.cell? ⟨w.heap.size + 1 + 1, 3, none⟩ = some (.slice va3 k vk3) := (hgrow7.cell_far ⟨w.heap.size + 1 + 1, 3, none⟩ (hsz7 (w.heap.size + 1 + 1) (by omega)) (hne3 (w.heap.size + 1 + 1) (by omega))).trans (by simp [go_sem, ↓IntWalk.iteOmega, u3])
                  have yz3 : w7.frozen? ⟨w.heap.size + 1 + 1, 3, none⟩ = false := (hgrow7.frozen_far ⟨w.heap.size + 1 + 1, 3, none⟩ (hsz7 (w.heap.size + 1 + 1) (by omega)) (hne3 (w.heap.size + 1 + 1) (by omega))).trans (by simp [go_sem, ↓IntWalk.iteOmega, hz3'])
                  clear hgrow7 hown7 hat7 hlt7 hsz7 HA x2 x7 xg u3 hz3'
                  go_upto_region 34 with fail
                  refine wp_letter (R := fun W => LdV w0 W pa (.slice (some ⟨g6, 0, none⟩) (k + 1) cap6) (k + 1) (l2 ++ [.int .i64 bb]) (.slice (some ⟨g7, 0, none⟩) (k + 1) cap7) (k + 1) (l3 ++ [.int .i64 (8 * ga)]) ∧ W.cell? ⟨w.heap.size, 2, none⟩ = some (.bool true) ∧ W.cell? ⟨wr.heap.size, 7, none⟩ = some (.bool false) ∧ W.cell? ⟨wr.heap.size + 1 + pA.os.size, 1, none⟩ = some (.int .i64 gb)) ⟨HP7.out, by simp [go_sem, ↓IntWalk.iteOmega, cell_upd2, v27], by simp [go_sem, ↓IntWalk.iteOmega, cell_upd2, v77], by simp [go_sem, ↓IntWalk.iteOmega, cell_upd2, vg7]⟩ ?_
                  clear HP7 v27 v77 vg7 y3 yz3
                  rintro wC ⟨hA, x2, x7, xg⟩
                  have HA := Lib.hid hA
                  have u1 : wC.cell? ⟨w.heap.size + 1 + 1, 1, none⟩ = some (.int .i64 pa) := by have := hA.c1; rwa [HZ.out] at this
                  have hz1' : wC.frozen? ⟨w.heap.size + 1 + 1, 1, none⟩ = false := by have := hA.z 1; rwa [HZ.out] at this
                  clear hA
                  go_upto_if 125 with fail
                  go_cut [6] from 53 to 144 (fun v6 wx => v6 = .int .i64 (max en (bb + 8 * ga)) ∧ wC = wx)
                  case first =>
                    by_cases hgt : en < (bb + 8 * ga)
                    · go_wp2_with fail
                      go_meet
                      case rel => exact ⟨by rw [Int.max_eq_right (by omega)], rfl⟩
                    · go_wp2_with fail
                      go_meet
                      case rel => exact ⟨by rw [Int.max_eq_left (by omega)], rfl⟩
                  case rest =>
                    obtain ⟨rfl, rfl⟩ := hcut
                    go_upto_if 142 with fail
                    have hcm : (1 : Int) ≤ pa ∨ pa < 1 := by omega
                    rcases hcm with hgt | hgt
                    · go_wp2_with fail
                      go_roundw
                      case rel => exact ⟨k + 1, _, max en (bb + 8 * ga), _, _, _, _, by omega, by go_num, rfl, rfl, HK1.out, by omega, HS1.out, by have e : max pa (1) = pa := Int.max_eq_left (by omega); rw [HE2.out, HE3.out]; simp only [e]; exact HA.out⟩
                      case measure => simp [intOf]; omega
                    · exfalso; omega
                · have hne : bb ≠ B := fun e => by rw [e] at hm; exact hm hum.out
                  have hm2 : (bb % (8) == 0) = false := by simpa using hm
                  go_wp2_with fail
                  go_roundw
                  case rel => exact ⟨bb + 1, rfl, by omega, by omega, by first | rfl | trivial⟩
                  case measure => simp [intOf]; omega
            | false =>
              rw [if_neg (by simp)] at hBe hVe
              have hVe' := hVe.symm
              clear hVe
              subst hNe hVe'
              have hub := upF_ge (n := pb) (s := 8 * gb) (by omega)
              have hum := upF_mod (n := pb) (s := 8 * gb)
              have hleast := fun (b : Int) (h1 : pb ≤ b) (h2 : b ≤ B) (h3 : b % (8 * gb) = 0) => upF_least (n := pb) (s := 8 * gb) (b := b) (by omega) h1 (by rw [← hBe]; exact h2) h3
              rw [← hBe] at hub hum hleast
              replace hleast := Lib.hid hleast
              replace hum := Lib.hid hum
              clear hBe
              go_upto_region 21 with (go_at_call 16; refine (LY.out _ (by repeat (first | exact Below.refl _ _ | refine below_mo ?_ _ | refine below_al ?_ _))).mono ?_; rintro e w1 ⟨a2, n2, k2, a3, n3, k3, rfl, pA, rfl⟩; have lA1 := hL1.out pA.os.size; have lA2 := hL2.out pA.os.size; have lA3 := hL3.out pA.os.size; have lA5 := hL5.out pA.os.size)
              go_quiet (fail)
              go_wp2_with fail
              refine wp_letter (R := fun W => LdV w0 W pa (.slice va2 k vk2) k l2 (.slice va3 k vk3) k l3 ∧ W.cell? ⟨w.heap.size, 2, none⟩ = some (.bool false) ∧ W.cell? ⟨w.heap.size, 3, none⟩ = some (.slice (some ⟨b, off, none⟩) fl fc) ∧ W.cell? ⟨wr.heap.size, 7, none⟩ = some (.bool false) ∧ W.cell? ⟨wr.heap.size + 1 + pA.os.size, 1, none⟩ = some (.int .i64 gb) ∧ Below w.heap.size w W) ?letA3u ?_
              case letA3u =>
                refine ⟨?_, by simp [go_sem, ↓IntWalk.iteOmega, cell_upd2, t2], by simp [go_sem, ↓IntWalk.iteOmega, cell_upd2, t3], by simp [go_sem, ↓IntWalk.iteOmega, cell_upd2], by simp [go_sem, ↓IntWalk.iteOmega, cell_upd2], ?_⟩
                · repeat (first | with_reducible exact HP.out | with_reducible refine LdV.next (w' := World.drewN _ _) ?_ (below_dn (Below.refl _ _) _) | with_reducible refine LdV.next (w' := World.drew _) ?_ (below_dr (Below.refl _ _)) | with_reducible refine LdV.next (w' := World.alloc _ _) ?_ (below_al (Below.refl _ _) _) | with_reducible refine LdV.next (w' := more _ _) ?_ (more_below _ _) | with_reducible refine LdV.setAl (al := pa) hz0 ?_ _)
                · repeat (first | with_reducible exact HBW.out | with_reducible refine below_mo ?_ _ | with_reducible refine below_al ?_ _ | with_reducible refine below_dr ?_ | with_reducible refine below_dn ?_ _ | with_reducible refine below_st ?_ (by simp <;> omega) _)
              rintro wA ⟨hA, x2, x3, x7, xg, hBA⟩
              have HA := Lib.hid hA
              have HBA := Lib.hid hBA
              have u2 := hA.c2
              have u3 := hA.c3
              have hne2 : ∀ a : Nat, a ≤ w.heap.size + 1 + 1 ∨ wr.heap.size ≤ a → some a ≠ (Value.slice va2 k vk2).ownBlock := fun a ha e => by
                have h1 := (hA.r2.lt a e.symm).1
                have h2 := (HP.out.r2.lt a e.symm).2
                omega
              have hne3 : ∀ a : Nat, a ≤ w.heap.size + 1 + 1 ∨ wr.heap.size ≤ a → some a ≠ (Value.slice va3 k vk3).ownBlock := fun a ha e => by
                have h1 := (hA.r3.lt a e.symm).1
                have h2 := (HP.out.r3.lt a e.symm).2
                omega
              have hlA := hA.lt
              have hlB : wr.heap.size + 1 + pA.os.size < wA.heap.size := cell_lt2 xg
              have hlC : wr.heap.size < wA.heap.size := cell_lt2 x7
              clear hA hBA
              have hs0 : ((8 * gb : Int) == 0) = false := by simp; try omega
              have hbb : pb ≤ B := by omega
              go_loopw [5] (fun v5 wx => ∃ bb : Int, v5 = .int .i64 bb ∧ pb ≤ bb ∧ bb ≤ B ∧ wA = wx) (fun v5 _ => (B - intOf v5).toNat)
              case atStart => exact ⟨pb, rfl, by omega, by omega, rfl⟩
              case round =>
                obtain ⟨bb, rfl, h1, h2, rfl⟩ := hrel
                have hbm : Int.tmod bb (8 * gb) = bb % (8 * gb) := Int.tmod_eq_emod_of_nonneg (by omega)
                by_cases hm : bb % (8 * gb) = 0
                · have hbe : bb = B := hleast.out bb h1 h2 hm
                  subst hbe
                  have hbs : w0.heap.size + 1 ≤ wA.heap.size + 1 := by have := HA.out.below.size; omega
                  have hlE : w.heap.size + 1 + 1 < wA.heap.size := by omega
                  have HZ := Lib.hid hz0
                  clear hz0 hleast
                  have hz2' : wA.frozen? ⟨w.heap.size + 1 + 1, 2, none⟩ = false := by have := HA.out.z 2; rwa [HZ.out] at this
                  have hz3' : wA.frozen? ⟨w.heap.size + 1 + 1, 3, none⟩ = false := by have := HA.out.z 3; rwa [HZ.out] at this
                  rw [HZ.out] at u2 u3
                  go_wp2_with (at_builtin; refine wpList_append_lies _ rfl _ _ 31 rfl (w0.heap.size + 1) 3 i0 (.int .i64 0) 1 8 Try.underlying31 hi hz0' hz1 hz2 rfl (by decide) (.slice va2 k vk2) k l2 (by rfl) (HA.out.r2.alloc _) ⟨wA.heap.size, 0, none⟩ 1 1 [.int .i64 bb] (by rfl) (by rfl) (World.news_of_block (cs := #[.int .i64 bb]) (t := 3) (fr := (0, 0)) (heap_alloc_new wA _)) (by simp [Value.oneCell']) (by omega) (by unfold maxLen; omega) (by omega) (by simpa using hbs) (wA.heap.size + 1) (by simp) ?_)
                  intro g6 cap6 w6 hown6 hgrow6 hat6 hlt6
                  have HP6 : Hid (LdV w0 (w6.setCell ⟨w.heap.size + 1 + 1, 2, none⟩ (.slice (some ⟨g6, 0, none⟩) (k + 1) cap6)) pa (.slice (some ⟨g6, 0, none⟩) (k + 1) cap6) (k + 1) (l2 ++ [.int .i64 bb]) (.slice va3 k vk3) k l3) := Lib.hid (LdV.push2 HZ.out (HA.out.next (below_al (Below.refl _ _) _)) hown6 hgrow6 (by simpa using hat6))
                  have hsz6 : ∀ a : Nat, a < wA.heap.size → a < (wA.alloc (.cells #[.int .i64 bb] 3)).heap.size := fun a h => by simp; omega
                  have v26 : w6.cell? ⟨w.heap.size, 2, none⟩ = some (.bool false) := (hgrow6.cell_far ⟨w.heap.size, 2, none⟩ (hsz6 (w.heap.size) (by omega)) (hne2 w.heap.size (by omega))).trans (by simp [go_sem, ↓IntWalk.iteOmega, x2])
                  have v76 : w6.cell? ⟨wr.heap.size, 7, none⟩ = some (.bool false) := (hgrow6.cell_far ⟨wr.heap.size, 7, none⟩ (hsz6 (wr.heap.size) (by omega)) (hne2 wr.heap.size (by omega))).trans (by simp [go_sem, ↓IntWalk.iteOmega, x7])
                  have vg6 : w6.cell? ⟨wr.heap.size + 1 + pA.os.size, 1, none⟩ = some (.int .i64 gb) := (hgrow6.cell_far ⟨wr.heap.size + 1 + pA.os.size, 1, none⟩ (hsz6 (wr.heap.size + 1 + pA.os.size) (by omega)) (hne2 (wr.heap.size + 1 + pA.os.size) (by omega))).trans (by simp [go_sem, ↓IntWalk.iteOmega, xg])
                  have y2 : w6.cell? ⟨w.heap.size + 1 + 1, 2, none⟩ = some (.slice va2 k vk2) := (hgrow6.cell_far ⟨w.heap.size + 1 + 1, 2, none⟩ (hsz6 (w.heap.size + 1 + 1) (by omega)) (hne2 (w.heap.size + 1 + 1) (by omega))).trans (by simp [go_sem, ↓IntWalk.iteOmega, u2])
                  have yz2 : w6.frozen? ⟨w.heap.size + 1 + 1, 2, none⟩ = false := (hgrow6.frozen_far ⟨w.heap.size + 1 + 1, 2, none⟩ (hsz6 (w.heap.size + 1 + 1) (by omega)) (hne2 (w.heap.size + 1 + 1) (by omega))).trans (by simp [go_sem, ↓IntWalk.iteOmega, hz2'])
                  clear hgrow6 hown6 hat6 hlt6 hsz6 HA x2 x7 xg u2 u3 x3 hz2' hz3'
                  go_upto_region 32 with fail
                  refine wp_letter (R := fun W => LdV w0 W pa (.slice (some ⟨g6, 0, none⟩) (k + 1) cap6) (k + 1) (l2 ++ [.int .i64 bb]) (.slice va3 k vk3) k l3 ∧ W.cell? ⟨w.heap.size, 2, none⟩ = some (.bool false) ∧ W.cell? ⟨wr.heap.size, 7, none⟩ = some (.bool false) ∧ W.cell? ⟨wr.heap.size + 1 + pA.os.size, 1, none⟩ = some (.int .i64 gb)) ⟨HP6.out, by simp [go_sem, ↓IntWalk.iteOmega, cell_upd2, v26], by simp [go_sem, ↓IntWalk.iteOmega, cell_upd2, v76], by simp [go_sem, ↓IntWalk.iteOmega, cell_upd2, vg6]⟩ ?_
                  clear HP6 v26 v76 vg6 y2 yz2
                  rintro wB ⟨hA, x2, x7, xg⟩
                  have HA := Lib.hid hA
                  have hlA := hA.lt
                  have hlB : wr.heap.size + 1 + pA.os.size < wB.heap.size := cell_lt2 xg
                  have hlC : wr.heap.size < wB.heap.size := cell_lt2 x7
                  have u3 : wB.cell? ⟨w.heap.size + 1 + 1, 3, none⟩ = some (.slice va3 k vk3) := by have := hA.c3; rwa [HZ.out] at this
                  have hz3' : wB.frozen? ⟨w.heap.size + 1 + 1, 3, none⟩ = false := by have := hA.z 3; rwa [HZ.out] at this
                  have hlD : w.heap.size + 1 + 1 < wB.heap.size := cell_lt2 u3
                  have hbs2 : w0.heap.size + 1 ≤ wB.heap.size + 1 := by have := hA.below.size; omega
                  clear hA
                  go_wp2_with (at_builtin; refine wpList_append_lies _ rfl _ _ 31 rfl (w0.heap.size + 1) 3 i0 (.int .i64 0) 1 8 Try.underlying31 hi hz0' hz1 hz2 rfl (by decide) (.slice va3 k vk3) k l3 (by rfl) (HA.out.r3.alloc _) ⟨wB.heap.size, 0, none⟩ 1 1 [.int .i64 (8 * ga)] (by rfl) (by rfl) (World.news_of_block (cs := #[.int .i64 (8 * ga)]) (t := 3) (fr := (0, 0)) (heap_alloc_new wB _)) (by simp [Value.oneCell']) (by omega) (by unfold maxLen; omega) (by omega) (by simpa using hbs2) (wB.heap.size + 1) (by simp) ?_)
                  intro g7 cap7 w7 hown7 hgrow7 hat7 hlt7
                  have HP7 : Hid (LdV w0 (w7.setCell ⟨w.heap.size + 1 + 1, 3, none⟩ (.slice (some ⟨g7, 0, none⟩) (k + 1) cap7)) pa (.slice (some ⟨g6, 0, none⟩) (k + 1) cap6) (k + 1) (l2 ++ [.int .i64 bb]) (.slice (some ⟨g7, 0, none⟩) (k + 1) cap7) (k + 1) (l3 ++ [.int .i64 (8 * ga)])) := Lib.hid (LdV.push3 HZ.out (HA.out.next (below_al (Below.refl _ _) _)) hown7 hgrow7 (by simpa using hat7))
                  have hsz7 : ∀ a : Nat, a < wB.heap.size → a < (wB.alloc (.cells #[.int .i64 (8 * ga)] 3)).heap.size := fun a h => by simp; omega
                  have v27 : w7.cell? ⟨w.heap.size, 2, none⟩ = some (.bool false) := (hgrow7.cell_far ⟨w.heap.size, 2, none⟩ (hsz7 (w.heap.size) (by omega)) (hne3 w.heap.size (by omega))).trans (by simp [go_sem, ↓IntWalk.iteOmega, x2])
                  have v77 : w7.cell? ⟨wr.heap.size, 7, none⟩ = some (.bool false) := (hgrow7.cell_far ⟨wr.heap.size, 7, none⟩ (hsz7 (wr.heap.size) (by omega)) (hne3 wr.heap.size (by omega))).trans (by simp [go_sem, ↓IntWalk.iteOmega, x7])
                  have vg7 : w7.cell? ⟨wr.heap.size + 1 + pA.os.size, 1, none⟩ = some (.int .i64 gb) := (hgrow7.cell_far ⟨wr.heap.size + 1 + pA.os.size, 1, none⟩ (hsz7 (wr.heap.size + 1 + pA.os.size) (by omega)) (hne3 (wr.heap.size + 1 + pA.os.size) (by omega))).trans (by simp [go_sem, ↓IntWalk.iteOmega, xg])
                  have y3 : w7.cell? ⟨w.heap.size + 1 + 1, 3, none⟩ = some (.slice va3 k vk3) := (hgrow7.cell_far ⟨w.heap.size + 1 + 1, 3, none⟩ (hsz7 (w.heap.size + 1 + 1) (by omega)) (hne3 (w.heap.size + 1 + 1) (by omega))).trans (by simp [go_sem, ↓IntWalk.iteOmega, u3])
                  have yz3 : w7.frozen? ⟨w.heap.size + 1 + 1, 3, none⟩ = false := (hgrow7.frozen_far ⟨w.heap.size + 1 + 1, 3, none⟩ (hsz7 (w.heap.size + 1 + 1) (by omega)) (hne3 (w.heap.size + 1 + 1) (by omega))).trans (by simp [go_sem, ↓IntWalk.iteOmega, hz3'])
                  clear hgrow7 hown7 hat7 hlt7 hsz7 HA x2 x7 xg u3 hz3'
                  go_upto_region 34 with fail
                  refine wp_letter (R := fun W => LdV w0 W pa (.slice (some ⟨g6, 0, none⟩) (k + 1) cap6) (k + 1) (l2 ++ [.int .i64 bb]) (.slice (some ⟨g7, 0, none⟩) (k + 1) cap7) (k + 1) (l3 ++ [.int .i64 (8 * ga)]) ∧ W.cell? ⟨w.heap.size, 2, none⟩ = some (.bool false) ∧ W.cell? ⟨wr.heap.size, 7, none⟩ = some (.bool false) ∧ W.cell? ⟨wr.heap.size + 1 + pA.os.size, 1, none⟩ = some (.int .i64 gb)) ⟨HP7.out, by simp [go_sem, ↓IntWalk.iteOmega, cell_upd2, v27], by simp [go_sem, ↓IntWalk.iteOmega, cell_upd2, v77], by simp [go_sem, ↓IntWalk.iteOmega, cell_upd2, vg7]⟩ ?_
                  clear HP7 v27 v77 vg7 y3 yz3
                  rintro wC ⟨hA, x2, x7, xg⟩
                  have HA := Lib.hid hA
                  have u1 : wC.cell? ⟨w.heap.size + 1 + 1, 1, none⟩ = some (.int .i64 pa) := by have := hA.c1; rwa [HZ.out] at this
                  have hz1' : wC.frozen? ⟨w.heap.size + 1 + 1, 1, none⟩ = false := by have := hA.z 1; rwa [HZ.out] at this
                  clear hA
                  go_upto_if 125 with fail
                  go_cut [6] from 53 to 144 (fun v6 wx => v6 = .int .i64 (max en (bb + 8 * ga)) ∧ wC = wx)
                  case first =>
                    by_cases hgt : en < (bb + 8 * ga)
                    · go_wp2_with fail
                      go_meet
                      case rel => exact ⟨by rw [Int.max_eq_right (by omega)], rfl⟩
                    · go_wp2_with fail
                      go_meet
                      case rel => exact ⟨by rw [Int.max_eq_left (by omega)], rfl⟩
                  case rest =>
                    obtain ⟨rfl, rfl⟩ := hcut
                    go_upto_if 142 with fail
                    have hcm : (gb : Int) ≤ pa ∨ pa < gb := by omega
                    rcases hcm with hgt | hgt
                    · go_wp2_with fail
                      go_roundw
                      case rel => exact ⟨k + 1, _, max en (bb + 8 * ga), _, _, _, _, by omega, by go_num, rfl, rfl, HK1.out, by omega, HS1.out, by have e : max pa (gb) = pa := Int.max_eq_left (by omega); rw [HE2.out, HE3.out]; simp only [e]; exact HA.out⟩
                      case measure => simp [intOf]; omega
                    · go_wp2_with fail
                      go_roundw
                      case rel => exact ⟨k + 1, _, max en (bb + 8 * ga), _, _, _, _, by omega, by go_num, rfl, rfl, HK1.out, by omega, HS1.out, by have e : max pa (gb) = gb := Int.max_eq_right (by omega); rw [HE2.out, HE3.out]; simp only [e]; exact HA.out.setAl HZ.out _⟩
                      case measure => simp [intOf]; omega
                · have hne : bb ≠ B := fun e => by rw [e] at hm; exact hm hum.out
                  have hm2 : (bb % (8 * gb) == 0) = false := by simpa using hm
                  go_wp2_with fail
                  go_roundw
                  case rel => exact ⟨bb + 1, rfl, by omega, by omega, by first | rfl | trivial⟩
                  case measure => simp [intOf]; omega
    · have hkf : k = fl := by omega
      subst hkf
      have hub := upF_ge (n := en) (s := 8 * pa) (by omega)
      have hum := upF_mod (n := en) (s := 8 * pa)
      have hse := Lib.hid (size_end (en := en) (a := pa) (sz := ps) hen (by omega) HSZ.out)
      have hleast := Lib.hid (fun (b : Int) (h1 : en ≤ b) (h2 : b ≤ upF en (8 * pa)) (h3 : b % (8 * pa) = 0) => upF_least (n := en) (s := 8 * pa) (b := b) (by omega) h1 h2 h3)
      have HFN : Hid (formF (n + 1) t = finF ⟨pb, ps, pa⟩) := Lib.hid (by rw [HFM.out, HPK.out]; rfl)
      have HROW2 := Lib.hid HP.out.r2
      have HROW3 := Lib.hid HP.out.r3
      have HFL := Lib.hid (fbK_len (formF n) (tsize n) t k _ HPK.out)
      have hbase := HP.out.below.size
      generalize hUU : upF en (8 * pa) = U at *
      replace hum := Lib.hid hum
      replace hUU := Lib.hid hUU
      have hs0 : (8 * pa == 0) = false := by simp; omega
      clear HF HT FOK PLO SND LYI HPK HSZ HP HP0
      go_wp2_with fail
      go_loopw [6] (fun v6 wx => ∃ ee : Int, v6 = .int .i64 ee ∧ en ≤ ee ∧ ee ≤ U ∧ wr = wx) (fun v6 _ => (U - intOf v6).toNat)
      case atStart => exact ⟨en, rfl, by omega, by omega, rfl⟩
      case round =>
        obtain ⟨ee, rfl, h1, h2, rfl⟩ := hrel
        have hbm : Int.tmod ee (8 * pa) = ee % (8 * pa) := Int.tmod_eq_emod_of_nonneg (by omega)
        by_cases hm : ee % (8 * pa) = 0
        · have hbe : ee = U := hleast.out ee h1 h2 hm
          subst hbe
          have ht8 : Int.tdiv ee 8 = ee / 8 := tdiv_eq (by omega)
          have hFF : Hid (formF (n + 1) t = if ee / 8 ≤ 65536 then some (ee / 8, pa) else none) := Lib.hid (by
            rw [HFN.out]; unfold finF; simp only [hse.out])
          have HBS : w.heap.size ≤ w0.heap.size + 1 := by omega
          have HZ := Lib.hid hz0
          clear hz0 hse HFN hbase
          rcases (by omega : ee / 8 ≤ 65536 ∨ 65536 < ee / 8) with hle | hgt
          · go_wp2_with fail
            refine bodyPost_ret (v := .agg #[.int .i64 (ee / 8), .int .i64 pa, .slice va2 k vk2, .slice va3 k vk3, .bool false]) ?hresB rfl ?postB
            case hresB =>
              refine ret_c (cs := [.int .i64 (ee / 8), .int .i64 pa, .slice va2 k vk2, .slice va3 k vk3, .bool false]) (c := 2) rfl rfl Try.underlying33 rfl (by kernel_rfl) (range5 ?_ ?_ ?_ ?_ ?_)
              all_goals simp [go_sem, ↓IntWalk.iteOmega, cell_upd2, r0, r1, r2, r3, r4, hle]
            case postB =>
              refine ⟨⟨ee / 8, pa, va2, k, vk2, va3, k, vk3, false, rfl, (by rw [hFF.out, if_pos hle]; rfl), (fun g hg => by rw [hFF.out, if_pos hle] at hg; cases hg; exact ⟨rfl, rfl⟩), fun hg => ?_⟩, more_of_below ?_⟩
              · rw [HFB.out.1]
                refine ⟨HFL.out.symm, HFL.out.symm, ?_, ?_⟩
                · refine ownsRow_base HBS ?_
                  repeat (first | with_reducible exact HROW2.out | with_reducible refine World.ownsRow.drew ?_ | with_reducible refine ownsRow_stb (by have := HZ.out; omega) ?_ _)
                · refine ownsRow_base HBS ?_
                  repeat (first | with_reducible exact HROW3.out | with_reducible refine World.ownsRow.drew ?_ | with_reducible refine ownsRow_stb (by have := HZ.out; omega) ?_ _)
              · repeat (first | with_reducible exact HBW.out | with_reducible refine below_mo ?_ _ | with_reducible refine below_al ?_ _ | with_reducible refine below_dr ?_ | with_reducible refine below_dn ?_ _ | with_reducible refine below_st ?_ (by simp <;> omega) _)
          · go_wp2_with fail
            refine bodyPost_ret (v := .agg #[.int .i64 (ee / 8), .int .i64 pa, .slice va2 k vk2, .slice va3 k vk3, .bool true]) ?hresC rfl ?postC
            case hresC =>
              refine ret_c (cs := [.int .i64 (ee / 8), .int .i64 pa, .slice va2 k vk2, .slice va3 k vk3, .bool true]) (c := 2) rfl rfl Try.underlying33 rfl (by kernel_rfl) (range5 ?_ ?_ ?_ ?_ ?_)
              all_goals simp [go_sem, ↓IntWalk.iteOmega, cell_upd2, r0, r1, r2, r3, r4, hgt]
            case postC =>
              have hng : ¬ ee / 8 ≤ 65536 := by omega
              refine ⟨⟨ee / 8, pa, va2, k, vk2, va3, k, vk3, true, rfl, (by rw [hFF.out, if_neg hng]; rfl), (fun g hg => by rw [hFF.out, if_neg hng] at hg; cases hg), fun hg => ?_⟩, more_of_below ?_⟩
              · rw [HFB.out.1]
                refine ⟨HFL.out.symm, HFL.out.symm, ?_, ?_⟩
                · refine ownsRow_base HBS ?_
                  repeat (first | with_reducible exact HROW2.out | with_reducible refine World.ownsRow.drew ?_ | with_reducible refine ownsRow_stb (by have := HZ.out; omega) ?_ _)
                · refine ownsRow_base HBS ?_
                  repeat (first | with_reducible exact HROW3.out | with_reducible refine World.ownsRow.drew ?_ | with_reducible refine ownsRow_stb (by have := HZ.out; omega) ?_ _)
              · repeat (first | with_reducible exact HBW.out | with_reducible refine below_mo ?_ _ | with_reducible refine below_al ?_ _ | with_reducible refine below_dr ?_ | with_reducible refine below_dn ?_ _ | with_reducible refine below_st ?_ (by simp <;> omega) _)
        · have hne : ee ≠ U := fun e => by rw [e] at hm; exact hm hum.out
          have hm2 : (ee % (8 * pa) == 0) = false := by simpa using hm
          go_wp2_with fail
          go_roundw
          case rel => exact ⟨ee + 1, rfl, by omega, by omega, by first | rfl | trivial⟩
          case measure => simp [intOf]; omega
end Go.Proofs.Ytlbkloamabomcaa
