/- Walk: where a group's fields lie: the program's place, if what it asks of the types of fields is known. Conditions: the type lies in memory and is sound. -/
import Derived.Test.YtlbkloamabomcaaLayMath2
import Derived.Test.YtlbkloamabomcaaLayBits2
import Derived.Test.YtlbkloamabomcaaQuietTail
import Derived.Deep.RegionWith
import Derived.Deep.Cut
namespace Go.Proofs.Ytlbkloamabomcaa
open Go.RowKit Go.Sort
set_option linter.unusedVariables false
set_option linter.unusedSimpArgs false
theorem run_maxI {P : Program} (w : World) (ts : Array TypeId) (t : TypeId) (k k' : IntKind) (x y : Int) : (Builtin.max_ ts t #[.int k x, .int k' y]).run P w = .ok (.int k (max x y)) w := by
  have e : (if y > x then y else x) = max x y := by
    rw [Int.max_def]
    split <;> split <;> omega
  simp [Builtin.max_, Builtin.max2, e]
attribute [local go_sem high] run_maxI
theorem bits_any {α : Type} (f : FdF α) (q : Raw) (p : Pl) (sp : List Sp) (w0 w : World) (h : PlW w0 w p sp) (hq : q.size = 1 ∨ q.size = 2 ∨ q.size = 4 ∨ q.size = 8) (hw : 0 ≤ f.width) (hw2 : f.width ≤ 8 * q.size) (hp0 : 0 ≤ p.bit) (hp1 : p.bit ≤ 100000000) (hsp : sp.length ≤ 32) :
    Calls Try.prog 47 #[.pointer (some ⟨w0.heap.size, 0, none⟩), fdV f q] w fun e w' => e = .returned (.tuple #[]) ∧ PlW w0 w' ⟨bitAt p.bit (8 * q.size) f.width + f.width, p.size, p.align⟩ (sp ++ [bitSp (bitAt p.bit (8 * q.size) f.width) f.width]) := by
  by_cases h0 : f.width = 0
  · exact bits_zero f q p sp w0 w h hq h0 hp0 hp1 hsp
  · exact bits_some f q p sp w0 w h hq (by omega) hw2 hp0 hp1 hsp
theorem PlW.al {w0 w : World} {P : Nat} {b s a : Int} {sp : List Sp} (hP : w0.heap.size = P) (h : PlW w0 w ⟨b, s, a⟩ sp) (x : Int) : PlW w0 (w.setCell ⟨P, 1, none⟩ (.int .i64 x)) ⟨b, s, x⟩ sp := by
  subst hP; exact h.set 1 x (.inr (.inl ⟨rfl, rfl⟩))
theorem PlW.bt {w0 w : World} {P : Nat} {b s a : Int} {sp : List Sp} (hP : w0.heap.size = P) (h : PlW w0 w ⟨b, s, a⟩ sp) (x : Int) : PlW w0 (w.setCell ⟨P, 3, none⟩ (.int .i64 x)) ⟨x, s, a⟩ sp := by
  subst hP; exact h.set 3 x (.inr (.inr ⟨rfl, rfl⟩))
theorem PlW.sz {w0 w : World} {P : Nat} {b s a : Int} {sp : List Sp} (hP : w0.heap.size = P) (h : PlW w0 w ⟨b, s, a⟩ sp) (x : Int) : PlW w0 (w.setCell ⟨P, 0, none⟩ (.int .i64 x)) ⟨b, x, a⟩ sp := by
  subst hP; exact h.set 0 x (.inl ⟨rfl, rfl⟩)
theorem ownsRow_st2 {w w0 : World} {P k : Nat} {e : TypeId} {sz n c : Nat} {a : Option Addr} {xs : List Value} (hP : w0.heap.size = P) (h : w.ownsRow (w0.heap.size + 1) e sz (.slice a n c) n xs) (x : Value) : (w.setCell ⟨P, k, none⟩ x).ownsRow (w0.heap.size + 1) e sz (.slice a n c) n xs := by
  subst hP; exact ownsRow_st h x
theorem ownsRow_stb {w : World} {B b k : Nat} {e : TypeId} {sz n : Nat} {v : Value} {xs : List Value} (hb : b < B) (h : w.ownsRow B e sz v n xs) (x : Value) : (w.setCell ⟨b, k, none⟩ x).ownsRow B e sz v n xs := by
  refine h.kept (grown_set _ _ _) ?_
  cases hv : v.ownBlock with
  | none => exact .inl rfl
  | some g =>
    have := (h.lt g hv).1
    refine .inr fun e2 => ?_
    have h3 : g = b := Option.some.inj e2
    omega
theorem ownsRow_base {w : World} {B B' : Nat} {e : TypeId} {sz n : Nat} {v : Value} {xs : List Value} (hb : B' ≤ B) (h : w.ownsRow B e sz v n xs) : w.ownsRow B' e sz v n xs := by
  refine ⟨h.1, ?_⟩
  rcases h.2 with h | ⟨g, cap, cur, h1, h2, h3⟩
  · exact .inl h
  · exact .inr ⟨g, cap, cur, h1, by omega, h3⟩
theorem ownsRow_mo {w : World} {B : Nat} {e : TypeId} {sz n : Nat} {v : Value} {xs : List Value} (h : w.ownsRow B e sz v n xs) (p : Regrown) : (more w p).ownsRow B e sz v n xs :=
  h.kept (row := none) ⟨(more_below w p).os, (more_below w p).tape, (more_below w p).output, (more_below w p).size, fun k hk _ => (more_below w p).block k hk⟩ (by cases hv : v.ownBlock <;> simp)
theorem tyAt_parts {w : World} : ∀ {n : Nat} {t : Ty n} {q : Raw}, TyAt w n t q → q.kind = tkind n t ∧ q.size = tsize n t
  | 0, t, _, _ => nomatch t
  | n + 1, (t : TyF (Ty n)), q, h => ⟨h.1, h.2.1⟩
/-- what 'of' gives back: a form, and whether it fits. -/
def OfC (w : World) (F : Option (Int × Int)) (e : Ending) (w' : World) : Prop :=
  (∃ (s a : Int) (b : Bool), e = .returned (.tuple #[.agg #[.int .i64 s, .int .i64 a], .bool b]) ∧ b = F.isSome ∧ ∀ g, F = some g → s = g.1 ∧ a = g.2) ∧ ∃ p : Regrown, w' = more w p
/-- what 'place' gives back: where fields lie. -/
def PlaceC (w : World) (p : Option Pl) (sp : List Sp) (e : Ending) (w' : World) : Prop :=
  (∃ (s a b : Int) (ad : Option Addr) (l c : Nat) (ok : Bool), e = .returned (.tuple #[.agg #[.int .i64 s, .int .i64 a, .slice ad l c, .int .i64 b], .bool ok]) ∧ (p = none → ok = false) ∧
    (∀ q, p = some q → ok = decide (upF q.size q.align ≤ 65536) ∧ s = upF q.size q.align ∧ a = q.align ∧ l = sp.length ∧ w'.ownsRow w.heap.size 42 6 (.slice ad l c) l (sp.flatMap Sp.cs))) ∧ ∃ p : Regrown, w' = more w p
set_option maxRecDepth 100000 in
set_option maxHeartbeats 6400000 in
theorem place_step (n : Nat) (OF : ∀ (t : Ty n) (r : Raw) (w : World), soundF n t = 0 → TyAt w n t r → Calls Try.prog 42 #[r.val] w (OfC w (formF n t)))
    (t : TyF (Ty n)) (r : Raw) (w : World) (hs : soundF (n + 1) t = 0) (hk : t.kind = 3 ∨ t.kind = 4) (hT : TyAt w (n + 1) t r) :
    Calls Try.prog 32 #[r.val] w (PlaceC w (plK (formF n) (tsize n) t t.fields.length) (spK (formF n) (tsize n) (tkind n) t t.fields.length)) := by
  have HT := Lib.hid hT
  have FOK := Lib.hid (field_ok n t hs hk)
  have hlen : t.fields.length ≤ 32 := by
    rcases sound_cases n t hs with ⟨hk', _⟩ | ⟨hk', _⟩ | ⟨_, _, _, _, _, h, _⟩
    · omega
    · omega
    · exact h
  have PLO := Lib.hid (plK_ok (formF n) (tsize n) t (fun i f g hi hg => (FOK.out i f g hi hg).2))
  have SND : Hid (∀ (i : Nat) (f : FdF (Ty n)), t.fields[i]? = some f → soundF n f.type = 0) := Lib.hid (fun i f hi => by
    rcases sound_cases n t hs with ⟨hk', _⟩ | ⟨hk', _⟩ | ⟨_, _, _, _, _, _, h⟩
    · omega
    · omega
    · exact (h i f hi).1)
  have KD : Hid (∀ (i : Nat) (f : FdF (Ty n)), t.fields[i]? = some f → f.isBits = true → tkind n f.type = 1) := Lib.hid (fun i f hi hb => by
    rcases sound_cases n t hs with ⟨hk', _⟩ | ⟨hk', _⟩ | ⟨_, _, _, _, _, _, h⟩
    · omega
    · omega
    · rcases (h i f hi).2 with h2 | h2
      · exact h2.2.1
      · rw [h2.1] at hb; cases hb)
  replace OF := Lib.hid OF
  obtain ⟨e1, e2, e3, e4, e5, e6, e7, e8, e9, hf, he⟩ := hT
  obtain ⟨rk, rs, rp, fa, fl, fc, rc, ea, el, ec⟩ := r
  simp only at e1 e2 e3 e4 e5 e6 hf he
  have HF := Lib.hid hf.2.2
  have hfc := hf.1
  have hfm := hf.2.1
  have E4 := Lib.hid e4
  have E1 := Lib.hid e1
  have E3 := Lib.hid e3
  rw [← e1] at hk
  rw [← e4] at hlen ⊢
  clear hf he e4 e6 e5 e7 e8 e9 e1 e2 e3 hs
  unfold Raw.val
  simp only
  go_enter Try.func32, Try.ntmps32
  go_wp2_with fail
  have HW0 : Hid (∃ w0, w0 = (w.alloc (.cells #[.int .i64 rk, .int .i64 rs, .bool rp, .slice fa fl fc, .int .i64 rc, .slice ea el ec] 25)).alloc (.cells #[.int .i64 0, .int .i64 0, .slice none 0 0, .int .i64 0] 88) ∧ w0.heap.size = w.heap.size + 1 + 1 ∧ Below w.heap.size w w0 ∧ (w0.cell? ⟨w.heap.size, 0, none⟩ = some (.int .i64 rk) ∧ w0.cell? ⟨w.heap.size, 1, none⟩ = some (.int .i64 rs) ∧ w0.cell? ⟨w.heap.size, 2, none⟩ = some (.bool rp) ∧ w0.cell? ⟨w.heap.size, 3, none⟩ = some (.slice fa fl fc) ∧ w0.cell? ⟨w.heap.size, 4, none⟩ = some (.int .i64 rc) ∧ w0.cell? ⟨w.heap.size, 5, none⟩ = some (.slice ea el ec)) ∧
      (w0.cell? ⟨w.heap.size + 1, 0, none⟩ = some (.int .i64 0) ∧ w0.cell? ⟨w.heap.size + 1, 1, none⟩ = some (.int .i64 0) ∧ w0.cell? ⟨w.heap.size + 1, 2, none⟩ = some (.slice none 0 0) ∧ w0.cell? ⟨w.heap.size + 1, 3, none⟩ = some (.int .i64 0)) ∧ ∀ k, w0.frozen? ⟨w.heap.size + 1, k, none⟩ = false) := Lib.hid (by
    refine ⟨_, rfl, by simp [go_sem], by repeat (first | exact Below.refl _ _ | refine below_al ?_ _), ?_, ?_, ?_⟩
    · refine ⟨?_, ?_, ?_, ?_, ?_, ?_⟩ <;> simp [go_sem]
    · refine ⟨?_, ?_, ?_, ?_⟩ <;> simp [go_sem]
    · intro k; simp [go_sem])
  obtain ⟨w0, hw0, hz0, hB0, ⟨t0, t1, t2, t3, t4, t5⟩, ⟨r0, r1, r2, r3⟩, rz⟩ := HW0.out
  clear HW0
  rw [← hw0]
  have HP0 : Hid (PlW w0 (w0.alloc (.cells #[.int .i64 0, .int .i64 1, .slice none 0 0, .int .i64 0] 88)) ⟨0, 0, 1⟩ []) := Lib.hid (by
    refine ⟨below_al (Below.refl _ _) _, by simp [go_sem], by simp [go_sem], by simp [go_sem], ⟨none, 0, by simp [go_sem], World.ownsRow_nil _ _ _ _⟩, fun k => by simp [go_sem]⟩)
  clear hw0
  go_loopw [16] (fun i wr => ∃ (k : Nat) (p : Pl), k ≤ fl ∧ i = .int .i64 k ∧ plK (formF n) (tsize n) t k = some p ∧
      PlW w0 wr p (spK (formF n) (tsize n) (tkind n) t k)) (fun i _ => fl - (intOf i).toNat)
  case atStart => exact ⟨0, ⟨0, 0, 1⟩, by omega, rfl, rfl, HP0.out⟩
  case round =>
    obtain ⟨k, p, hkl, rfl, hpk, hP⟩ := hrel
    have HP := Lib.hid hP
    have HPK := Lib.hid hpk
    have hbr := hP.below
    have HBW := Lib.hid (below_next hB0 ⟨hbr.os, hbr.tape, hbr.output, hbr.size, hbr.block⟩)
    have kp : ∀ (a o : Nat) (v : Value), a < w.heap.size + 1 + 1 → w0.cell? ⟨a, o, none⟩ = some v → wr.cell? ⟨a, o, none⟩ = some v := fun a o v ha hv => (hbr.cell (p := ⟨a, o, none⟩) (by rw [hz0]; exact ha)).trans hv
    replace t0 := kp _ _ _ (by omega) t0
    replace t1 := kp _ _ _ (by omega) t1
    replace t2 := kp _ _ _ (by omega) t2
    replace t3 := kp _ _ _ (by omega) t3
    replace t4 := kp _ _ _ (by omega) t4
    replace t5 := kp _ _ _ (by omega) t5
    replace r0 := kp _ _ _ (by omega) r0
    replace r1 := kp _ _ _ (by omega) r1
    replace r2 := kp _ _ _ (by omega) r2
    replace r3 := kp _ _ _ (by omega) r3
    have rz0 : wr.frozen? ⟨w.heap.size + 1, 0, none⟩ = false := (hbr.frozen (p := ⟨w.heap.size + 1, 0, none⟩) (by rw [hz0]; simp)).trans (rz 0)
    have rz1 : wr.frozen? ⟨w.heap.size + 1, 1, none⟩ = false := (hbr.frozen (p := ⟨w.heap.size + 1, 1, none⟩) (by rw [hz0]; simp)).trans (rz 1)
    have rz2 : wr.frozen? ⟨w.heap.size + 1, 2, none⟩ = false := (hbr.frozen (p := ⟨w.heap.size + 1, 2, none⟩) (by rw [hz0]; simp)).trans (rz 2)
    have rz3 : wr.frozen? ⟨w.heap.size + 1, 3, none⟩ = false := (hbr.frozen (p := ⟨w.heap.size + 1, 3, none⟩) (by rw [hz0]; simp)).trans (rz 3)
    have p0 := hP.c0
    have p1 := hP.c1
    have p3 := hP.c3
    have pl := hP.lt
    have pz0 := hP.z 0
    have pz1 := hP.z 1
    have pz2 := hP.z 2
    have pz3 := hP.z 3
    have hok := PLO.out k p hpk
    obtain ⟨b0, b1, s0, s1, al, _⟩ := hok
    obtain ⟨pb, ps, pa⟩ := p
    simp only at p0 p1 p3 b0 b1 s0 s1 al
    have hal := al.pos
    rw [hz0] at p0 p1 p3 pl pz0 pz1 pz2 pz3
    have pl1 : w.heap.size + 1 < wr.heap.size := by omega
    have pl2 : w.heap.size < wr.heap.size := by omega
    clear hP hpk hbr kp rz al
    by_cases hlt : (k : Int) < fl
    · obtain ⟨b, off, rfl, hb, hc⟩ := HF.out (by omega)
      obtain ⟨f, hfk⟩ := get_some t.fields k (by have := E4.out; omega)
      obtain ⟨q, hq, g1, g2, c0, c1, c2, c3, c4, c5, c6, c7, c8⟩ := hc k f hfk
      have kw : ∀ (o : Nat) (v : Value), w.cell? ⟨b, o, none⟩ = some v → wr.cell? ⟨b, o, none⟩ = some v := fun o v hv => (HBW.out.cell (p := ⟨b, o, none⟩) hb).trans hv
      replace c0 := kw _ _ c0
      replace c1 := kw _ _ c1
      replace c2 := kw _ _ c2
      replace c3 := kw _ _ c3
      replace c4 := kw _ _ c4
      replace c5 := kw _ _ c5
      replace c6 := kw _ _ c6
      replace c7 := kw _ _ c7
      replace c8 := kw _ _ c8
      have hbr : b < wr.heap.size := Nat.lt_of_lt_of_le hb HBW.out.size
      have OFK := Lib.hid (fun W (hW : Below wr.heap.size wr W) => OF.out f.type q W (SND.out k f hfk) (hq.below (below_next HBW.out hW)))
      have HFK := Lib.hid hfk
      obtain ⟨qz1, qz2⟩ := tyAt_parts hq
      clear hc hq kw
      cases hF : formF n f.type with
      | none =>
        rw [hF] at OFK
        have HN := Lib.hid (plK_none (formF n) (tsize n) t k hfk hF fl (by omega))
        clear hF hfk qz1 qz2
        obtain ⟨qk, qs, qp, qfa, qfl, qfc, qc, qea, qel, qec⟩ := q
        obtain ⟨nm, ty, bt, wd⟩ := f
        unfold Raw.val at OFK
        simp only at c0 c1 c2 c3 c4 c5 c6 c7 c8 OFK
        go_wp2_with (go_at_call 42; refine (OFK.out _ (by repeat (first | exact Below.refl _ _ | refine below_mo ?_ _ | refine below_al ?_ _))).mono ?_; rintro e w1 ⟨⟨s, a, bb, rfl, rfl, _⟩, p1, rfl⟩; simp only [Option.isSome_none])
        refine bodyPost_ret (v := .tuple #[.agg #[.int .i64 0, .int .i64 0, .slice none 0 0, .int .i64 0], .bool false]) ?hresA rfl ?postA
        case hresA =>
          refine ret_ct (cs := [.int .i64 0, .int .i64 0, .slice none 0 0, .int .i64 0]) (t := 3) (c := 2) rfl rfl rfl Try.underlying88 rfl (by kernel_rfl) (range4 ?_ ?_ ?_ ?_)
          all_goals simp [go_sem, ↓IntWalk.iteOmega, cell_upd2, r0, r1, r2, r3]
        case postA =>
          refine ⟨⟨0, 0, 0, none, 0, 0, false, rfl, fun _ => rfl, fun q hq => ?_⟩, more_of_below ?_⟩
          · rw [HN.out] at hq; cases hq
          · repeat (first | with_reducible exact HBW.out | with_reducible refine below_mo ?_ _ | with_reducible refine below_al ?_ _ | with_reducible refine below_st ?_ (by simp) _)
      | some g =>
        rw [hF] at OFK
        replace OFK : Hid (∀ W, Below wr.heap.size wr W → Calls Try.prog 42 #[q.val] W fun e w' => e = .returned (.tuple #[.agg #[.int .i64 g.1, .int .i64 g.2], .bool true]) ∧ ∃ p : Regrown, w' = more W p) := Lib.hid (fun W hW => (OFK.out W hW).mono (by
          rintro e w1 ⟨⟨s, a, bb, rfl, rfl, hg⟩, p1, rfl⟩
          obtain ⟨rfl, rfl⟩ := hg _ rfl
          exact ⟨rfl, p1, rfl⟩))
        obtain ⟨hsf, hfo⟩ := FOK.out k f g hfk hF
        have HK1 := Lib.hid (plK_succ (formF n) (tsize n) t k HPK.out hfk hF)
        have HK2 := Lib.hid (spK_succ (formF n) (tsize n) (tkind n) t k HPK.out hfk hF)
        have HSL := Lib.hid (spK_len (formF n) (tsize n) (tkind n) t k _ HPK.out)
        rw [← E3.out, ← E1.out, ← qz2] at HK1 HK2
        rw [← qz1] at HK2
        rw [← qz2] at hfo
        have hBN : 0 ≤ begF rp (rk == 4) f q.size g ⟨pb, ps, pa⟩ ∧ begF rp (rk == 4) f q.size g ⟨pb, ps, pa⟩ ≤ pb + 200 := begF_bound hfo rp (rk == 4) (p := ⟨pb, ps, pa⟩) b0
        have hNN := numF_bound hfo
        have hVp := (wideF_pow hfo rp).pos
        have WI := Lib.hid (fun W => wide_any f ⟨rk, rs, rp, some ⟨b, off, none⟩, fl, fc, rc, ea, el, ec⟩ q g W)
        have HST : Hid (stepF rp (rk == 4) f q.size g ⟨pb, ps, pa⟩ = ⟨begF rp (rk == 4) f q.size g ⟨pb, ps, pa⟩ + numF f g, max ps (upF (begF rp (rk == 4) f q.size g ⟨pb, ps, pa⟩ + numF f g) 8 / 8), max pa (wideF rp f q.size g)⟩) := Lib.hid rfl
        have HSP : Hid ((f.isBits = true → begF rp (rk == 4) f q.size g ⟨pb, ps, pa⟩ = bitAt (if (rk == 4) = true then 0 else pb) (8 * q.size) f.width ∧ numF f g = f.width ∧ spotF rp (rk == 4) f q.size q.kind g ⟨pb, ps, pa⟩ = bitSp (bitAt (if (rk == 4) = true then 0 else pb) (8 * q.size) f.width) f.width) ∧
            (f.isBits = false → begF rp (rk == 4) f q.size g ⟨pb, ps, pa⟩ = 8 * upF (upF (if (rk == 4) = true then 0 else pb) 8 / 8) (wideF rp f q.size g) ∧ numF f g = 8 * g.1 ∧ spotF rp (rk == 4) f q.size q.kind g ⟨pb, ps, pa⟩ = ⟨upF (upF (if (rk == 4) = true then 0 else pb) 8 / 8) (wideF rp f q.size g), g.1, q.kind, false, 0, 0⟩)) := Lib.hid (by
          refine ⟨fun h => ?_, fun h => ?_⟩
          · have e : begF rp (rk == 4) f q.size g ⟨pb, ps, pa⟩ = bitAt (if (rk == 4) = true then 0 else pb) (8 * q.size) f.width := by unfold begF; rw [if_pos h]
            refine ⟨e, by unfold numF; rw [if_pos h], ?_⟩
            unfold spotF
            rw [if_pos h, e]
            rfl
          · have e : begF rp (rk == 4) f q.size g ⟨pb, ps, pa⟩ = 8 * upF (upF (if (rk == 4) = true then 0 else pb) 8 / 8) (wideF rp f q.size g) := by unfold begF; rw [if_neg (by simp [h])]
            refine ⟨e, by unfold numF; rw [if_neg (by simp [h])], ?_⟩
            unfold spotF
            rw [if_neg (by simp [h]), e]
            congr 1
            omega)
        rw [HST.out] at HK1
        clear HST
        generalize wideF rp f q.size g = V at *
        generalize begF rp (rk == 4) f q.size g ⟨pb, ps, pa⟩ = B at *
        generalize numF f g = N at *
        generalize spotF rp (rk == 4) f q.size q.kind g ⟨pb, ps, pa⟩ = S at *
        have hk31 : k ≤ 31 := by omega
        have hpb : pb ≤ 19200000 := by omega
        have hb2 : 0 ≤ B + N ∧ B + N ≤ 100000000 := by omega
        have hu2 := upF_bound (n := B + N) (s := 8) hb2.1 (by omega)
        have UP3 := Lib.hid (fun W => up_any (B + N) 8 hb2.1 (by omega) (by omega) (by omega) W)
        generalize upF (B + N) 8 = U2 at *
        have hU2b : 0 ≤ U2 ∧ U2 ≤ 100000010 := by omega
        have ht2 : Int.tdiv U2 8 = U2 / 8 := tdiv_eq hu2.1
        obtain ⟨ad, cp, hr1, hr2⟩ := HP.out.row
        have HRW := Lib.hid hr2
        have hgl : ∀ x, (Value.slice ad (spK (formF n) (tsize n) (tkind n) t k).length cp).ownBlock = some x → x < wr.heap.size := fun x hx => (hr2.lt x hx).2
        rw [hz0] at hr1
        clear hr2
        generalize spK (formF n) (tsize n) (tkind n) t k = sp at *
        have hg1 := hfo.g1
        have hfb := hfo.bits
        obtain ⟨qk, qs, qp, qfa, qfl, qfc, qc, qea, qel, qec⟩ := q
        obtain ⟨nm, ty, bt, wd⟩ := f
        obtain ⟨ga, gb⟩ := g
        unfold Raw.val at OFK WI
        unfold fdV at WI
        simp only at c0 c1 c2 c3 c4 c5 c6 c7 c8 OFK WI HSP hg1 hfb
        clear hF hfk hsf hfo HFK qz1 qz2 HF HT hBN hNN
        have hbz : ∀ z : Bool, Hid ((if z = true then (0 : Int) else pb) = if z = true then 0 else pb) := fun z => Lib.hid rfl
        have hL1 : Hid (∀ x : Nat, w.heap.size + 1 + 1 < wr.heap.size + 1 + x) := Lib.hid (fun x => by omega)
        have hL2 : Hid (∀ x : Nat, w.heap.size + 1 < wr.heap.size + 1 + x) := Lib.hid (fun x => by omega)
        have hL3 : Hid (∀ x : Nat, w.heap.size < wr.heap.size + 1 + x) := Lib.hid (fun x => by omega)
        have hL5 : Hid (∀ x : Nat, w.heap.size + 1 + 1 < wr.heap.size + 1 + x + 1) := Lib.hid (fun x => by omega)
        have hL6 : Hid (∀ x y : Nat, w.heap.size + 1 + 1 < wr.heap.size + 1 + x + 1 + y) := Lib.hid (fun x y => by omega)
        have lA4 : w.heap.size + 1 + 1 < wr.heap.size + 1 := by omega
        rcases hk with rfl | rfl
        · have hif : ∀ x : Int, (if (((3 : Int) == 4) = true) then (0 : Int) else x) = x := fun x => by simp
          cases bt with
          | true =>
            obtain ⟨rfl, rfl, hS⟩ := HSP.out.1 rfl
            have hfb2 := hfb rfl
            rw [hif] at hS HK1 UP3
            have hb3 := bitAt_bound (p := pb) (u := 8 * qs) (w := N) (by omega) (by omega)
            have BI := Lib.hid (fun W h => bits_any (⟨nm, ty, true, N⟩ : FdF (Ty n)) ⟨qk, qs, qp, qfa, qfl, qfc, qc, qea, qel, qec⟩ ⟨pb, ps, max pa V⟩ sp w0 W h hfb2.1 hfb2.2.1 hfb2.2.2 (show (0 : Int) ≤ pb by omega) (show pb ≤ (100000000 : Int) by omega) (by have := HSL.out; omega))
            unfold fdV at BI
            simp only [hz0] at BI
            subst hS
            clear HSP hfb hif hb3
            generalize bitAt pb (8 * qs) N = B at *
            go_upto_region 17 with (first
              | (go_at_call 42; refine (OFK.out _ (by repeat (first | exact Below.refl _ _ | refine below_mo ?_ _ | refine below_al ?_ _))).mono ?_; rintro e w1 ⟨rfl, pA, rfl⟩; have lA1 := hL1.out pA.os.size; have lA2 := hL2.out pA.os.size; have lA3 := hL3.out pA.os.size; have lA5 := hL5.out pA.os.size)
              | (go_at_call 46; refine (WI.out _).mono ?_; rintro e w2 ⟨rfl, pB, rfl⟩; have lB1 := hL6.out pA.os.size pB.os.size)
              | (go_at_call 47; refine (BI.out _ ?plw3).mono ?_; (repeat (first | with_reducible exact HP.out | with_reducible refine PlW.next (w' := World.drewN _ _) ?_ (below_dn (Below.refl _ _) _) | with_reducible refine PlW.next (w' := World.drew _) ?_ (below_dr (Below.refl _ _)) | with_reducible refine PlW.next (w' := World.alloc _ _) ?_ (below_al (Below.refl _ _) _) | with_reducible refine PlW.next (w' := more _ _) ?_ (more_below _ _) | with_reducible refine PlW.al (a := pa) hz0 ?_ _ | with_reducible refine PlW.bt (b := pb) hz0 ?_ _ | with_reducible refine PlW.sz (s := ps) hz0 ?_ _)); rintro e w5 ⟨rfl, hX⟩))
            have HX := Lib.hid hX
            have x0 := hX.c0
            have x3 := hX.c3
            have xl := hX.lt
            have xz0 := hX.z 0
            rw [hz0] at x0 x3 xl xz0
            simp only at x0 x3
            clear hX
            refine wp_tail_more 8 (by kernel_rfl) (by kernel_rfl) ?_
            simp only [List.take_succ_cons, List.take_zero, List.drop_succ_cons, List.drop_zero]
            repeat (go_big_quiet_step (first | (go_at_call 48; exact quiet_more (gives_same (UP3.out _)))))
            refine wpQuiet_nil ?_
            intro p8
            go_wp2_with fail
            go_roundw
            case rel =>
              refine ⟨k + 1, _, by omega, by go_num, HK1.out, ?_⟩
              rw [HK2.out]
              repeat (first | with_reducible exact HX.out | with_reducible refine PlW.next (w' := World.drewN _ _) ?_ (below_dn (Below.refl _ _) _) | with_reducible refine PlW.next (w' := World.drew _) ?_ (below_dr (Below.refl _ _)) | with_reducible refine PlW.next (w' := World.alloc _ _) ?_ (below_al (Below.refl _ _) _) | with_reducible refine PlW.next (w' := more _ _) ?_ (more_below _ _) | with_reducible refine PlW.al (a := pa) hz0 ?_ _ | with_reducible refine PlW.bt (b := pb) hz0 ?_ _ | with_reducible refine PlW.sz (s := ps) hz0 ?_ _)
            case measure => simp [intOf]; omega
          | false =>
            obtain ⟨rfl, rfl, hS⟩ := HSP.out.2 rfl
            rw [hif] at hS HK1 UP3 hb2
            have hu8 := upF_bound (n := pb) (s := 8) (by omega) (by omega)
            have UP1 := Lib.hid (fun W => up_any pb 8 (by omega) (by omega) (by omega) (by omega) W)
            generalize upF pb 8 = U8 at *
            have ht8 : Int.tdiv U8 8 = U8 / 8 := tdiv_eq hu8.1
            have UPA := Lib.hid (fun W => up_any (U8 / 8) V (by omega) (by omega) (by omega) (by omega) W)
            have huA := upF_bound (n := U8 / 8) (s := V) (by omega) (by omega)
            generalize upF (U8 / 8) V = A at *
            subst hS
            obtain ⟨i0, hi, hz0', hz1, hz2⟩ := info_parts spot_info
            clear HSP hfb hif
            go_upto_region 15 with (first
              | (go_at_call 42; refine (OFK.out _ (by repeat (first | exact Below.refl _ _ | refine below_mo ?_ _ | refine below_al ?_ _))).mono ?_; rintro e w1 ⟨rfl, pA, rfl⟩; have lA1 := hL1.out pA.os.size; have lA2 := hL2.out pA.os.size; have lA3 := hL3.out pA.os.size; have lA5 := hL5.out pA.os.size)
              | (go_at_call 46; refine (WI.out _).mono ?_; rintro e w2 ⟨rfl, pB, rfl⟩; have lB1 := hL6.out pA.os.size pB.os.size)
              | (go_at_call_of 48 (Value.int IntKind.i64 8); refine (UP1.out _).mono ?_; rintro e w3 ⟨rfl, rfl⟩)
              | (go_at_call_of 48 (Value.int IntKind.i64 V); refine (UPA.out _).mono ?_; rintro e w4 ⟨rfl, rfl⟩))
            refine wp_letter (R := fun W => PlW w0 W ⟨pb, ps, max pa V⟩ sp ∧ W.cell? ⟨w.heap.size + 1 + 1, 2, none⟩ = some (.slice ad sp.length cp) ∧ W.ownsRow (w0.heap.size + 1) 42 6 (.slice ad sp.length cp) sp.length (sp.flatMap Sp.cs) ∧ W.cell? ⟨wr.heap.size, 1, none⟩ = some (.int .i64 qk) ∧ W.cell? ⟨wr.heap.size + 1 + pA.os.size, 0, none⟩ = some (.int .i64 ga)) ?letB3 ?_
            case letB3 =>
              refine ⟨?_, by simp [go_sem, ↓IntWalk.iteOmega, cell_upd2, hr1], ?_, by simp [go_sem, ↓IntWalk.iteOmega, cell_upd2], by simp [go_sem, ↓IntWalk.iteOmega, cell_upd2]⟩
              · repeat (first | with_reducible exact HP.out | with_reducible refine PlW.next (w' := World.drewN _ _) ?_ (below_dn (Below.refl _ _) _) | with_reducible refine PlW.next (w' := World.drew _) ?_ (below_dr (Below.refl _ _)) | with_reducible refine PlW.next (w' := World.alloc _ _) ?_ (below_al (Below.refl _ _) _) | with_reducible refine PlW.next (w' := more _ _) ?_ (more_below _ _) | with_reducible refine PlW.al (a := pa) hz0 ?_ _ | with_reducible refine PlW.bt (b := pb) hz0 ?_ _ | with_reducible refine PlW.sz (s := ps) hz0 ?_ _)
              · repeat (first | with_reducible exact HRW.out | with_reducible refine World.ownsRow.alloc ?_ _ | with_reducible refine ownsRow_dn ?_ _ | with_reducible refine ownsRow_mo ?_ _ | with_reducible refine ownsRow_st2 hz0 ?_ _)
            rintro wA ⟨hA, a1, hA2, a3, a4⟩
            have HA := Lib.hid hA
            have HO := Lib.hid hA2
            have hlA := hA.lt
            have x1 := hA.z 2
            have x3 := hA.z 3
            have x4 := hA.z 0
            rw [hz0] at x1 x3 x4
            have hne : ∀ a : Nat, a ≤ w.heap.size + 1 + 1 ∨ wr.heap.size ≤ a → some a ≠ (Value.slice ad sp.length cp).ownBlock := fun a ha e => by
              have h1 := (hA2.lt a e.symm).1
              have h2 := hgl a e.symm
              omega
            have hlB : wr.heap.size < wA.heap.size := cell_lt2 a3
            have hlC : wr.heap.size + 1 + pA.os.size < wA.heap.size := cell_lt2 a4
            have hlD : w.heap.size + 1 + 1 < wA.heap.size := by omega
            clear hA hA2
            have hbs : w0.heap.size + 1 ≤ wA.heap.size + 1 := by omega
            have HZ := Lib.hid hz0
            clear hz0
            go_wp2_with (at_builtin; refine wpList_append_lies _ rfl _ _ 36 rfl (w0.heap.size + 1) 42 i0 (.agg #[.int .i64 0, .int .i64 0, .int .i64 0, .bool false, .int .i64 0, .int .i64 0]) 6 48 Try.underlying36 hi hz0' hz1 hz2 rfl (by decide) (.slice ad sp.length cp) sp.length (sp.flatMap Sp.cs) (by rfl) (HO.out.alloc _) ⟨wA.heap.size, 0, none⟩ 1 1 [.int .i64 A, .int .i64 ga, .int .i64 qk, .bool false, .int .i64 0, .int .i64 0] (by rfl) (by rfl) (World.news_of_block (cs := #[.int .i64 A, .int .i64 ga, .int .i64 qk, .bool false, .int .i64 0, .int .i64 0]) (t := 42) (fr := (0, 0)) (heap_alloc_new wA _)) (by simp [Value.oneCell']) (by omega) (by have := HSL.out; unfold maxLen; omega) (by have := HSL.out; omega) (by simpa using hbs) (wA.heap.size + 1) (by simp) ?_)
            intro gg cap w6 hown6 hgrow hat hlt6
            have hz0 := HZ.out
            have HP6 : Hid (PlW w0 (w6.setCell ⟨w0.heap.size, 2, none⟩ (.slice (some ⟨gg, 0, none⟩) (sp.length + 1) cap)) ⟨pb, ps, max pa V⟩ (sp ++ [⟨A, ga, qk, false, 0, 0⟩])) := Lib.hid (PlW.push (HA.out.next (below_al (Below.refl _ _) _)) (by rw [hz0]; simp [go_sem, ↓IntWalk.iteOmega, a1]) (HO.out.alloc _) hown6 hgrow)
            rw [hz0] at HP6
            have y2 : w6.cell? ⟨w.heap.size + 1 + 1, 2, none⟩ = some (.slice ad sp.length cp) := (hgrow.cell_far ⟨w.heap.size + 1 + 1, 2, none⟩ (by simp; omega) (hne (w.heap.size + 1 + 1) (by omega))).trans (by simp [go_sem, ↓IntWalk.iteOmega, a1])
            have yz2 : w6.frozen? ⟨w.heap.size + 1 + 1, 2, none⟩ = false := (hgrow.frozen_far ⟨w.heap.size + 1 + 1, 2, none⟩ (by simp; omega) (hne (w.heap.size + 1 + 1) (by omega))).trans (by simp [go_sem, ↓IntWalk.iteOmega, x1])
            have yz3 : w6.frozen? ⟨w.heap.size + 1 + 1, 3, none⟩ = false := (hgrow.frozen_far ⟨w.heap.size + 1 + 1, 3, none⟩ (by simp; omega) (hne (w.heap.size + 1 + 1) (by omega))).trans (by simp [go_sem, ↓IntWalk.iteOmega, x3])
            have y3 : ∃ v, w6.cell? ⟨w.heap.size + 1 + 1, 3, none⟩ = some v := ⟨_, (hgrow.cell_far ⟨w.heap.size + 1 + 1, 3, none⟩ (by simp; omega) (hne (w.heap.size + 1 + 1) (by omega))).trans (by have := HA.out.c3; rw [hz0] at this; simp [go_sem, ↓IntWalk.iteOmega, this]; rfl)⟩
            obtain ⟨y3v, y3⟩ := y3
            have y4 : w6.cell? ⟨wr.heap.size + 1 + pA.os.size, 0, none⟩ = some (.int .i64 ga) := (hgrow.cell_far ⟨wr.heap.size + 1 + pA.os.size, 0, none⟩ (by simp; omega) (hne (wr.heap.size + 1 + pA.os.size) (by omega))).trans (by simp [go_sem, ↓IntWalk.iteOmega, a4])
            have ygs := hgrow.size
            simp only [World.size_alloc] at ygs
            have yl : w.heap.size + 1 + 1 < w6.heap.size := cell_lt2 y2
            have yl4 : wr.heap.size + 1 + pA.os.size < w6.heap.size := cell_lt2 y4
            have hyne : ¬ (w.heap.size + 1 + 1 = wr.heap.size + 1 + pA.os.size) := by omega
            clear hgrow hown6 hat hlt6 HA HO hne a1 a3 a4 x1 x3 x4
            go_upto_region 17 with fail
            refine wp_letter (R := fun W => PlW w0 W ⟨8 * A + 8 * ga, ps, max pa V⟩ (sp ++ [⟨A, ga, qk, false, 0, 0⟩])) ?letC3 ?_
            case letC3 =>
              rw [← Int.mul_add]
              repeat (first | with_reducible exact HP6.out | with_reducible refine PlW.next (w' := World.drewN _ _) ?_ (below_dn (Below.refl _ _) _) | with_reducible refine PlW.next (w' := World.drew _) ?_ (below_dr (Below.refl _ _)) | with_reducible refine PlW.next (w' := World.alloc _ _) ?_ (below_al (Below.refl _ _) _) | with_reducible refine PlW.next (w' := more _ _) ?_ (more_below _ _) | with_reducible refine PlW.al (a := pa) hz0 ?_ _ | with_reducible refine PlW.bt (b := pb) hz0 ?_ _ | with_reducible refine PlW.sz (s := ps) hz0 ?_ _)
            rintro w7 hX
            have HX := Lib.hid hX
            have x0 := hX.c0
            have x3 := hX.c3
            have xl := hX.lt
            have xz0 := hX.z 0
            rw [hz0] at x0 x3 xl xz0
            simp only at x0 x3
            clear hX
            refine wp_tail_more 8 (by kernel_rfl) (by kernel_rfl) ?_
            simp only [List.take_succ_cons, List.take_zero, List.drop_succ_cons, List.drop_zero]
            repeat (go_big_quiet_step (first | (go_at_call 48; exact quiet_more (gives_same (UP3.out _)))))
            refine wpQuiet_nil ?_
            intro p8
            go_wp2_with fail
            go_roundw
            case rel =>
              refine ⟨k + 1, _, by omega, by go_num, HK1.out, ?_⟩
              rw [HK2.out]
              repeat (first | with_reducible exact HX.out | with_reducible refine PlW.next (w' := World.drewN _ _) ?_ (below_dn (Below.refl _ _) _) | with_reducible refine PlW.next (w' := World.drew _) ?_ (below_dr (Below.refl _ _)) | with_reducible refine PlW.next (w' := World.alloc _ _) ?_ (below_al (Below.refl _ _) _) | with_reducible refine PlW.next (w' := more _ _) ?_ (more_below _ _) | with_reducible refine PlW.al (a := pa) hz0 ?_ _ | with_reducible refine PlW.bt (b := pb) hz0 ?_ _ | with_reducible refine PlW.sz (s := ps) hz0 ?_ _)
            case measure => simp [intOf]; omega
        · have hif : ∀ x : Int, (if (((4 : Int) == 4) = true) then (0 : Int) else x) = 0 := fun x => by simp
          cases bt with
          | true =>
            obtain ⟨rfl, rfl, hS⟩ := HSP.out.1 rfl
            have hfb2 := hfb rfl
            rw [hif] at hS HK1 UP3
            have hb3 := bitAt_bound (p := (0 : Int)) (u := 8 * qs) (w := N) (by omega) (by omega)
            have BI := Lib.hid (fun W h => bits_any (⟨nm, ty, true, N⟩ : FdF (Ty n)) ⟨qk, qs, qp, qfa, qfl, qfc, qc, qea, qel, qec⟩ ⟨(0 : Int), ps, max pa V⟩ sp w0 W h hfb2.1 hfb2.2.1 hfb2.2.2 (show (0 : Int) ≤ (0 : Int) by omega) (show (0 : Int) ≤ (100000000 : Int) by omega) (by have := HSL.out; omega))
            unfold fdV at BI
            simp only [hz0] at BI
            subst hS
            clear HSP hfb hif hb3
            generalize bitAt (0 : Int) (8 * qs) N = B at *
            go_upto_region 17 with (first
              | (go_at_call 42; refine (OFK.out _ (by repeat (first | exact Below.refl _ _ | refine below_mo ?_ _ | refine below_al ?_ _))).mono ?_; rintro e w1 ⟨rfl, pA, rfl⟩; have lA1 := hL1.out pA.os.size; have lA2 := hL2.out pA.os.size; have lA3 := hL3.out pA.os.size; have lA5 := hL5.out pA.os.size)
              | (go_at_call 46; refine (WI.out _).mono ?_; rintro e w2 ⟨rfl, pB, rfl⟩; have lB1 := hL6.out pA.os.size pB.os.size)
              | (go_at_call 47; refine (BI.out _ ?plw4).mono ?_; (repeat (first | with_reducible exact HP.out | with_reducible refine PlW.next (w' := World.drewN _ _) ?_ (below_dn (Below.refl _ _) _) | with_reducible refine PlW.next (w' := World.drew _) ?_ (below_dr (Below.refl _ _)) | with_reducible refine PlW.next (w' := World.alloc _ _) ?_ (below_al (Below.refl _ _) _) | with_reducible refine PlW.next (w' := more _ _) ?_ (more_below _ _) | with_reducible refine PlW.al (a := pa) hz0 ?_ _ | with_reducible refine PlW.bt (b := pb) hz0 ?_ _ | with_reducible refine PlW.sz (s := ps) hz0 ?_ _)); rintro e w5 ⟨rfl, hX⟩))
            have HX := Lib.hid hX
            have x0 := hX.c0
            have x3 := hX.c3
            have xl := hX.lt
            have xz0 := hX.z 0
            rw [hz0] at x0 x3 xl xz0
            simp only at x0 x3
            clear hX
            refine wp_tail_more 8 (by kernel_rfl) (by kernel_rfl) ?_
            simp only [List.take_succ_cons, List.take_zero, List.drop_succ_cons, List.drop_zero]
            repeat (go_big_quiet_step (first | (go_at_call 48; exact quiet_more (gives_same (UP3.out _)))))
            refine wpQuiet_nil ?_
            intro p8
            go_wp2_with fail
            go_roundw
            case rel =>
              refine ⟨k + 1, _, by omega, by go_num, HK1.out, ?_⟩
              rw [HK2.out]
              repeat (first | with_reducible exact HX.out | with_reducible refine PlW.next (w' := World.drewN _ _) ?_ (below_dn (Below.refl _ _) _) | with_reducible refine PlW.next (w' := World.drew _) ?_ (below_dr (Below.refl _ _)) | with_reducible refine PlW.next (w' := World.alloc _ _) ?_ (below_al (Below.refl _ _) _) | with_reducible refine PlW.next (w' := more _ _) ?_ (more_below _ _) | with_reducible refine PlW.al (a := pa) hz0 ?_ _ | with_reducible refine PlW.bt (b := pb) hz0 ?_ _ | with_reducible refine PlW.sz (s := ps) hz0 ?_ _)
            case measure => simp [intOf]; omega
          | false =>
            obtain ⟨rfl, rfl, hS⟩ := HSP.out.2 rfl
            rw [hif] at hS HK1 UP3 hb2
            have hu8 := upF_bound (n := (0 : Int)) (s := 8) (by omega) (by omega)
            have UP1 := Lib.hid (fun W => up_any (0 : Int) 8 (by omega) (by omega) (by omega) (by omega) W)
            generalize upF (0 : Int) 8 = U8 at *
            have ht8 : Int.tdiv U8 8 = U8 / 8 := tdiv_eq hu8.1
            have UPA := Lib.hid (fun W => up_any (U8 / 8) V (by omega) (by omega) (by omega) (by omega) W)
            have huA := upF_bound (n := U8 / 8) (s := V) (by omega) (by omega)
            generalize upF (U8 / 8) V = A at *
            subst hS
            obtain ⟨i0, hi, hz0', hz1, hz2⟩ := info_parts spot_info
            clear HSP hfb hif
            go_upto_region 15 with (first
              | (go_at_call 42; refine (OFK.out _ (by repeat (first | exact Below.refl _ _ | refine below_mo ?_ _ | refine below_al ?_ _))).mono ?_; rintro e w1 ⟨rfl, pA, rfl⟩; have lA1 := hL1.out pA.os.size; have lA2 := hL2.out pA.os.size; have lA3 := hL3.out pA.os.size; have lA5 := hL5.out pA.os.size)
              | (go_at_call 46; refine (WI.out _).mono ?_; rintro e w2 ⟨rfl, pB, rfl⟩; have lB1 := hL6.out pA.os.size pB.os.size)
              | (go_at_call_of 48 (Value.int IntKind.i64 8); refine (UP1.out _).mono ?_; rintro e w3 ⟨rfl, rfl⟩)
              | (go_at_call_of 48 (Value.int IntKind.i64 V); refine (UPA.out _).mono ?_; rintro e w4 ⟨rfl, rfl⟩))
            refine wp_letter (R := fun W => PlW w0 W ⟨(0 : Int), ps, max pa V⟩ sp ∧ W.cell? ⟨w.heap.size + 1 + 1, 2, none⟩ = some (.slice ad sp.length cp) ∧ W.ownsRow (w0.heap.size + 1) 42 6 (.slice ad sp.length cp) sp.length (sp.flatMap Sp.cs) ∧ W.cell? ⟨wr.heap.size, 1, none⟩ = some (.int .i64 qk) ∧ W.cell? ⟨wr.heap.size + 1 + pA.os.size, 0, none⟩ = some (.int .i64 ga)) ?letB4 ?_
            case letB4 =>
              refine ⟨?_, by simp [go_sem, ↓IntWalk.iteOmega, cell_upd2, hr1], ?_, by simp [go_sem, ↓IntWalk.iteOmega, cell_upd2], by simp [go_sem, ↓IntWalk.iteOmega, cell_upd2]⟩
              · repeat (first | with_reducible exact HP.out | with_reducible refine PlW.next (w' := World.drewN _ _) ?_ (below_dn (Below.refl _ _) _) | with_reducible refine PlW.next (w' := World.drew _) ?_ (below_dr (Below.refl _ _)) | with_reducible refine PlW.next (w' := World.alloc _ _) ?_ (below_al (Below.refl _ _) _) | with_reducible refine PlW.next (w' := more _ _) ?_ (more_below _ _) | with_reducible refine PlW.al (a := pa) hz0 ?_ _ | with_reducible refine PlW.bt (b := pb) hz0 ?_ _ | with_reducible refine PlW.sz (s := ps) hz0 ?_ _)
              · repeat (first | with_reducible exact HRW.out | with_reducible refine World.ownsRow.alloc ?_ _ | with_reducible refine ownsRow_dn ?_ _ | with_reducible refine ownsRow_mo ?_ _ | with_reducible refine ownsRow_st2 hz0 ?_ _)
            rintro wA ⟨hA, a1, hA2, a3, a4⟩
            have HA := Lib.hid hA
            have HO := Lib.hid hA2
            have hlA := hA.lt
            have x1 := hA.z 2
            have x3 := hA.z 3
            have x4 := hA.z 0
            rw [hz0] at x1 x3 x4
            have hne : ∀ a : Nat, a ≤ w.heap.size + 1 + 1 ∨ wr.heap.size ≤ a → some a ≠ (Value.slice ad sp.length cp).ownBlock := fun a ha e => by
              have h1 := (hA2.lt a e.symm).1
              have h2 := hgl a e.symm
              omega
            have hlB : wr.heap.size < wA.heap.size := cell_lt2 a3
            have hlC : wr.heap.size + 1 + pA.os.size < wA.heap.size := cell_lt2 a4
            have hlD : w.heap.size + 1 + 1 < wA.heap.size := by omega
            clear hA hA2
            have hbs : w0.heap.size + 1 ≤ wA.heap.size + 1 := by omega
            have HZ := Lib.hid hz0
            clear hz0
            go_wp2_with (at_builtin; refine wpList_append_lies _ rfl _ _ 36 rfl (w0.heap.size + 1) 42 i0 (.agg #[.int .i64 0, .int .i64 0, .int .i64 0, .bool false, .int .i64 0, .int .i64 0]) 6 48 Try.underlying36 hi hz0' hz1 hz2 rfl (by decide) (.slice ad sp.length cp) sp.length (sp.flatMap Sp.cs) (by rfl) (HO.out.alloc _) ⟨wA.heap.size, 0, none⟩ 1 1 [.int .i64 A, .int .i64 ga, .int .i64 qk, .bool false, .int .i64 0, .int .i64 0] (by rfl) (by rfl) (World.news_of_block (cs := #[.int .i64 A, .int .i64 ga, .int .i64 qk, .bool false, .int .i64 0, .int .i64 0]) (t := 42) (fr := (0, 0)) (heap_alloc_new wA _)) (by simp [Value.oneCell']) (by omega) (by have := HSL.out; unfold maxLen; omega) (by have := HSL.out; omega) (by simpa using hbs) (wA.heap.size + 1) (by simp) ?_)
            intro gg cap w6 hown6 hgrow hat hlt6
            have hz0 := HZ.out
            have HP6 : Hid (PlW w0 (w6.setCell ⟨w0.heap.size, 2, none⟩ (.slice (some ⟨gg, 0, none⟩) (sp.length + 1) cap)) ⟨(0 : Int), ps, max pa V⟩ (sp ++ [⟨A, ga, qk, false, 0, 0⟩])) := Lib.hid (PlW.push (HA.out.next (below_al (Below.refl _ _) _)) (by rw [hz0]; simp [go_sem, ↓IntWalk.iteOmega, a1]) (HO.out.alloc _) hown6 hgrow)
            rw [hz0] at HP6
            have y2 : w6.cell? ⟨w.heap.size + 1 + 1, 2, none⟩ = some (.slice ad sp.length cp) := (hgrow.cell_far ⟨w.heap.size + 1 + 1, 2, none⟩ (by simp; omega) (hne (w.heap.size + 1 + 1) (by omega))).trans (by simp [go_sem, ↓IntWalk.iteOmega, a1])
            have yz2 : w6.frozen? ⟨w.heap.size + 1 + 1, 2, none⟩ = false := (hgrow.frozen_far ⟨w.heap.size + 1 + 1, 2, none⟩ (by simp; omega) (hne (w.heap.size + 1 + 1) (by omega))).trans (by simp [go_sem, ↓IntWalk.iteOmega, x1])
            have yz3 : w6.frozen? ⟨w.heap.size + 1 + 1, 3, none⟩ = false := (hgrow.frozen_far ⟨w.heap.size + 1 + 1, 3, none⟩ (by simp; omega) (hne (w.heap.size + 1 + 1) (by omega))).trans (by simp [go_sem, ↓IntWalk.iteOmega, x3])
            have y3 : ∃ v, w6.cell? ⟨w.heap.size + 1 + 1, 3, none⟩ = some v := ⟨_, (hgrow.cell_far ⟨w.heap.size + 1 + 1, 3, none⟩ (by simp; omega) (hne (w.heap.size + 1 + 1) (by omega))).trans (by have := HA.out.c3; rw [hz0] at this; simp [go_sem, ↓IntWalk.iteOmega, this]; rfl)⟩
            obtain ⟨y3v, y3⟩ := y3
            have y4 : w6.cell? ⟨wr.heap.size + 1 + pA.os.size, 0, none⟩ = some (.int .i64 ga) := (hgrow.cell_far ⟨wr.heap.size + 1 + pA.os.size, 0, none⟩ (by simp; omega) (hne (wr.heap.size + 1 + pA.os.size) (by omega))).trans (by simp [go_sem, ↓IntWalk.iteOmega, a4])
            have ygs := hgrow.size
            simp only [World.size_alloc] at ygs
            have yl : w.heap.size + 1 + 1 < w6.heap.size := cell_lt2 y2
            have yl4 : wr.heap.size + 1 + pA.os.size < w6.heap.size := cell_lt2 y4
            have hyne : ¬ (w.heap.size + 1 + 1 = wr.heap.size + 1 + pA.os.size) := by omega
            clear hgrow hown6 hat hlt6 HA HO hne a1 a3 a4 x1 x3 x4
            go_upto_region 17 with fail
            refine wp_letter (R := fun W => PlW w0 W ⟨8 * A + 8 * ga, ps, max pa V⟩ (sp ++ [⟨A, ga, qk, false, 0, 0⟩])) ?letC4 ?_
            case letC4 =>
              rw [← Int.mul_add]
              repeat (first | with_reducible exact HP6.out | with_reducible refine PlW.next (w' := World.drewN _ _) ?_ (below_dn (Below.refl _ _) _) | with_reducible refine PlW.next (w' := World.drew _) ?_ (below_dr (Below.refl _ _)) | with_reducible refine PlW.next (w' := World.alloc _ _) ?_ (below_al (Below.refl _ _) _) | with_reducible refine PlW.next (w' := more _ _) ?_ (more_below _ _) | with_reducible refine PlW.al (a := pa) hz0 ?_ _ | with_reducible refine PlW.bt (b := (0 : Int)) hz0 ?_ _ | with_reducible refine PlW.sz (s := ps) hz0 ?_ _)
            rintro w7 hX
            have HX := Lib.hid hX
            have x0 := hX.c0
            have x3 := hX.c3
            have xl := hX.lt
            have xz0 := hX.z 0
            rw [hz0] at x0 x3 xl xz0
            simp only at x0 x3
            clear hX
            refine wp_tail_more 8 (by kernel_rfl) (by kernel_rfl) ?_
            simp only [List.take_succ_cons, List.take_zero, List.drop_succ_cons, List.drop_zero]
            repeat (go_big_quiet_step (first | (go_at_call 48; exact quiet_more (gives_same (UP3.out _)))))
            refine wpQuiet_nil ?_
            intro p8
            go_wp2_with fail
            go_roundw
            case rel =>
              refine ⟨k + 1, _, by omega, by go_num, HK1.out, ?_⟩
              rw [HK2.out]
              repeat (first | with_reducible exact HX.out | with_reducible refine PlW.next (w' := World.drewN _ _) ?_ (below_dn (Below.refl _ _) _) | with_reducible refine PlW.next (w' := World.drew _) ?_ (below_dr (Below.refl _ _)) | with_reducible refine PlW.next (w' := World.alloc _ _) ?_ (below_al (Below.refl _ _) _) | with_reducible refine PlW.next (w' := more _ _) ?_ (more_below _ _) | with_reducible refine PlW.al (a := pa) hz0 ?_ _ | with_reducible refine PlW.bt (b := pb) hz0 ?_ _ | with_reducible refine PlW.sz (s := ps) hz0 ?_ _)
            case measure => simp [intOf]; omega
    · have hkf : k = fl := by omega
      subst hkf
      have hup := upF_bound (n := ps) (s := pa) (by omega) (by omega)
      have UPZ := Lib.hid (fun W => up_any ps pa (by omega) (by omega) (by omega) (by omega) W)
      have HFN : Hid (∀ q, plK (formF n) (tsize n) t k = some q → q = ⟨pb, ps, pa⟩) := Lib.hid (fun q hq => by
        rw [HPK.out] at hq
        exact (Option.some.inj hq).symm)
      have HNN : Hid (plK (formF n) (tsize n) t k ≠ none) := Lib.hid (fun h => by have := HPK.out; rw [h] at this; cases this)
      obtain ⟨ad, cp, hr1, hr2⟩ := HP.out.row
      have HRW := Lib.hid hr2
      rw [hz0] at hr1
      clear hr2
      generalize hUU : upF ps pa = U at *
      have HUU := Lib.hid hUU
      clear hUU HF HT FOK PLO SND KD OF HPK
      go_wp2_with (first | (go_at_call 48; refine (UPZ.out _).mono ?_; rintro e w3 ⟨rfl, rfl⟩))
      go_region
      all_goals try go_wp2_with fail
      all_goals
        refine bodyPost_ret (v := .tuple #[.agg #[.int .i64 U, .int .i64 pa, .slice ad (spK (formF n) (tsize n) (tkind n) t k).length cp, .int .i64 pb], .bool (decide (U ≤ 65536))]) ?hresB rfl ?postB
        case hresB =>
          refine ret_ct (cs := [.int .i64 U, .int .i64 pa, .slice ad (spK (formF n) (tsize n) (tkind n) t k).length cp, .int .i64 pb]) (t := 3) (c := 2) rfl rfl ?hslB Try.underlying88 rfl (by kernel_rfl) (range4 ?_ ?_ ?_ ?_)
          case hslB => first | rfl | (simp; omega)
          all_goals simp [go_sem, ↓IntWalk.iteOmega, cell_upd2, r0, r1, r2, r3]
        case postB =>
          refine ⟨⟨U, pa, pb, ad, _, cp, decide (U ≤ 65536), rfl, fun h => ?_, fun q hq => ?_⟩, more_of_below ?_⟩
          · exact absurd h HNN.out
          · obtain rfl := HFN.out q hq
            refine ⟨by rw [HUU.out], HUU.out.symm, rfl, rfl, ?_⟩
            refine ownsRow_base (B := w0.heap.size + 1) (by omega) ?_
            repeat (first | with_reducible exact HRW.out | with_reducible refine World.ownsRow.drew ?_ | with_reducible refine ownsRow_stb (by omega) ?_ _)
          · repeat (first | with_reducible exact HBW.out | with_reducible refine below_mo ?_ _ | with_reducible refine below_al ?_ _ | with_reducible refine below_dr ?_ | with_reducible refine below_st ?_ (by simp <;> omega) _)
end Go.Proofs.Ytlbkloamabomcaa
