/- Walk: the locations of any type: the program's Locations. Conditions: the type lies in memory. Walk: the fixed fact of the statements on layout. No condition. -/
import Derived.Test.YtlbkloamabomcaaLayFindT
import Derived.Test.YtlbkloamabomcaaLayCheck
namespace Go.Proofs.Ytlbkloamabomcaa
open Go.RowKit Go.Sort
set_option linter.unusedVariables false
set_option linter.unusedSimpArgs false
theorem find_any : ∀ (n : Nat) (t : Ty n), FindOk n t
  | 0, t => nomatch t
  | n + 1, (t : TyF (Ty n)) => by
    intro r wT w P v L full F at_ g hs
    have IH := find_any n
    rcases sound_cases n t hs with ⟨hk, _⟩ | ⟨hk, _, _, _, c0, c1, e, he, hs2⟩ | ⟨hk, _⟩
    · exact find_num n t hk r wT w P v L full F at_ g hs
    · exact find_arr n IH t hk e he hs2 ⟨c0, c1⟩ r wT w P v L full F at_ g hs
    · exact find_group n t hk (fields_grp n IH t hk) r wT w P v L full F at_ g hs
/-- what Locations gives back: C: what the check says; M: what is found. -/
def LocC (w : World) (C : Int) (M : List (Int × Int)) (e : Ending) (w' : World) : Prop :=
  (∃ (ad : Option Addr) (l c : Nat) (err : Int), e = .returned (.tuple #[.slice ad l c, .int .i64 err]) ∧ (C ≠ 0 → err = C ∧ ad = none ∧ l = 0 ∧ c = 0) ∧
    (C = 0 → (err = 12 ∧ (ad = none ∧ l = 0 ∧ c = 0) ∧ ∃ Z : List (Int × Int), Strict Z ∧ (∀ x, x ∈ Z → x ∈ M) ∧ 4096 < Z.length) ∨
      (err = 0 ∧ ∃ Z : List (Int × Int), Strict Z ∧ (∀ x, x ∈ Z ↔ x ∈ M) ∧ Z.length ≤ 4096 ∧ l = Z.length ∧ w'.ownsRow w.heap.size 40 2 (.slice ad l c) l (Z.flatMap spnC)))) ∧ ∃ p : Regrown, w' = more w p
set_option maxRecDepth 100000 in
set_option maxHeartbeats 3200000 in
theorem Locations_any (n : Nat) (t : Ty n) (r : Raw) (w : World) (hT : TyAt w n t r) : Calls Try.prog 20 #[r.val] w (LocC w (checkF n t) (marksF n t 0)) := by
  have C := Lib.hid (fun W (hW : Below w.heap.size w W) => check_any n t r W (hT.below hW))
  have FD := Lib.hid (fun (h : checkF n t = 0) W P v (hW : Below w.heap.size w W) (hP : w.heap.size ≤ P) (hb : Bk W P w.heap.size v [] false) => by
    obtain ⟨_, hs, _, g, hg, _⟩ := checkF_zero h
    have h9 := form_ok n t hs g hg
    exact find_any n t r w W P v [] false [] 0 g hs hg (by omega) (by omega) hT hW hP hb ⟨Inv.start, by simp, by simp⟩)
  have TD := Lib.hid (fun W P v L full (hW : Bk W P w.heap.size v L full) (hl : L.length ≤ 8193) => tidy_any W hW (by omega))
  clear hT
  obtain ⟨rk, rs, rp, fa, fl, fc, rc, ea, el, ec⟩ := r
  unfold Raw.val at *
  simp only [List.nil_append] at *
  generalize checkF n t = E at *
  generalize marksF n t 0 = M at *
  generalize formOf n t = G at *
  obtain ⟨ga, gb⟩ := G
  simp only at *
  by_cases hE : E = 0
  · subst hE
    replace FD := Lib.hid (FD.out rfl)
    go_enter Try.func20, Try.ntmps20
    go_upto_region 5 with (go_at_call 29; refine (C.out _ (by repeat (first | exact Below.refl _ _ | refine below_mo ?_ _ | refine below_al ?_ _))).mono ?_; rintro e w1 ⟨rfl, pA, rfl⟩)
    refine wp_letter (R := fun W => Bk W (w.heap.size + 1 + pA.os.size + 1) w.heap.size (.slice none 0 0) [] false ∧ Below w.heap.size w W ∧ W.cell? ⟨w.heap.size, 0, none⟩ = some (.int .i64 rk) ∧ W.cell? ⟨w.heap.size, 1, none⟩ = some (.int .i64 rs) ∧ W.cell? ⟨w.heap.size, 2, none⟩ = some (.bool rp) ∧ W.cell? ⟨w.heap.size, 3, none⟩ = some (.slice fa fl fc) ∧ W.cell? ⟨w.heap.size, 4, none⟩ = some (.int .i64 rc) ∧ W.cell? ⟨w.heap.size, 5, none⟩ = some (.slice ea el ec)) ?letA ?_
    case letA =>
      refine ⟨⟨⟨none, 0, rfl⟩, by simp [go_sem, ↓IntWalk.iteOmega], by simp [go_sem, ↓IntWalk.iteOmega], World.ownsRow_nil _ _ _ _, by simp [Value.ownBlock], fun k => by simp [go_sem, ↓IntWalk.iteOmega]⟩, ?_, ?_, ?_, ?_, ?_, ?_, ?_⟩
      all_goals try (simp [go_sem, ↓IntWalk.iteOmega]; done)
      all_goals repeat (first | with_reducible exact Below.refl _ _ | with_reducible refine below_mo ?_ _ | with_reducible refine below_al ?_ _)
    rintro wA ⟨hA, hB, y0, y1, y2, y3, y4, y5⟩
    have hP : w.heap.size ≤ w.heap.size + 1 + pA.os.size + 1 := by omega
    generalize w.heap.size + 1 + pA.os.size + 1 = P at *
    have FW := Lib.hid (FD.out wA P _ hB hP hA)
    have HA := Lib.hid hA
    have HB := Lib.hid hB
    have hlA := hA.lt
    clear hA hB
    go_wp2_with (first
      | (go_at_call 33; refine FW.out.mono ?_; rintro e w1 ⟨rfl, v1, L1, f1, q1, q2, q3, q4⟩; have hl1 := q1.lt; have Q1 := Lib.hid q1; have Q2 := Lib.hid q2; have Q3 := Lib.hid q3; have Q4 := Lib.hid q4; clear q1 q2 q3 q4)
      | (go_at_call 34; refine (TD.out _ _ _ _ _ Q1.out Q2.out.2.1).mono ?_; rintro e w2 ⟨rfl, v2, L2, f2, k1, ⟨k2, k3, k4, k5⟩, k6, k7⟩; obtain ⟨a2, c2, rfl⟩ := k1.val; have hl2 := k1.lt; have x0 := k1.c0; have x1 := k1.c1; have K1 := Lib.hid k1; have K2 := Lib.hid k2; have K3 := Lib.hid k3; have K4 := Lib.hid k4; have K5 := Lib.hid k5; have K6 := Lib.hid k6; have K7 := Lib.hid k7; clear k1 k2 k3 k4 k5 k6 k7))
    all_goals
      rename_i hf2
      have hbw : Below w.heap.size w w2 := HB.out.trans ((Q3.out.trans Q4.out K6.out).below (B := w.heap.size) HB.out.size hP (fun g hg => by cases hg))
      have hinv : Inv L2 f2 M := by rw [K5.out]; exact Q2.out.1.tidy K3.out K2.out
    · subst hf2
      go_returns
      exact ⟨⟨none, 0, 0, 12, rfl, fun h => absurd rfl h, fun _ => .inl ⟨rfl, ⟨rfl, rfl, rfl⟩, hinv.2.2 rfl⟩⟩, more_of_below hbw⟩
    · subst hf2
      have h5 := K5.out
      have hle : L2.length ≤ 4096 := by
        rcases Nat.lt_or_ge 4096 L2.length with h | h
        · simp [h] at h5
        · exact h
      go_returns
      exact ⟨⟨a2, L2.length, c2, 0, rfl, fun h => absurd rfl h, fun _ => .inr ⟨rfl, L2, K2.out, fun x => ⟨hinv.1 x, hinv.2.1 rfl x⟩, hle, rfl, K1.out.row⟩⟩, more_of_below hbw⟩
  · go_enter Try.func20, Try.ntmps20
    go_wp2_with (go_at_call 29; refine (C.out _ (by repeat (first | exact Below.refl _ _ | refine below_mo ?_ _ | refine below_al ?_ _))).mono ?_; rintro e w1 ⟨rfl, pA, rfl⟩)
    go_returns
    refine ⟨⟨none, 0, 0, E, rfl, fun _ => ⟨rfl, rfl, rfl, rfl⟩, fun h => absurd h hE⟩, more_of_below ?_⟩
    repeat (first | with_reducible exact Below.refl _ _ | with_reducible refine below_mo ?_ _ | with_reducible refine below_al ?_ _)
/-- a location set into a list in order. -/
def insS (x : Int × Int) : List (Int × Int) → List (Int × Int)
  | [] => [x]
  | y :: l => if x = y then y :: l else if ltS x y = true then x :: y :: l else y :: insS x l
/-- a list's members, in order. -/
def strL : List (Int × Int) → List (Int × Int)
  | [] => []
  | x :: l => insS x (strL l)
theorem insS_mem (x : Int × Int) : ∀ (l : List (Int × Int)) z, z ∈ insS x l ↔ z = x ∨ z ∈ l
  | [], z => by simp [insS]
  | y :: l, z => by
    unfold insS
    split
    · rename_i h; subst h; simp
    · split
      · simp
      · simp [insS_mem x l z]
        constructor
        · rintro (h | h | h)
          · exact .inr (.inl h)
          · exact .inl h
          · exact .inr (.inr h)
        · rintro (h | h | h)
          · exact .inr (.inl h)
          · exact .inl h
          · exact .inr (.inr h)
theorem ltS_or (x y : Int × Int) (h : x ≠ y) (h2 : ltS x y ≠ true) : ltS y x = true := by
  refine ltS_of_le ?_ (fun e => h e.symm)
  unfold leS
  simpa using h2
theorem insS_strict (x : Int × Int) : ∀ (l : List (Int × Int)), Strict l → Strict (insS x l)
  | [], _ => List.pairwise_singleton _ _
  | y :: l, h => by
    obtain ⟨h1, h2⟩ := List.pairwise_cons.1 h
    unfold insS
    split
    · exact h
    · rename_i hne
      split
      · rename_i hlt
        refine List.pairwise_cons.2 ⟨fun z hz => ?_, h⟩
        rcases List.mem_cons.1 hz with rfl | hz
        · exact hlt
        · exact ltS_tr hlt (h1 z hz)
      · rename_i hlt
        refine List.pairwise_cons.2 ⟨fun z hz => ?_, insS_strict x l h2⟩
        rcases (insS_mem x l z).1 hz with rfl | hz
        · exact ltS_or _ _ hne hlt
        · exact h1 z hz
theorem strL_strict : ∀ l, Strict (strL l)
  | [] => List.Pairwise.nil
  | x :: l => insS_strict x _ (strL_strict l)
theorem strL_mem : ∀ (l : List (Int × Int)) z, z ∈ strL l ↔ z ∈ l
  | [], z => by simp [strL]
  | x :: l, z => by
    show z ∈ insS x (strL l) ↔ _
    rw [insS_mem, strL_mem l z, List.mem_cons]
theorem ltS_irr (x : Int × Int) : ltS x x ≠ true := by
  unfold ltS
  simp
theorem strict_le : ∀ (B A : List (Int × Int)), Strict A → Strict B → (∀ x, x ∈ A → x ∈ B) → A.length ≤ B.length ∧ ((∀ x, x ∈ B → x ∈ A) → A = B)
  | [], A, _, _, hs => by
    have : A = [] := List.eq_nil_iff_forall_not_mem.2 (fun x hx => by have := hs x hx; simp at this)
    subst this
    exact ⟨Nat.le_refl _, fun _ => rfl⟩
  | b :: B, [], _, _, _ => ⟨by simp, fun h => by have := h b (by simp); simp at this⟩
  | b :: B, a :: A, hA, hB, hs => by
    obtain ⟨a1, a2⟩ := List.pairwise_cons.1 hA
    obtain ⟨b1, b2⟩ := List.pairwise_cons.1 hB
    by_cases h : a = b
    · subst h
      have hs2 : ∀ x, x ∈ A → x ∈ B := fun x hx => by
        rcases List.mem_cons.1 (hs x (List.mem_cons_of_mem _ hx)) with rfl | h
        · exact absurd (a1 _ hx) (ltS_irr _)
        · exact h
      obtain ⟨k1, k2⟩ := strict_le B A a2 b2 hs2
      refine ⟨by simp; omega, fun hq => ?_⟩
      rw [k2 (fun x hx => ?_)]
      rcases List.mem_cons.1 (hq x (List.mem_cons_of_mem _ hx)) with rfl | h
      · exact absurd (b1 _ hx) (ltS_irr _)
      · exact h
    · have hab : a ∈ B := by
        rcases List.mem_cons.1 (hs a (List.mem_cons_self ..)) with h2 | h2
        · exact absurd h2 h
        · exact h2
      have hba := b1 a hab
      have hs2 : ∀ x, x ∈ a :: A → x ∈ B := fun x hx => by
        rcases List.mem_cons.1 (hs x hx) with rfl | h2
        · rcases List.mem_cons.1 hx with h3 | h3
          · exact absurd h3.symm h
          · exact absurd (ltS_tr hba (a1 _ h3)) (ltS_irr _)
        · exact h2
      obtain ⟨k1, _⟩ := strict_le B (a :: A) hA b2 hs2
      refine ⟨by simp at k1 ⊢; omega, fun hq => ?_⟩
      rcases List.mem_cons.1 (hq b (List.mem_cons_self ..)) with h3 | h3
      · exact absurd h3.symm h
      · exact absurd (ltS_tr hba (a1 _ h3)) (ltS_irr _)
def locE (C : Int) (M : List (Int × Int)) : Int := if C ≠ 0 then C else if 4096 < (strL M).length then 12 else 0
def locR (C : Int) (M : List (Int × Int)) : List (Int × Int) := if C ≠ 0 then [] else if 4096 < (strL M).length then [] else strL M
/-- what Locations gives back, outright. -/
def LocD (w : World) (E : Int) (R : List (Int × Int)) (e : Ending) (w' : World) : Prop :=
  (∃ (ad : Option Addr) (c : Nat), e = .returned (.tuple #[.slice ad R.length c, .int .i64 E]) ∧ w'.ownsRow w.heap.size 40 2 (.slice ad R.length c) R.length (R.flatMap spnC)) ∧ ∃ p : Regrown, w' = more w p
theorem LocC.det {w w' : World} {C : Int} {M : List (Int × Int)} {e : Ending} (h : LocC w C M e w') : LocD w (locE C M) (locR C M) e w' := by
  obtain ⟨⟨ad, l, c, err, he, h1, h2⟩, hp⟩ := h
  refine ⟨?_, hp⟩
  unfold locE locR
  by_cases hC : C = 0
  · have hC2 : ¬ C ≠ 0 := fun h => h hC
    simp only [if_neg hC2]
    rcases h2 hC with ⟨rfl, ⟨rfl, rfl, rfl⟩, Z, z1, z2, z3⟩ | ⟨rfl, Z, z1, z2, z3, rfl, z5⟩
    · have := (strict_le (strL M) Z z1 (strL_strict M) (fun x hx => (strL_mem M x).2 (z2 x hx))).1
      have hl : 4096 < (strL M).length := by omega
      simp only [if_pos hl]
      exact ⟨none, 0, he, World.ownsRow_nil _ _ _ _⟩
    · have := (strict_le (strL M) Z z1 (strL_strict M) (fun x hx => (strL_mem M x).2 ((z2 x).1 hx))).2 (fun x hx => (z2 x).2 ((strL_mem M x).1 hx))
      subst this
      have hl : ¬ 4096 < (strL M).length := by omega
      simp only [if_neg hl]
      exact ⟨ad, c, he, z5⟩
  · obtain ⟨rfl, rfl, rfl, rfl⟩ := h1 hC
    simp only [if_pos hC]
    exact ⟨none, 0, he, World.ownsRow_nil _ _ _ _⟩
end Go.Proofs.Ytlbkloamabomcaa
namespace Go.Proofs.Ytlbkloamabomcaa
open Go.RowKit Go.Sort
set_option linter.unusedVariables false
set_option linter.unusedSimpArgs false
def tN (sz : Int) : Ty 1 := (⟨1, sz, false, [], 0, []⟩ : TyF (Ty 0))
def tL : Ty 2 := (⟨3, 0, false, [⟨⟨#[97]⟩, tN 1, false, 0⟩, ⟨⟨#[98]⟩, tN 4, true, 5⟩, ⟨⟨#[99]⟩, tN 4, true, 20⟩], 0, []⟩ : TyF (Ty 1))
theorem al1 : checkF 2 tL = 0 := by kernel_rfl
theorem al2 : formOf 2 tL = (8, 4) := by kernel_rfl
theorem al3 : fieldsE 2 tL = 0 := by kernel_rfl
theorem al4 : spotsF 2 tL = [⟨0, 1, 1, false, 0, 0⟩, ⟨1, 1, 1, true, 0, 5⟩, ⟨4, 3, 1, true, 0, 20⟩] := by kernel_rfl
theorem al5 : locE (checkF 2 tL) (marksF 2 tL 0) = 0 := by kernel_rfl
theorem al6 : locR (checkF 2 tL) (marksF 2 tL 0) = [(0, 1), (1, 6)] := by kernel_rfl
def FdN (w : World) (b off : Nat) (nm : ByteArray) (sz : Int) (bt : Bool) (wd : Int) : Prop :=
  w.cell? ⟨b, off, none⟩ = some (.string nm) ∧ w.cell? ⟨b, off + 1, none⟩ = some (.int .i64 1) ∧ w.cell? ⟨b, off + 2, none⟩ = some (.int .i64 sz) ∧
    w.cell? ⟨b, off + 3, none⟩ = some (.bool false) ∧ w.cell? ⟨b, off + 4, none⟩ = some (.slice none 0 0) ∧ w.cell? ⟨b, off + 5, none⟩ = some (.int .i64 0) ∧
    w.cell? ⟨b, off + 6, none⟩ = some (.slice none 0 0) ∧ w.cell? ⟨b, off + 7, none⟩ = some (.bool bt) ∧ w.cell? ⟨b, off + 8, none⟩ = some (.int .i64 wd)
theorem tN_at (w : World) (sz : Int) (h : rng sz) : TyAt w 1 (tN sz) ⟨1, sz, false, none, 0, 0, 0, none, 0, 0⟩ :=
  ⟨rfl, rfl, rfl, rfl, rfl, rfl, (by decide : -9223372036854775808 ≤ (1 : Int) ∧ (1 : Int) ≤ 9223372036854775807), h, (by decide : -9223372036854775808 ≤ (0 : Int) ∧ (0 : Int) ≤ 9223372036854775807), ⟨by simp, by simp, fun h => by simp at h⟩, ⟨by simp, by simp, fun h => by simp at h⟩⟩
theorem fdN_at {w : World} {b off : Nat} {nm : ByteArray} {sz wd : Int} {bt : Bool} (h : FdN w b off nm sz bt wd) (hs : rng sz) (hw : rng wd) (hn : nm.size ≤ 9223372036854775807) :
    ∃ q : Raw, TyAt w 1 (tN sz) q ∧ rng wd ∧ nm.size ≤ 9223372036854775807 ∧
        w.cell? ⟨b, off, none⟩ = some (.string nm) ∧ w.cell? ⟨b, off + 1, none⟩ = some (.int .i64 q.kind) ∧ w.cell? ⟨b, off + 2, none⟩ = some (.int .i64 q.size) ∧
        w.cell? ⟨b, off + 3, none⟩ = some (.bool q.packed) ∧ w.cell? ⟨b, off + 4, none⟩ = some (.slice q.fa q.fl q.fc) ∧ w.cell? ⟨b, off + 5, none⟩ = some (.int .i64 q.count) ∧
        w.cell? ⟨b, off + 6, none⟩ = some (.slice q.ea q.el q.ec) ∧ w.cell? ⟨b, off + 7, none⟩ = some (.bool bt) ∧ w.cell? ⟨b, off + 8, none⟩ = some (.int .i64 wd) := by
  obtain ⟨c0, c1, c2, c3, c4, c5, c6, c7, c8⟩ := h
  exact ⟨⟨1, sz, false, none, 0, 0, 0, none, 0, 0⟩, tN_at w sz hs, hw, hn, c0, c1, c2, c3, c4, c5, c6, c7, c8⟩
theorem tL_at {w : World} {b : Nat} (hb : b < w.heap.size) (h0 : FdN w b 0 ⟨#[97]⟩ 1 false 0) (h1 : FdN w b 9 ⟨#[98]⟩ 4 true 5) (h2 : FdN w b 18 ⟨#[99]⟩ 4 true 20) : TyAt w 2 tL ⟨3, 0, false, some ⟨b, 0, none⟩, 3, 3, 0, none, 0, 0⟩ :=
  ⟨rfl, rfl, rfl, rfl, rfl, rfl, (by decide : -9223372036854775808 ≤ (3 : Int) ∧ (3 : Int) ≤ 9223372036854775807), (by decide : -9223372036854775808 ≤ (0 : Int) ∧ (0 : Int) ≤ 9223372036854775807), (by decide : -9223372036854775808 ≤ (0 : Int) ∧ (0 : Int) ≤ 9223372036854775807), ⟨by simp, by simp, fun _ => ⟨b, 0, rfl, hb, fun i f hi => by
    match i, hi with
    | 0, hi => cases hi; exact fdN_at h0 (by unfold rng; decide) (by unfold rng; decide) (by decide)
    | 1, hi => cases hi; exact fdN_at h1 (by unfold rng; decide) (by unfold rng; decide) (by decide)
    | 2, hi => cases hi; exact fdN_at h2 (by unfold rng; decide) (by unfold rng; decide) (by decide)
    | i + 3, hi => simp [tL] at hi⟩⟩, ⟨by simp, by simp, fun h => by simp at h⟩⟩
theorem aOf {w : World} {b : Nat} (hT : TyAt w 2 tL ⟨3, 0, false, some ⟨b, 0, none⟩, 3, 3, 0, none, 0, 0⟩) : Calls Try.prog 13 #[.agg #[.int .i64 3, .int .i64 0, .bool false, .slice (some ⟨b, 0, none⟩) 3 3, .int .i64 0, .slice none 0 0]] w (Gives w (.tuple #[.int .i64 8, .int .i64 4, .int .i64 0])) := by
  have h := Of_any 2 tL _ w hT
  rw [al1, al2] at h
  exact h
theorem aFi {w : World} {b : Nat} (hT : TyAt w 2 tL ⟨3, 0, false, some ⟨b, 0, none⟩, 3, 3, 0, none, 0, 0⟩) : Calls Try.prog 17 #[.agg #[.int .i64 3, .int .i64 0, .bool false, .slice (some ⟨b, 0, none⟩) 3 3, .int .i64 0, .slice none 0 0]] w fun e w' => ∃ g c, e = .returned (.tuple #[.slice (some ⟨g, 0, none⟩) 3 c, .int .i64 0]) ∧ 3 ≤ c ∧ c ≤ 9223372036854775807 ∧ g < w'.heap.size ∧ (w'.cell? ⟨g, 6, none⟩ = some (.int .i64 1) ∧ w'.cell? ⟨g, 7, none⟩ = some (.int .i64 1) ∧ w'.cell? ⟨g, 12, none⟩ = some (.int .i64 4) ∧ w'.cell? ⟨g, 13, none⟩ = some (.int .i64 3)) ∧ ∃ p : Regrown, w' = more w p := by
  refine (Fields_any 2 tL _ w hT).mono ?_
  rintro e w1 ⟨⟨ad, l, c, rfl, _, h2⟩, hp⟩
  rw [al3, al4] at *
  obtain ⟨rfl, ho⟩ := h2 rfl
  rcases (spots_cells ho).2 with h | ⟨S, rfl, _, hlt, h3, h4, h5⟩
  · cases h
  · refine ⟨S, c, rfl, h3, by unfold maxLen at h4; omega, hlt, ⟨(h5 1 _ rfl).1, (h5 1 _ rfl).2, (h5 2 _ rfl).1, (h5 2 _ rfl).2⟩, hp⟩
theorem aLo {w : World} {b : Nat} (hT : TyAt w 2 tL ⟨3, 0, false, some ⟨b, 0, none⟩, 3, 3, 0, none, 0, 0⟩) : Calls Try.prog 20 #[.agg #[.int .i64 3, .int .i64 0, .bool false, .slice (some ⟨b, 0, none⟩) 3 3, .int .i64 0, .slice none 0 0]] w fun e w' => ∃ g c, e = .returned (.tuple #[.slice (some ⟨g, 0, none⟩) 2 c, .int .i64 0]) ∧ 2 ≤ c ∧ c ≤ 9223372036854775807 ∧ g < w'.heap.size ∧ (w'.cell? ⟨g, 2, none⟩ = some (.int .i64 1) ∧ w'.cell? ⟨g, 3, none⟩ = some (.int .i64 6)) ∧ ∃ p : Regrown, w' = more w p := by
  refine (Locations_any 2 tL _ w hT).mono ?_
  intro e w1 h
  obtain ⟨⟨ad, c, rfl, ho⟩, hp⟩ := h.det
  rw [al5, al6] at *
  obtain ⟨g, rfl⟩ := row_form ho (by simp)
  obtain ⟨_, b2, b3, _, cur, b5, _, b7⟩ := blk_of ho
  refine ⟨g, c, rfl, b2, by unfold maxLen at b3; omega, (ho.lt g rfl).2, ⟨?_, ?_⟩, hp⟩
  · rw [b5.cell]; exact (b7 1 _ rfl).1
  · rw [b5.cell]; exact (b7 1 _ rfl).2
set_option maxRecDepth 100000 in
set_option maxHeartbeats 3200000 in
theorem awakeL_any (w : World) : Calls Try.prog 15 #[] w (Gives w (.bool true)) := by
  have HQ := eql_spn
  go_enter Try.func15, Try.ntmps15
  go_upto_region 3 with fail
  refine wp_letter (R := fun W => TyAt W 2 tL ⟨3, 0, false, some ⟨w.heap.size + 1 + 1, 0, none⟩, 3, 3, 0, none, 0, 0⟩ ∧ Below w.heap.size w W ∧ W.cell? ⟨w.heap.size + 1 + 1 + 1, 0, none⟩ = some (.int .i64 3) ∧ W.cell? ⟨w.heap.size + 1 + 1 + 1, 1, none⟩ = some (.int .i64 0) ∧ W.cell? ⟨w.heap.size + 1 + 1 + 1, 2, none⟩ = some (.bool false) ∧ W.cell? ⟨w.heap.size + 1 + 1 + 1, 3, none⟩ = some (.slice (some ⟨w.heap.size + 1 + 1, 0, none⟩) 3 3) ∧ W.cell? ⟨w.heap.size + 1 + 1 + 1, 4, none⟩ = some (.int .i64 0) ∧ W.cell? ⟨w.heap.size + 1 + 1 + 1, 5, none⟩ = some (.slice none 0 0)) ?letA ?_
  case letA =>
    refine ⟨tL_at ?_ ?_ ?_ ?_, ?_, ?_, ?_, ?_, ?_, ?_, ?_⟩
    · simp [go_sem]
      try omega
    all_goals try (unfold FdN; simp [go_sem, ↓IntWalk.iteOmega]; done)
    all_goals try (simp [go_sem, ↓IntWalk.iteOmega]; done)
    all_goals repeat (first | with_reducible exact Below.refl _ _ | with_reducible refine below_mo ?_ _ | with_reducible refine below_al ?_ _)
  rintro wA ⟨hT, hB, y0, y1, y2, y3, y4, y5⟩
  have HT := Lib.hid hT
  have HB := Lib.hid hB
  have hlA := cell_lt2 y0
  have HX : Hid (∀ W, Below wA.heap.size wA W → W.cell? ⟨w.heap.size + 1 + 1 + 1, 0, none⟩ = some (.int .i64 3) ∧ W.cell? ⟨w.heap.size + 1 + 1 + 1, 1, none⟩ = some (.int .i64 0) ∧ W.cell? ⟨w.heap.size + 1 + 1 + 1, 2, none⟩ = some (.bool false) ∧ W.cell? ⟨w.heap.size + 1 + 1 + 1, 3, none⟩ = some (.slice (some ⟨w.heap.size + 1 + 1, 0, none⟩) 3 3) ∧ W.cell? ⟨w.heap.size + 1 + 1 + 1, 4, none⟩ = some (.int .i64 0) ∧ W.cell? ⟨w.heap.size + 1 + 1 + 1, 5, none⟩ = some (.slice none 0 0) ∧ w.heap.size + 1 + 1 + 1 < W.heap.size) := Lib.hid (fun W hW =>
    ⟨(hW.cell (p := ⟨_, _, none⟩) hlA).trans y0, (hW.cell (p := ⟨_, _, none⟩) hlA).trans y1, (hW.cell (p := ⟨_, _, none⟩) hlA).trans y2, (hW.cell (p := ⟨_, _, none⟩) hlA).trans y3, (hW.cell (p := ⟨_, _, none⟩) hlA).trans y4, (hW.cell (p := ⟨_, _, none⟩) hlA).trans y5, Nat.lt_of_lt_of_le hlA hW.size⟩)
  clear hT hB
  generalize w.heap.size + 1 + 1 + 1 = X at *
  have LO : Hid (∀ W, Below wA.heap.size wA W → Calls Try.prog 13 #[.agg #[.int .i64 3, .int .i64 0, .bool false, .slice (some ⟨w.heap.size + 1 + 1, 0, none⟩) 3 3, .int .i64 0, .slice none 0 0]] W fun e w' => e = .returned (.tuple #[.int .i64 8, .int .i64 4, .int .i64 0]) ∧ Below W.heap.size W w') := Lib.hid (fun W hW => (aOf (HT.out.below hW)).mono (by rintro e w1 ⟨rfl, p, rfl⟩; exact ⟨rfl, more_below _ _⟩))
  have LF : Hid (∀ W, Below wA.heap.size wA W → Calls Try.prog 17 #[.agg #[.int .i64 3, .int .i64 0, .bool false, .slice (some ⟨w.heap.size + 1 + 1, 0, none⟩) 3 3, .int .i64 0, .slice none 0 0]] W fun e w' => ∃ g c, e = .returned (.tuple #[.slice (some ⟨g, 0, none⟩) 3 c, .int .i64 0]) ∧ 3 ≤ c ∧ c ≤ 9223372036854775807 ∧ g < w'.heap.size ∧ (w'.cell? ⟨g, 6, none⟩ = some (.int .i64 1) ∧ w'.cell? ⟨g, 7, none⟩ = some (.int .i64 1) ∧ w'.cell? ⟨g, 12, none⟩ = some (.int .i64 4) ∧ w'.cell? ⟨g, 13, none⟩ = some (.int .i64 3)) ∧ Below W.heap.size W w') := Lib.hid (fun W hW => (aFi (HT.out.below hW)).mono (by rintro e w1 ⟨g, c, rfl, h1, h2, h3, h4, p, rfl⟩; exact ⟨g, c, rfl, h1, h2, h3, h4, more_below _ _⟩))
  have LL : Hid (∀ W, Below wA.heap.size wA W → Calls Try.prog 20 #[.agg #[.int .i64 3, .int .i64 0, .bool false, .slice (some ⟨w.heap.size + 1 + 1, 0, none⟩) 3 3, .int .i64 0, .slice none 0 0]] W fun e w' => ∃ g c, e = .returned (.tuple #[.slice (some ⟨g, 0, none⟩) 2 c, .int .i64 0]) ∧ 2 ≤ c ∧ c ≤ 9223372036854775807 ∧ g < w'.heap.size ∧ (w'.cell? ⟨g, 2, none⟩ = some (.int .i64 1) ∧ w'.cell? ⟨g, 3, none⟩ = some (.int .i64 6)) ∧ Below W.heap.size W w') := Lib.hid (fun W hW => (aLo (HT.out.below hW)).mono (by rintro e w1 ⟨g, c, rfl, h1, h2, h3, h4, p, rfl⟩; exact ⟨g, c, rfl, h1, h2, h3, h4, more_below _ _⟩))
  go_wp2_with (first
    | (go_at_call 13; refine (LO.out _ (Below.refl _ _)).mono ?_; rintro e w1 ⟨rfl, b1⟩; obtain ⟨a0, a1, a2, a3, a4, a5, a6⟩ := HX.out _ b1; have B1 := Lib.hid b1; clear b1)
    | (go_at_call 17; refine (LF.out _ B1.out).mono ?_; rintro e w2 ⟨g1, c1, rfl, k1, k2, k3, ⟨z0, z1, z2, z3⟩, b2⟩; have B2 := Lib.hid (below_next B1.out b2); have ZC := Lib.hid (And.intro k3 (And.intro z0 (And.intro z1 (And.intro z2 z3)))); clear k3 z0 z1 z2 z3; obtain ⟨d0, d1, d2, d3, d4, d5, d6⟩ := HX.out _ B2.out; clear b2)
    | (go_at_call 20; refine (LL.out _ B2.out).mono ?_; rintro e w3 ⟨g2, c2, rfl, l1, l2, l3, ⟨x0, x1⟩, b3⟩; have B3 := Lib.hid (below_next B2.out b3); obtain ⟨k3, z0, z1, z2, z3⟩ := ZC.out; replace z0 := (b3.cell (p := ⟨_, _, none⟩) k3).trans z0; replace z1 := (b3.cell (p := ⟨_, _, none⟩) k3).trans z1; replace z2 := (b3.cell (p := ⟨_, _, none⟩) k3).trans z2; replace z3 := (b3.cell (p := ⟨_, _, none⟩) k3).trans z3; replace k3 := Nat.lt_of_lt_of_le k3 b3.size; clear b3))
  go_ret
  exact ⟨by simp, more_of_below (below_next HB.out B3.out)⟩
end Go.Proofs.Ytlbkloamabomcaa
