/- What lies at a place, on plain data; one step of the program's walker. Conditions: what it walks along lies in memory, and the part leads on. Walk: what lies at a place: the program's Find. Conditions: what came in lies in memory, and a row of as many globals fits. Walk: what lies at a place that is there: the program's Find. Conditions: what came in lies in memory, and a row of as many globals fits. Walk: what lies at any place, with any indices: the program's Find. Conditions: what came in lies in memory, and a row of as many globals fits. -/
import Derived.Test.YtlbkloamabomcaaWldB
import Derived.Test.YtlbkloamabomcaaWldC
namespace Go.Proofs.Ytlbkloamabomcaa
open Go.RowKit Go.Sort
set_option linter.unusedVariables false
set_option linter.unusedSimpArgs false
def cntP : List Pt → Nat
  | [] => 0
  | p :: ps => p.idx + cntP ps
theorem drop_at {α : Type} {l : List α} {k : Nat} {x : α} (h : l[k]? = some x) : l.drop k = x :: l.drop (k + 1) := by
  have hk : k < l.length := (List.getElem?_eq_some_iff.1 h).1
  rw [List.drop_eq_getElem_cons hk]
  congr 1
  exact Option.some.inj ((List.getElem?_eq_getElem hk).symm.trans h)
theorem manyK_cnt (ps : List Pt) : ∀ k, k ≤ ps.length → manyK ps k + cntP (ps.drop k) = cntP ps
  | 0, _ => by rw [List.drop_zero]; show 0 + _ = _; omega
  | k + 1, h => by
    have ih := manyK_cnt ps k (by omega)
    obtain ⟨p, hp⟩ := get_some ps k (by omega)
    rw [drop_at hp] at ih
    rw [manyK_succ ps hp]
    have : cntP (p :: ps.drop (k + 1)) = p.idx + cntP (ps.drop (k + 1)) := rfl
    omega
theorem many_cnt (ps : List Pt) : manyK ps ps.length = cntP ps := by
  have := manyK_cnt ps ps.length (Nat.le_refl _)
  rw [List.drop_length] at this
  exact this
/-- where a part leads on, the walker goes there. -/
theorem step_next {n : Nat} {t : TyF (Ty n)} (hc : checkF (n + 1) t = 0) {p : Pt} {u : Ty n} (hp : partE t p = (0, some u)) {S : Sp} (hW : WIn (n + 1) t S.at_) {ix : List Nat} (hl : p.idx ≤ ix.length) {u' : Ty n} {S' : Sp} {ix' : List Nat} (hs : stepS t S p ix = some (u', S', ix')) :
    u' = u ∧ checkF n u = 0 ∧ WIn n u S'.at_ ∧ ix'.length + p.idx = ix.length ∧ S'.kind = S'.kind := by
  obtain ⟨w1, w2, w3⟩ := hW
  by_cases hA : p.idx = 1 ∧ isE p.field = true ∧ t.kind = 5
  · unfold partE at hp
    rw [if_pos hA] at hp
    cases he : t.elem with
    | nil => rw [he] at hp; cases hp
    | cons e r =>
      have hS : soundF (n + 1) t = 0 := (checkF_zero hc).2.1
      have he1 : t.elem = [e] := by
        rcases sound_cases n t hS with ⟨h, _⟩ | ⟨_, _, _, _, _, _, e', h1, _⟩ | ⟨h, _⟩
        · omega
        · rw [h1] at he; cases he; exact h1
        · omega
      have hcnt : 1 ≤ t.count := by
        rcases sound_cases n t hS with ⟨h, _⟩ | ⟨_, _, _, _, h1, h2, _⟩ | ⟨h, _⟩
        · omega
        · exact h1
        · omega
      rw [he1] at hp
      have hue : e = u := by injection hp with _ h; exact Option.some.inj h
      subst hue
      obtain ⟨hce, hg0, hg1, hg2⟩ := checkF_elem hc hA.2.2 he1
      have w3 := w3 (by show t.kind ≠ 1; omega)
      rw [← hg2] at w3
      unfold stepS at hs
      rw [if_pos hA.1, he1] at hs
      cases ix with
      | nil => simp at hl; omega
      | cons i ix =>
        simp only [List.head?_cons] at hs
        split at hs
        · cases hs
        · rename_i hlt
          have hs := Option.some.inj hs
          have hm0 : 0 ≤ (i : Int) * (formOf n e).1 := Int.mul_nonneg (by omega) hg0
          have hm1 : (i : Int) * (formOf n e).1 + (formOf n e).1 ≤ (formOf n e).1 * t.count := by
            have h9 : (formOf n e).1 * ((i : Int) + 1) ≤ (formOf n e).1 * t.count := Int.mul_le_mul_of_nonneg_left (by omega) hg0
            rw [Int.mul_add, Int.mul_one, Int.mul_comm] at h9
            omega
          injection hs with a1 a2
          injection a2 with a2 a3
          subst a1 a2 a3
          refine ⟨rfl, hce, ⟨?_, ?_, fun _ => ?_⟩, by simp [hA.1], rfl⟩ <;> (simp only; omega)
  · by_cases hB : p.idx = 0 ∧ isE p.field = false ∧ (t.kind = 3 ∨ t.kind = 4)
    · have hg := ixK_ge (fun f : FdF (Ty n) => nmE f.name p.field) t.fields
      unfold partE at hp
      rw [if_neg hA, if_pos hB] at hp
      split at hp
      · cases hp
      · rename_i hi
        obtain ⟨f, hf⟩ := get_some t.fields (ixK (fun f : FdF (Ty n) => nmE f.name p.field) t.fields).toNat (by omega)
        rw [hf] at hp
        have hue : f.type = u := by injection hp with _ h; exact Option.some.inj h
        obtain ⟨hcf, s, hs1, hs2, hs3, hs4, hs5⟩ := checkF_field hc hB.2.2 hf
        unfold stepS at hs
        rw [if_neg (by omega), hf, hs1] at hs
        have hs := Option.some.inj hs
        injection hs with a1 a2
        injection a2 with a2 a3
        subst a1 a2 a3
        have w3 := w3 (by show t.kind ≠ 1; omega)
        rw [hue] at hcf hs4 hs5 ⊢
        refine ⟨rfl, hcf, ⟨?_, ?_, fun h9 => ?_⟩, by omega, rfl⟩
        · simp only; omega
        · have hfm := form_ok (n + 1) t (checkF_zero hc).2.1
          simp only
          have h0 : 0 ≤ (formOf (n + 1) t).1 := by
            obtain ⟨_, hs, _, g, hg, hgo⟩ := checkF_zero hc
            rw [hgo]
            exact (hfm g hg).1
          omega
        · have := hs4 h9
          simp only
          omega
    · unfold partE at hp
      rw [if_neg hA, if_neg hB] at hp
      cases hp
/-- one step, of a part that leads on. -/
theorem step_any {n : Nat} (t : TyF (Ty n)) (hc : checkF (n + 1) t = 0) (p : Pt) (u : Ty n) (hp : partE t p = (0, some u)) (q : Raw) (w0 w : World) (hT : TyAt w0 (n + 1) t q) (hB : Below w0.heap.size w0 w) (X : Nat) (hX : w0.heap.size ≤ X) (S : Sp) (hWI : WIn (n + 1) t S.at_)
    (ix : List Nat) (ia : Option Addr) (ic : Nat) (hI : IxAt w0 ix ia ic) (hw : WkAt w X q S ia ix.length ic) (hl : p.idx ≤ ix.length) (pa : Option Addr) (pc : Nat) (hp1 : p.idx ≤ pc) (hp2 : pc ≤ 9223372036854775807) :
    Calls Try.prog 39 #[.pointer (some ⟨X, 0, none⟩), .agg #[.string p.field, .slice pa p.idx pc]] w (StpC w0 w X (stepS t S p ix)) := by
  obtain ⟨pf, px⟩ := p
  by_cases hA : px = 1 ∧ isE pf = true ∧ t.kind = 5
  · obtain ⟨rfl, _, hk⟩ := hA
    rcases sound_cases n t (checkF_zero hc).2.1 with ⟨h, _⟩ | ⟨_, _, _, _, _, _, e, he, _⟩ | ⟨h, _⟩
    · omega
    · cases ix with
      | nil => simp at hl
      | cons i ix => exact step_ix t hc hk e he q w0 w hT hB X hX S hWI i ix ia ic hI hw pf pa pc hp1 hp2
    · omega
  · by_cases hB2 : px = 0 ∧ isE pf = false ∧ (t.kind = 3 ∨ t.kind = 4)
    · obtain ⟨rfl, _, hk⟩ := hB2
      refine step_fd t hc hk q w0 w hT hB X hX S hWI ix ia ic hI hw pf ?_ pa pc hp2
      unfold partE at hp
      rw [if_neg (show ¬ ((0 : Nat) = 1 ∧ _) by omega), if_pos ⟨rfl, by assumption, hk⟩] at hp
      split at hp
      · cases hp
      · rename_i h9
        exact Int.not_lt.1 h9
    · unfold partE at hp
      rw [if_neg hA, if_neg hB2] at hp
      cases hp
section
variable {n : Nat}
theorem placeE_some {l : List (Vr n)} {nm : ByteArray} {ps : List Pt} {e : Int} {m : Nat} {u : Ty m} (h : placeE l nm ps = (e, some ⟨m, u⟩)) : ∃ (i : Nat) (v : Vr n), ixK (fun v : Vr n => nmE v.name nm) l = i ∧ l[i]? = some v ∧ SoundF n v.type = 0 ∧ goP n v.type ps = (e, some ⟨m, u⟩) := by
  unfold placeE at h
  have hg := ixK_ge (fun v : Vr n => nmE v.name nm) l
  split at h
  · cases h
  · obtain ⟨i, hi⟩ : ∃ i : Nat, ixK (fun v : Vr n => nmE v.name nm) l = i := ⟨_, (Int.toNat_of_nonneg (by omega)).symm⟩
    rw [hi] at h hg
    obtain ⟨v, hv⟩ := get_some l i (by omega)
    rw [show ((i : Int)).toNat = i by omega, hv] at h
    simp only at h
    split at h
    · cases h
    · rename_i h0
      exact ⟨i, v, hi, hv, by simpa using h0, h⟩
theorem goP_zero : ∀ (n : Nat) (t : Ty n) (ps : List Pt) (e : Int) (o : Option ((m : Nat) × Ty m)), soundF n t = 0 → goP n t ps = (e, o) → (o = none ∧ e ≠ 0) ∨ ∃ m u, o = some ⟨m, u⟩ ∧ e = 0 ∧ soundF m u = 0
  | n, t, [], e, o, hs, h => by
    have : goP n t [] = (0, some ⟨n, t⟩) := by cases n <;> rfl
    rw [this] at h
    cases h
    exact .inr ⟨n, t, rfl, rfl, hs⟩
  | 0, t, _ :: _, _, _, _, _ => nomatch t
  | n + 1, t, p :: ps, e, o, hs, h => by
    rcases partE_cases (t := t) hs p with ⟨u, hu, hsu⟩ | ⟨er, hu, her⟩
    · rw [goP_some hu] at h
      exact goP_zero n u ps e o hsu h
    · rw [goP_none hu] at h
      cases h
      exact .inl ⟨rfl, her⟩
theorem placeE_zero {l : List (Vr n)} {nm : ByteArray} {ps : List Pt} {e : Int} {o : Option ((m : Nat) × Ty m)} (h : placeE l nm ps = (e, o)) : (o = none ∧ e ≠ 0) ∨ ∃ m u, o = some ⟨m, u⟩ ∧ e = 0 ∧ soundF m u = 0 := by
  unfold placeE at h
  split at h
  · cases h; exact .inl ⟨rfl, by decide⟩
  · split at h
    · cases h; exact .inl ⟨rfl, by decide⟩
    · split at h
      · rename_i h0
        cases h
        exact .inl ⟨rfl, h0⟩
      · rename_i h0
        exact goP_zero n _ ps e o (SoundF_zero (by simpa using h0)) h
/-- what Find gives back. -/
def zeroSp : Sp := ⟨0, 0, 0, false, 0, 0⟩
def startS (l : List (Vr n)) (i : Nat) (v : Vr n) : Sp := ⟨65536 + stW (atK l i) (vF v), (vF v).1, 0, false, 0, 0⟩
def findE (l : List (Vr n)) (nm : ByteArray) (ps : List Pt) (ix : List Nat) : Int × Sp :=
  if worldE l ≠ 0 then (worldE l, zeroSp) else
  match placeE l nm ps with
  | (e, none) => (e, zeroSp)
  | (_, some ⟨m, u⟩) =>
    if tkind m u ≠ 1 ∧ tkind m u ≠ 2 then (8, zeroSp) else if ix.length ≠ cntP ps then (1, zeroSp) else
    match l[(ixK (fun v : Vr n => nmE v.name nm) l).toNat]? with
    | none => (14, zeroSp)
    | some v => match findP n v.type (startS l (ixK (fun v : Vr n => nmE v.name nm) l).toNat v) ps ix with
      | none => (14, zeroSp)
      | some S => (0, ⟨S.at_, S.len, tkind m u, S.isBits, S.bit, S.width⟩)
/-- a variable's place: where the walker begins. -/
theorem start_in {l : List (Vr n)} (hE : worldE l = 0) {i : Nat} {v : Vr n} (hv : l[i]? = some v) : checkF n v.type = 0 ∧ WIn n v.type (startS l i v).at_ := by
  obtain ⟨hok, hA⟩ := worldE_zero l hE
  have hc := hok i v hv
  obtain ⟨_, hs, _, g, hg, hgo⟩ := checkF_zero hc
  have hil : i < l.length := (List.getElem?_eq_some_iff.1 hv).1
  have h1 := atK_pre l hok hA (i + 1) (by omega)
  have h2 := atK_bound l i (fun j u _ hu => hok j u hu)
  have h3 := form_ok n v.type hs g hg
  have h4 := stW_bound (g := vF v) (vF_ok hc).2.2 h2.1
  have h5 : (vF v).1 = g.1 := by unfold vF; rw [hgo]
  rw [atK_succ l hv] at h1
  refine ⟨hc, ⟨?_, ?_, fun _ => ?_⟩⟩
  · unfold startS; simp only; omega
  · unfold startS; simp only; omega
  · unfold startS; simp only; unfold vF at h1 ⊢; rw [hgo] at h1 ⊢; omega
end
end Go.Proofs.Ytlbkloamabomcaa
namespace Go.Proofs.Ytlbkloamabomcaa
open Go.RowKit Go.Sort
set_option linter.unusedVariables false
set_option linter.unusedSimpArgs false
section
variable {n : Nat}
/-- Map, where it fails. -/
theorem map_no (l : List (Vr n)) (a : Option Addr) (c : Nat) (w W : World) (hV : VrsAt w l a c) (hr : l.length * 32 ≤ 140737488355328) (hE : worldE l ≠ 0) (hW : Below w.heap.size w W) :
    Calls Try.prog 21 #[.slice a l.length c] W (Gives W (.tuple #[.slice none 0 0, .int .i64 0, .int .i64 (worldE l)])) := by
  refine (Map_any l a c W (hV.below hW) hr).mono fun e w' h => ?_
  obtain ⟨ad, m, cp, rfl, h1, _, hp⟩ := h.cells
  obtain ⟨rfl, rfl, rfl⟩ := h1 hE
  rw [if_neg hE]
  exact ⟨rfl, hp⟩
/-- Map, where it does not fail. -/
def MapG (l : List (Vr n)) (W : World) (e : Ending) (w' : World) : Prop := ∃ (ad : Option Addr) (c : Nat), e = .returned (.tuple #[.slice ad l.length c, .int .i64 (atK l l.length), .int .i64 0]) ∧ (0 < l.length → ∃ S, ad = some ⟨S, 0, none⟩ ∧ l.length ≤ c ∧ c ≤ maxLen ∧ W.heap.size ≤ S ∧ GlAt w' S (glK l l.length)) ∧ ∃ p : Regrown, w' = more W p
theorem map_yes (l : List (Vr n)) (a : Option Addr) (c : Nat) (w W : World) (hV : VrsAt w l a c) (hr : l.length * 32 ≤ 140737488355328) (hE : worldE l = 0) (hW : Below w.heap.size w W) :
    Calls Try.prog 21 #[.slice a l.length c] W (MapG l W) := by
  refine (Map_any l a c W (hV.below hW) hr).mono fun e w' h => ?_
  have hgl := glK_len l l.length (Nat.le_refl _)
  rw [hE] at h
  obtain ⟨ad, m, cp, rfl, _, h2, hp⟩ := h.cells
  obtain ⟨rfl, h3⟩ := h2 rfl
  rw [hgl] at h3 ⊢
  exact ⟨ad, cp, rfl, fun h0 => h3 (fun h => by rw [h] at hgl; simp at hgl; omega), hp⟩
set_option maxRecDepth 100000 in
set_option maxHeartbeats 3200000 in
theorem find_no1 (l : List (Vr n)) (a : Option Addr) (c : Nat) (w : World) (hV : VrsAt w l a c) (hr : l.length * 32 ≤ 140737488355328) (nm : ByteArray) (pa : Option Addr) (pl pc : Nat) (ia : Option Addr) (il ic : Nat) (hE : worldE l ≠ 0) :
    Calls Try.prog 24 #[.slice a l.length c, .agg #[.string nm, .slice pa pl pc], .slice ia il ic] w (Gives w (.tuple #[zeroSp.val, .int .i64 (worldE l)])) := by
  have MP := Lib.hid (fun W hW => map_no l a c w W hV hr hE hW)
  clear hV
  generalize worldE l = E at *
  have hb1 : (E != 0) = true := by simpa using hE
  go_enter Try.func24, Try.ntmps24
  go_wp2_with (go_at_call 21; refine (MP.out _ (by repeat (first | with_reducible exact Below.refl _ _ | with_reducible refine below_mo ?_ _ | with_reducible refine below_al ?_ _))).mono ?_; rintro e w1 ⟨rfl, p1, rfl⟩)
  refine bodyPost_ret (v := .tuple #[.agg #[.int .i64 0, .int .i64 0, .int .i64 0, .bool false, .int .i64 0, .int .i64 0], .int .i64 E]) ?hres rfl ?post
  case hres =>
    refine ret_ct (cs := [.int .i64 0, .int .i64 0, .int .i64 0, .bool false, .int .i64 0, .int .i64 0]) (t := 7) (c := 6) rfl rfl rfl Try.underlying42 rfl (by kernel_rfl) (range6 ?_ ?_ ?_ ?_ ?_ ?_)
    all_goals simp [go_sem, ↓IntWalk.iteOmega, cell_upd2]
  case post => exact Gives.mk rfl (by repeat (first | with_reducible exact Below.refl _ _ | with_reducible refine below_mo ?_ _ | with_reducible refine below_al ?_ _ | with_reducible refine below_st ?_ (by simp <;> omega) _))
set_option maxRecDepth 100000 in
set_option maxHeartbeats 3200000 in
theorem find_no2 (l : List (Vr n)) (a : Option Addr) (c : Nat) (w : World) (hV : VrsAt w l a c) (hr : l.length * 32 ≤ 140737488355328) (nm : ByteArray) (ps : List Pt) (pa : Option Addr) (pc : Nat) (hP : PtsAt w ps pa pc) (ia : Option Addr) (il ic : Nat) (hE : worldE l = 0) (er : Int) (he : er ≠ 0) (hR : placeE l nm ps = (er, none)) :
    Calls Try.prog 24 #[.slice a l.length c, .agg #[.string nm, .slice pa ps.length pc], .slice ia il ic] w (Gives w (.tuple #[zeroSp.val, .int .i64 er])) := by
  have MP := Lib.hid (fun W hW => map_yes l a c w W hV hr hE hW)
  have PL : Hid (∀ W, Below w.heap.size w W → Calls Try.prog 35 #[.slice a l.length c, .agg #[.string nm, .slice pa ps.length pc]] W fun e w' => ∃ q : Raw, e = .returned (.tuple #[.agg #[.int .i64 q.kind, .int .i64 q.size, .bool q.packed, .slice q.fa q.fl q.fc, .int .i64 q.count, .slice q.ea q.el q.ec], .int .i64 er]) ∧ ∃ p : Regrown, w' = more W p) := Lib.hid (fun W hW => (place_any' l a c W (hV.below hW) nm ps pa pc (hP.below hW)).mono (by
    intro e w1 h
    rw [hR] at h
    obtain ⟨⟨q, rfl, _⟩, hp⟩ := h
    exact ⟨q, rfl, hp⟩))
  clear hV hP hR
  have hb1 : (er != 0) = true := by simpa using he
  go_enter Try.func24, Try.ntmps24
  go_wp2_with (first
    | (go_at_call 21; refine (MP.out _ (by repeat (first | with_reducible exact Below.refl _ _ | with_reducible refine below_mo ?_ _ | with_reducible refine below_al ?_ _))).mono ?_; rintro e w1 ⟨ad, cg, rfl, _, p1, rfl⟩)
    | (go_at_call 35; refine (PL.out _ (by repeat (first | with_reducible exact Below.refl _ _ | with_reducible refine below_mo ?_ _ | with_reducible refine below_al ?_ _))).mono ?_; rintro e w1 ⟨q2, rfl, p2, rfl⟩; obtain ⟨q2k, q2s, q2p, q2fa, q2fl, q2fc, q2c, q2ea, q2el, q2ec⟩ := q2; simp only))
  refine bodyPost_ret (v := .tuple #[.agg #[.int .i64 0, .int .i64 0, .int .i64 0, .bool false, .int .i64 0, .int .i64 0], .int .i64 er]) ?hres rfl ?post
  case hres =>
    refine ret_ct (cs := [.int .i64 0, .int .i64 0, .int .i64 0, .bool false, .int .i64 0, .int .i64 0]) (t := 7) (c := 6) rfl rfl rfl Try.underlying42 rfl (by kernel_rfl) (range6 ?_ ?_ ?_ ?_ ?_ ?_)
    all_goals simp [go_sem, ↓IntWalk.iteOmega, cell_upd2]
  case post => exact Gives.mk rfl (by repeat (first | with_reducible exact Below.refl _ _ | with_reducible refine below_mo ?_ _ | with_reducible refine below_al ?_ _ | with_reducible refine below_st ?_ (by simp <;> omega) _))
/-- Place, where it leads to something. -/
theorem place_yes (l : List (Vr n)) (a : Option Addr) (c : Nat) (w W : World) (hV : VrsAt w l a c) (nm : ByteArray) (ps : List Pt) (pa : Option Addr) (pc : Nat) (hP : PtsAt w ps pa pc) {m : Nat} {u : Ty m} (hR : placeE l nm ps = (0, some ⟨m, u⟩)) (hW : Below w.heap.size w W) :
    Calls Try.prog 35 #[.slice a l.length c, .agg #[.string nm, .slice pa ps.length pc]] W fun e w' => ∃ q : Raw, e = .returned (.tuple #[.agg #[.int .i64 (tkind m u), .int .i64 q.size, .bool q.packed, .slice q.fa q.fl q.fc, .int .i64 q.count, .slice q.ea q.el q.ec], .int .i64 0]) ∧ ∃ p : Regrown, w' = more W p := by
  refine (place_any' l a c W (hV.below hW) nm ps pa pc (hP.below hW)).mono ?_
  intro e w1 h
  rw [hR] at h
  obtain ⟨⟨q, rfl, hq⟩, hp⟩ := h
  have hq := hq m u rfl
  have hk : q.kind = tkind m u := by
    cases m with
    | zero => exact nomatch u
    | succ m => exact hq.1
  refine ⟨q, ?_, hp⟩
  unfold Raw.val
  rw [hk]
set_option maxRecDepth 100000 in
set_option maxHeartbeats 3200000 in
theorem find_no3 (l : List (Vr n)) (a : Option Addr) (c : Nat) (w : World) (hV : VrsAt w l a c) (hr : l.length * 32 ≤ 140737488355328) (nm : ByteArray) (ps : List Pt) (pa : Option Addr) (pc : Nat) (hP : PtsAt w ps pa pc) (ia : Option Addr) (il ic : Nat) (hE : worldE l = 0) {m : Nat} {u : Ty m} (hR : placeE l nm ps = (0, some ⟨m, u⟩))
    (hk : tkind m u ≠ 1 ∧ tkind m u ≠ 2) :
    Calls Try.prog 24 #[.slice a l.length c, .agg #[.string nm, .slice pa ps.length pc], .slice ia il ic] w (Gives w (.tuple #[zeroSp.val, .int .i64 8])) := by
  have MP := Lib.hid (fun W hW => map_yes l a c w W hV hr hE hW)
  have PL := Lib.hid (fun W hW => place_yes l a c w W hV nm ps pa pc hP hR hW)
  clear hV hP hR
  generalize tkind m u = kd at *
  have hb1 : (kd != 1) = true := by simpa using hk.1
  have hb2 : (kd != 2) = true := by simpa using hk.2
  go_enter Try.func24, Try.ntmps24
  go_wp2_with (first
    | (go_at_call 21; refine (MP.out _ (by repeat (first | with_reducible exact Below.refl _ _ | with_reducible refine below_mo ?_ _ | with_reducible refine below_al ?_ _))).mono ?_; rintro e w1 ⟨ad, cg, rfl, _, p1, rfl⟩)
    | (go_at_call 35; refine (PL.out _ (by repeat (first | with_reducible exact Below.refl _ _ | with_reducible refine below_mo ?_ _ | with_reducible refine below_al ?_ _))).mono ?_; rintro e w1 ⟨q2, rfl, p2, rfl⟩; obtain ⟨q2k, q2s, q2p, q2fa, q2fl, q2fc, q2c, q2ea, q2el, q2ec⟩ := q2; simp only))
  refine bodyPost_ret (v := .tuple #[.agg #[.int .i64 0, .int .i64 0, .int .i64 0, .bool false, .int .i64 0, .int .i64 0], .int .i64 8]) ?hres rfl ?post
  case hres =>
    refine ret_ct (cs := [.int .i64 0, .int .i64 0, .int .i64 0, .bool false, .int .i64 0, .int .i64 0]) (t := 7) (c := 6) rfl rfl rfl Try.underlying42 rfl (by kernel_rfl) (range6 ?_ ?_ ?_ ?_ ?_ ?_)
    all_goals simp [go_sem, ↓IntWalk.iteOmega, cell_upd2]
  case post => exact Gives.mk rfl (by repeat (first | with_reducible exact Below.refl _ _ | with_reducible refine below_mo ?_ _ | with_reducible refine below_al ?_ _ | with_reducible refine below_st ?_ (by simp <;> omega) _))
set_option maxRecDepth 100000 in
set_option maxHeartbeats 3200000 in
theorem find_no4 (l : List (Vr n)) (a : Option Addr) (c : Nat) (w : World) (hV : VrsAt w l a c) (hr : l.length * 32 ≤ 140737488355328) (nm : ByteArray) (ps : List Pt) (pa : Option Addr) (pc : Nat) (hP : PtsAt w ps pa pc) (ia : Option Addr) (il ic : Nat) (hE : worldE l = 0) {m : Nat} {u : Ty m} (hR : placeE l nm ps = (0, some ⟨m, u⟩))
    (hk : tkind m u = 1 ∨ tkind m u = 2) (hps : ∀ p, p ∈ ps → p.idx ≤ 1) (hl : il ≠ cntP ps) (hil : il ≤ 9223372036854775807) :
    Calls Try.prog 24 #[.slice a l.length c, .agg #[.string nm, .slice pa ps.length pc], .slice ia il ic] w (Gives w (.tuple #[zeroSp.val, .int .i64 1])) := by
  have MP := Lib.hid (fun W hW => map_yes l a c w W hV hr hE hW)
  have PL := Lib.hid (fun W hW => place_yes l a c w W hV nm ps pa pc hP hR hW)
  have MN := Lib.hid (fun W (hW : Below w.heap.size w W) => many_any ps pa pc W (hP.below hW) hps nm)
  have hm1 := manyK_le ps hps ps.length
  have hpc1 := hP.1
  have hpc2 := hP.2.1
  rw [many_cnt] at MN hm1
  clear hV hP hR hps
  generalize tkind m u = kd at *
  generalize cntP ps = M at *
  have hb1 : ((il : Int) != (M : Int)) = true := by simpa using (fun h => hl (by omega))
  rcases hk with rfl | rfl
  all_goals
    go_enter Try.func24, Try.ntmps24
    go_wp2_with (first
      | (go_at_call 21; refine (MP.out _ (by repeat (first | with_reducible exact Below.refl _ _ | with_reducible refine below_mo ?_ _ | with_reducible refine below_al ?_ _))).mono ?_; rintro e w1 ⟨ad, cg, rfl, _, p1, rfl⟩)
      | (go_at_call 35; refine (PL.out _ (by repeat (first | with_reducible exact Below.refl _ _ | with_reducible refine below_mo ?_ _ | with_reducible refine below_al ?_ _))).mono ?_; rintro e w1 ⟨q2, rfl, p2, rfl⟩; obtain ⟨q2k, q2s, q2p, q2fa, q2fl, q2fc, q2c, q2ea, q2el, q2ec⟩ := q2; simp only)
      | (go_at_call 36; refine (MN.out _ (by repeat (first | with_reducible exact Below.refl _ _ | with_reducible refine below_mo ?_ _ | with_reducible refine below_al ?_ _))).mono ?_; rintro e w1 ⟨rfl, p3, rfl⟩))
    refine bodyPost_ret (v := .tuple #[.agg #[.int .i64 0, .int .i64 0, .int .i64 0, .bool false, .int .i64 0, .int .i64 0], .int .i64 1]) ?hres rfl ?post
    case hres =>
      refine ret_ct (cs := [.int .i64 0, .int .i64 0, .int .i64 0, .bool false, .int .i64 0, .int .i64 0]) (t := 7) (c := 6) rfl rfl rfl Try.underlying42 rfl (by kernel_rfl) (range6 ?_ ?_ ?_ ?_ ?_ ?_)
      all_goals simp [go_sem, ↓IntWalk.iteOmega, cell_upd2]
    case post => exact Gives.mk rfl (by repeat (first | with_reducible exact Below.refl _ _ | with_reducible refine below_mo ?_ _ | with_reducible refine below_al ?_ _ | with_reducible refine below_st ?_ (by simp <;> omega) _))
end
end Go.Proofs.Ytlbkloamabomcaa
namespace Go.Proofs.Ytlbkloamabomcaa
open Go.RowKit Go.Sort
set_option linter.unusedVariables false
set_option linter.unusedSimpArgs false
section
variable {n : Nat}
theorem WkAt.below {w w' : World} {X : Nat} {q : Raw} {S : Sp} {ia : Option Addr} {il ic : Nat} (hb : Below w.heap.size w w') (h : WkAt w X q S ia il ic) : WkAt w' X q S ia il ic := by
  have hl := cell_lt2 h.s0
  have hc : ∀ k, w'.cell? ⟨X, k, none⟩ = w.cell? ⟨X, k, none⟩ := fun k => hb.cell (p := ⟨X, k, none⟩) hl
  obtain ⟨⟨y0, y1, y2, y3, y4, y5⟩, s0, s1, s2, s3, s4, s5, sx, fz⟩ := h
  exact ⟨⟨(hc _).trans y0, (hc _).trans y1, (hc _).trans y2, (hc _).trans y3, (hc _).trans y4, (hc _).trans y5⟩, (hc _).trans s0, (hc _).trans s1, (hc _).trans s2, (hc _).trans s3, (hc _).trans s4, (hc _).trans s5, (hc _).trans sx, fun k => (hb.frozen (p := ⟨X, k, none⟩) hl).trans (fz k)⟩
theorem Ov.cell {X : Nat} {a b : World} (h : Ov X a b) {c k : Nat} (hc : c < a.heap.size) (hX : c ≠ X) : b.cell? ⟨c, k, none⟩ = a.cell? ⟨c, k, none⟩ := World.cell?_of_block (w := a) (h.block c hc hX)
theorem Ov.frozen {X : Nat} {a b : World} (h : Ov X a b) {c k : Nat} (hc : c < a.heap.size) (hX : c ≠ X) : b.frozen? ⟨c, k, none⟩ = a.frozen? ⟨c, k, none⟩ := World.frozen?_of_block (w := a) (h.block c hc hX)
/-- six cells of zero, that may be written. -/
structure ZAt (w : World) (R : Nat) : Prop where
  z0 : w.cell? ⟨R, 0, none⟩ = some (.int .i64 0)
  z1 : w.cell? ⟨R, 1, none⟩ = some (.int .i64 0)
  z2 : w.cell? ⟨R, 2, none⟩ = some (.int .i64 0)
  z3 : w.cell? ⟨R, 3, none⟩ = some (.bool false)
  z4 : w.cell? ⟨R, 4, none⟩ = some (.int .i64 0)
  z5 : w.cell? ⟨R, 5, none⟩ = some (.int .i64 0)
  zf : ∀ k, w.frozen? ⟨R, k, none⟩ = false
theorem ZAt.ov {X R : Nat} {w w' : World} (h : ZAt w R) (ho : Ov X w w') (hX : R ≠ X) : ZAt w' R := by
  have hl := cell_lt2 h.z0
  exact ⟨(ho.cell hl hX).trans h.z0, (ho.cell hl hX).trans h.z1, (ho.cell hl hX).trans h.z2, (ho.cell hl hX).trans h.z3, (ho.cell hl hX).trans h.z4, (ho.cell hl hX).trans h.z5, fun k => (ho.frozen hl hX).trans (h.zf k)⟩
theorem walker_new {w : World} {q : Raw} {s0 s1 s2 : Int} {s3 : Bool} {s4 s5 : Int} {ia : Option Addr} {il ic : Nat} {T : TypeId} : WkAt (w.alloc (.cells #[.int .i64 q.kind, .int .i64 q.size, .bool q.packed, .slice q.fa q.fl q.fc, .int .i64 q.count, .slice q.ea q.el q.ec, .int .i64 s0, .int .i64 s1, .int .i64 s2, .bool s3, .int .i64 s4, .int .i64 s5, .slice ia il ic] T)) w.heap.size q ⟨s0, s1, s2, s3, s4, s5⟩ ia il ic := by
  refine ⟨⟨?_, ?_, ?_, ?_, ?_, ?_⟩, ?_, ?_, ?_, ?_, ?_, ?_, ?_, fun k => ?_⟩
  all_goals first | (simp [go_sem, ↓IntWalk.iteOmega]; done) | skip
def resSp (R : Option Sp) (k : Int) : Sp := match R with
  | some S => ⟨S.at_, S.len, k, S.isBits, S.bit, S.width⟩
  | none => zeroSp
def resE (R : Option Sp) : Int := match R with
  | some _ => 0
  | none => 14
set_option maxRecDepth 100000 in
set_option maxHeartbeats 6400000 in
theorem find_yes (l : List (Vr n)) (a : Option Addr) (c : Nat) (w : World) (hV : VrsAt w l a c) (hr : l.length * 32 ≤ 140737488355328) (nm : ByteArray) (ps : List Pt) (pa : Option Addr) (pc : Nat) (hP : PtsAt w ps pa pc) (ix : List Nat) (ia : Option Addr) (ic : Nat) (hI : IxAt w ix ia ic) (hE : worldE l = 0) {m : Nat} {u : Ty m} (hR : placeE l nm ps = (0, some ⟨m, u⟩))
    (hk : tkind m u = 1 ∨ tkind m u = 2) (hps : ∀ p, p ∈ ps → p.idx ≤ 1) (hl : ix.length = cntP ps) {i : Nat} {v : Vr n} (hix : ixK (fun v : Vr n => nmE v.name nm) l = i) (hv : l[i]? = some v) (hgo : goP n v.type ps = (0, some ⟨m, u⟩)) {RS : Option Sp} (hRS : findP n v.type (startS l i v) ps ix = RS) :
    Calls Try.prog 24 #[.slice a l.length c, .agg #[.string nm, .slice pa ps.length pc], .slice ia ix.length ic] w (Gives w (.tuple #[(resSp RS (tkind m u)).val, .int .i64 (resE RS)])) := by
  have MP := Lib.hid (fun W hW => map_yes l a c w W hV hr hE hW)
  have PL := Lib.hid (fun W hW => place_yes l a c w W hV nm ps pa pc hP hR hW)
  have MN := Lib.hid (fun W (hW : Below w.heap.size w W) => many_any ps pa pc W (hP.below hW) hps nm)
  have IX : Hid (∀ (W : World) (X : Nat), Below w.heap.size w W → W.cell? ⟨X, 0, none⟩ = some (.string nm) → Calls Try.prog 37 #[.slice a l.length c, .func (.func 38) #[] #[.pointer (some ⟨X, 0, none⟩)]] W (Gives W (.int .i64 i))) := Lib.hid (fun W X hW hX => by
    have := ix_find l a c W (hV.below hW) X nm hX
    rw [hix] at this
    exact this)
  have hm1 := manyK_le ps hps ps.length
  have HPT := Lib.hid hP.2.2
  have hpc1 := hP.1
  have hpc2 := hP.2.1
  have hic1 := hI.1
  have hic2 := hI.2.1
  rw [many_cnt, ← hl] at MN hm1
  have HI := Lib.hid hI
  have hc1 := hV.1
  have hc2 := hV.2.1
  have hil : i < l.length := (List.getElem?_eq_some_iff.1 hv).1
  obtain ⟨b, off, rfl, hb, hcs⟩ := hV.2.2 (by omega)
  obtain ⟨q, hq, hnm, c0, c1, c2, c3, c4, c5, c6⟩ := hcs i v hv
  obtain ⟨hcv, hwi⟩ := start_in hE hv
  have HG := glK_get l l.length (Nat.le_refl _) i v hil hv
  have HST := Lib.hid (show findP n v.type (startS l i v) ps ix = RS from hRS)
  have HGO := Lib.hid hgo
  have HQ := Lib.hid hq
  have HWI := Lib.hid hwi
  have HCV := Lib.hid hcv
  have HLN := Lib.hid hl
  unfold startS at HST HWI
  generalize 65536 + stW (atK l i) (vF v) = A at *
  generalize (vF v).1 = L at *
  generalize hvt : v.type = t0 at *
  generalize hvn : v.name = vn at *
  clear hvt hvn
  have hkd : tkind m u = 1 ∨ tkind m u = 2 := hk
  clear hcs hV hP hR hix hv hgo hRS hps hI hcv hwi hl hE hq c0
  have hb1 : ((ix.length : Int) != (ix.length : Int)) = false := by simp
  generalize hkk : tkind m u = kd at *
  have HK := Lib.hid hkk
  clear hkk
  obtain ⟨qk, qs, qp, qfa, qfl, qfc, qc, qea, qel, qec⟩ := q
  simp only at c1 c2 c3 c4 c5 c6
  clear hk
  rcases hkd with rfl | rfl
  all_goals
    go_enter Try.func24, Try.ntmps24
    go_upto_region 12 with (first
      | (go_at_call 21; refine (MP.out _ (by repeat (first | with_reducible exact Below.refl _ _ | with_reducible refine below_mo ?_ _ | with_reducible refine below_al ?_ _))).mono ?_; rintro e w1 ⟨ad, cg, rfl, hgl, p1, rfl⟩; have HGL := Lib.hid hgl; clear hgl)
      | (go_at_call 35; refine (PL.out _ (by repeat (first | with_reducible exact Below.refl _ _ | with_reducible refine below_mo ?_ _ | with_reducible refine below_al ?_ _))).mono ?_; rintro e w1 ⟨q2, rfl, p2, rfl⟩; obtain ⟨q2k, q2s, q2p, q2fa, q2fl, q2fc, q2c, q2ea, q2el, q2ec⟩ := q2; simp only)
      | (go_at_call 36; refine (MN.out _ (by repeat (first | with_reducible exact Below.refl _ _ | with_reducible refine below_mo ?_ _ | with_reducible refine below_al ?_ _))).mono ?_; rintro e w1 ⟨rfl, p3, rfl⟩)
      | (go_at_call 37; refine (IX.out _ _ (by repeat (first | with_reducible exact Below.refl _ _ | with_reducible refine below_mo ?_ _ | with_reducible refine below_al ?_ _)) (by simp [go_sem, ↓IntWalk.iteOmega])).mono ?_; rintro e w1 ⟨rfl, p4, rfl⟩))
    obtain ⟨G, rfl, hg1, hg2, _, hg4⟩ := HGL.out (by omega)
    have HG4 := Lib.hid hg4
    clear hg4 HGL
    refine wp_letter (R := fun W => Below w.heap.size w W ∧ W.cell? ⟨w.heap.size, 1, none⟩ = some (.slice pa ps.length pc) ∧ ZAt W (w.heap.size + 1) ∧ (∃ T, W.cell? ⟨w.heap.size + 1 + 1 + p1.os.size + p2.os.size, 0, none⟩ = some (.int .i64 T) ∧ T = tkind m u) ∧ GlAt W G (glK l l.length)) ?letA ?_
    case letA =>
      refine ⟨?_, ?_, ⟨?_, ?_, ?_, ?_, ?_, ?_, fun k => ?_⟩, ⟨_, ?_, HK.out.symm⟩, HG4.out.below ?_⟩
      · repeat (first | with_reducible exact Below.refl _ _ | with_reducible refine below_mo ?_ _ | with_reducible refine below_al ?_ _)
      any_goals (simp [go_sem, ↓IntWalk.iteOmega]; done)
      · simp [go_sem, ↓IntWalk.iteOmega]; intro h; omega
      · repeat (first | with_reducible exact Below.refl _ _ | with_reducible refine below_mo ?_ _ | with_reducible refine below_al ?_ _)
    rintro wA ⟨hA1, x1, hz, ⟨T, xT, hT⟩, hGA, hGc⟩
    obtain ⟨n0, n1, n2⟩ := hGc i _ HG
    simp only at n0 n1 n2
    have HA1 := Lib.hid hA1
    have HZ := Lib.hid hz
    have HKT := Lib.hid hT
    have hbs := hA1.size
    have hl1 := cell_lt2 x1
    have hlR := cell_lt2 hz.z0
    have hlT := cell_lt2 xT
    have hTw : w.heap.size + 1 < w.heap.size + 1 + 1 + p1.os.size + p2.os.size := by omega
    generalize w.heap.size + 1 + 1 + p1.os.size + p2.os.size = TT at *
    have hcA : ∀ (o : Nat) (x : Value), w.cell? ⟨b, o, none⟩ = some x → wA.cell? ⟨b, o, none⟩ = some x := fun o x hx => (HA1.out.cell (p := ⟨b, o, none⟩) hb).trans hx
    replace c1 := hcA _ _ c1
    replace c2 := hcA _ _ c2
    replace c3 := hcA _ _ c3
    replace c4 := hcA _ _ c4
    replace c5 := hcA _ _ c5
    replace c6 := hcA _ _ c6
    have hbA : b < wA.heap.size := by omega
    clear hA1 hz hGc HG4 hT MP PL MN IX hcA
    refine wp_tail_more 13 (by kernel_rfl) (by kernel_rfl) ?_
    simp only [List.take_succ_cons, List.take_zero, List.drop_succ_cons, List.drop_zero]
    repeat (go_big_quiet_step (fail))
    refine wpQuiet_nil ?_
    intro p8
    go_wp2_with fail
    refine wp_letter (R := fun W => Below wA.heap.size wA W ∧ WkAt W (wA.heap.size + p8.os.size) ⟨qk, qs, qp, qfa, qfl, qfc, qc, qea, qel, qec⟩ ⟨A, L, 0, false, 0, 0⟩ ia ix.length ic) ?letB ?_
    case letB =>
      refine ⟨by repeat (first | with_reducible exact Below.refl _ _ | with_reducible refine below_mo ?_ _ | with_reducible refine below_al ?_ _), ?_⟩
      have := walker_new (w := more wA p8) (q := ⟨qk, qs, qp, qfa, qfl, qfc, qc, qea, qel, qec⟩) (s0 := A) (s1 := L) (s2 := 0) (s3 := false) (s4 := 0) (s5 := 0) (ia := ia) (il := ix.length) (ic := ic) (T := 99)
      rw [more_size] at this
      exact this
    rintro wB ⟨hB1, hwk⟩
    have hX1 : wA.heap.size ≤ wA.heap.size + p8.os.size := by omega
    generalize wA.heap.size + p8.os.size = X at *
    have hlX := cell_lt2 hwk.s0
    have hsB := hB1.size
    have HWK := Lib.hid hwk
    replace x1 := (hB1.cell (p := ⟨w.heap.size, 1, none⟩) hl1).trans x1
    replace xT := (hB1.cell (p := ⟨TT, 0, none⟩) hlT).trans xT
    replace HZ := Lib.hid (HZ.out.ov (Ov.of_below (X := X) hB1) (by omega))
    have HB1 : Hid (Below w.heap.size w wB) := Lib.hid (below_next HA1.out hB1)
    clear hB1 hwk HA1 c1 c2 c3 c4 c5 c6 n0 n1 n2
    go_loopw [74] (fun v74 wr => ∃ (k : Nat) (m' : Nat) (u' : Ty m') (S' : Sp) (ix' : List Nat) (q' : Raw) (ia' : Option Addr) (ic' : Nat), k ≤ ps.length ∧ v74 = .int .i64 k ∧ goP n t0 ps = goP m' u' (ps.drop k) ∧ checkF m' u' = 0 ∧ findP n t0 ⟨A, L, 0, false, 0, 0⟩ ps ix = findP m' u' S' (ps.drop k) ix' ∧ WIn m' u' S'.at_ ∧ ix'.length = cntP (ps.drop k) ∧ WkAt wr X q' S' ia' ix'.length ic' ∧ TyAt w m' u' q' ∧ IxAt w ix' ia' ic' ∧ Ov X wB wr) (fun v74 _ => ps.length - (intOf v74).toNat)
    case atStart => exact ⟨0, n, t0, _, ix, _, ia, ic, by omega, rfl, by rw [List.drop_zero], HCV.out, by rw [List.drop_zero], HWI.out, by rw [List.drop_zero]; exact HLN.out, HWK.out, HQ.out, HI.out, Ov.refl⟩
    case round =>
      obtain ⟨k, m', u', S', ix', q', ia', ic', hkl, rfl, hg, hcu, hf, hwi, hln, hwk, hqu, hiu, hov⟩ := hrel
      have HG := Lib.hid hg
      have HF := Lib.hid hf
      have HCU := Lib.hid hcu
      have HWI2 := Lib.hid hwi
      have HLN2 := Lib.hid hln
      have HWK2 := Lib.hid hwk
      have HQU := Lib.hid hqu
      have HIU := Lib.hid hiu
      have HOV := Lib.hid hov
      have hsr := hov.size
      have hlXr := cell_lt2 hwk.s0
      have HBR : Hid (Below w.heap.size w wr) := Lib.hid (hov.under HB1.out (by omega))
      have hbr := HBR.out.size
      have HZr := Lib.hid (HZ.out.ov hov (by omega))
      have xTr := (hov.cell (k := 0) (cell_lt2 xT) (by omega)).trans xT
      have hiu1 := hiu.1
      have hiu2 := hiu.2.1
      clear hg hf hcu hwi hln hwk hqu hiu hov
      by_cases hlt : (k : Int) < ps.length
      · obtain ⟨pb, poff, rfl, hpb, hpp⟩ := HPT.out (by omega)
        obtain ⟨pt, hpt⟩ := get_some ps k (by omega)
        obtain ⟨hnf, d0, ka, kc, d1, hic1', hic2'⟩ := hpp k pt hpt
        replace d0 := (HBR.out.cell (p := ⟨pb, poff + k * 2, none⟩) hpb).trans d0
        replace d1 := (HBR.out.cell (p := ⟨pb, poff + k * 2 + 1, none⟩) hpb).trans d1
        have hpbr : pb < wr.heap.size := by omega
        have hdr := drop_at hpt
        rw [hdr] at HG HF HLN2
        have hln2 : ix'.length = pt.idx + cntP (ps.drop (k + 1)) := HLN2.out
        clear hpp hpt hdr
        cases m' with
        | zero => exact nomatch u'
        | succ m' =>
          obtain ⟨uu, hpe⟩ : ∃ uu, partE (show TyF (Ty m') from u') pt = (0, some uu) := by
            rcases partE_cases (checkF_zero HCU.out).2.1 pt with ⟨uu, h1, _⟩ | ⟨er, h1, h2⟩
            · exact ⟨uu, h1⟩
            · have h3 := HG.out
              rw [goP_none h1, HGO.out] at h3
              cases h3
          have HG2 : Hid (goP n t0 ps = goP m' uu (ps.drop (k + 1))) := Lib.hid (HG.out.trans (goP_some hpe _))
          have SC := Lib.hid (fun W (hW : Below wr.heap.size wr W) => step_any (show TyF (Ty m') from u') HCU.out pt uu hpe q' w W HQU.out (below_next HBR.out hW) X (by omega) S' HWI2.out ix' ia' ic' HIU.out (HWK2.out.below hW) (by omega) ka kc hic1' hic2')
          rcases hst : stepS (show TyF (Ty m') from u') S' pt ix' with _ | ⟨u2, S2, ix2⟩
          · rw [hst] at SC
            have hRS : RS = none := by rw [← HST.out, HF.out]; exact findP_none hst _
            subst hRS
            have SC2 : Hid (∀ W, Below wr.heap.size wr W → Calls Try.prog 39 #[.pointer (some ⟨X, 0, none⟩), .agg #[.string pt.field, .slice ka pt.idx kc]] W fun e w' => e = .returned (.bool false) ∧ Ov X wr w' ∧ ZAt w' (w.heap.size + 1)) := Lib.hid (fun W hW => (SC.out W hW).mono (by
              rintro e w' ⟨h1, h2, _⟩
              have h3 := (Ov.of_below (X := X) hW).trans h1
              exact ⟨h2 rfl, h3, HZr.out.ov h3 (by omega)⟩))
            obtain ⟨pf, px⟩ := pt
            simp only at d0 d1 hic1' SC2
            clear SC hst hpe HG HF HG2 hln2 HLN2
            go_wp2_with (go_at_call 39; refine (SC2.out _ (by repeat (first | with_reducible exact Below.refl _ _ | with_reducible refine below_mo ?_ _ | with_reducible refine below_al ?_ _))).mono ?_; rintro e w2 ⟨rfl, hov2, ⟨z0, z1, z2, z3, z4, z5, zf⟩⟩; have HOV2 := Lib.hid hov2; have hs2 := hov2.size; clear hov2)
            refine bodyPost_ret (v := .tuple #[.agg #[.int .i64 0, .int .i64 0, .int .i64 0, .bool false, .int .i64 0, .int .i64 0], .int .i64 14]) ?hresA rfl ?postA
            case hresA =>
              refine ret_ct (cs := [.int .i64 0, .int .i64 0, .int .i64 0, .bool false, .int .i64 0, .int .i64 0]) (t := 7) (c := 6) rfl rfl rfl Try.underlying42 rfl (by kernel_rfl) (range6 ?_ ?_ ?_ ?_ ?_ ?_)
              all_goals simp [go_sem, ↓IntWalk.iteOmega, cell_upd2, z0, z1, z2, z3, z4, z5]
            case postA => exact Gives.mk rfl (by repeat (first | with_reducible exact HOV2.out.under HBR.out (by omega) | with_reducible refine below_st ?_ (by simp <;> omega) _))
          · rw [hst] at SC
            obtain ⟨rfl, hcu2, hwi2, hln3, _⟩ := step_next HCU.out hpe HWI2.out (by omega) hst
            have HF2 : Hid (findP n t0 ⟨A, L, 0, false, 0, 0⟩ ps ix = findP m' u2 S2 (ps.drop (k + 1)) ix2) := Lib.hid (HF.out.trans (findP_some hst _))
            have SC2 : Hid (∀ W, Below wr.heap.size wr W → Calls Try.prog 39 #[.pointer (some ⟨X, 0, none⟩), .agg #[.string pt.field, .slice ka pt.idx kc]] W fun e w' => e = .returned (.bool true) ∧ Ov X wr w' ∧ ∃ q2 ia2 ic2, WkAt w' X q2 S2 ia2 ix2.length ic2 ∧ TyAt w m' u2 q2 ∧ IxAt w ix2 ia2 ic2) := Lib.hid (fun W hW => (SC.out W hW).mono (by
              rintro e w' ⟨h1, _, h2⟩
              obtain ⟨h3, h4⟩ := h2 _ _ _ rfl
              exact ⟨h3, (Ov.of_below (X := X) hW).trans h1, h4⟩))
            have HC2 := Lib.hid hcu2
            have HW2 := Lib.hid hwi2
            have HL2 : Hid (ix2.length = cntP (ps.drop (k + 1))) := Lib.hid (by omega)
            obtain ⟨pf, px⟩ := pt
            simp only at d0 d1 hic1' SC2
            clear SC hst hpe HG HF hln2 HLN2 hcu2 hwi2 hln3
            go_wp2_with (go_at_call 39; refine (SC2.out _ (by repeat (first | with_reducible exact Below.refl _ _ | with_reducible refine below_mo ?_ _ | with_reducible refine below_al ?_ _))).mono ?_; rintro e w2 ⟨rfl, hov2, q3, ia3, ic3, hwk3, hq3, hi3⟩; have HOV2 := Lib.hid hov2; have HWK3 := Lib.hid hwk3; have HQ3 := Lib.hid hq3; have HI3 := Lib.hid hi3; clear hov2 hwk3 hq3 hi3)
            refine ⟨⟨k + 1, m', u2, S2, ix2, q3, ia3, ic3, by omega, by go_num, HG2.out, HC2.out, HF2.out, HW2.out, HL2.out, HWK3.out, HQ3.out, HI3.out, HOV.out.trans HOV2.out⟩, ?_⟩
            simp [intOf]; omega
      · obtain rfl : k = ps.length := by omega
        rw [List.drop_length] at HG HF
        have hRS : RS = some S' := by rw [← HST.out, HF.out]; exact findP_nil _ _ _ _
        have hTT := HKT.out.trans HK.out
        subst hTT
        subst hRS
        obtain ⟨z0, z1, z2, z3, z4, z5, zf⟩ := HZr.out
        obtain ⟨_, s0, s1, s2, s3, s4, s5, _, fz⟩ := HWK2.out
        clear HG HF HLN2 HZr HWK2
        obtain ⟨S0, S1, S2, S3, S4, S5⟩ := S'
        simp only at s0 s1 s2 s3 s4 s5
        go_wp2_with fail
        refine bodyPost_ret (v := .tuple #[.agg #[.int .i64 S0, .int .i64 S1, .int .i64 (tkind m u), .bool S3, .int .i64 S4, .int .i64 S5], .int .i64 0]) ?hresB rfl ?postB
        case hresB =>
          refine ret_ct (cs := [.int .i64 S0, .int .i64 S1, .int .i64 (tkind m u), .bool S3, .int .i64 S4, .int .i64 S5]) (t := 7) (c := 6) rfl rfl rfl Try.underlying42 rfl (by kernel_rfl) (range6 ?_ ?_ ?_ ?_ ?_ ?_)
          all_goals simp [go_sem, ↓IntWalk.iteOmega, cell_upd2, z0, z1, z2, z3, z4, z5, HK.out]
        case postB =>
          refine Gives.mk ?_ ?_
          · rw [HK.out]; rfl
          · repeat (first | with_reducible exact HBR.out | with_reducible refine below_st ?_ (by simp <;> omega) _)
end
end Go.Proofs.Ytlbkloamabomcaa
namespace Go.Proofs.Ytlbkloamabomcaa
open Go.RowKit Go.Sort
set_option linter.unusedVariables false
set_option linter.unusedSimpArgs false
theorem Find_any {n : Nat} (l : List (Vr n)) (a : Option Addr) (c : Nat) (w : World) (hV : VrsAt w l a c) (hr : l.length * 32 ≤ 140737488355328) (nm : ByteArray) (ps : List Pt) (pa : Option Addr) (pc : Nat) (hP : PtsAt w ps pa pc) (ix : List Nat) (ia : Option Addr) (ic : Nat) (hI : IxAt w ix ia ic) :
    Calls Try.prog 24 #[.slice a l.length c, .agg #[.string nm, .slice pa ps.length pc], .slice ia ix.length ic] w (Gives w (.tuple #[(findE l nm ps ix).2.val, .int .i64 (findE l nm ps ix).1])) := by
  by_cases hE : worldE l = 0
  · rcases hR : placeE l nm ps with ⟨e, _ | ⟨m, u⟩⟩
    · have hF : findE l nm ps ix = (e, zeroSp) := by unfold findE; rw [if_neg (by simp [hE]), hR]
      rw [hF]
      rcases placeE_zero hR with ⟨_, he⟩ | ⟨_, _, h, _⟩
      · exact find_no2 l a c w hV hr nm ps pa pc hP ia ix.length ic hE e he hR
      · cases h
    · rcases placeE_zero hR with ⟨h, _⟩ | ⟨_, _, h, rfl, hsu⟩
      · cases h
      · obtain ⟨i, v, hix, hv, hsv, hgo⟩ := placeE_some hR
        by_cases hk : tkind m u ≠ 1 ∧ tkind m u ≠ 2
        · have hF : findE l nm ps ix = (8, zeroSp) := by unfold findE; rw [if_neg (by simp [hE]), hR]; simp only; rw [if_pos hk]
          rw [hF]
          exact find_no3 l a c w hV hr nm ps pa pc hP ia ix.length ic hE hR hk
        · have hps := goP_idx n v.type ps m u (SoundF_zero hsv) hgo
          by_cases hl : ix.length = cntP ps
          · have hF : findE l nm ps ix = match findP n v.type (startS l i v) ps ix with
              | none => (14, zeroSp)
              | some S => (0, ⟨S.at_, S.len, tkind m u, S.isBits, S.bit, S.width⟩) := by
              unfold findE; rw [if_neg (by simp [hE]), hR]; simp only; rw [if_neg hk, if_neg (by simp [hl]), hix, show ((i : Int)).toNat = i by omega, hv] <;> rfl
            have H := find_yes l a c w hV hr nm ps pa pc hP ix ia ic hI hE hR (by omega) hps hl hix hv hgo rfl
            rw [hF]
            revert H
            cases findP n v.type (startS l i v) ps ix with
            | none => exact id
            | some S => exact id
          · have hF : findE l nm ps ix = (1, zeroSp) := by unfold findE; rw [if_neg (by simp [hE]), hR]; simp only; rw [if_neg hk, if_pos hl]
            rw [hF]
            have := hI.1
            have := hI.2.1
            exact find_no4 l a c w hV hr nm ps pa pc hP ia ix.length ic hE hR (by omega) hps hl (by omega)
  · have hF : findE l nm ps ix = (worldE l, zeroSp) := by unfold findE; rw [if_pos hE]
    rw [hF]
    exact find_no1 l a c w hV hr nm pa ps.length pc ia ix.length ic hE
end Go.Proofs.Ytlbkloamabomcaa
