/- Walk: the type of a part of something: the program's part. Conditions: the type lies in memory and is sound. Walk: the type of what lies at a place: the program's Place. Conditions: what came in lies in memory. Walks: how many indices a place has: the program's many, the document's Many. Conditions: the parts lie in memory, each has one index at most. Going along the parts of a place, on plain data. No condition. Walk: one step along a place: the program's walker. Conditions: what it walks along lies in memory, and the part leads on. -/
import Derived.Test.YtlbkloamabomcaaWldA
import Derived.Test.YtlbkloamabomcaaLayRefT
import Derived.Test.YtlbkloamabomcaaKindPartsT
import Derived.Test.YtlbkloamabomcaaLayApartT
import Derived.Test.YtlbkloamabomcaaQuietTail
namespace Go.Proofs.Ytlbkloamabomcaa
open Go.RowKit Go.Sort
set_option linter.unusedVariables false
set_option linter.unusedSimpArgs false
def isE (s : ByteArray) : Bool := s.toList.isEmpty
/-- the type of a part; the error. -/
def partE {n : Nat} (t : TyF (Ty n)) (p : Pt) : Int × Option (Ty n) :=
  if p.idx = 1 ∧ isE p.field = true ∧ t.kind = 5 then (0, t.elem.head?)
  else if p.idx = 0 ∧ isE p.field = false ∧ (t.kind = 3 ∨ t.kind = 4) then
    (if ixK (fun f => nmE f.name p.field) t.fields < 0 then (6, none) else (0, (t.fields[(ixK (fun f => nmE f.name p.field) t.fields).toNat]?).map (fun f => f.type)))
  else (8, none)
def zRaw : Raw := ⟨0, 0, false, none, 0, 0, 0, none, 0, 0⟩
/-- what part gives back. -/
def PartC (w0 w : World) {n : Nat} (R : Int × Option (Ty n)) (e : Ending) (w' : World) : Prop := (∃ q : Raw, e = .returned (.tuple #[q.val, .int .i64 R.1]) ∧ ∀ u, R.2 = some u → TyAt w0 n u q) ∧ ∃ p : Regrown, w' = more w p
set_option maxRecDepth 100000 in
set_option maxHeartbeats 3200000 in
theorem part_no (n : Nat) (t : TyF (Ty n)) (r : Raw) (w0 w : World) (hk : r.kind = t.kind) (p : Pt) (ia : Option Addr) (ic : Nat) (h1 : p.idx ≤ ic) (h2 : ic ≤ 9223372036854775807)
    (hA : ¬ (p.idx = 1 ∧ isE p.field = true ∧ t.kind = 5)) (hB : ¬ (p.idx = 0 ∧ isE p.field = false ∧ (t.kind = 3 ∨ t.kind = 4))) : Calls Try.prog 57 #[r.val, .agg #[.string p.field, .slice ia p.idx ic]] w (PartC w0 w (partE t p)) := by
  have hR : partE t p = (8, none) := by unfold partE; rw [if_neg hA, if_neg hB]
  rw [hR]
  clear hR
  obtain ⟨pf, px⟩ := p
  obtain ⟨rk, rs, rp, fa, fl, fc, rc, ea, el, ec⟩ := r
  unfold isE at hA hB
  unfold Raw.val
  simp only at *
  rw [← hk] at hA hB
  clear hk
  have hx : px = 0 ∨ px = 1 ∨ (1 : Int) < px := by omega
  have hkk : rk = 3 ∨ rk = 4 ∨ rk = 5 ∨ (rk ≠ 3 ∧ rk ≠ 4 ∧ rk ≠ 5) := by omega
  cases em : pf.toList.isEmpty
  all_goals
    rw [em] at hA hB
    rcases hx with rfl | rfl | hx
    all_goals
      rcases hkk with rfl | rfl | rfl | ⟨k3, k4, k5⟩
      all_goals
        first
          | (exfalso; simp at hA hB; done)
          | (try (have b3 : (rk == 3) = false := by simpa using k3)
             try (have b4 : (rk == 4) = false := by simpa using k4)
             try (have b5 : (rk == 5) = false := by simpa using k5)
             go_enter Try.func57, Try.ntmps57
             go_wp2_with fail
             refine bodyPost_ret (v := .tuple #[.agg #[.int .i64 0, .int .i64 0, .bool false, .slice none 0 0, .int .i64 0, .slice none 0 0], .int .i64 8]) ?hres rfl ?post
             case hres =>
               refine ret_ct (cs := [.int .i64 0, .int .i64 0, .bool false, .slice none 0 0, .int .i64 0, .slice none 0 0]) (t := 5) (c := 4) rfl rfl rfl Try.underlying25 rfl (by kernel_rfl) (range6 ?_ ?_ ?_ ?_ ?_ ?_)
               all_goals simp [go_sem, ↓IntWalk.iteOmega, cell_upd2]
             case post => exact ⟨⟨zRaw, rfl, fun u hu => by cases hu⟩, more_of_below (by repeat (first | with_reducible exact Below.refl _ _ | with_reducible refine below_mo ?_ _ | with_reducible refine below_al ?_ _ | with_reducible refine below_dr ?_ | with_reducible refine below_dn ?_ _ | with_reducible refine below_st ?_ (by simp <;> omega) _))⟩)
set_option maxRecDepth 100000 in
set_option maxHeartbeats 3200000 in
theorem part_el (n : Nat) (t : TyF (Ty n)) (r : Raw) (w0 w : World) (hT : TyAt w0 (n + 1) t r) (hbw : Below w0.heap.size w0 w) (p : Pt) (ia : Option Addr) (ic : Nat) (h1 : p.idx ≤ ic) (h2 : ic ≤ 9223372036854775807)
    (hA : p.idx = 1 ∧ isE p.field = true ∧ t.kind = 5) (e : Ty n) (hel : t.elem = [e]) : Calls Try.prog 57 #[r.val, .agg #[.string p.field, .slice ia p.idx ic]] w (PartC w0 w (partE t p)) := by
  have hR : partE t p = (0, some e) := by unfold partE; rw [if_pos hA, hel]; rfl
  rw [hR]
  clear hR
  obtain ⟨e1, e2, e3, e4, e5, e6, e7, e8, e9, hf, he⟩ := hT
  obtain ⟨pf, px⟩ := p
  obtain ⟨rk, rs, rp, fa, fl, fc, rc, ea, el, ec⟩ := r
  unfold isE at hA
  simp only at *
  obtain ⟨rfl, em, hk⟩ := hA
  rw [← e1] at hk
  rw [hel] at e6
  obtain rfl : el = 1 := by simpa using e6
  obtain ⟨b, off, rfl, hb, hcs⟩ := he.2.2 (by omega)
  obtain ⟨q, hq, c0, c1, c2, c3, c4, c5⟩ := hcs 0 e (by rw [hel]; rfl)
  have HQ := Lib.hid hq
  have hec := he.1
  have hem := he.2.1
  simp only [Nat.zero_mul, Nat.add_zero] at c0 c1 c2 c3 c4 c5
  have hcc : ∀ (o : Nat) (x : Value), w0.cell? ⟨b, o, none⟩ = some x → w.cell? ⟨b, o, none⟩ = some x := fun o x hx => (hbw.cell (p := ⟨b, o, none⟩) hb).trans hx
  replace c0 := hcc _ _ c0
  replace c1 := hcc _ _ c1
  replace c2 := hcc _ _ c2
  replace c3 := hcc _ _ c3
  replace c4 := hcc _ _ c4
  replace c5 := hcc _ _ c5
  replace hb : b < w.heap.size := Nat.lt_of_lt_of_le hb hbw.size
  clear hcc hbw
  clear hf he hcs e1 e2 e3 e4 e5 e6 e7 e8 e9 hq
  subst hk
  obtain ⟨qk, qs, qp, qfa, qfl, qfc, qc, qea, qel, qec⟩ := q
  unfold Raw.val
  simp only at *
  go_enter Try.func57, Try.ntmps57
  go_wp2_with fail
  refine bodyPost_ret (v := .tuple #[.agg #[.int .i64 qk, .int .i64 qs, .bool qp, .slice qfa qfl qfc, .int .i64 qc, .slice qea qel qec], .int .i64 0]) ?hres rfl ?post
  case hres =>
    refine ret_ct (cs := [.int .i64 qk, .int .i64 qs, .bool qp, .slice qfa qfl qfc, .int .i64 qc, .slice qea qel qec]) (t := 5) (c := 4) rfl rfl rfl Try.underlying25 rfl (by kernel_rfl) (range6 ?_ ?_ ?_ ?_ ?_ ?_)
    all_goals simp [go_sem, ↓IntWalk.iteOmega, cell_upd2]
  case post => exact ⟨⟨_, rfl, fun u hu => by cases hu; exact HQ.out⟩, more_of_below (by repeat (first | with_reducible exact Below.refl _ _ | with_reducible refine below_mo ?_ _ | with_reducible refine below_al ?_ _ | with_reducible refine below_dr ?_ | with_reducible refine below_dn ?_ _ | with_reducible refine below_st ?_ (by simp <;> omega) _))⟩
set_option maxRecDepth 100000 in
set_option maxHeartbeats 3200000 in
theorem part_fd (n : Nat) (t : TyF (Ty n)) (r : Raw) (w0 w : World) (hT : TyAt w0 (n + 1) t r) (hbw : Below w0.heap.size w0 w) (p : Pt) (ia : Option Addr) (ic : Nat) (h1 : p.idx ≤ ic) (h2 : ic ≤ 9223372036854775807)
    (hA : p.idx = 0 ∧ isE p.field = false ∧ (t.kind = 3 ∨ t.kind = 4)) : Calls Try.prog 57 #[r.val, .agg #[.string p.field, .slice ia p.idx ic]] w (PartC w0 w (partE t p)) := by
  have hR : partE t p = (if ixK (fun f => nmE f.name p.field) t.fields < 0 then (6, none) else (0, (t.fields[(ixK (fun f => nmE f.name p.field) t.fields).toNat]?).map (fun f => f.type))) := by
    unfold partE; rw [if_neg (by omega), if_pos hA]
  rw [hR]
  clear hR
  obtain ⟨e1, e2, e3, e4, e5, e6, e7, e8, e9, hf, he⟩ := hT
  obtain ⟨pf, px⟩ := p
  obtain ⟨rk, rs, rp, fa, fl, fc, rc, ea, el, ec⟩ := r
  unfold isE at hA
  simp only at *
  obtain ⟨rfl, em, hk⟩ := hA
  rw [← e1] at hk
  subst e4
  have IX : Hid (∀ (W : World) (X : Nat), Below w.heap.size w W → W.cell? ⟨X, 0, none⟩ = some (.string pf) → Calls Try.prog 58 #[.slice fa t.fields.length fc, .func (.func 72) #[] #[.pointer (some ⟨X, 0, none⟩)]] W (Gives W (.int .i64 (ixK (fun v => nmE v.name pf) t.fields)))) := Lib.hid (fun W X hW hX => ix_part t.fields fa fc W (FdsAt.below hW (FdsAt.below hbw hf)) X pf hX)
  have HF := Lib.hid hf.2.2
  have hfc := hf.1
  have hfm := hf.2.1
  have hix := ixK_ge (fun v : FdF (Ty n) => nmE v.name pf) t.fields
  clear hf he e1 e2 e3 e5 e6 e7 e8 e9
  generalize hI : ixK (fun v : FdF (Ty n) => nmE v.name pf) t.fields = I at *
  clear hI
  unfold Raw.val
  simp only
  by_cases hI : I < 0
  · obtain rfl : I = -1 := by omega
    rcases hk with rfl | rfl
    all_goals
      go_enter Try.func57, Try.ntmps57
      go_wp2_with (go_at_call 58; refine (IX.out _ _ (by repeat (first | with_reducible exact Below.refl _ _ | with_reducible refine below_mo ?_ _ | with_reducible refine below_al ?_ _)) (by simp [go_sem, ↓IntWalk.iteOmega])).mono ?_; rintro e w1 ⟨rfl, p1, rfl⟩)
      refine bodyPost_ret (v := .tuple #[.agg #[.int .i64 0, .int .i64 0, .bool false, .slice none 0 0, .int .i64 0, .slice none 0 0], .int .i64 6]) ?hres rfl ?post
      case hres =>
        refine ret_ct (cs := [.int .i64 0, .int .i64 0, .bool false, .slice none 0 0, .int .i64 0, .slice none 0 0]) (t := 5) (c := 4) rfl rfl rfl Try.underlying25 rfl (by kernel_rfl) (range6 ?_ ?_ ?_ ?_ ?_ ?_)
        all_goals simp [go_sem, ↓IntWalk.iteOmega, cell_upd2]
      case post => exact ⟨⟨zRaw, rfl, fun u hu => by cases hu⟩, more_of_below (by repeat (first | with_reducible exact Below.refl _ _ | with_reducible refine below_mo ?_ _ | with_reducible refine below_al ?_ _ | with_reducible refine below_dr ?_ | with_reducible refine below_dn ?_ _ | with_reducible refine below_st ?_ (by simp <;> omega) _))⟩
  · rw [if_neg hI]
    obtain ⟨i, rfl⟩ : ∃ i : Nat, I = i := ⟨I.toNat, by omega⟩
    have hil : i < t.fields.length := by omega
    obtain ⟨b, off, rfl, hb, hcs⟩ := HF.out (by omega)
    obtain ⟨f, hfi⟩ := get_some t.fields i hil
    obtain ⟨q, hq, hrg, hnm, c0, c1, c2, c3, c4, c5, c6, c7, c8⟩ := hcs i f hfi
    have HQ := Lib.hid hq
    have hcc : ∀ (o : Nat) (x : Value), w0.cell? ⟨b, o, none⟩ = some x → w.cell? ⟨b, o, none⟩ = some x := fun o x hx => (hbw.cell (p := ⟨b, o, none⟩) hb).trans hx
    replace c1 := hcc _ _ c1
    replace c2 := hcc _ _ c2
    replace c3 := hcc _ _ c3
    replace c4 := hcc _ _ c4
    replace c5 := hcc _ _ c5
    replace c6 := hcc _ _ c6
    replace hb : b < w.heap.size := Nat.lt_of_lt_of_le hb hbw.size
    clear hcc
    rw [show ((i : Int)).toNat = i by omega, hfi]
    simp only [Option.map_some]
    clear hcs hq hfi hI
    obtain ⟨qk, qs, qp, qfa, qfl, qfc, qc, qea, qel, qec⟩ := q
    simp only at c1 c2 c3 c4 c5 c6
    have hii : (0 : Int) ≤ (i : Int) := by omega
    rcases hk with rfl | rfl
    all_goals
      go_enter Try.func57, Try.ntmps57
      go_wp2_with (go_at_call 58; refine (IX.out _ _ (by repeat (first | with_reducible exact Below.refl _ _ | with_reducible refine below_mo ?_ _ | with_reducible refine below_al ?_ _)) (by simp [go_sem, ↓IntWalk.iteOmega])).mono ?_; rintro e w1 ⟨rfl, p1, rfl⟩)
      refine bodyPost_ret (v := .tuple #[.agg #[.int .i64 qk, .int .i64 qs, .bool qp, .slice qfa qfl qfc, .int .i64 qc, .slice qea qel qec], .int .i64 0]) ?hres rfl ?post
      case hres =>
        refine ret_ct (cs := [.int .i64 qk, .int .i64 qs, .bool qp, .slice qfa qfl qfc, .int .i64 qc, .slice qea qel qec]) (t := 5) (c := 4) rfl rfl rfl Try.underlying25 rfl (by kernel_rfl) (range6 ?_ ?_ ?_ ?_ ?_ ?_)
        all_goals simp [go_sem, ↓IntWalk.iteOmega, cell_upd2]
      case post => exact ⟨⟨_, rfl, fun u hu => by cases hu; exact HQ.out⟩, more_of_below (by repeat (first | with_reducible exact Below.refl _ _ | with_reducible refine below_mo ?_ _ | with_reducible refine below_al ?_ _ | with_reducible refine below_dr ?_ | with_reducible refine below_dn ?_ _ | with_reducible refine below_st ?_ (by simp <;> omega) _))⟩
/-- the program's part, of a sound type. -/
theorem part_any (n : Nat) (t : TyF (Ty n)) (hs : soundF (n + 1) t = 0) (r : Raw) (w0 w : World) (hT : TyAt w0 (n + 1) t r) (hbw : Below w0.heap.size w0 w) (p : Pt) (ia : Option Addr) (ic : Nat) (h1 : p.idx ≤ ic) (h2 : ic ≤ 9223372036854775807) : Calls Try.prog 57 #[r.val, .agg #[.string p.field, .slice ia p.idx ic]] w (PartC w0 w (partE t p)) := by
  by_cases hA : p.idx = 1 ∧ isE p.field = true ∧ t.kind = 5
  · rcases sound_cases n t hs with ⟨hk, _⟩ | ⟨_, _, _, _, _, _, e, he, _⟩ | ⟨hk, _⟩
    · omega
    · exact part_el n t r w0 w hT hbw p ia ic h1 h2 hA e he
    · omega
  · by_cases hB : p.idx = 0 ∧ isE p.field = false ∧ (t.kind = 3 ∨ t.kind = 4)
    · exact part_fd n t r w0 w hT hbw p ia ic h1 h2 hB
    · exact part_no n t r w0 w hT.1 p ia ic h1 h2 hA hB
/-- a part of a sound type is sound; of one that may be laid, too. -/
theorem part_sound {n : Nat} {t : TyF (Ty n)} (hs : soundF (n + 1) t = 0) {p : Pt} {u : Ty n} (h : (partE t p).2 = some u) : soundF n u = 0 := by
  unfold partE at h
  rcases sound_cases n t hs with ⟨hk, _⟩ | ⟨hk, _, _, _, _, _, e, he, hse⟩ | ⟨hk, _, _, _, _, _, hf⟩
  · rw [if_neg (by omega), if_neg (by omega)] at h
    cases h
  · split at h
    · rw [he] at h
      cases h
      exact hse
    · rw [if_neg (by omega)] at h
      cases h
  · rw [if_neg (by omega)] at h
    split at h
    · split at h
      · cases h
      · obtain ⟨f, h1, rfl⟩ := Option.map_eq_some_iff.1 h
        exact (hf _ f h1).1
    · cases h
end Go.Proofs.Ytlbkloamabomcaa
namespace Go.Proofs.Ytlbkloamabomcaa
open Go.RowKit Go.Sort
set_option linter.unusedVariables false
set_option linter.unusedSimpArgs false
/-- along the parts of a place. -/
def goP : (n : Nat) → Ty n → List Pt → Int × Option ((m : Nat) × Ty m)
  | n, t, [] => (0, some ⟨n, t⟩)
  | 0, t, _ :: _ => nomatch t
  | n + 1, t, p :: ps => match (partE (show TyF (Ty n) from t) p).2 with
    | some u => goP n u ps
    | none => ((partE (show TyF (Ty n) from t) p).1, none)
theorem partE_cases {n : Nat} {t : TyF (Ty n)} (hs : soundF (n + 1) t = 0) (p : Pt) : (∃ u, partE t p = (0, some u) ∧ soundF n u = 0) ∨ (∃ e, partE t p = (e, none) ∧ e ≠ 0) := by
  by_cases hA : p.idx = 1 ∧ isE p.field = true ∧ t.kind = 5
  · rcases sound_cases n t hs with ⟨hk, _⟩ | ⟨_, _, _, _, _, _, e, he, hse⟩ | ⟨hk, _⟩
    · omega
    · exact .inl ⟨e, by unfold partE; rw [if_pos hA, he]; rfl, hse⟩
    · omega
  · by_cases hB : p.idx = 0 ∧ isE p.field = false ∧ (t.kind = 3 ∨ t.kind = 4)
    · have hg := ixK_ge (fun f : FdF (Ty n) => nmE f.name p.field) t.fields
      have hR : partE t p = (if ixK (fun f => nmE f.name p.field) t.fields < 0 then (6, none) else (0, (t.fields[(ixK (fun f => nmE f.name p.field) t.fields).toNat]?).map (fun f => f.type))) := by
        unfold partE; rw [if_neg (by omega), if_pos hB]
      by_cases hi : ixK (fun f : FdF (Ty n) => nmE f.name p.field) t.fields < 0
      · exact .inr ⟨6, by rw [hR, if_pos hi], by decide⟩
      · obtain ⟨f, hf⟩ := get_some t.fields (ixK (fun f : FdF (Ty n) => nmE f.name p.field) t.fields).toNat (by omega)
        have h2 : partE t p = (0, some f.type) := by rw [hR, if_neg hi, hf]; rfl
        exact .inl ⟨f.type, h2, part_sound hs (by rw [h2])⟩
    · exact .inr ⟨8, by unfold partE; rw [if_neg hA, if_neg hB], by decide⟩
theorem goP_some {n : Nat} {t : TyF (Ty n)} {p : Pt} {u : Ty n} (h : partE t p = (0, some u)) (ps : List Pt) : goP (n + 1) t (p :: ps) = goP n u ps := by
  show (match (partE t p).2 with | some u => goP n u ps | none => ((partE t p).1, none)) = _
  rw [h]
theorem goP_none {n : Nat} {t : TyF (Ty n)} {p : Pt} {e : Int} (h : partE t p = (e, none)) (ps : List Pt) : goP (n + 1) t (p :: ps) = (e, none) := by
  show (match (partE t p).2 with | some u => goP n u ps | none => ((partE t p).1, none)) = _
  rw [h]
/-- what lies at a place, or the error. -/
def placeE {n : Nat} (l : List (Vr n)) (nm : ByteArray) (ps : List Pt) : Int × Option ((m : Nat) × Ty m) :=
  if ixK (fun v => nmE v.name nm) l < 0 then (6, none) else
    match l[(ixK (fun v => nmE v.name nm) l).toNat]? with
      | none => (6, none)
      | some v => if SoundF n v.type ≠ 0 then (SoundF n v.type, none) else goP n v.type ps
/-- what Place gives back. -/
def PlcC (w : World) (R : Int × Option ((m : Nat) × Ty m)) (e : Ending) (w' : World) : Prop := (∃ q : Raw, e = .returned (.tuple #[q.val, .int .i64 R.1]) ∧ ∀ m u, R.2 = some ⟨m, u⟩ → TyAt w m u q) ∧ ∃ p : Regrown, w' = more w p
theorem range6v {w : World} {b : Nat} {q : Raw} (h : TyB6 w b q.kind q.size q.packed q.fa q.fl q.fc q.count q.ea q.el q.ec) : w.rangeAt b 0 [.int .i64 q.kind, .int .i64 q.size, .bool q.packed, .slice q.fa q.fl q.fc, .int .i64 q.count, .slice q.ea q.el q.ec] := by
  obtain ⟨h0, h1, h2, h3, h4, h5⟩ := h
  exact range6 h0 h1 h2 h3 h4 h5
set_option maxRecDepth 100000 in
set_option maxHeartbeats 6400000 in
theorem place_any' {n : Nat} (l : List (Vr n)) (a : Option Addr) (c : Nat) (w : World) (hV : VrsAt w l a c) (nm : ByteArray) (ps : List Pt) (pa : Option Addr) (pc : Nat) (hP : PtsAt w ps pa pc) :
    Calls Try.prog 35 #[.slice a l.length c, .agg #[.string nm, .slice pa ps.length pc]] w (PlcC w (placeE l nm ps)) := by
  have IX : Hid (∀ (W : World) (X : Nat), Below w.heap.size w W → W.cell? ⟨X, 0, none⟩ = some (.string nm) → Calls Try.prog 37 #[.slice a l.length c, .func (.func 56) #[] #[.pointer (some ⟨X, 0, none⟩)]] W (Gives W (.int .i64 (ixK (fun v => nmE v.name nm) l)))) := Lib.hid (fun W X hW hX => ix_place l a c W (hV.below hW) X nm hX)
  have SO := Lib.hid (fun (t : Ty n) (r : Raw) (W : World) (hT : TyAt w n t r) (hW : Below w.heap.size w W) => Sound_any n t r W (hT.below hW))
  have HV := Lib.hid hV.2.2
  have hc1 := hV.1
  have hc2 := hV.2.1
  have HPT := Lib.hid hP.2.2
  have hpc1 := hP.1
  have hpc2 := hP.2.1
  have hix := ixK_ge (fun v : Vr n => nmE v.name nm) l
  have HPE : Hid (placeE l nm ps = if ixK (fun v => nmE v.name nm) l < 0 then (6, none) else
    match l[(ixK (fun v => nmE v.name nm) l).toNat]? with
      | none => (6, none)
      | some v => if SoundF n v.type ≠ 0 then (SoundF n v.type, none) else goP n v.type ps) := Lib.hid rfl
  clear hV hP
  generalize ixK (fun v : Vr n => nmE v.name nm) l = I at *
  by_cases hI : I < 0
  · obtain rfl : I = -1 := by omega
    have hR : placeE l nm ps = (6, none) := by rw [HPE.out, if_pos hI]
    rw [hR]
    go_enter Try.func35, Try.ntmps35
    go_wp2_with (go_at_call 37; refine (IX.out _ _ (by repeat (first | with_reducible exact Below.refl _ _ | with_reducible refine below_mo ?_ _ | with_reducible refine below_al ?_ _)) (by simp [go_sem, ↓IntWalk.iteOmega])).mono ?_; rintro e w1 ⟨rfl, p1, rfl⟩)
    refine bodyPost_ret (v := .tuple #[.agg #[.int .i64 0, .int .i64 0, .bool false, .slice none 0 0, .int .i64 0, .slice none 0 0], .int .i64 6]) ?hresA rfl ?postA
    case hresA =>
      refine ret_ct (cs := [.int .i64 0, .int .i64 0, .bool false, .slice none 0 0, .int .i64 0, .slice none 0 0]) (t := 5) (c := 4) rfl rfl rfl Try.underlying25 rfl (by kernel_rfl) (range6 ?_ ?_ ?_ ?_ ?_ ?_)
      all_goals simp [go_sem, ↓IntWalk.iteOmega, cell_upd2]
    case postA => exact ⟨⟨zRaw, rfl, fun m u hu => by cases hu⟩, more_of_below (by repeat (first | with_reducible exact Below.refl _ _ | with_reducible refine below_mo ?_ _ | with_reducible refine below_al ?_ _ | with_reducible refine below_dr ?_ | with_reducible refine below_dn ?_ _ | with_reducible refine below_st ?_ (by simp <;> omega) _))⟩
  · obtain ⟨i, rfl⟩ : ∃ i : Nat, I = i := ⟨I.toNat, by omega⟩
    have hil : i < l.length := by omega
    obtain ⟨b, off, rfl, hb, hcs⟩ := HV.out (by omega)
    obtain ⟨v, hv⟩ := get_some l i hil
    obtain ⟨q, hq, hnm, c0, c1, c2, c3, c4, c5, c6⟩ := hcs i v hv
    have hR : placeE l nm ps = if SoundF n v.type ≠ 0 then (SoundF n v.type, none) else goP n v.type ps := by
      rw [HPE.out, if_neg hI, show ((i : Int)).toNat = i by omega, hv]
    rw [hR]
    have SOK := Lib.hid (fun W (hW : Below w.heap.size w W) => SO.out v.type q W hq hW)
    have HQ := Lib.hid hq
    have hii : (0 : Int) ≤ (i : Int) := by omega
    clear hcs hq hI hR HPE hv SO
    obtain ⟨qk, qs, qp, qfa, qfl, qfc, qc, qea, qel, qec⟩ := q
    unfold Raw.val at SOK
    simp only at c1 c2 c3 c4 c5 c6 SOK
    by_cases hS : SoundF n v.type = 0
    · rw [if_neg (by simp [hS])]
      rw [hS] at SOK
      have hsf := SoundF_zero hS
      have HSF := Lib.hid hsf
      clear hsf hS
      go_enter Try.func35, Try.ntmps35
      go_wp2_with (first
        | (go_at_call 37; refine (IX.out _ _ (by repeat (first | with_reducible exact Below.refl _ _ | with_reducible refine below_mo ?_ _ | with_reducible refine below_al ?_ _)) (by simp [go_sem, ↓IntWalk.iteOmega])).mono ?_; rintro e w1 ⟨rfl, p1, rfl⟩)
        | (go_at_call 40; refine (SOK.out _ (by repeat (first | with_reducible exact Below.refl _ _ | with_reducible refine below_mo ?_ _ | with_reducible refine below_al ?_ _))).mono ?_; rintro e w1 ⟨rfl, p2, rfl⟩))
      refine wp_letter (R := fun W => Below w.heap.size w W ∧ W.cell? ⟨w.heap.size, 1, none⟩ = some (.slice pa ps.length pc) ∧ TyB6 W (w.heap.size + 1) 0 0 false none 0 0 0 none 0 0 ∧ TyB6 W (w.heap.size + 1 + 1 + p1.os.size) qk qs qp qfa qfl qfc qc qea qel qec ∧ (∀ k, W.frozen? ⟨w.heap.size + 1, k, none⟩ = false) ∧ (∀ k, W.frozen? ⟨w.heap.size + 1 + 1 + p1.os.size, k, none⟩ = false)) ?letA ?_
      case letA =>
        refine ⟨?_, by simp [go_sem, ↓IntWalk.iteOmega], ⟨?_, ?_, ?_, ?_, ?_, ?_⟩, ⟨?_, ?_, ?_, ?_, ?_, ?_⟩, fun k => ?_, fun k => ?_⟩
        · repeat (first | with_reducible exact Below.refl _ _ | with_reducible refine below_mo ?_ _ | with_reducible refine below_al ?_ _)
        all_goals first | (simp [go_sem, ↓IntWalk.iteOmega]; done) | (simp [go_sem, ↓IntWalk.iteOmega]; intro h; omega)
      rintro wA ⟨hA1, xA, hZ, hT, hzZ, hzT⟩
      have HA1 := Lib.hid hA1
      have HZ := Lib.hid hZ
      have HZZ := Lib.hid hzZ
      have HZT := Lib.hid hzT
      have HTA := Lib.hid hT
      have hbs := hA1.size
      have hlX := cell_lt2 xA
      have hlZ := cell_lt2 hZ.1
      have hlT := cell_lt2 hT.1
      have hTX : w.heap.size + 1 < w.heap.size + 1 + 1 + p1.os.size := by omega
      generalize w.heap.size + 1 + 1 + p1.os.size = T at *
      clear hA1 hZ hzZ hzT hT c0 c1 c2 c3 c4 c5 c6 SOK IX
      go_loopw [33] (fun v33 wr => ∃ k : Nat, k ≤ ps.length ∧ v33 = .int .i64 k ∧ ∃ (m : Nat) (u : Ty m) (q : Raw), goP n v.type ps = goP m u (ps.drop k) ∧ soundF m u = 0 ∧ TyAt w m u q ∧ TyB6 wr T q.kind q.size q.packed q.fa q.fl q.fc q.count q.ea q.el q.ec ∧ Onto T wA wr) (fun v33 _ => ps.length - (intOf v33).toNat)
      case atStart => exact ⟨0, by omega, rfl, n, v.type, _, by rw [List.drop_zero], HSF.out, HQ.out, HTA.out, Onto.refl⟩
      case round =>
        obtain ⟨k, hkl, rfl, m, u, q, hgo, hsu, hqu, hqb, hon⟩ := hrel
        have HGO := Lib.hid hgo
        have HSU := Lib.hid hsu
        have HQU := Lib.hid hqu
        have HON := Lib.hid hon
        have hson := hon.size
        have x1 := (hon.cell hlX (by omega)).trans xA
        obtain ⟨y0, y1, y2, y3, y4, y5⟩ := hqb
        obtain ⟨z0, z1, z2, z3, z4, z5⟩ := HZ.out
        replace z0 := (hon.cell hlZ (by omega)).trans z0
        replace z1 := (hon.cell hlZ (by omega)).trans z1
        replace z2 := (hon.cell hlZ (by omega)).trans z2
        replace z3 := (hon.cell hlZ (by omega)).trans z3
        replace z4 := (hon.cell hlZ (by omega)).trans z4
        replace z5 := (hon.cell hlZ (by omega)).trans z5
        have zf : ∀ j, wr.frozen? ⟨w.heap.size + 1, j, none⟩ = false := fun j => (hon.frozen hlZ).trans (HZZ.out j)
        have tf : ∀ j, wr.frozen? ⟨T, j, none⟩ = false := fun j => (hon.frozen hlT).trans (HZT.out j)
        have hbw : Below w.heap.size w wr := hon.under HA1.out (by omega)
        have HBW := Lib.hid hbw
        have hlr : w.heap.size ≤ wr.heap.size := hbw.size
        have hlXr := cell_lt2 x1
        have hlZr := cell_lt2 z0
        have hlTr := cell_lt2 y0
        clear hgo hsu hqu hon hbw
        by_cases hlt : (k : Int) < ps.length
        · obtain ⟨pb, poff, rfl, hpb, hpp⟩ := HPT.out (by omega)
          obtain ⟨pt, hpt⟩ := get_some ps k (by omega)
          obtain ⟨hnf, d0, ia, ic, d1, hic1, hic2⟩ := hpp k pt hpt
          replace d0 := (HBW.out.cell (p := ⟨pb, poff + k * 2, none⟩) hpb).trans d0
          replace d1 := (HBW.out.cell (p := ⟨pb, poff + k * 2 + 1, none⟩) hpb).trans d1
          have hpbr : pb < wr.heap.size := by omega
          have hdr : ps.drop k = pt :: ps.drop (k + 1) := by
            have hk' : k < ps.length := by omega
            rw [List.drop_eq_getElem_cons hk']
            congr 1
            exact Option.some.inj ((List.getElem?_eq_getElem hk').symm.trans hpt)
          rw [hdr] at HGO
          clear hpp hpt hdr
          cases m with
          | zero => exact nomatch u
          | succ m =>
            have PT := Lib.hid (fun (W : World) (hW : Below w.heap.size w W) => part_any m u HSU.out q w W HQU.out hW pt ia ic hic1 hic2)
            obtain ⟨pf, px⟩ := pt
            obtain ⟨qk, qs, qp, qfa, qfl, qfc, qc, qea, qel, qec⟩ := q
            unfold Raw.val at PT
            simp only at PT y0 y1 y2 y3 y4 y5 d0 d1 hic1
            rcases partE_cases HSU.out ⟨pf, px⟩ with ⟨u', hu', hsu'⟩ | ⟨er, hu', her⟩
            · rw [hu'] at PT
              have PT2 : Hid (∀ W, Below w.heap.size w W → Calls Try.prog 57 #[.agg #[.int .i64 qk, .int .i64 qs, .bool qp, .slice qfa qfl qfc, .int .i64 qc, .slice qea qel qec], .agg #[.string pf, .slice ia px ic]] W fun e w' => ∃ q : Raw, e = .returned (.tuple #[.agg #[.int .i64 q.kind, .int .i64 q.size, .bool q.packed, .slice q.fa q.fl q.fc, .int .i64 q.count, .slice q.ea q.el q.ec], .int .i64 0]) ∧ TyAt w m u' q ∧ ∃ p : Regrown, w' = more W p) := Lib.hid (fun W hW => (PT.out W hW).mono (by
                rintro e w1 ⟨⟨q, rfl, hq⟩, hp⟩
                exact ⟨q, rfl, hq u' rfl, hp⟩))
              have HG2 : Hid (goP n v.type ps = goP m u' (ps.drop (k + 1))) := Lib.hid (HGO.out.trans (goP_some hu' _))
              have HS2 := Lib.hid hsu'
              clear PT hu' hsu'
              go_wp2_with (go_at_call 57; refine (PT2.out _ (by repeat (first | with_reducible exact HBW.out | with_reducible refine below_mo ?_ _ | with_reducible refine below_al ?_ _))).mono ?_; rintro e w1 ⟨q2, rfl, hq2, p5, rfl⟩; have HQ2 := Lib.hid hq2; clear hq2; obtain ⟨q2k, q2s, q2p, q2fa, q2fl, q2fc, q2c, q2ea, q2el, q2ec⟩ := q2; simp only)
              go_roundw
              case rel =>
                refine ⟨k + 1, by omega, by go_num, m, u', _, HG2.out, HS2.out, HQ2.out, ⟨?_, ?_, ?_, ?_, ?_, ?_⟩, ?_⟩
                all_goals first | (simp [go_sem, ↓IntWalk.iteOmega, cell_upd2, y0, y1, y2, y3, y4, y5]; done) | skip
                repeat (first | with_reducible exact HON.out | with_reducible refine Onto.set ?_ _ _ | with_reducible refine Onto.more ?_ _ | with_reducible refine Onto.alloc ?_ _)
              case measure => simp [intOf]; omega
            · rw [hu'] at PT
              have hb1 : (er != 0) = true := by simpa using her
              have HG2 : Hid (goP n v.type ps = (er, none)) := Lib.hid (HGO.out.trans (goP_none hu' _))
              have PT2 : Hid (∀ W, Below w.heap.size w W → Calls Try.prog 57 #[.agg #[.int .i64 qk, .int .i64 qs, .bool qp, .slice qfa qfl qfc, .int .i64 qc, .slice qea qel qec], .agg #[.string pf, .slice ia px ic]] W fun e w' => ∃ q : Raw, e = .returned (.tuple #[.agg #[.int .i64 q.kind, .int .i64 q.size, .bool q.packed, .slice q.fa q.fl q.fc, .int .i64 q.count, .slice q.ea q.el q.ec], .int .i64 er]) ∧ ∃ p : Regrown, w' = more W p) := Lib.hid (fun W hW => (PT.out W hW).mono (by
                rintro e w1 ⟨⟨q, rfl, hq⟩, hp⟩
                exact ⟨q, rfl, hp⟩))
              clear PT hu'
              go_wp2_with (go_at_call 57; refine (PT2.out _ (by repeat (first | with_reducible exact HBW.out | with_reducible refine below_mo ?_ _ | with_reducible refine below_al ?_ _))).mono ?_; rintro e w1 ⟨q2, rfl, p5, rfl⟩; obtain ⟨q2k, q2s, q2p, q2fa, q2fl, q2fc, q2c, q2ea, q2el, q2ec⟩ := q2; simp only)
              refine bodyPost_ret (v := .tuple #[.agg #[.int .i64 0, .int .i64 0, .bool false, .slice none 0 0, .int .i64 0, .slice none 0 0], .int .i64 er]) ?hresC rfl ?postC
              case hresC =>
                refine ret_ct (cs := [.int .i64 0, .int .i64 0, .bool false, .slice none 0 0, .int .i64 0, .slice none 0 0]) (t := 5) (c := 4) rfl rfl rfl Try.underlying25 rfl (by kernel_rfl) (range6 ?_ ?_ ?_ ?_ ?_ ?_)
                all_goals simp [go_sem, ↓IntWalk.iteOmega, cell_upd2, z0, z1, z2, z3, z4, z5]
              case postC =>
                rw [HG2.out]
                exact ⟨⟨zRaw, rfl, fun m u hu => by cases hu⟩, more_of_below (by repeat (first | with_reducible exact HBW.out | with_reducible refine below_mo ?_ _ | with_reducible refine below_al ?_ _ | with_reducible refine below_dr ?_ | with_reducible refine below_dn ?_ _ | with_reducible refine below_st ?_ (by simp <;> omega) _))⟩
        · obtain rfl : k = ps.length := by omega
          have HG2 : Hid (goP n v.type ps = (0, some ⟨m, u⟩)) := Lib.hid (by
            rw [HGO.out, List.drop_length]
            cases m <;> rfl)
          obtain ⟨qk, qs, qp, qfa, qfl, qfc, qc, qea, qel, qec⟩ := q
          simp only at y0 y1 y2 y3 y4 y5
          go_wp2_with fail
          refine bodyPost_ret (v := .tuple #[.agg #[.int .i64 qk, .int .i64 qs, .bool qp, .slice qfa qfl qfc, .int .i64 qc, .slice qea qel qec], .int .i64 0]) ?hresD rfl ?postD
          case hresD =>
            refine ret_ct (cs := [.int .i64 qk, .int .i64 qs, .bool qp, .slice qfa qfl qfc, .int .i64 qc, .slice qea qel qec]) (t := 5) (c := 4) rfl rfl rfl Try.underlying25 rfl (by kernel_rfl) (range6 ?_ ?_ ?_ ?_ ?_ ?_)
            all_goals simp [go_sem, ↓IntWalk.iteOmega, cell_upd2, z0, z1, z2, z3, z4, z5]
          case postD =>
            rw [HG2.out]
            exact ⟨⟨_, rfl, fun m u hu => by cases hu; exact HQU.out⟩, more_of_below (by repeat (first | with_reducible exact HBW.out | with_reducible refine below_mo ?_ _ | with_reducible refine below_al ?_ _ | with_reducible refine below_dr ?_ | with_reducible refine below_dn ?_ _ | with_reducible refine below_st ?_ (by simp <;> omega) _))⟩
    · rw [if_pos hS]
      generalize SoundF n v.type = E at *
      have hb1 : (E != 0) = true := by simpa using hS
      go_enter Try.func35, Try.ntmps35
      go_wp2_with (first
        | (go_at_call 37; refine (IX.out _ _ (by repeat (first | with_reducible exact Below.refl _ _ | with_reducible refine below_mo ?_ _ | with_reducible refine below_al ?_ _)) (by simp [go_sem, ↓IntWalk.iteOmega])).mono ?_; rintro e w1 ⟨rfl, p1, rfl⟩)
        | (go_at_call 40; refine (SOK.out _ (by repeat (first | with_reducible exact Below.refl _ _ | with_reducible refine below_mo ?_ _ | with_reducible refine below_al ?_ _))).mono ?_; rintro e w1 ⟨rfl, p2, rfl⟩))
      refine bodyPost_ret (v := .tuple #[.agg #[.int .i64 0, .int .i64 0, .bool false, .slice none 0 0, .int .i64 0, .slice none 0 0], .int .i64 E]) ?hresB rfl ?postB
      case hresB =>
        refine ret_ct (cs := [.int .i64 0, .int .i64 0, .bool false, .slice none 0 0, .int .i64 0, .slice none 0 0]) (t := 5) (c := 4) rfl rfl rfl Try.underlying25 rfl (by kernel_rfl) (range6 ?_ ?_ ?_ ?_ ?_ ?_)
        all_goals simp [go_sem, ↓IntWalk.iteOmega, cell_upd2]
      case postB => exact ⟨⟨zRaw, rfl, fun m u hu => by cases hu⟩, more_of_below (by repeat (first | with_reducible exact Below.refl _ _ | with_reducible refine below_mo ?_ _ | with_reducible refine below_al ?_ _ | with_reducible refine below_dr ?_ | with_reducible refine below_dn ?_ _ | with_reducible refine below_st ?_ (by simp <;> omega) _))⟩
end Go.Proofs.Ytlbkloamabomcaa
namespace Go.Proofs.Ytlbkloamabomcaa
open Go.RowKit Go.Sort
set_option linter.unusedVariables false
set_option linter.unusedSimpArgs false
def manyK (ps : List Pt) : Nat → Nat
  | 0 => 0
  | k + 1 => manyK ps k + (match ps[k]? with | some p => p.idx | none => 0)
theorem manyK_succ (ps : List Pt) {k : Nat} {p : Pt} (h : ps[k]? = some p) : manyK ps (k + 1) = manyK ps k + p.idx := by
  show manyK ps k + (match ps[k]? with | some p => p.idx | none => 0) = _
  rw [h]
theorem manyK_le (ps : List Pt) (h : ∀ p, p ∈ ps → p.idx ≤ 1) : ∀ k, manyK ps k ≤ k
  | 0 => Nat.le_refl _
  | k + 1 => by
    have ih := manyK_le ps h k
    show manyK ps k + (match ps[k]? with | some p => p.idx | none => 0) ≤ _
    cases hp : ps[k]? with
    | none => simp only; omega
    | some p =>
      have := h p (List.mem_of_getElem? hp)
      simp only
      omega
set_option maxRecDepth 100000 in
set_option maxHeartbeats 3200000 in
theorem many_any (ps : List Pt) (pa : Option Addr) (pc : Nat) (w : World) (hP : PtsAt w ps pa pc) (h : ∀ p, p ∈ ps → p.idx ≤ 1) (nm : ByteArray) : Calls Try.prog 36 #[.agg #[.string nm, .slice pa ps.length pc]] w (Gives w (.int .i64 (manyK ps ps.length))) := by
  have HPT := Lib.hid hP.2.2
  have hpc1 := hP.1
  have hpc2 := hP.2.1
  have HM := Lib.hid (manyK_le ps h)
  have HI := Lib.hid h
  clear hP h
  go_enter Try.func36, Try.ntmps36
  go_wp2_with fail
  go_loopw [3, 9] (fun s i wr => ∃ k : Nat, k ≤ ps.length ∧ i = .int .i64 k ∧ s = .int .i64 (manyK ps k) ∧ Below w.heap.size w wr) (fun _ i _ => ps.length - (intOf i).toNat)
  case atStart => exact ⟨0, by omega, rfl, rfl, by repeat (first | with_reducible exact Below.refl _ _ | with_reducible refine below_al ?_ _)⟩
  case round =>
    obtain ⟨k, hkl, rfl, rfl, hbw⟩ := hrel
    have HBW := Lib.hid hbw
    have hbs := hbw.size
    have hmk := HM.out k
    clear hbw
    by_cases hlt : (k : Int) < ps.length
    · obtain ⟨pb, poff, rfl, hpb, hpp⟩ := HPT.out (by omega)
      obtain ⟨pt, hpt⟩ := get_some ps k (by omega)
      obtain ⟨hnf, d0, ia, ic, d1, hic1, hic2⟩ := hpp k pt hpt
      replace d0 := (HBW.out.cell (p := ⟨pb, poff + k * 2, none⟩) hpb).trans d0
      replace d1 := (HBW.out.cell (p := ⟨pb, poff + k * 2 + 1, none⟩) hpb).trans d1
      have hpbr : pb < wr.heap.size := by omega
      have HS := Lib.hid (manyK_succ ps hpt)
      have hi1 := HI.out pt (List.mem_of_getElem? hpt)
      clear hpp hpt
      go_wp2_with fail
      go_roundw
      case rel => exact ⟨k + 1, by omega, by go_num, by rw [HS.out]; first | rfl | go_num, below_al HBW.out _⟩
      case measure => simp [intOf]; omega
    · obtain rfl : k = ps.length := by omega
      go_wp2_with fail
      go_ret
      exact Gives.mk rfl HBW.out
set_option maxRecDepth 100000 in
set_option maxHeartbeats 3200000 in
theorem rMany_any (ps : List Pt) (pa : Option Addr) (pc : Nat) (w : World) (hP : PtsAt w ps pa pc) (h : ∀ p, p ∈ ps → p.idx ≤ 1) (nm : ByteArray) : Calls Try.prog 26 #[.agg #[.string nm, .slice pa ps.length pc]] w (Gives w (.int .i64 (manyK ps ps.length))) := by
  have HPT := Lib.hid hP.2.2
  have hpc1 := hP.1
  have hpc2 := hP.2.1
  have HM := Lib.hid (manyK_le ps h)
  have HI := Lib.hid h
  clear hP h
  go_enter Try.func26, Try.ntmps26
  go_wp2_with fail
  go_loopw [3, 4] (fun s i wr => ∃ k : Nat, k ≤ ps.length ∧ i = .int .i64 k ∧ s = .int .i64 (manyK ps k) ∧ wr = w.alloc (.cells #[.string nm, .slice pa ps.length pc] 62)) (fun _ i _ => ps.length - (intOf i).toNat)
  case atStart => exact ⟨0, by omega, rfl, rfl, rfl⟩
  case round =>
    obtain ⟨k, hkl, rfl, rfl, rfl⟩ := hrel
    have hmk := HM.out k
    by_cases hlt : (k : Int) < ps.length
    · obtain ⟨pb, poff, rfl, hpb, hpp⟩ := HPT.out (by omega)
      obtain ⟨pt, hpt⟩ := get_some ps k (by omega)
      obtain ⟨hnf, d0, ia, ic, d1, hic1, hic2⟩ := hpp k pt hpt
      have HS := Lib.hid (manyK_succ ps hpt)
      have hi1 := HI.out pt (List.mem_of_getElem? hpt)
      clear hpp hpt
      go_wp2_with fail
      go_roundw
      case rel => exact ⟨k + 1, by omega, by go_num, by rw [HS.out]; first | rfl | go_num, by first | rfl | trivial⟩
      case measure => simp [intOf]; omega
    · obtain rfl : k = ps.length := by omega
      go_wp2_with fail
      go_ret
      exact Gives.mk rfl (by repeat (first | with_reducible exact Below.refl _ _ | with_reducible refine below_al ?_ _))
/-- where a place leads to something, each part has one index at most. -/
theorem goP_idx : ∀ (n : Nat) (t : Ty n) (ps : List Pt) (m : Nat) (u : Ty m), soundF n t = 0 → goP n t ps = (0, some ⟨m, u⟩) → ∀ p, p ∈ ps → p.idx ≤ 1
  | n, t, [], m, u, _, _, p, hp => by cases hp
  | 0, t, _ :: _, _, _, _, _, _, _ => nomatch t
  | n + 1, t, p0 :: ps, m, u, hs, h, p, hp => by
    rcases partE_cases (t := t) hs p0 with ⟨u', hu', hsu'⟩ | ⟨er, hu', her⟩
    · rw [goP_some hu'] at h
      rcases List.mem_cons.1 hp with rfl | hp
      · unfold partE at hu'
        split at hu'
        · omega
        · split at hu'
          · omega
          · cases hu'
      · exact goP_idx n u' ps m u hsu' h p hp
    · rw [goP_none hu'] at h
      cases h
end Go.Proofs.Ytlbkloamabomcaa
namespace Go.Proofs.Ytlbkloamabomcaa
open Go.RowKit Go.Sort
set_option linter.unusedVariables false
set_option linter.unusedSimpArgs false
theorem SoundF_of {n : Nat} {t : Ty n} (h : checkF n t = 0) : SoundF n t = 0 := (checkF_zero h).1
/-- an array that may be laid: its element may be, too. -/
theorem checkF_elem {n : Nat} {t : TyF (Ty n)} (h : checkF (n + 1) t = 0) {e : Ty n} (hk : t.kind = 5) (he : t.elem = [e]) : checkF n e = 0 ∧ 0 ≤ (formOf n e).1 ∧ (formOf n e).1 ≤ 65536 ∧ (formOf n e).1 * t.count = (formOf (n + 1) t).1 := by
  obtain ⟨h1, h2, h3, g, hg, hgo⟩ := checkF_zero h
  have hS : SoundF n e = 0 := (Sound_parts h1).2 0 e (by rw [he]; rfl)
  rw [formF_succ] at hg
  unfold formOne at hg
  rw [if_neg (by omega), if_pos hk, he] at hg
  simp only [List.head?_cons, Option.bind_some] at hg
  cases hge : formF n e with
  | none => rw [hge] at hg; cases hg
  | some ge =>
    rw [hge] at hg
    simp only [Option.bind_some] at hg
    split at hg
    · cases hg
      have ht : tornF n e = false := by
        rw [tornF_succ, he] at h3
        simp at h3
        exact h3.1.2
      have hc : checkF n e = 0 := by
        unfold checkF
        rw [if_neg (by simp [hS]), if_neg (by simp [ht]), if_neg (by simp [hge])]
      obtain ⟨_, hse, _, g2, hg2, hgo2⟩ := checkF_zero hc
      rw [hge] at hg2
      cases hg2
      have hok := form_ok n e hse ge hge
      rw [hgo2, hgo]
      exact ⟨hc, hok.1, hok.2.1, rfl⟩
    · cases hg
/-- a group that may be laid: the types of its fields may be, too. -/
theorem checkF_field {n : Nat} {t : TyF (Ty n)} (h : checkF (n + 1) t = 0) (hk : t.kind = 3 ∨ t.kind = 4) {i : Nat} {f : FdF (Ty n)} (hf : t.fields[i]? = some f) : checkF n f.type = 0 ∧ ∃ s : Sp, (spotsF (n + 1) t)[i]? = some s ∧ 0 ≤ s.at_ ∧ s.at_ ≤ 65536 ∧ (tkind n f.type ≠ 1 → s.at_ + (formOf n f.type).1 ≤ (formOf (n + 1) t).1) ∧ 0 ≤ (formOf n f.type).1 := by
  obtain ⟨h1, h2, h3, g, hg, hgo⟩ := checkF_zero h
  have hS : SoundF n f.type = 0 := (Sound_parts h1).1 i f hf
  have hil : i < t.fields.length := (List.getElem?_eq_some_iff.1 hf).1
  obtain ⟨q, hq, hg1, hg2, hg3⟩ := grp_parts n t hk hg
  obtain ⟨p, f', g', e1, e2, e3, e4, e5⟩ := spK_get (formF n) (tsize n) (tkind n) t _ q hq i hil
  rw [hf] at e2
  cases e2
  have e5 : (spotsF (n + 1) t)[i]? = _ := e5
  have hok := spots_ok n t h2 hk hq (by omega) i _ e5
  have ht : tornF n f.type = false := by
    rw [tornF_succ] at h3
    simp at h3
    exact h3.2 f (List.mem_of_getElem? hf)
  have hc : checkF n f.type = 0 := by
    unfold checkF
    rw [if_neg (by simp [hS]), if_neg (by simp [ht]), if_neg (by simp [e3])]
  obtain ⟨_, hse, _, g2, hg2', hgo2⟩ := checkF_zero hc
  rw [e3] at hg2'
  cases hg2'
  obtain ⟨hsf, hfd⟩ := field_ok n t h2 hk i f g' hf e3
  have hbk : f.isBits = true → tkind n f.type = 1 := fun hb => by
    rcases sound_cases n t h2 with ⟨hk', _⟩ | ⟨hk', _⟩ | ⟨_, _, _, _, _, _, hF⟩
    · omega
    · omega
    · rcases (hF i f hf).2 with ⟨_, h, _⟩ | ⟨h, _⟩
      · exact h
      · rw [hb] at h; cases h
  have hfk := form_ok n f.type hse g' e3
  have hle := hok.le
  have hb0 := hok.b
  have ha0 := hok.a
  have hw0 := hok.w
  have hl0 := hok.l
  unfold begS sizS at hle
  refine ⟨hc, _, e5, ha0.1, ?_, ?_, by rw [hgo2]; exact hfk.1⟩
  · split at hle <;> omega
  · intro hn
    have hb : f.isBits = false := by
      cases hb : f.isBits
      · rfl
      · exact absurd (hbk hb) hn
    rw [hgo2, hgo]
    have hsb : (spotF t.packed (t.kind == 4) f (tsize n f.type) (tkind n f.type) g' p).isBits = false := by unfold spotF; rw [if_neg (by simp [hb])]
    have hsl : (spotF t.packed (t.kind == 4) f (tsize n f.type) (tkind n f.type) g' p).len = g'.1 := by unfold spotF; rw [if_neg (by simp [hb])]
    rw [if_neg (by rw [hsb]; simp), hsl] at hle
    omega
/-- where one is, along a place: the spot's beginning is small. -/
def WIn (m : Nat) (u : Ty m) (A : Int) : Prop := 0 ≤ A ∧ A ≤ 200000 ∧ (tkind m u ≠ 1 → A + (formOf m u).1 ≤ 131072)
def stepS {n : Nat} (t : TyF (Ty n)) (S : Sp) (p : Pt) (ix : List Nat) : Option (Ty n × Sp × List Nat) :=
  if p.idx = 1 then
    match t.elem.head?, ix with
    | some e, i :: ix' => if t.count ≤ i then none else some (e, ⟨S.at_ + i * (formOf n e).1, (formOf n e).1, S.kind, S.isBits, S.bit, S.width⟩, ix')
    | _, _ => none
  else
    match t.fields[(ixK (fun f : FdF (Ty n) => nmE f.name p.field) t.fields).toNat]?, (spotsF (n + 1) t)[(ixK (fun f : FdF (Ty n) => nmE f.name p.field) t.fields).toNat]? with
    | some f, some s => some (f.type, ⟨s.at_ + S.at_, s.len, s.kind, s.isBits, s.bit, s.width⟩, ix)
    | _, _ => none
def findP : (n : Nat) → Ty n → Sp → List Pt → List Nat → Option Sp
  | _, _, S, [], _ => some S
  | 0, t, _, _ :: _, _ => nomatch t
  | n + 1, t, S, p :: ps, ix => match stepS (show TyF (Ty n) from t) S p ix with
    | none => none
    | some (u, S', ix') => findP n u S' ps ix'
theorem findP_nil (n : Nat) (t : Ty n) (S : Sp) (ix : List Nat) : findP n t S [] ix = some S := by cases n <;> rfl
theorem findP_some {n : Nat} {t : TyF (Ty n)} {S S' : Sp} {p : Pt} {ix ix' : List Nat} {u : Ty n} (h : stepS t S p ix = some (u, S', ix')) (ps : List Pt) : findP (n + 1) t S (p :: ps) ix = findP n u S' ps ix' := by
  show (match stepS t S p ix with | none => none | some (u, S', ix') => findP n u S' ps ix') = _
  rw [h]
theorem findP_none {n : Nat} {t : TyF (Ty n)} {S : Sp} {p : Pt} {ix : List Nat} (h : stepS t S p ix = none) (ps : List Pt) : findP (n + 1) t S (p :: ps) ix = none := by
  show (match stepS t S p ix with | none => none | some (u, S', ix') => findP n u S' ps ix') = _
  rw [h]
end Go.Proofs.Ytlbkloamabomcaa
namespace Go.Proofs.Ytlbkloamabomcaa
open Go.RowKit Go.Sort
set_option linter.unusedVariables false
set_option linter.unusedSimpArgs false
/-- a row of indices lies so. -/
def IxAt (w : World) (l : List Nat) (a : Option Addr) (c : Nat) : Prop := SlIn w a l.length c (fun b off => ∀ (i : Nat) x, l[i]? = some x → x < 18446744073709551616 ∧ w.cell? ⟨b, off + i, none⟩ = some (.int .u64 x))
theorem IxAt.below {w w' : World} (hb : Below w.heap.size w w') {l : List Nat} {a : Option Addr} {c : Nat} (h : IxAt w l a c) : IxAt w' l a c := by
  obtain ⟨h1, h2, h3⟩ := h
  refine ⟨h1, h2, fun h0 => ?_⟩
  obtain ⟨b, off, ha, hlt, hc⟩ := h3 h0
  exact ⟨b, off, ha, Nat.lt_of_lt_of_le hlt hb.size, fun i v hi => ⟨(hc i v hi).1, (hb.cell (p := ⟨b, off + i, none⟩) hlt).trans (hc i v hi).2⟩⟩
theorem IxAt.tail {w : World} {x : Nat} {l : List Nat} {b off c : Nat} (h : IxAt w (x :: l) (some ⟨b, off, none⟩) c) : IxAt w l (some ⟨b, off + 1, none⟩) (c - 1) := by
  obtain ⟨h1, h2, h3⟩ := h
  simp only [List.length_cons] at h1
  refine ⟨by omega, by omega, fun h0 => ?_⟩
  obtain ⟨b', off', ha, hlt, hc⟩ := h3 (by simp)
  cases ha
  refine ⟨b, off + 1, rfl, hlt, fun i v hi => ?_⟩
  have := hc (i + 1) v (by simpa using hi)
  rw [show off + 1 + i = off + (i + 1) by omega]
  exact this
/-- the walker's cells. -/
structure WkAt (w : World) (X : Nat) (q : Raw) (S : Sp) (ia : Option Addr) (il ic : Nat) : Prop where
  t : TyB6 w X q.kind q.size q.packed q.fa q.fl q.fc q.count q.ea q.el q.ec
  s0 : w.cell? ⟨X, 6, none⟩ = some (.int .i64 S.at_)
  s1 : w.cell? ⟨X, 7, none⟩ = some (.int .i64 S.len)
  s2 : w.cell? ⟨X, 8, none⟩ = some (.int .i64 S.kind)
  s3 : w.cell? ⟨X, 9, none⟩ = some (.bool S.isBits)
  s4 : w.cell? ⟨X, 10, none⟩ = some (.int .i64 S.bit)
  s5 : w.cell? ⟨X, 11, none⟩ = some (.int .i64 S.width)
  ix : w.cell? ⟨X, 12, none⟩ = some (.slice ia il ic)
  fz : ∀ k, w.frozen? ⟨X, k, none⟩ = false
/-- a world in which nothing but one block has turned. -/
structure Ov (X : Nat) (w w' : World) : Prop where
  os : w'.os = w.os
  tape : w'.tape = w.tape
  output : w'.output = w.output
  size : w.heap.size ≤ w'.heap.size
  block : ∀ k, k < w.heap.size → k ≠ X → w'.heap[k]? = w.heap[k]?
theorem Ov.refl {X : Nat} {w : World} : Ov X w w := ⟨rfl, rfl, rfl, Nat.le_refl _, fun _ _ _ => rfl⟩
theorem Ov.trans {X : Nat} {a b c : World} (h : Ov X a b) (k : Ov X b c) : Ov X a c :=
  ⟨k.os.trans h.os, k.tape.trans h.tape, k.output.trans h.output, Nat.le_trans h.size k.size, fun i hi hx => (k.block i (Nat.lt_of_lt_of_le hi h.size) hx).trans (h.block i hi hx)⟩
theorem Ov.of_below {X : Nat} {a b : World} (k : Below a.heap.size a b) : Ov X a b := ⟨k.os, k.tape, k.output, k.size, fun i hi _ => k.block i hi⟩
theorem Ov.below {X : Nat} {a b c : World} (h : Ov X a b) (k : Below b.heap.size b c) : Ov X a c := h.trans (.of_below k)
theorem Ov.alloc {X : Nat} {a b : World} (h : Ov X a b) (o : Obj) : Ov X a (b.alloc o) := h.below (below_al (Below.refl _ _) o)
theorem Ov.more {X : Nat} {a b : World} (h : Ov X a b) (p : Regrown) : Ov X a (more b p) := h.below (below_mo (Below.refl _ _) p)
theorem Ov.drew {X : Nat} {a b : World} (h : Ov X a b) : Ov X a b.drew := h.below (below_dr (Below.refl _ _))
theorem Ov.drewN {X : Nat} {a b : World} (h : Ov X a b) (n : Nat) : Ov X a (b.drewN n) := h.below (below_dn (Below.refl _ _) n)
theorem Ov.set {X : Nat} {a b : World} (h : Ov X a b) {p : Addr} (hp : p.block = X ∨ a.heap.size ≤ p.block) (v : Value) : Ov X a (b.setCell p v) := by
  have hb : Below p.block b (b.setCell p v) := (Below.refl p.block b).setCell (Nat.le_refl _) v
  refine ⟨hb.os.trans h.os, hb.tape.trans h.tape, hb.output.trans h.output, Nat.le_trans h.size hb.size, fun i hi hx => ?_⟩
  rw [← h.block i hi hx]
  exact Below.heap_setCell _ _ _ _ (by omega)
theorem Ov.setX {X : Nat} {a b : World} (h : Ov X a b) (k : Nat) (v : Value) : Ov X a (b.setCell ⟨X, k, none⟩ v) := h.set (.inl rfl) v
theorem Ov.under {X : Nat} {w a b : World} (h : Ov X a b) (hb : Below w.heap.size w a) (hB : w.heap.size ≤ X) : Below w.heap.size w b :=
  ⟨h.os.trans hb.os, h.tape.trans hb.tape, h.output.trans hb.output, Nat.le_trans hb.size h.size, fun i hi => (h.block i (Nat.lt_of_lt_of_le hi hb.size) (by omega)).trans (hb.block i hi)⟩
theorem Onto.ov {X : Nat} {a b : World} (h : Onto X a b) : Ov X a b := by
  induction h with
  | refl => exact .refl
  | set _ k v ih => exact ih.set (.inl rfl) v
  | more _ p ih => exact ih.more p
  | alloc _ o ih => exact ih.alloc o
/-- what a step gives back. -/
def StpC {n : Nat} (w0 w : World) (X : Nat) (R : Option (Ty n × Sp × List Nat)) (e : Ending) (w' : World) : Prop :=
  Ov X w w' ∧ (R = none → e = .returned (.bool false)) ∧ ∀ u S' ix', R = some (u, S', ix') → e = .returned (.bool true) ∧ ∃ q ia ic, WkAt w' X q S' ia ix'.length ic ∧ TyAt w0 n u q ∧ IxAt w0 ix' ia ic
set_option maxRecDepth 100000 in
set_option maxHeartbeats 3200000 in
theorem step_ix {n : Nat} (t : TyF (Ty n)) (hc : checkF (n + 1) t = 0) (hk : t.kind = 5) (u : Ty n) (hel : t.elem = [u]) (q : Raw) (w0 w : World) (hT : TyAt w0 (n + 1) t q) (hB : Below w0.heap.size w0 w) (X : Nat) (hX : w0.heap.size ≤ X) (S : Sp) (hWI : WIn (n + 1) t S.at_)
    (i : Nat) (ix : List Nat) (ia : Option Addr) (ic : Nat) (hI : IxAt w0 (i :: ix) ia ic) (hw : WkAt w X q S ia (ix.length + 1) ic) (pf : ByteArray) (pa : Option Addr) (pc : Nat) (hp1 : 1 ≤ pc) (hp2 : pc ≤ 9223372036854775807) :
    Calls Try.prog 39 #[.pointer (some ⟨X, 0, none⟩), .agg #[.string pf, .slice pa 1 pc]] w (StpC w0 w X (stepS t S ⟨pf, 1⟩ (i :: ix))) := by
  have hR : stepS t S ⟨pf, 1⟩ (i :: ix) = if t.count ≤ i then none else some (u, ⟨S.at_ + i * (formOf n u).1, (formOf n u).1, S.kind, S.isBits, S.bit, S.width⟩, ix) := by
    unfold stepS
    rw [if_pos rfl, hel]
    rfl
  have hS : soundF (n + 1) t = 0 := (checkF_zero hc).2.1
  obtain ⟨hcu, hg0, hg1, hg2⟩ := checkF_elem hc hk hel
  have hcnt : 1 ≤ t.count ∧ t.count ≤ 65536 := by
    rcases sound_cases n t hS with ⟨h, _⟩ | ⟨_, _, _, _, h1, h2, _⟩ | ⟨h, _⟩
    · omega
    · exact ⟨h1, h2⟩
    · omega
  have hA0 := hWI.1
  have hA1 := hWI.2.2 (by show t.kind ≠ 1; omega)
  rw [← hg2] at hA1
  obtain ⟨e1, e2, e3, e4, e5, e6, e7, e8, e9, hf, he⟩ := hT
  have OF := Lib.hid (fun (q2 : Raw) (hq2 : TyAt w0 n u q2) W (hW : Below w0.heap.size w0 W) => Of_any n u q2 W (hq2.below hW))
  rw [hcu] at OF
  obtain ⟨qk, qs, qp, qfa, qfl, qfc, qc, qea, qel, qec⟩ := q
  rw [hel] at e6
  simp only at e1 e2 e3 e4 e5 e6 he
  obtain rfl : qel = 1 := by simpa using e6
  obtain ⟨eb, eoff, rfl, heb, hecs⟩ := he.2.2 (by omega)
  obtain ⟨q2, hq2, g0, g1, g2, g3, g4, g5⟩ := hecs 0 u (by rw [hel]; rfl)
  simp only [Nat.zero_mul, Nat.add_zero] at g0 g1 g2 g3 g4 g5
  have hec := he.1
  have hem := he.2.1
  have HB := Lib.hid hB
  have hcc : ∀ (b o : Nat) (x : Value), b < w0.heap.size → w0.cell? ⟨b, o, none⟩ = some x → w.cell? ⟨b, o, none⟩ = some x := fun b o x hb hx => (HB.out.cell (p := ⟨b, o, none⟩) hb).trans hx
  replace g0 := hcc _ _ _ heb g0
  replace g1 := hcc _ _ _ heb g1
  replace g2 := hcc _ _ _ heb g2
  replace g3 := hcc _ _ _ heb g3
  replace g4 := hcc _ _ _ heb g4
  replace g5 := hcc _ _ _ heb g5
  have HIX := Lib.hid hI
  obtain ⟨i1, i2, i3⟩ := hI
  simp only [List.length_cons] at i1 i3
  obtain ⟨ib, ioff, rfl, hib, hics⟩ := i3 (by omega)
  obtain ⟨hi64, x0⟩ := hics 0 i rfl
  replace x0 := hcc _ _ _ hib x0
  simp only [Nat.add_zero] at x0
  have HTL : Hid (IxAt w0 ix (some ⟨ib, ioff + 1, none⟩) (ic - 1)) := Lib.hid HIX.out.tail
  have HTL0 : Hid (ic = 1 → IxAt w0 ix (some ⟨ib, ioff, none⟩) 0) := Lib.hid (fun h => ⟨by omega, by omega, fun h0 => by omega⟩)
  have OFK := Lib.hid (OF.out q2 hq2)
  have HQ2 := Lib.hid hq2
  obtain ⟨⟨y0, y1, y2, y3, y4, y5⟩, s0, s1, s2, s3, s4, s5, sx, fz⟩ := hw
  have hbs := hB.size
  have hlX := cell_lt2 y0
  have hebw : eb < w.heap.size := by omega
  have hibw : ib < w.heap.size := by omega
  have hXe : ¬ X = eb := by omega
  have hXi : ¬ X = ib := by omega
  have hqc : qc = t.count := e5
  subst hqc
  generalize t.count = C at *
  generalize (formOf n u).1 = gs at *
  generalize (formOf n u).2 = ga at *
  obtain ⟨q2k, q2s, q2p, q2fa, q2fl, q2fc, q2c, q2ea, q2el, q2ec⟩ := q2
  unfold Raw.val at OFK
  simp only at g0 g1 g2 g3 g4 g5 y0 y1 y2 y3 y4 y5 OFK
  rw [hR]
  have HBC := hB
  clear OF hq2 hcc hec he hecs hf hics i3 HIX hR hWI hB HBC hcu hS e1 e2 e3 e4 e5 e6 e7 e8 e9 hel hk hc hg2
  by_cases hge : C ≤ (i : Int)
  · rw [if_pos hge]
    go_enter Try.func39, Try.ntmps39
    go_wp2_with fail
    all_goals go_ret
    all_goals exact ⟨Onto.ov (by repeat (first | with_reducible exact Onto.refl | with_reducible refine Onto.set ?_ _ _ | with_reducible refine Onto.more ?_ _ | with_reducible refine Onto.alloc ?_ _)), fun _ => rfl, fun u S' ix' h => by cases h⟩
  · rw [if_neg hge]
    have hm0 : 0 ≤ (i : Int) * gs := Int.mul_nonneg (by omega) hg0
    have hm1 : (i : Int) * gs + gs ≤ gs * C := by
      have h9 : gs * ((i : Int) + 1) ≤ gs * C := Int.mul_le_mul_of_nonneg_left (by omega) hg0
      rw [Int.mul_add, Int.mul_one, Int.mul_comm] at h9
      omega
    go_enter Try.func39, Try.ntmps39
    go_wp2_with (go_at_call 13; refine (OFK.out _ (by repeat (first | with_reducible exact HB.out | with_reducible refine below_mo ?_ _ | with_reducible refine below_al ?_ _ | with_reducible refine below_st ?_ (by simp <;> omega) _))).mono ?_; rintro e w1 ⟨rfl, p1, rfl⟩)
    all_goals
      go_ret
      refine ⟨Onto.ov (by repeat (first | with_reducible exact Onto.refl | with_reducible refine Onto.set ?_ _ _ | with_reducible refine Onto.more ?_ _ | with_reducible refine Onto.alloc ?_ _)), (fun h => by cases h), fun u' S' ix' hh => ?_⟩
      cases hh
      first
        | (refine ⟨rfl, ⟨q2k, q2s, q2p, q2fa, q2fl, q2fc, q2c, q2ea, q2el, q2ec⟩, _, _, ⟨⟨?_, ?_, ?_, ?_, ?_, ?_⟩, ?_, ?_, ?_, ?_, ?_, ?_, ?_, fun k => (Onto.frozen (B := X) (by repeat (first | with_reducible exact Onto.refl | with_reducible refine Onto.set ?_ _ _ | with_reducible refine Onto.more ?_ _ | with_reducible refine Onto.alloc ?_ _)) hlX).trans (fz k)⟩, HQ2.out, HTL0.out (by assumption)⟩
           all_goals (simp [go_sem, ↓IntWalk.iteOmega, cell_upd2, y0, y1, y2, y3, y4, y5, s0, s1, s2, s3, s4, s5, sx, fz]; done))
        | (refine ⟨rfl, ⟨q2k, q2s, q2p, q2fa, q2fl, q2fc, q2c, q2ea, q2el, q2ec⟩, _, _, ⟨⟨?_, ?_, ?_, ?_, ?_, ?_⟩, ?_, ?_, ?_, ?_, ?_, ?_, ?_, fun k => (Onto.frozen (B := X) (by repeat (first | with_reducible exact Onto.refl | with_reducible refine Onto.set ?_ _ _ | with_reducible refine Onto.more ?_ _ | with_reducible refine Onto.alloc ?_ _)) hlX).trans (fz k)⟩, HQ2.out, HTL.out⟩
           all_goals (simp [go_sem, ↓IntWalk.iteOmega, cell_upd2, y0, y1, y2, y3, y4, y5, s0, s1, s2, s3, s4, s5, sx, fz]; done))
theorem fieldsE_zero {n : Nat} {t : TyF (Ty n)} (hc : checkF (n + 1) t = 0) (hk : t.kind = 3 ∨ t.kind = 4) : fieldsE (n + 1) t = 0 := by
  unfold fieldsE
  rw [if_neg (by simp [hc]), if_pos (show tkind (n + 1) t = 3 ∨ tkind (n + 1) t = 4 from hk)]
/-- Fields, of a group that may be laid. -/
def FldC (w : World) (sp : List Sp) (e : Ending) (w' : World) : Prop :=
  ∃ (G c : Nat), e = .returned (.tuple #[.slice (some ⟨G, 0, none⟩) sp.length c, .int .i64 0]) ∧ sp.length ≤ c ∧ c ≤ maxLen ∧ SpAt w' G sp ∧ ∃ p : Regrown, w' = more w p
theorem FieldsC.fld {w w' : World} {sp : List Sp} {e : Ending} (h : FieldsC w 0 sp e w') (hne : sp ≠ []) : FldC w sp e w' := by
  obtain ⟨⟨ad, l, c, rfl, _, h2⟩, hp⟩ := h
  obtain ⟨rfl, h3⟩ := h2 rfl
  obtain ⟨_, G, rfl, h4, h5, h6⟩ := spots_at h3 hne
  exact ⟨G, c, rfl, h4, h5, h6, hp⟩
set_option maxRecDepth 100000 in
set_option maxHeartbeats 6400000 in
theorem step_fd {n : Nat} (t : TyF (Ty n)) (hc : checkF (n + 1) t = 0) (hk : t.kind = 3 ∨ t.kind = 4) (q : Raw) (w0 w : World) (hT : TyAt w0 (n + 1) t q) (hB : Below w0.heap.size w0 w) (X : Nat) (hX : w0.heap.size ≤ X) (S : Sp) (hWI : WIn (n + 1) t S.at_)
    (ix : List Nat) (ia : Option Addr) (ic : Nat) (hI : IxAt w0 ix ia ic) (hw : WkAt w X q S ia ix.length ic) (pf : ByteArray) (hix : 0 ≤ ixK (fun f : FdF (Ty n) => nmE f.name pf) t.fields) (pa : Option Addr) (pc : Nat) (hp2 : pc ≤ 9223372036854775807) :
    Calls Try.prog 39 #[.pointer (some ⟨X, 0, none⟩), .agg #[.string pf, .slice pa 0 pc]] w (StpC w0 w X (stepS t S ⟨pf, 0⟩ ix)) := by
  have hge := ixK_ge (fun f : FdF (Ty n) => nmE f.name pf) t.fields
  obtain ⟨k, hkk⟩ : ∃ k : Nat, ixK (fun f : FdF (Ty n) => nmE f.name pf) t.fields = k := ⟨_, (Int.toNat_of_nonneg hix).symm⟩
  have hkl : k < t.fields.length := by omega
  obtain ⟨f, hf⟩ := get_some t.fields k hkl
  obtain ⟨hcf, s, hs, hs0, hs1, hs2, hs3⟩ := checkF_field hc hk hf
  have hR : stepS t S ⟨pf, 0⟩ ix = some (f.type, ⟨s.at_ + S.at_, s.len, s.kind, s.isBits, s.bit, s.width⟩, ix) := by
    unfold stepS
    rw [if_neg (show ¬ (0 : Nat) = 1 by decide)]
    rw [show (ixK (fun f : FdF (Ty n) => nmE f.name pf) t.fields).toNat = k by omega, hf, hs]
  rw [hR]
  clear hR
  have hsl : k < (spotsF (n + 1) t).length := (List.getElem?_eq_some_iff.1 hs).1
  have FL := Lib.hid (fun W (hW : Below w0.heap.size w0 W) => (Fields_any (n + 1) t q W (hT.below hW)).mono (fun e w' h => FieldsC.fld (by rw [fieldsE_zero hc hk] at h; exact h) (by intro h9; rw [h9] at hsl; simp at hsl)))
  have HT := Lib.hid hT
  obtain ⟨e1, e2, e3, e4, e5, e6, e7, e8, e9, hfd, he⟩ := hT
  have IX : Hid (∀ (W : World) (Y : Nat), Below w0.heap.size w0 W → W.cell? ⟨Y, 0, none⟩ = some (.string pf) → Calls Try.prog 58 #[.slice q.fa q.fl q.fc, .func (.func 59) #[] #[.pointer (some ⟨Y, 0, none⟩)]] W (Gives W (.int .i64 k))) := Lib.hid (fun W Y hW hY => by
    have := ix_step t.fields q.fa q.fc W (FdsAt.below hW (show SlIn w0 q.fa t.fields.length q.fc _ by rw [← e4]; exact hfd)) Y pf hY
    rw [hkk, ← e4] at this
    exact this)
  have hA0 := hWI.1
  have hA1 := hWI.2.1
  have hfl : k < q.fl := by omega
  obtain ⟨fb, foff, hfa, hfb, hcs⟩ := hfd.2.2 (by omega)
  obtain ⟨qf, hqf, _, hnm, c0, c1, c2, c3, c4, c5, c6, c7, c8⟩ := hcs k f hf
  have hfc := hfd.1
  have hfm := hfd.2.1
  have HB := Lib.hid hB
  have HI := Lib.hid hI
  have hcc : ∀ (o : Nat) (x : Value), w0.cell? ⟨fb, o, none⟩ = some x → w.cell? ⟨fb, o, none⟩ = some x := fun o x hx => (HB.out.cell (p := ⟨fb, o, none⟩) hfb).trans hx
  replace c1 := hcc _ _ c1
  replace c2 := hcc _ _ c2
  replace c3 := hcc _ _ c3
  replace c4 := hcc _ _ c4
  replace c5 := hcc _ _ c5
  replace c6 := hcc _ _ c6
  have HQF := Lib.hid hqf
  obtain ⟨⟨y0, y1, y2, y3, y4, y5⟩, s0, s1, s2, s3, s4, s5, sx, fz⟩ := hw
  have HSS := Lib.hid hs
  have hbs := hB.size
  have hlX := cell_lt2 y0
  have hfbw : fb < w.heap.size := by omega
  have hXf : ¬ X = fb := by omega
  obtain ⟨qk, qs, qp, qfa, qfl, qfc, qc, qea, qel, qec⟩ := q
  obtain ⟨gk, gs, gp, gfa, gfl, gfc, gc, gea, gel, gec⟩ := qf
  unfold Raw.val at FL
  simp only at *
  subst hfa
  generalize spotsF (n + 1) t = sp at *
  clear hfd he e1 e2 e3 e4 e5 e6 e7 e8 e9 hcs hqf hcc hB hI HT hf hs hs2 hs3 hcf hWI hge hix hkk hnm c0 c7 c8
  go_enter Try.func39, Try.ntmps39
  go_upto_region 13 with (first
    | (go_at_call 58; refine (IX.out _ _ (by repeat (first | with_reducible exact HB.out | with_reducible refine below_mo ?_ _ | with_reducible refine below_al ?_ _)) (by simp [go_sem, ↓IntWalk.iteOmega])).mono ?_; rintro e w1 ⟨rfl, p1, rfl⟩)
    | (go_at_call 17; refine (FL.out _ (by repeat (first | with_reducible exact HB.out | with_reducible refine below_mo ?_ _ | with_reducible refine below_al ?_ _))).mono ?_; rintro e w1 ⟨G, c, rfl, hc1, hc2, hSP, p3, rfl⟩; have HSP := Lib.hid hSP; clear hSP))
  refine wp_letter (R := fun W => Below w.heap.size w W ∧ SpAt W G sp) ?letA ?_
  case letA => exact ⟨by repeat (first | with_reducible exact Below.refl _ _ | with_reducible refine below_mo ?_ _ | with_reducible refine below_al ?_ _), HSP.out⟩
  rintro wA ⟨hA, hGA, hSA⟩
  obtain ⟨d0, d1, d2, d3, d4, d5⟩ := hSA k s HSS.out
  have HA := Lib.hid hA
  have hsA := hA.size
  have hcA : ∀ (b o : Nat) (x : Value), b < w.heap.size → w.cell? ⟨b, o, none⟩ = some x → wA.cell? ⟨b, o, none⟩ = some x := fun b o x hb hx => (HA.out.cell (p := ⟨b, o, none⟩) hb).trans hx
  replace y0 := hcA _ _ _ hlX y0
  replace y1 := hcA _ _ _ hlX y1
  replace y2 := hcA _ _ _ hlX y2
  replace y3 := hcA _ _ _ hlX y3
  replace y4 := hcA _ _ _ hlX y4
  replace y5 := hcA _ _ _ hlX y5
  replace s0 := hcA _ _ _ hlX s0
  replace s1 := hcA _ _ _ hlX s1
  replace s2 := hcA _ _ _ hlX s2
  replace s3 := hcA _ _ _ hlX s3
  replace s4 := hcA _ _ _ hlX s4
  replace s5 := hcA _ _ _ hlX s5
  replace sx := hcA _ _ _ hlX sx
  replace c1 := hcA _ _ _ hfbw c1
  replace c2 := hcA _ _ _ hfbw c2
  replace c3 := hcA _ _ _ hfbw c3
  replace c4 := hcA _ _ _ hfbw c4
  replace c5 := hcA _ _ _ hfbw c5
  replace c6 := hcA _ _ _ hfbw c6
  replace fz : ∀ k, wA.frozen? ⟨X, k, none⟩ = false := fun k => (HA.out.frozen (p := ⟨X, k, none⟩) hlX).trans (fz k)
  have hXA : X < wA.heap.size := by omega
  have hfA : fb < wA.heap.size := by omega
  clear hA hSA HSP hcA
  go_upto_region 14 with fail
  refine wp_tail_more 12 (by kernel_rfl) (by kernel_rfl) ?_
  simp only [List.take_succ_cons, List.take_zero, List.drop_succ_cons, List.drop_zero]
  repeat (go_big_quiet_step (fail))
  refine wpQuiet_nil ?_
  intro p8
  go_upto_region 15 with fail
  refine wp_letter (R := fun W => Below wA.heap.size wA W ∧ W.cell? ⟨wA.heap.size, 0, none⟩ = some (.int .i64 (s.at_ + S.at_)) ∧ W.cell? ⟨wA.heap.size, 1, none⟩ = some (.int .i64 s.len) ∧ W.cell? ⟨wA.heap.size, 2, none⟩ = some (.int .i64 s.kind) ∧ W.cell? ⟨wA.heap.size, 3, none⟩ = some (.bool s.isBits) ∧ W.cell? ⟨wA.heap.size, 4, none⟩ = some (.int .i64 s.bit) ∧ W.cell? ⟨wA.heap.size, 5, none⟩ = some (.int .i64 s.width)) ?letB ?_
  case letB =>
    refine ⟨?_, ?_, ?_, ?_, ?_, ?_, ?_⟩
    · repeat (first | with_reducible exact Below.refl _ _ | with_reducible refine below_mo ?_ _ | with_reducible refine below_al ?_ _ | with_reducible refine below_st ?_ (by simp) _)
    all_goals (simp [go_sem, ↓IntWalk.iteOmega, cell_upd2]; done)
  rintro wB ⟨hB1, u0, u1, u2, u3, u4, u5⟩
  have HB1 := Lib.hid hB1
  have hsB := hB1.size
  have hcB : ∀ (b o : Nat) (x : Value), b < wA.heap.size → wA.cell? ⟨b, o, none⟩ = some x → wB.cell? ⟨b, o, none⟩ = some x := fun b o x hb hx => (HB1.out.cell (p := ⟨b, o, none⟩) hb).trans hx
  replace y0 := hcB _ _ _ hXA y0
  replace y1 := hcB _ _ _ hXA y1
  replace y2 := hcB _ _ _ hXA y2
  replace y3 := hcB _ _ _ hXA y3
  replace y4 := hcB _ _ _ hXA y4
  replace y5 := hcB _ _ _ hXA y5
  replace s0 := hcB _ _ _ hXA s0
  replace s1 := hcB _ _ _ hXA s1
  replace s2 := hcB _ _ _ hXA s2
  replace s3 := hcB _ _ _ hXA s3
  replace s4 := hcB _ _ _ hXA s4
  replace s5 := hcB _ _ _ hXA s5
  replace sx := hcB _ _ _ hXA sx
  replace c1 := hcB _ _ _ hfA c1
  replace c2 := hcB _ _ _ hfA c2
  replace c3 := hcB _ _ _ hfA c3
  replace c4 := hcB _ _ _ hfA c4
  replace c5 := hcB _ _ _ hfA c5
  replace c6 := hcB _ _ _ hfA c6
  replace fz : ∀ k, wB.frozen? ⟨X, k, none⟩ = false := fun k => (HB1.out.frozen (p := ⟨X, k, none⟩) hXA).trans (fz k)
  have HON : Hid (Ov X w wB) := Lib.hid ((Ov.of_below HA.out).trans (Ov.of_below HB1.out))
  have hXB : X < wB.heap.size := by omega
  have hfB : fb < wB.heap.size := by omega
  have hTB := cell_lt2 u0
  generalize wA.heap.size = T at *
  clear hB1 hcB FL IX HA HB1 d0 d1 d2 d3 d4 d5 hsA hGA hc1 hc2 hsl HSS
  have hTX : ¬ X = T := by omega
  have hTf : ¬ fb = T := by omega
  go_big_region
  all_goals
    go_wp2_with fail
    go_ret
    refine ⟨?on, (fun h => by cases h), fun u' S' ix' hh => ?res⟩
    case on => repeat (first | with_reducible exact HON.out | with_reducible refine Ov.setX ?_ _ _ | with_reducible refine Ov.more ?_ _ | with_reducible refine Ov.alloc ?_ _ | with_reducible refine Ov.drew ?_ | with_reducible refine Ov.drewN ?_ _)
    case res =>
      cases hh
      refine ⟨rfl, ⟨gk, gs, gp, gfa, gfl, gfc, gc, gea, gel, gec⟩, _, _, ⟨⟨?_, ?_, ?_, ?_, ?_, ?_⟩, ?_, ?_, ?_, ?_, ?_, ?_, ?_, fun k => ?_⟩, HQF.out, HI.out⟩
      all_goals first | (simp [go_sem, ↓IntWalk.iteOmega, cell_upd2, y0, y1, y2, y3, y4, y5, s0, s1, s2, s3, s4, s5, sx, fz]; done) | trace_state
end Go.Proofs.Ytlbkloamabomcaa
