/- What the statements on fields and locations ask, on plain data: fields one behind the other, locations apart, an array's locations. No condition. -/
import Derived.Test.YtlbkloamabomcaaLayLocsT
import Derived.Test.YtlbkloamabomcaaLayFb
import Derived.Test.YtlbkloamabomcaaLayMarksIn
namespace Go.Proofs.Ytlbkloamabomcaa
open Go.RowKit Go.Sort
set_option linter.unusedVariables false
set_option linter.unusedSimpArgs false
def begS (s : Sp) : Int := 8 * s.at_ + s.bit
def sizS (s : Sp) : Int := if s.isBits = true then s.width else 8 * s.len
/-- what is asked of a field's spot. -/
structure SpOk (s : Sp) (n : Int) : Prop where
  a : 0 ≤ s.at_ ∧ s.at_ ≤ 100000000
  l : 0 ≤ s.len ∧ s.len ≤ 100000000
  b : 0 ≤ s.bit ∧ s.bit < 8
  w : 0 ≤ s.width ∧ s.width ≤ 100000000
  le : begS s + sizS s ≤ 8 * n
theorem spot_beg {α : Type} {f : FdF α} {ts : Int} {g : Int × Int} (h : FdOk f ts g) (pk uni : Bool) (kd : Int) (p : Pl) (hp : 0 ≤ p.bit) :
    begS (spotF pk uni f ts kd g p) = begF pk uni f ts g p ∧ sizS (spotF pk uni f ts kd g p) = numF f g := by
  obtain ⟨b0, b1, b2, b3⟩ := beg_ge h pk uni p hp
  unfold begS sizS spotF numF
  generalize begF pk uni f ts g p = B at *
  cases hb : f.isBits
  · have := b2 hb
    simp only [Bool.false_eq_true, if_false]
    exact ⟨by omega, trivial⟩
  · simp only [if_true]
    exact ⟨by omega, trivial⟩
theorem spots_ok (n : Nat) (t : TyF (Ty n)) (hs : soundF (n + 1) t = 0) (hk : t.kind = 3 ∨ t.kind = 4) {q : Pl} (hq : plK (formF n) (tsize n) t t.fields.length = some q) (hu : upF q.size q.align ≤ 65536) (i : Nat) (s : Sp) (hi : (spotsF (n + 1) t)[i]? = some s) : SpOk s (upF q.size q.align) := by
  have hls : (spotsF (n + 1) t).length = t.fields.length := spK_len _ _ _ t _ q hq
  have hil : i < t.fields.length := by rw [← hls]; exact (List.getElem?_eq_some_iff.1 hi).1
  obtain ⟨p, f, g, e1, e2, e3, e4, e5⟩ := spK_get (formF n) (tsize n) (tkind n) t _ q hq i hil
  have e5 : (spotsF (n + 1) t)[i]? = _ := e5
  rw [hi] at e5
  cases e5
  obtain ⟨hsf, hfd⟩ := field_ok n t hs hk i f g e2 e3
  have hok := plK_ok (formF n) (tsize n) t (grp_fdok n t hs hk) i p e1
  have hokq := plK_ok (formF n) (tsize n) t (grp_fdok n t hs hk) _ q hq
  have hb := spot_beg hfd t.packed (t.kind == 4) (tkind n f.type) p hok.b0
  have hin := field_in (f := f) (ts := tsize n f.type) (g := g) t.packed (t.kind == 4) p
  have h0 := (begF_bound hfd t.packed (t.kind == 4) hok.b0).1
  have hn := numF_bound hfd
  have hsz := plK_size (formF n) (tsize n) t (i + 1) e4 (t.fields.length - (i + 1)) q (by rw [Nat.add_sub_cancel' hil]; exact hq)
  have hup := upF_ge (n := q.size) hokq.al.pos.1
  have hle : begS (spotF t.packed (t.kind == 4) f (tsize n f.type) (tkind n f.type) g p) + sizS (spotF t.packed (t.kind == 4) f (tsize n f.type) (tkind n f.type) g p) ≤ 8 * upF q.size q.align := by rw [hb.1, hb.2]; omega
  obtain ⟨q0, q1, q2, q3⟩ := spot_span hfd t.packed (t.kind == 4) (tkind n f.type) p hok.b0
  have hg := hfd.g1
  refine ⟨by rw [q0]; omega, ?_, ?_, ?_, hle⟩
  · cases hbt : f.isBits
    · rw [(q1 hbt).1]; omega
    · rcases Int.lt_or_le 0 f.width with hw | hw
      · have := q2 hbt hw
        have h9 : numF f g = f.width := this.2.2
        omega
      · unfold spotF
        have := (hfd.bits hbt).2.1
        rw [if_pos hbt, if_pos (by omega)]
        simp
  · unfold spotF
    split
    · simp only; omega
    · simp
  · unfold spotF
    split
    · rename_i hbt
      have := hfd.bits hbt
      simp only; omega
    · simp
theorem spots_next (n : Nat) (t : TyF (Ty n)) (hs : soundF (n + 1) t = 0) (hk : t.kind = 3) {q : Pl} (hq : plK (formF n) (tsize n) t t.fields.length = some q) (i : Nat) (s s' : Sp) (hi : (spotsF (n + 1) t)[i]? = some s) (hi' : (spotsF (n + 1) t)[i + 1]? = some s') : begS s + sizS s ≤ begS s' := by
  have hls : (spotsF (n + 1) t).length = t.fields.length := spK_len _ _ _ t _ q hq
  have hil : i + 1 < t.fields.length := by rw [← hls]; exact (List.getElem?_eq_some_iff.1 hi').1
  obtain ⟨p, f, g, e1, e2, e3, e4, e5⟩ := spK_get (formF n) (tsize n) (tkind n) t _ q hq i (by omega)
  obtain ⟨p', f', g', d1, d2, d3, d4, d5⟩ := spK_get (formF n) (tsize n) (tkind n) t _ q hq (i + 1) hil
  have e5 : (spotsF (n + 1) t)[i]? = _ := e5
  have d5 : (spotsF (n + 1) t)[i + 1]? = _ := d5
  rw [hi] at e5
  rw [hi'] at d5
  cases e5
  cases d5
  rw [d1] at e4
  cases e4
  obtain ⟨hsf, hfd⟩ := field_ok n t hs (.inl hk) i f g e2 e3
  obtain ⟨hsf', hfd'⟩ := field_ok n t hs (.inl hk) (i + 1) f' g' d2 d3
  have hok := plK_ok (formF n) (tsize n) t (grp_fdok n t hs (.inl hk)) i p e1
  have hok' := plK_ok (formF n) (tsize n) t (grp_fdok n t hs (.inl hk)) (i + 1) _ d1
  have hb := spot_beg hfd t.packed (t.kind == 4) (tkind n f.type) p hok.b0
  have hb' := spot_beg hfd' t.packed (t.kind == 4) (tkind n f'.type) _ hok'.b0
  have h4 : (t.kind == 4) = false := by rw [hk]; rfl
  have h1 := (beg_ge hfd' t.packed (t.kind == 4) _ hok'.b0).2.1 h4
  rw [hb.1, hb.2, hb'.1]
  exact h1
theorem spots_first (n : Nat) (t : TyF (Ty n)) (hs : soundF (n + 1) t = 0) (hk : t.kind = 3 ∨ t.kind = 4) {q : Pl} (hq : plK (formF n) (tsize n) t t.fields.length = some q) (hu : upF q.size q.align ≤ 65536) (s : Sp) (hi : (spotsF (n + 1) t)[0]? = some s) : 0 ≤ begS s := by
  have := spots_ok n t hs hk hq hu 0 s hi
  have h1 := this.a
  have h2 := this.b
  unfold begS
  omega
theorem apart_strict {a s : Int} : ∀ (L : List (Int × Int)), InM a s L → Apart L → Strict L
  | [], _, _ => List.Pairwise.nil
  | x :: L, hI, hA => by
    obtain ⟨h1, h2⟩ := List.pairwise_cons.1 hA
    refine List.pairwise_cons.2 ⟨fun y hy => ?_, apart_strict L (fun z hz => hI z (List.mem_cons_of_mem _ hz)) h2⟩
    have := h1 y hy
    have := hI x (List.mem_cons_self ..)
    unfold ltS
    simp only [decide_eq_true_eq]
    omega
theorem strL_same {L : List (Int × Int)} (h : Strict L) : strL L = L := (strict_le L (strL L) (strL_strict L) h (fun x hx => (strL_mem L x).1 hx)).2 (fun x hx => (strL_mem L x).2 hx)
/-- what Locations tells of a type without unions. -/
theorem locs_apart (n : Nat) (t : Ty n) (hs : soundF n t = 0) (g : Int × Int) (hg : formF n t = some g) (hu : unionF n t = false) (M : List (Int × Int)) (hM : M = locR 0 (marksF n t 0)) :
    InM 0 g.1 M ∧ Apart M ∧ (M ≠ [] → locE 0 (marksF n t 0) = 0) := by
  have hI := marks_in n t 0 hs g hg
  have hA := marks_apart n t 0 hs hu g hg
  have hS := strL_same (apart_strict _ hI hA)
  subst hM
  unfold locR locE
  rw [hS]
  simp only [ne_eq, not_true_eq_false, if_false]
  split
  · exact ⟨InM.nil, List.Pairwise.nil, fun h => absurd rfl h⟩
  · exact ⟨hI, hA, fun _ => rfl⟩
/-- copies of a list, each moved further. -/
def catL (L : List (Int × Int)) (s : Int) : Nat → List (Int × Int)
  | 0 => []
  | k + 1 => catL L s k ++ shM ((k : Int) * s) L
theorem catL_len (L : List (Int × Int)) (s : Int) : ∀ k, (catL L s k).length = k * L.length
  | 0 => by simp [catL]
  | k + 1 => by
    show (catL L s k ++ shM ((k : Int) * s) L).length = _
    rw [List.length_append, catL_len L s k, Nat.succ_mul]
    simp [shM]
theorem catL_get (L : List (Int × Int)) (s : Int) : ∀ (k i : Nat), i < k * L.length → ∃ x, L[i % L.length]? = some x ∧ (catL L s k)[i]? = some (x.1 + ((i / L.length : Nat) : Int) * s, x.2)
  | 0, i, h => by omega
  | k + 1, i, h => by
    rw [Nat.succ_mul] at h
    show ∃ x, _ ∧ (catL L s k ++ shM ((k : Int) * s) L)[i]? = _
    have hl := catL_len L s k
    rcases Nat.lt_or_ge i (k * L.length) with h1 | h1
    · obtain ⟨x, h2, h3⟩ := catL_get L s k i h1
      exact ⟨x, h2, by rw [List.getElem?_append_left (by omega)]; exact h3⟩
    · have hd : i / L.length = k := by
        rw [Nat.div_eq_iff (by omega)]
        have := Nat.mul_comm k L.length
        constructor
        · omega
        · omega
      have hm : i % L.length = i - k * L.length := by
        have := Nat.div_add_mod i L.length
        rw [hd, Nat.mul_comm] at this
        omega
      have hj : i - k * L.length < L.length := by omega
      refine ⟨L[i - k * L.length], ?_, ?_⟩
      · rw [hm]; exact List.getElem?_eq_getElem hj
      · rw [List.getElem?_append_right (by omega), hl, hd]
        unfold shM
        rw [List.getElem?_map, List.getElem?_eq_getElem hj]
        rfl
theorem shM_mem (d : Int) (L : List (Int × Int)) (x : Int × Int) : x ∈ shM d L ↔ ∃ y, y ∈ L ∧ x = (y.1 + d, y.2) := by
  unfold shM
  rw [List.mem_map]
  exact ⟨fun ⟨y, h1, h2⟩ => ⟨y, h1, h2.symm⟩, fun ⟨y, h1, h2⟩ => ⟨y, h1, h2.symm⟩⟩
theorem catL_mem {L L' : List (Int × Int)} (s : Int) (h : ∀ x, x ∈ L ↔ x ∈ L') : ∀ (k : Nat) x, x ∈ catL L s k ↔ x ∈ catL L' s k
  | 0, x => Iff.rfl
  | k + 1, x => by
    show x ∈ catL L s k ++ shM ((k : Int) * s) L ↔ x ∈ catL L' s k ++ shM ((k : Int) * s) L'
    rw [List.mem_append, List.mem_append, catL_mem s h k x, shM_mem, shM_mem]
    constructor
    · rintro (h1 | ⟨y, h1, h2⟩)
      · exact .inl h1
      · exact .inr ⟨y, (h y).1 h1, h2⟩
    · rintro (h1 | ⟨y, h1, h2⟩)
      · exact .inl h1
      · exact .inr ⟨y, (h y).2 h1, h2⟩
theorem arrM_cat (M : Int → List (Int × Int)) (s : Int) (hM : ∀ b, M (0 + b) = shM b (M 0)) : ∀ k : Nat, arrM M 0 s k = catL (M 0) s k
  | 0 => rfl
  | k + 1 => by
    show arrM M 0 s k ++ M (0 + (k : Int) * s) = catL (M 0) s k ++ shM ((k : Int) * s) (M 0)
    rw [arrM_cat M s hM k, hM]
theorem catL_in {L : List (Int × Int)} {s : Int} (hs : 0 ≤ s) (hL : InM 0 s L) : ∀ k : Nat, InM 0 (k * s) (catL L s k)
  | 0 => InM.nil
  | k + 1 => by
    have h1 := catL_in hs hL k
    have h3 : ((k + 1 : Nat) : Int) * s = (k : Int) * s + s := by rw [Int.natCast_succ, Int.add_mul]; omega
    have h4 : 0 ≤ (k : Int) * s := Int.mul_nonneg (by omega) hs
    rw [h3]
    refine (h1.mono (Int.le_refl _) (by omega)).app (fun x hx => ?_)
    obtain ⟨y, hy, rfl⟩ := (shM_mem _ _ _).1 hx
    have := hL y hy
    simp only
    omega
theorem shM_strict (d : Int) : ∀ (L : List (Int × Int)), Strict L → Strict (shM d L)
  | [], _ => List.Pairwise.nil
  | x :: L, h => by
    obtain ⟨h1, h2⟩ := List.pairwise_cons.1 h
    refine List.pairwise_cons.2 ⟨fun y hy => ?_, shM_strict d L h2⟩
    obtain ⟨z, hz, rfl⟩ := (shM_mem _ _ _).1 hy
    have := h1 z hz
    unfold ltS at this ⊢
    simp only [decide_eq_true_eq] at this ⊢
    omega
theorem catL_strict {L : List (Int × Int)} {s : Int} (hs : 0 ≤ s) (hL : InM 0 s L) (hS : Strict L) : ∀ k : Nat, Strict (catL L s k)
  | 0 => List.Pairwise.nil
  | k + 1 => by
    refine List.pairwise_append.2 ⟨catL_strict hs hL hS k, shM_strict _ _ hS, fun x hx y hy => ?_⟩
    obtain ⟨z, hz, rfl⟩ := (shM_mem _ _ _).1 hy
    have h1 := catL_in hs hL k x hx
    have h2 := hL z hz
    unfold ltS
    simp only [decide_eq_true_eq]
    omega
/-- the type of an array of so many. -/
def arrT {n : Nat} (c : Int) (t : Ty n) : Ty (n + 1) := (⟨5, 0, false, [], c, [t]⟩ : TyF (Ty n))
theorem sound_arrT {n : Nat} (c : Int) (hc : 1 ≤ c ∧ c ≤ 5) (t : Ty n) : soundF (n + 1) (arrT c t) = soundF n t := by
  unfold arrT
  rw [soundF_succ]
  unfold oneE
  have hon : onlyB 5 0 false ([] : List (FdF (Ty n))).length c [t].length = true := by
    simp [onlyB]
  simp only [hon]
  rw [if_neg (by simp), if_neg (by omega), if_neg (by omega), if_pos trivial]
  have h2 : ¬ (c < 1 ∨ 65536 < c) := by omega
  simp only [h2, if_false]
  rfl
theorem locs_arr (n : Nat) (t : Ty n) (hs : soundF n t = 0) (g : Int × Int) (hg : formF n t = some g) (c : Int) (hc : 1 ≤ c ∧ c ≤ 5) : ∃ L : List (Int × Int), L = strL (marksF n t 0) ∧ strL (marksF (n + 1) (arrT c t) 0) = catL L g.1 c.toNat := by
  refine ⟨_, rfl, ?_⟩
  have hI := marks_in n t 0 hs g hg
  have hgo := form_ok n t hs g hg
  have hM : marksF (n + 1) (arrT c t) 0 = catL (marksF n t 0) g.1 c.toNat := by
    show marksOne (formF n) (tsize n) (tkind n) (marksF n) (⟨5, 0, false, [], c, [t]⟩ : TyF (Ty n)) 0 = _
    unfold marksOne
    simp only [List.head?_cons, hg]
    rw [if_neg (by omega)]
    simp only [if_true]
    split
    · exact arrM_cat _ _ (fun b => marks_shift n t 0 b) _
    · rename_i h0
      have h9 : marksF n t 0 = [] := List.eq_nil_iff_forall_not_mem.2 (fun x hx => by have := hI x hx; omega)
      rw [h9]
      have : ∀ k, catL [] g.1 k = [] := fun k => by
        have := catL_len [] g.1 k
        simpa using this
      rw [this]
  rw [hM]
  have hIL : InM 0 g.1 (strL (marksF n t 0)) := fun x hx => hI x ((strL_mem _ x).1 hx)
  have hst := catL_strict hgo.1 hIL (strL_strict _) c.toNat
  rw [← strL_same hst]
  refine (strict_le _ _ (strL_strict _) (strL_strict _) (fun x hx => ?_)).2 (fun x hx => ?_)
  · rw [strL_mem] at hx ⊢
    exact (catL_mem g.1 (fun x => (strL_mem _ x).symm) _ x).1 hx
  · rw [strL_mem] at hx ⊢
    exact (catL_mem g.1 (fun x => strL_mem _ x) _ x).1 hx
end Go.Proofs.Ytlbkloamabomcaa
