/- Words and their fields, on plain numbers: an instruction's word, and what a word is. No condition. -/
import Derived.Test.YtfijppclaahkmaaLawKit
import Derived.Laws.BitsAllLaws
namespace Go.Proofs.Ytfijppclaahkmaa
set_option linter.unusedVariables false
set_option linter.unusedSimpArgs false
/-- an instruction. -/
structure Ins where
  op : Int
  d : Int
  n : Int
  m : Int
  e : Int
  sz : Int
  imm : Int
def Ins.get (r : Ins) (k : Nat) : Int := match k with
  | 0 => r.op
  | 1 => r.d
  | 2 => r.n
  | 3 => r.m
  | 4 => r.e
  | 5 => r.sz
  | _ => r.imm
def Ins.set (r : Ins) (k : Nat) (x : Int) : Ins := match k with
  | 0 => { r with op := x }
  | 1 => { r with d := x }
  | 2 => { r with n := x }
  | 3 => { r with m := x }
  | 4 => { r with e := x }
  | 5 => { r with sz := x }
  | _ => { r with imm := x }
def Ins.zero (op : Int) : Ins := ⟨op, 0, 0, 0, 0, 0, 0⟩
theorem Ins.ext7 {a b : Ins} (h : ∀ k, k < 7 → a.get k = b.get k) : a = b := by
  obtain ⟨a0, a1, a2, a3, a4, a5, a6⟩ := a
  obtain ⟨b0, b1, b2, b3, b4, b5, b6⟩ := b
  have h0 : a0 = b0 := h 0 (by omega)
  have h1 : a1 = b1 := h 1 (by omega)
  have h2 : a2 = b2 := h 2 (by omega)
  have h3 : a3 = b3 := h 3 (by omega)
  have h4 : a4 = b4 := h 4 (by omega)
  have h5 : a5 = b5 := h 5 (by omega)
  have h6 : a6 = b6 := h 6 (by omega)
  subst h0 h1 h2 h3 h4 h5 h6
  rfl
theorem Ins.get_set (r : Ins) (a b : Nat) (x : Int) (ha : a < 7) (hb : b < 7) : (r.set a x).get b = if a = b then x else r.get b := by
  match a, ha with
  | 0, _ | 1, _ | 2, _ | 3, _ | 4, _ | 5, _ | 6, _ =>
    match b, hb with
    | 0, _ | 1, _ | 2, _ | 3, _ | 4, _ | 5, _ | 6, _ => rfl
theorem Ins.zero_get (op : Int) (k : Nat) (h : k < 7) : (Ins.zero op).get k = if k = 0 then op else 0 := by
  match k, h with
  | 0, _ | 1, _ | 2, _ | 3, _ | 4, _ | 5, _ | 6, _ => rfl
/-- a field: where, how many bits, which number, of what kind (0 plain, 1 with a sign, 2 turned, 3 a barrier), the greatest. -/
structure Fl where
  lo : Nat
  n : Nat
  idx : Nat
  kd : Nat
  most : Nat
def fitF (f : Fl) (x : Int) : Bool := if f.kd = 1 then decide (-(2 ^ (f.n - 1) : Nat) ≤ x) && decide (x < (2 ^ (f.n - 1) : Nat)) else decide (0 ≤ x) && decide (x ≤ f.most)
def barN (x : Int) : Nat := if x = 0 then 11 else if x = 1 then 9 else 10
def turnN (v : Nat) : Nat := if v % 2 = 0 then v + 1 else v - 1
def putF (f : Fl) (x : Int) : Nat := if f.kd = 1 then (x % (2 ^ f.n : Nat)).toNat else if f.kd = 2 then turnN x.toNat else if f.kd = 3 then barN x else x.toNat
def getF (f : Fl) (v : Nat) : Option Int :=
  if f.kd = 3 then (if v = 11 then some 0 else if v = 9 then some 1 else if v = 10 then some 2 else none)
  else if f.kd = 1 then some (if 2 ^ (f.n - 1) ≤ v then (v : Int) - (2 ^ f.n : Nat) else v)
  else if f.kd = 2 then some (turnN v) else if v ≤ f.most then some v else none
/-- the letters. -/
def fl (c : Nat) : Option Fl :=
  if c = 100 then some ⟨0, 5, 1, 0, 31⟩ else if c = 110 then some ⟨5, 5, 2, 0, 31⟩ else if c = 97 then some ⟨5, 5, 2, 0, 30⟩ else if c = 109 then some ⟨16, 5, 3, 0, 31⟩
  else if c = 101 then some ⟨10, 5, 4, 0, 31⟩ else if c = 113 then some ⟨21, 2, 4, 0, 3⟩ else if c = 99 then some ⟨0, 2, 4, 0, 3⟩ else if c = 107 then some ⟨12, 2, 4, 2, 3⟩
  else if c = 115 then some ⟨30, 2, 5, 0, 3⟩ else if c = 105 then some ⟨5, 16, 6, 0, 65535⟩ else if c = 111 then some ⟨10, 12, 6, 0, 4095⟩ else if c = 98 then some ⟨0, 26, 6, 1, 0⟩
  else if c = 120 then some ⟨5, 19, 6, 1, 0⟩ else if c = 102 then some ⟨8, 4, 6, 3, 2⟩ else none
/-- what a field has to be. -/
structure FlOk (f : Fl) : Prop where
  idx : 0 < f.idx ∧ f.idx < 7
  hi : f.lo + f.n ≤ 32
  lt : ∀ x, fitF f x = true → putF f x < 2 ^ f.n
  back : ∀ x, fitF f x = true → getF f (putF f x) = some x
  fit : ∀ v x, v < 2 ^ f.n → getF f v = some x → fitF f x = true ∧ putF f x = v
theorem plain_ok (lo n idx most : Nat) (h1 : 0 < idx ∧ idx < 7) (h2 : lo + n ≤ 32) (h3 : most < 2 ^ n) : FlOk ⟨lo, n, idx, 0, most⟩ := by
  refine ⟨h1, h2, fun x h => ?_, fun x h => ?_, fun v x hv h => ?_⟩
  · simp [fitF] at h
    simp [putF]
    omega
  · simp [fitF] at h
    simp [getF, putF]
    omega
  · simp [getF] at h
    obtain ⟨h4, rfl⟩ := h
    simp [fitF, putF]
    omega
theorem fl_k : FlOk ⟨12, 2, 4, 2, 3⟩ := by
  refine ⟨by simp, by simp, fun x h => ?_, fun x h => ?_, fun v x hv h => ?_⟩
  · simp [fitF] at h
    have : x = 0 ∨ x = 1 ∨ x = 2 ∨ x = 3 := by omega
    rcases this with rfl | rfl | rfl | rfl <;> decide
  · simp [fitF] at h
    have : x = 0 ∨ x = 1 ∨ x = 2 ∨ x = 3 := by omega
    rcases this with rfl | rfl | rfl | rfl <;> decide
  · have : v = 0 ∨ v = 1 ∨ v = 2 ∨ v = 3 := by simp at hv; omega
    rcases this with rfl | rfl | rfl | rfl <;> simp [getF, turnN] at h <;> subst h <;> decide
theorem fl_b : FlOk ⟨0, 26, 6, 1, 0⟩ := by
  refine ⟨by simp, by simp, fun x h => ?_, fun x h => ?_, fun v x hv h => ?_⟩
  · simp [fitF] at h
    simp [putF]
    omega
  · simp [fitF] at h
    simp only [getF, putF]
    simp
    omega
  · simp only [getF] at h
    simp at h hv
    simp [fitF, putF]
    omega
theorem fl_x : FlOk ⟨5, 19, 6, 1, 0⟩ := by
  refine ⟨by simp, by simp, fun x h => ?_, fun x h => ?_, fun v x hv h => ?_⟩
  · simp [fitF] at h
    simp [putF]
    omega
  · simp [fitF] at h
    simp only [getF, putF]
    simp
    omega
  · simp only [getF] at h
    simp at h hv
    simp [fitF, putF]
    omega
theorem fl_f : FlOk ⟨8, 4, 6, 3, 2⟩ := by
  refine ⟨by simp, by simp, fun x h => ?_, fun x h => ?_, fun v x hv h => ?_⟩
  · simp [fitF] at h
    have : x = 0 ∨ x = 1 ∨ x = 2 := by omega
    rcases this with rfl | rfl | rfl <;> decide
  · simp [fitF] at h
    have : x = 0 ∨ x = 1 ∨ x = 2 := by omega
    rcases this with rfl | rfl | rfl <;> decide
  · simp only [getF] at h
    simp at h
    split at h
    · simp at h; subst h; subst v; decide
    · split at h
      · simp at h; subst h; subst v; decide
      · simp at h; obtain ⟨rfl, rfl⟩ := h; decide
theorem fl_ok (c : Nat) (f : Fl) (h : fl c = some f) : FlOk f := by
  unfold fl at h
  by_cases h100 : c = 100
  · rw [if_pos h100] at h
    cases h
    exact plain_ok _ _ _ _ (by omega) (by omega) (by omega)
  rw [if_neg h100] at h
  by_cases h110 : c = 110
  · rw [if_pos h110] at h
    cases h
    exact plain_ok _ _ _ _ (by omega) (by omega) (by omega)
  rw [if_neg h110] at h
  by_cases h97 : c = 97
  · rw [if_pos h97] at h
    cases h
    exact plain_ok _ _ _ _ (by omega) (by omega) (by omega)
  rw [if_neg h97] at h
  by_cases h109 : c = 109
  · rw [if_pos h109] at h
    cases h
    exact plain_ok _ _ _ _ (by omega) (by omega) (by omega)
  rw [if_neg h109] at h
  by_cases h101 : c = 101
  · rw [if_pos h101] at h
    cases h
    exact plain_ok _ _ _ _ (by omega) (by omega) (by omega)
  rw [if_neg h101] at h
  by_cases h113 : c = 113
  · rw [if_pos h113] at h
    cases h
    exact plain_ok _ _ _ _ (by omega) (by omega) (by omega)
  rw [if_neg h113] at h
  by_cases h99 : c = 99
  · rw [if_pos h99] at h
    cases h
    exact plain_ok _ _ _ _ (by omega) (by omega) (by omega)
  rw [if_neg h99] at h
  by_cases h107 : c = 107
  · rw [if_pos h107] at h
    cases h
    exact fl_k
  rw [if_neg h107] at h
  by_cases h115 : c = 115
  · rw [if_pos h115] at h
    cases h
    exact plain_ok _ _ _ _ (by omega) (by omega) (by omega)
  rw [if_neg h115] at h
  by_cases h105 : c = 105
  · rw [if_pos h105] at h
    cases h
    exact plain_ok _ _ _ _ (by omega) (by omega) (by omega)
  rw [if_neg h105] at h
  by_cases h111 : c = 111
  · rw [if_pos h111] at h
    cases h
    exact plain_ok _ _ _ _ (by omega) (by omega) (by omega)
  rw [if_neg h111] at h
  by_cases h98 : c = 98
  · rw [if_pos h98] at h
    cases h
    exact fl_b
  rw [if_neg h98] at h
  by_cases h120 : c = 120
  · rw [if_pos h120] at h
    cases h
    exact fl_x
  rw [if_neg h120] at h
  by_cases h102 : c = 102
  · rw [if_pos h102] at h
    cases h
    exact fl_f
  rw [if_neg h102] at h
  cases h
/-- some bits of a word, written anew. -/
def ovr (w lo n v : Nat) : Nat := 2 ^ lo * (2 ^ n * (w / 2 ^ (lo + n)) + v) + w % 2 ^ lo
theorem ovr_bit (w lo n v j : Nat) (hv : v < 2 ^ n) : (ovr w lo n v).testBit j = if lo ≤ j ∧ j < lo + n then v.testBit (j - lo) else w.testBit j := by
  unfold ovr
  rw [Nat.testBit_two_pow_mul_add _ (Nat.mod_lt _ (Nat.two_pow_pos lo)), Nat.testBit_two_pow_mul_add _ hv]
  by_cases h1 : j < lo
  · rw [if_pos h1, if_neg (by omega), Nat.testBit_mod_two_pow]
    simp [h1]
  · rw [if_neg h1]
    by_cases h2 : j < lo + n
    · rw [if_pos (by omega), if_pos (by omega)]
    · rw [if_neg (by omega), if_neg (by omega), Nat.testBit_div_two_pow]
      congr 1
      omega
theorem fld_bit (w lo n j : Nat) : (w / 2 ^ lo % 2 ^ n).testBit j = (decide (j < n) && w.testBit (lo + j)) := by
  rw [Nat.testBit_mod_two_pow, Nat.testBit_div_two_pow, Nat.add_comm]
def Covers (f : Fl) (j : Nat) : Prop := f.lo ≤ j ∧ j < f.lo + f.n
def Apart (f g : Fl) : Prop := (f.lo + f.n ≤ g.lo ∨ g.lo + g.n ≤ f.lo) ∧ f.idx ≠ g.idx
/-- fields, written one behind the other. -/
def ovrL (V : Fl → Nat) : List Fl → Nat → Nat
  | [], w => w
  | f :: l, w => ovrL V l (ovr w f.lo f.n (V f))
theorem ovrL_out (V : Fl → Nat) (j : Nat) : ∀ (l : List Fl) (w : Nat), (∀ f ∈ l, V f < 2 ^ f.n) → (∀ f ∈ l, ¬ Covers f j) → (ovrL V l w).testBit j = w.testBit j
  | [], w, _, _ => rfl
  | f :: l, w, hv, h => by
    unfold ovrL
    rw [ovrL_out V j l _ (fun g hg => hv g (List.mem_cons_of_mem _ hg)) (fun g hg => h g (List.mem_cons_of_mem _ hg)), ovr_bit _ _ _ _ _ (hv f List.mem_cons_self), if_neg (show ¬ (f.lo ≤ j ∧ j < f.lo + f.n) from h f List.mem_cons_self)]
theorem ovrL_in (V : Fl → Nat) (j : Nat) : ∀ (l : List Fl) (w : Nat), (∀ f ∈ l, V f < 2 ^ f.n) → l.Pairwise Apart → ∀ f ∈ l, Covers f j → (ovrL V l w).testBit j = (V f).testBit (j - f.lo)
  | [], w, _, _, f, hf, _ => by cases hf
  | g :: l, w, hv, hp, f, hf, hc => by
    unfold ovrL
    rw [List.pairwise_cons] at hp
    rcases List.mem_cons.mp hf with rfl | hf
    · rw [ovrL_out V j l _ (fun g hg => hv g (List.mem_cons_of_mem _ hg)) (fun g hg hcg => by
        have := (hp.1 g hg).1
        unfold Covers at hc hcg
        omega), ovr_bit _ _ _ _ _ (hv f List.mem_cons_self), if_pos (show f.lo ≤ j ∧ j < f.lo + f.n from hc)]
    · exact ovrL_in V j l _ (fun g hg => hv g (List.mem_cons_of_mem _ hg)) hp.2 f hf hc
/-- the word, the program's way: field by field, each number is taken away. -/
def encL : List Fl → Nat → Ins → Option (Nat × Ins)
  | [], w, r => some (w, r)
  | f :: l, w, r => if fitF f (r.get f.idx) = true then encL l (ovr w f.lo f.n (putF f (r.get f.idx))) (r.set f.idx 0) else none
/-- a word's instruction, the program's way. -/
def decL (w0 sb : Nat) : List Fl → Ins → Nat → Option (Ins × Nat)
  | [], out, b => some (out, b)
  | f :: l, out, b => match getF f (w0 / 2 ^ f.lo % 2 ^ f.n) with
    | some x => decL w0 sb l (out.set f.idx x) (ovr b f.lo f.n (sb / 2 ^ f.lo % 2 ^ f.n))
    | none => none
theorem encL_some : ∀ (l : List Fl) (w : Nat) (r : Ins), (∀ f ∈ l, FlOk f) → l.Pairwise Apart → ∀ w' r', encL l w r = some (w', r') ↔
    (∀ f ∈ l, fitF f (r.get f.idx) = true) ∧ w' = ovrL (fun f => putF f (r.get f.idx)) l w ∧ (∀ k, k < 7 → r'.get k = if ∃ f ∈ l, f.idx = k then 0 else r.get k)
  | [], w, r, _, _, w', r' => by
    unfold encL ovrL
    constructor
    · intro h
      cases h
      exact ⟨fun f hf => (by cases hf), rfl, fun k hk => by simp⟩
    · rintro ⟨_, rfl, h⟩
      have e : r = r' := Ins.ext7 fun k hk => by rw [h k hk]; simp
      rw [e]
  | f :: l, w, r, ho, hp, w', r' => by
    rw [List.pairwise_cons] at hp
    have hf := ho f List.mem_cons_self
    have hne : ∀ g ∈ l, (r.set f.idx 0).get g.idx = r.get g.idx := fun g hg => by
      rw [Ins.get_set _ _ _ _ hf.idx.2 (ho g (List.mem_cons_of_mem _ hg)).idx.2, if_neg (hp.1 g hg).2]
    have hV : ∀ w, ovrL (fun g => putF g ((r.set f.idx 0).get g.idx)) l w = ovrL (fun g => putF g (r.get g.idx)) l w := by
      have : ∀ (l2 : List Fl) (V V2 : Fl → Nat), (∀ g ∈ l2, V g = V2 g) → ∀ w, ovrL V l2 w = ovrL V2 l2 w := by
        intro l2
        induction l2 with
        | nil => intro V V2 _ w; rfl
        | cons a l2 ih =>
          intro V V2 h w
          unfold ovrL
          rw [h a List.mem_cons_self]
          exact ih V V2 (fun g hg => h g (List.mem_cons_of_mem _ hg)) _
      exact this l _ _ fun g hg => by rw [hne g hg]
    unfold encL
    by_cases h0 : fitF f (r.get f.idx) = true
    · rw [if_pos h0, encL_some l _ _ (fun g hg => ho g (List.mem_cons_of_mem _ hg)) hp.2, hV]
      constructor
      · rintro ⟨h1, h2, h3⟩
        refine ⟨fun g hg => ?_, h2, fun k hk => ?_⟩
        · rcases List.mem_cons.mp hg with rfl | hg
          · exact h0
          · rw [← hne g hg]; exact h1 g hg
        · rw [h3 k hk, Ins.get_set _ _ _ _ hf.idx.2 hk]
          by_cases e : f.idx = k
          · rw [if_pos e, if_pos (show ∃ g ∈ f :: l, g.idx = k from ⟨f, List.mem_cons_self, e⟩)]
            simp
          · rw [if_neg e]
            have : (∃ g ∈ f :: l, g.idx = k) ↔ ∃ g ∈ l, g.idx = k := by
              constructor
              · rintro ⟨g, hg, h⟩
                rcases List.mem_cons.mp hg with rfl | hg
                · exact absurd h e
                · exact ⟨g, hg, h⟩
              · rintro ⟨g, hg, h⟩
                exact ⟨g, List.mem_cons_of_mem _ hg, h⟩
            simp only [this]
      · rintro ⟨h1, h2, h3⟩
        refine ⟨fun g hg => ?_, h2, fun k hk => ?_⟩
        · rw [hne g hg]; exact h1 g (List.mem_cons_of_mem _ hg)
        · rw [h3 k hk, Ins.get_set _ _ _ _ hf.idx.2 hk]
          by_cases e : f.idx = k
          · rw [if_pos e, if_pos (show ∃ g ∈ f :: l, g.idx = k from ⟨f, List.mem_cons_self, e⟩)]
            simp
          · rw [if_neg e]
            have : (∃ g ∈ f :: l, g.idx = k) ↔ ∃ g ∈ l, g.idx = k := by
              constructor
              · rintro ⟨g, hg, h⟩
                rcases List.mem_cons.mp hg with rfl | hg
                · exact absurd h e
                · exact ⟨g, hg, h⟩
              · rintro ⟨g, hg, h⟩
                exact ⟨g, List.mem_cons_of_mem _ hg, h⟩
            simp only [this]
    · rw [if_neg h0]
      constructor
      · intro h; cases h
      · rintro ⟨h1, _⟩
        exact absurd (h1 f List.mem_cons_self) h0
theorem decL_some (w0 sb : Nat) : ∀ (l : List Fl) (out : Ins) (b : Nat), (∀ f ∈ l, FlOk f) → l.Pairwise Apart → ∀ out' b', decL w0 sb l out b = some (out', b') ↔
    (∀ f ∈ l, getF f (w0 / 2 ^ f.lo % 2 ^ f.n) = some (out'.get f.idx)) ∧ b' = ovrL (fun f => sb / 2 ^ f.lo % 2 ^ f.n) l b ∧ (∀ k, k < 7 → (¬ ∃ f ∈ l, f.idx = k) → out'.get k = out.get k)
  | [], out, b, _, _, out', b' => by
    unfold decL ovrL
    constructor
    · intro h
      cases h
      exact ⟨fun f hf => (by cases hf), rfl, fun k hk _ => rfl⟩
    · rintro ⟨_, rfl, h⟩
      have e : out = out' := Ins.ext7 fun k hk => (h k hk (by simp)).symm
      rw [e]
  | f :: l, out, b, ho, hp, out', b' => by
    rw [List.pairwise_cons] at hp
    have hf := ho f List.mem_cons_self
    have hnf : ¬ ∃ g ∈ l, g.idx = f.idx := fun ⟨g, hg, h⟩ => (hp.1 g hg).2 h.symm
    unfold decL
    cases hg : getF f (w0 / 2 ^ f.lo % 2 ^ f.n) with
    | none =>
      simp only
      constructor
      · intro h; cases h
      · rintro ⟨h1, _⟩
        have := h1 f List.mem_cons_self
        rw [hg] at this
        cases this
    | some x =>
      simp only
      rw [decL_some w0 sb l _ _ (fun g hg => ho g (List.mem_cons_of_mem _ hg)) hp.2]
      constructor
      · rintro ⟨h1, h2, h3⟩
        refine ⟨fun g hgm => ?_, h2, fun k hk hn => ?_⟩
        · rcases List.mem_cons.mp hgm with rfl | hgm
          · rw [hg, h3 _ hf.idx.2 hnf, Ins.get_set _ _ _ _ hf.idx.2 hf.idx.2, if_pos rfl]
          · exact h1 g hgm
        · rw [h3 k hk (fun ⟨g, hgm, h⟩ => hn ⟨g, List.mem_cons_of_mem _ hgm, h⟩), Ins.get_set _ _ _ _ hf.idx.2 hk, if_neg (fun e => hn ⟨f, List.mem_cons_self, e⟩)]
      · rintro ⟨h1, h2, h3⟩
        refine ⟨fun g hgm => h1 g (List.mem_cons_of_mem _ hgm), h2, fun k hk hn => ?_⟩
        rw [Ins.get_set _ _ _ _ hf.idx.2 hk]
        by_cases e : f.idx = k
        · subst e
          have := h1 f List.mem_cons_self
          rw [hg] at this
          rw [if_pos rfl]
          exact (Option.some.inj this).symm
        · rw [if_neg e]
          refine h3 k hk fun ⟨g, hgm, h⟩ => ?_
          rcases List.mem_cons.mp hgm with rfl | hgm
          · exact e h
          · exact hn ⟨g, hgm, h⟩
/-- THE LAW: a word is an instruction just if the instruction is written as this word. -/
theorem dec_iff_enc (l : List Fl) (ho : ∀ f ∈ l, FlOk f) (hp : l.Pairwise Apart) (base op : Int) (sb w : Nat) (i : Ins) :
    (∃ b, decL w sb l (Ins.zero op) w = some (i, b) ∧ b = sb) ↔ i.op = op ∧ encL l sb i = some (w, Ins.zero op) := by
  rw [encL_some l sb i ho hp]
  constructor
  · rintro ⟨b, h, rfl⟩
    rw [decL_some w b l _ _ ho hp] at h
    obtain ⟨h1, h2, h3⟩ := h
    have hz : ¬ ∃ f ∈ l, f.idx = 0 := fun ⟨f, hf, h⟩ => by have := (ho f hf).idx.1; omega
    have hop : i.op = op := by
      have := h3 0 (by omega) hz
      exact this
    have hx : ∀ f ∈ l, fitF f (i.get f.idx) = true ∧ putF f (i.get f.idx) = w / 2 ^ f.lo % 2 ^ f.n := fun f hf => (ho f hf).fit _ _ (Nat.mod_lt _ (Nat.two_pow_pos _)) (h1 f hf)
    refine ⟨hop, fun f hf => (hx f hf).1, ?_, fun k hk => ?_⟩
    · apply Nat.eq_of_testBit_eq
      intro j
      by_cases hc : ∃ f ∈ l, Covers f j
      · obtain ⟨f, hf, hc⟩ := hc
        rw [ovrL_in _ j l _ (fun g hg => (ho g hg).lt _ (hx g hg).1) hp f hf hc, (hx f hf).2, fld_bit]
        unfold Covers at hc
        rw [decide_eq_true (by omega), Bool.true_and]
        congr 1
        omega
      · have hn : ∀ f ∈ l, ¬ Covers f j := fun f hf h => hc ⟨f, hf, h⟩
        rw [ovrL_out _ j l _ (fun g hg => (ho g hg).lt _ (hx g hg).1) hn]
        have this : b.testBit j = (ovrL (fun f => b / 2 ^ f.lo % 2 ^ f.n) l w).testBit j := congrArg (fun x => Nat.testBit x j) h2
        rw [ovrL_out _ j l _ (fun g hg => Nat.mod_lt _ (Nat.two_pow_pos _)) hn] at this
        exact this.symm
    · rw [Ins.zero_get _ _ hk]
      by_cases e : ∃ f ∈ l, f.idx = k
      · rw [if_pos e]
        obtain ⟨f, hf, h⟩ := e
        have := (ho f hf).idx.1
        rw [if_neg (by omega)]
      · rw [if_neg e, h3 k hk e, Ins.zero_get _ _ hk]
  · rintro ⟨hop, h1, h2, h3⟩
    refine ⟨sb, ?_, rfl⟩
    rw [decL_some w sb l _ _ ho hp]
    have hlt : ∀ f ∈ l, putF f (i.get f.idx) < 2 ^ f.n := fun f hf => (ho f hf).lt _ (h1 f hf)
    have hw : ∀ f ∈ l, w / 2 ^ f.lo % 2 ^ f.n = putF f (i.get f.idx) := fun f hf => by
      apply Nat.eq_of_testBit_eq
      intro j
      rw [fld_bit, h2]
      by_cases hj : j < f.n
      · rw [decide_eq_true hj, Bool.true_and, ovrL_in _ _ l _ hlt hp f hf (by unfold Covers; omega)]
        congr 1
        omega
      · rw [decide_eq_false hj, Bool.false_and]
        exact (Nat.testBit_lt_two_pow (Nat.lt_of_lt_of_le (hlt f hf) (Nat.pow_le_pow_right (by omega) (by omega)))).symm
    refine ⟨fun f hf => by rw [hw f hf]; exact (ho f hf).back _ (h1 f hf), ?_, fun k hk hn => ?_⟩
    · apply Nat.eq_of_testBit_eq
      intro j
      have hml : ∀ f ∈ l, sb / 2 ^ f.lo % 2 ^ f.n < 2 ^ f.n := fun f _ => Nat.mod_lt _ (Nat.two_pow_pos _)
      by_cases hc : ∃ f ∈ l, Covers f j
      · obtain ⟨f, hf, hc⟩ := hc
        rw [ovrL_in _ j l _ hml hp f hf hc, fld_bit]
        unfold Covers at hc
        rw [decide_eq_true (by omega), Bool.true_and]
        congr 1
        omega
      · have hn : ∀ f ∈ l, ¬ Covers f j := fun f hf h => hc ⟨f, hf, h⟩
        rw [ovrL_out _ j l _ hml hn, h2, ovrL_out _ j l _ hlt hn]
    · have := h3 k hk
      rw [if_neg hn] at this
      rw [← this]
end Go.Proofs.Ytfijppclaahkmaa
