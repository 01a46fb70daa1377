/- The instructions' words: tables, and what follows of them. No condition. -/
import Derived.Test.YtfijppclaahkmaaA64Math
namespace Go.Proofs.Ytfijppclaahkmaa
set_option linter.unusedVariables false
set_option linter.unusedSimpArgs false
/-- a shape: what stands in the word, and letters. -/
def shp (k : Nat) : Nat × List Nat := match k with
  | 1 => (3531603968, [100, 105, 113])
  | 2 => (4068474880, [100, 105, 113])
  | 3 => (2332033024, [100, 110, 109])
  | 4 => (3405774848, [100, 110, 109])
  | 5 => (3942645760, [100, 110, 109])
  | 6 => (2315255808, [100, 110, 109])
  | 7 => (2852126720, [100, 110, 109])
  | 8 => (3388997632, [100, 110, 109])
  | 9 => (2600500224, [100, 110, 109])
  | 10 => (2596282368, [100, 110, 109])
  | 11 => (2596283392, [100, 110, 109])
  | 12 => (2594113504, [100, 107])
  | 13 => (335544320, [98])
  | 14 => (1409286144, [120, 99])
  | 15 => (3019898880, [100, 120])
  | 16 => (3036676096, [100, 120])
  | 17 => (960495616, [100, 97, 111, 115])
  | 18 => (956301312, [100, 97, 111, 115])
  | 19 => (148896768, [100, 97, 115])
  | 20 => (144702464, [100, 97, 115])
  | 21 => (140475392, [100, 97, 115])
  | 22 => (140508160, [100, 97, 115])
  | 23 => (134249472, [100, 97, 115, 109])
  | 24 => (134282240, [100, 97, 115, 109])
  | 25 => (3363766272, [100, 97, 101])
  | 26 => (3363799040, [100, 97, 101])
  | 27 => (3357540352, [100, 97, 101, 109])
  | 28 => (3357573120, [100, 97, 101, 109])
  | 29 => (3573756095, [102])
  | 30 => (3573759839, [122])
  | 31 => (3556769793, [105])
  | 32 => (3558866944, [105])
  | _ => (0, [])
def baseN (op : Int) : Nat := if 0 ≤ op then (shp op.toNat).1 else 0
def lets (op : Int) : List Nat := if 0 ≤ op then (shp op.toNat).2 else []
def fls (op : Int) : List Fl := (lets op).filterMap fl
theorem shp_out : ∀ k, 32 < k → shp k = (0, []) := by
  intro k h
  unfold shp
  split <;> first | rfl | omega
theorem lets_in {op : Int} (h : lets op ≠ []) : 1 ≤ op ∧ op ≤ 32 := by
  unfold lets at h
  split at h
  · rename_i h0
    refine ⟨?_, ?_⟩
    · rcases Nat.eq_zero_or_pos op.toNat with e | e
      · rw [e] at h
        exact absurd rfl h
      · omega
    · rcases Nat.lt_or_ge 32 op.toNat with e | e
      · rw [shp_out _ e] at h
        exact absurd rfl h
      · omega
  · exact absurd rfl h
def apartB (f g : Fl) : Bool := (decide (f.lo + f.n ≤ g.lo) || decide (g.lo + g.n ≤ f.lo)) && !(f.idx == g.idx)
def pairB : List Fl → Bool
  | [] => true
  | f :: l => l.all (apartB f) && pairB l
theorem pairB_ok : ∀ l, pairB l = true → l.Pairwise Apart
  | [], _ => List.Pairwise.nil
  | f :: l, h => by
    unfold pairB at h
    rw [Bool.and_eq_true] at h
    refine List.pairwise_cons.2 ⟨fun g hg => ?_, pairB_ok l h.2⟩
    have := List.all_eq_true.1 h.1 g hg
    unfold apartB at this
    unfold Apart
    simpa using this
theorem pair_all : (List.range 33).all (fun k => pairB (fls k)) = true := by decide +kernel
theorem base_all : (List.range 33).all (fun k => decide (baseN k < 4294967296)) = true := by decide +kernel
theorem fls_pair (op : Int) : (fls op).Pairwise Apart := by
  by_cases h : lets op = []
  · unfold fls
    rw [h]
    exact List.Pairwise.nil
  · have := lets_in h
    have h2 := List.all_eq_true.1 pair_all op.toNat (List.mem_range.2 (by omega))
    have e : (op.toNat : Int) = op := by omega
    rw [e] at h2
    exact pairB_ok _ h2
theorem fls_ok (op : Int) : ∀ f ∈ fls op, FlOk f := by
  intro f hf
  unfold fls at hf
  obtain ⟨c, _, hc⟩ := List.mem_filterMap.1 hf
  exact fl_ok c f hc
theorem base_lt (op : Int) : baseN op < 4294967296 := by
  by_cases h : 0 ≤ op ∧ op ≤ 32
  · have h2 := List.all_eq_true.1 base_all op.toNat (List.mem_range.2 (by omega))
    have e : (op.toNat : Int) = op := by omega
    rw [e] at h2
    simpa using h2
  · unfold baseN
    split
    · rw [shp_out _ (by omega)]
      omega
    · omega
def freeB (op : Int) (j : Nat) : Bool := (fls op).all (fun f => !(decide (f.lo ≤ j) && decide (j < f.lo + f.n)))
def unlikeB (a b : Int) : Bool := (List.range 32).any (fun j => freeB a j && freeB b j && ((baseN a).testBit j != (baseN b).testBit j))
theorem unlike_all : (List.range 33).all (fun a => (List.range 33).all (fun b => a == b || a == 0 || b == 0 || unlikeB a b)) = true := by decide +kernel
theorem enc_free {op : Int} {i r : Ins} {w j : Nat} (h : encL (fls op) (baseN op) i = some (w, r)) (hj : freeB op j = true) : w.testBit j = (baseN op).testBit j := by
  rw [encL_some _ _ _ (fls_ok op) (fls_pair op)] at h
  obtain ⟨h1, h2, _⟩ := h
  rw [h2, ovrL_out _ j _ _ (fun f hf => (fls_ok op f hf).lt _ (h1 f hf)) (fun f hf hc => ?_)]
  have := List.all_eq_true.1 hj f hf
  unfold Covers at hc
  simp at this
  omega
theorem enc_op {a b : Int} {i r j s : Ins} {w : Nat} (ha : 1 ≤ a ∧ a ≤ 32) (hb : 1 ≤ b ∧ b ≤ 32) (h : encL (fls a) (baseN a) i = some (w, r)) (k : encL (fls b) (baseN b) j = some (w, s)) : a = b := by
  have h2 := List.all_eq_true.1 (List.all_eq_true.1 unlike_all a.toNat (List.mem_range.2 (by omega))) b.toNat (List.mem_range.2 (by omega))
  have e1 : (a.toNat : Int) = a := by omega
  have e2 : (b.toNat : Int) = b := by omega
  rw [e1, e2] at h2
  simp only [Bool.or_eq_true, beq_iff_eq] at h2
  rcases h2 with ((h2 | h2) | h2) | h2
  · omega
  · omega
  · omega
  · unfold unlikeB at h2
    obtain ⟨q, _, hq⟩ := List.any_eq_true.1 h2
    simp only [Bool.and_eq_true, bne_iff_ne, ne_eq] at hq
    exact absurd ((enc_free h hq.1.1).symm.trans (enc_free k hq.1.2)) hq.2
def restB (op : Int) (r : Ins) : Bool := r.op == op && r.d == 0 && r.n == 0 && r.m == 0 && r.e == 0 && r.sz == 0 && r.imm == 0
theorem restB_iff (op : Int) (r : Ins) : restB op r = true ↔ r = Ins.zero op := by
  obtain ⟨a0, a1, a2, a3, a4, a5, a6⟩ := r
  unfold restB Ins.zero
  simp [and_assoc]
/-- the word of an instruction. -/
def enc (i : Ins) : Option Nat := if lets i.op = [] then none else match encL (fls i.op) (baseN i.op) i with
  | some (w, r) => if restB i.op r = true then some w else none
  | none => none
theorem enc_some (i : Ins) (w : Nat) : enc i = some w ↔ lets i.op ≠ [] ∧ encL (fls i.op) (baseN i.op) i = some (w, Ins.zero i.op) := by
  unfold enc
  by_cases h : lets i.op = []
  · rw [if_pos h]
    simp [h]
  · rw [if_neg h]
    cases he : encL (fls i.op) (baseN i.op) i with
    | none => simp
    | some q =>
      obtain ⟨v, r⟩ := q
      simp only
      by_cases hr : restB i.op r = true
      · rw [if_pos hr]
        have := (restB_iff _ _).1 hr
        subst this
        simp [h]
      · rw [if_neg hr]
        simp only [Option.some.injEq, Prod.mk.injEq, reduceCtorEq, false_iff, not_and, ne_eq]
        intro _ _ e
        exact hr ((restB_iff _ _).2 e)
theorem enc_lt {i : Ins} {w : Nat} (h : enc i = some w) : w < 4294967296 := by
  obtain ⟨_, h⟩ := (enc_some i w).1 h
  rw [encL_some _ _ _ (fls_ok _) (fls_pair _)] at h
  obtain ⟨h1, h2, _⟩ := h
  refine Nat.lt_pow_two_of_testBit (n := 32) w fun j hj => ?_
  rw [h2, ovrL_out _ j _ _ (fun f hf => (fls_ok _ f hf).lt _ (h1 f hf)) (fun f hf hc => by have := (fls_ok _ f hf).hi; unfold Covers at hc; omega)]
  exact Nat.testBit_lt_two_pow (Nat.lt_of_lt_of_le (base_lt _) (Nat.pow_le_pow_right (n := 2) (by omega) hj))
/-- the instruction of an operation that a word is. -/
def decOne (op : Int) (w : Nat) : Option Ins := match decL w (baseN op) (fls op) (Ins.zero op) w with
  | some (out, b) => if b = baseN op then some out else none
  | none => none
theorem decOne_iff (op : Int) (w : Nat) (i : Ins) (hop : lets op ≠ []) : decOne op w = some i ↔ i.op = op ∧ enc i = some w := by
  have h := dec_iff_enc (fls op) (fls_ok op) (fls_pair op) 0 op (baseN op) w i
  have e : decOne op w = some i ↔ ∃ b, decL w (baseN op) (fls op) (Ins.zero op) w = some (i, b) ∧ b = baseN op := by
    unfold decOne
    cases hd : decL w (baseN op) (fls op) (Ins.zero op) w with
    | none => simp
    | some q =>
      obtain ⟨out, b⟩ := q
      simp only
      by_cases hb : b = baseN op
      · rw [if_pos hb]
        simp [hb]
      · rw [if_neg hb]
        simp only [reduceCtorEq, Option.some.injEq, Prod.mk.injEq, false_iff, not_exists, not_and]
        rintro b' ⟨_, rfl⟩
        exact hb
  rw [e, h, enc_some]
  constructor
  · rintro ⟨rfl, h2⟩
    exact ⟨rfl, hop, h2⟩
  · rintro ⟨rfl, _, h2⟩
    exact ⟨rfl, h2⟩
/-- the instruction that a word is. -/
def decF (w : Nat) : Option Ins := (List.range 32).findSome? (fun k => decOne ((k + 1 : Nat) : Int) w)
theorem lets_some : ∀ k, k < 32 → lets ((k + 1 : Nat) : Int) ≠ [] := by decide
theorem dec_some {w : Nat} {i : Ins} (h : decF w = some i) : enc i = some w := by
  unfold decF at h
  obtain ⟨k, hk, h⟩ := List.exists_of_findSome?_eq_some h
  exact ((decOne_iff _ w i (lets_some k (List.mem_range.1 hk))).1 h).2
theorem enc_inj {i j : Ins} {w : Nat} (h : enc i = some w) (k : enc j = some w) : i = j := by
  have h1 := (enc_some i w).1 h
  have k1 := (enc_some j w).1 k
  have e := enc_op (lets_in h1.1) (lets_in k1.1) h1.2 k1.2
  have h2 := (decOne_iff i.op w i h1.1).2 ⟨rfl, h⟩
  have k2 := (decOne_iff i.op w j h1.1).2 ⟨e.symm, k⟩
  rw [h2] at k2
  exact Option.some.inj k2
theorem dec_enc {i : Ins} {w : Nat} (h : enc i = some w) : decF w = some i := by
  have h1 := (enc_some i w).1 h
  have hin := lets_in h1.1
  cases hd : decF w with
  | some j => rw [enc_inj h (dec_some hd)]
  | none =>
    unfold decF at hd
    rw [List.findSome?_eq_none_iff] at hd
    have := hd (i.op.toNat - 1) (List.mem_range.2 (by omega))
    have e : ((i.op.toNat - 1 + 1 : Nat) : Int) = i.op := by omega
    rw [e, (decOne_iff i.op w i h1.1).2 ⟨rfl, h⟩] at this
    cases this
end Go.Proofs.Ytfijppclaahkmaa
