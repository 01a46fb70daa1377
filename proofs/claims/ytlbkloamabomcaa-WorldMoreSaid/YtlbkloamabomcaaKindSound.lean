/- Whether a type may be: the program's walk. Conditions: the type lies in memory. -/
import Derived.Test.YtlbkloamabomcaaKindSpec
import Derived.Test.YtlbkloamabomcaaKindField
namespace Go.Proofs.Ytlbkloamabomcaa
open Go.RowKit Go.Sort
set_option linter.unusedVariables false
set_option linter.unusedSimpArgs false
theorem gives_eq {P : Program} {f : FuncId} {args : Array Value} {w : World} {a b : Int} (h : a = b) (c : Calls P f args w (Gives w (.int .i64 a))) : Calls P f args w (Gives w (.int .i64 b)) := by subst h; exact c
theorem field_any (rk rs : Int) (rp : Bool) (b off fl fc : Nat) (rc : Int) (ea : Option Addr) (el ec : Nat) (s : ByteArray) (qk qs : Int) (qp : Bool) (qfa : Option Addr) (qfl qfc : Nat) (qc : Int) (qea : Option Addr) (qel qec : Nat) (bt : Bool) (wd : Int) (i : Nat) (nm : Nat → ByteArray) (e : Int) (w : World)
    (I : FieldIn w b off fl fc i s ⟨qk, qs, qp, qfa, qfl, qfc, qc, qea, qel, qec⟩ bt wd nm)
    (S : ∀ W, Below w.heap.size w W → Calls Try.prog 61 #[.agg #[.int .i64 qk, .int .i64 qs, .bool qp, .slice qfa qfl qfc, .int .i64 qc, .slice qea qel qec]] W (Gives W (.int .i64 e)))
    (hq : e = 0 → qk = 1 → 1 ≤ qs ∧ qs ≤ 8) :
    Calls Try.prog 89 #[.agg #[.int .i64 rk, .int .i64 rs, .bool rp, .slice (some ⟨b, off, none⟩) fl fc, .int .i64 rc, .slice ea el ec], .int .i64 i] w (Gives w (.int .i64 (fieldE rp s (anyB nm s i) e bt wd qk qs))) := by
  cases hn : nameB s
  · cases em : s.toList.isEmpty
    · exact gives_eq (by simp [fieldE, hn, em]) (field_0 rk rs rp b off fl fc rc ea el ec s qk qs qp qfa qfl qfc qc qea qel qec bt wd i nm w I hn em)
    · cases bt
      · exact gives_eq (by simp [fieldE, hn, em]) (field_1 rk rs rp b off fl fc rc ea el ec s qk qs qp qfa qfl qfc qc qea qel qec wd i nm w I hn em)
      · by_cases he : e = 0
        · subst he
          by_cases hk : qk = 1
          · have K : (qk != 1) = false := by simp [hk]
            have hr := hq rfl hk
            cases rp
            · rcases Int.lt_or_le wd 0 with h1 | h1
              · exact gives_eq (by simp [fieldE, hn, em, K, h1]) (field_15 rk rs b off fl fc rc ea el ec s qk qs qp qfa qfl qfc qc qea qel qec wd i nm w I hn em S K h1)
              · rcases Int.lt_or_le (8 * qs) wd with h2 | h2
                · exact gives_eq (by simp [fieldE, hn, em, K, h2]) (field_16 rk rs b off fl fc rc ea el ec s qk qs qp qfa qfl qfc qc qea qel qec wd i nm w I hn em S K hr h1 h2)
                · have z : fieldE false s (anyB nm s i) 0 true wd qk qs = 0 := by simp [fieldE, hn, em, K]; omega
                  cases h0 : (wd == 0)
                  · exact gives_eq z.symm (field_18 rk rs b off fl fc rc ea el ec s qk qs qp qfa qfl qfc qc qea qel qec wd i nm w I hn em S K hr h1 h2 h0)
                  · exact gives_eq z.symm (field_17 rk rs b off fl fc rc ea el ec s qk qs qp qfa qfl qfc qc qea qel qec wd i nm w I hn em S K hr h1 h2 h0)
            · exact gives_eq (by simp [fieldE, hn, em, K]) (field_14 rk rs b off fl fc rc ea el ec s qk qs qp qfa qfl qfc qc qea qel qec wd i nm w I hn em S K)
          · have K : (qk != 1) = true := by simp [hk]
            exact gives_eq (by simp [fieldE, hn, em, K]) (field_13 rk rs rp b off fl fc rc ea el ec s qk qs qp qfa qfl qfc qc qea qel qec wd i nm w I hn em S K)
        · exact gives_eq (by simp [fieldE, hn, em, he]) (field_12 rk rs rp b off fl fc rc ea el ec s qk qs qp qfa qfl qfc qc qea qel qec wd i nm e w I hn em S (by simpa using he))
  · have em := empty_name hn
    cases tw : anyB nm s i
    · by_cases he : e = 0
      · subst he
        cases bt
        · cases h0 : (wd != 0)
          · exact gives_eq (by simp [fieldE, hn, em, h0]) (field_5 rk rs rp b off fl fc rc ea el ec s qk qs qp qfa qfl qfc qc qea qel qec wd i nm w I hn em tw S h0)
          · exact gives_eq (by simp [fieldE, hn, em, h0]) (field_4 rk rs rp b off fl fc rc ea el ec s qk qs qp qfa qfl qfc qc qea qel qec wd i nm w I hn em tw S h0)
        · by_cases hk : qk = 1
          · have K : (qk != 1) = false := by simp [hk]
            have hr := hq rfl hk
            cases rp
            · rcases Int.lt_or_le wd 0 with h1 | h1
              · exact gives_eq (by simp [fieldE, hn, em, K, h1]) (field_8 rk rs b off fl fc rc ea el ec s qk qs qp qfa qfl qfc qc qea qel qec wd i nm w I hn em tw S K h1)
              · rcases Int.lt_or_le (8 * qs) wd with h2 | h2
                · exact gives_eq (by simp [fieldE, hn, em, K, h2]) (field_9 rk rs b off fl fc rc ea el ec s qk qs qp qfa qfl qfc qc qea qel qec wd i nm w I hn em tw S K hr h1 h2)
                · cases h0 : (wd == 0)
                  · exact gives_eq (by simp [fieldE, hn, em, K, h0]; omega) (field_11 rk rs b off fl fc rc ea el ec s qk qs qp qfa qfl qfc qc qea qel qec wd i nm w I hn em tw S K hr h1 h2 h0)
                  · exact gives_eq (by simp [fieldE, hn, em, K, h0]) (field_10 rk rs b off fl fc rc ea el ec s qk qs qp qfa qfl qfc qc qea qel qec wd i nm w I hn em tw S K hr h1 h2 h0)
            · exact gives_eq (by simp [fieldE, hn, em, K]) (field_7 rk rs b off fl fc rc ea el ec s qk qs qp qfa qfl qfc qc qea qel qec wd i nm w I hn em tw S K)
          · have K : (qk != 1) = true := by simp [hk]
            exact gives_eq (by simp [fieldE, hn, em, K]) (field_6 rk rs rp b off fl fc rc ea el ec s qk qs qp qfa qfl qfc qc qea qel qec wd i nm w I hn em tw S K)
      · exact gives_eq (by simp [fieldE, hn, em, he]) (field_3 rk rs rp b off fl fc rc ea el ec s qk qs qp qfa qfl qfc qc qea qel qec bt wd i nm e w I hn em tw S (by simpa using he))
    · exact gives_eq (by simp [fieldE, hn, em]) (field_2 rk rs rp b off fl fc rc ea el ec s qk qs qp qfa qfl qfc qc qea qel qec bt wd i nm w I hn em tw)
/-- a field of a type in memory, as its walk reads it. -/
theorem field_ty (n : Nat) (t : TyF (Ty n)) (r : Raw) (w : World) (hT : TyAt w (n + 1) t r) (hl : t.fields.length ≤ 9223372036854775807) (i : Nat) (hi : i < t.fields.length)
    (IH : ∀ (u : Ty n) (q : Raw) (W : World), TyAt W n u q → Calls Try.prog 61 #[q.val] W (Gives W (.int .i64 (soundF n u)))) :
    Calls Try.prog 89 #[r.val, .int .i64 i] w (Gives w (.int .i64 (fieldOf (soundF n) (tkind n) (tsize n) t i))) := by
  obtain ⟨e1, e2, e3, e4, e5, e6, e7, e8, e9, hf, he⟩ := hT
  obtain ⟨rk, rs, rp, fa, fl, fc, rc, ea, el, ec⟩ := r
  simp only at e1 e2 e3 e4 e5 e6 hf he
  subst e1 e2 e3 e4 e5 e6
  obtain ⟨b, off, rfl, hb, hc⟩ := hf.2.2 (by omega)
  obtain ⟨f, hfk⟩ := get_some t.fields i hi
  obtain ⟨q, hq, g1, g2, c0, c1, c2, c3, c4, c5, c6, c7, c8⟩ := hc i f hfk
  rw [fieldOf_some _ _ _ t i f hfk]
  obtain ⟨qk, qs, qp, qfa, qfl, qfc, qc, qea, qel, qec⟩ := q
  have hk : qk = tkind n f.type ∧ qs = tsize n f.type := by
    match n, f.type, hq with
    | m + 1, (u : TyF (Ty m)), hq => exact ⟨hq.1, hq.2.1⟩
  have key := field_any t.kind t.size t.packed b off t.fields.length fc t.count ea t.elem.length ec f.name qk qs qp qfa qfl qfc qc qea qel qec f.isBits f.width i (nameAt t.fields) (soundF n f.type) w
    ⟨hb, hi, hf.1, hf.2.1, c0, c1, c2, c3, c4, c5, c6, c7, c8, fun j hj => by
      obtain ⟨g, hgj⟩ := get_some t.fields j (by omega)
      obtain ⟨q', _, _, _, d0, d1, d2, d3, d4, d5, d6, d7, d8⟩ := hc j g hgj
      exact ⟨q', g.isBits, g.width, by rw [nameAt_eq t.fields j g hgj]; exact d0, d1, d2, d3, d4, d5, d6, d7, d8⟩, g2⟩
    (fun W hW => IH f.type ⟨qk, qs, qp, qfa, qfl, qfc, qc, qea, qel, qec⟩ W (TyAt.below hW hq))
    (fun h0 h1 => by rw [hk.2]; exact soundF_int n f.type h0 (by rw [← hk.1]; exact h1))
  rw [hk.1, hk.2] at key
  rw [← hk.1, ← hk.2] at key ⊢
  exact key
end Go.Proofs.Ytlbkloamabomcaa
