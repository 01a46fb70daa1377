/- Whether two types are one: the document's Same. Conditions: the types lie in memory. -/
import Derived.Test.YtjioinmiglblmaaKindRefSame2
namespace Go.Proofs.Ytjioinmiglblmaa
open Go.RowKit Go.Sort
set_option linter.unusedVariables false
set_option linter.unusedSimpArgs false
theorem gives_eqb {P : Program} {f : FuncId} {args : Array Value} {w : World} {a b : Bool} (h : a = b) (c : Calls P f args w (Gives w (.bool a))) : Calls P f args w (Gives w (.bool b)) := by subst h; exact c
theorem refsame_one (k s : Int) (p : Bool) (fa : Option Addr) (fl fc : Nat) (c : Int) (ea : Option Addr) (el ec : Nat) (k2 s2 : Int) (p2 : Bool) (fa2 : Option Addr) (fl2 fc2 : Nat) (c2 : Int) (ea2 : Option Addr) (el2 ec2 : Nat) (gE gF : Nat → Bool) (w : World)
    (h1 : fl ≤ fc) (h2 : fc ≤ 9223372036854775807) (h3 : el ≤ ec) (h4 : ec ≤ 9223372036854775807) (h5 : fl2 ≤ fc2) (h6 : fc2 ≤ 9223372036854775807) (h7 : el2 ≤ ec2) (h8 : ec2 ≤ 9223372036854775807)
    (HE0 : el = el2 → ∀ i, i < el → TwoTy 27 w ea ea2 i (gE i)) (HF0 : fl = fl2 → ∀ i, i < fl → TwoFd 27 w fa fa2 i (gF i)) :
    Calls Try.prog 27 #[.agg #[.int .i64 k, .int .i64 s, .bool p, .slice fa fl fc, .int .i64 c, .slice ea el ec], .agg #[.int .i64 k2, .int .i64 s2, .bool p2, .slice fa2 fl2 fc2, .int .i64 c2, .slice ea2 el2 ec2]] w
      (Gives w (.bool ((k == k2) && (s == s2) && (p == p2) && (c == c2) && (el == el2 && allK gE el) && (fl == fl2 && allK gF fl)))) := by
  by_cases e0 : k = k2
  · subst e0
    by_cases e1 : s = s2
    · subst e1
      by_cases e2 : p = p2
      · subst e2
        by_cases e3 : c = c2
        · subst e3
          by_cases e4 : fl = fl2
          · subst e4
            by_cases e5 : el = el2
            · subst e5
              exact gives_eqb (by simp) (refsame_l k s p fa fl fc c ea el ec fa2 fc2 ea2 ec2 gE gF w h1 h2 h3 h4 h5 h6 h7 h8 (HE0 rfl) (HF0 rfl))
            · cases p
              · exact gives_eqb (by simp [e5]) (refsame_5f k s fa fl fc c ea el ec k s fa2 fl fc2 c ea2 el2 ec2 w (by omega) (by omega) (by omega) (by omega) (by simp) (by simp) (by simp) (by simp) (by simp; omega))
              · exact gives_eqb (by simp [e5]) (refsame_5 k s fa fl fc c ea el ec k s fa2 fl fc2 c ea2 el2 ec2 w (by omega) (by omega) (by omega) (by omega) (by simp) (by simp) (by simp) (by simp) (by simp; omega))
          · cases p
            · exact gives_eqb (by simp [e4]) (refsame_4f k s fa fl fc c ea el ec k s fa2 fl2 fc2 c ea2 el2 ec2 w (by omega) (by omega) (by omega) (by omega) (by simp) (by simp) (by simp) (by simp; omega))
            · exact gives_eqb (by simp [e4]) (refsame_4 k s fa fl fc c ea el ec k s fa2 fl2 fc2 c ea2 el2 ec2 w (by omega) (by omega) (by omega) (by omega) (by simp) (by simp) (by simp) (by simp; omega))
        · cases p
          · exact gives_eqb (by simp [e3]) (refsame_3f k s fa fl fc c ea el ec k s fa2 fl2 fc2 c2 ea2 el2 ec2 w (by omega) (by omega) (by omega) (by omega) (by simp) (by simp) (by simpa using e3))
          · exact gives_eqb (by simp [e3]) (refsame_3 k s fa fl fc c ea el ec k s fa2 fl2 fc2 c2 ea2 el2 ec2 w (by omega) (by omega) (by omega) (by omega) (by simp) (by simp) (by simpa using e3))
      · cases p <;> cases p2
        · exact absurd rfl e2
        · exact gives_eqb (by simp) (refsame_2b k s fa fl fc c ea el ec k s fa2 fl2 fc2 c2 ea2 el2 ec2 w (by omega) (by omega) (by omega) (by omega) (by simp) (by simp))
        · exact gives_eqb (by simp) (refsame_2a k s fa fl fc c ea el ec k s fa2 fl2 fc2 c2 ea2 el2 ec2 w (by omega) (by omega) (by omega) (by omega) (by simp) (by simp))
        · exact absurd rfl e2
    · exact gives_eqb (by simp [e1]) (refsame_1 k s p fa fl fc c ea el ec k s2 p2 fa2 fl2 fc2 c2 ea2 el2 ec2 w (by omega) (by omega) (by omega) (by omega) (by simp) (by simpa using e1))
  · exact gives_eqb (by simp [e0]) (refsame_0 k s p fa fl fc c ea el ec k2 s2 p2 fa2 fl2 fc2 c2 ea2 el2 ec2 w (by omega) (by omega) (by omega) (by omega) (by simpa using e0))
theorem refsame_any : ∀ (n m : Nat) (t : Ty n) (u : Ty m) (r r2 : Raw) (w : World), TyAt w n t r → TyAt w m u r2 → Calls Try.prog 27 #[r.val, r2.val] w (Gives w (.bool (sameF n m t u)))
  | 0, _, t, _, _, _, _, _, _ => nomatch t
  | n + 1, 0, _, u, _, _, _, _, _ => nomatch u
  | n + 1, m + 1, (t : TyF (Ty n)), (u : TyF (Ty m)), r, r2, w, hT, hU => by
    have IH := refsame_any n m
    obtain ⟨e1, e2, e3, e4, e5, e6, e7, e8, e9, hf, he⟩ := hT
    obtain ⟨rk, rs, rp, fa, fl, fc, rc, ea, el, ec⟩ := r
    simp only at e1 e2 e3 e4 e5 e6 hf he
    subst e1 e2 e3 e4 e5 e6
    obtain ⟨e1, e2, e3, e4, e5, e6, e7', e8', e9', hf2, he2⟩ := hU
    obtain ⟨rk2, rs2, rp2, fa2, fl2, fc2, rc2, ea2, el2, ec2⟩ := r2
    simp only at e1 e2 e3 e4 e5 e6 hf2 he2
    subst e1 e2 e3 e4 e5 e6
    have key := refsame_one t.kind t.size t.packed fa t.fields.length fc t.count ea t.elem.length ec u.kind u.size u.packed fa2 u.fields.length fc2 u.count ea2 u.elem.length ec2
      (fun i => match t.elem[i]?, u.elem[i]? with | some a, some b => sameF n m a b | _, _ => true)
      (fun i => match t.fields[i]?, u.fields[i]? with | some a, some b => sameFd a.name b.name a.isBits b.isBits a.width b.width (sameF n m a.type b.type) | _, _ => true) w
      hf.1 hf.2.1 he.1 he.2.1 hf2.1 hf2.2.1 he2.1 he2.2.1
      (fun hl i hi => by
        obtain ⟨b, off, rfl, hb, hc⟩ := he.2.2 (by omega)
        obtain ⟨b2, off2, rfl, hb2, hc2⟩ := he2.2.2 (by omega)
        obtain ⟨a, ha⟩ := get_some t.elem i hi
        obtain ⟨a2, ha2⟩ := get_some u.elem i (by omega)
        obtain ⟨q, hq, c0, c1, c2, c3, c4, c5⟩ := hc i a ha
        obtain ⟨q2, hq2, d0, d1, d2, d3, d4, d5⟩ := hc2 i a2 ha2
        refine ⟨b, off, b2, off2, q, q2, rfl, rfl, by omega, by omega, c0, c1, c2, c3, c4, c5, d0, d1, d2, d3, d4, d5, fun W' hW' => ?_⟩
        simp only [ha, ha2]
        exact IH a a2 q q2 W' (TyAt.below hW' hq) (TyAt.below hW' hq2))
      (fun hl i hi => by
        obtain ⟨b, off, rfl, hb, hc⟩ := hf.2.2 (by omega)
        obtain ⟨b2, off2, rfl, hb2, hc2⟩ := hf2.2.2 (by omega)
        obtain ⟨a, ha⟩ := get_some t.fields i hi
        obtain ⟨a2, ha2⟩ := get_some u.fields i (by omega)
        obtain ⟨q, hq, _, _, c0, c1, c2, c3, c4, c5, c6, c7, c8⟩ := hc i a ha
        obtain ⟨q2, hq2, _, _, d0, d1, d2, d3, d4, d5, d6, d7, d8⟩ := hc2 i a2 ha2
        refine ⟨b, off, b2, off2, a.name, a2.name, a.isBits, a2.isBits, a.width, a2.width, q, q2, sameF n m a.type a2.type, rfl, rfl, by omega, by omega, c0, c1, c2, c3, c4, c5, c6, c7, c8, d0, d1, d2, d3, d4, d5, d6, d7, d8, fun W' hW' => ?_, ?_⟩
        · exact IH a.type a2.type q q2 W' (TyAt.below hW' hq) (TyAt.below hW' hq2)
        · simp only [ha, ha2])
    exact key
end Go.Proofs.Ytjioinmiglblmaa
