/- Whether a type may be: the document's inner and Sound. Conditions: the type lies in memory. -/
import Derived.Test.YtlbkloamabomcaaKindInner3
import Derived.Test.YtlbkloamabomcaaKindInner4
import Derived.Test.YtlbkloamabomcaaKindInner5
import Derived.Test.YtlbkloamabomcaaKindRefDepth
namespace Go.Proofs.Ytlbkloamabomcaa
open Go.RowKit Go.Sort
set_option linter.unusedVariables false
set_option linter.unusedSimpArgs false
theorem inner_any : ∀ (n : Nat) (t : Ty n) (r : Raw) (w : World), TyAt w n t r → Calls Try.prog 44 #[r.val] w (Gives w (.int .i64 (soundF n t)))
  | 0, t, _, _, _ => nomatch t
  | n + 1, (t : TyF (Ty n)), r, w, hT => by
    have IH := inner_any n
    have hl := hT.len
    obtain ⟨e1, e2, e3, e4, e5, e6, e7, e8, e9, hf, he⟩ := hT
    obtain ⟨rk, rs, rp, fa, fl, fc, rc, ea, el, ec⟩ := r
    simp only at e1 e2 e3 e4 e5 e6 hf he
    subst e1 e2 e3 e4 e5 e6
    have key := inner_one t.kind t.size t.packed fa t.fields.length fc t.count ea t.elem.length ec (firstE (fieldOf (soundF n) (tkind n) (tsize n) t) t.fields.length) (headE (soundF n) t.elem) w hl.1 hl.2
      (fun hk s0 s1 s2 h1 h2 => by
        obtain ⟨b, off, rfl, hb, hc⟩ := hf.2.2 (by omega)
        have HF : FieldsIn 44 w b off t.fields.length fc t.packed (nameAt t.fields) (fieldOf (soundF n) (tkind n) (tsize n) t) := fun i hi => by
          obtain ⟨f, hfk⟩ := get_some t.fields i hi
          obtain ⟨q, hq, g1, g2, c0, c1, c2, c3, c4, c5, c6, c7, c8⟩ := hc i f hfk
          have hk : q.kind = tkind n f.type ∧ q.size = tsize n f.type := by
            match n, f.type, hq with
            | m + 1, (u : TyF (Ty m)), hq => exact ⟨hq.1, hq.2.1⟩
          refine ⟨f.name, q, f.isBits, f.width, soundF n f.type, ⟨hb, hi, hf.1, hf.2.1, c0, c1, c2, c3, c4, c5, c6, c7, c8, fun j hj => ?_, g2⟩, fun W hW => IH f.type q W (TyAt.below hW hq), fun h0 h1 => ?_, ?_⟩
          · obtain ⟨g, hgj⟩ := get_some t.fields j (by omega)
            obtain ⟨q', _, _, _, d0, d1, d2, d3, d4, d5, d6, d7, d8⟩ := hc j g hgj
            exact ⟨q', g.isBits, g.width, by rw [nameAt_eq t.fields j g hgj]; exact d0, d1, d2, d3, d4, d5, d6, d7, d8⟩
          · rw [hk.2]
            exact soundF_int n f.type h0 (by rw [← hk.1]; exact h1)
          · rw [fieldOf_some _ _ _ t i f hfk, hk.1, hk.2]
        rcases hk with hk | hk
        · rw [hk]
          exact inner_group3 t.size t.packed b off t.fields.length fc t.count ea t.elem.length ec _ _ w hl.2 s0 s1 s2 h1 h2 HF
        · rw [hk]
          exact inner_group4 t.size t.packed b off t.fields.length fc t.count ea t.elem.length ec _ _ w hl.2 s0 s1 s2 h1 h2 HF)
      (fun h1 => by
        obtain ⟨b, off, rfl, hb, hc⟩ := he.2.2 (by omega)
        obtain ⟨x, hx⟩ := get_some t.elem 0 (by omega)
        obtain ⟨q, hq, c0, c1, c2, c3, c4, c5⟩ := hc 0 x hx
        simp only [Nat.zero_mul, Nat.add_zero] at c0 c1 c2 c3 c4 c5
        have hxe : headE (soundF n) t.elem = soundF n x := by
          cases he2 : t.elem with
          | nil => rw [he2] at hx; simp at hx
          | cons a l => rw [he2] at hx; simp at hx; rw [hx]; rfl
        refine ⟨b, off, q.kind, q.size, q.packed, q.fa, q.fl, q.fc, q.count, q.ea, q.el, q.ec, rfl, hb, c0, c1, c2, c3, c4, c5, fun W hW => ?_⟩
        rw [hxe]
        exact IH x q W (TyAt.below hW hq))
    exact key
theorem refSound_any (n : Nat) (t : Ty n) (r : Raw) (w : World) (hT : TyAt w n t r) : Calls Try.prog 30 #[r.val] w (Gives w (.int .i64 (SoundF n t))) := by
  have D := Lib.hid (fun W (hW : Below w.heap.size w W) => refdepth_any n t r 65 W (by omega) (by omega) (TyAt.below hW hT))
  have S := Lib.hid (fun W (hW : Below w.heap.size w W) => inner_any n t r W (TyAt.below hW hT))
  have hr := depthF_rng n t 65 (by omega)
  have hU : Hid (SoundF n t = if 64 < depthF n t 65 then 5 else soundF n t) := Lib.hid rfl
  clear hT
  obtain ⟨rk, rs, rp, fa, fl, fc, rc, ea, el, ec⟩ := r
  unfold Raw.val at D S ⊢
  simp only at D S ⊢
  generalize depthF n t 65 = d at *
  generalize SoundF n t = U at *
  by_cases h : 64 < d
  · have hU2 : Hid (U = 5) := by rw [hU.out, if_pos h]; exact Lib.hid rfl
    go_enter Try.func30, Try.ntmps30
    go_wp2_with (first | (go_at_call 43; refine (D.out _ (by repeat (first | exact Below.refl _ _ | refine below_mo ?_ _ | refine below_al ?_ _))).mono ?_; rintro e w1 ⟨rfl, p1, rfl⟩))
    go_ret
    exact Gives.mk (ret_int (by rw [hU2.out])) (by repeat (first | exact Below.refl _ _ | refine below_mo ?_ _ | refine below_al ?_ _))
  · have hU2 : Hid (U = soundF n t) := by rw [hU.out, if_neg h]; exact Lib.hid rfl
    go_enter Try.func30, Try.ntmps30
    go_wp2_with (first | (go_at_call 43; refine (D.out _ (by repeat (first | exact Below.refl _ _ | refine below_mo ?_ _ | refine below_al ?_ _))).mono ?_; rintro e w1 ⟨rfl, p1, rfl⟩) | (go_at_call 44; refine (S.out _ (by repeat (first | exact Below.refl _ _ | refine below_mo ?_ _ | refine below_al ?_ _))).mono ?_; rintro e w1 ⟨rfl, p1, rfl⟩))
    go_ret
    exact Gives.mk (ret_int (by rw [hU2.out])) (by repeat (first | exact Below.refl _ _ | refine below_mo ?_ _ | refine below_al ?_ _))
end Go.Proofs.Ytlbkloamabomcaa
