/- Whether a type may be, and how deep it is: the program's Sound and Depth. Conditions: the type lies in memory. -/
import Derived.Test.YtlbkloamabomcaaKindSound2
import Derived.Test.YtlbkloamabomcaaKindRefDepth
namespace Go.Proofs.Ytlbkloamabomcaa
open Go.RowKit Go.Sort
set_option linter.unusedVariables false
set_option linter.unusedSimpArgs false
theorem TyAt.len {w : World} {n : Nat} {t : TyF (Ty n)} {r : Raw} (h : TyAt w (n + 1) t r) : t.fields.length ≤ 9223372036854775807 ∧ t.elem.length ≤ 9223372036854775807 := by
  obtain ⟨e1, e2, e3, e4, e5, e6, e7, e8, e9, hf, he⟩ := h
  have := hf.1
  have := hf.2.1
  have := he.1
  have := he.2.1
  omega
theorem sound_any : ∀ (n : Nat) (t : Ty n) (r : Raw) (w : World), TyAt w n t r → Calls Try.prog 61 #[r.val] w (Gives w (.int .i64 (soundF n t)))
  | 0, t, _, _, _ => nomatch t
  | n + 1, (t : TyF (Ty n)), r, w, hT => by
    have IH := sound_any n
    have hl := hT.len
    have hT' := hT
    obtain ⟨e1, e2, e3, e4, e5, e6, e7, e8, e9, hf, he⟩ := hT
    obtain ⟨rk, rs, rp, fa, fl, fc, rc, ea, el, ec⟩ := r
    simp only at e1 e2 e3 e4 e5 e6 hf he
    subst e1 e2 e3 e4 e5 e6
    have key := sound_one t.kind t.size t.packed fa t.fields.length fc t.count ea t.elem.length ec (groupE (soundF n) (tkind n) (tsize n) t) (headE (soundF n) t.elem) w hl.1 hl.2
      (fun W hW => group_any t.kind t.size t.packed fa t.fields.length fc t.count ea t.elem.length ec (fieldOf (soundF n) (tkind n) (tsize n) t) W hl.1
        (fun i => by
          unfold fieldOf
          split
          · omega
          · exact fieldE_rng _ _ _ _ _ _ _ _ (soundF_rng n _))
        (fun i W' hi hW' => field_ty n t ⟨t.kind, t.size, t.packed, fa, t.fields.length, fc, t.count, ea, t.elem.length, ec⟩ W' (TyAt.below (below_next hW hW') hT') hl.1 i hi IH))
      (fun h1 => by
        obtain ⟨b, off, rfl, hb, hc⟩ := he.2.2 (by omega)
        obtain ⟨x, hx⟩ := get_some t.elem 0 (by omega)
        obtain ⟨q, hq, c0, c1, c2, c3, c4, c5⟩ := hc 0 x hx
        simp only [Nat.zero_mul, Nat.add_zero] at c0 c1 c2 c3 c4 c5
        have hxe : headE (soundF n) t.elem = soundF n x := by
          cases he2 : t.elem with
          | nil => rw [he2] at hx; simp at hx
          | cons a l => rw [he2] at hx; simp at hx; rw [hx]; rfl
        refine ⟨b, off, q.kind, q.size, q.packed, q.fa, q.fl, q.fc, q.count, q.ea, q.el, q.ec, rfl, hb, c0, c1, c2, c3, c4, c5, fun W hW => ?_⟩
        rw [hxe]
        exact IH x q W (TyAt.below hW hq))
    exact key
theorem Depth_any (n : Nat) (t : Ty n) (r : Raw) (w : World) (hT : TyAt w n t r) : Calls Try.prog 60 #[r.val] w (Gives w (.int .i64 (depthF n t 65))) := by
  have D := Lib.hid (fun W (hW : Below w.heap.size w W) => depth_any n t r 65 W (by omega) (by omega) (TyAt.below hW hT))
  have hr := depthF_rng n t 65 (by omega)
  clear hT
  obtain ⟨rk, rs, rp, fa, fl, fc, rc, ea, el, ec⟩ := r
  unfold Raw.val at D ⊢
  simp only at D ⊢
  go_enter Try.func60, Try.ntmps60
  go_wp2_with (first | (go_at_call 73; refine (D.out _ (by repeat (first | exact Below.refl _ _ | refine below_mo ?_ _ | refine below_al ?_ _))).mono ?_; rintro e w1 ⟨rfl, p1, rfl⟩))
  go_ret
  exact Gives.mk rfl (by repeat (first | exact Below.refl _ _ | refine below_mo ?_ _ | refine below_al ?_ _))
/-- whether a type may be: 5 where it is too deep. -/
def SoundF (n : Nat) (t : Ty n) : Int := if 64 < depthF n t 65 then 5 else soundF n t
theorem Sound_any (n : Nat) (t : Ty n) (r : Raw) (w : World) (hT : TyAt w n t r) : Calls Try.prog 40 #[r.val] w (Gives w (.int .i64 (SoundF n t))) := by
  have D := Lib.hid (fun W (hW : Below w.heap.size w W) => Depth_any n t r W (TyAt.below hW hT))
  have S := Lib.hid (fun W (hW : Below w.heap.size w W) => sound_any n t r W (TyAt.below hW hT))
  have hr := depthF_rng n t 65 (by omega)
  have hU : Hid (SoundF n t = if 64 < depthF n t 65 then 5 else soundF n t) := Lib.hid rfl
  clear hT
  obtain ⟨rk, rs, rp, fa, fl, fc, rc, ea, el, ec⟩ := r
  unfold Raw.val at D S ⊢
  simp only at D S ⊢
  generalize depthF n t 65 = d at *
  generalize SoundF n t = U at *
  by_cases h : 64 < d
  · have hU2 : Hid (U = 5) := by rw [hU.out, if_pos h]; exact Lib.hid rfl
    go_enter Try.func40, Try.ntmps40
    go_wp2_with (first | (go_at_call 60; refine (D.out _ (by repeat (first | exact Below.refl _ _ | refine below_mo ?_ _ | refine below_al ?_ _))).mono ?_; rintro e w1 ⟨rfl, p1, rfl⟩))
    go_ret
    exact Gives.mk (ret_int (by rw [hU2.out])) (by repeat (first | exact Below.refl _ _ | refine below_mo ?_ _ | refine below_al ?_ _))
  · have hU2 : Hid (U = soundF n t) := by rw [hU.out, if_neg h]; exact Lib.hid rfl
    go_enter Try.func40, Try.ntmps40
    go_wp2_with (first | (go_at_call 60; refine (D.out _ (by repeat (first | exact Below.refl _ _ | refine below_mo ?_ _ | refine below_al ?_ _))).mono ?_; rintro e w1 ⟨rfl, p1, rfl⟩) | (go_at_call 61; refine (S.out _ (by repeat (first | exact Below.refl _ _ | refine below_mo ?_ _ | refine below_al ?_ _))).mono ?_; rintro e w1 ⟨rfl, p1, rfl⟩))
    go_ret
    exact Gives.mk (ret_int (by rw [hU2.out])) (by repeat (first | exact Below.refl _ _ | refine below_mo ?_ _ | refine below_al ?_ _))
end Go.Proofs.Ytlbkloamabomcaa
