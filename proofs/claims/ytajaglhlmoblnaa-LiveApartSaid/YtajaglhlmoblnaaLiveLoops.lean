/- Walk: each jump back. Conditions: numbers fit. -/
import Derived.Test.YtajaglhlmoblnaaLiveIMap
import Derived.Test.YtajaglhlmoblnaaLiveInt0
namespace Go.Proofs.Ytajaglhlmoblnaa
open Go.RowKit Go.Sort Go.Lib
set_option linter.unusedVariables false
set_option linter.unusedSimpArgs false
def atN (ops : Nat → LOp) : Nat → Int → Option Int
  | 0 => fun _ => none
  | k + 1 => if (ops k).k = 14 then fun q => if q = (ops k).tgt then some (k : Int) else atN ops k q else atN ops k
def lpN (ops : Nat → LOp) : Nat → List (Int × Int)
  | 0 => []
  | k + 1 => lpN ops k ++ (if (ops k).k = 15 ∨ (ops k).k = 16 then (match atN ops k (ops k).tgt with | some q => [(q, (k : Int))] | none => []) else [])
theorem atN_succ (ops : Nat → LOp) (k : Nat) : atN ops (k + 1) = if (ops k).k = 14 then fun q => if q = (ops k).tgt then some (k : Int) else atN ops k q else atN ops k := rfl
theorem lpN_succ (ops : Nat → LOp) (k : Nat) : lpN ops (k + 1) = lpN ops k ++ (if (ops k).k = 15 ∨ (ops k).k = 16 then (match atN ops k (ops k).tgt with | some q => [(q, (k : Int))] | none => []) else []) := rfl
def lpC (x : Int × Int) : List Value := [.int .i64 x.1, .int .i64 x.2]
theorem lpN_len (ops : Nat → LOp) : ∀ k, (lpN ops k).length ≤ k
  | 0 => Nat.le_refl _
  | k + 1 => by
    have h := lpN_len ops k
    show (lpN ops k ++ _).length ≤ _
    rw [List.length_append]
    split
    · split <;> simp <;> omega
    · simp; omega
theorem info_lp : (Try.prog.info? 43).map (fun i => (i.zero, i.size, i.bytes)) = some (some (.agg #[.int .i64 0, .int .i64 0]), 2, 16) := by kernel_rfl
theorem imap_own {w w' : World} {B m base size n : Nat} {e : TypeId} {am : Int → Option Int} {v : Value} {xs : List Value} (h : IMap w B m am) (hown : w.ownsRow base e size v n xs) (hg : w.grownBy w' v.ownBlock) (hB : B < base) : IMap w' B m am :=
  h.keep (hg.block B h.lt (fun e => by have := hown.lt B e.symm; omega))
theorem owns_kept {w w' : World} {base e size n g : Nat} {v : Value} {xs : List Value} (h : w.ownsRow base e size v n xs) (hg : w.grownBy w' (some g)) (hb : g < base) : w'.ownsRow base e size v n xs := by
  obtain ⟨h1, h2⟩ := h
  refine ⟨h1, ?_⟩
  rcases h2 with h2 | ⟨b, cap, cur, e1, e2, e3, e4, e5, e6, e7⟩
  · exact .inl h2
  · refine .inr ⟨b, cap, cur, e1, e2, ?_, e4, e5, e6, e7⟩
    rw [← e3]
    exact hg.block b (Array.getElem?_eq_some_iff.1 e3).1 (fun e => by have := Option.some.inj e; omega)
structure LpW (w wr : World) (X off N : Nat) (ops : Nat → LOp) (k : Nat) (v : Value) : Prop where
  below : Below w.heap.size w wr
  map : IMap wr w.heap.size k (atN ops k)
  own : wr.ownsRow (w.heap.size + 1) 43 2 v (lpN ops k).length ((lpN ops k).flatMap lpC)
  ops_ : ∀ q, q < N → OAt wr X (off + q * 13) (ops q)
set_option maxHeartbeats 2000000 in
theorem loops_any (A : Option Addr) (X off N cap : Nat) (ops : Nat → LOp) (hA : 0 < N → A = some ⟨X, off, none⟩) (hN : N ≤ 61) (hcap : N ≤ cap) (hcm : cap ≤ 9223372036854775807) (hops : ∀ k, k < N → wfI (ops k).tgt) (w : World) (hO : ∀ k, k < N → OAt w X (off + k * 13) (ops k)) :
    Calls Try.prog 15 #[.slice A N cap] w fun e w' => ∃ v, e = .returned v ∧ (∃ p : Regrown, w' = more w p) ∧ w'.ownsRow (w.heap.size + 1) 43 2 v (lpN ops N).length ((lpN ops N).flatMap lpC) := by
  have hmm := @run_makeMap Try.prog
  have HOK := Lib.hid hops
  have HO := Lib.hid hO
  obtain ⟨i0, hi, hz0, hz1, hz2⟩ := info_parts info_lp
  have H0 : Hid (LpW w (w.alloc (.map #[] 0)) X off N ops 0 (.slice none 0 0)) := Lib.hid
    ⟨below_al (Below.refl _ _) _, imap_made w, ⟨rfl, .inl ⟨rfl, rfl⟩⟩, fun q hq => (hO q hq).below (below_al (Below.refl _ _) _)⟩
  clear hO hops
  go_enter Try.func15, Try.ntmps15
  go_wp2_with fail
  go_loopw [4, 12] (fun v4 v12 wr => ∃ k : Nat, k ≤ N ∧ v12 = .int .i64 k ∧ LpW w wr X off N ops k v4) (fun _ v12 _ => N - (intOf v12).toNat)
  case atStart => exact ⟨0, by omega, rfl, H0.out⟩
  case round =>
    obtain ⟨k, hk, rfl, hW⟩ := hrel
    have HW := Lib.hid hW
    clear hW H0
    by_cases hlt : (k : Int) < N
    · obtain rfl := hA (by omega)
      have hXw : X < w.heap.size := cell_lt2 (HO.out k (by omega)).1
      have hBl := HW.out.map.lt
      have hO := HW.out.ops_ k (by omega)
      unfold OAt at hO
      obtain ⟨c0, c1, c2, c3, c4, c5, c6, c7, c8, c9, c10, c11, c12⟩ := hO
      have htw := HOK.out k (by omega)
      have hkw : wfI (k : Int) := WalkArith.wf_i64 (by omega)
      have E1 := Lib.hid (lpN_succ ops k)
      have E2 := Lib.hid (atN_succ ops k)
      have hlen := lpN_len ops k
      obtain ⟨o, ho⟩ : ∃ o, o = ops k := ⟨_, rfl⟩
      rw [← ho] at c0 c1 c2 c3 c4 c5 c6 c7 c8 c9 c10 c11 c12 htw E1 E2
      clear ho
      obtain ⟨kd, d, d2, a, b, c, nn, op, sz, od, tgt, st, ln⟩ := o
      simp only at c0 c1 c2 c3 c4 c5 c6 c7 c8 c9 c10 c11 c12 htw E1 E2
      by_cases h14 : kd = 14
      · subst h14
        have e1 : lpN ops (k + 1) = lpN ops k := by rw [E1.out]; simp
        have e2 := E2.out
        rw [if_pos rfl] at e2
        replace E1 := Lib.hid e1
        replace E2 := Lib.hid e2
        clear e1 e2
        go_wp2_with (at_mapUpdate; refine wpList_iput rfl _ _ _ rfl w.heap.size k (atN ops k) rfl (HW.out.map.below (below_al (Below.refl _ _) _)) (by unfold maxLen; omega) tgt rfl htw (k : Int) rfl hkw ?_; intro w2 im2 grow2; go_frame)
        have HB2 := Lib.hid (below_grown (below_al HW.out.below _) grow2 (Nat.le_refl _))
        have HOP := Lib.hid (fun q hq => ((HW.out.ops_ q hq).below (below_al (Below.refl _ _) (.cells #[.int .i64 14, .int .i64 d, .int .i64 d2, .int .i64 a, .int .i64 b, .int .i64 c, .int .u64 nn, .int .i64 op, .int .i64 sz, .int .i64 od, .int .i64 tgt, .int .i64 st, .int .i64 ln] 24))).grown grow2 (by omega))
        have HOW : Hid (w2.ownsRow (w.heap.size + 1) 43 2 u4 (lpN ops k).length ((lpN ops k).flatMap lpC)) := Lib.hid (by
          refine owns_kept (HW.out.own.alloc _) grow2 ?_
          omega)
        have HIM := Lib.hid im2
        clear im2 grow2
        go_wp2_with fail
        go_roundw
        case rel => exact ⟨k + 1, by omega, by go_num, HB2.out, by rw [E2.out]; exact HIM.out, by rw [E1.out]; exact HOW.out, HOP.out⟩
        case measure => simp [intOf]; omega
      · rw [if_neg h14] at E2
        have b14 : (kd == 14) = false := by simpa using h14
        by_cases h15 : kd = 15 ∨ kd = 16
        · rw [if_pos h15] at E1
          obtain ⟨cv, hlk, hcv⟩ := (HW.out.map.below (below_al (Below.refl _ _) (.cells #[.int .i64 kd, .int .i64 d, .int .i64 d2, .int .i64 a, .int .i64 b, .int .i64 c, .int .u64 nn, .int .i64 op, .int .i64 sz, .int .i64 od, .int .i64 tgt, .int .i64 st, .int .i64 ln] 24))).look tgt htw
          generalize atN ops k tgt = am at E1 hlk hcv
          cases am with
          | none =>
            simp only [Option.isSome_none] at hlk
            simp only [List.append_nil] at E1
            clear hcv
            rcases h15 with rfl | rfl
            all_goals
              go_wp2_with fail
              go_roundw
              case rel => exact ⟨k + 1, by omega, by go_num, below_al HW.out.below _, by rw [E2.out]; exact (HW.out.map.below (below_al (Below.refl _ _) _)).mono (by omega), by rw [E1.out]; exact HW.out.own.alloc _, fun q hq => (HW.out.ops_ q hq).below (below_al (Below.refl _ _) _)⟩
              case measure => simp [intOf]; omega
          | some qv =>
            simp only [Option.isSome_some] at hlk
            obtain rfl := hcv qv rfl
            clear hcv
            have HE : Hid ((lpN ops (k + 1)).length = (lpN ops k).length + 1 ∧ (lpN ops (k + 1)).flatMap lpC = (lpN ops k).flatMap lpC ++ [.int .i64 cv, .int .i64 k]) := Lib.hid (by
              rw [E1.out, List.flatMap_append]
              exact ⟨by simp, rfl⟩)
            have HOW := Lib.hid HW.out.own
            generalize (lpN ops k).length = nq at *
            generalize (lpN ops k).flatMap lpC = cs at *
            have hwz := HW.out.below.size
            rcases h15 with rfl | rfl
            · go_wp2_with (at_builtin; refine wpList_append_own _ rfl _ _ 40 rfl (w.heap.size + 1) 43 i0 (.agg #[.int .i64 0, .int .i64 0]) 2 16 Try.underlying40 hi hz0 hz1 hz2 rfl (by decide) _ _ _ rfl ((HOW.out.alloc _).alloc _) ⟨wr.heap.size + 1, 0, none⟩ 1 1 [.int .i64 cv, .int .i64 k] rfl rfl ?a1x ?a2x ?a3x ?a4x ?a5x ?_)
              case a2x => exact ⟨rfl, rfl⟩
              case a3x => unfold maxLen; omega
              case a4x => omega
              case a5x => omega
              intro v' w' own grow hnil
              have HB2 := Lib.hid (own_below (below_al (below_al HW.out.below _) _) ((HOW.out.alloc _).alloc _) grow (by omega))
              have HIM := Lib.hid (imap_own ((HW.out.map.below (below_al (below_al (Below.refl _ _) _) _)).mono (show k ≤ k + 1 by omega)) ((HOW.out.alloc _).alloc _) grow (by omega))
              clear grow hnil
              go_wp2_with fail
              go_roundw
              case rel => exact ⟨k + 1, by omega, by go_num, HB2.out, by rw [E2.out]; exact HIM.out, by rw [HE.out.1, HE.out.2]; exact own, fun q hq => (HO.out q hq).below HB2.out⟩
              case measure => simp [intOf]; omega
            · go_wp2_with (at_builtin; refine wpList_append_own _ rfl _ _ 40 rfl (w.heap.size + 1) 43 i0 (.agg #[.int .i64 0, .int .i64 0]) 2 16 Try.underlying40 hi hz0 hz1 hz2 rfl (by decide) _ _ _ rfl ((HOW.out.alloc _).alloc _) ⟨wr.heap.size + 1, 0, none⟩ 1 1 [.int .i64 cv, .int .i64 k] rfl rfl ?a1y ?a2y ?a3y ?a4y ?a5y ?_)
              case a2y => exact ⟨rfl, rfl⟩
              case a3y => unfold maxLen; omega
              case a4y => omega
              case a5y => omega
              intro v' w' own grow hnil
              have HB2 := Lib.hid (own_below (below_al (below_al HW.out.below _) _) ((HOW.out.alloc _).alloc _) grow (by omega))
              have HIM := Lib.hid (imap_own ((HW.out.map.below (below_al (below_al (Below.refl _ _) _) _)).mono (show k ≤ k + 1 by omega)) ((HOW.out.alloc _).alloc _) grow (by omega))
              clear grow hnil
              go_wp2_with fail
              go_roundw
              case rel => exact ⟨k + 1, by omega, by go_num, HB2.out, by rw [E2.out]; exact HIM.out, by rw [HE.out.1, HE.out.2]; exact own, fun q hq => (HO.out q hq).below HB2.out⟩
              case measure => simp [intOf]; omega
        · rw [if_neg h15, List.append_nil] at E1
          have b15 : (kd == 15) = false := by simp; omega
          have b16 : (kd == 16) = false := by simp; omega
          go_wp2_with fail
          go_roundw
          case rel => exact ⟨k + 1, by omega, by go_num, below_al HW.out.below _, by rw [E2.out]; exact (HW.out.map.below (below_al (Below.refl _ _) _)).mono (by omega), by rw [E1.out]; exact HW.out.own.alloc _, fun q hq => (HW.out.ops_ q hq).below (below_al (Below.refl _ _) _)⟩
          case measure => simp [intOf]; omega
    · obtain rfl : k = N := by omega
      go_wp2_with fail
      go_ret
      exact ⟨_, rfl, more_of_below HW.out.below, HW.out.own⟩
end Go.Proofs.Ytajaglhlmoblnaa
