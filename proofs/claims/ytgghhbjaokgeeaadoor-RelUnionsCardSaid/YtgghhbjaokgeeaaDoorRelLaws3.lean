/- Walk: the statement on all of some relations, one that is turned, parts. Condition: the library's table is laid. -/
import Derived.Test.YtgghhbjaokgeeaaDoorRelLaws2
import Derived.Test.YtgghhbjaokgeeaaDoorRelVal
import Derived.Deep.RegionHeld3
namespace Go.Proofs.YtgghhbjaokgeeaaDoor
open Go.RowKit Go.Sort Go.Lib
set_option linter.unusedVariables false
set_option linter.unusedSimpArgs false
/-- three new relations of the document's, with nothing in them. -/
structure Three (W0 W : World) (n1 n2 n3 : Nat) (f1 f2 f3 : Nat → Nat → Bool) (b1 b2 b3 : Nat) : Prop where
  below : Below W0.heap.size W0 W
  l1 : W0.heap.size ≤ b1
  l2 : W0.heap.size ≤ b2
  l3 : W0.heap.size ≤ b3
  d12 : b1 ≠ b2
  d13 : b1 ≠ b3
  d23 : b2 ≠ b3
  g1 : GridAt W b1 n1 f1
  g2 : GridAt W b2 n2 f2
  g3 : GridAt W b3 n3 f3
section
variable {W0 W : World} {n1 n2 n3 : Nat} {f1 f2 f3 : Nat → Nat → Bool} {b1 b2 b3 : Nat}
theorem Three.more (h : Three W0 W n1 n2 n3 f1 f2 f3 b1 b2 b3) (p : Regrown) : Three W0 (more W p) n1 n2 n3 f1 f2 f3 b1 b2 b3 :=
  ⟨below_mo h.below p, h.l1, h.l2, h.l3, h.d12, h.d13, h.d23, h.g1.more p, h.g2.more p, h.g3.more p⟩
theorem Three.set1 (h : Three W0 W n1 n2 n3 f1 f2 f3 b1 b2 b3) (i k : Nat) (hi : i < 64) (hk : k < 64) (v : Bool) : Three W0 (W.setCell ⟨b1, 1 + i * 64 + k, none⟩ (.bool v)) n1 n2 n3 (fun a c => if a = i ∧ c = k then v else f1 a c) f2 f3 b1 b2 b3 :=
  ⟨below_st h.below h.l1 _, h.l1, h.l2, h.l3, h.d12, h.d13, h.d23, h.g1.set i k hi hk v, h.g2.onto (Onto.refl.set _ _) (Ne.symm h.d12), h.g3.onto (Onto.refl.set _ _) (Ne.symm h.d13)⟩
theorem Three.set2 (h : Three W0 W n1 n2 n3 f1 f2 f3 b1 b2 b3) (i k : Nat) (hi : i < 64) (hk : k < 64) (v : Bool) : Three W0 (W.setCell ⟨b2, 1 + i * 64 + k, none⟩ (.bool v)) n1 n2 n3 f1 (fun a c => if a = i ∧ c = k then v else f2 a c) f3 b1 b2 b3 :=
  ⟨below_st h.below h.l2 _, h.l1, h.l2, h.l3, h.d12, h.d13, h.d23, h.g1.onto (Onto.refl.set _ _) h.d12, h.g2.set i k hi hk v, h.g3.onto (Onto.refl.set _ _) (Ne.symm h.d23)⟩
theorem Three.set3 (h : Three W0 W n1 n2 n3 f1 f2 f3 b1 b2 b3) (i k : Nat) (hi : i < 64) (hk : k < 64) (v : Bool) : Three W0 (W.setCell ⟨b3, 1 + i * 64 + k, none⟩ (.bool v)) n1 n2 n3 f1 f2 (fun a c => if a = i ∧ c = k then v else f3 a c) b1 b2 b3 :=
  ⟨below_st h.below h.l3 _, h.l1, h.l2, h.l3, h.d12, h.d13, h.d23, h.g1.onto (Onto.refl.set _ _) h.d13, h.g2.onto (Onto.refl.set _ _) h.d23, h.g3.set i k hi hk v⟩
theorem Three.setN (h : Three W0 W n1 n2 n3 f1 f2 f3 b1 b2 b3) (m : Nat) : Three W0 (W.setCell ⟨b1, 0, none⟩ (.int .i64 m)) m n2 n3 f1 f2 f3 b1 b2 b3 :=
  ⟨below_st h.below h.l1 _, h.l1, h.l2, h.l3, h.d12, h.d13, h.d23, h.g1.setN m, h.g2.onto (Onto.refl.set _ _) (Ne.symm h.d12), h.g3.onto (Onto.refl.set _ _) (Ne.symm h.d13)⟩
theorem Three.congr (h : Three W0 W n1 n2 n3 f1 f2 f3 b1 b2 b3) {q1 q2 q3 : Nat → Nat → Bool} (e1 : ∀ i k, f1 i k = q1 i k) (e2 : ∀ i k, f2 i k = q2 i k) (e3 : ∀ i k, f3 i k = q3 i k) : Three W0 W n1 n2 n3 q1 q2 q3 b1 b2 b3 :=
  ⟨h.below, h.l1, h.l2, h.l3, h.d12, h.d13, h.d23, h.g1.congr fun i k _ _ => e1 i k, h.g2.congr fun i k _ _ => e2 i k, h.g3.congr fun i k _ _ => e3 i k⟩
end
theorem is_yesC {W : World} {b n : Nat} {v : Value} {f f' : Nat → Nat → Bool} (hc : CV W v n f') (hG : GridAt W b n f) (he : ∀ i k, f' i k = f i k) : Calls Tryd.prog 15 #[.pointer (some ⟨b, 0, none⟩), v] W (Gives W (.bool true)) := by
  obtain ⟨g, rfl, h1, h2, _⟩ := hc
  exact is_yes h1 hG h2 (fun i k _ _ => he i k)
theorem un0 (W : World) : Calls Tryd.prog 18 #[.slice none 0 0] W fun e W' => ∃ A, e = .returned (.slice A 0 0) ∧ ∃ p : Regrown, W' = more W p :=
  (union_any none 0 0 0 (fun _ => undef) (fun _ => 0) (fun _ _ => 0) (by decide) (by decide) (by decide) (fun h => by omega) W (fun j hj => by omega) (fun j hj => by omega)).mono fun e W' ⟨g, h1, h2, _⟩ => ⟨_, h1, h2⟩
theorem up_zero (f : Nat → Nat → Bool) (a c : Nat) : false = upF f 0 0 a c := by
  unfold upF; simp
theorem zero_grid (W : World) : (zeroValue 28).run Tryd.prog W = .ok (.agg (gridC 0)) W := by
  obtain ⟨i0, hi, hz⟩ := gridZ_get info_grid
  generalize gridC 0 = z at *
  simp [zeroValue, typeInfo, hi, hz]
theorem ne_0 (l : List Value) (a : Value) : ((⟨a :: l⟩ : Array Value) = #[]) = False := by simp
theorem gridC_ne (n : Int) : (gridC n = #[]) = False := by
  unfold gridC
  exact ne_0 _ _
set_option maxRecDepth 100000 in
set_option maxHeartbeats 4000000 in
theorem relUnions_go (va vb : Value) (la lb : Nat) (ra rb : Nat → Nat) (fm tt : Nat) (hfm : fm < 18446744073709551616) (hto : tt < 18446744073709551616) (w : World) (ha : Sl w va la ra) (hb : Sl w vb lb rb) (hT : Tab w) :
    Calls Tryd.prog 4 #[va, vb, .int .u64 fm, .int .u64 tt] w (Gives w (.bool true)) := by
  have rva := RV.of ha
  have rvb := RV.of hb
  have hva : ∃ A c, va = .slice A la c := by obtain ⟨A, _, _, c, h, _⟩ := ha; exact ⟨A, c, h⟩
  have hvb : ∃ A c, vb = .slice A lb c := by obtain ⟨A, _, _, c, h, _⟩ := hb; exact ⟨A, c, h⟩
  have OA := Lib.hid (of_any va la ra w ha)
  have OB := Lib.hid (fun p => of_any vb lb rb (more w p) (hb.more p))
  clear ha hb
  have hna := rva.le
  have hnb := rvb.le
  have zg := zero_grid
  have zn := gridC_ne 0
  have zs := gridC_set
  go_enter Tryd.func4, Tryd.ntmps4
  go_upto_region 2 with (first
    | (go_at_call_of 11 (va); refine (OA.out).mono ?_; rintro e w1 ⟨bx, rfl, ⟨p1, rfl⟩, hbx, hx⟩)
    | (go_at_call_of 11 (vb); refine (OB.out _).mono ?_; rintro e w1 ⟨byy, rfl, ⟨p2, rfl⟩, hby, hy⟩))
  have HX := Lib.hid (hx.more p2)
  have HY := Lib.hid hy
  have HB := Lib.hid (below_mo (more_below w p1) p2)
  have hxl := HX.out.lt
  have hyl := HY.out.lt
  have hxn := HX.out.n_
  clear hx hy OA OB
  generalize more (more w p1) p2 = wA at *
  generalize hfa : onF la ra = fa at *
  generalize hfb : onF lb rb = fb at *
  generalize sz la = na at *
  generalize sz lb = nb at *
  go_cut [11, 12, 13] from 20 to 37 (fun t11 t12 t13 W => ∃ b1 b2 b3, t11 = .pointer (some ⟨b1, 0, none⟩) ∧ t12 = .pointer (some ⟨b2, 0, none⟩) ∧ t13 = .pointer (some ⟨b3, 0, none⟩) ∧ Three wA W na na na (fun _ _ => false) (fun _ _ => false) (fun _ _ => false) b1 b2 b3)
  case first =>
    have K1 := (((grid_new wA na).below (below_al (Below.refl _ _) (.cells (gridC na) 28))).below (below_al (Below.refl _ _) (.cells (gridC na) 28))).below (below_dr (Below.refl _ _))
    have K2 := ((grid_new (wA.alloc (.cells (gridC na) 28)) na).below (below_al (Below.refl _ _) (.cells (gridC na) 28))).below (below_dr (Below.refl _ _))
    have K3 := (grid_new ((wA.alloc (.cells (gridC na) 28)).alloc (.cells (gridC na) 28)) na).below (below_dr (Below.refl _ _))
    have KB := below_dr (below_al (below_al (below_al (Below.refl _ wA) (.cells (gridC na) 28)) (.cells (gridC na) 28)) (.cells (gridC na) 28))
    rw [show (wA.alloc (.cells (gridC na) 28)).heap.size = wA.heap.size + 1 by simp] at K2
    rw [show ((wA.alloc (.cells (gridC na) 28)).alloc (.cells (gridC na) 28)).heap.size = wA.heap.size + 1 + 1 by simp] at K3
    replace K1 := Lib.hid K1
    replace K2 := Lib.hid K2
    replace K3 := Lib.hid K3
    replace KB := Lib.hid KB
    go_region_held3 (fun W => W.cell? ⟨bx, 0, none⟩ = some (.int .i64 na)) (first | (simp [go_sem, ↓IntWalk.iteOmega, *]; done)) (fail)
    all_goals
      go_wp2_with fail
      go_meet
      refine ⟨_, _, _, rfl, rfl, rfl, KB.out, ?_, ?_, ?_, ?_, ?_, ?_, ?_, ?_, ?_⟩
      all_goals first | omega | exact K1.out | exact K2.out | exact K3.out
  case rest =>
  obtain ⟨b1, b2, b3, rfl, rfl, rfl, ht⟩ := hcut
  have HT3 := Lib.hid ht
  obtain ⟨wB, rfl⟩ : ∃ wB : World, wB = wc := ⟨_, rfl⟩
  have hn1 := ht.g1.n_
  have hl1 := ht.g1.lt
  have hy1 := (HY.out.below ht.below).n_
  have hly := (HY.out.below ht.below).lt
  clear ht zg zn zs
  obtain ⟨N, hN⟩ : ∃ N, N = max na nb := ⟨_, rfl⟩
  have HM : Hid ((na < nb → N = nb) ∧ (nb ≤ na → N = na)) := Lib.hid (by omega)
  have hN64 : N ≤ 64 := by omega
  replace hN := Lib.hid hN
  go_upto_region 3 with fail
  refine wp_quiet_more (by kernel_rfl) (by kernel_rfl) ?_
  repeat (go_big_quiet_step (fail))
  refine wpQuiet_nil ?_
  intro p3
  have HT4 := Lib.hid (HT3.out.more p3)
  have hy2 := (HY.out.below HT4.out.below).n_
  have hly2 := (HY.out.below HT4.out.below).lt
  have hz2 := HT4.out.g1.z_ 0
  have hl2 := HT4.out.g1.lt
  have hn2 := HT4.out.g1.n_
  clear HT3 hn1 hl1 hy1 hly
  generalize more wB p3 = wD at *
  go_upto_if 46 with fail
  go_cut [46] from 47 to 53 (fun _ W => Three wA W N na na (fun _ _ => false) (fun _ _ => false) (fun _ _ => false) b1 b2 b3)
  case first =>
    by_cases hl : na < nb
    · obtain rfl := HM.out.1 hl
      go_wp2_with fail
      go_meet
      exact HT4.out.setN N
    · obtain rfl := HM.out.2 (by omega)
      go_wp2_with fail
      go_meet
      exact HT4.out
  case rest =>
  have HT5 := Lib.hid hcut
  clear HT4 HM hy2 hly2 hz2 hl2 hn2 hcut
  obtain ⟨wE, rfl⟩ : ∃ wE : World, wE = wc := ⟨_, rfl⟩
  have B1 := Lib.hid (fun k => @bit_one fm k hfm)
  have B0 := Lib.hid (fun k => @bit_zero fm k hfm)
  have C1 := Lib.hid (fun k => @bit_one tt k hto)
  have C0 := Lib.hid (fun k => @bit_zero tt k hto)
  have ca := Lib.hid rva.c_
  have cr := Lib.hid rva.r_
  have cb := Lib.hid rvb.c_
  have cs := Lib.hid rvb.r_
  replace rva := Lib.hid rva
  replace rvb := Lib.hid rvb
  replace hT := Lib.hid hT
  go_wp2_with fail
  go_loopw [14] (fun v14 wr => ∃ i : Nat, i ≤ 64 ∧ v14 = .int .i64 i ∧ Three wA wr N na na (upF (orF fa fb) i 0) (backF (upF fa i 0)) (upF (onlyF fa fm tt) i 0) b1 b2 b3) (fun v14 _ => 64 - (intOf v14).toNat)
  case atStart => exact ⟨0, by omega, rfl, HT5.out.congr (up_zero _) (fun i k => up_zero _ k i) (up_zero _)⟩
  case round =>
    obtain ⟨i, hi, rfl, ht⟩ := hrel
    have HT6 := Lib.hid ht
    clear ht HT5
    obtain ⟨w1, rfl⟩ : ∃ w1 : World, w1 = wr := ⟨_, rfl⟩
    by_cases hlt : (i : Int) < 64
    · have hi64 : i < 64 := by omega
      go_wp2_with fail
      go_loopw [15] (fun v15 wr => ∃ k : Nat, k ≤ 64 ∧ v15 = .int .i64 k ∧ Three wA wr N na na (upF (orF fa fb) i k) (backF (upF fa i k)) (upF (onlyF fa fm tt) i k) b1 b2 b3) (fun v15 _ => 64 - (intOf v15).toNat)
      case atStart => exact ⟨0, by omega, rfl, HT6.out⟩
      case round =>
        obtain ⟨k, hk, rfl, ht⟩ := hrel
        have HT7 := Lib.hid ht
        clear ht HT6
        obtain ⟨w2, rfl⟩ : ∃ w2 : World, w2 = wr := ⟨_, rfl⟩
        by_cases hltk : (k : Int) < 64
        · have hk64 : k < 64 := by omega
          have x1 := (HX.out.below HT7.out.below).on_ i k hi64 hk64
          have xl := (HX.out.below HT7.out.below).lt
          have y1 := (HY.out.below HT7.out.below).on_ i k hi64 hk64
          have yl := (HY.out.below HT7.out.below).lt
          have s1 := HT7.out.g1.on_ i k hi64 hk64
          have z1 := HT7.out.g1.z_ (1 + i * 64 + k)
          have l1 := HT7.out.g1.lt
          have HN1 : Hid (∀ v, v = (fa i k || fb i k) → ∀ a c, (if a = i ∧ c = k then v else upF (orF fa fb) i k a c) = upF (orF fa fb) i (k + 1) a c) := Lib.hid (fun v hv a c => by subst hv; exact up_next (orF fa fb) i k a c)
          go_upto_region 11 with fail
          go_cut [15] from 62 to 86 (fun t15 W => t15 = .int .i64 k ∧ Three wA W N na na (upF (orF fa fb) i (k + 1)) (backF (upF fa i k)) (upF (onlyF fa fm tt) i k) b1 b2 b3)
          case first =>
            generalize fa i k = x at x1 HN1
            generalize fb i k = y at y1 HN1
            cases x with
            | true =>
              have HE := Lib.hid (((HT7.out.set1 i k hi64 hk64 true).congr (HN1.out true rfl) (fun _ _ => rfl) (fun _ _ => rfl)).more)
              clear HN1
              refine wp_tail_more 25 (by kernel_rfl) (by kernel_rfl) ?_
              simp only [List.take_succ_cons, List.take_zero, List.drop_succ_cons, List.drop_zero]
              repeat (go_big_quiet_step (fail))
              refine wpQuiet_nil ?_
              intro p
              go_wp2_with fail
              go_meet
              exact ⟨rfl, HE.out p⟩
            | false =>
              have HE := Lib.hid (((HT7.out.set1 i k hi64 hk64 y).congr (HN1.out y rfl) (fun _ _ => rfl) (fun _ _ => rfl)).more)
              clear HN1
              refine wp_tail_more 25 (by kernel_rfl) (by kernel_rfl) ?_
              simp only [List.take_succ_cons, List.take_zero, List.drop_succ_cons, List.drop_zero]
              repeat (go_big_quiet_step (fail))
              refine wpQuiet_nil ?_
              intro p
              go_wp2_with fail
              go_meet
              exact ⟨rfl, HE.out p⟩
          case rest =>
          obtain ⟨rfl, ht⟩ := hcut
          have HT8 := Lib.hid ht
          clear ht HT7 HN1 x1 xl y1 yl s1 z1 l1
          obtain ⟨w3, rfl⟩ : ∃ w3 : World, w3 = wc := ⟨_, rfl⟩
          have x1 := (HX.out.below HT8.out.below).on_ i k hi64 hk64
          have xl := (HX.out.below HT8.out.below).lt
          have s1 := HT8.out.g2.on_ k i hk64 hi64
          have z1 := HT8.out.g2.z_ (1 + k * 64 + i)
          have l1 := HT8.out.g2.lt
          have HN2 : Hid (∀ a c, (if a = k ∧ c = i then fa i k else backF (upF fa i k) a c) = backF (upF fa i (k + 1)) a c) := Lib.hid (fun a c => by
            unfold backF
            rw [← up_next fa i k c a]
            by_cases e : a = k ∧ c = i
            · rw [if_pos e, if_pos ⟨e.2, e.1⟩]
            · rw [if_neg e, if_neg (fun h => e ⟨h.2, h.1⟩)])
          go_upto_region 12 with fail
          go_cut [15] from 87 to 101 (fun t15 W => t15 = .int .i64 k ∧ Three wA W N na na (upF (orF fa fb) i (k + 1)) (backF (upF fa i (k + 1))) (upF (onlyF fa fm tt) i k) b1 b2 b3)
          case first =>
            have HE := Lib.hid (((HT8.out.set2 k i hk64 hi64 (fa i k)).congr (fun _ _ => rfl) HN2.out (fun _ _ => rfl)).more)
            clear HN2
            refine wp_tail_more 15 (by kernel_rfl) (by kernel_rfl) ?_
            simp only [List.take_succ_cons, List.take_zero, List.drop_succ_cons, List.drop_zero]
            repeat (go_big_quiet_step (fail))
            refine wpQuiet_nil ?_
            intro p
            go_wp2_with fail
            go_meet
            exact ⟨rfl, HE.out p⟩
          case rest =>
          obtain ⟨rfl, ht⟩ := hcut
          have HT9 := Lib.hid ht
          clear ht HT8 HN2 x1 xl s1 z1 l1
          obtain ⟨w4, rfl⟩ : ∃ w4 : World, w4 = wc := ⟨_, rfl⟩
          have x1 := (HX.out.below HT9.out.below).on_ i k hi64 hk64
          have xl := (HX.out.below HT9.out.below).lt
          have s1 := HT9.out.g3.on_ i k hi64 hk64
          have z1 := HT9.out.g3.z_ (1 + i * 64 + k)
          have l1 := HT9.out.g3.lt
          have HN3 : Hid (∀ v, v = (fa i k && (fm.testBit i && tt.testBit k)) → ∀ a c, (if a = i ∧ c = k then v else upF (onlyF fa fm tt) i k a c) = upF (onlyF fa fm tt) i (k + 1) a c) := Lib.hid (fun v hv a c => by subst hv; exact up_next (onlyF fa fm tt) i k a c)
          go_upto_region 13 with fail
          generalize fa i k = x at x1 HN3
          cases x with
          | false =>
            have HE := Lib.hid (((HT9.out.set3 i k hi64 hk64 false).congr (fun _ _ => rfl) (fun _ _ => rfl) (HN3.out false (by simp))).more)
            clear HN3
            refine wp_tail_more 31 (by kernel_rfl) (by kernel_rfl) ?_
            simp only [List.take_succ_cons, List.take_zero, List.drop_succ_cons, List.drop_zero]
            repeat (go_big_quiet_step (fail))
            refine wpQuiet_nil ?_
            intro p
            go_wp2_with fail
            go_roundw
            case rel => exact ⟨k + 1, by omega, by go_num, HE.out p⟩
            case measure => simp [intOf]; omega
          | true =>
            cases hf : fm.testBit i with
            | false =>
              have key := B0.out i hf
              have HE := Lib.hid (((HT9.out.set3 i k hi64 hk64 false).congr (fun _ _ => rfl) (fun _ _ => rfl) (HN3.out false (by rw [hf]; simp))).more)
              clear HN3 hf
              refine wp_tail_more 31 (by kernel_rfl) (by kernel_rfl) ?_
              simp only [List.take_succ_cons, List.take_zero, List.drop_succ_cons, List.drop_zero]
              repeat (go_big_quiet_step (fail))
              refine wpQuiet_nil ?_
              intro p
              go_wp2_with fail
              go_roundw
              case rel => exact ⟨k + 1, by omega, by go_num, HE.out p⟩
              case measure => simp [intOf]; omega
            | true =>
              have key := B1.out i hf
              cases ht : tt.testBit k with
              | false =>
                have key2 := C0.out k ht
                have HE := Lib.hid (((HT9.out.set3 i k hi64 hk64 false).congr (fun _ _ => rfl) (fun _ _ => rfl) (HN3.out false (by rw [hf, ht]; simp))).more)
                clear HN3 hf ht
                refine wp_tail_more 31 (by kernel_rfl) (by kernel_rfl) ?_
                simp only [List.take_succ_cons, List.take_zero, List.drop_succ_cons, List.drop_zero]
                repeat (go_big_quiet_step (fail))
                refine wpQuiet_nil ?_
                intro p
                go_wp2_with fail
                go_roundw
                case rel => exact ⟨k + 1, by omega, by go_num, HE.out p⟩
                case measure => simp [intOf]; omega
              | true =>
                have key2 := C1.out k ht
                have HE := Lib.hid (((HT9.out.set3 i k hi64 hk64 true).congr (fun _ _ => rfl) (fun _ _ => rfl) (HN3.out true (by rw [hf, ht]; simp))).more)
                clear HN3 hf ht
                refine wp_tail_more 31 (by kernel_rfl) (by kernel_rfl) ?_
                simp only [List.take_succ_cons, List.take_zero, List.drop_succ_cons, List.drop_zero]
                repeat (go_big_quiet_step (fail))
                refine wpQuiet_nil ?_
                intro p
                go_wp2_with fail
                go_roundw
                case rel => exact ⟨k + 1, by omega, by go_num, HE.out p⟩
                case measure => simp [intOf]; omega
        · obtain rfl : k = 64 := by omega
          go_wp2_with fail
          go_roundw
          case rel => exact ⟨i + 1, by omega, by go_num, HT7.out.congr (up_row 64 _ (fun a c h => by unfold orF; rw [ca.out a c (by omega), cb.out a c (by omega)]; rfl) i) (fun a c => up_row 64 fa (fun a c h => ca.out a c (by omega)) i c a) (up_row 64 _ (fun a c h => by unfold onlyF; rw [ca.out a c (by omega)]; rfl) i)⟩
          case measure => simp [intOf]; omega
    · obtain rfl : i = 64 := by omega
      have HE := Lib.hid (HT6.out.congr (up_all 64 _ (fun a c h => by unfold orF; rw [cr.out a c (by omega), cs.out a c (by omega)]; rfl)) (fun a c => up_all 64 fa (fun a c h => cr.out a c (by omega)) c a) (up_all 64 _ (fun a c h => by unfold onlyF; rw [cr.out a c (by omega)]; rfl)))
      have HBE := Lib.hid (below_next HB.out HT6.out.below)
      have rva2 := rva.out.below HBE.out
      have rvb2 := rvb.out.below HBE.out
      have hT2 := hT.out.below HBE.out
      have hg1 := Lib.hid HE.out.g1
      have hg2 := Lib.hid HE.out.g2
      have hg3 := Lib.hid HE.out.g3
      obtain ⟨Aa, qa, rfl⟩ : ∃ A c, va = .slice A la c := hva
      obtain ⟨Ab, qb, rfl⟩ : ∃ A c, vb = .slice A lb c := hvb
      rw [hN.out] at hg1
      have e2 : Hid (∀ i k, backF fa i k = (fun a c => fa c a) i k) := Lib.hid (fun _ _ => rfl)
      clear HT6 HE
      go_wp2_with (first
        | (go_at_call 14; (with_reducible refine (awake_any _ (hT2.below ?_)).mono ?_); (repeat (first | with_reducible exact Below.refl _ _ | with_reducible refine below_mo ?_ _ | with_reducible refine below_al ?_ _)); rintro e w1 ⟨rfl, q0, rfl⟩)
        | (go_at_call 18; (with_reducible refine (cun2 ?_ (rva2.below ?_) (rvb2.below ?_)).mono ?_); (simp [go_sem]); (repeat (first | with_reducible exact Below.refl _ _ | with_reducible refine below_mo ?_ _ | with_reducible refine below_al ?_ _)); (repeat (first | with_reducible exact Below.refl _ _ | with_reducible refine below_mo ?_ _ | with_reducible refine below_al ?_ _)); rintro e w1 ⟨A1, l1, c1, rfl, ⟨q1, rfl⟩, k1⟩)
        | (go_at_call 15; (with_reducible refine (is_yesC k1 (hg1.out.below ?_) (fun _ _ => rfl)).mono ?_); (repeat (first | with_reducible exact Below.refl _ _ | with_reducible refine below_mo ?_ _ | with_reducible refine below_al ?_ _)); rintro e w1 ⟨rfl, q2, rfl⟩)
        | (go_at_call 19; (with_reducible refine (cback (rva2.below ?_) (hT2.below ?_)).mono ?_); (repeat (first | with_reducible exact Below.refl _ _ | with_reducible refine below_mo ?_ _ | with_reducible refine below_al ?_ _)); (repeat (first | with_reducible exact Below.refl _ _ | with_reducible refine below_mo ?_ _ | with_reducible refine below_al ?_ _)); rintro e w1 ⟨A3, l3, c3, rfl, ⟨q3, rfl⟩, k3⟩)
        | (go_at_call 15; (with_reducible refine (is_yesC k3 (hg2.out.below ?_) e2.out).mono ?_); (repeat (first | with_reducible exact Below.refl _ _ | with_reducible refine below_mo ?_ _ | with_reducible refine below_al ?_ _)); rintro e w1 ⟨rfl, q4, rfl⟩)
        | (go_at_call 20; (with_reducible refine (conly (rva2.below ?_) fm tt hfm hto).mono ?_); (repeat (first | with_reducible exact Below.refl _ _ | with_reducible refine below_mo ?_ _ | with_reducible refine below_al ?_ _)); rintro e w1 ⟨A5, l5, c5, rfl, ⟨q5, rfl⟩, k5⟩)
        | (go_at_call 15; (with_reducible refine (is_yesC k5 (hg3.out.below ?_) (fun _ _ => rfl)).mono ?_); (repeat (first | with_reducible exact Below.refl _ _ | with_reducible refine below_mo ?_ _ | with_reducible refine below_al ?_ _)); rintro e w1 ⟨rfl, q6, rfl⟩)
        | (go_at_call 18; (with_reducible refine (un0 _).mono ?_); rintro e w1 ⟨A7, rfl, q7, rfl⟩))
      go_ret
      exact Gives.mk rfl (by repeat (first | with_reducible exact Below.refl _ _ | with_reducible refine below_mo ?_ _ | with_reducible refine below_al ?_ _ | with_reducible exact HBE.out))
end Go.Proofs.YtgghhbjaokgeeaaDoor
