/- Walk: one relation behind the other. Conditions: numbers fit; the library's table is laid. -/
import Derived.Test.YtgghhbjaokgeeaaDoorRelBack
import Derived.Deep.RegionWith
namespace Go.Proofs.YtgghhbjaokgeeaaDoor
open Go.RowKit Go.Sort Go.Lib
set_option linter.unusedVariables false
set_option linter.unusedSimpArgs false
/-- what has been found of row i, but for what is left. -/
def thF (n : Nat) (f g : Nat → Nat → Bool) (i x : Nat) (k : Nat) : Bool := (List.range n).any fun j => (f i j && !x.testBit j) && g j k
theorem th_start (n : Nat) (f g : Nat → Nat → Bool) (i : Nat) : 0 = rowN n (thF n f g i (rowN n (f i))) := row_eq fun k => by
  have : thF n f g i (rowN n (f i)) k = false := by
    unfold thF
    rw [List.any_eq_false]
    intro j hj
    rw [List.mem_range] at hj
    rw [rowN_tb]
    cases h : f i j <;> simp [hj]
  simp [this]
theorem th_end (n : Nat) (f g : Nat → Nat → Bool) (i : Nat) : rowN n (thF n f g i 0) = rowN n (thenF n f g i) := rowN_congr fun k _ => by
  unfold thF thenF
  simp
theorem th_step (n : Nat) (f g : Nat → Nat → Bool) (i x : Nat) (hx : x < 2 ^ 64) (h0 : x ≠ 0) (hc : Lib.ctz 64 x < n) (hf : f i (Lib.ctz 64 x) = true) :
    rowN n (thF n f g i x) ||| rowN n (g (Lib.ctz 64 x)) = rowN n (thF n f g i (x &&& (x - 1))) := by
  have hl := low_bit h0 hx
  have hd := fun j => low_less h0 hx j
  generalize Lib.ctz 64 x = c at *
  refine row_eq fun k => ?_
  rw [Nat.testBit_or, rowN_tb, rowN_tb]
  by_cases hk : k < n
  · simp only [hk, decide_true, Bool.true_and]
    rw [Bool.eq_iff_iff]
    unfold thF
    simp only [Bool.or_eq_true, List.any_eq_true, List.mem_range, hd, Bool.and_eq_true, Bool.not_and, Bool.not_not, Bool.not_eq_true', decide_eq_true_eq, Bool.or_eq_true]
    constructor
    · rintro (⟨j, h1, ⟨h2, h3⟩, h4⟩ | h)
      · exact ⟨j, h1, ⟨h2, .inl h3⟩, h4⟩
      · exact ⟨c, hc, ⟨hf, .inr rfl⟩, h⟩
    · rintro ⟨j, h1, ⟨h2, h3 | h3⟩, h4⟩
      · exact .inl ⟨j, h1, ⟨h2, h3⟩, h4⟩
      · subst h3; exact .inr h4
  · simp [hk]
set_option maxHeartbeats 1000000 in
theorem then_any (va vb : Value) (la lb : Nat) (ra rb : Nat → Nat) (w : World) (ha : Sl w va la ra) (hb : Sl w vb lb rb) (hT : Tab w) :
    Calls Tryd.prog 22 #[va, vb] w (GivesRows w (max (sz la) (sz lb)) (thenF (max (sz la) (sz lb)) (onF la ra) (onF lb rb))) := by
  obtain ⟨n, hn⟩ : ∃ n, n = max (sz la) (sz lb) := ⟨_, rfl⟩
  have h64 : n ≤ 64 := by have := sz_le la; have := sz_le lb; omega
  have SA := Lib.hid (fun W (hB : Below w.heap.size w W) => size_any va la ra W (ha.below hB))
  have SB := Lib.hid (fun W (hB : Below w.heap.size w W) => size_any vb lb rb W (hb.below hB))
  have CA := Lib.hid (fun W (hB : Below w.heap.size w W) => clean_any va la ra n (by omega) h64 W (ha.below hB))
  have CB := Lib.hid (fun W (hB : Below w.heap.size w W) => clean_any vb lb rb n (by omega) h64 W (hb.below hB))
  have HT := Lib.hid hT
  have hpos := hT.pos
  have HM : Hid ((sz la < sz lb → n = sz lb) ∧ (sz lb ≤ sz la → n = sz la)) := Lib.hid (by omega)
  rw [← hn]
  clear ha hb hT hn
  generalize onF la ra = f at *
  generalize onF lb rb = g at *
  generalize sz la = na at *
  generalize sz lb = nb at *
  go_enter Tryd.func22, Tryd.ntmps22
  go_upto_region 1 with fail
  go_cut [5] from 11 to 15 (fun t5 W => t5 = .int .i64 n ∧ W = w)
  case first =>
    by_cases hl : na < nb
    · obtain rfl := HM.out.1 hl
      go_wp2_with (first
        | (go_at_call_of 31 (va); refine (SA.out _ (Below.refl _ _)).mono ?_; rintro e w1 ⟨rfl, rfl⟩)
        | (go_at_call_of 31 (vb); refine (SB.out _ (Below.refl _ _)).mono ?_; rintro e w1 ⟨rfl, rfl⟩))
      go_meet
      exact ⟨rfl, rfl⟩
    · obtain rfl := HM.out.2 (by omega)
      go_wp2_with (first
        | (go_at_call_of 31 (va); refine (SA.out _ (Below.refl _ _)).mono ?_; rintro e w1 ⟨rfl, rfl⟩)
        | (go_at_call_of 31 (vb); refine (SB.out _ (Below.refl _ _)).mono ?_; rintro e w1 ⟨rfl, rfl⟩))
      go_meet
      exact ⟨rfl, rfl⟩
  case rest =>
  obtain ⟨rfl, hwc⟩ := hcut
  subst hwc
  clear HM SA SB
  obtain ⟨w0, rfl⟩ : ∃ w0 : World, w0 = wc := ⟨_, rfl⟩
  go_upto_region 3 with (first
    | (go_at_call_of 30 (va); refine (CA.out _ (Below.refl _ _)).mono ?_; rintro e w1 ⟨gx, rfl, ⟨p1, rfl⟩, hx1, hx2, hrx⟩)
    | (go_at_call_of 30 (vb); refine (CB.out _ (more_below _ _)).mono ?_; rintro e w1 ⟨gy, rfl, ⟨p2, rfl⟩, hy1, hy2, hry⟩))
  have HX := Lib.hid (hrx.more p2)
  have HY := Lib.hid hry
  have HB := Lib.hid (below_mo (more_below w0 p1) p2)
  have hx3 : gx < (more (more w0 p1) p2).heap.size := by rw [more_size]; omega
  have hz0 := HB.out.size
  clear hrx hry CA CB hx2
  generalize more (more w0 p1) p2 = wA at *
  have HTA := Lib.hid (HT.out.below HB.out)
  have HZ := Lib.hid (rows_zero (w := wA) (n := n))
  clear HT
  go_wp2_with ((with_reducible refine wpList_rows rfl _ _ rfl n h64 rfl rfl ?_))
  have HB2 := Lib.hid (below_al HB.out (.cells (zrow n) 36))
  have HX2 := Lib.hid (HX.out.below (below_al (Below.refl _ _) (.cells (zrow n) 36)))
  have HY2 := Lib.hid (HY.out.below (below_al (Below.refl _ _) (.cells (zrow n) 36)))
  have HTB := Lib.hid (HTA.out.below (below_al (Below.refl _ _) (.cells (zrow n) 36)))
  have hzB : wA.heap.size < (wA.alloc (.cells (zrow n) 36)).heap.size := by simp
  have hgo : ∃ go, go = wA.heap.size := ⟨_, rfl⟩
  obtain ⟨go, hgo⟩ := hgo
  rw [← hgo] at hzB hx3 hy2 HZ hz0
  rw [← hgo]
  clear HX HY HB HTA hgo
  generalize wA.alloc (.cells (zrow n) 36) = wB at *
  go_loopw [26] (fun v26 wr => ∃ i : Nat, i ≤ n ∧ v26 = .int .i64 i ∧ Onto go wB wr ∧ RowsU wr go n (fun j => if j < i then rowN n (thenF n f g j) else 0)) (fun v26 _ => n - (intOf v26).toNat)
  case atStart => exact ⟨0, by omega, rfl, Onto.refl, HZ.out.congr fun j _ => by simp⟩
  case round =>
    obtain ⟨i, hi, rfl, ho, hw⟩ := hrel
    have HO := Lib.hid ho
    have HW := Lib.hid hw
    have hsz := ho.size
    obtain ⟨w1, rfl⟩ : ∃ w1 : World, w1 = wr := ⟨_, rfl⟩
    by_cases hlt : (i : Int) < n
    · have c1 := ((HX2.out.onto ho (by omega)) i (by omega)).1
      have hgl := cell_lt2 c1
      clear ho hw
      go_wp2_with fail
      go_loopg [10] (rowN n (f i)) (fun gg v10 w2 => ∃ x : Nat, v10 = .int .u64 x ∧ x ≤ gg ∧ (∀ j, x.testBit j = true → j < n ∧ f i j = true) ∧ x < 2 ^ 64 ∧ Onto go wB w2 ∧ RowsU w2 go n (fun j => if j = i then rowN n (thF n f g i x) else if j < i then rowN n (thenF n f g j) else 0))
      case atStart => exact ⟨rowN n (f i), rfl, Nat.le_refl _, fun j hj => by rw [rowN_tb] at hj; simpa using hj, rowN_64 h64 _, HO.out, HW.out.congr fun j hj => by
        by_cases e : j = i
        · subst e; simp [← th_start]
        · simp [e]⟩
      case round =>
        obtain ⟨x, rfl, hgg, hsub, hx64, ho2, hw2⟩ := hrel
        have HO2 := Lib.hid ho2
        have HW2 := Lib.hid hw2
        by_cases h0 : x = 0
        · subst h0
          clear ho2 hw2 hsub
          go_wp2_with fail
          go_roundw
          case rel => exact ⟨i + 1, by omega, by go_num, HO2.out, HW2.out.congr fun j _ => by
            by_cases e : j = i
            · subst e; simp [th_end]
            · simp [e, show (j < i + 1) = (j < i) by simp; omega]⟩
          case measure => simp [intOf]; omega
        · have b1 : ((x : Int) != 0) = true := by simpa using h0
          have hb := hsub _ (low_bit h0 hx64)
          have hstep := Lib.hid (th_step n f g i x hx64 h0 hb.1 hb.2)
          have TZ := Lib.hid (fun p => tz_quiet x hx64 h0 wr ((HTB.out).onto ho2 (by omega)) p)
          have KL := less_key x hx64 h0
          have hd := low_down h0
          have hsub2 : Hid (∀ j, (x &&& (x - 1)).testBit j = true → j < n ∧ f i j = true) := Lib.hid (fun j hj => by
            rw [low_less h0 hx64] at hj
            exact hsub j (by simp at hj; exact hj.1))
          obtain ⟨hcn, _⟩ := hb
          obtain ⟨d1, d2⟩ := hw2 i (by omega)
          simp only [if_true] at d1
          have cy := ((HY2.out.onto ho2 (by omega)) _ hcn).1
          generalize Lib.ctz 64 x = c at *
          have KO : bits .or .u64 ((rowN n (thF n f g i x) : Nat) : Int) ((rowN n (g c) : Nat) : Int) = ((rowN n (thF n f g i (x &&& (x - 1))) : Nat) : Int) := by
            rw [u64_or_nat _ _ (rowN_64 h64 _) (rowN_64 h64 _), hstep.out]
          have hsz2 : go < wr.heap.size := Nat.lt_of_lt_of_le hzB ho2.size
          have hszy : gy < wr.heap.size := by omega
          clear ho2 hw2 hsub
          go_upto_region 9 with fail
          refine wp_tail_more 11 (by kernel_rfl) (by kernel_rfl) ?_
          simp only [List.take_succ_cons, List.take_zero, List.drop_succ_cons, List.drop_zero]
          repeat (go_big_quiet_step (first | (go_at_call 32; exact TZ.out _)))
          refine wpQuiet_nil ?_
          intro p
          go_wp2_with (first | simp only [KO] | simp only [KL])
          go_roundg (x &&& (x - 1))
          case measure => omega
          case rel =>
            refine ⟨x &&& (x - 1), rfl, Nat.le_refl _, hsub2.out, by omega, (HO2.out.set i _).more p, ?_⟩
            exact ((HW2.out.set i (by omega) _).more p).congr fun j hj => by
              by_cases e : j = i <;> simp [e]
    · obtain rfl : i = n := by omega
      have HF : Hid (RowsU w1 go i (fun j => rowN i (thenF i f g j))) := Lib.hid (hw.congr fun j hj => by simp [hj])
      clear ho hw
      go_wp2_with fail
      go_ret
      exact ⟨go, rfl, more_of_below (HO.out.under HB2.out (by omega)), by omega, by omega, HF.out⟩
end Go.Proofs.YtgghhbjaokgeeaaDoor
