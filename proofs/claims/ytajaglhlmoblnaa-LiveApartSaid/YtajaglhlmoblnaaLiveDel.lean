/- Walk: slices.DeleteFunc over whether a number is below 0. Conditions: numbers fit. -/
import Derived.Test.YtajaglhlmoblnaaLiveThere
import Derived.Deep.CutRange
import Derived.Deep.LoopGhost
namespace Go.Proofs.Ytajaglhlmoblnaa
open Go.RowKit Go.Sort Go.Lib
set_option linter.unusedVariables false
set_option linter.unusedSimpArgs false
theorem zero_int (W : World) : (zeroValue 3).run Try.prog W = .ok (.int .i64 0) W := by kernel_rfl
set_option maxHeartbeats 2000000 in
theorem del_any (L : Nat → Int) (n b cap : Nat) (hn : n ≤ 100) (hcap : n ≤ cap) (hcm : cap ≤ 100) (w : World) (hc : ∀ j, j < n → w.cell? ⟨b, j, none⟩ = some (.int .i64 (L j)) ∧ w.frozen? ⟨b, j, none⟩ = false) :
    Calls Try.prog 17 #[.slice (some ⟨b, 0, none⟩) n cap, .func (.func 18) #[] #[]] w fun e w' => e = .returned (.slice (some ⟨b, 0, none⟩) (kept L n).length cap) ∧ Onto b w w' ∧ ∀ t x, (kept L n)[t]? = some x → w'.cell? ⟨b, t, none⟩ = some (.int .i64 x) := by
  have NE := Lib.hid (fun x W => neg_any x W)
  have IX := Lib.hid (index_any L n b cap hn w (fun j hj => (hc j hj).1))
  have HC := Lib.hid hc
  clear hc
  go_enter Try.func17, Try.ntmps17
  go_upto_region 2 with (go_at_call 20; refine (IX.out).mono ?_; rintro e w1 ⟨⟨r, rfl, hr⟩, rfl⟩)
  rcases hr with ⟨rfl, hall⟩ | ⟨k, hk, rfl, hneg, hpre⟩
  · have HK := Lib.hid (kept_all L n hall)
    clear hall
    go_wp2_with fail
    go_ret
    refine ⟨by rw [HK.out]; simp, Onto.refl, fun t x ht => ?_⟩
    rw [HK.out] at ht
    have htn : t < n := by
      have := (List.getElem?_eq_some_iff.1 ht).1
      simpa using this
    rw [List.getElem?_map, List.getElem?_range htn] at ht
    simp at ht
    subst ht
    exact (HC.out t htn).1
  · have h0 : DelW w w L n b (k + 1) := by
      have e : kept L (k + 1) = (List.range k).map L := by rw [kept_succ, if_neg (by omega), kept_all L k hpre]
      refine ⟨Onto.refl, ?_, fun t _ h2 => (HC.out t h2).1, fun t ht => ⟨by rw [(HC.out t ht).1]; rfl, (HC.out t ht).2⟩, by rw [e]; simp⟩
      rw [e]
      intro t x ht
      have htn : t < k := by
        have := (List.getElem?_eq_some_iff.1 ht).1
        simpa using this
      rw [List.getElem?_map, List.getElem?_range htn] at ht
      simp at ht
      subst ht
      exact (HC.out t (by omega)).1
    have hk0 : (kept L (k + 1)).length = k := by rw [kept_succ, if_neg (by omega), kept_all L k hpre]; simp
    have H0 := Lib.hid h0
    have HK0 := Lib.hid hk0
    clear h0 hk0 hneg hpre
    have hne : ((k : Int) == -1) = false := by simp
    go_wp2_with fail
    go_loopw [5, 6, 7] (fun v5 v6 _ wr => ∃ j : Nat, j ≤ n ∧ v5 = .int .i64 ((kept L j).length : Nat) ∧ v6 = .int .i64 j ∧ DelW w wr L n b j) (fun _ v6 _ _ => n - (intOf v6).toNat)
    case atStart => exact ⟨k + 1, by omega, by rw [HK0.out], by go_num, H0.out⟩
    case round =>
      obtain ⟨j, hj, rfl, rfl, hd⟩ := hrel
      have hless := hd.less
      have HD := Lib.hid hd
      clear hd H0 HK0
      have hl0 := kept_len L j
      by_cases hlt : (j : Int) < n
      · have hcj := HD.out.high j (Nat.le_refl _) (by omega)
        by_cases hx : L j < 0
        · have hq : decide (L j < 0) = true := by simpa using hx
          have HS := Lib.hid (HD.out.skip hx)
          have HE : Hid ((kept L (j + 1)).length = (kept L j).length) := Lib.hid (by rw [kept_succ, if_neg (by omega)])
          generalize L j = x at hcj hx hq
          generalize (kept L j).length = i at *
          go_wp2_with (go_at_call 18; refine (NE.out _ _).mono ?_; rintro e w1 ⟨rfl, rfl⟩)
          go_roundw
          case rel => exact ⟨j + 1, by omega, by rw [HE.out], by go_num, HS.out⟩
          case measure => simp [intOf]; omega
        · have hq : decide (L j < 0) = false := by simpa using hx
          have HS := Lib.hid (HD.out.keep (by omega) (by omega))
          have HE : Hid ((kept L (j + 1)).length = (kept L j).length + 1) := Lib.hid (by rw [kept_succ, if_pos (by omega)]; simp)
          have hci := HD.out.there (kept L j).length (by omega)
          obtain ⟨u, hu⟩ := Option.isSome_iff_exists.1 hci.1
          have hfi := hci.2
          clear hci
          generalize L j = x at hcj hx hq HS
          generalize (kept L j).length = i at *
          go_wp2_with (go_at_call 18; refine (NE.out _ _).mono ?_; rintro e w1 ⟨rfl, rfl⟩)
          go_roundw
          case rel => exact ⟨j + 1, by omega, by rw [HE.out]; go_num, by go_num, HS.out⟩
          case measure => simp [intOf]; omega
      · obtain rfl : j = n := by omega
        have HCL := Lib.hid (fun ty => run_clear_slice (P := Try.prog) wr 27 3 ty (.int .i64 0) Try.underlying27 zero_int rfl rfl b (kept L j).length (j - (kept L j).length) (cap - (kept L j).length) (by omega) (fun t ht => (HD.out.there _ (by omega)).1) (fun t ht => (HD.out.there _ (by omega)).2))
        have hcl := HCL.out
        clear HCL
        generalize hi : (kept L j).length = i at *
        go_wp2_with fail
        go_ret
        refine ⟨rfl, Onto.setCells _ _ _ HD.out.onto, fun t x ht => ?_⟩
        have htl : t < i := by
          have := (List.getElem?_eq_some_iff.1 ht).1
          omega
        rw [World.cell?_setCells_out _ _ _ _ _ (fun _ _ => Or.inl htl)]
        exact HD.out.low t x ht
end Go.Proofs.Ytajaglhlmoblnaa
