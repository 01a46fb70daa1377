/- Walk: the statement on packed structs of numbers, over what the program's functions give. Conditions: what came in lies in memory. -/
import Derived.Test.YtlbkloamabomcaaLayPkM
import Derived.Test.YtlbkloamabomcaaLayLawApart
namespace Go.Proofs.Ytlbkloamabomcaa
open Go.RowKit Go.Sort
set_option linter.unusedVariables false
set_option linter.unusedSimpArgs false
theorem szF_eq2 (l : List Int) (k : Nat) (y : Int) (hy : l[k]? = some y) (h0 : 0 ≤ y) : wrap64 (2 ^ (y % 4).toNat) = szF l k := by
  unfold szF
  have e2 : l.getD k 0 = y := by rw [List.getD, hy]; rfl
  rw [e2]
  have h1 : y % 4 = 0 ∨ y % 4 = 1 ∨ y % 4 = 2 ∨ y % 4 = 3 := by omega
  rcases h1 with h | h | h | h <;> rw [h] <;> simp [wrap64]
theorem SpAt.set {w : World} {S b k : Nat} {sp : List Sp} (hne : b ≠ S) (x : Value) (h : SpAt w S sp) : SpAt (w.setCell ⟨b, k, none⟩ x) S sp := by
  obtain ⟨h1, h2⟩ := h
  refine ⟨by simpa using h1, fun i s hi => ?_⟩
  have hc : ∀ j, (w.setCell ⟨b, k, none⟩ x).cell? ⟨S, j, none⟩ = w.cell? ⟨S, j, none⟩ := fun j => World.cell?_setCell_other _ _ _ _ (fun e => hne (congrArg Addr.block e))
  rw [hc, hc, hc, hc, hc, hc]
  exact h2 i s hi
set_option maxRecDepth 100000 in
set_option maxHeartbeats 4000000 in
theorem layoutPacked_walk (l : List Int) (a : Option Addr) (c : Nat) (w : World) (hI : IntsAt w .u8 a l c) : Calls Try.prog 7 #[.slice a l.length c] w fun e w' => e = .returned (.bool true) ∧ Below w.heap.size w w' := by
  have A := Lib.hid awakeL_any
  obtain ⟨i0, hi0, hz0, hz1, hz2⟩ := info_parts fd_info
  have hl1 := hI.1
  have hl2 := hI.2.1
  go_enter Try.func7, Try.ntmps7
  go_wp2_with fail
  go_loopw [4, 5] (fun s i wr => ∃ k : Nat, k ≤ l.length ∧ k ≤ 26 ∧ i = .int .i64 k ∧ s = .int .i64 (sumK (szF l) k) ∧ ∃ v, FInv w wr 3 true (szF l) k v ∧ wr.frozen? ⟨w.heap.size, 2, none⟩ = false) (fun _ i _ => l.length - (intOf i).toNat)
  case atStart => exact ⟨0, by omega, by omega, rfl, rfl, .slice none 0 0, ⟨by repeat (first | exact Below.refl _ _ | refine below_mo ?_ _ | refine below_al ?_ _ | refine below_st ?_ (by simp) _), by simp [go_sem], by simp [go_sem], by simp [go_sem], by simp [go_sem], by simp [go_sem], by simp [go_sem], by simp [go_sem], by simp [go_sem], World.ownsRow_nil _ _ _ _⟩, by simp [go_sem]⟩
  case round =>
    obtain ⟨k, hk, hk2, rfl, rfl, v, hF, f10⟩ := hrel
    obtain ⟨f0, f1, f2, f3, f4, f5, f6, f7, f8, f9⟩ := hF
    have F0 := Lib.hid f0
    have F9 := Lib.hid f9
    have hsb := sumK_bound (szF_ok l) k
    have HSU := Lib.hid (sumK_succ (szF l) k)
    have hszk := szF_ok l k
    clear f0 f9
    by_cases hgo : (k : Int) < l.length ∧ (k : Int) < 26
    · obtain ⟨hlt, hlt2⟩ := hgo
      obtain ⟨b, off, rfl, hb, hc⟩ := hI.2.2.1 (by omega)
      obtain ⟨y, hy⟩ := get_some l k (by omega)
      have hy1 := hI.2.2.2 y (List.mem_of_getElem? hy)
      have hy2 : 0 ≤ y ∧ y ≤ 255 := by simpa [Lit.wf, IntKind.min, IntKind.max, IntKind.bits, IntKind.signed] using hy1
      have hyc : wr.cell? ⟨b, off + k, none⟩ = some (.int .u8 y) := (F0.out.cell (p := ⟨b, off + k, none⟩) hb).trans (hc k y hy)
      have hb2 : b < wr.heap.size := by have := F0.out.size; omega
      have hw1 : IntKind.i64.wrap (97 + (k : Int)) = 97 + k := by rw [IntKind.wrap_i64]; omega
      have hw2 : IntKind.u8.wrap (97 + (k : Int)) = 97 + k := by simp [IntKind.wrap, IntKind.bits, IntKind.signed]; omega
      have hcv := run_name wr k
      have hse := szF_eq2 l k y hy hy2.1
      have hr0 : 0 ≤ y % 4 := by omega
      have hr1 : y % 4 < 4 := by omega
      generalize hSZ : szF l k = sz at *
      generalize hSM : sumK (szF l) k = sm at *
      have hown : ((wr.alloc (.cells #[.int .u8 (97 + (k : Int))] 5)).alloc (.cells #[.string (nmK k), .int .i64 1, .int .i64 sz, .bool false, .slice none 0 0, .int .i64 0, .slice none 0 0, .bool false, .int .i64 0] 51)).ownsRow (w.heap.size + 1) 51 9 v k (cellsK (szF l) k) := (F9.out.alloc _).alloc _
      have hnw : ∀ j u, (clK (szF l) k)[j]? = some u → ((wr.alloc (.cells #[.int .u8 (97 + (k : Int))] 5)).alloc (.cells #[.string (nmK k), .int .i64 1, .int .i64 sz, .bool false, .slice none 0 0, .int .i64 0, .slice none 0 0, .bool false, .int .i64 0] 51)).cell? ((⟨wr.heap.size + 1, 0, none⟩ : Addr).add j) = some u := by
        have h := World.news_of_block (fr := (0, 0)) (heap_alloc_new (wr.alloc (.cells #[.int .u8 (97 + (k : Int))] 5)) (.cells #[.string (nmK k), .int .i64 1, .int .i64 sz, .bool false, .slice none 0 0, .int .i64 0, .slice none 0 0, .bool false, .int .i64 0] 51))
        rw [(show (wr.alloc (.cells #[.int .u8 (97 + (k : Int))] 5)).heap.size = wr.heap.size + 1 by simp [go_sem])] at h
        unfold clK
        rw [hSZ]
        exact h
      have HOW := Lib.hid hown
      have HNW := Lib.hid hnw
      have HCO := Lib.hid (clK_one (szF l) k)
      have HSZ := Lib.hid hSZ
      have HSM := Lib.hid hSM
      clear hown hnw hSZ hSM
      go_wp2_with (at_builtin; refine wpList_append_lies _ rfl _ _ 22 rfl (w.heap.size + 1) 51 i0 _ 9 112 Try.underlying22 hi0 hz0 hz1 hz2 rfl (by decide) v k (cellsK (szF l) k) (by rfl) HOW.out ⟨wr.heap.size + 1, 0, none⟩ 1 1 (clK (szF l) k) (by rfl) (by rfl) HNW.out HCO.out (by omega) (by unfold maxLen; omega) (by omega) (by simp; omega) (wr.heap.size + 1 + 1) (by simp) ?_)
      intro gg cap w6 hown6 hgrow hat hlt6
      have hne : ∀ q, v.ownBlock = some q → w.heap.size + 1 ≤ q := fun q hq => (F9.out.lt q hq).1
      have hne2 : some w.heap.size ≠ v.ownBlock := fun e => by have := hne _ e.symm; omega
      have hsz9 : w.heap.size < ((wr.alloc (.cells #[.int .u8 (97 + (k : Int))] 5)).alloc (.cells #[.string (nmK k), .int .i64 1, .int .i64 sz, .bool false, .slice none 0 0, .int .i64 0, .slice none 0 0, .bool false, .int .i64 0] 51)).heap.size := by simp; omega
      have kc : ∀ o x, wr.cell? ⟨w.heap.size, o, none⟩ = some x → w6.cell? ⟨w.heap.size, o, none⟩ = some x := fun o x hx => by
        rw [hgrow.cell_far ⟨w.heap.size, o, none⟩ hsz9 hne2]
        simp [go_sem, ↓IntWalk.iteOmega, hx]
      have kf : w6.frozen? ⟨w.heap.size, 3, none⟩ = false := by
        rw [hgrow.frozen_far ⟨w.heap.size, 3, none⟩ hsz9 hne2]
        simp [go_sem, ↓IntWalk.iteOmega, f8]
      have kf2 : w6.frozen? ⟨w.heap.size, 2, none⟩ = false := by
        rw [hgrow.frozen_far ⟨w.heap.size, 2, none⟩ hsz9 hne2]
        simp [go_sem, ↓IntWalk.iteOmega, f10]
      have k2 := kc _ _ f2
      have k3 := kc _ _ f3
      have k4 := kc _ _ f4
      have k5 := kc _ _ f5
      have k6 := kc _ _ f6
      have k7 := kc _ _ f7
      have hs1 : w.heap.size < w6.heap.size := cell_lt2 k2
      have HB6 : Hid (Below w.heap.size w w6) := Lib.hid (Below.grown (below_al (below_al F0.out _) _) hgrow (by simp; omega) (fun q hq => by have := hne q hq; omega))
      have HO6 := Lib.hid hown6
      clear hown6 hgrow hat hne hne2 hsz9 kc f2 f3 f4 f5 f6 f7 f8 f10
      go_wp2_with fail
      go_roundw
      case rel =>
        refine ⟨k + 1, by omega, by omega, by go_num, by first | (rw [HSU.out]; done) | (rw [HSU.out]; go_num), .slice (some ⟨gg, 0, none⟩) (k + 1) cap, ⟨below_st HB6.out (by simp) _, by simp; omega, by rw [cell_upd, if_neg (by omega)]; exact k2, by rw [cell_upd, if_neg (by omega)]; exact k3, by rw [cell_upd, if_neg (by omega)]; exact k4, by rw [cell_upd, if_pos rfl, k5]; rfl, by rw [cell_upd, if_neg (by omega)]; exact k6, by rw [cell_upd, if_neg (by omega)]; exact k7, by rw [World.frozen?_setCell]; exact kf, own_st HO6.out (by simp) _⟩, by rw [World.frozen?_setCell]; exact kf2⟩
      case measure => simp [intOf]; omega
    · have HK : Hid (k = l.length ∨ k = 26) := Lib.hid (by omega)
      by_cases hk0 : k = 0
      · subst hk0
        have hl0 : l.length = 0 := by
          rcases HK.out with h | h
          · omega
          · omega
        have hd : decide (((0 : Nat) : Int) < l.length) = false := by simp [hl0]
        have hv0 : v = .slice none 0 0 ∨ ∃ g cp, v = .slice (some ⟨g, 0, none⟩) 0 cp := by
          rcases F9.out.2 with ⟨h1, _⟩ | ⟨g, cp, cur, hv, _⟩
          · exact .inl h1
          · exact .inr ⟨g, cp, hv⟩
        rw [hl0] at *
        rcases hv0 with rfl | ⟨g, cp, rfl⟩
        all_goals
          go_wp2_with (go_at_call 15; refine (A.out _).mono ?_; rintro e w1 ⟨rfl, p9, rfl⟩)
          go_ret
          exact ⟨rfl, below_mo F0.out _⟩
      · obtain ⟨g, cp, rfl, hg1, hg2⟩ := F9.out.form (by omega)
        have hcp := own_caps2 F9.out
        have hTy : ∀ W, Below wr.heap.size wr W → TyAt W 2 (tyK 3 true (fsK (szF l) k)) ⟨3, 0, true, some ⟨g, 0, none⟩, k, cp, 0, none, 0, 0⟩ := fun W hW => by
          obtain ⟨fa', fc', hv, _, _, hT⟩ := tyK_at (.inl rfl) true (szF_ok l) F9.out (by omega)
          cases hv
          exact hT.below hW
        obtain ⟨hck, hcf⟩ := check_tyK (szF_ok l) true k (by omega) hk2
        have hfo := hcf _ (form_pk (szF_ok l) k hk2)
        obtain ⟨hck2, hcf2⟩ := check_tyK (szF_ok l) false k (by omega) hk2
        obtain ⟨gu, hgu, hge⟩ := form_un (szF_ok l) k hk2
        have hfo2 := hcf2 _ hgu
        have O1 := Lib.hid (fun W (hW : Below wr.heap.size wr W) => Of_any 2 _ _ W (hTy W hW))
        rw [hck, hfo] at O1
        have hls : (spotsF 2 (tyK 3 true (fsK (szF l) k))).length = k := by
          have hl : (tyK 3 true (fsK (szF l) k)).fields.length = k := fsK_len (szF l) k
          have hq := plK_pk (szF_ok l) k k (Nat.le_refl _)
          show (spK (formF 1) (tsize 1) (tkind 1) (tyK 3 true (fsK (szF l) k)) (tyK 3 true (fsK (szF l) k)).fields.length).length = k
          rw [hl]
          exact spK_len _ _ _ _ _ _ hq
        have FI : Hid (∀ W, Below wr.heap.size wr W → Calls Try.prog 17 #[.agg #[.int .i64 3, .int .i64 0, .bool true, .slice (some ⟨g, 0, none⟩) k cp, .int .i64 0, .slice none 0 0]] W fun e w' => ∃ S c, e = .returned (.tuple #[.slice (some ⟨S, 0, none⟩) k c, .int .i64 0]) ∧ W.heap.size ≤ S ∧ k ≤ c ∧ c ≤ maxLen ∧ SpAt w' S (spotsF 2 (tyK 3 true (fsK (szF l) k))) ∧ ∃ p : Regrown, w' = more W p) := Lib.hid (fun W hW => (Fields_any 2 _ _ W (hTy W hW)).mono (by
          have hfe : fieldsE 2 (tyK 3 true (fsK (szF l) k)) = 0 := by
            unfold fieldsE
            rw [hck]
            rfl
          rintro e w1 ⟨⟨ad, ln, c, rfl, _, h2⟩, hp⟩
          rw [hfe] at h2 ⊢
          obtain ⟨h3, h4⟩ := h2 rfl
          obtain ⟨h5, S, rfl, h6, h7, h8⟩ := spots_at h4 (fun h => by rw [h] at hls; simp at hls; omega)
          rw [hls] at h3
          subst h3
          exact ⟨S, c, rfl, (h4.lt S rfl).1, h6, h7, h8, hp⟩))
        have O2 := Lib.hid (fun (W : World) (r : Raw) (hT : TyAt W 2 (tyK 3 false (fsK (szF l) k)) r) => Of_any 2 _ r W hT)
        rw [hck2, hfo2] at O2
        have HTF : Hid (∀ W, W.ownsRow (w.heap.size + 1) 51 9 (.slice (some ⟨g, 0, none⟩) k cp) k (cellsK (szF l) k) → TyAt W 2 (tyK 3 false (fsK (szF l) k)) ⟨3, 0, false, some ⟨g, 0, none⟩, k, cp, 0, none, 0, 0⟩) := Lib.hid (fun W hr => by
          obtain ⟨fa', fc', hv, _, _, hT⟩ := tyK_at (.inl rfl) false (szF_ok l) hr (by omega)
          cases hv
          exact hT)
        have HSPK := Lib.hid (fun i hi => spots_pk (szF_ok l) k i hi)
        have HSUM := Lib.hid (fun i => sumK_succ (szF l) i)
        have HSB := Lib.hid (fun i => sumK_bound (szF_ok l) i)
        have HSZO := Lib.hid (szF_ok l)
        unfold Raw.val at O1
        simp only at O1
        obtain ⟨gu1, gu2⟩ := gu
        simp only at hge O2
        clear hTy hck hcf hfo hck2 hcf2 hgu hfo2 hls hI
        generalize spotsF 2 (tyK 3 true (fsK (szF l) k)) = SPS at *
        generalize hSF : szF l = sf at *
        have hdge : decide (sumK sf k ≤ gu1) = true := by simpa using hge
        have hsk := sumK_bound HSZO.out k
        by_cases hA0 : (k : Int) < l.length
        · have hB0 : ¬ ((k : Int) < 26) := fun h => hgo ⟨hA0, h⟩
          go_upto_region 13 with (first
            | (go_at_call 13; refine (O1.out _ (by repeat (first | with_reducible exact Below.refl _ _ | with_reducible refine below_mo ?_ _ | with_reducible refine below_al ?_ _))).mono ?_; rintro e w1 ⟨rfl, p1, rfl⟩)
            | (go_at_call 17; refine (FI.out _ (by repeat (first | with_reducible exact Below.refl _ _ | with_reducible refine below_mo ?_ _ | with_reducible refine below_al ?_ _))).mono ?_; rintro e w1 ⟨S2, c2, rfl, hS2, hc1, hc2, hsp, p2, rfl⟩; have HSP := Lib.hid hsp; clear hsp))
          refine wp_letter (R := fun W => Below wr.heap.size wr W ∧ SpAt W S2 SPS ∧ W.ownsRow (w.heap.size + 1) 51 9 (.slice (some ⟨g, 0, none⟩) k cp) k (cellsK sf k)) ?letAP ?_
          case letAP => exact ⟨(by repeat (first | with_reducible exact Below.refl _ _ | with_reducible refine below_mo ?_ _ | with_reducible refine below_al ?_ _)), HSP.out, ownsRow_mo (ownsRow_mo F9.out _) _⟩
          rintro wA ⟨hA1, hA2, hA3⟩
          have hcA : ∀ o x, wr.cell? ⟨w.heap.size, o, none⟩ = some x → wA.cell? ⟨w.heap.size, o, none⟩ = some x := fun o x hx => (hA1.cell (p := ⟨w.heap.size, o, none⟩) f1).trans hx
          have y0 := hcA _ _ f2
          have y1 := hcA _ _ f3
          have y2 := hcA _ _ f4
          have y3 := hcA _ _ f5
          have y4 := hcA _ _ f6
          have y5 := hcA _ _ f7
          have yz : wA.frozen? ⟨w.heap.size, 2, none⟩ = false := (hA1.frozen (p := ⟨w.heap.size, 2, none⟩) f1).trans f10
          have hlA := cell_lt2 y0
          have HA1 := Lib.hid hA1
          have HA2 := Lib.hid hA2
          have HA3 := Lib.hid hA3
          have hneS : w.heap.size ≠ S2 := by rw [more_size] at hS2; omega
          clear hcA hA1 hA2 hA3 HSP O1 FI
          go_upto_region 14 with fail
          refine wp_letter (R := fun W => Below w.heap.size w W ∧ SpAt W S2 SPS ∧ TyAt W 2 (tyK 3 false (fsK sf k)) ⟨3, 0, false, some ⟨g, 0, none⟩, k, cp, 0, none, 0, 0⟩ ∧ TyB6 W w.heap.size 3 0 false (some ⟨g, 0, none⟩) k cp 0 none 0 0) ?letBP ?_
          case letBP =>
            refine ⟨below_st (F0.out.trans (HA1.out.mono (by omega))) (by simp) _, HA2.out.set hneS _, HTF.out _ (own_st HA3.out (by simp) _), ?_⟩
            refine ⟨?_, ?_, ?_, ?_, ?_, ?_⟩
            all_goals (rw [cell_upd]; simp [y0, y1, y2, y3, y4, y5])
          rintro wB ⟨hB1, hB2, hB3, z0, z1, z2, z3, z4, z5⟩
          have hlB := cell_lt2 z0
          have HB1 := Lib.hid hB1
          have HSB2 := Lib.hid hB2.2
          have hlS := hB2.1
          have O3 := Lib.hid (fun W (hW : Below wB.heap.size wB W) => O2.out W _ (hB3.below hW))
          unfold Raw.val at O3
          simp only at O3
          have hc5 : c2 ≤ 9223372036854775807 := hc2
          clear hB1 hB2 hB3 O2 HTF HA1 HA2 HA3 y0 y1 y2 y3 y4 y5 yz F0 F9 f1 f2 f3 f4 f5 f6 f7 f8 f10
          go_wp2_with (go_at_call 13; refine (O3.out _ (by repeat (first | with_reducible exact Below.refl _ _ | with_reducible refine below_mo ?_ _ | with_reducible refine below_al ?_ _))).mono ?_; rintro e w1 ⟨rfl, p3, rfl⟩)
          refine wp_letter (R := fun W => Below wB.heap.size wB W) (below_mo (Below.refl _ _) _) ?_
          rintro wC hC1
          have HC1 := Lib.hid hC1
          have hbC := hC1.size
          clear hC1
          go_loopw [15, 16] (fun v15 v16 wr => ∃ i : Nat, i ≤ k ∧ v16 = .int .i64 i ∧ v15 = .int .i64 (sumK sf i) ∧ wr = wC) (fun _ v16 _ => k - (intOf v16).toNat)
          case atStart => exact ⟨0, by omega, rfl, rfl, rfl⟩
          case round =>
            obtain ⟨i, hil, rfl, rfl, hwx⟩ := hrel
            subst hwx
            by_cases hlt : (i : Int) < k
            · obtain ⟨s0, s1, _⟩ := HSB2.out i _ (HSPK.out i (by omega))
              simp only at s0 s1
              have t0 := (HC1.out.cell (p := ⟨S2, i * 6, none⟩) hlS).trans s0
              have t1 := (HC1.out.cell (p := ⟨S2, i * 6 + 1, none⟩) hlS).trans s1
              have hbi := HSB.out i
              have HSI := Lib.hid (HSUM.out i)
              have hzi := HSZO.out i
              clear s0 s1
              generalize sumK sf i = sm at *
              generalize sf i = si at *
              have hlS2 : S2 < wr.heap.size := by omega
              go_wp2_with fail
              go_roundw
              case rel => exact ⟨i + 1, by omega, by go_num, by first | (rw [HSI.out]; done) | (rw [HSI.out]; go_num), by first | rfl | trivial⟩
              case measure => simp [intOf]; omega
            · obtain rfl : i = k := by omega
              generalize sumK sf i = sm at *
              go_wp2_with (go_at_call 15; refine (A.out _).mono ?_; rintro e w1 ⟨rfl, p9, rfl⟩)
              go_ret
              exact ⟨by simp [hge], below_mo (HB1.out.trans (HC1.out.mono HB1.out.size)) _⟩
        · skip
          go_upto_region 13 with (first
            | (go_at_call 13; refine (O1.out _ (by repeat (first | with_reducible exact Below.refl _ _ | with_reducible refine below_mo ?_ _ | with_reducible refine below_al ?_ _))).mono ?_; rintro e w1 ⟨rfl, p1, rfl⟩)
            | (go_at_call 17; refine (FI.out _ (by repeat (first | with_reducible exact Below.refl _ _ | with_reducible refine below_mo ?_ _ | with_reducible refine below_al ?_ _))).mono ?_; rintro e w1 ⟨S2, c2, rfl, hS2, hc1, hc2, hsp, p2, rfl⟩; have HSP := Lib.hid hsp; clear hsp))
          refine wp_letter (R := fun W => Below wr.heap.size wr W ∧ SpAt W S2 SPS ∧ W.ownsRow (w.heap.size + 1) 51 9 (.slice (some ⟨g, 0, none⟩) k cp) k (cellsK sf k)) ?letAQ ?_
          case letAQ => exact ⟨(by repeat (first | with_reducible exact Below.refl _ _ | with_reducible refine below_mo ?_ _ | with_reducible refine below_al ?_ _)), HSP.out, ownsRow_mo (ownsRow_mo F9.out _) _⟩
          rintro wA ⟨hA1, hA2, hA3⟩
          have hcA : ∀ o x, wr.cell? ⟨w.heap.size, o, none⟩ = some x → wA.cell? ⟨w.heap.size, o, none⟩ = some x := fun o x hx => (hA1.cell (p := ⟨w.heap.size, o, none⟩) f1).trans hx
          have y0 := hcA _ _ f2
          have y1 := hcA _ _ f3
          have y2 := hcA _ _ f4
          have y3 := hcA _ _ f5
          have y4 := hcA _ _ f6
          have y5 := hcA _ _ f7
          have yz : wA.frozen? ⟨w.heap.size, 2, none⟩ = false := (hA1.frozen (p := ⟨w.heap.size, 2, none⟩) f1).trans f10
          have hlA := cell_lt2 y0
          have HA1 := Lib.hid hA1
          have HA2 := Lib.hid hA2
          have HA3 := Lib.hid hA3
          have hneS : w.heap.size ≠ S2 := by rw [more_size] at hS2; omega
          clear hcA hA1 hA2 hA3 HSP O1 FI
          go_upto_region 14 with fail
          refine wp_letter (R := fun W => Below w.heap.size w W ∧ SpAt W S2 SPS ∧ TyAt W 2 (tyK 3 false (fsK sf k)) ⟨3, 0, false, some ⟨g, 0, none⟩, k, cp, 0, none, 0, 0⟩ ∧ TyB6 W w.heap.size 3 0 false (some ⟨g, 0, none⟩) k cp 0 none 0 0) ?letBQ ?_
          case letBQ =>
            refine ⟨below_st (F0.out.trans (HA1.out.mono (by omega))) (by simp) _, HA2.out.set hneS _, HTF.out _ (own_st HA3.out (by simp) _), ?_⟩
            refine ⟨?_, ?_, ?_, ?_, ?_, ?_⟩
            all_goals (rw [cell_upd]; simp [y0, y1, y2, y3, y4, y5])
          rintro wB ⟨hB1, hB2, hB3, z0, z1, z2, z3, z4, z5⟩
          have hlB := cell_lt2 z0
          have HB1 := Lib.hid hB1
          have HSB2 := Lib.hid hB2.2
          have hlS := hB2.1
          have O3 := Lib.hid (fun W (hW : Below wB.heap.size wB W) => O2.out W _ (hB3.below hW))
          unfold Raw.val at O3
          simp only at O3
          have hc5 : c2 ≤ 9223372036854775807 := hc2
          clear hB1 hB2 hB3 O2 HTF HA1 HA2 HA3 y0 y1 y2 y3 y4 y5 yz F0 F9 f1 f2 f3 f4 f5 f6 f7 f8 f10
          go_wp2_with (go_at_call 13; refine (O3.out _ (by repeat (first | with_reducible exact Below.refl _ _ | with_reducible refine below_mo ?_ _ | with_reducible refine below_al ?_ _))).mono ?_; rintro e w1 ⟨rfl, p3, rfl⟩)
          refine wp_letter (R := fun W => Below wB.heap.size wB W) (below_mo (Below.refl _ _) _) ?_
          rintro wC hC1
          have HC1 := Lib.hid hC1
          have hbC := hC1.size
          clear hC1
          go_loopw [15, 16] (fun v15 v16 wr => ∃ i : Nat, i ≤ k ∧ v16 = .int .i64 i ∧ v15 = .int .i64 (sumK sf i) ∧ wr = wC) (fun _ v16 _ => k - (intOf v16).toNat)
          case atStart => exact ⟨0, by omega, rfl, rfl, rfl⟩
          case round =>
            obtain ⟨i, hil, rfl, rfl, hwx⟩ := hrel
            subst hwx
            by_cases hlt : (i : Int) < k
            · obtain ⟨s0, s1, _⟩ := HSB2.out i _ (HSPK.out i (by omega))
              simp only at s0 s1
              have t0 := (HC1.out.cell (p := ⟨S2, i * 6, none⟩) hlS).trans s0
              have t1 := (HC1.out.cell (p := ⟨S2, i * 6 + 1, none⟩) hlS).trans s1
              have hbi := HSB.out i
              have HSI := Lib.hid (HSUM.out i)
              have hzi := HSZO.out i
              clear s0 s1
              generalize sumK sf i = sm at *
              generalize sf i = si at *
              have hlS2 : S2 < wr.heap.size := by omega
              go_wp2_with fail
              go_roundw
              case rel => exact ⟨i + 1, by omega, by go_num, by first | (rw [HSI.out]; done) | (rw [HSI.out]; go_num), by first | rfl | trivial⟩
              case measure => simp [intOf]; omega
            · obtain rfl : i = k := by omega
              generalize sumK sf i = sm at *
              go_wp2_with (go_at_call 15; refine (A.out _).mono ?_; rintro e w1 ⟨rfl, p9, rfl⟩)
              go_ret
              exact ⟨by simp [hge], below_mo (HB1.out.trans (HC1.out.mono HB1.out.size)) _⟩
end Go.Proofs.Ytlbkloamabomcaa
