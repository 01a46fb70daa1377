/- Walk: the document's search. Conditions: no more than 64 things. -/
import Derived.Test.YtgghhbjaokgeeaaDoorRelGrid
import Derived.Test.YtgghhbjaokgeeaaDoorRelDfs
import Derived.OwnWalk
namespace Go.Proofs.YtgghhbjaokgeeaaDoor
open Go.RowKit Go.Sort Go.Lib
set_option linter.unusedVariables false
set_option linter.unusedSimpArgs false
theorem info_int : (Tryd.prog.info? 3).map (fun i => (i.zero, i.size, i.bytes)) = some (some (.int .i64 0), 1, 8) := by kernel_rfl
noncomputable def pF (A : Nat → Nat → Bool) (S : Nat → Bool) (i x c : Nat) : Bool := if x < i then rchB A x c else if x = i then S c else false
theorem pF_set (A : Nat → Nat → Bool) (S : Nat → Bool) (i k x c : Nat) : (if x = i ∧ c = k then true else pF A S i x c) = pF A (fun c => if c = k then true else S c) i x c := by
  unfold pF
  by_cases e : x = i
  · subst e
    by_cases e2 : c = k <;> simp [e2]
  · by_cases e2 : x < i <;> simp [e, e2]
theorem pF_next (A : Nat → Nat → Bool) (S : Nat → Bool) (i : Nat) (h : ∀ k, S k = rchB A i k) (x c : Nat) : pF A S i x c = pF A (fun _ => false) (i + 1) x c := by
  unfold pF
  by_cases e : x = i
  · subst e; simp [h]
  · by_cases e2 : x < i
    · simp [e2, show x < i + 1 by omega]
    · simp [e, e2, show ¬ x < i + 1 by omega]
theorem own_keep' {w w1 : World} {B : Nat} {e : TypeId} {size n : Nat} {v : Value} {xs : List Value} (hown : w.ownsRow B e size v n xs) (hb : ∀ g, B ≤ g → g < w.heap.size → w1.heap[g]? = w.heap[g]?) : w1.ownsRow B e size v n xs := by
  refine ⟨hown.1, hown.2.imp id fun ⟨g, cap, cur, h1, h2, h3, h4⟩ => ⟨g, cap, cur, h1, h2, ?_, h4⟩⟩
  rw [hb g h2 (Array.getElem?_eq_some_iff.1 h3).1]
  exact h3
theorem heap_set_other (w : World) (b k : Nat) (v : Value) (g : Nat) (h : g ≠ b) : (w.setCell ⟨b, k, none⟩ v).heap[g]? = w.heap[g]? := by
  unfold World.setCell
  simp [Array.getElem?_modify, Ne.symm h]
theorem own_pop {w : World} {B : Nat} {e : TypeId} {g n cap : Nat} {xs : List Value} {x : Value} (h : w.ownsRow B e 1 (.slice (some ⟨g, 0, none⟩) (n + 1) cap) (n + 1) (xs ++ [x])) : w.ownsRow B e 1 (.slice (some ⟨g, 0, none⟩) n cap) n xs := by
  obtain ⟨h1, h2⟩ := h
  simp at h1
  refine ⟨by omega, ?_⟩
  rcases h2 with ⟨h2, _⟩ | ⟨g', cap', cur, e1, e2, e3, e4, e5, e6, e7⟩
  · cases h2
  · simp only [Value.slice.injEq, Option.some.injEq, Addr.mk.injEq, and_true, true_and] at e1
    obtain ⟨rfl, rfl⟩ := e1
    refine .inr ⟨g, cap, cur, rfl, e2, e3, by omega, e5, e6, ?_⟩
    have h8 : (cur.toList.take ((n + 1) * 1)).take n = (xs ++ [x]).take n := by rw [e7]
    rw [List.take_take, show min n ((n + 1) * 1) = n by omega] at h8
    rw [Nat.mul_one, h8, List.take_append_of_le_length (by omega)]
    exact List.take_of_length_le (by omega)
theorem own_form {w : World} {B : Nat} {e : TypeId} {size n : Nat} {v : Value} {xs : List Value} (h : w.ownsRow B e size v n xs) (hn : 0 < n) : ∃ g cap, v = .slice (some ⟨g, 0, none⟩) n cap ∧ B ≤ g ∧ g < w.heap.size ∧ n ≤ cap ∧ cap ≤ 9223372036854775807 := by
  rcases h.2 with ⟨_, h0⟩ | ⟨g, cap, cur, h1, h2, h3, h4, h5, _⟩
  · omega
  · exact ⟨g, cap, h1, h2, (Array.getElem?_eq_some_iff.1 h3).1, h4, h5⟩
/-- the world in the search. -/
structure PW (w wr : World) (N : Nat) (A : Nat → Nat → Bool) (ba i : Nat) (S : Nat → Bool) : Prop where
  below : Below w.heap.size w wr
  a_ : GridAt wr ba N A
  g_ : GridAt wr w.heap.size N (pF A S i)
theorem PW.next {w wr wy : World} {N ba i : Nat} {A : Nat → Nat → Bool} {S : Nat → Bool} (h : PW w wr N A ba i S) (hb : Below wr.heap.size wr wy) : PW w wy N A ba i S :=
  ⟨below_next h.below hb, h.a_.below hb, h.g_.below hb⟩
theorem PW.set {w wr : World} {N ba i : Nat} {A : Nat → Nat → Bool} {S : Nat → Bool} (h : PW w wr N A ba i S) (hba : ba < w.heap.size) (k : Nat) (hi : i < 64) (hk : k < 64) :
    PW w (wr.setCell ⟨w.heap.size, 1 + i * 64 + k, none⟩ (.bool true)) N A ba i (fun c => if c = k then true else S c) := by
  refine ⟨below_st h.below (Nat.le_refl _) _, ?_, (h.g_.set i k hi hk true).congr fun x c _ _ => pF_set A S i k x c⟩
  exact h.a_.onto (Onto.refl.set (1 + i * 64 + k) (.bool true)) (by omega)
theorem PW.grown {w wr wy : World} {N ba i : Nat} {row : Option Nat} {A : Nat → Nat → Bool} {S : Nat → Bool} (h : PW w wr N A ba i S) (hba : ba < w.heap.size) (hg : wr.grownBy wy row) (hgg : ∀ g, row = some g → w.heap.size < g) : PW w wy N A ba i S := by
  have hb := h.below.grown hg h.below.size (fun k hk => Nat.le_of_lt (hgg k hk))
  have cel : ∀ b, b < wr.heap.size → b ≤ w.heap.size → wy.heap[b]? = wr.heap[b]? := fun b h1 h2 => hg.block b h1 (fun e => by have := hgg b e.symm; omega)
  have keep : ∀ {b f}, b < wr.heap.size → b ≤ w.heap.size → GridAt wr b N f → GridAt wy b N f := fun {b f} h1 h2 h3 =>
    ⟨by rw [← h3.n_]; simp [World.cell?, cel b h1 h2], fun i k hi hk => by rw [← h3.on_ i k hi hk]; simp [World.cell?, cel b h1 h2], fun j => by rw [← h3.z_ j]; simp [World.frozen?, cel b h1 h2]⟩
  exact ⟨hb, keep h.a_.lt (by omega) h.a_, keep h.g_.lt (by omega) h.g_⟩
theorem wp_letter {P : Program} {c : Code} {Q : Exit → Act → World → Prop} {a : Act} {wx : World} (R : World → Prop) (h : R wx) (k : ∀ wy, R wy → c.wp P Q a wy) : c.wp P Q a wx := k wx h
theorem uns_le (S : Nat → Bool) : ∀ n, uns S n ≤ n
  | 0 => Nat.le_refl _
  | n + 1 => by have := uns_le S n; unfold uns; split <;> omega
def nums (L : List Nat) : List Value := L.map fun (k : Nat) => Value.int .i64 (k : Int)
theorem nums_len (L : List Nat) : (nums L).length = L.length := by simp [nums]
theorem own_any {w : World} {B : Nat} {e : TypeId} {size n : Nat} {v : Value} {xs : List Value} (h : w.ownsRow B e size v n xs) : ∃ A5 cap, v = .slice A5 n cap := by
  rcases h.2 with ⟨h1, h0⟩ | ⟨g, cap, cur, h1, _⟩
  · exact ⟨none, 0, by rw [h1, h0]⟩
  · exact ⟨_, cap, h1⟩
set_option maxHeartbeats 4000000 in
theorem rplus_any (ba N : Nat) (A : Nat → Nat → Bool) (hN : N ≤ 64) (h0 : ∀ a c, N ≤ c → A a c = false) (h0r : ∀ a c, N ≤ a → A a c = false) (w : World) (hGa : GridAt w ba N A) :
    Calls Tryd.prog 23 #[.pointer (some ⟨ba, 0, none⟩)] w (GivesGrid w N (rchB A)) := by
  have HA := Lib.hid hGa
  have hla := hGa.lt
  have hna := hGa.n_
  have H0 := Lib.hid h0
  have H0r := Lib.hid h0r
  clear hGa h0 h0r
  obtain ⟨i0, hi0, hz0, hz1, hz2⟩ := info_parts info_int
  go_enter Tryd.func23, Tryd.ntmps23
  go_wp2_with (first
    | ((with_reducible refine wpList_grid rfl _ rfl N rfl ?_))
    | ((with_reducible refine wpList_boxg rfl _ rfl N rfl ?_)))
  have HP0 : Hid (PW w (w.alloc (.cells (gridC N) 28)) N A ba 0 (fun _ => false)) := Lib.hid ⟨below_al (Below.refl _ _) _, HA.out.below (below_al (Below.refl _ _) _), (grid_new w N).congr fun x c _ _ => by unfold pF; by_cases e : x = 0 <;> simp [e]⟩
  have hzA : w.heap.size < (w.alloc (.cells (gridC N) 28)).heap.size := by simp
  clear HA hna
  generalize w.alloc (.cells (gridC N) 28) = wA at *
  go_loopw [4] (fun v4 wr => ∃ i : Nat, i ≤ N ∧ v4 = .int .i64 i ∧ w.heap.size < wr.heap.size ∧ PW w wr N A ba i (fun _ => false)) (fun v4 _ => N - (intOf v4).toNat)
  case atStart => exact ⟨0, by omega, rfl, hzA, HP0.out⟩
  case round =>
    obtain ⟨i, hi, rfl, hzr, hp⟩ := hrel
    have HP := Lib.hid hp
    have hna := hp.a_.n_
    have hlr := hp.a_.lt
    clear hp HP0
    obtain ⟨w1, rfl⟩ : ∃ w1 : World, w1 = wr := ⟨_, rfl⟩
    by_cases hlt : (i : Int) < N
    · have hi64 : i < 64 := by omega
      have HOW0 : Hid ((w1.alloc (.cells #[.int .i64 i] 3)).ownsRow (w.heap.size + 1) 3 1 (.slice (some ⟨w1.heap.size, 0, none⟩) 1 1) 1 (nums [i])) := Lib.hid (World.ownsRow_lit w1 #[.int .i64 i] 1 (by omega) (by unfold maxLen; omega) rfl)
      have HP1 := Lib.hid (HP.out.next (below_al (Below.refl _ w1) (.cells #[.int .i64 i] 3)))
      have hu := uns_le (fun _ => false) N
      go_wp2_with fail
      go_loopg [5] (2 * uns (fun _ => false) N + 1) (fun gg v5 wr => ∃ (L : List Nat) (S : Nat → Bool), 2 * uns S N + L.length ≤ gg ∧ 2 * uns S N + L.length ≤ 129 ∧ DI A N i S L ∧ wr.ownsRow (w.heap.size + 1) 3 1 v5 L.length (nums L) ∧ w.heap.size < wr.heap.size ∧ PW w wr N A ba i S)
      case atStart => exact ⟨[i], fun _ => false, by simp, by simp; omega, DI.start A N i (by omega), HOW0.out, by simp; omega, HP1.out⟩
      case round =>
        obtain ⟨L, S, hgg, h129, hdi, hown, hz2', hp2⟩ := hrel
        have HDI := Lib.hid hdi
        have HOW := Lib.hid hown
        have HP2 := Lib.hid hp2
        have hna2 := hp2.a_.n_
        have hlr2 := hp2.a_.lt
        clear hdi hp2 HOW0 HP1
        obtain ⟨w2, rfl⟩ : ∃ w2 : World, w2 = wr := ⟨_, rfl⟩
        rcases List.eq_nil_or_concat L with rfl | ⟨L', j, rfl⟩
        · obtain ⟨A5, c5, rfl⟩ := own_any hown
          have HW := Lib.hid (HDI.out.whole H0.out)
          clear hown
          go_wp2_with fail
          go_roundw
          case rel => exact ⟨i + 1, by omega, by go_num, hz2', HP2.out.below, HP2.out.a_, HP2.out.g_.congr fun x c _ _ => pF_next A S i HW.out x c⟩
          case measure => simp [intOf]; omega
        · simp only [List.concat_eq_append] at *
          have hjr := HDI.out.rng j (by simp)
          obtain ⟨g, cap, rfl, hg1, hg2, hg3, hg4⟩ := own_form hown (by simp)
          have cj := hown.cellAt L'.length (by simp)
          rw [show (nums (L' ++ [j]))[L'.length]? = some (.int .i64 j) by simp [nums]] at cj
          simp only [List.length_append, List.length_cons, List.length_nil, Nat.zero_add] at hgg h129 HOW hg3 ⊢
          rw [show nums (L' ++ [j]) = nums L' ++ [.int .i64 j] by simp [nums]] at HOW
          have HOP := Lib.hid (own_pop HOW.out)
          have HDJ := Lib.hid HDI.out.pop
          have hj64 : j < 64 := by omega
          clear hown HOW HDI
          obtain ⟨G, hG⟩ : ∃ G, G = 2 * uns S N + L'.length := ⟨_, rfl⟩
          have hG1 : 2 * uns S N + L'.length ≤ G := by omega
          have hG2 : G < gk := by omega
          have hG3 : G ≤ 129 := by omega
          clear hG hgg h129
          have hLe : Hid (nums L' = nums L') := Lib.hid rfl
          generalize hn : L'.length = n at *
          have hn129 : n ≤ 129 := by omega
          replace hn := Lib.hid hn
          go_wp2_with fail
          go_loopw [5, 7] (fun v5 v7 wr => ∃ (k : Nat) (L : List Nat) (S : Nat → Bool), k ≤ N ∧ v7 = .int .i64 k ∧ 2 * uns S N + L.length ≤ G ∧ DJ A N i j k S L ∧ wr.ownsRow (w.heap.size + 1) 3 1 v5 L.length (nums L) ∧ w.heap.size < wr.heap.size ∧ PW w wr N A ba i S) (fun _ v7 _ => N - (intOf v7).toNat)
          case atStart => exact ⟨0, L', S, by omega, rfl, by rw [hn.out]; exact hG1, HDJ.out, by rw [hn.out]; exact HOP.out, hz2', HP2.out⟩
          case round =>
            obtain ⟨k, L, S', hk, rfl, hpot, hdj, hown, hz3, hp3⟩ := hrel
            have HD := Lib.hid hdj
            have HOW := Lib.hid hown
            have HP3 := Lib.hid hp3
            have hna3 := hp3.a_.n_
            have hlr3 := hp3.a_.lt
            clear hdj HDJ HOP HP2 hLe
            by_cases hltk : (k : Int) < N
            · have hk64 : k < 64 := by omega
              have a1 := hp3.a_.on_ j k hj64 hk64
              have d1 := hp3.g_.on_ i k hi64 hk64
              have z1 := hp3.g_.z_ (1 + i * 64 + k)
              rw [show pF A S' i i k = S' k by simp [pF]] at d1
              clear hp3 hown
              cases hA : A j k with
              | false =>
                rw [hA] at a1
                have HS := Lib.hid (HD.out.stay (.inl hA))
                clear hA d1 z1
                go_wp2_with fail
                go_roundw
                case rel => exact ⟨k + 1, L, S', by omega, by go_num, hpot, HS.out, HOW.out, hz3, HP3.out⟩
                case measure => simp [intOf]; omega
              | true =>
                rw [hA] at a1
                cases hS : S' k with
                | true =>
                  rw [hS] at d1
                  have HS := Lib.hid (HD.out.stay (.inr hS))
                  clear hA hS z1
                  go_wp2_with fail
                  go_roundw
                  case rel => exact ⟨k + 1, L, S', by omega, by go_num, hpot, HS.out, HOW.out, hz3, HP3.out⟩
                  case measure => simp [intOf]; omega
                | false =>
                  rw [hS] at d1
                  have HS := Lib.hid (HD.out.push (by omega) hA)
                  have hun := uns_set S' k hS N (by omega)
                  clear hA hS
                  go_upto_region 14 with fail
                  refine wp_letter (R := fun W => PW w W N A ba i (fun c => if c = k then true else S' c) ∧ W.ownsRow (w.heap.size + 1) 3 1 u5 L.length (nums L) ∧ w.heap.size < W.heap.size) ⟨HP3.out.set hla k hi64 hk64, own_keep' HOW.out (fun g h1 h2 => heap_set_other _ _ _ _ _ (by omega)), by simpa using hz3⟩ ?_
                  rintro w4 ⟨hp4, how4, hz4⟩
                  have HP4 := Lib.hid hp4
                  have HOW4 := Lib.hid how4
                  have hL : L.length ≤ 129 := by omega
                  clear hp4 how4 HP3 HOW a1 d1 z1 hna3 hlr3
                  go_wp2_with (at_builtin; refine wpList_append_own _ rfl _ _ 55 rfl (w.heap.size + 1) 3 i0 (.int .i64 0) 1 8 Tryd.underlying55 hi0 hz0 hz1 hz2 rfl (by decide) _ _ _ rfl (HOW4.out.alloc _) ⟨w4.heap.size, 0, none⟩ 1 1 [.int .i64 k] rfl rfl (cell_one_new _ _ _) (ints_oneCell .i64 [(k : Int)]) (by unfold maxLen; omega) (by omega) (by simp; omega) ?_; intro v' w' own grow hnil; go_frame)
                  have HP5 := Lib.hid ((HP4.out.next (below_al (Below.refl _ w4) (.cells #[.int .i64 k] 3))).grown hla grow (fun g hg => (HOW4.out.lt g hg).1))
                  have hz5 := grow.size
                  simp at hz5
                  have HOW5 : Hid (w'.ownsRow (w.heap.size + 1) 3 1 v' (L ++ [k]).length (nums (L ++ [k]))) := Lib.hid (by
                    rw [show nums (L ++ [k]) = nums L ++ [.int .i64 k] by simp [nums], show (L ++ [k]).length = L.length + 1 by simp]
                    exact own)
                  clear own grow hnil
                  go_roundw
                  case rel => exact ⟨k + 1, L ++ [k], fun c => if c = k then true else S' c, by omega, by go_num, by rw [List.length_append]; show 2 * uns _ N + (L.length + 1) ≤ G; omega, HS.out, HOW5.out, by omega, HP5.out⟩
                  case measure => simp [intOf]; omega
            · obtain rfl : k = N := by omega
              have HS := Lib.hid HD.out.all
              clear hp3 hown
              go_wp2_with fail
              go_roundg (2 * uns S' k + L.length)
              case measure => omega
              case rel => exact ⟨L, S', Nat.le_refl _, by omega, HS.out, HOW.out, hz3, HP3.out⟩
    · obtain rfl : i = N := by omega
      go_wp2_with fail
      go_ret
      exact ⟨w.heap.size, rfl, more_of_below HP.out.below, Nat.le_refl _, HP.out.g_.congr fun x c _ _ => by
        unfold pF
        by_cases e : x < i
        · simp [e]
        · have : rchB A x c = false := by
            rw [Bool.eq_false_iff]
            intro h
            obtain ⟨t, ht⟩ := rch_row (rchB_iff.1 h)
            rw [H0r.out x t (by omega)] at ht
            cases ht
          simp [e, this]⟩
end Go.Proofs.YtgghhbjaokgeeaaDoor
