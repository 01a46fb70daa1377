/- Walk: the types in a type. Condition: what came in lies in memory. -/
import Derived.Test.YtjioinmiglblmaaKindLaws
import Derived.Test.YtjioinmiglblmaaKindTurnMath
import Derived.Test.YtjioinmiglblmaaKindLay
import Derived.Deep.RegionLawGrows
import Derived.Deep.AppendLies
import Derived.Lib.SmallJoins
namespace Go.Proofs.Ytjioinmiglblmaa
open Go.RowKit Go.Sort
set_option linter.unusedVariables false
set_option linter.unusedSimpArgs false
theorem own_caps {W : World} {base g n cap : Nat} {xs : List Value} (h : W.ownsRow base 49 9 (.slice (some ⟨g, 0, none⟩) n cap) n xs) (hn : 0 < n) : n ≤ cap ∧ cap ≤ 9223372036854775807 ∧ base ≤ g ∧ g < W.heap.size := by
  rcases h.2 with ⟨h, _⟩ | ⟨g', cap', cur, hv, hb, hh, h1, h2, _⟩
  · cases h
  · cases hv
    refine ⟨h1, by unfold maxLen at h2; omega, hb, ?_⟩
    rcases Nat.lt_or_ge g W.heap.size with h | h
    · exact h
    · rw [Array.getElem?_eq_none h] at hh; cases hh
theorem turned_at {w w2 W : World} {n : Nat} {t : TyF (Ty n)} {b off fc : Nat} {ea : Option Addr} {ec base g2 m cap2 c : Nat} {L : List Value}
    (hT : TyAt w (n + 1) t ⟨t.kind, t.size, t.packed, some ⟨b, off, none⟩, t.fields.length, fc, t.count, ea, t.elem.length, ec⟩) (l1 : L.length = 9 * t.fields.length) (l4 : LayOf w n t.fields L) (hc : c ≤ t.fields.length) (hm : m = t.fields.length)
    (hown : w2.ownsRow base 49 9 (.slice (some ⟨g2, 0, none⟩) m cap2) m ([] ++ L.drop (9 * c) ++ L.take (9 * c))) (hk : ∀ o, W.cell? ⟨g2, o, none⟩ = w2.cell? ⟨g2, o, none⟩) (hb : Below w.heap.size w W) (hg : g2 < W.heap.size) :
    TyAt W (n + 1) { t with fields := t.fields.drop c ++ t.fields.take c } ⟨t.kind, t.size, t.packed, some ⟨g2, 0, none⟩, t.fields.length, cap2, t.count, ea, t.elem.length, ec⟩ := by
  have hT2 := hT.below hb
  obtain ⟨e1, e2, e3, e4, e5, e6, e7, e8, e9, hf, he⟩ := hT2
  have hl : (t.fields.drop c ++ t.fields.take c).length = t.fields.length := by rw [List.length_append, List.length_drop, List.length_take]; omega
  subst hm
  refine ⟨rfl, rfl, rfl, hl.symm, rfl, rfl, e7, e8, e9, ?_, he⟩
  by_cases h0 : 0 < t.fields.length
  · obtain ⟨c1, c2, c3, c4⟩ := own_caps hown h0
    refine ⟨c1, c2, fun _ => ⟨g2, 0, rfl, hg, ?_⟩⟩
    refine (l4.turn l1 c hc).at (fun t q h => h.below hb) (fun j hj => ?_)
    rw [hk, hown.cellAt j (by rw [hl] at hj; omega)]
    rw [List.nil_append]
  · rcases hown.2 with ⟨h, _⟩ | ⟨g', cap', cur, hv, hbb, hh, h1, h2, _⟩
    · cases h
    · cases hv
      exact ⟨h1, by unfold maxLen at h2; omega, fun h => absurd h h0⟩
theorem take_get {L : List Value} {m j : Nat} {u : Value} (h : (L.take m)[j]? = some u) : L[j]? = some u := by
  rw [List.getElem?_take] at h
  split at h
  · exact h
  · cases h
set_option maxRecDepth 100000 in
set_option maxHeartbeats 4000000 in
theorem kindParts_walk (n : Nat) (t : TyF (Ty n)) (r : Raw) (x : Nat) (hx : x < 256) (w : World) (hT : TyAt w (n + 1) t r) : Calls Try.prog 11 #[r.val, .int .u8 x] w fun e w' => e = .returned (.bool true) ∧ Below w.heap.size w w' := by
  have A := Lib.hid awake_any
  have hl := hT.len
  have S1 := Lib.hid (fun W (hW : Below w.heap.size w W) => Sound_any (n + 1) t r W (hT.below hW))
  have D1 := Lib.hid (fun W (hW : Below w.heap.size w W) => Depth_any (n + 1) t r W (hT.below hW))
  have hdr := depthF_rng (n + 1) t 65 (by omega)
  have HT := Lib.hid hT
  obtain ⟨e1, e2, e3, e4, e5, e6, e7, e8, e9, hf, he⟩ := hT
  obtain ⟨rk, rs, rp, fa, fl, fc, rc, ea, el, ec⟩ := r
  simp only at e1 e2 e3 e4 e5 e6 hf he
  subst e1 e2 e3 e4 e5 e6
  unfold Raw.val at S1 D1 ⊢
  simp only at S1 D1 ⊢
  generalize hD : depthF (n + 1) t 65 = d at D1 hdr
  have HD := Lib.hid hD
  clear hD
  by_cases hs : SoundF (n + 1) t = 0
  · obtain ⟨P1, P2⟩ := Sound_parts hs
    have HP1 := Lib.hid P1
    have HP2 := Lib.hid P2
    have HS := Lib.hid hs
    have HF := Lib.hid hf.2.2
    have HE := Lib.hid he.2.2
    have hfc := hf.1
    have hfm := hf.2.1
    have hec := he.1
    have hem := he.2.1
    rw [hs] at S1
    clear hf he hs P1 P2 e7 e8 e9
    go_enter Try.func11, Try.ntmps11
    go_wp2_with (first
      | (go_at_call 22; refine (S1.out _ (by repeat (first | exact Below.refl _ _ | refine below_mo ?_ _ | refine below_al ?_ _))).mono ?_; rintro e w1 ⟨rfl, p1, rfl⟩))
    go_loopw [5] (fun i wr => ∃ k : Nat, k ≤ t.fields.length ∧ i = .int .i64 k ∧ ∃ p : Regrown, wr = more (w.alloc (.cells #[.int .i64 t.kind, .int .i64 t.size, .bool t.packed, .slice fa t.fields.length fc, .int .i64 t.count, .slice ea t.elem.length ec] 41)) p) (fun i _ => t.fields.length - (intOf i).toNat)
    case atStart => exact ⟨0, by omega, rfl, more_of_below (by repeat (first | exact Below.refl _ _ | refine below_mo ?_ _ | refine below_al ?_ _))⟩
    case round =>
      obtain ⟨k, hk, rfl, p, rfl⟩ := hrel
      by_cases hlt : (k : Int) < t.fields.length
      · obtain ⟨b, off, rfl, hb, hc⟩ := HF.out (by omega)
        obtain ⟨f, hfk⟩ := get_some t.fields k (by omega)
        obtain ⟨q, hq, g1, g2, c0, c1, c2, c3, c4, c5, c6, c7, c8⟩ := hc k f hfk
        have SF := Lib.hid (fun W (hW : Below w.heap.size w W) => (HP1.out k f hfk) ▸ Sound_any n f.type q W (hq.below hW))
        obtain ⟨qk, qs, qp, qfa, qfl, qfc, qc, qea, qel, qec⟩ := q
        simp only at c1 c2 c3 c4 c5 c6
        clear hc hq hfk
        unfold Raw.val at SF
        simp only at SF
        go_wp2_with (first
          | (go_at_call 22; refine (SF.out _ (by repeat (first | exact Below.refl _ _ | refine below_mo ?_ _ | refine below_al ?_ _))).mono ?_; rintro e w1 ⟨rfl, p2, rfl⟩))
        go_roundw
        case rel => exact ⟨k + 1, by omega, by go_num, more_of_below (by repeat (first | exact Below.refl _ _ | refine below_mo ?_ _ | refine below_al ?_ _))⟩
        case measure => simp [intOf]; omega
      · go_wp2_with fail
        go_loopw [6] (fun i wr => ∃ k : Nat, k ≤ t.elem.length ∧ i = .int .i64 k ∧ ∃ p : Regrown, wr = more (w.alloc (.cells #[.int .i64 t.kind, .int .i64 t.size, .bool t.packed, .slice fa t.fields.length fc, .int .i64 t.count, .slice ea t.elem.length ec] 41)) p) (fun i _ => t.elem.length - (intOf i).toNat)
        case atStart => exact ⟨0, by omega, rfl, more_of_below (by repeat (first | exact Below.refl _ _ | refine below_mo ?_ _ | refine below_al ?_ _))⟩
        case round =>
          obtain ⟨j, hj, rfl, p3, rfl⟩ := hrel
          by_cases hlt2 : (j : Int) < t.elem.length
          · obtain ⟨b, off, rfl, hb, hc⟩ := HE.out (by omega)
            obtain ⟨f, hfk⟩ := get_some t.elem j (by omega)
            obtain ⟨q, hq, c0, c1, c2, c3, c4, c5⟩ := hc j f hfk
            have SF := Lib.hid (fun W (hW : Below w.heap.size w W) => (HP2.out j f hfk) ▸ Sound_any n f q W (hq.below hW))
            obtain ⟨qk, qs, qp, qfa, qfl, qfc, qc, qea, qel, qec⟩ := q
            simp only at c0 c1 c2 c3 c4 c5
            clear hc hq hfk
            unfold Raw.val at SF
            simp only at SF
            go_wp2_with (first
              | (go_at_call 22; refine (SF.out _ (by repeat (first | exact Below.refl _ _ | refine below_mo ?_ _ | refine below_al ?_ _))).mono ?_; rintro e w1 ⟨rfl, p2, rfl⟩))
            go_roundw
            case rel => exact ⟨j + 1, by omega, by go_num, more_of_below (by repeat (first | exact Below.refl _ _ | refine below_mo ?_ _ | refine below_al ?_ _))⟩
            case measure => simp [intOf]; omega
          · by_cases h0 : (0 : Int) < t.fields.length
            · go_wp2_with fail
              obtain ⟨b, off, rfl, hb, hc⟩ := HF.out (by omega)
              obtain ⟨hk0, hk1⟩ : 0 ≤ (x : Int) % t.fields.length ∧ (x : Int) % t.fields.length < t.fields.length := ⟨Int.emod_nonneg _ (by omega), Int.emod_lt_of_pos _ h0⟩
              obtain ⟨c, hcx⟩ : ∃ c : Nat, (x : Int) % t.fields.length = c := ⟨((x : Int) % t.fields.length).toNat, by omega⟩
              rw [hcx] at hk0 hk1 ⊢
              have z1 : w.heap.size < w.heap.size + 1 + p3.os.size + 1 := by omega
              have z2 : w.heap.size < w.heap.size + 1 + p3.os.size := by omega
              have z3 : (c : Int) ≤ t.fields.length := by omega
              have z4 : (t.fields.length : Int) ≤ fc := by omega
              have z5 : (c : Int) ≤ fc := by omega
              have z6 : (0 : Int) ≤ c := by omega
              -- MARK A
              have z7 : ¬ fc = c := by omega
              obtain ⟨L, l1, l2, l3, l4⟩ := lay_of t.fields b off hc
              have hfew := sound_few (t := t) HS.out
              have hbw : Below w.heap.size w (((more (w.alloc (.cells #[.int .i64 t.kind, .int .i64 t.size, .bool t.packed, .slice (some ⟨b, off, none⟩) t.fields.length fc, .int .i64 t.count, .slice ea t.elem.length ec] 41)) p3).alloc (.cells #[.int .i64 t.kind, .int .i64 t.size, .bool t.packed, .slice (some ⟨b, off, none⟩) t.fields.length fc, .int .i64 t.count, .slice ea t.elem.length ec] 41)).alloc (.cells #[] 49)).drew := by repeat (first | exact Below.refl _ _ | refine below_dr ?_ | refine below_mo ?_ _ | refine below_al ?_ _)
              have v0 : (((more (w.alloc (.cells #[.int .i64 t.kind, .int .i64 t.size, .bool t.packed, .slice (some ⟨b, off, none⟩) t.fields.length fc, .int .i64 t.count, .slice ea t.elem.length ec] 41)) p3).alloc (.cells #[.int .i64 t.kind, .int .i64 t.size, .bool t.packed, .slice (some ⟨b, off, none⟩) t.fields.length fc, .int .i64 t.count, .slice ea t.elem.length ec] 41)).alloc (.cells #[] 49)).drew.cell? ⟨w.heap.size + 1 + p3.os.size, 0, none⟩ = some (.int .i64 t.kind) := by simp [go_sem, ↓IntWalk.iteOmega] <;> (intros; omega)
              have v1 : (((more (w.alloc (.cells #[.int .i64 t.kind, .int .i64 t.size, .bool t.packed, .slice (some ⟨b, off, none⟩) t.fields.length fc, .int .i64 t.count, .slice ea t.elem.length ec] 41)) p3).alloc (.cells #[.int .i64 t.kind, .int .i64 t.size, .bool t.packed, .slice (some ⟨b, off, none⟩) t.fields.length fc, .int .i64 t.count, .slice ea t.elem.length ec] 41)).alloc (.cells #[] 49)).drew.cell? ⟨w.heap.size + 1 + p3.os.size, 1, none⟩ = some (.int .i64 t.size) := by simp [go_sem, ↓IntWalk.iteOmega] <;> (intros; omega)
              have v2 : (((more (w.alloc (.cells #[.int .i64 t.kind, .int .i64 t.size, .bool t.packed, .slice (some ⟨b, off, none⟩) t.fields.length fc, .int .i64 t.count, .slice ea t.elem.length ec] 41)) p3).alloc (.cells #[.int .i64 t.kind, .int .i64 t.size, .bool t.packed, .slice (some ⟨b, off, none⟩) t.fields.length fc, .int .i64 t.count, .slice ea t.elem.length ec] 41)).alloc (.cells #[] 49)).drew.cell? ⟨w.heap.size + 1 + p3.os.size, 2, none⟩ = some (.bool t.packed) := by simp [go_sem, ↓IntWalk.iteOmega] <;> (intros; omega)
              have v3 : (((more (w.alloc (.cells #[.int .i64 t.kind, .int .i64 t.size, .bool t.packed, .slice (some ⟨b, off, none⟩) t.fields.length fc, .int .i64 t.count, .slice ea t.elem.length ec] 41)) p3).alloc (.cells #[.int .i64 t.kind, .int .i64 t.size, .bool t.packed, .slice (some ⟨b, off, none⟩) t.fields.length fc, .int .i64 t.count, .slice ea t.elem.length ec] 41)).alloc (.cells #[] 49)).drew.cell? ⟨w.heap.size + 1 + p3.os.size, 3, none⟩ = some (.slice (some ⟨b, off, none⟩) t.fields.length fc) := by simp [go_sem, ↓IntWalk.iteOmega] <;> (intros; omega)
              have v4 : (((more (w.alloc (.cells #[.int .i64 t.kind, .int .i64 t.size, .bool t.packed, .slice (some ⟨b, off, none⟩) t.fields.length fc, .int .i64 t.count, .slice ea t.elem.length ec] 41)) p3).alloc (.cells #[.int .i64 t.kind, .int .i64 t.size, .bool t.packed, .slice (some ⟨b, off, none⟩) t.fields.length fc, .int .i64 t.count, .slice ea t.elem.length ec] 41)).alloc (.cells #[] 49)).drew.cell? ⟨w.heap.size + 1 + p3.os.size, 4, none⟩ = some (.int .i64 t.count) := by simp [go_sem, ↓IntWalk.iteOmega] <;> (intros; omega)
              have v5 : (((more (w.alloc (.cells #[.int .i64 t.kind, .int .i64 t.size, .bool t.packed, .slice (some ⟨b, off, none⟩) t.fields.length fc, .int .i64 t.count, .slice ea t.elem.length ec] 41)) p3).alloc (.cells #[.int .i64 t.kind, .int .i64 t.size, .bool t.packed, .slice (some ⟨b, off, none⟩) t.fields.length fc, .int .i64 t.count, .slice ea t.elem.length ec] 41)).alloc (.cells #[] 49)).drew.cell? ⟨w.heap.size + 1 + p3.os.size, 5, none⟩ = some (.slice ea t.elem.length ec) := by simp [go_sem, ↓IntWalk.iteOmega] <;> (intros; omega)
              have v6 : (((more (w.alloc (.cells #[.int .i64 t.kind, .int .i64 t.size, .bool t.packed, .slice (some ⟨b, off, none⟩) t.fields.length fc, .int .i64 t.count, .slice ea t.elem.length ec] 41)) p3).alloc (.cells #[.int .i64 t.kind, .int .i64 t.size, .bool t.packed, .slice (some ⟨b, off, none⟩) t.fields.length fc, .int .i64 t.count, .slice ea t.elem.length ec] 41)).alloc (.cells #[] 49)).drew.cell? ⟨w.heap.size, 0, none⟩ = some (.int .i64 t.kind) := by simp [go_sem, ↓IntWalk.iteOmega] <;> (intros; omega)
              have v7 : (((more (w.alloc (.cells #[.int .i64 t.kind, .int .i64 t.size, .bool t.packed, .slice (some ⟨b, off, none⟩) t.fields.length fc, .int .i64 t.count, .slice ea t.elem.length ec] 41)) p3).alloc (.cells #[.int .i64 t.kind, .int .i64 t.size, .bool t.packed, .slice (some ⟨b, off, none⟩) t.fields.length fc, .int .i64 t.count, .slice ea t.elem.length ec] 41)).alloc (.cells #[] 49)).drew.cell? ⟨w.heap.size, 1, none⟩ = some (.int .i64 t.size) := by simp [go_sem, ↓IntWalk.iteOmega] <;> (intros; omega)
              have v8 : (((more (w.alloc (.cells #[.int .i64 t.kind, .int .i64 t.size, .bool t.packed, .slice (some ⟨b, off, none⟩) t.fields.length fc, .int .i64 t.count, .slice ea t.elem.length ec] 41)) p3).alloc (.cells #[.int .i64 t.kind, .int .i64 t.size, .bool t.packed, .slice (some ⟨b, off, none⟩) t.fields.length fc, .int .i64 t.count, .slice ea t.elem.length ec] 41)).alloc (.cells #[] 49)).drew.cell? ⟨w.heap.size, 2, none⟩ = some (.bool t.packed) := by simp [go_sem, ↓IntWalk.iteOmega] <;> (intros; omega)
              have v9 : (((more (w.alloc (.cells #[.int .i64 t.kind, .int .i64 t.size, .bool t.packed, .slice (some ⟨b, off, none⟩) t.fields.length fc, .int .i64 t.count, .slice ea t.elem.length ec] 41)) p3).alloc (.cells #[.int .i64 t.kind, .int .i64 t.size, .bool t.packed, .slice (some ⟨b, off, none⟩) t.fields.length fc, .int .i64 t.count, .slice ea t.elem.length ec] 41)).alloc (.cells #[] 49)).drew.cell? ⟨w.heap.size, 3, none⟩ = some (.slice (some ⟨b, off, none⟩) t.fields.length fc) := by simp [go_sem, ↓IntWalk.iteOmega] <;> (intros; omega)
              have v10 : (((more (w.alloc (.cells #[.int .i64 t.kind, .int .i64 t.size, .bool t.packed, .slice (some ⟨b, off, none⟩) t.fields.length fc, .int .i64 t.count, .slice ea t.elem.length ec] 41)) p3).alloc (.cells #[.int .i64 t.kind, .int .i64 t.size, .bool t.packed, .slice (some ⟨b, off, none⟩) t.fields.length fc, .int .i64 t.count, .slice ea t.elem.length ec] 41)).alloc (.cells #[] 49)).drew.cell? ⟨w.heap.size, 4, none⟩ = some (.int .i64 t.count) := by simp [go_sem, ↓IntWalk.iteOmega] <;> (intros; omega)
              have v11 : (((more (w.alloc (.cells #[.int .i64 t.kind, .int .i64 t.size, .bool t.packed, .slice (some ⟨b, off, none⟩) t.fields.length fc, .int .i64 t.count, .slice ea t.elem.length ec] 41)) p3).alloc (.cells #[.int .i64 t.kind, .int .i64 t.size, .bool t.packed, .slice (some ⟨b, off, none⟩) t.fields.length fc, .int .i64 t.count, .slice ea t.elem.length ec] 41)).alloc (.cells #[] 49)).drew.cell? ⟨w.heap.size, 5, none⟩ = some (.slice ea t.elem.length ec) := by simp [go_sem, ↓IntWalk.iteOmega] <;> (intros; omega)
              have v12 : (((more (w.alloc (.cells #[.int .i64 t.kind, .int .i64 t.size, .bool t.packed, .slice (some ⟨b, off, none⟩) t.fields.length fc, .int .i64 t.count, .slice ea t.elem.length ec] 41)) p3).alloc (.cells #[.int .i64 t.kind, .int .i64 t.size, .bool t.packed, .slice (some ⟨b, off, none⟩) t.fields.length fc, .int .i64 t.count, .slice ea t.elem.length ec] 41)).alloc (.cells #[] 49)).drew.frozen? ⟨w.heap.size + 1 + p3.os.size, 3, none⟩ = false := by simp [go_sem, ↓IntWalk.iteOmega] <;> (intros; omega)
              have v13 : (((more (w.alloc (.cells #[.int .i64 t.kind, .int .i64 t.size, .bool t.packed, .slice (some ⟨b, off, none⟩) t.fields.length fc, .int .i64 t.count, .slice ea t.elem.length ec] 41)) p3).alloc (.cells #[.int .i64 t.kind, .int .i64 t.size, .bool t.packed, .slice (some ⟨b, off, none⟩) t.fields.length fc, .int .i64 t.count, .slice ea t.elem.length ec] 41)).alloc (.cells #[] 49)).drew.heap.size = w.heap.size + 1 + p3.os.size + 1 + 1 := by simp [go_sem, ↓IntWalk.iteOmega] <;> (intros; omega)
              have hown : (((more (w.alloc (.cells #[.int .i64 t.kind, .int .i64 t.size, .bool t.packed, .slice (some ⟨b, off, none⟩) t.fields.length fc, .int .i64 t.count, .slice ea t.elem.length ec] 41)) p3).alloc (.cells #[.int .i64 t.kind, .int .i64 t.size, .bool t.packed, .slice (some ⟨b, off, none⟩) t.fields.length fc, .int .i64 t.count, .slice ea t.elem.length ec] 41)).alloc (.cells #[] 49)).drew.ownsRow (w.heap.size + 1 + p3.os.size + 1) 49 9 (.slice (some ⟨w.heap.size + 1 + p3.os.size + 1, 0, none⟩) 0 0) 0 [] := by
                have h := World.ownsRow_lit (base := w.heap.size + 1 + p3.os.size + 1) (e := 49) (size := 9) ((more (w.alloc (.cells #[.int .i64 t.kind, .int .i64 t.size, .bool t.packed, .slice (some ⟨b, off, none⟩) t.fields.length fc, .int .i64 t.count, .slice ea t.elem.length ec] 41)) p3).alloc (.cells #[.int .i64 t.kind, .int .i64 t.size, .bool t.packed, .slice (some ⟨b, off, none⟩) t.fields.length fc, .int .i64 t.count, .slice ea t.elem.length ec] 41)) #[] 0 (by simp [go_sem]) (by simp [maxLen]) rfl
                simp [go_sem] at h
                exact h.drew
              have hL : ∀ (j : Nat) (u : Value), (L.drop (9 * c))[j]? = some u → (((more (w.alloc (.cells #[.int .i64 t.kind, .int .i64 t.size, .bool t.packed, .slice (some ⟨b, off, none⟩) t.fields.length fc, .int .i64 t.count, .slice ea t.elem.length ec] 41)) p3).alloc (.cells #[.int .i64 t.kind, .int .i64 t.size, .bool t.packed, .slice (some ⟨b, off, none⟩) t.fields.length fc, .int .i64 t.count, .slice ea t.elem.length ec] 41)).alloc (.cells #[] 49)).drew.cell? ((⟨b, off + c * 9, none⟩ : Addr).add j) = some u := by
                intro j u hj
                rw [List.getElem?_drop] at hj
                have h1 := l3 _ u hj
                rw [WideShapes.add_plain, (show off + c * 9 + j = off + (9 * c + j) by omega)]
                exact (hbw.cell (p := ⟨b, off + (9 * c + j), none⟩) hb).trans h1
              have HV := Lib.hid (And.intro hbw (And.intro hown (And.intro hL (And.intro v0 (And.intro v1 (And.intro v2 (And.intro v3 (And.intro v4 (And.intro v5 (And.intro v6 (And.intro v7 (And.intro v8 (And.intro v9 (And.intro v10 (And.intro v11 (And.intro v12 v13))))))))))))))))
              have HL4 := Lib.hid l4
              have HL3 := Lib.hid l3
              clear hbw hown hL l4 l3 hc v0 v1 v2 v3 v4 v5 v6 v7 v8 v9 v10 v11 v12 v13
              have b1 : 0 + (t.fields.length - c) + c ≤ maxLen := by unfold maxLen; omega
              have b2 : (0 + (t.fields.length - c) + c) * 112 ≤ 140737488355328 := by omega
              have b3 : (0 + (t.fields.length - c)) * 112 ≤ 140737488355328 := by omega
              have b4 : 0 + (t.fields.length - c) ≤ maxLen := by unfold maxLen; omega
              obtain ⟨i0, hi0, hz0, hz1, hz2⟩ := info_parts fd_info
              go_region_law (first
                | (refine step_append_some rfl (.tmp 53) (.tmp 57) 38 rfl (w.heap.size + 1 + p3.os.size + 1) 49 i0 _ 9 112 Try.underlying38 hi0 hz0 hz1 hz2 rfl (by decide) (.slice (some ⟨w.heap.size + 1 + p3.os.size + 1, 0, none⟩) 0 0) 0 [] (by simp [Act.eval, Act.put]) HV.out.2.1 ⟨b, off + c * 9, none⟩ (t.fields.length - c) (fc - c) (L.drop (9 * c)) (by simp [Act.eval, Act.put, z7]) (by rw [List.length_drop, l1]; omega) HV.out.2.2.1 (fun u hu => l2 u (List.mem_of_mem_drop hu)) (by omega) b4 b3 (by rw [HV.out.2.2.2.2.2.2.2.2.2.2.2.2.2.2.2.2]; omega) ?_; intro g cap w1 hown1 hgrow1 hat1 hlt1; obtain ⟨eb, eo, eL, e0, e1, e2, e3, e4, e5, e6, e7, e8, e9, e10, e11, e12, e13⟩ := HV.out; have ku := own_keep eo hgrow1 (b := w.heap.size + 1 + p3.os.size) (by omega) (by rw [e13]; omega); have kt := own_keep eo hgrow1 (b := w.heap.size) (by omega) (by rw [e13]; omega); have k0 := (ku.1 0).trans e0; have k1 := (ku.1 1).trans e1; have k2 := (ku.1 2).trans e2; have k3 := (ku.1 3).trans e3; have k4 := (ku.1 4).trans e4; have k5 := (ku.1 5).trans e5; have k6 := (kt.1 0).trans e6; have k7 := (kt.1 1).trans e7; have k8 := (kt.1 2).trans e8; have k9 := (kt.1 3).trans e9; have k10 := (kt.1 4).trans e10; have k11 := (kt.1 5).trans e11; have k12 := (ku.2 3).trans e12; have HB1 := Lib.hid (own_below eb eo hgrow1 (by omega)); have hs1 := hgrow1.size; rw [e13] at hs1; clear ku kt eb eo eL e0 e1 e2 e3 e4 e5 e6 e7 e8 e9 e10 e11 e12 e13 hgrow1 hat1)
                | (refine step_append_some rfl (.tmp 58) (.tmp 62) 38 rfl (w.heap.size + 1 + p3.os.size + 1) 49 i0 _ 9 112 Try.underlying38 hi0 hz0 hz1 hz2 rfl (by decide) (.slice (some ⟨g, 0, none⟩) (0 + (t.fields.length - c)) cap) (0 + (t.fields.length - c)) ([] ++ L.drop (9 * c)) (by simp [Act.eval, Act.put]) (by exact hown1) ⟨b, off, none⟩ c fc (L.take (9 * c)) (by simp [Act.eval, Act.put]) (by rw [List.length_take, l1]; omega) (fun j u hj => by rw [WideShapes.add_plain]; exact (HB1.out.cell (p := ⟨b, off + j, none⟩) hb).trans (HL3.out _ u (take_get hj))) (fun u hu => l2 u (List.mem_of_mem_take hu)) (by omega) b1 b2 (by omega) ?_; intro g2 cap2 w2 hown2 hgrow2 hat2 hlt2; have ku := own_keep hown1 hgrow2 (b := w.heap.size + 1 + p3.os.size) (by omega) (by omega); have kt := own_keep hown1 hgrow2 (b := w.heap.size) (by omega) (by omega); have m0 := (ku.1 0).trans k0; have m1 := (ku.1 1).trans k1; have m2 := (ku.1 2).trans k2; have m3 := (ku.1 3).trans k3; have m4 := (ku.1 4).trans k4; have m5 := (ku.1 5).trans k5; have m6 := (kt.1 0).trans k6; have m7 := (kt.1 1).trans k7; have m8 := (kt.1 2).trans k8; have m9 := (kt.1 3).trans k9; have m10 := (kt.1 4).trans k10; have m11 := (kt.1 5).trans k11; have m12 := (ku.2 3).trans k12; have HB2 := Lib.hid (own_below HB1.out hown1 hgrow2 (by omega)); have hs2 := hgrow2.size; have HO2 := Lib.hid hown2; clear ku kt k0 k1 k2 k3 k4 k5 k6 k7 k8 k9 k10 k11 k12 hown1 hgrow2 hown2 hat2))
              -- MARK B
              all_goals
                have hq : t.fields.length - c + c = t.fields.length := by omega
                have hq2 : 0 + (t.fields.length - c) + c = t.fields.length := by omega
                rw [hq]
                have hcp := own_caps HO2.out (by omega)
                rw [hq2] at hcp
                obtain ⟨p1', p2', p3', p4'⟩ := hcp
                generalize hW3 : w2.setCell ⟨w.heap.size + 1 + p3.os.size, 3, none⟩ (.slice (some ⟨g2, 0, none⟩) t.fields.length cap2) = W3
                have hne : ¬ g2 = w.heap.size + 1 + p3.os.size := by omega
                have q0 : W3.cell? ⟨w.heap.size + 1 + p3.os.size, 0, none⟩ = some (.int .i64 t.kind) := by rw [← hW3, cell_upd, if_neg (by omega)]; exact m0
                have q1 : W3.cell? ⟨w.heap.size + 1 + p3.os.size, 1, none⟩ = some (.int .i64 t.size) := by rw [← hW3, cell_upd, if_neg (by omega)]; exact m1
                have q2 : W3.cell? ⟨w.heap.size + 1 + p3.os.size, 2, none⟩ = some (.bool t.packed) := by rw [← hW3, cell_upd, if_neg (by omega)]; exact m2
                have q3 : W3.cell? ⟨w.heap.size + 1 + p3.os.size, 3, none⟩ = some (.slice (some ⟨g2, 0, none⟩) t.fields.length cap2) := by rw [← hW3, cell_upd, if_pos rfl, m3]; rfl
                have q4 : W3.cell? ⟨w.heap.size + 1 + p3.os.size, 4, none⟩ = some (.int .i64 t.count) := by rw [← hW3, cell_upd, if_neg (by omega)]; exact m4
                have q5 : W3.cell? ⟨w.heap.size + 1 + p3.os.size, 5, none⟩ = some (.slice ea t.elem.length ec) := by rw [← hW3, cell_upd, if_neg (by omega)]; exact m5
                have far : ∀ (d o : Nat), ¬ d = w.heap.size + 1 + p3.os.size → W3.cell? ⟨d, o, none⟩ = w2.cell? ⟨d, o, none⟩ := fun d o hd => by
                  rw [← hW3]
                  exact World.cell?_setCell_other _ _ _ _ (fun e => hd (congrArg Addr.block e).symm)
                have q6 := (far w.heap.size 0 (by omega)).trans m6
                have q7 := (far w.heap.size 1 (by omega)).trans m7
                have q8 := (far w.heap.size 2 (by omega)).trans m8
                have q9 := (far w.heap.size 3 (by omega)).trans m9
                have q10 := (far w.heap.size 4 (by omega)).trans m10
                have q11 := (far w.heap.size 5 (by omega)).trans m11
                have hW3s : W3.heap.size = w2.heap.size := by rw [← hW3]; simp
                have HBw := Lib.hid (show Below w.heap.size w W3 by rw [← hW3]; exact below_st HB2.out (by simp; omega) _)
                have hUT : TyAt W3 (n + 1) { t with fields := t.fields.drop c ++ t.fields.take c } ⟨t.kind, t.size, t.packed, some ⟨g2, 0, none⟩, t.fields.length, cap2, t.count, ea, t.elem.length, ec⟩ :=
                  turned_at HT.out l1 HL4.out (by omega) hq2 HO2.out (fun o => far g2 o hne) HBw.out (by omega)
                obtain ⟨U1, U2⟩ := Sound_turn (t := t) c rfl HS.out
                rw [HD.out] at U2
                have SU := Lib.hid (fun W (hW : Below W3.heap.size W3 W) => Sound_any (n + 1) _ _ W (hUT.below hW))
                have DU := Lib.hid (fun W (hW : Below W3.heap.size W3 W) => Depth_any (n + 1) _ _ W (hUT.below hW))
                rw [U1] at SU
                rw [U2] at DU
                unfold Raw.val at SU DU
                simp only at SU DU
                have hs3 : w.heap.size + 1 + p3.os.size < W3.heap.size := by omega
                have hs4 : w.heap.size < W3.heap.size := by omega
                clear far hUT U1 U2 hW3 m0 m1 m2 m3 m4 m5 m6 m7 m8 m9 m10 m11 m12 HO2 HB1 HB2 HV HL4 HL3 hlt1 hlt2 hs1 hs2
                go_wp2_with fail
                refine wp_quiet_more (by kernel_rfl) (by kernel_rfl) ?_
                repeat (go_big_quiet_step (first | (go_at_call 19; exact quiet_more (A.out _)) | (go_at_call 22; exact quiet_more (SU.out _ (by repeat (first | exact Below.refl _ _ | refine below_mo ?_ _ | refine below_al ?_ _)))) | (go_at_call 24; exact quiet_more (DU.out _ (by repeat (first | exact Below.refl _ _ | refine below_mo ?_ _ | refine below_al ?_ _)))) | (go_at_call 24; exact quiet_more (D1.out _ (by repeat (first | exact HBw.out | exact Below.refl _ _ | refine below_mo ?_ _ | refine below_al ?_ _))))))
                refine wpQuiet_nil ?_
                intro p6
                go_wp2
                go_ret
                exact ⟨by simp, (by repeat (first | exact HBw.out | exact Below.refl _ _ | refine below_mo ?_ _ | refine below_al ?_ _))⟩
            · have h00 : ¬ (0 : Int) < t.fields.length := h0
              go_wp2_with fail
              refine wp_quiet_more (by kernel_rfl) (by kernel_rfl) ?_
              repeat (go_big_quiet_step (first | (go_at_call 19; exact quiet_more (A.out _)) | (go_at_call 22; exact quiet_more (S1.out _ (by repeat (first | exact Below.refl _ _ | refine below_mo ?_ _ | refine below_al ?_ _)))) | (go_at_call 24; exact quiet_more (D1.out _ (by repeat (first | exact Below.refl _ _ | refine below_mo ?_ _ | refine below_al ?_ _))))))
              refine wpQuiet_nil ?_
              intro p6
              go_wp2
              go_ret
              exact ⟨by simp, (by repeat (first | exact Below.refl _ _ | refine below_mo ?_ _ | refine below_al ?_ _))⟩
  · have h2 : (SoundF (n + 1) t != 0) = true := by simpa using hs
    clear hs
    generalize SoundF (n + 1) t = U at *
    go_enter Try.func11, Try.ntmps11
    go_wp2_with (first
      | (go_at_call 19; refine (A.out _).mono ?_; rintro e w1 ⟨rfl, p1, rfl⟩)
      | (go_at_call 22; refine (S1.out _ (by repeat (first | exact Below.refl _ _ | refine below_mo ?_ _ | refine below_al ?_ _))).mono ?_; rintro e w1 ⟨rfl, p2, rfl⟩))
    go_ret
    exact ⟨by simp, (by repeat (first | exact Below.refl _ _ | refine below_mo ?_ _ | refine below_al ?_ _))⟩
theorem kindParts_any : ∀ (n : Nat) (t : Ty n) (r : Raw) (x : Nat) (hx : x < 256) (w : World) (hT : TyAt w n t r), Calls Try.prog 11 #[r.val, .int .u8 x] w fun e w' => e = .returned (.bool true) ∧ Below w.heap.size w w'
  | 0, t, _, _, _, _, _ => nomatch t
  | n + 1, t, r, x, hx, w, hT => kindParts_walk n t r x hx w hT
end Go.Proofs.Ytjioinmiglblmaa
