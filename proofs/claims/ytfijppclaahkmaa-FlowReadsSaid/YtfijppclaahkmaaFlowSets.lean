/- Walks: the registers that an instruction reads, and sets, as bits. Conditions: numbers fit. -/
import Derived.Test.YtfijppclaahkmaaFlowReadsM
import Derived.Test.YtfijppclaahkmaaFlowAskA
import Derived.Test.YtfijppclaahkmaaBitsMath
namespace Go.Proofs.Ytfijppclaahkmaa
open Go.RowKit Go.Sort Go.Lib
set_option linter.unusedVariables false
set_option linter.unusedSimpArgs false
def orN (L : Nat → Int) : Nat → Nat
  | 0 => 0
  | k + 1 => orN L k ||| bitI (L k)
theorem orN_lt (L : Nat → Int) : ∀ k, (∀ j, j < k → 0 ≤ L j ∧ L j ≤ 31) → orN L k < 18446744073709551616
  | 0, _ => by show (0 : Nat) < _; decide
  | k + 1, h => by
    have h1 := orN_lt L k (fun j hj => h j (by omega))
    have h2 := bitI_lt (L k) (h k (by omega))
    show orN L k ||| bitI (L k) < 2 ^ 64
    exact Nat.or_lt_two_pow h1 (Nat.lt_of_lt_of_le h2 (by decide))
set_option maxHeartbeats 1000000 in
theorem set_any (L : Nat → Int) (b cap len : Nat) (hlen : len ≤ 3) (hcap : len ≤ cap) (hcm : cap ≤ 9223372036854775807) (hL : ∀ k, k < len → 0 ≤ L k ∧ L k ≤ 31) (w : World) (hc : ∀ k, k < len → w.cell? ⟨b, k, none⟩ = some (.int .i64 (L k))) :
    Calls Try.prog 35 #[.slice (some ⟨b, 0, none⟩) len cap] w fun e w' => e = .returned (.int .u64 (orN L len : Nat)) ∧ w = w' := by
  have HC := Lib.hid hc
  have HL := Lib.hid hL
  clear hc hL
  go_enter Try.func35, Try.ntmps35
  go_wp2
  go_loop [3, 8] (fun x i => ∃ k : Nat, k ≤ len ∧ i = .int .i64 k ∧ x = .int .u64 (orN L k : Nat)) (fun _ i => len - (intOf i).toNat)
  case atStart => exact ⟨0, by omega, rfl, rfl⟩
  case round =>
    obtain ⟨k, hk, rfl, rfl⟩ := hrel
    by_cases hlt : (k : Int) < len
    · have hck := HC.out k (by omega)
      have hLk := HL.out k (by omega)
      have hor : orN L (k + 1) = orN L k ||| bitI (L k) := rfl
      have hlo := orN_lt L k (fun j hj => HL.out j (by omega))
      have H := Lib.hid hor
      clear hor
      generalize orN L (k + 1) = o2 at H ⊢
      by_cases h31 : L k = 31
      · rw [h31] at hck
        have hb : bitI (L k) = 0 := by unfold bitI; rw [if_pos h31]
        have H2 := Lib.hid (show o2 = orN L k by rw [H.out, hb]; simp)
        go_wp2
        go_round
        case rel => exact ⟨k + 1, by omega, by go_num, by show _ = Value.int .u64 ((orN L k ||| bitI (L k) : Nat) : Int); rw [← H.out, H2.out]⟩
        case measure => simp [intOf]; omega
      · have hne : (L k != 31) = true := by simpa using h31
        have hb : bitI (L k) = 2 ^ (L k).toNat := by unfold bitI; rw [if_neg h31]
        have hp : (2 : Nat) ^ (L k).toNat < 18446744073709551616 := Nat.lt_of_lt_of_le (Nat.pow_lt_pow_right (by decide) (show (L k).toNat < 31 by omega)) (by decide)
        have hw : Go.IntKind.u64.wrap ((2 : Int) ^ (L k).toNat) = ((2 ^ (L k).toNat : Nat) : Int) := by
          rw [IntKind.wrap_u64, show (2 : Int) ^ (L k).toNat = ((2 ^ (L k).toNat : Nat) : Int) from (Int.natCast_pow 2 _).symm]
          omega
        have H3 := Lib.hid (show bits .or .u64 (orN L k : Nat) (Go.IntKind.u64.wrap ((2 : Int) ^ (L k).toNat)) = ((orN L k ||| bitI (L k) : Nat) : Int) by
          rw [hw, hb]
          exact u64_or_nat _ _ hlo hp)
        clear hb hp hw
        generalize hl : L k = l at hck hLk h31 hne H3
        go_wp2
        go_round
        case rel => exact ⟨k + 1, by omega, by go_num, by show _ = Value.int .u64 ((orN L k ||| bitI (L k) : Nat) : Int); rw [hl, ← H3.out]⟩
        case measure => simp [intOf]; omega
    · obtain rfl : k = len := by omega
      go_wp2
      go_ret
      exact ⟨rfl, rfl⟩
theorem set1 (a : Int) (ha : 0 ≤ a ∧ a ≤ 31) (b : Nat) (w : World) (h0 : w.cell? ⟨b, 0, none⟩ = some (.int .i64 a)) : Calls Try.prog 35 #[.slice (some ⟨b, 0, none⟩) 1 1] w (Gives w (.int .u64 (bitI a : Nat))) := by
  have h := gives_same (set_any (fun _ => a) b 1 1 (by omega) (by omega) (by omega) (fun _ _ => ha) w (fun k hk => by
    have hk0 : k = 0 := by omega
    subst hk0
    exact h0))
  have e : orN (fun _ => a) 1 = bitI a := by simp [orN]
  rw [e] at h
  exact h
theorem set2 (a c : Int) (ha : 0 ≤ a ∧ a ≤ 31) (hc : 0 ≤ c ∧ c ≤ 31) (b : Nat) (w : World) (h0 : w.cell? ⟨b, 0, none⟩ = some (.int .i64 a)) (h1 : w.cell? ⟨b, 1, none⟩ = some (.int .i64 c)) : Calls Try.prog 35 #[.slice (some ⟨b, 0, none⟩) 2 2] w (Gives w (.int .u64 (bitI a ||| bitI c : Nat))) := by
  have h := gives_same (set_any (fun k => if k = 0 then a else c) b 2 2 (by omega) (by omega) (by omega) (fun k _ => by split <;> assumption) w (fun k hk => by
    rcases (show k = 0 ∨ k = 1 by omega) with rfl | rfl
    · exact h0
    · exact h1))
  have e : orN (fun k => if k = 0 then a else c) 2 = bitI a ||| bitI c := by simp [orN]
  rw [e] at h
  exact h
theorem set3 (a c e : Int) (ha : 0 ≤ a ∧ a ≤ 31) (hc : 0 ≤ c ∧ c ≤ 31) (he : 0 ≤ e ∧ e ≤ 31) (b : Nat) (w : World) (h0 : w.cell? ⟨b, 0, none⟩ = some (.int .i64 a)) (h1 : w.cell? ⟨b, 1, none⟩ = some (.int .i64 c)) (h2 : w.cell? ⟨b, 2, none⟩ = some (.int .i64 e)) : Calls Try.prog 35 #[.slice (some ⟨b, 0, none⟩) 3 3] w (Gives w (.int .u64 (bitI a ||| bitI c ||| bitI e : Nat))) := by
  have h := gives_same (set_any (fun k => if k = 0 then a else if k = 1 then c else e) b 3 3 (by omega) (by omega) (by omega) (fun k _ => by split; assumption; split <;> assumption) w (fun k hk => by
    rcases (show k = 0 ∨ k = 1 ∨ k = 2 by omega) with rfl | rfl | rfl
    · exact h0
    · exact h1
    · exact h2))
  have e2 : orN (fun k => if k = 0 then a else if k = 1 then c else e) 3 = bitI a ||| bitI c ||| bitI e := by simp [orN]
  rw [e2] at h
  exact h
set_option maxHeartbeats 2000000 in
theorem reads_op2 (i : Ins) (hi : i.rng) (v : Nat) (h : enc i = some v) (ho1 : i.op = 2) (w : World) : Calls Try.prog 18 #[insV i] w (Gives w (.int .u64 (readsN i : Nat))) := by
  have hf := enc_facts h
  have SO := Lib.hid (fun W => sound_any i hi W)
  rw [h] at SO
  have BE := Lib.hid (fun W => gives_same (between_any i.op 3 11 W))
  have ME := Lib.hid (fun W => gives_same (memory_fl i.op W))
  have WR := Lib.hid (fun W => gives_same (writes_fl i.op W))
  have PA := Lib.hid (fun W => gives_same (pair_fl i.op W))
  have EX := Lib.hid (fun W => gives_same (excl_fl i.op W))
  have hd := hf.d
  have hn := hf.n
  have hm31 := hf.m
  have he := hf.e
  have ho := hf.op
  have et : readsN i = bitI i.d := by
    unfold readsN; rw [if_pos (by omega)]
  rw [et]
  clear et

  clear hi h hf
  obtain ⟨op, d, n, m, e, sz, imm⟩ := i
  simp only at ho1
  subst ho1
  unfold insV
  simp only [Option.isSome_some] at *
  go_enter Try.func18, Try.ntmps18
  go_wp2_with (first
    | (go_at_call 20; refine (SO.out _).mono ?_; rintro e w1 ⟨rfl, p, rfl⟩)
    | (go_at_call 36; refine (BE.out _).mono ?_; rintro e w1 ⟨rfl, p2, rfl⟩)
    | (go_at_call 21; refine (ME.out _).mono ?_; rintro e w1 ⟨rfl, p3, rfl⟩)
    | (go_at_call 22; refine (WR.out _).mono ?_; rintro e w1 ⟨rfl, p4, rfl⟩)
    | (go_at_call 26; refine (PA.out _).mono ?_; rintro e w1 ⟨rfl, p5, rfl⟩)
    | (go_at_call 24; refine (EX.out _).mono ?_; rintro e w1 ⟨rfl, p6, rfl⟩)
    | (go_at_call 35; refine (set1 d hd _ _ (by simp [go_sem, ↓IntWalk.iteOmega])).mono ?_; rintro e w1 ⟨rfl, p7, rfl⟩))
  go_ret
  exact Gives.mk (by simp) (by repeat (first | with_reducible exact Below.refl _ _ | with_reducible refine below_mo ?_ _ | with_reducible refine below_al ?_ _))
set_option maxHeartbeats 2000000 in
theorem reads_op15 (i : Ins) (hi : i.rng) (v : Nat) (h : enc i = some v) (ho1 : i.op = 15) (w : World) : Calls Try.prog 18 #[insV i] w (Gives w (.int .u64 (readsN i : Nat))) := by
  have hf := enc_facts h
  have SO := Lib.hid (fun W => sound_any i hi W)
  rw [h] at SO
  have BE := Lib.hid (fun W => gives_same (between_any i.op 3 11 W))
  have ME := Lib.hid (fun W => gives_same (memory_fl i.op W))
  have WR := Lib.hid (fun W => gives_same (writes_fl i.op W))
  have PA := Lib.hid (fun W => gives_same (pair_fl i.op W))
  have EX := Lib.hid (fun W => gives_same (excl_fl i.op W))
  have hd := hf.d
  have hn := hf.n
  have hm31 := hf.m
  have he := hf.e
  have ho := hf.op
  have et : readsN i = bitI i.d := by
    unfold readsN; rw [if_pos (by omega)]
  rw [et]
  clear et

  clear hi h hf
  obtain ⟨op, d, n, m, e, sz, imm⟩ := i
  simp only at ho1
  subst ho1
  unfold insV
  simp only [Option.isSome_some] at *
  go_enter Try.func18, Try.ntmps18
  go_wp2_with (first
    | (go_at_call 20; refine (SO.out _).mono ?_; rintro e w1 ⟨rfl, p, rfl⟩)
    | (go_at_call 36; refine (BE.out _).mono ?_; rintro e w1 ⟨rfl, p2, rfl⟩)
    | (go_at_call 21; refine (ME.out _).mono ?_; rintro e w1 ⟨rfl, p3, rfl⟩)
    | (go_at_call 22; refine (WR.out _).mono ?_; rintro e w1 ⟨rfl, p4, rfl⟩)
    | (go_at_call 26; refine (PA.out _).mono ?_; rintro e w1 ⟨rfl, p5, rfl⟩)
    | (go_at_call 24; refine (EX.out _).mono ?_; rintro e w1 ⟨rfl, p6, rfl⟩)
    | (go_at_call 35; refine (set1 d hd _ _ (by simp [go_sem, ↓IntWalk.iteOmega])).mono ?_; rintro e w1 ⟨rfl, p7, rfl⟩))
  go_ret
  exact Gives.mk (by simp) (by repeat (first | with_reducible exact Below.refl _ _ | with_reducible refine below_mo ?_ _ | with_reducible refine below_al ?_ _))
set_option maxHeartbeats 2000000 in
theorem reads_op16 (i : Ins) (hi : i.rng) (v : Nat) (h : enc i = some v) (ho1 : i.op = 16) (w : World) : Calls Try.prog 18 #[insV i] w (Gives w (.int .u64 (readsN i : Nat))) := by
  have hf := enc_facts h
  have SO := Lib.hid (fun W => sound_any i hi W)
  rw [h] at SO
  have BE := Lib.hid (fun W => gives_same (between_any i.op 3 11 W))
  have ME := Lib.hid (fun W => gives_same (memory_fl i.op W))
  have WR := Lib.hid (fun W => gives_same (writes_fl i.op W))
  have PA := Lib.hid (fun W => gives_same (pair_fl i.op W))
  have EX := Lib.hid (fun W => gives_same (excl_fl i.op W))
  have hd := hf.d
  have hn := hf.n
  have hm31 := hf.m
  have he := hf.e
  have ho := hf.op
  have et : readsN i = bitI i.d := by
    unfold readsN; rw [if_pos (by omega)]
  rw [et]
  clear et

  clear hi h hf
  obtain ⟨op, d, n, m, e, sz, imm⟩ := i
  simp only at ho1
  subst ho1
  unfold insV
  simp only [Option.isSome_some] at *
  go_enter Try.func18, Try.ntmps18
  go_wp2_with (first
    | (go_at_call 20; refine (SO.out _).mono ?_; rintro e w1 ⟨rfl, p, rfl⟩)
    | (go_at_call 36; refine (BE.out _).mono ?_; rintro e w1 ⟨rfl, p2, rfl⟩)
    | (go_at_call 21; refine (ME.out _).mono ?_; rintro e w1 ⟨rfl, p3, rfl⟩)
    | (go_at_call 22; refine (WR.out _).mono ?_; rintro e w1 ⟨rfl, p4, rfl⟩)
    | (go_at_call 26; refine (PA.out _).mono ?_; rintro e w1 ⟨rfl, p5, rfl⟩)
    | (go_at_call 24; refine (EX.out _).mono ?_; rintro e w1 ⟨rfl, p6, rfl⟩)
    | (go_at_call 35; refine (set1 d hd _ _ (by simp [go_sem, ↓IntWalk.iteOmega])).mono ?_; rintro e w1 ⟨rfl, p7, rfl⟩))
  go_ret
  exact Gives.mk (by simp) (by repeat (first | with_reducible exact Below.refl _ _ | with_reducible refine below_mo ?_ _ | with_reducible refine below_al ?_ _))
set_option maxHeartbeats 2000000 in
theorem reads_nums (i : Ins) (hi : i.rng) (v : Nat) (h : enc i = some v) (ho1 : 3 ≤ i.op ∧ i.op ≤ 11) (w : World) : Calls Try.prog 18 #[insV i] w (Gives w (.int .u64 (readsN i : Nat))) := by
  have hf := enc_facts h
  have SO := Lib.hid (fun W => sound_any i hi W)
  rw [h] at SO
  have BE := Lib.hid (fun W => gives_same (between_any i.op 3 11 W))
  have ME := Lib.hid (fun W => gives_same (memory_fl i.op W))
  have WR := Lib.hid (fun W => gives_same (writes_fl i.op W))
  have PA := Lib.hid (fun W => gives_same (pair_fl i.op W))
  have EX := Lib.hid (fun W => gives_same (excl_fl i.op W))
  have hd := hf.d
  have hn := hf.n
  have hm31 := hf.m
  have he := hf.e
  have ho := hf.op
  have et : readsN i = bitI i.n ||| bitI i.m := by
    unfold readsN; rw [if_neg (by omega), if_pos ho1]
  rw [et]
  clear et
  have b2 : (i.op == 2) = false := by simp; omega
  have b15 : (i.op == 15) = false := by simp; omega
  have b16 : (i.op == 16) = false := by simp; omega
  rw [show decide (3 ≤ i.op ∧ i.op ≤ 11) = true from decide_eq_true (by omega)] at BE

  clear hi h hf
  obtain ⟨op, d, n, m, e, sz, imm⟩ := i
  unfold insV
  simp only [Option.isSome_some] at *
  go_enter Try.func18, Try.ntmps18
  go_wp2_with (first
    | (go_at_call 20; refine (SO.out _).mono ?_; rintro e w1 ⟨rfl, p, rfl⟩)
    | (go_at_call 36; refine (BE.out _).mono ?_; rintro e w1 ⟨rfl, p2, rfl⟩)
    | (go_at_call 21; refine (ME.out _).mono ?_; rintro e w1 ⟨rfl, p3, rfl⟩)
    | (go_at_call 22; refine (WR.out _).mono ?_; rintro e w1 ⟨rfl, p4, rfl⟩)
    | (go_at_call 26; refine (PA.out _).mono ?_; rintro e w1 ⟨rfl, p5, rfl⟩)
    | (go_at_call 24; refine (EX.out _).mono ?_; rintro e w1 ⟨rfl, p6, rfl⟩)
    | (go_at_call 35; refine (set2 n m hn hm31 _ _ (by simp [go_sem, ↓IntWalk.iteOmega]) (by simp [go_sem, ↓IntWalk.iteOmega])).mono ?_; rintro e w1 ⟨rfl, p7, rfl⟩))
  go_ret
  exact Gives.mk (by simp) (by repeat (first | with_reducible exact Below.refl _ _ | with_reducible refine below_mo ?_ _ | with_reducible refine below_al ?_ _))
set_option maxHeartbeats 2000000 in
theorem reads_wp (i : Ins) (hi : i.rng) (v : Nat) (h : enc i = some v) (hm : meB i.op = true) (hw : wrB i.op = true) (hp : paB i.op = true) (w : World) : Calls Try.prog 18 #[insV i] w (Gives w (.int .u64 (readsN i : Nat))) := by
  have hf := enc_facts h
  have SO := Lib.hid (fun W => sound_any i hi W)
  rw [h] at SO
  have BE := Lib.hid (fun W => gives_same (between_any i.op 3 11 W))
  have ME := Lib.hid (fun W => gives_same (memory_fl i.op W))
  have WR := Lib.hid (fun W => gives_same (writes_fl i.op W))
  have PA := Lib.hid (fun W => gives_same (pair_fl i.op W))
  have EX := Lib.hid (fun W => gives_same (excl_fl i.op W))
  have hd := hf.d
  have hn := hf.n
  have hm31 := hf.m
  have he := hf.e
  have ho := hf.op
  have et : readsN i = bitI i.n ||| bitI i.d ||| bitI i.e := by
    have hr : 17 ≤ i.op ∧ i.op ≤ 28 := by simpa [meB] using hm
    unfold readsN; rw [if_neg (by omega), if_neg (by omega), hm, hw, hp]; simp
  rw [et]
  clear et
  have hr : 17 ≤ i.op ∧ i.op ≤ 28 := by simpa [meB] using hm
  have b2 : (i.op == 2) = false := by simp; omega
  have b15 : (i.op == 15) = false := by simp; omega
  have b16 : (i.op == 16) = false := by simp; omega
  rw [show decide (3 ≤ i.op ∧ i.op ≤ 11) = false from decide_eq_false (by omega)] at BE
  rw [hm] at ME
  rw [hw] at WR
  rw [hp] at PA

  clear hi h hf
  obtain ⟨op, d, n, m, e, sz, imm⟩ := i
  unfold insV
  simp only [Option.isSome_some] at *
  go_enter Try.func18, Try.ntmps18
  go_wp2_with (first
    | (go_at_call 20; refine (SO.out _).mono ?_; rintro e w1 ⟨rfl, p, rfl⟩)
    | (go_at_call 36; refine (BE.out _).mono ?_; rintro e w1 ⟨rfl, p2, rfl⟩)
    | (go_at_call 21; refine (ME.out _).mono ?_; rintro e w1 ⟨rfl, p3, rfl⟩)
    | (go_at_call 22; refine (WR.out _).mono ?_; rintro e w1 ⟨rfl, p4, rfl⟩)
    | (go_at_call 26; refine (PA.out _).mono ?_; rintro e w1 ⟨rfl, p5, rfl⟩)
    | (go_at_call 24; refine (EX.out _).mono ?_; rintro e w1 ⟨rfl, p6, rfl⟩)
    | (go_at_call 35; refine (set3 n d e hn hd he _ _ (by simp [go_sem, ↓IntWalk.iteOmega]) (by simp [go_sem, ↓IntWalk.iteOmega]) (by simp [go_sem, ↓IntWalk.iteOmega])).mono ?_; rintro e w1 ⟨rfl, p7, rfl⟩))
  go_ret
  exact Gives.mk (by simp) (by repeat (first | with_reducible exact Below.refl _ _ | with_reducible refine below_mo ?_ _ | with_reducible refine below_al ?_ _))
set_option maxHeartbeats 2000000 in
theorem reads_w (i : Ins) (hi : i.rng) (v : Nat) (h : enc i = some v) (hm : meB i.op = true) (hw : wrB i.op = true) (hp : paB i.op = false) (w : World) : Calls Try.prog 18 #[insV i] w (Gives w (.int .u64 (readsN i : Nat))) := by
  have hf := enc_facts h
  have SO := Lib.hid (fun W => sound_any i hi W)
  rw [h] at SO
  have BE := Lib.hid (fun W => gives_same (between_any i.op 3 11 W))
  have ME := Lib.hid (fun W => gives_same (memory_fl i.op W))
  have WR := Lib.hid (fun W => gives_same (writes_fl i.op W))
  have PA := Lib.hid (fun W => gives_same (pair_fl i.op W))
  have EX := Lib.hid (fun W => gives_same (excl_fl i.op W))
  have hd := hf.d
  have hn := hf.n
  have hm31 := hf.m
  have he := hf.e
  have ho := hf.op
  have et : readsN i = bitI i.n ||| bitI i.d := by
    have hr : 17 ≤ i.op ∧ i.op ≤ 28 := by simpa [meB] using hm
    unfold readsN; rw [if_neg (by omega), if_neg (by omega), hm, hw, hp]; simp
  rw [et]
  clear et
  have hr : 17 ≤ i.op ∧ i.op ≤ 28 := by simpa [meB] using hm
  have b2 : (i.op == 2) = false := by simp; omega
  have b15 : (i.op == 15) = false := by simp; omega
  have b16 : (i.op == 16) = false := by simp; omega
  rw [show decide (3 ≤ i.op ∧ i.op ≤ 11) = false from decide_eq_false (by omega)] at BE
  rw [hm] at ME
  rw [hw] at WR
  rw [hp] at PA

  clear hi h hf
  obtain ⟨op, d, n, m, e, sz, imm⟩ := i
  unfold insV
  simp only [Option.isSome_some] at *
  go_enter Try.func18, Try.ntmps18
  go_wp2_with (first
    | (go_at_call 20; refine (SO.out _).mono ?_; rintro e w1 ⟨rfl, p, rfl⟩)
    | (go_at_call 36; refine (BE.out _).mono ?_; rintro e w1 ⟨rfl, p2, rfl⟩)
    | (go_at_call 21; refine (ME.out _).mono ?_; rintro e w1 ⟨rfl, p3, rfl⟩)
    | (go_at_call 22; refine (WR.out _).mono ?_; rintro e w1 ⟨rfl, p4, rfl⟩)
    | (go_at_call 26; refine (PA.out _).mono ?_; rintro e w1 ⟨rfl, p5, rfl⟩)
    | (go_at_call 24; refine (EX.out _).mono ?_; rintro e w1 ⟨rfl, p6, rfl⟩)
    | (go_at_call 35; refine (set2 n d hn hd _ _ (by simp [go_sem, ↓IntWalk.iteOmega]) (by simp [go_sem, ↓IntWalk.iteOmega])).mono ?_; rintro e w1 ⟨rfl, p7, rfl⟩))
  go_ret
  exact Gives.mk (by simp) (by repeat (first | with_reducible exact Below.refl _ _ | with_reducible refine below_mo ?_ _ | with_reducible refine below_al ?_ _))
set_option maxHeartbeats 2000000 in
theorem reads_r (i : Ins) (hi : i.rng) (v : Nat) (h : enc i = some v) (hm : meB i.op = true) (hw : wrB i.op = false) (w : World) : Calls Try.prog 18 #[insV i] w (Gives w (.int .u64 (readsN i : Nat))) := by
  have hf := enc_facts h
  have SO := Lib.hid (fun W => sound_any i hi W)
  rw [h] at SO
  have BE := Lib.hid (fun W => gives_same (between_any i.op 3 11 W))
  have ME := Lib.hid (fun W => gives_same (memory_fl i.op W))
  have WR := Lib.hid (fun W => gives_same (writes_fl i.op W))
  have PA := Lib.hid (fun W => gives_same (pair_fl i.op W))
  have EX := Lib.hid (fun W => gives_same (excl_fl i.op W))
  have hd := hf.d
  have hn := hf.n
  have hm31 := hf.m
  have he := hf.e
  have ho := hf.op
  have et : readsN i = bitI i.n := by
    have hr : 17 ≤ i.op ∧ i.op ≤ 28 := by simpa [meB] using hm
    unfold readsN; rw [if_neg (by omega), if_neg (by omega), hm, hw]; simp
  rw [et]
  clear et
  have hr : 17 ≤ i.op ∧ i.op ≤ 28 := by simpa [meB] using hm
  have b2 : (i.op == 2) = false := by simp; omega
  have b15 : (i.op == 15) = false := by simp; omega
  have b16 : (i.op == 16) = false := by simp; omega
  rw [show decide (3 ≤ i.op ∧ i.op ≤ 11) = false from decide_eq_false (by omega)] at BE
  rw [hm] at ME
  rw [hw] at WR

  clear hi h hf
  obtain ⟨op, d, n, m, e, sz, imm⟩ := i
  unfold insV
  simp only [Option.isSome_some] at *
  go_enter Try.func18, Try.ntmps18
  go_wp2_with (first
    | (go_at_call 20; refine (SO.out _).mono ?_; rintro e w1 ⟨rfl, p, rfl⟩)
    | (go_at_call 36; refine (BE.out _).mono ?_; rintro e w1 ⟨rfl, p2, rfl⟩)
    | (go_at_call 21; refine (ME.out _).mono ?_; rintro e w1 ⟨rfl, p3, rfl⟩)
    | (go_at_call 22; refine (WR.out _).mono ?_; rintro e w1 ⟨rfl, p4, rfl⟩)
    | (go_at_call 26; refine (PA.out _).mono ?_; rintro e w1 ⟨rfl, p5, rfl⟩)
    | (go_at_call 24; refine (EX.out _).mono ?_; rintro e w1 ⟨rfl, p6, rfl⟩)
    | (go_at_call 35; refine (set1 n hn _ _ (by simp [go_sem, ↓IntWalk.iteOmega])).mono ?_; rintro e w1 ⟨rfl, p7, rfl⟩))
  go_ret
  exact Gives.mk (by simp) (by repeat (first | with_reducible exact Below.refl _ _ | with_reducible refine below_mo ?_ _ | with_reducible refine below_al ?_ _))
set_option maxHeartbeats 2000000 in
theorem reads_o (i : Ins) (hi : i.rng) (v : Nat) (h : enc i = some v) (hm : meB i.op = false) (h1 : ¬ (i.op = 2 ∨ i.op = 15 ∨ i.op = 16)) (h2 : ¬ (3 ≤ i.op ∧ i.op ≤ 11)) (w : World) : Calls Try.prog 18 #[insV i] w (Gives w (.int .u64 (readsN i : Nat))) := by
  have hf := enc_facts h
  have SO := Lib.hid (fun W => sound_any i hi W)
  rw [h] at SO
  have BE := Lib.hid (fun W => gives_same (between_any i.op 3 11 W))
  have ME := Lib.hid (fun W => gives_same (memory_fl i.op W))
  have WR := Lib.hid (fun W => gives_same (writes_fl i.op W))
  have PA := Lib.hid (fun W => gives_same (pair_fl i.op W))
  have EX := Lib.hid (fun W => gives_same (excl_fl i.op W))
  have hd := hf.d
  have hn := hf.n
  have hm31 := hf.m
  have he := hf.e
  have ho := hf.op
  have et : readsN i = 0 := by
    unfold readsN; rw [if_neg h1, if_neg h2, hm]; simp
  rw [et]
  clear et
  have b2 : (i.op == 2) = false := by simp; omega
  have b15 : (i.op == 15) = false := by simp; omega
  have b16 : (i.op == 16) = false := by simp; omega
  rw [show decide (3 ≤ i.op ∧ i.op ≤ 11) = false from decide_eq_false (by omega)] at BE
  rw [hm] at ME

  clear hi h hf
  obtain ⟨op, d, n, m, e, sz, imm⟩ := i
  unfold insV
  simp only [Option.isSome_some] at *
  go_enter Try.func18, Try.ntmps18
  go_wp2_with (first
    | (go_at_call 20; refine (SO.out _).mono ?_; rintro e w1 ⟨rfl, p, rfl⟩)
    | (go_at_call 36; refine (BE.out _).mono ?_; rintro e w1 ⟨rfl, p2, rfl⟩)
    | (go_at_call 21; refine (ME.out _).mono ?_; rintro e w1 ⟨rfl, p3, rfl⟩)
    | (go_at_call 22; refine (WR.out _).mono ?_; rintro e w1 ⟨rfl, p4, rfl⟩)
    | (go_at_call 26; refine (PA.out _).mono ?_; rintro e w1 ⟨rfl, p5, rfl⟩)
    | (go_at_call 24; refine (EX.out _).mono ?_; rintro e w1 ⟨rfl, p6, rfl⟩))
  go_ret
  exact Gives.mk (by simp) (by repeat (first | with_reducible exact Below.refl _ _ | with_reducible refine below_mo ?_ _ | with_reducible refine below_al ?_ _))
theorem reads_any (i : Ins) (hi : i.rng) (v : Nat) (h : enc i = some v) (w : World) : Calls Try.prog 18 #[insV i] w (Gives w (.int .u64 (readsN i : Nat))) := by
  by_cases h1 : i.op = 2 ∨ i.op = 15 ∨ i.op = 16
  · rcases h1 with h1 | h1 | h1
    · exact reads_op2 i hi v h h1 w
    · exact reads_op15 i hi v h h1 w
    · exact reads_op16 i hi v h h1 w
  · by_cases h2 : 3 ≤ i.op ∧ i.op ≤ 11
    · exact reads_nums i hi v h h2 w
    · cases hm : meB i.op with
      | false => exact reads_o i hi v h hm h1 h2 w
      | true =>
        cases hw : wrB i.op with
        | false => exact reads_r i hi v h hm hw w
        | true =>
          cases hp : paB i.op with
          | true => exact reads_wp i hi v h hm hw hp w
          | false => exact reads_w i hi v h hm hw hp w
set_option maxHeartbeats 2000000 in
theorem sets_nums (i : Ins) (hi : i.rng) (v : Nat) (h : enc i = some v) (ho1 : 1 ≤ i.op ∧ i.op ≤ 12) (w : World) : Calls Try.prog 19 #[insV i] w (Gives w (.int .u64 (setsN i : Nat))) := by
  have hf := enc_facts h
  have SO := Lib.hid (fun W => sound_any i hi W)
  rw [h] at SO
  have BE := Lib.hid (fun W => gives_same (between_any i.op 1 12 W))
  have ME := Lib.hid (fun W => gives_same (memory_fl i.op W))
  have WR := Lib.hid (fun W => gives_same (writes_fl i.op W))
  have PA := Lib.hid (fun W => gives_same (pair_fl i.op W))
  have EX := Lib.hid (fun W => gives_same (excl_fl i.op W))
  have hd := hf.d
  have hn := hf.n
  have hm31 := hf.m
  have he := hf.e
  have ho := hf.op
  have et : setsN i = bitI i.d := by
    unfold setsN; rw [if_pos ho1]
  rw [et]
  clear et
  rw [show decide (1 ≤ i.op ∧ i.op ≤ 12) = true from decide_eq_true (by omega)] at BE

  clear hi h hf
  obtain ⟨op, d, n, m, e, sz, imm⟩ := i
  unfold insV
  simp only [Option.isSome_some] at *
  go_enter Try.func19, Try.ntmps19
  go_wp2_with (first
    | (go_at_call 20; refine (SO.out _).mono ?_; rintro e w1 ⟨rfl, p, rfl⟩)
    | (go_at_call 36; refine (BE.out _).mono ?_; rintro e w1 ⟨rfl, p2, rfl⟩)
    | (go_at_call 21; refine (ME.out _).mono ?_; rintro e w1 ⟨rfl, p3, rfl⟩)
    | (go_at_call 22; refine (WR.out _).mono ?_; rintro e w1 ⟨rfl, p4, rfl⟩)
    | (go_at_call 26; refine (PA.out _).mono ?_; rintro e w1 ⟨rfl, p5, rfl⟩)
    | (go_at_call 24; refine (EX.out _).mono ?_; rintro e w1 ⟨rfl, p6, rfl⟩)
    | (go_at_call 35; refine (set1 d hd _ _ (by simp [go_sem, ↓IntWalk.iteOmega])).mono ?_; rintro e w1 ⟨rfl, p7, rfl⟩))
  go_ret
  exact Gives.mk (by simp) (by repeat (first | with_reducible exact Below.refl _ _ | with_reducible refine below_mo ?_ _ | with_reducible refine below_al ?_ _))
set_option maxHeartbeats 2000000 in
theorem sets_we (i : Ins) (hi : i.rng) (v : Nat) (h : enc i = some v) (hm : meB i.op = true) (hw : wrB i.op = true) (hx : exB i.op = true) (w : World) : Calls Try.prog 19 #[insV i] w (Gives w (.int .u64 (setsN i : Nat))) := by
  have hf := enc_facts h
  have SO := Lib.hid (fun W => sound_any i hi W)
  rw [h] at SO
  have BE := Lib.hid (fun W => gives_same (between_any i.op 1 12 W))
  have ME := Lib.hid (fun W => gives_same (memory_fl i.op W))
  have WR := Lib.hid (fun W => gives_same (writes_fl i.op W))
  have PA := Lib.hid (fun W => gives_same (pair_fl i.op W))
  have EX := Lib.hid (fun W => gives_same (excl_fl i.op W))
  have hd := hf.d
  have hn := hf.n
  have hm31 := hf.m
  have he := hf.e
  have ho := hf.op
  have et : setsN i = bitI i.m := by
    have hr : 17 ≤ i.op ∧ i.op ≤ 28 := by simpa [meB] using hm
    unfold setsN; rw [if_neg (by omega), hm, hw, hx]; simp
  rw [et]
  clear et
  have hr : 17 ≤ i.op ∧ i.op ≤ 28 := by simpa [meB] using hm
  rw [show decide (1 ≤ i.op ∧ i.op ≤ 12) = false from decide_eq_false (by omega)] at BE
  rw [hm] at ME
  rw [hw] at WR
  rw [hx] at EX

  clear hi h hf
  obtain ⟨op, d, n, m, e, sz, imm⟩ := i
  unfold insV
  simp only [Option.isSome_some] at *
  go_enter Try.func19, Try.ntmps19
  go_wp2_with (first
    | (go_at_call 20; refine (SO.out _).mono ?_; rintro e w1 ⟨rfl, p, rfl⟩)
    | (go_at_call 36; refine (BE.out _).mono ?_; rintro e w1 ⟨rfl, p2, rfl⟩)
    | (go_at_call 21; refine (ME.out _).mono ?_; rintro e w1 ⟨rfl, p3, rfl⟩)
    | (go_at_call 22; refine (WR.out _).mono ?_; rintro e w1 ⟨rfl, p4, rfl⟩)
    | (go_at_call 26; refine (PA.out _).mono ?_; rintro e w1 ⟨rfl, p5, rfl⟩)
    | (go_at_call 24; refine (EX.out _).mono ?_; rintro e w1 ⟨rfl, p6, rfl⟩)
    | (go_at_call 35; refine (set1 m hm31 _ _ (by simp [go_sem, ↓IntWalk.iteOmega])).mono ?_; rintro e w1 ⟨rfl, p7, rfl⟩))
  go_ret
  exact Gives.mk (by simp) (by repeat (first | with_reducible exact Below.refl _ _ | with_reducible refine below_mo ?_ _ | with_reducible refine below_al ?_ _))
set_option maxHeartbeats 2000000 in
theorem sets_w (i : Ins) (hi : i.rng) (v : Nat) (h : enc i = some v) (hm : meB i.op = true) (hw : wrB i.op = true) (hx : exB i.op = false) (w : World) : Calls Try.prog 19 #[insV i] w (Gives w (.int .u64 (setsN i : Nat))) := by
  have hf := enc_facts h
  have SO := Lib.hid (fun W => sound_any i hi W)
  rw [h] at SO
  have BE := Lib.hid (fun W => gives_same (between_any i.op 1 12 W))
  have ME := Lib.hid (fun W => gives_same (memory_fl i.op W))
  have WR := Lib.hid (fun W => gives_same (writes_fl i.op W))
  have PA := Lib.hid (fun W => gives_same (pair_fl i.op W))
  have EX := Lib.hid (fun W => gives_same (excl_fl i.op W))
  have hd := hf.d
  have hn := hf.n
  have hm31 := hf.m
  have he := hf.e
  have ho := hf.op
  have et : setsN i = 0 := by
    have hr : 17 ≤ i.op ∧ i.op ≤ 28 := by simpa [meB] using hm
    unfold setsN; rw [if_neg (by omega), hm, hw, hx]; simp
  rw [et]
  clear et
  have hr : 17 ≤ i.op ∧ i.op ≤ 28 := by simpa [meB] using hm
  rw [show decide (1 ≤ i.op ∧ i.op ≤ 12) = false from decide_eq_false (by omega)] at BE
  rw [hm] at ME
  rw [hw] at WR
  rw [hx] at EX

  clear hi h hf
  obtain ⟨op, d, n, m, e, sz, imm⟩ := i
  unfold insV
  simp only [Option.isSome_some] at *
  go_enter Try.func19, Try.ntmps19
  go_wp2_with (first
    | (go_at_call 20; refine (SO.out _).mono ?_; rintro e w1 ⟨rfl, p, rfl⟩)
    | (go_at_call 36; refine (BE.out _).mono ?_; rintro e w1 ⟨rfl, p2, rfl⟩)
    | (go_at_call 21; refine (ME.out _).mono ?_; rintro e w1 ⟨rfl, p3, rfl⟩)
    | (go_at_call 22; refine (WR.out _).mono ?_; rintro e w1 ⟨rfl, p4, rfl⟩)
    | (go_at_call 26; refine (PA.out _).mono ?_; rintro e w1 ⟨rfl, p5, rfl⟩)
    | (go_at_call 24; refine (EX.out _).mono ?_; rintro e w1 ⟨rfl, p6, rfl⟩))
  go_ret
  exact Gives.mk (by simp) (by repeat (first | with_reducible exact Below.refl _ _ | with_reducible refine below_mo ?_ _ | with_reducible refine below_al ?_ _))
set_option maxHeartbeats 2000000 in
theorem sets_p (i : Ins) (hi : i.rng) (v : Nat) (h : enc i = some v) (hm : meB i.op = true) (hw : wrB i.op = false) (hp : paB i.op = true) (w : World) : Calls Try.prog 19 #[insV i] w (Gives w (.int .u64 (setsN i : Nat))) := by
  have hf := enc_facts h
  have SO := Lib.hid (fun W => sound_any i hi W)
  rw [h] at SO
  have BE := Lib.hid (fun W => gives_same (between_any i.op 1 12 W))
  have ME := Lib.hid (fun W => gives_same (memory_fl i.op W))
  have WR := Lib.hid (fun W => gives_same (writes_fl i.op W))
  have PA := Lib.hid (fun W => gives_same (pair_fl i.op W))
  have EX := Lib.hid (fun W => gives_same (excl_fl i.op W))
  have hd := hf.d
  have hn := hf.n
  have hm31 := hf.m
  have he := hf.e
  have ho := hf.op
  have et : setsN i = bitI i.d ||| bitI i.e := by
    have hr : 17 ≤ i.op ∧ i.op ≤ 28 := by simpa [meB] using hm
    unfold setsN; rw [if_neg (by omega), hm, hw, hp]; simp
  rw [et]
  clear et
  have hr : 17 ≤ i.op ∧ i.op ≤ 28 := by simpa [meB] using hm
  rw [show decide (1 ≤ i.op ∧ i.op ≤ 12) = false from decide_eq_false (by omega)] at BE
  rw [hm] at ME
  rw [hw] at WR
  rw [hp] at PA

  clear hi h hf
  obtain ⟨op, d, n, m, e, sz, imm⟩ := i
  unfold insV
  simp only [Option.isSome_some] at *
  go_enter Try.func19, Try.ntmps19
  go_wp2_with (first
    | (go_at_call 20; refine (SO.out _).mono ?_; rintro e w1 ⟨rfl, p, rfl⟩)
    | (go_at_call 36; refine (BE.out _).mono ?_; rintro e w1 ⟨rfl, p2, rfl⟩)
    | (go_at_call 21; refine (ME.out _).mono ?_; rintro e w1 ⟨rfl, p3, rfl⟩)
    | (go_at_call 22; refine (WR.out _).mono ?_; rintro e w1 ⟨rfl, p4, rfl⟩)
    | (go_at_call 26; refine (PA.out _).mono ?_; rintro e w1 ⟨rfl, p5, rfl⟩)
    | (go_at_call 24; refine (EX.out _).mono ?_; rintro e w1 ⟨rfl, p6, rfl⟩)
    | (go_at_call 35; refine (set2 d e hd he _ _ (by simp [go_sem, ↓IntWalk.iteOmega]) (by simp [go_sem, ↓IntWalk.iteOmega])).mono ?_; rintro e w1 ⟨rfl, p7, rfl⟩))
  go_ret
  exact Gives.mk (by simp) (by repeat (first | with_reducible exact Below.refl _ _ | with_reducible refine below_mo ?_ _ | with_reducible refine below_al ?_ _))
set_option maxHeartbeats 2000000 in
theorem sets_r (i : Ins) (hi : i.rng) (v : Nat) (h : enc i = some v) (hm : meB i.op = true) (hw : wrB i.op = false) (hp : paB i.op = false) (w : World) : Calls Try.prog 19 #[insV i] w (Gives w (.int .u64 (setsN i : Nat))) := by
  have hf := enc_facts h
  have SO := Lib.hid (fun W => sound_any i hi W)
  rw [h] at SO
  have BE := Lib.hid (fun W => gives_same (between_any i.op 1 12 W))
  have ME := Lib.hid (fun W => gives_same (memory_fl i.op W))
  have WR := Lib.hid (fun W => gives_same (writes_fl i.op W))
  have PA := Lib.hid (fun W => gives_same (pair_fl i.op W))
  have EX := Lib.hid (fun W => gives_same (excl_fl i.op W))
  have hd := hf.d
  have hn := hf.n
  have hm31 := hf.m
  have he := hf.e
  have ho := hf.op
  have et : setsN i = bitI i.d := by
    have hr : 17 ≤ i.op ∧ i.op ≤ 28 := by simpa [meB] using hm
    unfold setsN; rw [if_neg (by omega), hm, hw, hp]; simp
  rw [et]
  clear et
  have hr : 17 ≤ i.op ∧ i.op ≤ 28 := by simpa [meB] using hm
  rw [show decide (1 ≤ i.op ∧ i.op ≤ 12) = false from decide_eq_false (by omega)] at BE
  rw [hm] at ME
  rw [hw] at WR
  rw [hp] at PA

  clear hi h hf
  obtain ⟨op, d, n, m, e, sz, imm⟩ := i
  unfold insV
  simp only [Option.isSome_some] at *
  go_enter Try.func19, Try.ntmps19
  go_wp2_with (first
    | (go_at_call 20; refine (SO.out _).mono ?_; rintro e w1 ⟨rfl, p, rfl⟩)
    | (go_at_call 36; refine (BE.out _).mono ?_; rintro e w1 ⟨rfl, p2, rfl⟩)
    | (go_at_call 21; refine (ME.out _).mono ?_; rintro e w1 ⟨rfl, p3, rfl⟩)
    | (go_at_call 22; refine (WR.out _).mono ?_; rintro e w1 ⟨rfl, p4, rfl⟩)
    | (go_at_call 26; refine (PA.out _).mono ?_; rintro e w1 ⟨rfl, p5, rfl⟩)
    | (go_at_call 24; refine (EX.out _).mono ?_; rintro e w1 ⟨rfl, p6, rfl⟩)
    | (go_at_call 35; refine (set1 d hd _ _ (by simp [go_sem, ↓IntWalk.iteOmega])).mono ?_; rintro e w1 ⟨rfl, p7, rfl⟩))
  go_ret
  exact Gives.mk (by simp) (by repeat (first | with_reducible exact Below.refl _ _ | with_reducible refine below_mo ?_ _ | with_reducible refine below_al ?_ _))
set_option maxHeartbeats 2000000 in
theorem sets_o (i : Ins) (hi : i.rng) (v : Nat) (h : enc i = some v) (hm : meB i.op = false) (h1 : ¬ (1 ≤ i.op ∧ i.op ≤ 12)) (w : World) : Calls Try.prog 19 #[insV i] w (Gives w (.int .u64 (setsN i : Nat))) := by
  have hf := enc_facts h
  have SO := Lib.hid (fun W => sound_any i hi W)
  rw [h] at SO
  have BE := Lib.hid (fun W => gives_same (between_any i.op 1 12 W))
  have ME := Lib.hid (fun W => gives_same (memory_fl i.op W))
  have WR := Lib.hid (fun W => gives_same (writes_fl i.op W))
  have PA := Lib.hid (fun W => gives_same (pair_fl i.op W))
  have EX := Lib.hid (fun W => gives_same (excl_fl i.op W))
  have hd := hf.d
  have hn := hf.n
  have hm31 := hf.m
  have he := hf.e
  have ho := hf.op
  have et : setsN i = 0 := by
    unfold setsN; rw [if_neg h1, hm]; simp
  rw [et]
  clear et
  rw [show decide (1 ≤ i.op ∧ i.op ≤ 12) = false from decide_eq_false (by omega)] at BE
  rw [hm] at ME

  clear hi h hf
  obtain ⟨op, d, n, m, e, sz, imm⟩ := i
  unfold insV
  simp only [Option.isSome_some] at *
  go_enter Try.func19, Try.ntmps19
  go_wp2_with (first
    | (go_at_call 20; refine (SO.out _).mono ?_; rintro e w1 ⟨rfl, p, rfl⟩)
    | (go_at_call 36; refine (BE.out _).mono ?_; rintro e w1 ⟨rfl, p2, rfl⟩)
    | (go_at_call 21; refine (ME.out _).mono ?_; rintro e w1 ⟨rfl, p3, rfl⟩)
    | (go_at_call 22; refine (WR.out _).mono ?_; rintro e w1 ⟨rfl, p4, rfl⟩)
    | (go_at_call 26; refine (PA.out _).mono ?_; rintro e w1 ⟨rfl, p5, rfl⟩)
    | (go_at_call 24; refine (EX.out _).mono ?_; rintro e w1 ⟨rfl, p6, rfl⟩))
  go_ret
  exact Gives.mk (by simp) (by repeat (first | with_reducible exact Below.refl _ _ | with_reducible refine below_mo ?_ _ | with_reducible refine below_al ?_ _))
theorem sets_any (i : Ins) (hi : i.rng) (v : Nat) (h : enc i = some v) (w : World) : Calls Try.prog 19 #[insV i] w (Gives w (.int .u64 (setsN i : Nat))) := by
  by_cases h1 : 1 ≤ i.op ∧ i.op ≤ 12
  · exact sets_nums i hi v h h1 w
  · cases hm : meB i.op with
    | false => exact sets_o i hi v h hm h1 w
    | true =>
      cases hw : wrB i.op with
      | true =>
        cases hx : exB i.op with
        | true => exact sets_we i hi v h hm hw hx w
        | false => exact sets_w i hi v h hm hw hx w
      | false =>
        cases hp : paB i.op with
        | true => exact sets_p i hi v h hm hw hp w
        | false => exact sets_r i hi v h hm hw hp w
theorem reads_no (i : Ins) (hi : i.rng) (h : enc i = none) (w : World) : Calls Try.prog 18 #[insV i] w (Gives w (.int .u64 0)) := by
  have SO := Lib.hid (fun W => sound_any i hi W)
  rw [h] at SO
  clear hi h
  obtain ⟨op, d, n, m, e, sz, imm⟩ := i
  unfold insV
  simp only [Option.isSome_none] at *
  go_enter Try.func18, Try.ntmps18
  go_wp2_with (go_at_call 20; refine (SO.out _).mono ?_; rintro e w1 ⟨rfl, p, rfl⟩)
  go_ret
  exact Gives.mk rfl (by repeat (first | with_reducible exact Below.refl _ _ | with_reducible refine below_mo ?_ _ | with_reducible refine below_al ?_ _))
theorem sets_no (i : Ins) (hi : i.rng) (h : enc i = none) (w : World) : Calls Try.prog 19 #[insV i] w (Gives w (.int .u64 0)) := by
  have SO := Lib.hid (fun W => sound_any i hi W)
  rw [h] at SO
  clear hi h
  obtain ⟨op, d, n, m, e, sz, imm⟩ := i
  unfold insV
  simp only [Option.isSome_none] at *
  go_enter Try.func19, Try.ntmps19
  go_wp2_with (go_at_call 20; refine (SO.out _).mono ?_; rintro e w1 ⟨rfl, p, rfl⟩)
  go_ret
  exact Gives.mk rfl (by repeat (first | with_reducible exact Below.refl _ _ | with_reducible refine below_mo ?_ _ | with_reducible refine below_al ?_ _))
end Go.Proofs.Ytfijppclaahkmaa
