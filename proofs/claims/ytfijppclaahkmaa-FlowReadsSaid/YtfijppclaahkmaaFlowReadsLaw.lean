/- Walk: FlowReads, all of it. Conditions: numbers fit. -/
import Derived.Test.YtfijppclaahkmaaFlowReadsB
import Derived.Test.YtfijppclaahkmaaFlowOpen2
namespace Go.Proofs.Ytfijppclaahkmaa
open Go.RowKit Go.Sort
theorem setX_ok {s : St} (hs : s.ok) (k x : Nat) (hx : x < 18446744073709551616) : (setX s (k : Int) x).ok := by
  refine ⟨fun j => ?_, ?_, ?_, ?_⟩
  · unfold setX
    split
    · exact hs.1 j
    · simp only
      split
      · exact hx
      · exact hs.1 j
  · have := (alike_start s k x).pc
    rw [this]
    exact hs.2.1
  · have := (alike_start s k x).wa
    rw [this]
    exact hs.2.2.1
  · have := (alike_start s k x).wl
    rw [this]
    exact hs.2.2.2
theorem flowReads_walk (s : St) (hs : s.ok) (i : Ins) (hi : i.rng) (g : Nat × Nat) (hg : g.1 < 18446744073709551616 ∧ g.2 < 18446744073709551616) (n x : Nat) (hn : n < 256) (hx : x < 18446744073709551616) (w : World) : Calls Try.prog 6 #[stV s, insV i, .agg #[.int .u64 (g.1 : Nat), .int .u64 (g.2 : Nat)], .int .u8 (n : Nat), .int .u64 (x : Nat)] w fun e w' => e = .returned (.bool true) ∧ Below w.heap.size w w' := by
  cases h : enc i with
  | none => exact reads_law_no s i hi g.1 g.2 n x h w
  | some v =>
    have hf := enc_facts h
    cases hm : meB i.op with
    | false => exact reads_law_yes s i hi hs g.1 g.2 n x hg.1 hn hx v h w false false false false false 0 0 0 0 (fun W => ask_no s i hi (Or.inr hm) W) (fun _ W => ask_no _ i hi (Or.inr hm) W)
    | true =>
      refine reads_law_yes s i hi hs g.1 g.2 n x hg.1 hn hx v h w true (exB i.op) (wrB i.op) (acqB i.op) (relB i.op) (spanA s i) (lenI i) (ask0 s i) (ask1 s i) (fun W => ask_yes s i hi hs v h hm W) (fun hr W => ?_)
      have h2 := ask_yes (setX s ((n % 31 : Nat) : Int) x) i hi (setX_ok hs _ _ hx) v h hm W
      have ho := ask_other s i hf (n % 31) x (by omega) hr hm
      rw [spanA_other s i hf (n % 31) x (by omega) hr hm, ho.1, ho.2] at h2
      exact h2
end Go.Proofs.Ytfijppclaahkmaa
