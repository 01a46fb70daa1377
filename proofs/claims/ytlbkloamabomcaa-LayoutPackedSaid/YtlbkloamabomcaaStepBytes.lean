/- Bytes made a string, as a step of a region that draws; a row that is owned, and a store elsewhere. No condition. -/
import Derived.Test.YtlbkloamabomcaaSlKit
import Derived.Laws.BytesString
import Derived.Laws.Cells
import Derived.Deep.AppendLies
namespace Go.Proofs.Ytlbkloamabomcaa
open Go.RowKit Go.Sort
set_option linter.unusedVariables false
set_option linter.unusedSimpArgs false
theorem step_bytes_string {P : Program} {ops : Array Oper} {o : Oper} {a : Act} {w : World} {K : Act → World → Prop} {Q : Exit → Act → World → Prop} {E : Prop} (hg : o.guard = none) (src dst e : TypeId) (x : Operand)
    (hop : o.op = .convert src dst x) (hs : P.underlying src = some (.slice e)) (he : P.underlying e = some (.int .u8)) (hd : P.underlying dst = some .string)
    (ad : Addr) (c : Nat) (ns : List Int) (hx : a.eval x = .slice (some ad) ns.length c) (hc : ∀ j u, (ns.map (Value.int .u8))[j]? = some u → w.cell? (ad.add j) = some u)
    (s : ByteArray) (hS : ns.foldl (fun r n => r.push (UInt8.ofNat n.toNat)) ByteArray.empty = s)
    (hK : K (a.put o.dst (.string s)) w) : if Region.wanted o (yielded ops a.tmps) = true then Oper.wp P o a w K Q else E := by
  have hw : Region.wanted o (yielded ops a.tmps) = true := by simp [Region.wanted, hg]
  rw [if_pos hw]
  have hl : (loadCells ad ns.length).run P w = .ok (ns.map (Value.int .u8)).toArray w := by
    have := run_loadCells_list (P := P) w ad (ns.map (Value.int .u8)) hc
    rwa [List.length_map] at this
  have hr := run_bytesToString (P := P) w ad ns.length c ns hl
  rw [hS] at hr
  unfold Oper.wp execOp
  simp only [hop, resolve, invoke, Sem.run_bind, Sem.run_pure, Result.andThen_ok, hx, run_convert_bytes_string w src dst e (some ad) ns.length c hs he hd, hr]
  exact hK
theorem own_st {w : World} {base : Nat} {e : TypeId} {size : Nat} {v : Value} {n : Nat} {xs : List Value} (h : w.ownsRow base e size v n xs) {p : Addr} (hp : p.block < base) (u : Value) : (w.setCell p u).ownsRow base e size v n xs := by
  refine h.kept (row := some p.block) ⟨rfl, rfl, rfl, by simp, fun k hk hne => ?_⟩ ?_
  · simp only [World.setCell, Array.getElem?_modify]
    rw [if_neg (fun e => hne (by rw [e]))]
  · rcases h.2 with ⟨h0, _⟩ | ⟨g, cap, cur, hv, hb, _⟩
    · left; rw [h0]; rfl
    · right; rw [hv]; simp [Value.ownBlock]; omega
end Go.Proofs.Ytlbkloamabomcaa
