/- Walks. No condition. -/
import Derived.Lib.Builder
import Derived.Test.YtcekjfmfcefjpaaGreatDoorG44
set_option maxRecDepth 100000
set_option maxHeartbeats 0
set_option linter.all false
namespace Go.Proofs.YtcekjfmfcefjpaaGreatDoor
open Go.RowKit Go.Sort
theorem cP(n:Nat)(a m:Int)(k:Nat)(ts:List TD)(i:Nat):(othM n a m k ts)[i]?=ts[i]?.map (fun t=>if i<k/\i≠n then clrW a m t else t):=by
 unfold othM
 rw [List.getElem?_mapIdx]
theorem kP(n:Nat)(a m:Int)(k:Nat)(ts:List TD):(othM n a m k ts).length=ts.length:=by simp [othM]
theorem uz(n:Nat)(a m:Int)(ts:List TD):othM n a m 0 ts=ts:=by
 apply List.ext_getElem?
 intro i
 rw [cP]
 simp
theorem uB(n:Nat)(a m:Int)(ts:List TD):othM n a m (n+1) ts=othM n a m n ts:=by
 apply List.ext_getElem?
 intro i
 rw [cP,cP]
 congr 1
 funext t
 by_cases h:i<n+1/\i≠n
 ·rw [if_pos h,if_pos ⟨by omega,h.2⟩]
 ·rw [if_neg h,if_neg Za]
theorem kO{n:Nat}{a m:Int}{k:Nat}{ts:List TD}{t:TD}(hk:k≠n)(ht:ts[k]?=some t):othM n a m (k+1) ts=(othM n a m k ts).set k (clrW a m t):=by
 have zj:=(List.getElem?_eq_some_iff.1 ht).1
 apply List.ext_getElem?
 intro i
 rw [List.getElem?_set,cP,cP,kP]
 by_cases h:k=i
 ·subst h
  rw [if_pos rfl,if_pos zj,ht]
  simp [hk]
 ·rw [if_neg h]
  congr 1
  funext t
  by_cases h2:i<k+1/\i≠n
  ·rw [if_pos h2,if_pos ⟨by omega,h2.2⟩]
  ·rw [if_neg h2,if_neg Za]
theorem uA{n:Nat}{a m:Int}{k:Nat}{ts:List TD}{t:TD}(hk:k≠n)(ht:ts[k]?=some t)(hc:clrW a m t=t):othM n a m (k+1) ts=othM n a m k ts:=by
 rw [kO hk ht,hc]
 apply List.ext_getElem?
 intro i
 rw [List.getElem?_set]
 split
 ·rename_i h
  subst h
  have zj:=(List.getElem?_eq_some_iff.1 ht).1
  rw [kP,if_pos zj,cP,ht]
  simp
 ·rfl
section
variable{W:qW}{M:Nat}{F:Nat->Prop}{bs:List Nat}{s:MSt}
theorem MacAt.bl(h:MacAt W M F bs s):bs.length=s.ts.length:=by
 obtain ⟨tv,bv,ks,rfl,hm,hf⟩:=h.at_
 simpa using hm.len
theorem MacAt.row(h:MacAt W M F bs s): ∃g c,W.cell? (aB M 0)=some (.slice (aA g) bs.length c)/\bs.length<=c/\g<W.heap.size/\ ∀(n b:Nat),bs[n]?=some b->W.cell? (aB g n)=some (pP b):=by
 have hl:=h.bl
 have h1:=h.ok.n1
 obtain ⟨tv,bv,ks,rfl,hm,hf⟩:=h.at_
 have q0:=hm.cells 0
 obtain ⟨g,c,rfl,hc,hg,hr⟩:=hm.row (by rw [List.length_map] at hl;omega)
 refine ⟨g,c,q0.trans (by simp [mcC]),by simpa using hc,hg,fun n b hb=>?_⟩
 rw [zaj] at hb
 rcases hq:ks[n]? with _|q
 ·rw [hq] at hb
  simp at hb
 ·rw [hq] at hb
  obtain rfl:q.b=b:=by simpa using hb
  exact hr n q hq
theorem MacAt.blk{n b:Nat}(h:MacAt W M F bs s)(hb:bs[n]?=some b): ∃cs,W.heap[b]?=some (.cells cs 82 (0,0)):=by
 have hl:=h.bl
 have hn:=(List.getElem?_eq_some_iff.1 hb).1
 obtain ⟨cv,pv,gs,sc,hx, -⟩:=h.th hb (zaC (show n<s.ts.length by omega))
 exact ⟨_,hx.ob.out⟩
theorem MacAt.put'{g c:Nat}(h:MacAt W M F bs s)(hl:0<s.bytes.length)(hq:W.cell? (aB M 1)=some (.slice (aA g) s.bytes.length c)): ∃cur,F g/\W.heap[g]?=some (.cells cur 5 (0,0))/\s.bytes.length<=cur.size/\g≠M/\
  ∀(j x k:Nat) (W':qW),j+k<=s.bytes.length->W'.heap[g]?=some (.cells (splice cur.toList j ((List.range k).map (byteV x))).toArray 5 (0,0))->Kp (fun b=>b=g) W W'->W'.heap.size=W.heap.size->MacAt W' M F bs {s with bytes:=putBy s.bytes j x k}:=by
 obtain ⟨g',c',cur,q1,h2,h3,h4,h5,h6,h7,h8⟩:=h.put hl
 have e:=zae (q1.symm.trans hq)
 injection e with e1 e2 e3
 injection e1 with e1
 injection e1 with e1 e4 e5
 subst e1
 refine ⟨cur,h5,h6,h7,fun e=>?_,h8⟩
 subst e
 obtain ⟨tv,bv,ks,rfl,hm,hf⟩:=h.at_
 have:=hm.ob.out.symm.trans h6
 injection this with this
 injection this with a1 a2 a3
 exact absurd a2 Zg
end
theorem rS(x y:Int)(w:qW):(Instr.index 40 (.agg #[.int .u64 x,.int .u64 y]) (iI 0)).run Tryz.prog w= .ok (.int .u64 x) w:=by kernel_rfl
theorem jN(x y:Int)(w:qW):(Instr.index 40 (.agg #[.int .u64 x,.int .u64 y]) (iI 1)).run Tryz.prog w= .ok (.int .u64 y) w:=by kernel_rfl
theorem rR{P:Program}(w:qW){tp te:TypeId}{j:TypeInfo}{a b:Addr}{ca cb:Array qV}{ta tb:TypeId}(hp:P.underlying tp=some (.pointer te))(Np:P.info? te=some j)(hsz:j.size≠0)
  (hne:a≠b) (ha:w.heap[a.block]?=some (.cells ca ta (0,0))) (hb:w.heap[b.block]?=some (.cells cb tb (0,0))):
  (binOp .neq tp (.pointer (some a)) (.pointer (some b))).run P w= .ok (.bool true) w:=by
 have h: ∀d:Nat,(Op.equalIn (d+1) tp (.pointer (some a)) (.pointer (some b))).run P w= .ok false w:=fun d=>by
  simp [Op.equalIn,run_underlying hp,sizeOf,typeInfo,Np,hsz,run_sameAddr_other w hne ha hb]
 simp only [binOp]
 simp [Op.equal,Op.maxDepth,h 9999]
section
variable{ops:Array Oper}{S:qW->Prop}{op:Oper}{a:Act}
theorem yan(hw:Region.wanted op (yielded ops a.tmps)=true)(x y:Operand)(ho:op.op= .binOp .neq 74 x y 74)(b:Nat)(hx:a.eval x=pP b)(hy:a.eval y=pP b)(hS: ∀w,S w->True):YieldsIf Tryz.prog ops S op (.bool false) a:= .inl ⟨hw,fun w _=>by
 obtain ⟨j,hj, -⟩:=Option.map_eq_some_iff.1 l5
 unfold execOp
 simp only [ho,hx,hy,eqGuard_at_pointer,Sem.run_bind,Sem.run_pure,Result.andThen_ok,Lib.run_neq_ptr_same w (⟨b,0,none⟩:Addr) Tryz.underlying74 hj,Result.andThen_ok,Sem.run_pure]⟩
theorem yao(hw:Region.wanted op (yielded ops a.tmps)=true)(x y:Operand)(ho:op.op= .binOp .neq 74 x y 74)(b c:Nat)(hne:b≠c)(hx:a.eval x=pP b)(hy:a.eval y=pP c)(hS: ∀w,S w->(∃cs,w.heap[b]?=some (.cells cs 82 (0,0)))/\ ∃cs,w.heap[c]?=some (.cells cs 82 (0,0))):YieldsIf Tryz.prog ops S op (.bool true) a:= .inl ⟨hw,fun w hs=>by
 obtain ⟨j,hj,hjs⟩:=Option.map_eq_some_iff.1 l5
 obtain ⟨⟨ca,ha⟩,cb,hb⟩:=hS w hs
 unfold execOp
 simp only [ho,hx,hy,eqGuard_at_pointer,Sem.run_bind,Sem.run_pure,Result.andThen_ok,rR w (a:=(⟨b,0,none⟩:Addr)) (b:=⟨c,0,none⟩) Tryz.underlying74 hj Za (fun e=>hne (congrArg Addr.block e)) ha hb,Result.andThen_ok,Sem.run_pure]⟩
end
def bkW(l:List Nat)(j m d0 d1:Nat)(k:Nat):List Nat:=if k=0 then l else if k=1 then putBy l j d0 (min m 8) else wrM l j m d0 d1
theorem iS:(Tryz.prog.info? 5).map (·.size)=some 1:=by kernel_rfl
theorem nC(x m:Nat)(hm:m<=8\/m=16)(w:qW):qC 51 #[.int .u64 x,iI m] w fun e w'=>e= .returned (.slice (aA w.heap.size) (min m 8) (min m 8))/\w'.rowIs w.heap.size 5 (min m 8) (byteV x)/\Below w.heap.size w w':=by
 rcases hm with hm|rfl
 ·rw [show min m 8=m by omega]
  exact yel x m hm w
 ·exact yen x 16 Za w
theorem yeC(l:List Nat)(j m d0 d1:Nat)(hm:m<=8\/m=16)(hj:j+m<=l.length)(k:Nat):(bkW l j m d0 d1 k).length=l.length:=by
 unfold bkW wrM putBy
 have h1:(splice l j ((List.range (min m 8)).map (byteN d0))).length=l.length:=length_splice _ _ _ Zk
 split
 ·rfl
 ·split
  ·exact h1
  ·rcases hm with hm|rfl
   ·rw [show m-8=0 by omega]
    simp only [List.range_zero,List.map_nil]
    unfold splice at h1 ⊢
    simp at h1 ⊢
    omega
   ·rw [length_splice _ _ _ (by rw [h1];simp;omega),h1]
structure WrA(W:qW)(M:Nat)(F:Nat->Prop)(bs:List Nat)(s:MSt)(g c:Nat)(acc:Array qV)(tv:qV)(bytes:List Nat)(ts:List TD)(X:qW):Prop where
 mac:MacAt X M F bs {s with bytes:=bytes,ts:=ts}
 acc:X.heap[W.heap.size]?=some (.cells acc 42 (0,0))
 kp:Kp F W X
 m1:X.cell? (aB M 1)=some (.slice (aA g) s.bytes.length c)
 len:bytes.length=s.bytes.length
 m0:X.cell? (aB M 0)=some tv
theorem WrA.below{W X X':qW}{M:Nat}{F:Nat->Prop}{bs:List Nat}{s:MSt}{g c:Nat}{acc:Array qV}{tv:qV}{bytes:List Nat}{ts:List TD}(h:WrA W M F bs s g c acc tv bytes ts X)(hb:Below X.heap.size X X'):WrA W M F bs s g c acc tv bytes ts X':=
 ⟨h.mac.below hb,(hb.block _ (ac h.acc)).trans h.acc,h.kp.trans (Kp.of_below hb),(hb.cell (p:=⟨M,1,none⟩) h.mac.M_lt).trans h.m1,h.len,(hb.cell (p:=⟨M,0,none⟩) h.mac.M_lt).trans h.m0⟩
theorem yeB{l:List Nat}{j m d0 d1:Nat}(hm:m<=8)(hj:j+m<=l.length):bkW l j m d0 d1 2=bkW l j m d0 d1 1:=by
 unfold bkW wrM
 simp only [if_neg (show¬2=0 by omega),if_neg (show¬2=1 by omega),if_neg (show¬1=0 by omega),if_true]
 rw [show m-8=0 by omega]
 unfold putBy
 generalize splice l j ((List.range (min m 8)).map (byteN d0))=L
 simp [splice]
theorem jw{w:qW}{g k x:Nat}(h:w.rowIs g 5 k (byteV x))(i:Nat)(v:qV)(hv:((List.range k).map (byteV x))[i]?=some v):w.cell? ((⟨g,0,none⟩:Addr).add i)=some v:=by
 rw [Addr.add_mid,zag]
 rw [zaj] at hv
 by_cases hi:i<k
 ·rw [List.getElem?_range hi] at hv
  obtain rfl:byteV x i=v:=by simpa using hv
  exact h.cell hi
 ·rw [List.getElem?_eq_none (by simpa using hi)] at hv
  cases hv
theorem oy{W:qW}{M:Nat}{F:Nat->Prop}{bs:List Nat}{s:MSt}(h:MacAt W M F bs s)(n b:Nat)(hb:bs[n]?=some b)(j m d0 d1:Nat)(Aw:1<=m)(BQ:m<=8\/m=16)(Gi:j+m<=s.bytes.length)(wb ex acq rel:Bool):
  qC 22 #[pP M,pP b,accV wb ((j:Int)+65536) m ex acq rel (d0:Nat) (d1:Nat)] W fun e w'=>e= .returned (.tuple #[])/\MacD W M F bs {s with bytes:=wrM s.bytes j m d0 d1,ts:=othM n ((j:Int)+65536) m s.ts.length s.ts} w':=by
 have hM:=h.M_lt
 have xg:=h.ok.bl
 obtain ⟨g,c,q1,hc,Dm,hg, -⟩:=h.bytes Za
 obtain ⟨gt,ct,q0,hct,hgt, -⟩:=h.row
 have zZ:=Zh h.bl
 have Ju:=h.ok.n8
 have H:=Zh h
 clear h
 unfold accV
 go_enter Tryz.func22,Tryz.ntmps22
 go_wp2_with fail
 refine aT (R:=fun X=>Below W.heap.size W X/\X.heap[W.heap.size]?=some (.cells (accC wb ((j:Int)+65536) m ex acq rel (d0:Nat) (d1:Nat)) 42 (0,0))) ⟨ab (zaa _ _) _,zab _ _⟩ ?_
 rintro V ⟨yw,hs⟩
 have BX:IntKind.i64.wrap (j:Int)=(j:Int):=a7 Za Za
 have Fc:(j:Int)+65536-65536=(j:Int):=by omega
 have Fb:(j:Int)<=s.bytes.length:=by omega
 have JP:j<=s.bytes.length:=by omega
 have yr:s.bytes.length<=c:=hc
 have D7:(j:Int)<=c:=by omega
 have J4:(m:Int)<=(c:Int)-j:=by omega
 have hc5:m<=c-j:=by omega
 have hc6: ¬c=j:=by omega
 have yJ:=Zh yw
 have hA:V.drew.cell? (aB W.heap.size 1)=some (iI ((j:Int)+65536))/\V.drew.cell? (aB W.heap.size 2)=some (iI m)/\V.drew.cell? (aB M 1)=some (.slice (aA g) s.bytes.length c):=⟨aa hs 1,aa hs 2,(yw.cell (p:=⟨M,1,none⟩) hM).trans q1⟩
 have hB:True:=trivial
 clear yw
 refine ae (fun X=>X.cell? (aB W.heap.size 1)=some (iI ((j:Int)+65536))/\X.cell? (aB W.heap.size 2)=some (iI m)/\X.cell? (aB M 1)=some (.slice (aA g) s.bytes.length c)) (fun W=>True) 13 rfl ?_
 refine Zp 0 rfl (h:=Zp 1 rfl (h:=Zp 2 rfl (h:=?_)));try simp only [Zq]
 refine Zt 3 rfl (h:=Zp 4 rfl (h:=Zp 5 rfl (h:=?_)));try simp only [Zq]
 refine Zt 6 rfl (h:=Zp 7 rfl (h:=Zp 8 rfl (h:=?_)));try simp only [Zq]
 refine Zp 9 rfl (h:=Zp 10 rfl (h:=Zt 11 rfl (h:=?_)));try simp only [Zq]
 refine Zp 12 rfl (h:=?_);try simp only [Zq]
 refine Zs 13 rfl fun K hK=>?_
 go_simp
 refine hK _ _ ⟨hA,fun _=>trivial⟩ ?_
 clear hK K hA hB BX Fc Fb JP yr D7 J4
 refine af Zb ?_ _
 have k6:V.cell? (aB W.heap.size 6)=some (.int .u64 (d0:Nat)):=aa hs 6
 have k7:V.cell? (aB W.heap.size 7)=some (.int .u64 (d1:Nat)):=aa hs 7
 go_wp2_with fail
 have HW:Hid (WrA W M F bs s g c (accC wb ((j:Int)+65536) m ex acq rel (d0:Nat) (d1:Nat)) (.slice (aA gt) bs.length ct) s.bytes s.ts V.drew):=Zh ⟨H.out.below (ag yJ.out),hs,Kp.of_below (ag yJ.out),(yJ.out.cell (p:=⟨M,1,none⟩) hM).trans q1,rfl,(yJ.out.cell (p:=⟨M,0,none⟩) hM).trans q0⟩
 have HL:=Zh (fun k=>yeC s.bytes j m d0 d1 BQ Gi k)
 have HF:=Zh H.out.lt
 have KH:=Zh q0
 clear hs yJ k6 k7 q1 q0 H
 go_loopw [27] (fun v27 wr=> ∃k:Nat,v27=iI k/\k<=2/\WrA W M F bs s g c (accC wb ((j:Int)+65536) m ex acq rel (d0:Nat) (d1:Nat)) (.slice (aA gt) bs.length ct) (bkW s.bytes j m d0 d1 k) s.ts wr) (fun v27 _=>2-(intOf v27).toNat)
 case atStart=>exact ⟨0,rfl,by omega,HW.out⟩
 case round=>
  obtain ⟨k,rfl,hk,hw⟩:=hrel
  have hc7: ¬c-j=0:=by omega
  obtain rfl|rfl|rfl:k=0\/k=1\/k=2:=by omega
  ·have hw:=Zh hw
   have m1:(0:Int)<m:=by omega
   have X0:=rS (d0:Nat) (d1:Nat) wr
   go_wp2_with fail
   have hA:True:=trivial
   have hB:True:=trivial
   have Jw:IntKind.i64.wrap (m:Int)=(m:Int):=a7 Za Za
   have m2:(0:Int)<=m:=by omega
   refine ae (fun X=>True) (fun W=>True) 9 rfl ?_
   refine Zp 0 rfl (h:=Zp 1 rfl (h:=Zp 2 rfl (h:=?_)));try simp only [Zq]
   refine Zp 3 rfl (h:=Zp 4 rfl (h:=Zp 5 rfl (h:=?_)));try simp only [Zq]
   refine Zp 6 rfl (h:=Zp 7 rfl (h:=?_));try simp only [Zq]
   refine Zs 8 rfl fun K hK=>?_
   go_simp
   go_at_call 51
   refine (nC d0 m BQ _).mono ?_
   rintro e V5 ⟨rfl,FR,CX⟩
   have w5:=Zh (hw.out.below (ar (ag (zaa _ wr)) CX (zaq _)))
   refine hK _ _ ⟨trivial,fun _=>trivial⟩ ?_
   clear hK K
   obtain ⟨cur,zN,Cc,i',Fg,zG⟩:=w5.out.mac.put' (g:=g) (c:=c) (by rw [w5.out.len];omega) (by rw [w5.out.len];exact w5.out.m1)
   have wX:=w5.out.len
   simp only at i' zG
   rw [wX] at i' zG
   have hg6:=(HF.out g zN).2
   refine Zs 9 rfl fun K hK=>?_
   refine jr rfl (.tmp 39) (.tmp 45) 22 22 rfl 5 Tryz.underlying22 iS g j ⟨wr.drew.heap.size,0,none⟩ m (c-j) (min m 8) (min m 8) rfl rfl cur 5 Cc ((List.range (min m 8)).map (byteV d0)) (by simp [Nat.min_def];split<;>omega) (fun i v hv=>?_) Zk (fun v hv=>?_) ?_
   ·exact jw FR i v hv
   ·obtain ⟨i, -,rfl⟩:=List.mem_map.1 hv
    rfl
   intro V6 g6 k6 z6
   have F8:=zG j d0 (min m 8) V6 Za g6 k6 z6
   refine hK _ _ ⟨trivial,fun _=>trivial⟩ ?_
   refine af Zb ?_ _
   have Ha:Hid (WrA W M F bs s g c (accC wb ((j:Int)+65536) m ex acq rel (d0:Nat) (d1:Nat)) (.slice (aA gt) bs.length ct) (bkW s.bytes j m d0 d1 1) s.ts V6):=Zh ⟨F8,(k6.block _ (ac w5.out.acc) Za).trans w5.out.acc,w5.out.kp.trans (k6.mono (fun k _ e=>e ▸ zN)),(k6.cell w5.out.mac.M_lt (fun e=>Fg e.symm)).trans w5.out.m1,HL.out 1,(k6.cell w5.out.mac.M_lt (fun e=>Fg e.symm)).trans w5.out.m0⟩
   clear hK K zG F8 g6 k6 z6 Cc FR CX w5 hw
   go_wp2_with fail
   exact ⟨⟨1,rfl,by omega,Ha.out⟩,by simp [intOf]⟩
  ·by_cases h8:m<=8
   ·have m1: ¬(8:Int)<m:=by omega
    have X1:=jN (d0:Nat) (d1:Nat) wr
    have Ha:Hid (WrA W M F bs s g c (accC wb ((j:Int)+65536) m ex acq rel (d0:Nat) (d1:Nat)) (.slice (aA gt) bs.length ct) (bkW s.bytes j m d0 d1 2) s.ts wr):=Zh (by rw [yeB h8 Za];exact hw)
    clear hw
    go_wp2_with fail
    exact ⟨⟨2,rfl,by omega,Ha.out⟩,by simp [intOf]⟩
   ·have ER:m=16:=by omega
    have I3:=Zh ER
    have hw:=Zh hw
    have m1:(8:Int)<(m:Int):=by omega
    have m3:(8:Int)<=(m:Int):=by omega
    have m4:8<=m:=by omega
    have Jw:IntKind.i64.wrap ((m:Int)-8)=8:=by rw [ER];rfl
    clear ER
    have X1:=jN (d0:Nat) (d1:Nat) wr
    have hc8: ¬c-j=8:=by omega
    go_wp2_with fail
    have hA:True:=trivial
    have hB:True:=trivial
    refine ae (fun X=>True) (fun W=>True) 9 rfl ?_
    refine Zp 0 rfl (h:=Zp 1 rfl (h:=Zp 2 rfl (h:=?_)));try simp only [Zq]
    refine Zp 3 rfl (h:=Zp 4 rfl (h:=Zp 5 rfl (h:=?_)));try simp only [Zq]
    refine Zp 6 rfl (h:=Zp 7 rfl (h:=?_));try simp only [Zq]
    refine Zs 8 rfl fun K hK=>?_
    go_simp
    go_at_call 51
    refine (nC d1 8 (.inl Za) _).mono ?_
    rintro e V5 ⟨rfl,FR,CX⟩
    have w5:=Zh (hw.out.below (ar (ag (zaa _ wr)) CX (zaq _)))
    refine hK _ _ ⟨trivial,fun _=>trivial⟩ ?_
    clear hK K
    obtain ⟨cur,zN,Cc,i',Fg,zG⟩:=w5.out.mac.put' (g:=g) (c:=c) (by rw [w5.out.len];omega) (by rw [w5.out.len];exact w5.out.m1)
    have wX:=w5.out.len
    simp only at i' zG
    rw [wX] at i' zG
    have hg6:=(HF.out g zN).2
    refine Zs 9 rfl fun K hK=>?_
    refine jr rfl (.tmp 39) (.tmp 45) 22 22 rfl 5 Tryz.underlying22 iS g (j+8) ⟨wr.drew.heap.size,0,none⟩ (m-8) (c-j-8) 8 8 rfl rfl cur 5 Cc ((List.range 8).map (byteV d1)) (by rw [I3.out];simp) (fun i v hv=>?_) (by have:=I3.out;simp;omega) (fun v hv=>?_) ?_
    ·exact jw FR i v hv
    ·obtain ⟨i, -,rfl⟩:=List.mem_map.1 hv
     rfl
    intro V6 g6 k6 z6
    have F8:=zG (j+8) d1 8 V6 (by have:=I3.out;omega) g6 k6 z6
    refine hK _ _ ⟨trivial,fun _=>trivial⟩ ?_
    refine af Zb ?_ _
    have Ha:Hid (WrA W M F bs s g c (accC wb ((j:Int)+65536) m ex acq rel (d0:Nat) (d1:Nat)) (.slice (aA gt) bs.length ct) (bkW s.bytes j m d0 d1 2) s.ts V6):=Zh ⟨(by have e:bkW s.bytes j m d0 d1 2=putBy (bkW s.bytes j m d0 d1 1) (j+8) d1 8:=(by unfold bkW wrM;rw [I3.out];rfl);rw [e];exact F8),(k6.block _ (ac w5.out.acc) Za).trans w5.out.acc,w5.out.kp.trans (k6.mono (fun k _ e=>e ▸ zN)),(k6.cell w5.out.mac.M_lt (fun e=>Fg e.symm)).trans w5.out.m1,HL.out 2,(k6.cell w5.out.mac.M_lt (fun e=>Fg e.symm)).trans w5.out.m0⟩
    clear hK K zG F8 g6 k6 z6 Cc FR CX w5 hw
    go_wp2_with fail
    exact ⟨⟨2,rfl,by omega,Ha.out⟩,by simp [intOf]⟩
  ·have q0:=hw.m0
   have hw:=Zh hw
   rw [show ((2:Nat):Int)=2 from rfl]
   go_wp2_with fail
   clear q0
   generalize wr=wy at*
   go_loopw [53] (fun v53 wz=> ∃k:Nat,v53=iI k/\k<=bs.length/\WrA W M F bs s g c (accC wb ((j:Int)+65536) m ex acq rel (d0:Nat) (d1:Nat)) (.slice (aA gt) bs.length ct) (bkW s.bytes j m d0 d1 2) (othM n ((j:Int)+65536) m k s.ts) wz) (fun v53 _=>bs.length-(intOf v53).toNat)
   case atStart=>exact ⟨0,rfl,by omega,by rw [uz];exact hw.out⟩
   case round=>
    obtain ⟨k,rfl,hk,hz⟩:=hrel
    by_cases zj:k<bs.length
    ·obtain ⟨bk,Az⟩: ∃bk,bs[k]?=some bk:=⟨bs[k],zaC zj⟩
     have Dj:k<s.ts.length:=by have:=zZ.out;omega
     obtain ⟨t,ht⟩: ∃t,s.ts[k]?=some t:=⟨s.ts[k],zaC Dj⟩
     have C9:(othM n ((j:Int)+65536) m k s.ts)[k]?=some t:=by rw [cP,ht];simp
     obtain ⟨cv,pv,gs,sc,hx,IF,CN,D0,yQ,xU⟩:=hz.mac.th Az C9
     have q36:wr.cell? (aB bk 36)=some (iI t.st.wa):=hx.st 34 Za
     have q37:wr.cell? (aB bk 37)=some (iI t.st.wl):=hx.st 35 Za
     have qf:=ai hx.ob.out
     have ac1:wr.cell? (aB W.heap.size 1)=some (iI ((j:Int)+65536)):=aa hz.acc 1
     have ac2:wr.cell? (aB W.heap.size 2)=some (iI m):=aa hz.acc 2
     have qrow:wr.cell? (aB gt k)=some (pP bk):=by
      obtain ⟨g',c',q0', -, -,hr⟩:=hz.mac.row
      have e:=zae (q0'.symm.trans hz.m0)
      injection e with e1 e2 e3
      injection e1 with e1
      injection e1 with e1 e4 e5
      exact e1 ▸ hr k bk Az
     have Ew:(k:Int)<bs.length:=by omega
     have wT:IntKind.i64.wrap ((k:Int)+1)=(k:Int)+1:=a7 Za Za
     have EI:=hx.ob.lt
     by_cases zu:k=n
     ·have yz:b=bk:=by
       rw [zu,hb] at Az
       exact zae Az
      subst yz
      have HZ:=Zh hz
      have IW:=Zh zu
      clear xU CN yQ hx hz zu
      go_wp2_with fail
      have hA:True:=trivial
      have hB:True:=trivial
      refine ae (fun X=>True) (fun W=>True) 12 rfl ?_
      refine Zp 0 rfl (h:=Zp 1 rfl (h:=?_));try simp only [Zq]
      refine bD 2 (v:= .bool false) rfl Zb Zb Zb (fun _ _ _ h=>h) Zg Zb (yan rfl (.tmp 57) (.tmp 58) rfl b rfl rfl (fun _ _=>trivial)) ⟨hA,fun _=>hB⟩ ?_
      try simp only [Zq]
      refine Zp 3 rfl (h:=Zn 4 rfl (h:=?_));try simp only [Zq]
      refine Zn 5 rfl (h:=Zn 6 rfl (h:=?_));try simp only [Zq]
      refine Zn 7 rfl (h:=Zn 8 rfl (h:=?_));try simp only [Zq]
      refine Zn 9 rfl (h:=Zn 10 rfl (h:=?_));try simp only [Zq]
      refine Zn 11 rfl (h:=?_);try simp only [Zq]
      refine Zs 12 rfl fun K hK=>?_
      go_simp
      refine hK _ _ ⟨trivial,fun _=>trivial⟩ ?_
      clear hK K
      refine af Zb ?_ _
      go_wp2_with fail
      exact ⟨⟨k+1,by simp,by omega,by rw [show othM n ((j:Int)+65536) m (k+1) s.ts=othM n ((j:Int)+65536) m k s.ts from by rw [IW.out];exact uB ..];exact HZ.out.below (ag (zaa _ _))⟩,by simp [intOf];omega⟩
     ·have yz:bk≠b:=hz.mac.bs_ne Az hb zu
      have MD: ∃cs,wr.heap[bk]?=some (.cells cs 82 (0,0)):=⟨_,hx.ob.out⟩
      have MC: ∃cs,wr.heap[b]?=some (.cells cs 82 (0,0)):=hz.mac.blk hb
      have HZ:=Zh hz
      have IW:=Zh zu
      clear xU CN yQ hx hz zu
      go_wp2_with fail
      have hA:wr.drew.cell? (aB bk 36)=some (iI t.st.wa)/\wr.drew.cell? (aB bk 37)=some (iI t.st.wl)/\wr.drew.cell? (aB W.heap.size 1)=some (iI ((j:Int)+65536))/\wr.drew.cell? (aB W.heap.size 2)=some (iI m)/\(∃cs,wr.drew.heap[bk]?=some (.cells cs 82 (0,0)))/\ ∃cs,wr.drew.heap[b]?=some (.cells cs 82 (0,0)):=⟨q36,q37,ac1,ac2,MD,MC⟩
      have hB:True:=trivial
      have L8:W.heap.size<wr.heap.size:=ac HZ.out.acc
      refine ae (fun X=>X.cell? (aB bk 36)=some (iI t.st.wa)/\X.cell? (aB bk 37)=some (iI t.st.wl)/\X.cell? (aB W.heap.size 1)=some (iI ((j:Int)+65536))/\X.cell? (aB W.heap.size 2)=some (iI m)/\(∃cs,X.heap[bk]?=some (.cells cs 82 (0,0)))/\ ∃cs,X.heap[b]?=some (.cells cs 82 (0,0))) (fun W=>True) 12 rfl ?_
      refine Zp 0 rfl (h:=Zp 1 rfl (h:=?_));try simp only [Zq]
      refine bD 2 (v:= .bool true) rfl Zb Zb Zb (fun _ _ _ h=>h) Zg Zb (yao rfl (.tmp 57) (.tmp 58) rfl bk b yz rfl rfl ?_) ⟨hA,fun _=>hB⟩ ?_
      ·exact fun w hw=>hw.2.2.2.2
      try simp only [Zq]
      refine Zp 3 rfl (h:=Zp 4 rfl (h:=Zp 5 rfl (h:=?_)));try simp only [Zq]
      refine Zp 6 rfl (h:=Zp 7 rfl (h:=Zt 8 rfl (h:=?_)));try simp only [Zq]
      refine Zp 9 rfl (h:=Zt 10 rfl (h:=?_));try simp only [Zq]
      refine eJ 11 rfl Zb (by rfl) (fun K hK=>?_)
      go_simp
      go_at_call 52
      refine (wF _ _ _ _ _).mono ?_
      rintro e V1 ⟨rfl,xX⟩
      have ye:Below wr.heap.size wr V1:=ar (ag (zaa _ wr)) xX (zaq _)
      have ya:V1.cell? (aB bk 36)=some (iI t.st.wa)/\V1.cell? (aB bk 37)=some (iI t.st.wl)/\V1.cell? (aB W.heap.size 1)=some (iI ((j:Int)+65536))/\V1.cell? (aB W.heap.size 2)=some (iI m)/\(∃cs,V1.heap[bk]?=some (.cells cs 82 (0,0)))/\ ∃cs,V1.heap[b]?=some (.cells cs 82 (0,0)):=⟨(ye.cell (p:=⟨bk,36,none⟩) EI).trans q36,(ye.cell (p:=⟨bk,37,none⟩) EI).trans q37,(ye.cell (p:=⟨W.heap.size,1,none⟩) L8).trans ac1,(ye.cell (p:=⟨W.heap.size,2,none⟩) L8).trans ac2,MD.imp (fun cs h=>(ye.block _ EI).trans h),MC.imp (fun cs h=>(ye.block _ (ac h)).trans h)⟩
      refine hK _ _ ⟨ya,fun _=>trivial⟩ ?_
      clear hK K hA
      have hA:=ya
      refine Zs 12 rfl fun K hK=>?_
      go_simp
      refine hK _ _ ⟨hA,fun _=>trivial⟩ ?_
      clear hK K
      refine af Zb ?_ _
      have xm:=HZ.out.below ye
      have Cj:=Zh xm
      obtain ⟨cv,pv,gs,sc,hx,IF,CN,D0,yQ,xU⟩:=xm.mac.th Az C9
      obtain ⟨K4,y7⟩:=hx.setW (fun e=>yQ (e ▸ .inl rfl))
      have hD:=xU {t with st:={t.st with wa:=0,wl:=0}} _ pv {Cj.out.mac.ok.th t (zat C9) with st:=by have:=(Cj.out.mac.ok.th t (zat C9)).st;exact ⟨this.1,this.2.1,cF,cF⟩} K4 (fun k hk=> .inl (eN (t:=t) (t':={t with st:={t.st with wa:=0,wl:=0}}) rfl rfl rfl hk)) (y7.mono (fun k _ e=> .inl e))
      have HD:=Zh (MacD.flat xm.mac hD (by simp [World.setCell]))
      have HFb:Hid (F bk):=Zh (CN bk (.inl rfl))
      have yI:=Zh y7
      have qf1:=ai hx.ob.out
      obtain ⟨q36,q37,ac1,ac2, -, -⟩:=hA
      have GV:M≠bk:=by omega
      have AX:W.heap.size≠bk:=by have:=(HF.out bk HFb.out).2;omega
      have hbk1:=hx.ob.lt
      clear xU CN yQ hx xm ya xX ye K4 y7 hD qf
      cases Lw:meetsB t.st.wa t.st.wl ((j:Int)+65536) m
      ·go_wp2_with fail
       exact ⟨⟨k+1,by simp,by omega,by rw [uA IW.out ht (by unfold clrW;rw [Lw];rfl)];exact Cj.out⟩,by simp [intOf];omega⟩
      ·go_wp2_with fail
       have i':clrW ((j:Int)+65536) m t={t with st:={t.st with wa:=0,wl:=0}}:=by unfold clrW;rw [Lw];rfl
       refine ⟨⟨k+1,by simp,by omega,?_⟩,by simp [intOf];omega⟩
       rw [kO IW.out ht,i']
       exact ⟨HD.out,(yI.out.block _ (ac Cj.out.acc) AX).trans Cj.out.acc,Cj.out.kp.trans (yI.out.mono (fun k _ e=>e ▸ HFb.out)),(yI.out.cell Cj.out.mac.M_lt GV).trans Cj.out.m1,Cj.out.len,(yI.out.cell Cj.out.mac.M_lt GV).trans Cj.out.m0⟩
    ·have zM:k=bs.length:=by omega
     have Ew: ¬(k:Int)<bs.length:=by omega
     have Ht:=Zh zM
     clear zM
     have hz:=Zh hz
     go_wp2_with fail
     go_end0
     have em:=hz.out.m0
     have e:=hz.out
     rw [Ht.out,zZ.out] at e
     exact ⟨rfl,e.mac.wide (fun k hk=> .inl hk) (dk HF.out hM e.kp.size),e.kp,em.trans KH.out.symm⟩
end Go.Proofs.YtcekjfmfcefjpaaGreatDoor
