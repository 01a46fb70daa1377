/- Walks. No condition. -/
import Derived.Lib.Builder
import Derived.Test.YtjmfoeajhiimnaaGreatDoorG36
set_option maxRecDepth 100000
set_option maxHeartbeats 0
set_option linter.all false
namespace Go.Proofs.YtjmfoeajhiimnaaGreatDoor
open Go.RowKit Go.Sort
theorem qR{P:Program}{ops:Array Oper}{o:Oper}{a:Act}{w:qW}{K:Act->qW->Prop}{Q:Exit->Act->qW->Prop}{E:Prop}(hgd:o.guard=none)(d s:Operand)(dT sT:TypeId)
  (ho:o.op= .call {callee:= .builtin .copy,args:=#[d,s],argTypes:=#[dT,sT]}) (elem:TypeId) (hu:P.underlying dT=some (.slice elem)) (hsz:(P.info? elem).map (·.size)=some 1)
  (g off:Nat) (ad:Addr) (dLen dCap sLen sCap:Nat) (hd:a.eval d= .slice (some ⟨g,off,none⟩) dLen dCap) (hs:a.eval s= .slice (some ad) sLen sCap)
  (cur:Array qV) (t:TypeId) (hg:w.heap[g]?=some (.cells cur t (0,0))) (cs:List qV) (hn:cs.length=Nat.min sLen dLen)
  (Jz: ∀j v,cs[j]?=some v->w.cell? (ad.add j)=some v) (zi:off+cs.length<=cur.size) (h1: ∀v∈cs,v.oneCell'=true)
  (h: ∀w',w'.heap[g]?=some (.cells (splice cur.toList off cs).toArray t (0,0))->Kp (fun k=>k=g) w w'->w'.heap.size=w.heap.size->K (a.put o.dst (goInt cs.length)) w'):
  if Region.wanted o (yielded ops a.tmps)=true then Oper.wp P o a w K Q else E:=by
 have hw:Region.wanted o (yielded ops a.tmps)=true:=by simp [Region.wanted,hgd]
 rw [if_pos hw]
 have wY:=run_copy_row (P:=P) w dT sT o.type elem g off dLen dCap ad sLen sCap cur t cs hu hsz hg hn Jz zi h1
 unfold Oper.wp
 simp [execOp,ho,resolve,invoke,builtin,hd,hs,wY,Result.andThen]
 refine h _ ?_ ⟨rfl,rfl,rfl,by simp [World.setRow],fun k _ hx=>setRow_other w g k _ hx⟩ (by simp [World.setRow])
 simpa [splice] using setRow_heap w g _ _ t _ hg
theorem MacD.flat{W W':qW}{M:Nat}{F:Nat->Prop}{bs:List Nat}{s s':MSt}(h0:MacAt W M F bs s)(h:MacD W M F bs s' W')(hs:W'.heap.size=W.heap.size):MacAt W' M F bs s':=
 h.mac.wide (fun k hk=>by
  rcases hk with hk|⟨h1,h2⟩
  ·exact hk
  ·omega) (fun k hk=>by have:=h0.lt k hk;omega)
theorem pJ(cv sv pv:qV)(t:TD):thC (upd (upd (thF cv sv pv t) 36 (iI 0)) 37 (iI 0))=thC (thF cv sv pv {t with st:={t.st with wa:=0,wl:=0}}):=by
 apply eT
 intro k hk
 unfold upd
 by_cases Nb:k=37
 ·subst Nb
  rfl
 ·rw [if_neg Nb]
  by_cases Nc:k=36
  ·subst Nc
   rfl
  ·rw [if_neg Nc]
   unfold thF
   repeat' split
   all_goals try rfl
   unfold St.f
   rw [show (∀a b c d e f:qV,(if k-2<31 then a else if k-2=31 then b else if k-2=32 then c else if k-2=33 then d else if k-2=34 then e else f)=if k-2<31 then a else if k-2=31 then b else if k-2=32 then c else d) from fun a b c d e f=>by
    have h1: ¬k-2=34:=by omega
    have h2:k-2<31\/k-2=31\/k-2=32\/k-2=33:=by omega
    rw [if_neg h1]
    rcases h2 with h|h|h|h<;>simp [h]]
   rw [show (∀a b c d e f:qV,(if k-2<31 then a else if k-2=31 then b else if k-2=32 then c else if k-2=33 then d else if k-2=34 then e else f)=if k-2<31 then a else if k-2=31 then b else if k-2=32 then c else d) from fun a b c d e f=>by
    have h1: ¬k-2=34:=by omega
    have h2:k-2<31\/k-2=31\/k-2=32\/k-2=33:=by omega
    rw [if_neg h1]
    rcases h2 with h|h|h|h<;>simp [h]]
theorem MtX.setW{W:qW}{n b gs sc:Nat}{cv pv:qV}{t:TD}(h:MtX W n b gs cv pv sc t)(hg:gs≠b):
  MtX ((W.setCell ⟨b,36,none⟩ (iI 0)).setCell ⟨b,37,none⟩ (iI 0)) n b gs cv pv sc {t with st:={t.st with wa:=0,wl:=0}}/\Kp (fun k=>k=b) W ((W.setCell ⟨b,36,none⟩ (iI 0)).setCell ⟨b,37,none⟩ (iI 0)):=by
 have hk:Kp (fun k=>k=b) W ((W.setCell ⟨b,36,none⟩ (iI 0)).setCell ⟨b,37,none⟩ (iI 0)):=(Kp.set W _ _ _).trans (Kp.set _ _ _ _)
 have ho:=(h.ob.set 36 (iI 0) (by simp [thR])).set 37 (iI 0) (by simp [thR])
 rw [eg,eg,pJ] at ho
 exact ⟨⟨ho,h.sr.kp hk h.sl hg,by have:=hk.size;have:=h.sl;omega,h.sb⟩,hk⟩
theorem cC{α:Type}(f:α->qV): ∀l:List α,l.flatMap (fun x=>[f x])=l.map f
 |[]=>rfl
 |x::l=>by simp [cC f l]
theorem pS{α:Type}(l:List α)(n o:Nat)(cs:List α)(h:o+cs.length<=n)(hn:n<=l.length):(splice l o cs).take n=splice (l.take n) o cs:=by
 unfold splice
 rw [List.take_append,List.take_append,List.take_take,List.take_take,zaR,List.drop_take]
 rw [show min n o=o by omega,show min o l.length=o by omega,show min o n=o by omega,List.take_of_length_le (show cs.length<=n-o by omega),show n-o-cs.length=n-(o+cs.length) by omega]
theorem yay{α β:Type}(f:α->β)(l:List α)(o:Nat)(cs:List α):(splice l o cs).map f=splice (l.map f) o (cs.map f):=by
 simp [splice,List.map_take,List.map_drop]
theorem rD{l cs:List Nat}(h:Small l)(o:Nat)(hc: ∀x∈cs,x<256):Small (splice l o cs):=by
 have hs: ∀x∈l,x<256:=fun x hx=>by
  obtain ⟨i,hi,rfl⟩:=zaP hx
  have:=h i
  rw [zaU,zaC hi] at this
  exact this
 intro k
 rw [zaU]
 cases he:(splice l o cs)[k]? with
 |none=>simp
 |some x=>
  have hx:=zat he
  unfold splice at hx
  rw [List.mem_append,List.mem_append] at hx
  rcases hx with hx|hx|hx
  ·exact hs x (List.mem_of_mem_take hx)
  ·exact hc x hx
  ·exact hs x (List.mem_of_mem_drop hx)
theorem MacAt.put{W:qW}{M:Nat}{F:Nat->Prop}{bs:List Nat}{s:MSt}(h:MacAt W M F bs s)(hl:0<s.bytes.length): ∃g c cur,W.cell? (aB M 1)=some (.slice (aA g) s.bytes.length c)/\s.bytes.length<=c/\c<=9223372036854775807/\g<W.heap.size/\F g/\W.heap[g]?=some (.cells cur 5 (0,0))/\s.bytes.length<=cur.size/\
  ∀(j x k:Nat) (W':qW),j+k<=s.bytes.length->W'.heap[g]?=some (.cells (splice cur.toList j ((List.range k).map (byteV x))).toArray 5 (0,0))->Kp (fun b=>b=g) W W'->W'.heap.size=W.heap.size->MacAt W' M F bs {s with bytes:=putBy s.bytes j x k}:=by
 obtain ⟨tv,bv,ks,zG,hm,hf⟩:=h.at_
 have q1:=hm.cells 1
 obtain ⟨ba,c,rfl,hc,ho⟩:=hm.mem
 obtain ⟨g,rfl⟩:=cz ho hl
 obtain ⟨xd,AB⟩:=ho
 rcases AB with ⟨e, -⟩|⟨g',cap,cur,e,h2,h3,h4,h5,h6,h7⟩
 ·injection e with e1 e2 e3
  cases e1
 ·injection e with e1 e2 e3
  injection e1 with e1
  injection e1 with e1 e4 e5
  subst e1 e3
  have J':foot M (mcC tv (.slice (aA g) s.bytes.length c) s.size s.taken) (mcR ks s.bytes) g:= .inr ⟨⟨1,5,1,s.bytes.length,s.bytes.flatMap aK⟩,by simp [mcR],by simp [fld,mcC,Value.ownBlock]⟩
  have Au:F g:=hf g (.inl J')
  refine ⟨g,c,cur,q1,hc,?_,(h.lt g Au).2,Au,h3,by omega,fun j x k W' zQ hw hk hsz=>?_⟩
  ·simpa [maxLen] using h5
  ·have Ry:M<g:=by omega
   have xA:(putBy s.bytes j x k).length=s.bytes.length:=length_splice _ _ _ (by simpa using zQ)
   have hR: ∀k',foot M (mcC tv (.slice (aA g) s.bytes.length c) s.size s.taken) (mcR ks (putBy s.bytes j x k)) k'↔foot M (mcC tv (.slice (aA g) s.bytes.length c) s.size s.taken) (mcR ks s.bytes) k':=fun k'=>by
    simp [foot,mcR]
   refine ⟨⟨h.ok.th,h.ok.n1,h.ok.n8,by simpa [xA] using h.ok.bl,rD h.ok.sm j (fun y hy=>by
     obtain ⟨i, -,rfl⟩:=List.mem_map.1 hy
     exact zaL _ Za),by simpa [xA] using h.ok.sz⟩,fun k' AY=>by have:=h.lt k' AY;omega,tv,.slice (aA g) s.bytes.length c,ks,zG,⟨hm.len,⟨?_,?_,by simp [mcR],?_⟩,fun n q t hq ht=>?_,hm.lo,hm.ap,hm.gp,fun n q t hq ht=>?_⟩,fun k' AY=>?_⟩
   ·exact (hk.block M hm.ob.lt Za).trans hm.ob.out
   ·intro r hr
    simp only [mcR,zaM,zaN,or_false] at hr
    rcases hr with rfl|rfl
    ·have h8:=hm.ob.own ⟨0,71,1,ks.length,ks.flatMap (fun q=>[pP q.b])⟩ (by simp [mcR])
     exact ai h8 hk (fun k' AY e=>by
      subst e
      exact hm.ob.apart ⟨0,71,1,ks.length,ks.flatMap (fun q=>[pP q.b])⟩ (by simp [mcR]) ⟨1,5,1,s.bytes.length,s.bytes.flatMap aK⟩ (by simp [mcR]) Zg _ AY (by simp [fld,mcC,Value.ownBlock]))
    ·show W'.ownsRow (M+1) 5 1 (.slice (aA g) s.bytes.length c) (putBy s.bytes j x k).length ((putBy s.bytes j x k).flatMap aK)
     rw [xA]
     have i':s.bytes.length<=cur.toList.length:=by simpa using (show s.bytes.length<=cur.size by omega)
     refine ⟨?_,.inr ⟨g,c,_,rfl,h2,hw,h4,h5,?_,?_⟩⟩
     ·rw [show aK=(fun n:Nat=>[Value.int .u8 n]) from rfl,cC,List.length_map,xA,Nat.mul_one]
     ·have:=length_splice cur.toList j ((List.range k).map (byteV x)) (by simp;simp at i';omega)
      simpa [h6] using this
     ·rw [show aK=(fun n:Nat=>[Value.int .u8 n]) from rfl] at h7 ⊢
      rw [cC] at h7 ⊢
      rw [Nat.mul_one] at h7 ⊢
      unfold putBy
      rw [yay,<-h7,<-pS _ _ _ _ (by simpa using zQ) i']
      simp only [List.map_map]
      rfl
   ·intro r hr q hq hne k' h8 h9
    simp only [mcR,zaM,zaN,or_false] at hr hq
    rcases hr with rfl|rfl<;>rcases hq with rfl|rfl
    ·exact hne rfl
    ·exact hm.ob.apart ⟨0,71,1,ks.length,ks.flatMap (fun q=>[pP q.b])⟩ (by simp [mcR]) ⟨1,5,1,s.bytes.length,s.bytes.flatMap aK⟩ (by simp [mcR]) Zg _ h8 h9
    ·exact hm.ob.apart ⟨1,5,1,s.bytes.length,s.bytes.flatMap aK⟩ (by simp [mcR]) ⟨0,71,1,ks.length,ks.flatMap (fun q=>[pP q.b])⟩ (by simp [mcR]) Zg _ h8 h9
    ·exact hne rfl
   ·exact (hm.th n q t hq ht).kp hk (fun k' AY e=>(hm.mp n q t hq ht).1 k' (e ▸ J') AY) (fun e=>(hm.mp n q t hq ht).2 (e ▸ J'))
   ·exact ⟨fun b hb=>(hm.mp n q t hq ht).1 b ((hR b).1 hb),fun hb=>(hm.mp n q t hq ht).2 ((hR _).1 hb)⟩
   ·refine hf k' ?_
    rcases AY with AY|AY
    ·exact .inl ((hR k').1 AY)
    ·exact .inr AY
theorem MacAt.bs_ne{W:qW}{M:Nat}{F:Nat->Prop}{bs:List Nat}{s:MSt}(h:MacAt W M F bs s){n m b c:Nat}(hb:bs[n]?=some b)(hc:bs[m]?=some c)(hne:n≠m):b≠c:=by
 obtain ⟨tv,bv,ks,rfl,hm,hf⟩:=h.at_
 rw [zaj] at hb hc
 rcases hq:ks[n]? with _|q
 ·rw [hq] at hb
  simp at hb
 rcases hp:ks[m]? with _|p
 ·rw [hp] at hc
  simp at hc
 rw [hq] at hb
 rw [hp] at hc
 obtain rfl:q.b=b:=by simpa using hb
 obtain rfl:p.b=c:=by simpa using hc
 have hn:=(List.getElem?_eq_some_iff.1 hq).1
 have Dg:=(List.getElem?_eq_some_iff.1 hp).1
 have hl:=hm.len
 intro e
 exact hm.ap n q (s.ts[n]'Za) m p (s.ts[m]'Za) hq (zaC _) hp (zaC _) hne q.b (.inl rfl) (.inl e)
theorem cQ(n:Nat)(a m:Int)(k:Nat)(ts:List TD)(i:Nat):(othM n a m k ts)[i]?=ts[i]?.map (fun t=>if i<k/\i≠n then clrW a m t else t):=by
 unfold othM
 rw [List.getElem?_mapIdx]
theorem kW(n:Nat)(a m:Int)(k:Nat)(ts:List TD):(othM n a m k ts).length=ts.length:=by simp [othM]
theorem ve(n:Nat)(a m:Int)(ts:List TD):othM n a m 0 ts=ts:=by
 apply List.ext_getElem?
 intro i
 rw [cQ]
 simp
theorem vg(n:Nat)(a m:Int)(ts:List TD):othM n a m (n+1) ts=othM n a m n ts:=by
 apply List.ext_getElem?
 intro i
 rw [cQ,cQ]
 congr 1
 funext t
 by_cases h:i<n+1/\i≠n
 ·rw [if_pos h,if_pos ⟨by omega,h.2⟩]
 ·rw [if_neg h,if_neg Za]
theorem kV{n:Nat}{a m:Int}{k:Nat}{ts:List TD}{t:TD}(hk:k≠n)(ht:ts[k]?=some t):othM n a m (k+1) ts=(othM n a m k ts).set k (clrW a m t):=by
 have zu:=(List.getElem?_eq_some_iff.1 ht).1
 apply List.ext_getElem?
 intro i
 rw [List.getElem?_set,cQ,cQ,kW]
 by_cases h:k=i
 ·subst h
  rw [if_pos rfl,if_pos zu,ht]
  simp [hk]
 ·rw [if_neg h]
  congr 1
  funext t
  by_cases h2:i<k+1/\i≠n
  ·rw [if_pos h2,if_pos ⟨by omega,h2.2⟩]
  ·rw [if_neg h2,if_neg Za]
theorem vf{n:Nat}{a m:Int}{k:Nat}{ts:List TD}{t:TD}(hk:k≠n)(ht:ts[k]?=some t)(hc:clrW a m t=t):othM n a m (k+1) ts=othM n a m k ts:=by
 rw [kV hk ht,hc]
 apply List.ext_getElem?
 intro i
 rw [List.getElem?_set]
 split
 ·rename_i h
  subst h
  have zu:=(List.getElem?_eq_some_iff.1 ht).1
  rw [kW,if_pos zu,cQ,ht]
  simp
 ·rfl
section
variable{W:qW}{M:Nat}{F:Nat->Prop}{bs:List Nat}{s:MSt}
theorem MacAt.bl(h:MacAt W M F bs s):bs.length=s.ts.length:=by
 obtain ⟨tv,bv,ks,rfl,hm,hf⟩:=h.at_
 simpa using hm.len
theorem MacAt.row(h:MacAt W M F bs s): ∃g c,W.cell? (aB M 0)=some (.slice (aA g) bs.length c)/\bs.length<=c/\g<W.heap.size/\ ∀(n b:Nat),bs[n]?=some b->W.cell? (aB g n)=some (pP b):=by
 have hl:=h.bl
 have h1:=h.ok.n1
 obtain ⟨tv,bv,ks,rfl,hm,hf⟩:=h.at_
 have q0:=hm.cells 0
 obtain ⟨g,c,rfl,hc,hg,hr⟩:=hm.row (by rw [List.length_map] at hl;omega)
 refine ⟨g,c,q0.trans (by simp [mcC]),by simpa using hc,hg,fun n b hb=>?_⟩
 rw [zaj] at hb
 rcases hq:ks[n]? with _|q
 ·rw [hq] at hb
  simp at hb
 ·rw [hq] at hb
  obtain rfl:q.b=b:=by simpa using hb
  exact hr n q hq
theorem MacAt.blk{n b:Nat}(h:MacAt W M F bs s)(hb:bs[n]?=some b): ∃cs,W.heap[b]?=some (.cells cs 80 (0,0)):=by
 have hl:=h.bl
 have hn:=(List.getElem?_eq_some_iff.1 hb).1
 obtain ⟨cv,pv,gs,sc,hx, -⟩:=h.th hb (zaC (show n<s.ts.length by omega))
 exact ⟨_,hx.ob.out⟩
theorem MacAt.put'{g c:Nat}(h:MacAt W M F bs s)(hl:0<s.bytes.length)(hq:W.cell? (aB M 1)=some (.slice (aA g) s.bytes.length c)): ∃cur,F g/\W.heap[g]?=some (.cells cur 5 (0,0))/\s.bytes.length<=cur.size/\g≠M/\
  ∀(j x k:Nat) (W':qW),j+k<=s.bytes.length->W'.heap[g]?=some (.cells (splice cur.toList j ((List.range k).map (byteV x))).toArray 5 (0,0))->Kp (fun b=>b=g) W W'->W'.heap.size=W.heap.size->MacAt W' M F bs {s with bytes:=putBy s.bytes j x k}:=by
 obtain ⟨g',c',cur,q1,h2,h3,h4,h5,h6,h7,h8⟩:=h.put hl
 have e:=zae (q1.symm.trans hq)
 injection e with e1 e2 e3
 injection e1 with e1
 injection e1 with e1 e4 e5
 subst e1
 refine ⟨cur,h5,h6,h7,fun e=>?_,h8⟩
 subst e
 obtain ⟨tv,bv,ks,rfl,hm,hf⟩:=h.at_
 have:=hm.ob.out.symm.trans h6
 injection this with this
 injection this with a1 a2 a3
 exact absurd a2 Zd
end
theorem sH(x y:Int)(w:qW):(Instr.index 171 (.agg #[.int .u64 x,.int .u64 y]) (iI 0)).run Tryz.prog w= .ok (.int .u64 x) w:=by kernel_rfl
theorem sG(x y:Int)(w:qW):(Instr.index 171 (.agg #[.int .u64 x,.int .u64 y]) (iI 1)).run Tryz.prog w= .ok (.int .u64 y) w:=by kernel_rfl
theorem sF{P:Program}(w:qW){tp te:TypeId}{j:TypeInfo}{a b:Addr}{ca cb:Array qV}{ta tb:TypeId}(hp:P.underlying tp=some (.pointer te))(Iw:P.info? te=some j)(hsz:j.size≠0)
  (hne:a≠b) (ha:w.heap[a.block]?=some (.cells ca ta (0,0))) (hb:w.heap[b.block]?=some (.cells cb tb (0,0))):
  (binOp .neq tp (.pointer (some a)) (.pointer (some b))).run P w= .ok (.bool true) w:=by
 have h: ∀d:Nat,(Op.equalIn (d+1) tp (.pointer (some a)) (.pointer (some b))).run P w= .ok false w:=fun d=>by
  simp [Op.equalIn,run_underlying hp,sizeOf,typeInfo,Iw,hsz,run_sameAddr_other w hne ha hb]
 simp only [binOp]
 simp [Op.equal,Op.maxDepth,h 9999]
section
variable{ops:Array Oper}{S:qW->Prop}{op:Oper}{a:Act}
theorem yaR(hw:Region.wanted op (yielded ops a.tmps)=true)(x y:Operand)(ho:op.op= .binOp .neq 71 x y 71)(b:Nat)(hx:a.eval x=pP b)(hy:a.eval y=pP b)(hS: ∀w,S w->True):YieldsIf Tryz.prog ops S op (.bool false) a:= .inl ⟨hw,fun w _=>by
 obtain ⟨j,hj, -⟩:=Option.map_eq_some_iff.1 me
 unfold execOp
 simp only [ho,hx,hy,eqGuard_at_pointer,Sem.run_bind,Sem.run_pure,Result.andThen_ok,Lib.run_neq_ptr_same w (⟨b,0,none⟩:Addr) Tryz.underlying71 hj,Result.andThen_ok,Sem.run_pure]⟩
theorem yaS(hw:Region.wanted op (yielded ops a.tmps)=true)(x y:Operand)(ho:op.op= .binOp .neq 71 x y 71)(b c:Nat)(hne:b≠c)(hx:a.eval x=pP b)(hy:a.eval y=pP c)(hS: ∀w,S w->(∃cs,w.heap[b]?=some (.cells cs 80 (0,0)))/\ ∃cs,w.heap[c]?=some (.cells cs 80 (0,0))):YieldsIf Tryz.prog ops S op (.bool true) a:= .inl ⟨hw,fun w hs=>by
 obtain ⟨j,hj,Q9⟩:=Option.map_eq_some_iff.1 me
 obtain ⟨⟨ca,ha⟩,cb,hb⟩:=hS w hs
 unfold execOp
 simp only [ho,hx,hy,eqGuard_at_pointer,Sem.run_bind,Sem.run_pure,Result.andThen_ok,sF w (a:=(⟨b,0,none⟩:Addr)) (b:=⟨c,0,none⟩) Tryz.underlying71 hj Za (fun e=>hne (congrArg Addr.block e)) ha hb,Result.andThen_ok,Sem.run_pure]⟩
end
def bkW(l:List Nat)(j m d0 d1:Nat)(k:Nat):List Nat:=if k=0 then l else if k=1 then putBy l j d0 (min m 8) else wrM l j m d0 d1
theorem pn:(Tryz.prog.info? 5).map (·.size)=some 1:=by kernel_rfl
theorem yeH(x m:Nat)(hm:m<=8\/m=16)(w:qW):qC 163 #[.int .u64 x,iI m] w fun e w'=>e= .returned (.slice (aA w.heap.size) (min m 8) (min m 8))/\w'.rowIs w.heap.size 5 (min m 8) (byteV x)/\Below w.heap.size w w':=by
 rcases hm with hm|rfl
 ·rw [show min m 8=m by omega]
  exact yeE x m hm w
 ·exact yeF x 16 Za w
theorem yeV(l:List Nat)(j m d0 d1:Nat)(hm:m<=8\/m=16)(hj:j+m<=l.length)(k:Nat):(bkW l j m d0 d1 k).length=l.length:=by
 unfold bkW wrM putBy
 have h1:(splice l j ((List.range (min m 8)).map (byteN d0))).length=l.length:=length_splice _ _ _ Zk
 split
 ·rfl
 ·split
  ·exact h1
  ·rcases hm with hm|rfl
   ·rw [show m-8=0 by omega]
    simp only [List.range_zero,List.map_nil]
    unfold splice at h1 ⊢
    simp at h1 ⊢
    omega
   ·rw [length_splice _ _ _ (by rw [h1];simp;omega),h1]
structure WrA(W:qW)(M:Nat)(F:Nat->Prop)(bs:List Nat)(s:MSt)(g c:Nat)(acc:Array qV)(tv:qV)(bytes:List Nat)(ts:List TD)(X:qW):Prop where
 mac:MacAt X M F bs {s with bytes:=bytes,ts:=ts}
 acc:X.heap[W.heap.size]?=some (.cells acc 173 (0,0))
 kp:Kp F W X
 m1:X.cell? (aB M 1)=some (.slice (aA g) s.bytes.length c)
 len:bytes.length=s.bytes.length
 m0:X.cell? (aB M 0)=some tv
theorem WrA.below{W X X':qW}{M:Nat}{F:Nat->Prop}{bs:List Nat}{s:MSt}{g c:Nat}{acc:Array qV}{tv:qV}{bytes:List Nat}{ts:List TD}(h:WrA W M F bs s g c acc tv bytes ts X)(hb:Below X.heap.size X X'):WrA W M F bs s g c acc tv bytes ts X':=
 ⟨h.mac.below hb,(hb.block _ (ac h.acc)).trans h.acc,h.kp.trans (Kp.of_below hb),(hb.cell (p:=⟨M,1,none⟩) h.mac.M_lt).trans h.m1,h.len,(hb.cell (p:=⟨M,0,none⟩) h.mac.M_lt).trans h.m0⟩
theorem yeU{l:List Nat}{j m d0 d1:Nat}(hm:m<=8)(hj:j+m<=l.length):bkW l j m d0 d1 2=bkW l j m d0 d1 1:=by
 unfold bkW wrM
 simp only [if_neg (show¬2=0 by omega),if_neg (show¬2=1 by omega),if_neg (show¬1=0 by omega),if_true]
 rw [show m-8=0 by omega]
 unfold putBy
 generalize splice l j ((List.range (min m 8)).map (byteN d0))=L
 simp [splice]
theorem rB{w:qW}{g k x:Nat}(h:w.rowIs g 5 k (byteV x))(i:Nat)(v:qV)(hv:((List.range k).map (byteV x))[i]?=some v):w.cell? ((⟨g,0,none⟩:Addr).add i)=some v:=by
 rw [Addr.add_mid,zag]
 rw [zaj] at hv
 by_cases hi:i<k
 ·rw [List.getElem?_range hi] at hv
  obtain rfl:byteV x i=v:=by simpa using hv
  exact h.cell hi
 ·rw [List.getElem?_eq_none (by simpa using hi)] at hv
  cases hv
theorem oK{W:qW}{M:Nat}{F:Nat->Prop}{bs:List Nat}{s:MSt}(h:MacAt W M F bs s)(n b:Nat)(hb:bs[n]?=some b)(j m d0 d1:Nat)(Bd:1<=m)(LQ:m<=8)(Gy:j+m<=s.bytes.length)(wb ex acq rel:Bool):
  qC 104 #[pP M,pP b,accV wb ((j:Int)+65536) m ex acq rel (d0:Nat) (d1:Nat)] W fun e w'=>e= .returned (.tuple #[])/\MacD W M F bs {s with bytes:=wrM s.bytes j m d0 d1,ts:=othM n ((j:Int)+65536) m s.ts.length s.ts} w':=by
 have Dg:m<=8\/m=16:= .inl LQ
 have hM:=h.M_lt
 have xo:=h.ok.bl
 obtain ⟨g,c,q1,hc,Dn,hg, -⟩:=h.bytes Za
 obtain ⟨gt,ct,q0,Rh,OB, -⟩:=h.row
 have Ac:=Zh h.bl
 have JM:=h.ok.n8
 have H:=Zh h
 clear h
 unfold accV
 go_enter Tryz.func104,Tryz.ntmps104
 go_wp2_with fail
 refine aS (R:=fun X=>Below W.heap.size W X/\X.heap[W.heap.size]?=some (.cells (accC wb ((j:Int)+65536) m ex acq rel (d0:Nat) (d1:Nat)) 173 (0,0))) ⟨ab (zaa _ _) _,zab _ _⟩ ?_
 rintro V ⟨yD,hs⟩
 have Cb:IntKind.i64.wrap (j:Int)=(j:Int):=aR Za Za
 have GA:(j:Int)+65536-65536=(j:Int):=by omega
 have IJ:(j:Int)<=s.bytes.length:=by omega
 have J1:j<=s.bytes.length:=by omega
 have yB:s.bytes.length<=c:=hc
 have D7:(j:Int)<=c:=by omega
 have Kf:(m:Int)<=(c:Int)-j:=by omega
 have OX:m<=c-j:=by omega
 have OW: ¬c=j:=by omega
 have yR:=Zh yD
 have hA:V.drew.cell? (aB W.heap.size 1)=some (iI ((j:Int)+65536))/\V.drew.cell? (aB W.heap.size 2)=some (iI m)/\V.drew.cell? (aB M 1)=some (.slice (aA g) s.bytes.length c):=⟨aa hs 1,aa hs 2,(yD.cell (p:=⟨M,1,none⟩) hM).trans q1⟩
 have hB:True:=trivial
 clear yD
 refine ae (fun X=>X.cell? (aB W.heap.size 1)=some (iI ((j:Int)+65536))/\X.cell? (aB W.heap.size 2)=some (iI m)/\X.cell? (aB M 1)=some (.slice (aA g) s.bytes.length c)) (fun W=>True) 13 rfl ?_
 refine Zp 0 rfl (h:=Zp 1 rfl (h:=Zp 2 rfl (h:=?_)));try simp only [Zq]
 refine Zt 3 rfl (h:=Zp 4 rfl (h:=Zp 5 rfl (h:=?_)));try simp only [Zq]
 refine Zt 6 rfl (h:=Zp 7 rfl (h:=Zp 8 rfl (h:=?_)));try simp only [Zq]
 refine Zp 9 rfl (h:=Zp 10 rfl (h:=Zt 11 rfl (h:=?_)));try simp only [Zq]
 refine Zp 12 rfl (h:=?_);try simp only [Zq]
 refine Zs 13 rfl fun K hK=>?_
 go_simp
 refine hK _ _ ⟨hA,fun _=>trivial⟩ ?_
 clear hK K hA hB Cb GA IJ J1 yB D7 Kf
 refine af Zb ?_ _
 have k6:V.cell? (aB W.heap.size 6)=some (.int .u64 (d0:Nat)):=aa hs 6
 have k7:V.cell? (aB W.heap.size 7)=some (.int .u64 (d1:Nat)):=aa hs 7
 go_wp2_with fail
 have HW:Hid (WrA W M F bs s g c (accC wb ((j:Int)+65536) m ex acq rel (d0:Nat) (d1:Nat)) (.slice (aA gt) bs.length ct) s.bytes s.ts V.drew):=Zh ⟨H.out.below (ag yR.out),hs,Kp.of_below (ag yR.out),(yR.out.cell (p:=⟨M,1,none⟩) hM).trans q1,rfl,(yR.out.cell (p:=⟨M,0,none⟩) hM).trans q0⟩
 have HL:=Zh (fun k=>yeV s.bytes j m d0 d1 Dg Gy k)
 have HF:=Zh H.out.lt
 have Hw:=Zh q0
 clear hs yR k6 k7 q1 q0 H
 go_loopw [27] (fun v27 wr=> ∃k:Nat,v27=iI k/\k<=2/\WrA W M F bs s g c (accC wb ((j:Int)+65536) m ex acq rel (d0:Nat) (d1:Nat)) (.slice (aA gt) bs.length ct) (bkW s.bytes j m d0 d1 k) s.ts wr) (fun v27 _=>2-(intOf v27).toNat)
 case atStart=>exact ⟨0,rfl,by omega,HW.out⟩
 case round=>
  obtain ⟨k,rfl,hk,hw⟩:=hrel
  have OV: ¬c-j=0:=by omega
  obtain rfl|rfl|rfl:k=0\/k=1\/k=2:=by omega
  ·have hw:=Zh hw
   have m1:(0:Int)<m:=by omega
   have X0:=sH (d0:Nat) (d1:Nat) wr
   go_wp2_with fail
   have hA:True:=trivial
   have hB:True:=trivial
   have LT:IntKind.i64.wrap (m:Int)=(m:Int):=aR Za Za
   have m2:(0:Int)<=m:=by omega
   refine ae (fun X=>True) (fun W=>True) 9 rfl ?_
   refine Zp 0 rfl (h:=Zp 1 rfl (h:=Zp 2 rfl (h:=?_)));try simp only [Zq]
   refine Zp 3 rfl (h:=Zp 4 rfl (h:=Zp 5 rfl (h:=?_)));try simp only [Zq]
   refine Zp 6 rfl (h:=Zp 7 rfl (h:=?_));try simp only [Zq]
   refine Zs 8 rfl fun K hK=>?_
   go_simp
   go_at_call 163
   refine (yeH d0 m Dg _).mono ?_
   rintro e V5 ⟨rfl,LB,ER⟩
   have w5:=Zh (hw.out.below (an (ag (zaa _ wr)) ER (zaq _)))
   refine hK _ _ ⟨trivial,fun _=>trivial⟩ ?_
   clear hK K
   obtain ⟨cur,Au,GS,i',Ka,BR⟩:=w5.out.mac.put' (g:=g) (c:=c) (by rw [w5.out.len];omega) (by rw [w5.out.len];exact w5.out.m1)
   have xd:=w5.out.len
   simp only at i' BR
   rw [xd] at i' BR
   have Rb:=(HF.out g Au).2
   refine Zs 9 rfl fun K hK=>?_
   refine qR rfl (.tmp 39) (.tmp 45) 44 44 rfl 5 Tryz.underlying44 pn g j ⟨wr.drew.heap.size,0,none⟩ m (c-j) (min m 8) (min m 8) rfl rfl cur 5 GS ((List.range (min m 8)).map (byteV d0)) (by simp [Nat.min_def];split<;>omega) (fun i v hv=>?_) Zk (fun v hv=>?_) ?_
   ·exact rB LB i v hv
   ·obtain ⟨i, -,rfl⟩:=List.mem_map.1 hv
    rfl
   intro V6 g6 k6 z6
   have LR:=BR j d0 (min m 8) V6 Za g6 k6 z6
   refine hK _ _ ⟨trivial,fun _=>trivial⟩ ?_
   refine af Zb ?_ _
   have KG:Hid (WrA W M F bs s g c (accC wb ((j:Int)+65536) m ex acq rel (d0:Nat) (d1:Nat)) (.slice (aA gt) bs.length ct) (bkW s.bytes j m d0 d1 1) s.ts V6):=Zh ⟨LR,(k6.block _ (ac w5.out.acc) Za).trans w5.out.acc,w5.out.kp.trans (k6.mono (fun k _ e=>e ▸ Au)),(k6.cell w5.out.mac.M_lt (fun e=>Ka e.symm)).trans w5.out.m1,HL.out 1,(k6.cell w5.out.mac.M_lt (fun e=>Ka e.symm)).trans w5.out.m0⟩
   clear hK K BR LR g6 k6 z6 GS LB ER w5 hw
   go_wp2_with fail
   exact ⟨⟨1,rfl,by omega,KG.out⟩,by simp [intOf]⟩
  ·by_cases h8:m<=8
   ·have m1: ¬(8:Int)<m:=by omega
    have X1:=sG (d0:Nat) (d1:Nat) wr
    have KG:Hid (WrA W M F bs s g c (accC wb ((j:Int)+65536) m ex acq rel (d0:Nat) (d1:Nat)) (.slice (aA gt) bs.length ct) (bkW s.bytes j m d0 d1 2) s.ts wr):=Zh (by rw [yeU h8 Za];exact hw)
    clear hw
    go_wp2_with fail
    exact ⟨⟨2,rfl,by omega,KG.out⟩,by simp [intOf]⟩
   ·exact absurd LQ h8
  ·have q0:=hw.m0
   have hw:=Zh hw
   rw [show ((2:Nat):Int)=2 from rfl]
   go_wp2_with fail
   clear q0
   generalize wr=wy at*
   go_loopw [53] (fun v53 wz=> ∃k:Nat,v53=iI k/\k<=bs.length/\WrA W M F bs s g c (accC wb ((j:Int)+65536) m ex acq rel (d0:Nat) (d1:Nat)) (.slice (aA gt) bs.length ct) (bkW s.bytes j m d0 d1 2) (othM n ((j:Int)+65536) m k s.ts) wz) (fun v53 _=>bs.length-(intOf v53).toNat)
   case atStart=>exact ⟨0,rfl,by omega,by rw [ve];exact hw.out⟩
   case round=>
    obtain ⟨k,rfl,hk,hz⟩:=hrel
    by_cases zu:k<bs.length
    ·obtain ⟨bk,AF⟩: ∃bk,bs[k]?=some bk:=⟨bs[k],zaC zu⟩
     have IH:k<s.ts.length:=by have:=Ac.out;omega
     obtain ⟨t,ht⟩: ∃t,s.ts[k]?=some t:=⟨s.ts[k],zaC IH⟩
     have Fh:(othM n ((j:Int)+65536) m k s.ts)[k]?=some t:=by rw [cQ,ht];simp
     obtain ⟨cv,pv,gs,sc,hx,I3,CV,DX,yY,x'⟩:=hz.mac.th AF Fh
     have q36:wr.cell? (aB bk 36)=some (iI t.st.wa):=hx.st 34 Za
     have q37:wr.cell? (aB bk 37)=some (iI t.st.wl):=hx.st 35 Za
     have qf:=ah hx.ob.out
     have ac1:wr.cell? (aB W.heap.size 1)=some (iI ((j:Int)+65536)):=aa hz.acc 1
     have ac2:wr.cell? (aB W.heap.size 2)=some (iI m):=aa hz.acc 2
     have qrow:wr.cell? (aB gt k)=some (pP bk):=by
      obtain ⟨g',c',q0', -, -,hr⟩:=hz.mac.row
      have e:=zae (q0'.symm.trans hz.m0)
      injection e with e1 e2 e3
      injection e1 with e1
      injection e1 with e1 e4 e5
      exact e1 ▸ hr k bk AF
     have Ez:(k:Int)<bs.length:=by omega
     have wZ:IntKind.i64.wrap ((k:Int)+1)=(k:Int)+1:=aR Za Za
     have EP:=hx.ob.lt
     by_cases Dj:k=n
     ·have yF:b=bk:=by
       rw [Dj,hb] at AF
       exact zae AF
      subst yF
      have HZ:=Zh hz
      have Jh:=Zh Dj
      clear x' CV yY hx hz Dj
      go_wp2_with fail
      have hA:True:=trivial
      have hB:True:=trivial
      refine ae (fun X=>True) (fun W=>True) 12 rfl ?_
      refine Zp 0 rfl (h:=Zp 1 rfl (h:=?_));try simp only [Zq]
      refine bG 2 (v:= .bool false) rfl Zb Zb Zb (fun _ _ _ h=>h) Zd Zb (yaR rfl (.tmp 57) (.tmp 58) rfl b rfl rfl (fun _ _=>trivial)) ⟨hA,fun _=>hB⟩ ?_
      try simp only [Zq]
      refine Zp 3 rfl (h:=Zn 4 rfl (h:=?_));try simp only [Zq]
      refine Zn 5 rfl (h:=Zn 6 rfl (h:=?_));try simp only [Zq]
      refine Zn 7 rfl (h:=Zn 8 rfl (h:=?_));try simp only [Zq]
      refine Zn 9 rfl (h:=Zn 10 rfl (h:=?_));try simp only [Zq]
      refine Zn 11 rfl (h:=?_);try simp only [Zq]
      refine Zs 12 rfl fun K hK=>?_
      go_simp
      refine hK _ _ ⟨trivial,fun _=>trivial⟩ ?_
      clear hK K
      refine af Zb ?_ _
      go_wp2_with fail
      exact ⟨⟨k+1,by simp,by omega,by rw [show othM n ((j:Int)+65536) m (k+1) s.ts=othM n ((j:Int)+65536) m k s.ts from by rw [Jh.out];exact vg ..];exact HZ.out.below (ag (zaa _ _))⟩,by simp [intOf];omega⟩
     ·have yF:bk≠b:=hz.mac.bs_ne AF hb Dj
      have M0: ∃cs,wr.heap[bk]?=some (.cells cs 80 (0,0)):=⟨_,hx.ob.out⟩
      have MZ: ∃cs,wr.heap[b]?=some (.cells cs 80 (0,0)):=hz.mac.blk hb
      have HZ:=Zh hz
      have Jh:=Zh Dj
      clear x' CV yY hx hz Dj
      go_wp2_with fail
      have hA:wr.drew.cell? (aB bk 36)=some (iI t.st.wa)/\wr.drew.cell? (aB bk 37)=some (iI t.st.wl)/\wr.drew.cell? (aB W.heap.size 1)=some (iI ((j:Int)+65536))/\wr.drew.cell? (aB W.heap.size 2)=some (iI m)/\(∃cs,wr.drew.heap[bk]?=some (.cells cs 80 (0,0)))/\ ∃cs,wr.drew.heap[b]?=some (.cells cs 80 (0,0)):=⟨q36,q37,ac1,ac2,M0,MZ⟩
      have hB:True:=trivial
      have Mr:W.heap.size<wr.heap.size:=ac HZ.out.acc
      refine ae (fun X=>X.cell? (aB bk 36)=some (iI t.st.wa)/\X.cell? (aB bk 37)=some (iI t.st.wl)/\X.cell? (aB W.heap.size 1)=some (iI ((j:Int)+65536))/\X.cell? (aB W.heap.size 2)=some (iI m)/\(∃cs,X.heap[bk]?=some (.cells cs 80 (0,0)))/\ ∃cs,X.heap[b]?=some (.cells cs 80 (0,0))) (fun W=>True) 12 rfl ?_
      refine Zp 0 rfl (h:=Zp 1 rfl (h:=?_));try simp only [Zq]
      refine bG 2 (v:= .bool true) rfl Zb Zb Zb (fun _ _ _ h=>h) Zd Zb (yaS rfl (.tmp 57) (.tmp 58) rfl bk b yF rfl rfl ?_) ⟨hA,fun _=>hB⟩ ?_
      ·exact fun w hw=>hw.2.2.2.2
      try simp only [Zq]
      refine Zp 3 rfl (h:=Zp 4 rfl (h:=Zp 5 rfl (h:=?_)));try simp only [Zq]
      refine Zp 6 rfl (h:=Zp 7 rfl (h:=Zt 8 rfl (h:=?_)));try simp only [Zq]
      refine Zp 9 rfl (h:=Zt 10 rfl (h:=?_));try simp only [Zq]
      refine eQ 11 rfl Zb (by rfl) (fun K hK=>?_)
      go_simp
      go_at_call 164
      refine (yas _ _ _ _ _).mono ?_
      rintro e V1 ⟨rfl,yb⟩
      have yn:Below wr.heap.size wr V1:=an (ag (zaa _ wr)) yb (zaq _)
      have ye:V1.cell? (aB bk 36)=some (iI t.st.wa)/\V1.cell? (aB bk 37)=some (iI t.st.wl)/\V1.cell? (aB W.heap.size 1)=some (iI ((j:Int)+65536))/\V1.cell? (aB W.heap.size 2)=some (iI m)/\(∃cs,V1.heap[bk]?=some (.cells cs 80 (0,0)))/\ ∃cs,V1.heap[b]?=some (.cells cs 80 (0,0)):=⟨(yn.cell (p:=⟨bk,36,none⟩) EP).trans q36,(yn.cell (p:=⟨bk,37,none⟩) EP).trans q37,(yn.cell (p:=⟨W.heap.size,1,none⟩) Mr).trans ac1,(yn.cell (p:=⟨W.heap.size,2,none⟩) Mr).trans ac2,M0.imp (fun cs h=>(yn.block _ EP).trans h),MZ.imp (fun cs h=>(yn.block _ (ac h)).trans h)⟩
      refine hK _ _ ⟨ye,fun _=>trivial⟩ ?_
      clear hK K hA
      have hA:=ye
      refine Zs 12 rfl fun K hK=>?_
      go_simp
      refine hK _ _ ⟨hA,fun _=>trivial⟩ ?_
      clear hK K
      refine af Zb ?_ _
      have xu:=HZ.out.below yn
      have Cn:=Zh xu
      obtain ⟨cv,pv,gs,sc,hx,I3,CV,DX,yY,x'⟩:=xu.mac.th AF Fh
      obtain ⟨Ll,ze⟩:=hx.setW (fun e=>yY (e ▸ .inl rfl))
      have hD:=x' {t with st:={t.st with wa:=0,wl:=0}} _ pv {Cn.out.mac.ok.th t (zat Fh) with st:=by have:=(Cn.out.mac.ok.th t (zat Fh)).st;exact ⟨this.1,this.2.1,dI,dI⟩} Ll (fun k hk=> .inl (eU (t:=t) (t':={t with st:={t.st with wa:=0,wl:=0}}) rfl rfl rfl hk)) (ze.mono (fun k _ e=> .inl e))
      have HD:=Zh (MacD.flat xu.mac hD (by simp [World.setCell]))
      have HFb:Hid (F bk):=Zh (CV bk (.inl rfl))
      have yQ:=Zh ze
      have qf1:=ah hx.ob.out
      obtain ⟨q36,q37,ac1,ac2, -, -⟩:=hA
      have He:M≠bk:=by omega
      have A6:W.heap.size≠bk:=by have:=(HF.out bk HFb.out).2;omega
      have O5:=hx.ob.lt
      clear x' CV yY hx xu ye yb yn Ll ze hD qf
      cases LO:meetsB t.st.wa t.st.wl ((j:Int)+65536) m
      ·go_wp2_with fail
       exact ⟨⟨k+1,by simp,by omega,by rw [vf Jh.out ht (by unfold clrW;rw [LO];rfl)];exact Cn.out⟩,by simp [intOf];omega⟩
      ·go_wp2_with fail
       have i':clrW ((j:Int)+65536) m t={t with st:={t.st with wa:=0,wl:=0}}:=by unfold clrW;rw [LO];rfl
       refine ⟨⟨k+1,by simp,by omega,?_⟩,by simp [intOf];omega⟩
       rw [kV Jh.out ht,i']
       exact ⟨HD.out,(yQ.out.block _ (ac Cn.out.acc) A6).trans Cn.out.acc,Cn.out.kp.trans (yQ.out.mono (fun k _ e=>e ▸ HFb.out)),(yQ.out.cell Cn.out.mac.M_lt He).trans Cn.out.m1,Cn.out.len,(yQ.out.cell Cn.out.mac.M_lt He).trans Cn.out.m0⟩
    ·have zO:k=bs.length:=by omega
     have Ez: ¬(k:Int)<bs.length:=by omega
     have Ig:=Zh zO
     clear zO
     have hz:=Zh hz
     go_wp2_with fail
     go_end0
     have em:=hz.out.m0
     have e:=hz.out
     rw [Ig.out,Ac.out] at e
     exact ⟨rfl,e.mac.wide (fun k hk=> .inl hk) (dp HF.out hM e.kp.size),e.kp,em.trans Hw.out.symm⟩
end Go.Proofs.YtjmfoeajhiimnaaGreatDoor
