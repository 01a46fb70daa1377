/- Walks. No condition. -/
import Derived.Test.YtjmfoeajhiimnaaGreatDoorG31
set_option maxRecDepth 100000
set_option maxHeartbeats 0
set_option linter.all false
namespace Go.Proofs.YtjmfoeajhiimnaaGreatDoor
open Go.RowKit Go.Sort
section
variable{w0 W W':qW}{M a b c:Nat}{vv wv:qV}{s:LS}{vs:List VarD}{gl:List GlD}
theorem Mk.app2{ov sv lv:qV}{xs:List qV}{ob:Obj}{w2:qW}{g cap:Nat}{nm:qB}{rg:Int}(h:Mk w0 M a b c vv wv W s)(ho:Ob M 206 (mkC vv wv ov sv lv s) (mkR s xs) W)(ea:ownN M ov=a)(eb:ownN M sv=b)(ec:ownN M lv=c)(hl:s.locals.length+1<=s.regs)
  (xb:(W.drew.alloc ob).grownBy w2 lv.ownBlock) (hown:w2.ownsRow (M+1) 334 2 (.slice (aA g) (s.locals.length+1) cap) (s.locals.length+1) (s.locals.flatMap locC++locC (nm,rg))) (xk:lv.ownBlock=some g\/g=(W.drew.alloc ob).heap.size) {r:qV}:
  MkD w0 M a b c vv wv W {s with locals:=s.locals++[(nm,rg)]} r (.returned r) (w2.setCell ⟨M,7,none⟩ (.slice (aA g) (s.locals.length+1) cap)):=by
 subst ea eb ec
 have wZ:Kp (fun k=>lv.ownBlock=some k) (W.drew.alloc ob) w2:=(Kp.of_grown xb).mono (fun k _ e=>e.symm)
 have ym:Kp (fun k=>lv.ownBlock=some k) W w2:=((Kp.dr W).trans (Kp.al _ ob)).trans wZ
 have hg: ∀k,(Value.slice (aA g) (s.locals.length+1) cap).ownBlock=some k->(fld (mkC vv wv ov sv lv s) 7).ownBlock=some k\/W.heap.size<=k:=fun k hk=>by
  obtain rfl:g=k:=by simpa [Value.ownBlock] using hk
  rcases xk with e|e
  ·exact .inl e
  ·right
   simp only [Zz] at e
   omega
 obtain ⟨p1,p2,p3⟩:=ho.put (r:=⟨7,334,2,s.locals.length,s.locals.flatMap locC⟩) (by simp [mkR]) (by simp [mkC]) ym hown hg
 have xp:Kp (fun k=>k=M\/k=ownN M ov\/k=ownN M sv\/k=ownN M lv) W (w2.setCell ⟨M,7,none⟩ (.slice (aA g) (s.locals.length+1) cap)):=p2.mono (fun k _ hk=>by
  rcases de.1 hk with e|e|e|e
  ·exact .inl e
  ·exact .inr (.inl (bn e))
  ·exact .inr (.inr (.inl (bn e)))
  ·exact .inr (.inr (.inr (bn e))))
 have j':=h.bd
 have hb:=h.bl
 refine ⟨rfl,_,_,g,⟨⟨ov,sv,.slice (aA g) (s.locals.length+1) cap,xs,?_,rfl,rfl,by simp [ownN,Value.ownBlock]⟩,?_,h.le,⟨⟨h.nums.fin.ops,h.nums.fin.regs,h.nums.fin.labels,h.nums.fin.sites⟩,h.nums.regs,h.nums.labels,by simp;omega,h.nums.line⟩⟩,xp,.inl rfl,.inl rfl,?_⟩
 ·have e1:(mkC vv wv ov sv lv s).setIfInBounds 7 (.slice (aA g) (s.locals.length+1) cap)=mkC vv wv ov sv (.slice (aA g) (s.locals.length+1) cap) {s with locals:=s.locals++[(nm,rg)]}:=rfl
  have e2:(mkR s xs).map (fun q=>if q.ix=7 then {q with n:=s.locals.length+1,xs:=s.locals.flatMap locC++locC (nm,rg)} else q)=mkR {s with locals:=s.locals++[(nm,rg)]} xs:=by
   simp [mkR]
  rw [e1,e2] at p1
  exact p1
 ·exact ⟨xp.os.trans hb.os,xp.tape.trans hb.tape,xp.output.trans hb.output,zal hb.size xp.size,fun k hk=>(xp.block k (by have:=hb.size;omega) Za).trans (hb.block k hk)⟩
 ·rcases xk with e|e
  ·exact .inl (bn e)
  ·right
   simp only [Zz] at e
   omega
theorem yaT:(Tryz.prog.info? 334).map (fun i=>(i.zero,i.size,i.bytes))=some (some (.agg #[.string ⟨#[]⟩,iI 0]),2,24):=by kernel_rfl
theorem MkA.then{w:qW}{a1 b1 c1:Nat}{s2:LS}{r:qV}{e:Ending}{w1:qW}(h:MkA w0 M a b c vv wv w W a1 b1 c1 s)(hD:MkD w0 M a1 b1 c1 vv wv W s2 r e w1):MkD w0 M a b c vv wv w s2 r e w1:=by
 obtain ⟨a2,b2,c2,h1, -, -⟩:=h.next hD
 exact ⟨hD.1,a2,b2,c2,h1.mkr,h1.kp,h1.ha,h1.hb,h1.hc⟩
theorem yaM(HX:HLx w0 M vv wv gl 66)(w:qW)(h:Mk w0 M a b c vv wv w s)(ln order:Int)(name name2 var:qB)(pa xa ta la:Option Addr)(pl pc xc tl tc ll lc:Nat)(x:Ex)(r1:Int×LS)(xn:RwAt w0 okA 8 (ExAt w0 okA 66) (.slice xa 1 xc) [x])(h1:lExpr gl 66 x s=some r1)(hf:LFin (lSet r1.2.regs r1.1 (lFresh r1.2)))(Qk:r1.2.locals.length<=r1.2.regs):
  qC 129 #[pP M,.agg #[iI 1,iI ln,.string name,.string name2,iI order,.string var,.slice pa pl pc,.slice xa 1 xc,.slice ta tl tc,.slice la ll lc]] w (MkD w0 M a b c vv wv w {lSet r1.2.regs r1.1 (lFresh r1.2) with locals:=r1.2.locals++[(name,r1.2.regs)]} (.tuple #[])):=by
 obtain ⟨ov,sv,lv,i',pi⟩:=h.rules
 have yM:LFin (lFresh r1.2):=(LLe.set _ _ _).fin hf
 have ya:LFin r1.2:=(LLe.fresh _).fin yM
 have j':=h.bd
 have yb:=j'
 have HM:=Zh (MkA.begin h)
 obtain ⟨i0,xF,xx,xu,xq⟩:=zan yaT
 obtain ⟨kb,ko,kc',pax,kax,pcx,kcx,e1,zG,A7,c0,c1',c2,c3,c4,c5,c6,c7⟩:=cU xn
 simp only [zaV,zag,Value.slice.injEq,true_and] at e1
 obtain ⟨rfl,rfl⟩:=e1
 replace HX:=Zh HX
 clear h xn
 go_enter Tryz.func129,Tryz.ntmps129
 go_wp2_with (first
  |(go_at_call 194;refine (HX.out _ _ _ _ _ _ _ _ _ _ _ (Zj:MkA _ _ _ _ _ _ _ w _ _ _ _ _).mkr ZB ZB ZB).mono ?_;intro e w1 hD;have hN:=MkA.nx hD Zj;clear hD HM;(try clear i' pi);obtain ⟨rfl,a1,b1,c1,ov,sv,lv,i',pi,j',HM,hm,hT,hrel⟩:=hN;(try simp only [Zz] at hrel hm);(repeat ((first|((first|(with_reducible obtain ⟨hx,hy,xg,hT⟩:=aw (lo:=w.heap.size) hT Zv hrel Zc Zi)|(with_reducible obtain ⟨hx,hy,xg,hT⟩:=av (lo:=w.heap.size) hT Zx hrel Zc Zi));(try simp only [Zz] at hx hy xg);rw [hx];clear hx)|(with_reducible replace hT:=hT.unmo)|(with_reducible replace hT:=hT.undr))));clear hT hrel)
  |(go_at_call 195;refine (eG (s:=r1.2) _ (Zj:MkA _ _ _ _ _ _ _ w _ _ _ _ _).mkr yM).mono ?_;intro e w1 hD;have hN:=MkA.nx hD Zj;clear hD HM;(try clear i' pi);obtain ⟨rfl,a1,b1,c1,ov,sv,lv,i',pi,j',HM,hm,hT,hrel⟩:=hN;(try simp only [Zz] at hrel hm);(repeat ((first|((first|(with_reducible obtain ⟨hx,hy,xg,hT⟩:=aw (lo:=w.heap.size) hT Zv hrel Zc Zi)|(with_reducible obtain ⟨hx,hy,xg,hT⟩:=av (lo:=w.heap.size) hT Zx hrel Zc Zi));(try simp only [Zz] at hx hy xg);rw [hx];clear hx)|(with_reducible replace hT:=hT.unmo)|(with_reducible replace hT:=hT.undr))));clear hT hrel)
  |(go_at_call 196;refine (jM (s:=lFresh r1.2) _ (Zj:MkA _ _ _ _ _ _ _ w _ _ _ _ _).mkr r1.2.regs r1.1 hf).mono ?_;intro e w1 hD;have hN:=MkA.nx hD Zj;clear hD HM;(try clear i' pi);obtain ⟨rfl,a1,b1,c1,ov,sv,lv,i',pi,j',HM,hm,hT,hrel⟩:=hN;(try simp only [Zz] at hrel hm);(repeat ((first|((first|(with_reducible obtain ⟨hx,hy,xg,hT⟩:=aw (lo:=w.heap.size) hT Zv hrel Zc Zi)|(with_reducible obtain ⟨hx,hy,xg,hT⟩:=av (lo:=w.heap.size) hT Zx hrel Zc Zi));(try simp only [Zz] at hx hy xg);rw [hx];clear hx)|(with_reducible replace hT:=hT.unmo)|(with_reducible replace hT:=hT.undr))));clear hT hrel))
 refine aS (R:=fun W=>MkA w0 M a b c vv wv w W a1 b1 c1 (lSet r1.2.regs r1.1 (lFresh r1.2))/\W.heap[w.heap.size]?=some (.cells #[iI 1,iI ln,.string name,.string name2,iI order,.string var,.slice pa pl pc,.slice (some ⟨kb,ko,none⟩) 1 xc,.slice ta tl tc,.slice la ll lc] 136 (0,0))/\Tp M a1 b1 c1 w.heap.size w.heap.size) ⟨Zj,by rw [aM,if_pos rfl,if_pos Za],by assumption⟩ ?_
 have Qm:r1.2.locals.length<=r1.2.regs:=Qk
 clear i' pi HM
 rintro W ⟨hM,hK,xg⟩
 obtain ⟨ov,sv,lv,xs,ho,ea,eb,ec⟩:=hM.mkr.ob
 have yO:=ho.own ⟨7,334,2,r1.2.locals.length,r1.2.locals.flatMap locC⟩ (by simp [mkR,lSet,lAdd,lFresh])
 have q1: ∀i,W.cell? (aB M i)=(mkC vv wv ov sv lv (lSet r1.2.regs r1.1 (lFresh r1.2)))[i]?:=aa ho.out
 have qk: ∀i,W.cell? (aB w.heap.size i)=(#[iI 1,iI ln,.string name,.string name2,iI order,.string var,.slice pa pl pc,.slice (some ⟨kb,ko,none⟩) 1 xc,.slice ta tl tc,.slice la ll lc]:Array qV)[i]?:=aa hK
 have A5:=hM.mkr.bd
 have yc:=ac hK
 have KX:=Qm
 have NY:=hM.mkr.nums.fin.regs
 have HW:=Zh hM
 have HO:=Zh ho
 have xB:=Zh yO
 have PN:=Zh xg
 clear hM hK ho yO xg
 have hA:W.drew.cell? (aB w.heap.size 2)=some (.string name):=qk 2
 have hB:W.drew.cell? (aB M 7)=some lv:=q1 7
 refine ae (fun W=>W.cell? (aB w.heap.size 2)=some (.string name)) (fun W=>W.cell? (aB M 7)=some lv) 13 rfl ?_
 refine Zp 0 rfl (h:=Zp 1 rfl (h:=Zp 2 rfl (h:=Zp 3 rfl (h:=Zl 4 [10,13] rfl (h:=Zp 5 rfl (h:=Zt 6 rfl (h:=Zp 7 rfl (h:=Zp 8 rfl (h:=?_)))))))));try simp only [Zq]
 refine Zs 9 rfl fun K hK=>?_
 go_simp
 refine hK _ _ ⟨(aj yc).trans (qk 2),fun _=>(aj A5.2.1).trans (q1 7)⟩ ?_
 refine Zs 10 rfl fun K hK=>?_
 have JY:r1.2.locals.length+1<=(lSet r1.2.regs r1.1 (lFresh r1.2)).regs:=by
  have:=KX
  simp only [lSet,lAdd,lFresh]
  omega
 refine bf (.tmp 29) (.tmp 34) 204 334 i0 _ 2 24 Tryz.underlying204 xF xx xu xq rfl Zd rfl rfl (M+1) lv r1.2.locals.length (r1.2.locals.flatMap locC) (ax xB.out (fun g hg=>zac _ _ (xB.out.lt g hg).2)) W.heap.size #[.string name,iI r1.2.regs] 334 (0,0) (zab _ _) ZA ZA rfl ZD Za Za Zc ?_
 intro g2 cap2 w2 hown xb xk xE
 have hD:=Zh (HW.out.mkr.app2 (nm:=name) (rg:=r1.2.regs) (r:= .tuple #[]) HO.out ea eb ec JY xb hown xk)
 have wZ:Kp (fun k=>lv.ownBlock=some k) (W.drew.alloc _) w2:=(Kp.of_grown xb).mono (fun k _ e=>e.symm)
 have kx:w2.cell? (aB w.heap.size 2)=some (.string name):=((wZ.cell Zc (fun e=>by have:=bn (M:=M) e;have:=PN.out.ne;omega)).trans (aj yc)).trans (qk 2)
 have kc:w2.cell? (aB M 7)=some lv:=((wZ.cell Zc (fun e=>by have:=(xB.out.lt _ e).1;omega)).trans (aj A5.2.1)).trans (q1 7)
 have kf: ∀i,w2.frozen? (aB M i)=false:=ah ((wZ.block M Zc (fun e=>by have:=(xB.out.lt _ e).1;omega)).trans ((zac _ _ A5.2.1).trans HO.out.out))
 clear hown xb xk wZ
 refine hK _ _ ⟨kx,fun _=>kc⟩ ?_
 clear hK K hA hB
 have hA:w2.cell? (aB w.heap.size 2)=some (.string name):=kx
 have hB:w2.cell? (aB M 7)=some lv:=kc
 refine Zp 11 rfl (h:=Zp 12 rfl (h:=?_));try simp only [Zq]
 refine Zs 13 rfl fun K hK=>?_
 go_simp
 refine hK _ _ ⟨?_,fun hh=>Bool.noConfusion (hh.symm.trans (show _=true by kernel_rfl))⟩ ?_
 ·exact (zaH _ _ _ _ (fun e=>by have:=congrArg Addr.block e;simp only at this;omega)).trans kx
 refine af Zb ?_ _
 go_wp2_with fail
 go_end0
 exact HW.out.then hD.out
end
section
variable{w0 W W':qW}{M a b c:Nat}{vv wv:qV}{s:LS}{vs:List VarD}{gl:List GlD}
theorem oL(HX:HLx w0 M vv wv gl 66)(w:qW)(h:Mk w0 M a b c vv wv w s)(hL:LoB w0 vv wv vs gl)(var:qB)(pa pax kax:Option Addr)(pc pcx kcx:Nat)(g:GlD)(hg:gl.find? (fun g=>eqB g.name var)=some g)(yz:oneP (g.at_,g.len)=true)(x:Ex)(r1:Int×LS)(A7:ExAt w0 okA 66 x [iI x.kind,.int .u64 x.n,.string x.name,iI x.op,iI x.order,.string x.var,.slice pax x.parts.length pcx,.slice kax x.kids.length kcx])(h1:lExpr gl 66 x s=some r1)(hf:LFin (lPut {kind:=5,b:=r1.1} 3 0 (g.at_,g.len) var [] r1.2)):
  qC 198 #[pP M,.agg #[.string var,.slice pa 0 pc],.agg #[iI x.kind,.int .u64 x.n,.string x.name,iI x.op,iI x.order,.string x.var,.slice pax x.parts.length pcx,.slice kax x.kids.length kcx]] w (MkD w0 M a b c vv wv w (lPut {kind:=5,b:=r1.1} 3 0 (g.at_,g.len) var [] r1.2) (.tuple #[])):=by
 obtain ⟨ov,sv,lv,i',pi⟩:=h.rules
 obtain ⟨hl,A,hA,Fg⟩:=vC yz
 have xk:=hL.at_ g (List.mem_of_find?_eq_some hg)
 have BE:=Zh (fun W a1 b1 c1 (hM:Mk w0 M a1 b1 c1 vv wv W s)=>kC hL W hM var g hg pa pc)
 simp only [hA,Int.toNat_natCast] at hf BE xk ⊢
 have A9:A<=1000000:=by omega
 unfold lPut at hf ⊢
 simp only [Int.toNat_natCast] at hf ⊢
 generalize xd:g.len=l at*
 have Bi:LFin (lSite 3 0 var [] (lNumber A r1.2).2).2:=(LLe.add _ _).fin hf
 have yM:LFin (lNumber A r1.2).2:=(LLe.site _ _ _ _ _).fin Bi
 have ya:LFin r1.2:=(LLe.number _ _).fin yM
 have j':=h.bd
 have yb:=j'
 have HM:=Zh (MkA.begin h)
 have Dt:=Zh (fun W a1 b1 c1 (hM:Mk w0 M a1 b1 c1 vv wv W s)=>HX W a1 b1 c1 s x pax kax pcx kcx r1 hM h1 ya A7)
 clear h hL hg hA HX h1 A7 yz
 go_enter Tryz.func198,Tryz.ntmps198
 go_wp2_with (first
  |(go_at_call 256;refine (BE.out _ _ _ _ (Zj:MkA _ _ _ _ _ _ _ w _ _ _ _ _).mkr).mono ?_;rintro e w1 ⟨al,rfl,p0,rfl⟩)
  |(go_at_call 194;refine (Dt.out _ _ _ _ (Zj:MkA _ _ _ _ _ _ _ w _ _ _ _ _).mkr).mono ?_;intro e w1 hD;have hN:=MkA.nx hD Zj;clear hD HM;(try clear i' pi);obtain ⟨rfl,a1,b1,c1,ov,sv,lv,i',pi,j',HM,hm,hT,hrel⟩:=hN;(try simp only [Zz] at hrel hm);(repeat ((first|((first|(with_reducible obtain ⟨hx,hy,xg,hT⟩:=aw (lo:=w.heap.size) hT Zv hrel Zc Zi)|(with_reducible obtain ⟨hx,hy,xg,hT⟩:=av (lo:=w.heap.size) hT Zx hrel Zc Zi));(try simp only [Zz] at hx hy xg);rw [hx];clear hx)|(with_reducible replace hT:=hT.unmo)|(with_reducible replace hT:=hT.undr))));clear hT hrel)
  |(go_at_call 257;refine (iN (s:=r1.2) _ (Zj:MkA _ _ _ _ _ _ _ w _ _ _ _ _).mkr A l al A9 yM).mono ?_;intro e w1 hD;have hN:=MkA.nx hD Zj;clear hD HM;(try clear i' pi);obtain ⟨rfl,a1,b1,c1,ov,sv,lv,i',pi,j',HM,hm,hT,hrel⟩:=hN;(try simp only [Zz] at hrel hm);(repeat ((first|((first|(with_reducible obtain ⟨hx,hy,xg,hT⟩:=aw (lo:=w.heap.size) hT Zv hrel Zc Zi)|(with_reducible obtain ⟨hx,hy,xg,hT⟩:=av (lo:=w.heap.size) hT Zx hrel Zc Zi));(try simp only [Zz] at hx hy xg);rw [hx];clear hx)|(with_reducible replace hT:=hT.unmo)|(with_reducible replace hT:=hT.undr))));clear hT hrel)
  |(go_at_call 202;refine (fY (s:=(lNumber A r1.2).2) _ (Zj:MkA _ _ _ _ _ _ _ w _ _ _ _ _).mkr 3 0 var [] pa pc Bi).mono ?_;intro e w1 hD;have hN:=MkA.nx hD Zj;clear hD HM;(try clear i' pi);obtain ⟨rfl,a1,b1,c1,ov,sv,lv,i',pi,j',HM,hm,hT,hrel⟩:=hN;(try simp only [Zz] at hrel hm);(repeat ((first|((first|(with_reducible obtain ⟨hx,hy,xg,hT⟩:=aw (lo:=w.heap.size) hT Zv hrel Zc Zi)|(with_reducible obtain ⟨hx,hy,xg,hT⟩:=av (lo:=w.heap.size) hT Zx hrel Zc Zi));(try simp only [Zz] at hx hy xg);rw [hx];clear hx)|(with_reducible replace hT:=hT.unmo)|(with_reducible replace hT:=hT.undr))));clear hT hrel)
  |(go_at_call 261;refine (pX (s:=(lSite 3 0 var [] (lNumber A r1.2).2).2) _ (Zj:MkA _ _ _ _ _ _ _ w _ _ _ _ _).mkr A l al (lNumber A r1.2).1 r1.1 (lSite 3 0 var [] (lNumber A r1.2).2).1 A9 hl Fg hf).mono ?_;intro e w1 hD;have hN:=MkA.nx hD Zj;clear hD HM;(try clear i' pi);obtain ⟨rfl,a1,b1,c1,ov,sv,lv,i',pi,j',HM,hm,hT,hrel⟩:=hN;(try simp only [Zz] at hrel hm);(repeat ((first|((first|(with_reducible obtain ⟨hx,hy,xg,hT⟩:=aw (lo:=w.heap.size) hT Zv hrel Zc Zi)|(with_reducible obtain ⟨hx,hy,xg,hT⟩:=av (lo:=w.heap.size) hT Zx hrel Zc Zi));(try simp only [Zz] at hx hy xg);rw [hx];clear hx)|(with_reducible replace hT:=hT.unmo)|(with_reducible replace hT:=hT.undr))));clear hT hrel))
 go_end0
 exact ZO
end
section
variable{w0 W W':qW}{M a b c:Nat}{vv wv:qV}{s:LS}{vs:List VarD}{gl:List GlD}
theorem rV(w:qW)(h:Mk w0 M a b c vv wv w s)(ln order:Int)(name name2 var:qB)(pa xa ta la:Option Addr)(pl pc xl xc tl tc ll lc:Nat)(HX:HLx w0 M vv wv gl 66)(x:Ex)(r1:Int×LS)(xn:RwAt w0 okA 8 (ExAt w0 okA 66) (.slice xa 1 xc) [x])(h1:lExpr gl 66 x s=some r1)(q:Int)(hq:lFind r1.2 name=some q)(hf:LFin (lSet q r1.1 r1.2)):
  qC 129 #[pP M,.agg #[iI 2,iI ln,.string name,.string name2,iI order,.string var,.slice pa pl pc,.slice xa 1 xc,.slice ta tl tc,.slice la ll lc]] w (MkD w0 M a b c vv wv w (lSet q r1.1 r1.2) (.tuple #[])):=by
 obtain ⟨ov,sv,lv,i',pi⟩:=h.rules
 have j':=h.bd
 have yb:=j'
 have HM:=Zh (MkA.begin h)
 have ya:LFin r1.2:=(LLe.set _ _ _).fin hf
 obtain ⟨kb,ko,kc',pax,kax,pcx,kcx,e1,zG,A7,c0,c1',c2,c3,c4,c5,c6,c7⟩:=cU xn
 simp only [za2,zaV,zag,Nat.reduceAdd,Value.slice.injEq,true_and] at e1
 obtain ⟨rfl,rfl⟩:=e1
 replace HX:=Zh HX
 clear h xn
 go_enter Tryz.func129,Tryz.ntmps129
 go_wp2_with (first
  |(go_at_call 194;refine (HX.out _ _ _ _ _ _ _ _ _ _ _ (Zj:MkA _ _ _ _ _ _ _ w _ _ _ _ _).mkr ZB ZB ZB).mono ?_;intro e w1 hD;have hN:=MkA.nx hD Zj;clear hD HM;(try clear i' pi);obtain ⟨rfl,a1,b1,c1,ov,sv,lv,i',pi,j',HM,hm,hT,hrel⟩:=hN;(try simp only [Zz] at hrel hm);(repeat ((first|((first|(with_reducible obtain ⟨hx,hy,xg,hT⟩:=aw (lo:=w.heap.size) hT Zv hrel Zc Zi)|(with_reducible obtain ⟨hx,hy,xg,hT⟩:=av (lo:=w.heap.size) hT Zx hrel Zc Zi));(try simp only [Zz] at hx hy xg);rw [hx];clear hx)|(with_reducible replace hT:=hT.unmo)|(with_reducible replace hT:=hT.undr))));clear hT hrel)
  |(go_at_call 197;refine (mS (s:=r1.2) _ (Zj:MkA _ _ _ _ _ _ _ w _ _ _ _ _).mkr name q hq).mono ?_;rintro e w1 ⟨rfl,p,rfl⟩)
  |(go_at_call 196;refine (jM (s:=r1.2) _ (Zj:MkA _ _ _ _ _ _ _ w _ _ _ _ _).mkr q r1.1 hf).mono ?_;intro e w1 hD;have hN:=MkA.nx hD Zj;clear hD HM;(try clear i' pi);obtain ⟨rfl,a1,b1,c1,ov,sv,lv,i',pi,j',HM,hm,hT,hrel⟩:=hN;(try simp only [Zz] at hrel hm);(repeat ((first|((first|(with_reducible obtain ⟨hx,hy,xg,hT⟩:=aw (lo:=w.heap.size) hT Zv hrel Zc Zi)|(with_reducible obtain ⟨hx,hy,xg,hT⟩:=av (lo:=w.heap.size) hT Zx hrel Zc Zi));(try simp only [Zz] at hx hy xg);rw [hx];clear hx)|(with_reducible replace hT:=hT.unmo)|(with_reducible replace hT:=hT.undr))));clear hT hrel))
 go_end0
 exact ZO
theorem oJ(w:qW)(h:Mk w0 M a b c vv wv w s)(ln order:Int)(name name2 var:qB)(pa xa ta la:Option Addr)(pl pc xl xc tl tc ll lc:Nat)(HX:HLx w0 M vv wv gl 66)(hL:LoB w0 vv wv vs gl)(g:GlD)(hg:gl.find? (fun g=>eqB g.name var)=some g)(x:Ex)(r1:Int×LS)(xn:RwAt w0 okA 8 (ExAt w0 okA 66) (.slice xa 1 xc) [x])(h1:lExpr gl 66 x s=some r1)(yz:oneP (g.at_,g.len)=true)(hf:LFin (lPut {kind:=5,b:=r1.1} 3 0 (g.at_,g.len) var [] r1.2)):
  qC 129 #[pP M,.agg #[iI 3,iI ln,.string name,.string name2,iI order,.string var,.slice pa 0 pc,.slice xa 1 xc,.slice ta tl tc,.slice la ll lc]] w (MkD w0 M a b c vv wv w (lPut {kind:=5,b:=r1.1} 3 0 (g.at_,g.len) var [] r1.2) (.tuple #[])):=by
 obtain ⟨ov,sv,lv,i',pi⟩:=h.rules
 have j':=h.bd
 have yb:=j'
 have HM:=Zh (MkA.begin h)
 obtain ⟨kb,ko,kc',pax,kax,pcx,kcx,e1,zG,A7,c0,c1',c2,c3,c4,c5,c6,c7⟩:=cU xn
 simp only [za2,zaV,zag,Nat.reduceAdd,Value.slice.injEq,true_and] at e1
 obtain ⟨rfl,rfl⟩:=e1
 have PG:=Zh (fun W a1 b1 c1 (hM:Mk w0 M a1 b1 c1 vv wv W s)=>oL HX W hM hL var pa pax kax pc pcx kcx g hg yz x r1 A7 h1 hf)
 clear h xn HX hL hg yz h1 A7
 go_enter Tryz.func129,Tryz.ntmps129
 go_wp2_with fail
 refine ae (fun W=>(∀i,W.cell? (aB w.heap.size i)=(#[iI 3,iI ln,.string name,.string name2,iI order,.string var,.slice pa 0 pc,.slice (some ⟨kb,ko,none⟩) 1 xc,.slice ta tl tc,.slice la ll lc]:Array qV)[i]?)/\W.cell? (aB kb ko)=some (iI x.kind)/\W.cell? ⟨kb,ko+1,none⟩=some (.int .u64 x.n)/\W.cell? ⟨kb,ko+2,none⟩=some (.string x.name)/\W.cell? ⟨kb,ko+3,none⟩=some (iI x.op)/\W.cell? ⟨kb,ko+4,none⟩=some (iI x.order)/\W.cell? ⟨kb,ko+5,none⟩=some (.string x.var)/\W.cell? ⟨kb,ko+6,none⟩=some (.slice pax x.parts.length pcx)/\W.cell? ⟨kb,ko+7,none⟩=some (.slice kax x.kids.length kcx)) (fun W=>True) 7 rfl ?_
 refine Zp 0 rfl (hS:=⟨Z34_,fun _=>trivial⟩) (h:=Zp 1 rfl (hS:=⟨Z34_,fun _=>trivial⟩) (h:=Zt 2 rfl (hS:=⟨Z34_,fun _=>trivial⟩) (h:=Zp 3 rfl (hS:=⟨Z34_,fun _=>trivial⟩) (h:=Zt 4 rfl (hS:=⟨Z34_,fun _=>trivial⟩) (h:=Zp 5 rfl (hS:=⟨Z34_,fun _=>trivial⟩) (h:=Zt 6 rfl (hS:=⟨Z34_,fun _=>trivial⟩) (h:=?_)))))));try simp only [Zq]
 refine Zs 7 rfl fun K hK=>?_
 go_simp
 (go_at_call 198;refine (PG.out _ _ _ _ (Zj:MkA _ _ _ _ _ _ _ w _ _ _ _ _).mkr).mono ?_;intro e w1 hD;have hN:=MkA.nx hD Zj;clear hD HM;(try clear i' pi);obtain ⟨rfl,a1,b1,c1,ov,sv,lv,i',pi,j',HM,hm,hT,hrel⟩:=hN;(try simp only [Zz] at hrel hm);(repeat ((first|((first|(with_reducible obtain ⟨hx,hy,xg,hT⟩:=aw (lo:=w.heap.size) hT Zv hrel Zc Zi)|(with_reducible obtain ⟨hx,hy,xg,hT⟩:=av (lo:=w.heap.size) hT Zx hrel Zc Zi));(try simp only [Zz] at hx hy xg);rw [hx];clear hx)|(with_reducible replace hT:=hT.unmo)|(with_reducible replace hT:=hT.undr))));clear hT hrel)
 refine hK _ _ ⟨Z34_,fun _=>trivial⟩ ?_
 clear hK K
 refine af Zb ?_ _
 go_wp2_with fail
 go_end0
 exact ZO
theorem tX(w:qW)(h:Mk w0 M a b c vv wv w s)(ln order:Int)(name name2 var:qB)(pa xa ta la:Option Addr)(pl pc xl xc tl tc ll lc:Nat)(HX:HLx w0 M vv wv gl 66)(x:Ex)(r1:Int×LS)(xn:RwAt w0 okA 8 (ExAt w0 okA 66) (.slice xa 1 xc) [x])(h1:lExpr gl 66 x s=some r1)(hf:LFin (lAdd {kind:=18,a:=r1.1} r1.2)):
  qC 129 #[pP M,.agg #[iI 10,iI ln,.string name,.string name2,iI order,.string var,.slice pa pl pc,.slice xa 1 xc,.slice ta tl tc,.slice la ll lc]] w (MkD w0 M a b c vv wv w (lAdd {kind:=18,a:=r1.1} r1.2) (.tuple #[])):=by
 obtain ⟨ov,sv,lv,i',pi⟩:=h.rules
 have j':=h.bd
 have yb:=j'
 have HM:=Zh (MkA.begin h)
 have ya:LFin r1.2:=(LLe.add _ _).fin hf
 obtain ⟨kb,ko,kc',pax,kax,pcx,kcx,e1,zG,A7,c0,c1',c2,c3,c4,c5,c6,c7⟩:=cU xn
 simp only [za2,zaV,zag,Nat.reduceAdd,Value.slice.injEq,true_and] at e1
 obtain ⟨rfl,rfl⟩:=e1
 replace HX:=Zh HX
 clear h xn
 go_enter Tryz.func129,Tryz.ntmps129
 go_wp2_with (first
  |(go_at_call 201;refine (cq _ _).mono ?_;rintro e w1 ⟨rfl,p,rfl⟩)
  |(go_at_call 194;refine (HX.out _ _ _ _ _ _ _ _ _ _ _ (Zj:MkA _ _ _ _ _ _ _ w _ _ _ _ _).mkr ZB ZB ZB).mono ?_;intro e w1 hD;have hN:=MkA.nx hD Zj;clear hD HM;(try clear i' pi);obtain ⟨rfl,a1,b1,c1,ov,sv,lv,i',pi,j',HM,hm,hT,hrel⟩:=hN;(try simp only [Zz] at hrel hm);(repeat ((first|((first|(with_reducible obtain ⟨hx,hy,xg,hT⟩:=aw (lo:=w.heap.size) hT Zv hrel Zc Zi)|(with_reducible obtain ⟨hx,hy,xg,hT⟩:=av (lo:=w.heap.size) hT Zx hrel Zc Zi));(try simp only [Zz] at hx hy xg);rw [hx];clear hx)|(with_reducible replace hT:=hT.unmo)|(with_reducible replace hT:=hT.undr))));clear hT hrel)
  |(go_at_call 203;refine (cF (s:=r1.2) _ (Zj:MkA _ _ _ _ _ _ _ w _ _ _ _ _).mkr {kind:=18,a:=r1.1} hf).mono ?_;intro e w1 hD;have hN:=MkA.nx hD Zj;clear hD HM;(try clear i' pi);obtain ⟨rfl,a1,b1,c1,ov,sv,lv,i',pi,j',HM,hm,hT,hrel⟩:=hN;(try simp only [Zz] at hrel hm);(repeat ((first|((first|(with_reducible obtain ⟨hx,hy,xg,hT⟩:=aw (lo:=w.heap.size) hT Zv hrel Zc Zi)|(with_reducible obtain ⟨hx,hy,xg,hT⟩:=av (lo:=w.heap.size) hT Zx hrel Zc Zi));(try simp only [Zz] at hx hy xg);rw [hx];clear hx)|(with_reducible replace hT:=hT.unmo)|(with_reducible replace hT:=hT.undr))));clear hT hrel))
 go_end0
 exact ZO
end
theorem a8(w:qW)(a:Addr)(v:qV):(w.setCell a v).heap.size=w.heap.size:=by simp
def SLo(w0:qW)(M:Nat)(vv wv:qV)(gl:List GlD)(n:Nat):Prop:= ∀(w:qW) (a b c:Nat) (s:LS) (x:Sm) (pa xa ta la:Option Addr) (pc xc tc lc:Nat) (r:LS),Mk w0 M a b c vv wv w s->lStmt gl n x s=some r->LFin r->SmAt w0 okA n x [iI x.kind,iI x.line,.string x.name,.string x.name2,iI x.order,.string x.var,.slice pa x.parts.length pc,.slice xa x.exprs.length xc,.slice ta x.thn.length tc,.slice la x.els.length lc]->
 qC 129 #[pP M,.agg #[iI x.kind,iI x.line,.string x.name,.string x.name2,iI x.order,.string x.var,.slice pa x.parts.length pc,.slice xa x.exprs.length xc,.slice ta x.thn.length tc,.slice la x.els.length lc]] w (MkD w0 M a b c vv wv w r (.tuple #[]))
def BLo(w0:qW)(M:Nat)(vv wv:qV)(gl:List GlD)(n:Nat):Prop:= ∀(w:qW) (a b c:Nat) (s:LS) (v:qV) (l:List Sm) (r:LS),Mk w0 M a b c vv wv w s->lBlock (fun y s=>lStmt gl n y s) l s=some r->LFin r->RwAt w0 okA 10 (SmAt w0 okA n) v l->
 qC 79 #[pP M,v] w (MkD w0 M a b c vv wv w r (.tuple #[]))
section
variable{w0 W W':qW}{M a b c:Nat}{vv wv:qV}{s:LS}{vs:List VarD}{gl:List GlD}
theorem MkA.setl{w:qW}{a1 b1 c1:Nat}(h:MkA w0 M a b c vv wv w W a1 b1 c1 s)(l:Int)(hl:rng l):MkA w0 M a b c vv wv w (W.setCell ⟨M,6,none⟩ (iI l)) a1 b1 c1 {s with line:=l}:=
 ⟨h.mkr.setl l hl,h.kp.trans ((Kp.set W M 6 _).mono (fun k _ e=> .inl e)),h.ha,h.hb,h.hc⟩
theorem yaE{n:Nat}(HX:HLx w0 M vv wv gl 66)(HB:BLo w0 M vv wv gl n)(w:qW)(h:Mk w0 M a b c vv wv w s)(ln order:Int)(zV:rng ln)(name name2 var:qB)(pa xa la:Option Addr)(pl pc xc ll lc:Nat)(tv:qV)(thn:List Sm)(x:Ex)(r1:Int×LS)(s2:LS)
  (xn:RwAt w0 okA 8 (ExAt w0 okA 66) (.slice xa 1 xc) [x]) (h1:lExpr gl 66 x (lMark (s.labels+1) (lLabel (lLabel s)))=some r1) (h2:lBlock (fun y s=>lStmt gl n y s) thn (lJump (s.labels+2) r1.1 r1.2)=some s2) (FX:RwAt w0 okA 10 (SmAt w0 okA n) tv thn)
  (hf:LFin (lMark (s.labels+2) (lJump (s.labels+1) (-1) {s2 with line:=ln}))):
  qC 205 #[pP M,.agg #[iI 9,iI ln,.string name,.string name2,iI order,.string var,.slice pa pl pc,.slice xa 1 xc,tv,.slice la ll lc]] w (MkD w0 M a b c vv wv w (lMark (s.labels+2) (lJump (s.labels+1) (-1) {s2 with line:=ln})) (.tuple #[])):=by
 obtain ⟨ov,sv,lv,i',pi⟩:=h.rules
 have j':=h.bd
 have yb:=j'
 have HM:=Zh (MkA.begin h)
 have Oo:=h.nums.labels
 have L7:LFin (lJump (s.labels+1) (-1) {s2 with line:=ln}):=(LLe.mark _ _).fin hf
 have ON:LFin {s2 with line:=ln}:=(LLe.jump _ _ _).fin L7
 have L8:LFin s2:=(LLe.line ln s2).fin ON
 have D0:LFin (lJump (s.labels+2) r1.1 r1.2):=(LLe.block (fun x s r=>LLe.stmt n x s r) _ _ _ h2).fin L8
 have Bi:LFin r1.2:=(LLe.jump _ _ _).fin D0
 have yM:LFin (lMark (s.labels+1) (lLabel (lLabel s))):=(LLe.expr _ _ _ _ h1).fin Bi
 have ya:LFin (lLabel (lLabel s)):=(LLe.mark _ _).fin yM
 have zX:LFin (lLabel s):=(LLe.label _).fin ya
 have Oq:(lLabel s).labels+1=s.labels+2:=by simp only [lLabel];omega
 obtain ⟨kb,ko,kc',pax,kax,pcx,kcx,e1,zG,A7,c0,c1',c2,c3,c4,c5,c6,c7⟩:=cU xn
 simp only [zaV,zag,Value.slice.injEq,true_and] at e1
 obtain ⟨rfl,rfl⟩:=e1
 obtain ⟨ta,tc,rfl, -⟩:=id FX
 replace HX:=Zh HX
 have Jj:=Zh (fun W a1 b1 c1 (hM:Mk w0 M a1 b1 c1 vv wv W (lJump (s.labels+2) r1.1 r1.2))=>HB W a1 b1 c1 _ _ thn s2 hM h2 L8 FX)
 clear h xn h2 FX HB
 go_enter Tryz.func205,Tryz.ntmps205
 go_wp2_with fail
 (go_at_call 262;refine (lX (s:=s) _ (ZP:MkA _ _ _ _ _ _ _ w _ _ _ _ _).mkr zX).mono ?_;intro e w1 hD;have hN:=MkA.nx hD ZP;clear hD HM;(try clear i' pi);obtain ⟨rfl,a1,b1,c1,ov,sv,lv,i',pi,j',HM,hm,hT,hrel⟩:=hN;(try simp only [Zz,a8] at hrel hm);(repeat ((first|((first|(with_reducible obtain ⟨hx,hy,xg,hT⟩:=aw (lo:=w.heap.size) hT Zv hrel ZQ Zi)|(with_reducible obtain ⟨hx,hy,xg,hT⟩:=av (lo:=w.heap.size) hT Z8 hrel ZQ Zi));(try simp only [Zz,a8] at hx hy xg);rw [hx];clear hx)|(with_reducible replace hT:=hT.unmo)|(with_reducible replace hT:=hT.undr))));clear hT hrel)
 go_wp2_with fail
 (go_at_call 262;refine (lX (s:=lLabel s) _ (ZP:MkA _ _ _ _ _ _ _ w _ _ _ _ _).mkr ya).mono ?_;intro e w1 hD;have hN:=MkA.nx hD ZP;clear hD HM;(try clear i' pi);obtain ⟨rfl,a1,b1,c1,ov,sv,lv,i',pi,j',HM,hm,hT,hrel⟩:=hN;(try simp only [Zz,a8] at hrel hm);(repeat ((first|((first|(with_reducible obtain ⟨hx,hy,xg,hT⟩:=aw (lo:=w.heap.size) hT Zv hrel ZQ Zi)|(with_reducible obtain ⟨hx,hy,xg,hT⟩:=av (lo:=w.heap.size) hT Z8 hrel ZQ Zi));(try simp only [Zz,a8] at hx hy xg);rw [hx];clear hx)|(with_reducible replace hT:=hT.unmo)|(with_reducible replace hT:=hT.undr))));clear hT hrel)
 go_wp2_with fail
 (go_at_call 264;refine (lG (s:=lLabel (lLabel s)) _ (ZP:MkA _ _ _ _ _ _ _ w _ _ _ _ _).mkr (s.labels+1) yM).mono ?_;intro e w1 hD;have hN:=MkA.nx hD ZP;clear hD HM;(try clear i' pi);obtain ⟨rfl,a1,b1,c1,ov,sv,lv,i',pi,j',HM,hm,hT,hrel⟩:=hN;(try simp only [Zz,a8] at hrel hm);(repeat ((first|((first|(with_reducible obtain ⟨hx,hy,xg,hT⟩:=aw (lo:=w.heap.size) hT Zv hrel ZQ Zi)|(with_reducible obtain ⟨hx,hy,xg,hT⟩:=av (lo:=w.heap.size) hT Z8 hrel ZQ Zi));(try simp only [Zz,a8] at hx hy xg);rw [hx];clear hx)|(with_reducible replace hT:=hT.unmo)|(with_reducible replace hT:=hT.undr))));clear hT hrel)
 go_wp2_with fail
 (go_at_call 194;refine (HX.out _ _ _ _ _ _ _ _ _ _ _ (ZP:MkA _ _ _ _ _ _ _ w _ _ _ _ _).mkr ZB ZB ZB).mono ?_;intro e w1 hD;have hN:=MkA.nx hD ZP;clear hD HM;(try clear i' pi);obtain ⟨rfl,a1,b1,c1,ov,sv,lv,i',pi,j',HM,hm,hT,hrel⟩:=hN;(try simp only [Zz,a8] at hrel hm);(repeat ((first|((first|(with_reducible obtain ⟨hx,hy,xg,hT⟩:=aw (lo:=w.heap.size) hT Zv hrel ZQ Zi)|(with_reducible obtain ⟨hx,hy,xg,hT⟩:=av (lo:=w.heap.size) hT Z8 hrel ZQ Zi));(try simp only [Zz,a8] at hx hy xg);rw [hx];clear hx)|(with_reducible replace hT:=hT.unmo)|(with_reducible replace hT:=hT.undr))));clear hT hrel)
 go_wp2_with fail
 (go_at_call 263;refine (l9 (s:=r1.2) _ (ZP:MkA _ _ _ _ _ _ _ w _ _ _ _ _).mkr (s.labels+2) r1.1 D0).mono ?_;intro e w1 hD;have hN:=MkA.nx hD ZP;clear hD HM;(try clear i' pi);obtain ⟨rfl,a1,b1,c1,ov,sv,lv,i',pi,j',HM,hm,hT,hrel⟩:=hN;(try simp only [Zz,a8] at hrel hm);(repeat ((first|((first|(with_reducible obtain ⟨hx,hy,xg,hT⟩:=aw (lo:=w.heap.size) hT Zv hrel ZQ Zi)|(with_reducible obtain ⟨hx,hy,xg,hT⟩:=av (lo:=w.heap.size) hT Z8 hrel ZQ Zi));(try simp only [Zz,a8] at hx hy xg);rw [hx];clear hx)|(with_reducible replace hT:=hT.unmo)|(with_reducible replace hT:=hT.undr))));clear hT hrel)
 go_wp2_with fail
 (go_at_call 79;refine (Jj.out _ _ _ _ (ZP:MkA _ _ _ _ _ _ _ w _ _ _ _ _).mkr).mono ?_;intro e w1 hD;have hN:=MkA.nx hD ZP;clear hD HM;(try clear i' pi);obtain ⟨rfl,a1,b1,c1,ov,sv,lv,i',pi,j',HM,hm,hT,hrel⟩:=hN;(try simp only [Zz,a8] at hrel hm);(repeat ((first|((first|(with_reducible obtain ⟨hx,hy,xg,hT⟩:=aw (lo:=w.heap.size) hT Zv hrel ZQ Zi)|(with_reducible obtain ⟨hx,hy,xg,hT⟩:=av (lo:=w.heap.size) hT Z8 hrel ZQ Zi));(try simp only [Zz,a8] at hx hy xg);rw [hx];clear hx)|(with_reducible replace hT:=hT.unmo)|(with_reducible replace hT:=hT.undr))));clear hT hrel)
 go_wp2_with fail
 (go_at_call 263;refine (l9 (s:={s2 with line:=ln}) _ (ZP:MkA _ _ _ _ _ _ _ w _ _ _ _ _).mkr (s.labels+1) (-1) L7).mono ?_;intro e w1 hD;have hN:=MkA.nx hD ZP;clear hD HM;(try clear i' pi);obtain ⟨rfl,a1,b1,c1,ov,sv,lv,i',pi,j',HM,hm,hT,hrel⟩:=hN;(try simp only [Zz,a8] at hrel hm);(repeat ((first|((first|(with_reducible obtain ⟨hx,hy,xg,hT⟩:=aw (lo:=w.heap.size) hT Zv hrel ZQ Zi)|(with_reducible obtain ⟨hx,hy,xg,hT⟩:=av (lo:=w.heap.size) hT Z8 hrel ZQ Zi));(try simp only [Zz,a8] at hx hy xg);rw [hx];clear hx)|(with_reducible replace hT:=hT.unmo)|(with_reducible replace hT:=hT.undr))));clear hT hrel)
 go_wp2_with fail
 (go_at_call 264;refine (lG (s:=lJump (s.labels+1) (-1) {s2 with line:=ln}) _ (ZP:MkA _ _ _ _ _ _ _ w _ _ _ _ _).mkr (s.labels+2) hf).mono ?_;intro e w1 hD;have hN:=MkA.nx hD ZP;clear hD HM;(try clear i' pi);obtain ⟨rfl,a1,b1,c1,ov,sv,lv,i',pi,j',HM,hm,hT,hrel⟩:=hN;(try simp only [Zz,a8] at hrel hm);(repeat ((first|((first|(with_reducible obtain ⟨hx,hy,xg,hT⟩:=aw (lo:=w.heap.size) hT Zv hrel ZQ Zi)|(with_reducible obtain ⟨hx,hy,xg,hT⟩:=av (lo:=w.heap.size) hT Z8 hrel ZQ Zi));(try simp only [Zz,a8] at hx hy xg);rw [hx];clear hx)|(with_reducible replace hT:=hT.unmo)|(with_reducible replace hT:=hT.undr))));clear hT hrel)
 go_wp2_with fail
 go_end0
 (apply MkA.fin;(repeat (first|with_reducible exact HM.out|with_reducible apply MkA.alloc|with_reducible apply MkA.drew|with_reducible apply MkA.mo|with_reducible apply MkA.own|with_reducible apply MkA.setl|exact HM.out));all_goals (first|with_reducible assumption|exact ⟨by omega⟩|omega))
end
section
variable{w0 W W':qW}{M a b c:Nat}{vv wv:qV}{s:LS}{vs:List VarD}{gl:List GlD}
theorem Mk.rulesL(h:Mk w0 M a b c vv wv W s): ∃ov sv la lc,s.locals.length<=lc/\(∀b i,W.cell? (aB b i)=if b<w0.heap.size then w0.cell? (aB b i) else if b=M then (#[vv,wv,ov,iI s.regs,iI s.labels,sv,iI s.line,.slice la s.locals.length lc]:Array qV)[i]? else cellW W ⟨b,i,none⟩)/\
  (∀b i,W.frozen? (aB b i)=if b<w0.heap.size then w0.frozen? (aB b i) else if b=M then false else frzW W ⟨b,i,none⟩)/\
  ∀n0,n0<=s.locals.length->Mk w0 M a b c vv wv (W.setCell ⟨M,7,none⟩ (.slice la n0 lc)) {s with locals:=s.locals.take n0}:=by
 obtain ⟨ov,sv,lv,xs,ho,ea,eb,ec⟩:=h.ob
 have hown:=ho.own ⟨7,334,2,s.locals.length,s.locals.flatMap locC⟩ (by simp [mkR])
 obtain ⟨la,lc,e,h1, -⟩:=aC hown
 simp only [fld,mkC] at e
 have e':lv= .slice la s.locals.length lc:=by simpa using e
 subst e'
 refine ⟨ov,sv,la,lc,h1,eN ho.out h.bl,eF ho.out h.bl,fun n0 hn=>?_⟩
 have Gf:W.ownsRow (M+1) 334 2 (.slice la s.locals.length lc) s.locals.length (s.locals.flatMap locC):=hown
 have hcut:=fi Gf hn
 have ex:(s.locals.flatMap locC).take (n0*2)=(s.locals.take n0).flatMap locC:=by
  have hf: ∀(l:List (qB×Int)) (n:Nat),(l.flatMap locC).take (n*2)=(l.take n).flatMap locC:=by
   intro l
   induction l with
   |nil=>intro n;simp
   |cons x l ih=>
    intro n
    cases n with
    |zero=>simp
    |succ n=>
     have:=ih n
     simp only [zaf,List.take_succ_cons,locC] at this ⊢
     rw [show (n+1)*2=n*2+2 by omega]
     simp [this]
  exact hf _ _
 rw [ex] at hcut
 obtain ⟨p1,p2, -⟩:=ho.put (r:=⟨7,334,2,s.locals.length,s.locals.flatMap locC⟩) (by simp [mkR]) (by simp [mkC]) (Kp.refl _ W) hcut (fun k hk=> .inl (by cases la<;>simpa [fld,mkC,Value.ownBlock] using hk))
 have hb:=h.bl
 refine ⟨⟨ov,sv,.slice la n0 lc,xs,?_,ea,eb,?_⟩,hb.setCell h.le _,h.le,⟨⟨h.nums.fin.ops,h.nums.fin.regs,h.nums.fin.labels,h.nums.fin.sites⟩,h.nums.regs,h.nums.labels,by have:=h.nums.locals;simp;omega,h.nums.line⟩⟩
 ·have e1:(mkC vv wv ov sv (.slice la s.locals.length lc) s).setIfInBounds 7 (.slice la n0 lc)=mkC vv wv ov sv (.slice la n0 lc) {s with locals:=s.locals.take n0}:=rfl
  have e2:(mkR s xs).map (fun q=>if q.ix=7 then {q with n:=n0,xs:=(s.locals.take n0).flatMap locC} else q)=mkR {s with locals:=s.locals.take n0} xs:=by
   simp [mkR]
   omega
  rw [e1,e2] at p1
  exact p1
 ·rw [<-ec]
  cases la<;>rfl
theorem yaY{f:Sm->LS->Option LS}{l:List Sm}{j:Nat}{y:Sm}{s r:LS}(h:lSeq f (l.drop j) s=some r)(hy:l[j]?=some y): ∃s2,f y {s with line:=y.line}=some s2/\lSeq f (l.drop (j+1)) s2=some r:=by
 obtain ⟨hl,e⟩:=List.getElem?_eq_some_iff.1 hy
 rw [zaS hl,e] at h
 simp only [lSeq] at h
 split at h
 ·cases h
 ·rename_i s2 h2
  exact ⟨s2,h2,h⟩
theorem nU{n:Nat}(HS:SLo w0 M vv wv gl n):BLo w0 M vv wv gl n:=by
 intro w a b c s v l r h hb hf hr
 unfold lBlock at hb
 rcases hq:lSeq (fun y s=>lStmt gl n y s) l s with _|sf
 ·rw [hq] at hb
  cases hb
 rw [hq] at hb
 simp only [Option.map_some,zaA] at hb
 subst hb
 have Ah:LFin sf:=⟨hf.ops,hf.regs,hf.labels,hf.sites⟩
 obtain ⟨ra,rc,rfl,g1,g2,g3⟩:=hr
 have HR:=Zh g3
 have KM:=Zh HS
 have HQ:=Zh hq
 have yb:=h.bd
 have Er:=h.nums.locals
 have Q1:=h.nums.fin.regs
 obtain ⟨ov,sv,la,lc,IG,i',pi, -⟩:=h.rulesL
 have Nn:=Zh (MkA.begin h)
 clear h g3 hq HS
 go_enter Tryz.func79,Tryz.ntmps79
 go_wp2_with fail
 go_loopw [14] (fun v14 wr=> ∃(j:Nat) (s1:LS) (a1 b1 c1:Nat),v14=iI j/\j<=l.length/\MkA w0 M a b c vv wv w wr a1 b1 c1 s1/\lSeq (fun y s=>lStmt gl n y s) (l.drop j) s1=some sf/\LExt s s1) (fun v14 _=>l.length-(intOf v14).toNat)
 case atStart=>exact ⟨0,s,a,b,c,rfl,zaB _,Nn.out,HQ.out,LExt.refl _⟩
 case round=>
  obtain ⟨j,s1,a1,b1,c1,rfl,hj,hM,zo,EN⟩:=hrel
  clear i' pi
  have j':=hM.mkr.bd
  have DA:=hM.kp.size
  rcases (by omega:j=l.length\/j<l.length) with h2|h2
  ·subst h2
   have yK:s1=sf:=by
    rw [List.drop_length] at zo
    simpa [lSeq] using zo
   subst yK
   have xd:=EN.len
   obtain ⟨ov,sv,la1,lc1,On,i',pi,hcut⟩:=hM.mkr.rulesL
   have HC:=Zh (hcut s.locals.length xd)
   have HM:=Zh hM
   clear hM hcut zo
   go_wp2_with fail
   go_end0
   refine ⟨rfl,a1,b1,c1,?_,HM.out.kp.trans ((Kp.set wr M 7 _).mono (fun k _ e=> .inl e)),HM.out.ha,HM.out.hb,HM.out.hc⟩
   exact HC.out
  ·obtain ⟨eb,eo,rfl, -,hb,y8⟩:=HR.out Za
   obtain ⟨y,hy⟩: ∃y,l[j]?=some y:=⟨l[j],zaC h2⟩
   obtain ⟨s2,xz,Fi⟩:=yaY zo hy
   obtain ⟨cs,xd,hE,xG⟩:=y8 j y hy
   obtain ⟨pa,pc,xa,xc,ta,tc,ua,uc,rfl,r1,r2,r3⟩:=jG hE
   have c0:w0.cell? ⟨eb,eo+j*10,none⟩=_:=xG 0 _ rfl
   have c1':=xG 1 _ rfl
   have c2:=xG 2 _ rfl
   have c3:=xG 3 _ rfl
   have c4:=xG 4 _ rfl
   have c5:=xG 5 _ rfl
   have c6:=xG 6 _ rfl
   have c7:=xG 7 _ rfl
   have c8:=xG 8 _ rfl
   have c9:=xG 9 _ rfl
   have Gs:LLe s2 sf:=LLe.seq (fun x s r=>LLe.stmt n x s r) _ _ _ Fi
   have yM:LFin s2:=Gs.fin Ah
   have D4:LExt s s2:=(EN.trans (LExt.of_eq (t:={s1 with line:=y.line}) rfl)).trans (lY n y _ _ xz)
   have zk:=Zh (fun W a1 b1 c1 (hM:Mk w0 M a1 b1 c1 vv wv W {s1 with line:=y.line})=>KM.out W a1 b1 c1 _ y pa xa ta ua pc xc tc uc s2 hM xz yM hE)
   have KO:=Zh Fi
   have Qx:=Zh D4
   obtain ⟨ov,sv,lv,i',pi⟩:=hM.mkr.rules
   have HM:=Zh hM
   clear hM xG hE y8 hy xd xz zo Fi EN D4 Gs
   go_wp2_with fail
   (go_at_call 129;refine (zk.out _ _ _ _ (ZP:MkA _ _ _ _ _ _ _ w _ _ _ _ _).mkr).mono ?_;intro e w1 hD;have hN:=MkA.nx hD ZP;clear hD HM;(try clear i' pi);obtain ⟨rfl,a1,b1,c1,ov,sv,lv,i',pi,j',HM,hm,hT,hrel⟩:=hN;(try simp only [Zz,a8] at hrel hm);(repeat ((first|((first|(with_reducible obtain ⟨hx,hy,xg,hT⟩:=aw (lo:=w.heap.size) hT Zv hrel ZQ Zi)|(with_reducible obtain ⟨hx,hy,xg,hT⟩:=av (lo:=w.heap.size) hT Z8 hrel ZQ Zi));(try simp only [Zz,a8] at hx hy xg);rw [hx];clear hx)|(with_reducible replace hT:=hT.unmo)|(with_reducible replace hT:=hT.undr))));clear hT hrel)
   go_wp2_with fail
   refine ⟨⟨j+1,s2,a1,b1,c1,by simp,by omega,ZP,KO.out,Qx.out⟩,by simp [intOf];omega⟩
end
end Go.Proofs.YtjmfoeajhiimnaaGreatDoor
