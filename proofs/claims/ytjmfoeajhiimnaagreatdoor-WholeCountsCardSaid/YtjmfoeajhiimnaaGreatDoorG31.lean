/- Walks. No condition. -/
import Derived.Test.YtjmfoeajhiimnaaGreatDoorG30
set_option maxRecDepth 100000
set_option maxHeartbeats 0
set_option linter.all false
namespace Go.Proofs.YtjmfoeajhiimnaaGreatDoor
section
open Go.RowKit Go.Sort
theorem OneS.more{w w':qW}{a l:Int}{e:Ending}(h:OneS w a l e w'): ∃g c p,e= .returned (.slice (aA g) 1 c)/\w'=more w p/\w.heap.size<=g/\g<w.heap.size+p.os.size/\moreCell w p ⟨g,0,none⟩=some (iI a)/\moreCell w p ⟨g,1,none⟩=some (iI l):=by
 obtain ⟨g,c,rfl,hb,h1,h2,h3,h4⟩:=h
 obtain ⟨p,rfl⟩:=bC hb
 exact ⟨g,c,p,rfl,rfl,h1,by simpa [go_sem] using h2,h3,h4⟩
section
variable{w0 W W':qW}{M a b c:Nat}{vv wv:qV}{s:LS}
theorem o9(w:qW)(op x:Int)(yi:op=7\/op=8):qC 259 #[pP M,iI op,iI x,.int .u64 0] w fun e w'=>e= .returned (iI x)/\w'=w:=by
 rcases yi with rfl|rfl
 all_goals
  go_enter Tryz.func259,Tryz.ntmps259
  go_wp2
  go_ret
  exact ⟨rfl,rfl⟩
theorem pX(w:qW)(h:Mk w0 M a b c vv wv w s)(A:Nat)(l al at_ x site:Int)(A9:A<=1000000)(hl:l=1\/l=2\/l=4\/l=8)(hm:(A:Int).tmod l=0)
  (hf:LFin (lAdd {kind:=5,a:=at_,n:=0,size:=l,site:=site,b:=x} s)):
  qC 261 #[pP M,.agg #[iI A,iI l,iI 0,.bool false,iI 0,iI 0,iI (-1),iI al],iI at_,iI x,iI site] w
   (MkD w0 M a b c vv wv w (lAdd {kind:=5,a:=at_,n:=0,size:=l,site:=site,b:=x} s) (.tuple #[])):=by
 obtain ⟨ov,sv,lv,i',pi⟩:=h.rules
 have j':=h.bd
 have yb:=j'
 have HM:=Zh (MkA.begin h)
 have F7:=h.nums.regs
 have zj:IntKind.u64.wrap 0=0:=rfl
 have HP:=Zh (fun W=>spieces A l al Za Za hl hm W)
 clear h hm
 go_enter Tryz.func261,Tryz.ntmps261
 go_wp2_with (first
  |(go_at_call 287;refine (HP.out _).mono ?_;intro e w1 h1;obtain ⟨g,pc,p1,rfl,rfl,xy,Ag,k0,k1⟩:=h1.more;clear h1;(try simp only [ar,aZ] at xy Ag)))
 refine zao 2 ?_
 rw [zap]
 go_wp2_with (first
  |(go_at_call 201;refine (cq _ _).mono ?_;rintro e w1 ⟨rfl,p,rfl⟩))
 generalize RE:w.heap.size+1+p1.os.size=K1 at*
 generalize D':K1+1+p.os.size=K2 at*
 refine aS (R:=fun W=>MkA w0 M a b c vv wv w W a b c s/\W.heap[K1]?=some (.cells #[iI 0,iI l] 67 (0,0))/\W.heap[K2]?=some (.cells #[iI 5,iI (-1),iI (-1),iI (-1),iI (-1),iI (-1),.int .u64 0,iI 0,iI 0,iI 0,iI 0,iI 0,iI 0] 225 (0,0))) ⟨Zj,?_,aH ZR⟩ ?_
 ·rw [zac _ _ ZR,ch _ _ _ ZR]
  exact aH ZR
 clear i' pi
 rintro W ⟨hM,h1,h2⟩
 obtain ⟨V,hV,hM⟩: ∃V,W=putB (putB V K1 #[iI 0,iI l] 67) K2 #[iI 5,iI (-1),iI (-1),iI (-1),iI (-1),iI (-1),.int .u64 0,iI 0,iI 0,iI 0,iI 0,iI 0,iI 0] 225/\MkA w0 M a b c vv wv w V a b c s:=⟨W,by rw [bE h1,bE h2],hM⟩
 have yH:=ac h2
 clear h1 h2
 subst hV
 simp only [aN] at yH
 have DJ:K2<V.drew.heap.size:=yH
 obtain ⟨ov,sv,lv,i',pi⟩:=hM.mkr.rules
 have j':=hM.mkr.bd
 replace HM:=Zh hM
 clear hM
 refine ae (fun W=> ∀i,W.cell? (aB K1 i)=(#[iI 0,iI l]:Array qV)[i]?) (fun W=>True) 14 rfl ?_
 refine Zp 0 rfl (h:=Zp 1 rfl (h:=Zt 2 rfl (h:=Zp 3 rfl (h:=Zp 4 rfl (h:=Zt 5 rfl (h:=Zp 6 rfl (h:=Zp 7 rfl (h:=?_))))))));try simp only [Zq]
 refine Zs 8 rfl fun K hK=>?_
 go_simp
 try simp [go_sem,↓IntWalk.iteOmega]
 refine hK _ _ Zw ?_
 clear hK K
 refine Zp 9 rfl (h:=?_);try simp only [Zq]
 refine Zs 10 rfl fun K hK=>?_
 go_simp
 try simp [go_sem,↓IntWalk.iteOmega]
 refine hK _ _ Zw ?_
 clear hK K
 refine Zp 11 rfl (h:=?_);try simp only [Zq]
 refine Zs 12 rfl fun K hK=>?_
 go_simp
 try simp [go_sem,↓IntWalk.iteOmega]
 refine hK _ _ Zw ?_
 clear hK K
 refine Zp 13 rfl (h:=?_);try simp only [Zq]
 refine Zs 14 rfl fun K hK=>?_
 go_simp
 try simp [go_sem,↓IntWalk.iteOmega]
 refine hK _ _ Zw ?_
 clear hK K
 refine af Zb ?_ _
 go_wp2_with (first
  |(go_at_call 203;refine (cF (s:=s) _ (Zj:MkA _ _ _ _ _ _ _ w _ _ _ _ _).mkr {kind:=5,a:=at_,n:=0,size:=l,site:=site,b:=x} hf).mono ?_;intro e w1 hD;have hN:=MkA.nx hD Zj;clear hD HM;(try clear i' pi);obtain ⟨rfl,a1,b1,c1,ov,sv,lv,i',pi,j',HM,hm,hT,hrel⟩:=hN;(try simp only [Zz] at hrel hm);(repeat ((first|((first|(with_reducible obtain ⟨hx,hy,xg,hT⟩:=aw (lo:=w.heap.size) hT Zv hrel Zc Zi)|(with_reducible obtain ⟨hx,hy,xg,hT⟩:=av (lo:=w.heap.size) hT Zx hrel Zc Zi));(try simp only [Zz] at hx hy xg);rw [hx];clear hx)|(with_reducible replace hT:=hT.unmo)|(with_reducible replace hT:=hT.undr))));clear hT hrel)
  |(go_at_call 259;refine (o9 _ _ _ (.inr rfl)).mono ?_;rintro e w3 ⟨rfl,Fd⟩;replace Fd:=Fd.symm;subst Fd))
 rw [zap]
 go_wp2_with fail
 go_end0
 exact ZO
end
theorem vC{g:GlD}(h:oneP (g.at_,g.len)=true):(g.len=1\/g.len=2\/g.len=4\/g.len=8)/\ ∃A:Nat,g.at_=A/\(A:Int).tmod g.len=0:=by
 unfold oneP at h
 simp only [za0,zak,zau] at h
 obtain ⟨⟨h1,h2⟩,h3⟩:=h
 refine ⟨by omega,g.at_.toNat,by omega,?_⟩
 rw [show ((g.at_.toNat:Nat):Int)=g.at_ by omega,Int.tmod_eq_emod_of_nonneg h2]
 exact h3
section
variable{w0 W W':qW}{M a b c:Nat}{vv wv:qV}{s:LS}{vs:List VarD}{gl:List GlD}
end
theorem drewC(w:qW)(a:Addr):w.drew.cell? a=w.cell? a:=rfl
theorem iB(w:qW):w.drew.heap.size=w.heap.size:=Nat.le_antisymm (zaq _) (zaq _)
def HLx(w0:qW)(M:Nat)(vv wv:qV)(gl:List GlD)(n:Nat):Prop:= ∀(w:qW) (a b c:Nat) (s:LS) (e:Ex) (pa ka:Option Addr) (pc kc:Nat) (r:Int×LS),Mk w0 M a b c vv wv w s->lExpr gl n e s=some r->LFin r.2->ExAt w0 okA n e [iI e.kind,.int .u64 e.n,.string e.name,iI e.op,iI e.order,.string e.var,.slice pa e.parts.length pc,.slice ka e.kids.length kc]->
 qC 194 #[pP M,.agg #[iI e.kind,.int .u64 e.n,.string e.name,iI e.op,iI e.order,.string e.var,.slice pa e.parts.length pc,.slice ka e.kids.length kc]] w (MkD w0 M a b c vv wv w r.2 (iI r.1))
section
variable{w0 W W':qW}{M a b c:Nat}{vv wv:qV}{s:LS}{vs:List VarD}{gl:List GlD}
theorem cU{n:Nat}{v:qV}{x:Ex}{l:List Ex}(h:RwAt w0 okA 8 (ExAt w0 okA n) v (x::l)): ∃b o c pa ka pc kc,v= .slice (some ⟨b,o,none⟩) (l.length+1) c/\b<w0.heap.size/\ExAt w0 okA n x [iI x.kind,.int .u64 x.n,.string x.name,iI x.op,iI x.order,.string x.var,.slice pa x.parts.length pc,.slice ka x.kids.length kc]/\
  w0.cell? (aB b o)=some (iI x.kind)/\w0.cell? ⟨b,o+1,none⟩=some (.int .u64 x.n)/\w0.cell? ⟨b,o+2,none⟩=some (.string x.name)/\w0.cell? ⟨b,o+3,none⟩=some (iI x.op)/\w0.cell? ⟨b,o+4,none⟩=some (iI x.order)/\w0.cell? ⟨b,o+5,none⟩=some (.string x.var)/\w0.cell? ⟨b,o+6,none⟩=some (.slice pa x.parts.length pc)/\w0.cell? ⟨b,o+7,none⟩=some (.slice ka x.kids.length kc):=by
 obtain ⟨b,o,c,rfl, -, -, -,hb,cs, -,hE,hc⟩:=h.head
 obtain ⟨pa,pc,ka,kc,rfl, -⟩:=iu hE
 exact ⟨b,o,c,pa,ka,pc,kc,rfl,hb,hE,hc 0 _ rfl,hc 1 _ rfl,hc 2 _ rfl,hc 3 _ rfl,hc 4 _ rfl,hc 5 _ rfl,hc 6 _ rfl,hc 7 _ rfl⟩
theorem ydp(w:qW)(h:Mk w0 M a b c vv wv w s)(n:Nat)(name var:qB)(op order:Int)(pa ka:Option Addr)(pl pc kl kc:Nat)(hf:LFin (lNumber n s).2):
  qC 194 #[pP M,.agg #[iI 1,.int .u64 n,.string name,iI op,iI order,.string var,.slice pa pl pc,.slice ka kl kc]] w (MkD w0 M a b c vv wv w (lNumber n s).2 (iI (lNumber n s).1)):=by
 obtain ⟨ov,sv,lv,i',pi⟩:=h.rules
 have j':=h.bd
 have yb:=j'
 have HM:=Zh (MkA.begin h)
 clear h
 go_enter Tryz.func194,Tryz.ntmps194
 go_wp2_with (first
  |(go_at_call 250;refine (lj (s:=s) _ (Zj:MkA _ _ _ _ _ _ _ w _ _ _ _ _).mkr n hf).mono ?_;intro e w1 hD;have hN:=MkA.nx hD Zj;clear hD HM;(try clear i' pi);obtain ⟨rfl,a1,b1,c1,ov,sv,lv,i',pi,j',HM,hm,hT,hrel⟩:=hN;(try simp only [Zz] at hrel hm);(repeat ((first|((first|(with_reducible obtain ⟨hx,hy,xg,hT⟩:=aw (lo:=w.heap.size) hT Zv hrel Zc Zi)|(with_reducible obtain ⟨hx,hy,xg,hT⟩:=av (lo:=w.heap.size) hT Zx hrel Zc Zi));(try simp only [Zz] at hx hy xg);rw [hx];clear hx)|(with_reducible replace hT:=hT.unmo)|(with_reducible replace hT:=hT.undr))));clear hT hrel))
 go_ret
 exact ZO
theorem ydo(w:qW)(h:Mk w0 M a b c vv wv w s)(n:Nat)(name var:qB)(op order:Int)(pa ka:Option Addr)(pl pc kl kc:Nat)(r:Int)(hr:lFind s name=some r):
  qC 194 #[pP M,.agg #[iI 2,.int .u64 n,.string name,iI op,iI order,.string var,.slice pa pl pc,.slice ka kl kc]] w (MkD w0 M a b c vv wv w s (iI r)):=by
 obtain ⟨ov,sv,lv,i',pi⟩:=h.rules
 have j':=h.bd
 have yb:=j'
 have HM:=Zh (MkA.begin h)
 clear h
 go_enter Tryz.func194,Tryz.ntmps194
 go_wp2_with (first
  |(go_at_call 197;refine (mS _ (Zj:MkA _ _ _ _ _ _ _ w _ _ _ _ _).mkr name r hr).mono ?_;rintro e w1 ⟨rfl,p,rfl⟩))
 go_ret
 exact ZO
theorem ydn{n:Nat}(HX:HLx w0 M vv wv gl n)(w:qW)(h:Mk w0 M a b c vv wv w s)(num:Nat)(name var:qB)(op order:Int)(pa ka:Option Addr)(pl pc kc:Nat)(x y:Ex)(xn:RwAt w0 okA 8 (ExAt w0 okA n) (.slice ka 2 kc) [x,y])(r1 r2:Int×LS)
  (h1:lExpr gl n x s=some r1) (h2:lExpr gl n y r1.2=some r2) (hf:LFin (lBin op r1.1 r2.1 r2.2).2):
  qC 194 #[pP M,.agg #[iI 3,.int .u64 num,.string name,iI op,iI order,.string var,.slice pa pl pc,.slice ka 2 kc]] w (MkD w0 M a b c vv wv w (lBin op r1.1 r2.1 r2.2).2 (iI (lBin op r1.1 r2.1 r2.2).1)):=by
 obtain ⟨ov,sv,lv,i',pi⟩:=h.rules
 have j':=h.bd
 have yb:=j'
 have HM:=Zh (MkA.begin h)
 have yM:LFin r2.2:=(LLe.bin _ _ _ _).fin hf
 have ya:LFin r1.2:=(LLe.expr _ _ _ _ h2).fin yM
 obtain ⟨kb,ko,kc',pax,kax,pcx,kcx,e1,zG,A7,c0,c1',c2,c3,c4,c5,c6,c7⟩:=cU xn
 simp only [za2,zaV,zag,Nat.reduceAdd,Value.slice.injEq,true_and] at e1
 obtain ⟨rfl,rfl⟩:=e1
 have zJ:=xn.tail
 obtain ⟨kb',ko',kc',pay,kay,pcy,kcy,e1, -,MY,d0,d1,d2,d3,d4,d5,d6,d7⟩:=cU zJ
 simp only [Value.slice.injEq,zaA,Addr.mk.injEq,and_true] at e1
 obtain ⟨⟨rfl,rfl⟩, -⟩:=e1
 have Dt:=Zh (fun W a1 b1 c1 (hM:Mk w0 M a1 b1 c1 vv wv W s)=>HX W a1 b1 c1 s x pax kax pcx kcx r1 hM h1 ya A7)
 have Ed:=Zh (fun W a1 b1 c1 (hM:Mk w0 M a1 b1 c1 vv wv W r1.2)=>HX W a1 b1 c1 r1.2 y pay kay pcy kcy r2 hM h2 yM MY)
 clear h xn zJ A7 MY h1 h2 HX
 go_enter Tryz.func194,Tryz.ntmps194
 go_wp2_with (first
  |(go_at_call 194;refine (Dt.out _ _ _ _ (Zj:MkA _ _ _ _ _ _ _ w _ _ _ _ _).mkr).mono ?_;intro e w1 hD;have hN:=MkA.nx hD Zj;clear hD HM;(try clear i' pi);obtain ⟨rfl,a1,b1,c1,ov,sv,lv,i',pi,j',HM,hm,hT,hrel⟩:=hN;(try simp only [Zz] at hrel hm);(repeat ((first|((first|(with_reducible obtain ⟨hx,hy,xg,hT⟩:=aw (lo:=w.heap.size) hT Zv hrel Zc Zi)|(with_reducible obtain ⟨hx,hy,xg,hT⟩:=av (lo:=w.heap.size) hT Zx hrel Zc Zi));(try simp only [Zz] at hx hy xg);rw [hx];clear hx)|(with_reducible replace hT:=hT.unmo)|(with_reducible replace hT:=hT.undr))));clear hT hrel))
 refine ae (fun W=>(∀i,W.cell? (aB w.heap.size i)=(#[iI 3,.int .u64 num,.string name,iI op,iI order,.string var,.slice pa pl pc,.slice (some ⟨kb,ko,none⟩) 2 kc]:Array qV)[i]?)/\W.cell? ⟨kb,ko+8,none⟩=some (iI y.kind)/\W.cell? ⟨kb,ko+8+1,none⟩=some (.int .u64 y.n)/\W.cell? ⟨kb,ko+8+2,none⟩=some (.string y.name)/\W.cell? ⟨kb,ko+8+3,none⟩=some (iI y.op)/\W.cell? ⟨kb,ko+8+4,none⟩=some (iI y.order)/\W.cell? ⟨kb,ko+8+5,none⟩=some (.string y.var)/\W.cell? ⟨kb,ko+8+6,none⟩=some (.slice pay y.parts.length pcy)/\W.cell? ⟨kb,ko+8+7,none⟩=some (.slice kay y.kids.length kcy)) (fun W=>True) 10 rfl ?_
 refine Zp 0 rfl (hS:=⟨Z4,fun _=>trivial⟩) (h:=Zp 1 rfl (hS:=⟨Z4,fun _=>trivial⟩) (h:=Zt 2 rfl (hS:=⟨Z4,fun _=>trivial⟩) (h:=Zp 3 rfl (hS:=⟨Z4,fun _=>trivial⟩) (h:=Zp 4 rfl (hS:=⟨Z4,fun _=>trivial⟩) (h:=Zp 5 rfl (hS:=⟨Z4,fun _=>trivial⟩) (h:=Zt 6 rfl (hS:=⟨Z4,fun _=>trivial⟩) (h:=Zp 7 rfl (hS:=⟨Z4,fun _=>trivial⟩) (h:=Zt 8 rfl (hS:=⟨Z4,fun _=>trivial⟩) (h:=?_)))))))));try simp only [Zq]
 refine Zs 9 rfl fun K hK=>?_
 go_simp
 (go_at_call 194;refine (Ed.out _ _ _ _ (Zj:MkA _ _ _ _ _ _ _ w _ _ _ _ _).mkr).mono ?_;intro e w1 hD;have hN:=MkA.nx hD Zj;clear hD HM;(try clear i' pi);obtain ⟨rfl,a1,b1,c1,ov,sv,lv,i',pi,j',HM,hm,hT,hrel⟩:=hN;(try simp only [Zz] at hrel hm);(repeat ((first|((first|(with_reducible obtain ⟨hx,hy,xg,hT⟩:=aw (lo:=w.heap.size) hT Zv hrel Zc Zi)|(with_reducible obtain ⟨hx,hy,xg,hT⟩:=av (lo:=w.heap.size) hT Zx hrel Zc Zi));(try simp only [Zz] at hx hy xg);rw [hx];clear hx)|(with_reducible replace hT:=hT.unmo)|(with_reducible replace hT:=hT.undr))));clear hT hrel)
 refine hK _ _ ⟨Z4,fun _=>trivial⟩ ?_
 clear hK K
 refine Zs 10 rfl fun K hK=>?_
 go_simp
 (go_at_call 251;refine (yeX (s:=r2.2) _ (Zj:MkA _ _ _ _ _ _ _ w _ _ _ _ _).mkr op r1.1 r2.1 hf).mono ?_;intro e w1 hD;have hN:=MkA.nx hD Zj;clear hD HM;(try clear i' pi);obtain ⟨rfl,a1,b1,c1,ov,sv,lv,i',pi,j',HM,hm,hT,hrel⟩:=hN;(try simp only [Zz] at hrel hm);(repeat ((first|((first|(with_reducible obtain ⟨hx,hy,xg,hT⟩:=aw (lo:=w.heap.size) hT Zv hrel Zc Zi)|(with_reducible obtain ⟨hx,hy,xg,hT⟩:=av (lo:=w.heap.size) hT Zx hrel Zc Zi));(try simp only [Zz] at hx hy xg);rw [hx];clear hx)|(with_reducible replace hT:=hT.unmo)|(with_reducible replace hT:=hT.undr))));clear hT hrel)
 refine hK _ _ ⟨Z4,fun _=>trivial⟩ ?_
 clear hK K
 refine Zs 11 rfl fun K hK=>?_
 go_simp
 refine hK _ _ ⟨Z4,fun _=>trivial⟩ ?_
 clear hK K
 refine af Zb ?_ _
 go_wp2_with fail
 go_ret
 exact ZO
end
def lAtm(o:OpD)(k order:Int)(A:Nat)(len:Int)(var:qB)(parts:List PartD)(s:LS):Int×LS:=
 let a:=lNumber A s
 let t:=lSite (10+k) order var parts (lFresh a.2)
 (a.2.regs,lAdd {o with a:=a.1,dst:=a.2.regs,size:=len,order:=order,site:=t.1} t.2)
section
variable{w0 W W':qW}{M a b c:Nat}{vv wv:qV}{s:LS}{vs:List VarD}{gl:List GlD}
theorem ybR:(Tryz.prog.info? 3).map (fun i=>(i.zero,i.size,i.bytes))=some (some (iI 0),1,8):=by kernel_rfl
theorem MkA.grow0{w w1:qW}{a1 b1 c1:Nat}(h:MkA w0 M a b c vv wv w W a1 b1 c1 s)(hg:W.grownBy w1 none):MkA w0 M a b c vv wv w w1 a1 b1 c1 s/\Kp (fun k=>(k=M\/k=a1\/k=b1\/k=c1)\/k∈([]:List Nat)) W w1/\Rl a1 b1 c1 a1 b1 c1 W.heap.size:=by
 have hk:Kp (fun _=>False) W w1:=(Kp.of_grown hg).mono (fun k _ e=>by cases e)
 have hb:Below W.heap.size W w1:=hk.all (fun _ _=>id)
 exact ⟨⟨h.mkr.below hb,h.kp.trans (hk.mono (fun _ _ e=>e.elim)),h.ha,h.hb,h.hc⟩,hk.mono (fun _ _ e=>e.elim),⟨.inl rfl,.inl rfl,.inl rfl⟩⟩
theorem n9{n:Nat}(HX:HLx w0 M vv wv gl n)(w:qW)(h:Mk w0 M a b c vv wv w s)(hL:LoB w0 vv wv vs gl)(kind:Int)(B9:kind=6\/kind=7)(num:Nat)(name var:qB)(op order:Int)(pa ka:Option Addr)(pc kc:Nat)(g:GlD)(hg:gl.find? (fun g=>eqB g.name var)=some g)(x:Ex)(r1:Int×LS)
  (xn:RwAt w0 okA 8 (ExAt w0 okA n) (.slice ka 1 kc) [x]) (h1:lExpr gl n x s=some r1) (hf:LFin (lAtm {kind:=kind+2,b:=r1.1} kind order g.at_.toNat g.len var [] r1.2).2):
  qC 253 #[pP M,.agg #[iI kind,.int .u64 num,.string name,iI op,iI order,.string var,.slice pa 0 pc,.slice ka 1 kc]] w (MkD w0 M a b c vv wv w (lAtm {kind:=kind+2,b:=r1.1} kind order g.at_.toNat g.len var [] r1.2).2 (iI (lAtm {kind:=kind+2,b:=r1.1} kind order g.at_.toNat g.len var [] r1.2).1)):=by
 obtain ⟨ov,sv,lv,i',pi⟩:=h.rules
 have xk:=hL.at_ g (List.mem_of_find?_eq_some hg)
 have BE:=Zh (fun W a1 b1 c1 (hM:Mk w0 M a1 b1 c1 vv wv W s)=>kC hL W hM var g hg pa pc)
 obtain ⟨A,hA⟩: ∃A:Nat,g.at_=A:=⟨g.at_.toNat,by omega⟩
 simp only [hA,Int.toNat_natCast] at hf BE xk ⊢
 have A9:A<=1000000:=by omega
 have Bi:LFin (lSite (10+kind) order var [] (lFresh (lNumber A r1.2).2)).2:=(LLe.add _ _).fin hf
 have yM:LFin (lFresh (lNumber A r1.2).2):=(LLe.site _ _ _ _ _).fin Bi
 have ya:LFin (lNumber A r1.2).2:=(LLe.fresh _).fin yM
 have zX:LFin r1.2:=(LLe.number _ _).fin ya
 generalize xd:g.len=l at*
 have j':=h.bd
 have yb:=j'
 have HM:=Zh (MkA.begin h)
 obtain ⟨i0,xF,xx,xu,xq⟩:=zan ybR
 obtain ⟨kb,ko,kc',pax,kax,pcx,kcx,e1,zG,A7,c0,c1',c2,c3,c4,c5,c6,c7⟩:=cU xn
 simp only [zaV,zag,Value.slice.injEq,true_and] at e1
 obtain ⟨rfl,rfl⟩:=e1
 have Dt:=Zh (fun W a1 b1 c1 (hM:Mk w0 M a1 b1 c1 vv wv W s)=>HX W a1 b1 c1 s x pax kax pcx kcx r1 hM h1 zX A7)
 clear h hL hg hA HX h1 A7 xn
 rcases B9 with rfl|rfl
 ·go_enter Tryz.func253,Tryz.ntmps253
  go_wp2_with (first
   |(go_at_call 256;refine (BE.out _ _ _ _ (Zj:MkA _ _ _ _ _ _ _ w _ _ _ _ _).mkr).mono ?_;rintro e w1 ⟨al,rfl,p0,rfl⟩))
  refine zao 2 ?_
  rw [zap]
  go_wp2_with (first
   |(go_at_call 194;refine (Dt.out _ _ _ _ (Zj:MkA _ _ _ _ _ _ _ w _ _ _ _ _).mkr).mono ?_;intro e w1 hD;have hN:=MkA.nx hD Zj;clear hD HM;(try clear i' pi);obtain ⟨rfl,a1,b1,c1,ov,sv,lv,i',pi,j',HM,hm,hT,hrel⟩:=hN;(try simp only [Zz] at hrel hm);(repeat ((first|((first|(with_reducible obtain ⟨hx,hy,xg,hT⟩:=aw (lo:=w.heap.size) hT Zv hrel Zc Zi)|(with_reducible obtain ⟨hx,hy,xg,hT⟩:=av (lo:=w.heap.size) hT Zx hrel Zc Zi));(try simp only [Zz] at hx hy xg);rw [hx];clear hx)|(with_reducible replace hT:=hT.unmo)|(with_reducible replace hT:=hT.undr))));clear hT hrel)
   |(at_builtin;refine bO _ _ 46 3 i0 _ 1 8 Tryz.underlying46 xF xx xu xq rfl Zd rfl rfl w.heap.size _ 0 [] (zaX _ _ _ _) _ _ _ (0,0) (by (repeat (rw [aM,if_neg Zc]));exact aH ZC) rfl rfl (by rfl) ZD Za Za Zc ?_;intro g1 cap1 w1 hown xb xk JT;have xy:=cT xk;simp only [Zz] at xy;have k0:=hown.cells (g:=g1) rfl 0 _ rfl;simp only [Addr.add,zag] at k0;obtain ⟨hM,hT,hrel⟩:=MkA.grow0 Zj xb;have HO:=Zh hown;clear hown xb xk;(try clear i');(try clear pi);(try simp only [Zz] at hrel);obtain ⟨ov,sv,lv,i',pi⟩:=hM.mkr.rules;have j':=hM.mkr.bd;replace HM:=Zh hM;clear hM;have hm:=Kp.size hT;(try simp only [Zz] at hm);(repeat ((first|((first|(with_reducible obtain ⟨hx,hy,xg,hT⟩:=aw (lo:=w.heap.size) hT Zv hrel Zc Zi)|(with_reducible obtain ⟨hx,hy,xg,hT⟩:=av (lo:=w.heap.size) hT Zx hrel Zc Zi));(try simp only [Zz] at hx hy xg);rw [hx];clear hx)|(with_reducible replace hT:=hT.unmo)|(with_reducible replace hT:=hT.undr))));clear hT hrel;have kk0:cellW w1 ⟨g1,0,none⟩=_:=k0;clear k0))
  rw [zap]
  go_wp2_with (first
   |(go_at_call 201;refine (cq _ _).mono ?_;rintro e w1 ⟨rfl,p,rfl⟩)
   |(go_at_call 257;refine (iN (s:=r1.2) _ (Zj:MkA _ _ _ _ _ _ _ w _ _ _ _ _).mkr A l al A9 ya).mono ?_;intro e w1 hD;have hN:=MkA.nx hD Zj;clear hD HM;(try clear i' pi);obtain ⟨rfl,a1,b1,c1,ov,sv,lv,i',pi,j',HM,hm,hT,hrel⟩:=hN;(try simp only [Zz] at hrel hm);(repeat ((first|((first|(with_reducible obtain ⟨hx,hy,xg,hT⟩:=aw (lo:=w.heap.size) hT Zv hrel Zc Zi)|(with_reducible obtain ⟨hx,hy,xg,hT⟩:=av (lo:=w.heap.size) hT Zx hrel Zc Zi));(try simp only [Zz] at hx hy xg);rw [hx];clear hx)|(with_reducible replace hT:=hT.unmo)|(with_reducible replace hT:=hT.undr))));clear hT hrel))
  generalize Pr:w.heap.size+1+p0.os.size=K5 at*
  refine ae (fun W=>(∀i,W.cell? (aB w.heap.size i)=(#[iI 6,.int .u64 num,.string name,iI op,iI order,.string var,.slice pa 0 pc,.slice (some ⟨kb,ko,none⟩) 1 kc]:Array qV)[i]?)/\ ∀i,W.cell? (aB K5 i)=(#[iI A,iI l,iI 0,.bool false,iI 0,iI 0,iI (-1),iI al]:Array qV)[i]?) (fun W=>True) 16 rfl ?_
  refine Zp 0 rfl (h:=Zp 2 rfl (h:=Zp 3 rfl (h:=Zp 4 rfl (h:=Zt 5 rfl (h:=Zp 6 rfl (h:=Zt 7 rfl (h:=Zp 8 rfl (h:=Zp 9 rfl (h:=Zt 10 rfl (h:=Zp 11 rfl (h:=Zp 12 rfl (h:=Zt 13 rfl (h:=Zp 14 rfl (h:=Zt 15 rfl (h:=?_)))))))))))))));try simp only [Zq]
  refine Zs 1 rfl fun K hK=>?_
  go_simp
  (go_at_call 195;refine (eG (s:=(lNumber A r1.2).2) _ (Zj:MkA _ _ _ _ _ _ _ w _ _ _ _ _).mkr yM).mono ?_;intro e w1 hD;have hN:=MkA.nx hD Zj;clear hD HM;(try clear i' pi);obtain ⟨rfl,a1,b1,c1,ov,sv,lv,i',pi,j',HM,hm,hT,hrel⟩:=hN;(try simp only [Zz] at hrel hm);(repeat ((first|((first|(with_reducible obtain ⟨hx,hy,xg,hT⟩:=aw (lo:=w.heap.size) hT Zv hrel Zc Zi)|(with_reducible obtain ⟨hx,hy,xg,hT⟩:=av (lo:=w.heap.size) hT Zx hrel Zc Zi));(try simp only [Zz] at hx hy xg);rw [hx];clear hx)|(with_reducible replace hT:=hT.unmo)|(with_reducible replace hT:=hT.undr))));clear hT hrel)
  refine hK _ _ Zw ?_
  clear hK K
  refine Zp 17 rfl (h:=?_);try simp only [Zq]
  refine Zs 16 rfl fun K hK=>?_
  go_simp
  (go_at_call 202;refine (fY (s:=lFresh (lNumber A r1.2).2) _ (Zj:MkA _ _ _ _ _ _ _ w _ _ _ _ _).mkr (10+6) order var [] pa pc Bi).mono ?_;intro e w1 hD;have hN:=MkA.nx hD Zj;clear hD HM;(try clear i' pi);obtain ⟨rfl,a1,b1,c1,ov,sv,lv,i',pi,j',HM,hm,hT,hrel⟩:=hN;(try simp only [Zz] at hrel hm);(repeat ((first|((first|(with_reducible obtain ⟨hx,hy,xg,hT⟩:=aw (lo:=w.heap.size) hT Zv hrel Zc Zi)|(with_reducible obtain ⟨hx,hy,xg,hT⟩:=av (lo:=w.heap.size) hT Zx hrel Zc Zi));(try simp only [Zz] at hx hy xg);rw [hx];clear hx)|(with_reducible replace hT:=hT.unmo)|(with_reducible replace hT:=hT.undr))));clear hT hrel)
  refine hK _ _ Zw ?_
  clear hK K
  refine Zs 18 rfl fun K hK=>?_
  go_simp
  try simp [go_sem,↓IntWalk.iteOmega]
  refine hK _ _ Zw ?_
  clear hK K
  refine Zp 19 rfl (h:=?_);try simp only [Zq]
  refine Zs 20 rfl fun K hK=>?_
  go_simp
  try simp [go_sem,↓IntWalk.iteOmega]
  refine hK _ _ Zw ?_
  clear hK K
  refine Zp 21 rfl (h:=?_);try simp only [Zq]
  refine Zs 22 rfl fun K hK=>?_
  go_simp
  try simp [go_sem,↓IntWalk.iteOmega]
  refine hK _ _ Zw ?_
  clear hK K
  refine Zp 23 rfl (h:=?_);try simp only [Zq]
  refine Zs 24 rfl fun K hK=>?_
  go_simp
  try simp [go_sem,↓IntWalk.iteOmega]
  refine hK _ _ Zw ?_
  clear hK K
  refine af Zb ?_ _
  go_wp2_with (first
   |(go_at_call 203;refine (cF (s:=(lSite (10+6) order var [] (lFresh (lNumber A r1.2).2)).2) _ (Zj:MkA _ _ _ _ _ _ _ w _ _ _ _ _).mkr {kind:=6+2,b:=r1.1,a:=(lNumber A r1.2).1,dst:=(lNumber A r1.2).2.regs,size:=l,order:=order,site:=(lSite (10+6) order var [] (lFresh (lNumber A r1.2).2)).1} hf).mono ?_;intro e w1 hD;have hN:=MkA.nx hD Zj;clear hD HM;(try clear i' pi);obtain ⟨rfl,a1,b1,c1,ov,sv,lv,i',pi,j',HM,hm,hT,hrel⟩:=hN;(try simp only [Zz] at hrel hm);(repeat ((first|((first|(with_reducible obtain ⟨hx,hy,xg,hT⟩:=aw (lo:=w.heap.size) hT Zv hrel Zc Zi)|(with_reducible obtain ⟨hx,hy,xg,hT⟩:=av (lo:=w.heap.size) hT Zx hrel Zc Zi));(try simp only [Zz] at hx hy xg);rw [hx];clear hx)|(with_reducible replace hT:=hT.unmo)|(with_reducible replace hT:=hT.undr))));clear hT hrel))
  go_ret
  exact ZO
 ·go_enter Tryz.func253,Tryz.ntmps253
  go_wp2_with (first
   |(go_at_call 256;refine (BE.out _ _ _ _ (Zj:MkA _ _ _ _ _ _ _ w _ _ _ _ _).mkr).mono ?_;rintro e w1 ⟨al,rfl,p0,rfl⟩))
  refine zao 2 ?_
  rw [zap]
  go_wp2_with (first
   |(go_at_call 194;refine (Dt.out _ _ _ _ (Zj:MkA _ _ _ _ _ _ _ w _ _ _ _ _).mkr).mono ?_;intro e w1 hD;have hN:=MkA.nx hD Zj;clear hD HM;(try clear i' pi);obtain ⟨rfl,a1,b1,c1,ov,sv,lv,i',pi,j',HM,hm,hT,hrel⟩:=hN;(try simp only [Zz] at hrel hm);(repeat ((first|((first|(with_reducible obtain ⟨hx,hy,xg,hT⟩:=aw (lo:=w.heap.size) hT Zv hrel Zc Zi)|(with_reducible obtain ⟨hx,hy,xg,hT⟩:=av (lo:=w.heap.size) hT Zx hrel Zc Zi));(try simp only [Zz] at hx hy xg);rw [hx];clear hx)|(with_reducible replace hT:=hT.unmo)|(with_reducible replace hT:=hT.undr))));clear hT hrel)
   |(at_builtin;refine bO _ _ 46 3 i0 _ 1 8 Tryz.underlying46 xF xx xu xq rfl Zd rfl rfl w.heap.size _ 0 [] (zaX _ _ _ _) _ _ _ (0,0) (by (repeat (rw [aM,if_neg Zc]));exact aH ZC) rfl rfl (by rfl) ZD Za Za Zc ?_;intro g1 cap1 w1 hown xb xk JT;have xy:=cT xk;simp only [Zz] at xy;have k0:=hown.cells (g:=g1) rfl 0 _ rfl;simp only [Addr.add,zag] at k0;obtain ⟨hM,hT,hrel⟩:=MkA.grow0 Zj xb;have HO:=Zh hown;clear hown xb xk;(try clear i');(try clear pi);(try simp only [Zz] at hrel);obtain ⟨ov,sv,lv,i',pi⟩:=hM.mkr.rules;have j':=hM.mkr.bd;replace HM:=Zh hM;clear hM;have hm:=Kp.size hT;(try simp only [Zz] at hm);(repeat ((first|((first|(with_reducible obtain ⟨hx,hy,xg,hT⟩:=aw (lo:=w.heap.size) hT Zv hrel Zc Zi)|(with_reducible obtain ⟨hx,hy,xg,hT⟩:=av (lo:=w.heap.size) hT Zx hrel Zc Zi));(try simp only [Zz] at hx hy xg);rw [hx];clear hx)|(with_reducible replace hT:=hT.unmo)|(with_reducible replace hT:=hT.undr))));clear hT hrel;have kk0:cellW w1 ⟨g1,0,none⟩=_:=k0;clear k0))
  rw [zap]
  go_wp2_with (first
   |(go_at_call 201;refine (cq _ _).mono ?_;rintro e w1 ⟨rfl,p,rfl⟩)
   |(go_at_call 257;refine (iN (s:=r1.2) _ (Zj:MkA _ _ _ _ _ _ _ w _ _ _ _ _).mkr A l al A9 ya).mono ?_;intro e w1 hD;have hN:=MkA.nx hD Zj;clear hD HM;(try clear i' pi);obtain ⟨rfl,a1,b1,c1,ov,sv,lv,i',pi,j',HM,hm,hT,hrel⟩:=hN;(try simp only [Zz] at hrel hm);(repeat ((first|((first|(with_reducible obtain ⟨hx,hy,xg,hT⟩:=aw (lo:=w.heap.size) hT Zv hrel Zc Zi)|(with_reducible obtain ⟨hx,hy,xg,hT⟩:=av (lo:=w.heap.size) hT Zx hrel Zc Zi));(try simp only [Zz] at hx hy xg);rw [hx];clear hx)|(with_reducible replace hT:=hT.unmo)|(with_reducible replace hT:=hT.undr))));clear hT hrel))
  generalize Pr:w.heap.size+1+p0.os.size=K5 at*
  refine ae (fun W=>(∀i,W.cell? (aB w.heap.size i)=(#[iI 7,.int .u64 num,.string name,iI op,iI order,.string var,.slice pa 0 pc,.slice (some ⟨kb,ko,none⟩) 1 kc]:Array qV)[i]?)/\ ∀i,W.cell? (aB K5 i)=(#[iI A,iI l,iI 0,.bool false,iI 0,iI 0,iI (-1),iI al]:Array qV)[i]?) (fun W=>True) 16 rfl ?_
  refine Zp 0 rfl (h:=Zp 2 rfl (h:=Zp 3 rfl (h:=Zp 4 rfl (h:=Zt 5 rfl (h:=Zp 6 rfl (h:=Zt 7 rfl (h:=Zp 8 rfl (h:=Zp 9 rfl (h:=Zt 10 rfl (h:=Zp 11 rfl (h:=Zp 12 rfl (h:=Zt 13 rfl (h:=Zp 14 rfl (h:=Zt 15 rfl (h:=?_)))))))))))))));try simp only [Zq]
  refine Zs 1 rfl fun K hK=>?_
  go_simp
  (go_at_call 195;refine (eG (s:=(lNumber A r1.2).2) _ (Zj:MkA _ _ _ _ _ _ _ w _ _ _ _ _).mkr yM).mono ?_;intro e w1 hD;have hN:=MkA.nx hD Zj;clear hD HM;(try clear i' pi);obtain ⟨rfl,a1,b1,c1,ov,sv,lv,i',pi,j',HM,hm,hT,hrel⟩:=hN;(try simp only [Zz] at hrel hm);(repeat ((first|((first|(with_reducible obtain ⟨hx,hy,xg,hT⟩:=aw (lo:=w.heap.size) hT Zv hrel Zc Zi)|(with_reducible obtain ⟨hx,hy,xg,hT⟩:=av (lo:=w.heap.size) hT Zx hrel Zc Zi));(try simp only [Zz] at hx hy xg);rw [hx];clear hx)|(with_reducible replace hT:=hT.unmo)|(with_reducible replace hT:=hT.undr))));clear hT hrel)
  refine hK _ _ Zw ?_
  clear hK K
  refine Zp 17 rfl (h:=?_);try simp only [Zq]
  refine Zs 16 rfl fun K hK=>?_
  go_simp
  (go_at_call 202;refine (fY (s:=lFresh (lNumber A r1.2).2) _ (Zj:MkA _ _ _ _ _ _ _ w _ _ _ _ _).mkr (10+7) order var [] pa pc Bi).mono ?_;intro e w1 hD;have hN:=MkA.nx hD Zj;clear hD HM;(try clear i' pi);obtain ⟨rfl,a1,b1,c1,ov,sv,lv,i',pi,j',HM,hm,hT,hrel⟩:=hN;(try simp only [Zz] at hrel hm);(repeat ((first|((first|(with_reducible obtain ⟨hx,hy,xg,hT⟩:=aw (lo:=w.heap.size) hT Zv hrel Zc Zi)|(with_reducible obtain ⟨hx,hy,xg,hT⟩:=av (lo:=w.heap.size) hT Zx hrel Zc Zi));(try simp only [Zz] at hx hy xg);rw [hx];clear hx)|(with_reducible replace hT:=hT.unmo)|(with_reducible replace hT:=hT.undr))));clear hT hrel)
  refine hK _ _ Zw ?_
  clear hK K
  refine Zs 18 rfl fun K hK=>?_
  go_simp
  try simp [go_sem,↓IntWalk.iteOmega]
  refine hK _ _ Zw ?_
  clear hK K
  refine Zp 19 rfl (h:=?_);try simp only [Zq]
  refine Zs 20 rfl fun K hK=>?_
  go_simp
  try simp [go_sem,↓IntWalk.iteOmega]
  refine hK _ _ Zw ?_
  clear hK K
  refine Zp 21 rfl (h:=?_);try simp only [Zq]
  refine Zs 22 rfl fun K hK=>?_
  go_simp
  try simp [go_sem,↓IntWalk.iteOmega]
  refine hK _ _ Zw ?_
  clear hK K
  refine Zp 23 rfl (h:=?_);try simp only [Zq]
  refine Zs 24 rfl fun K hK=>?_
  go_simp
  try simp [go_sem,↓IntWalk.iteOmega]
  refine hK _ _ Zw ?_
  clear hK K
  refine af Zb ?_ _
  go_wp2_with (first
   |(go_at_call 203;refine (cF (s:=(lSite (10+7) order var [] (lFresh (lNumber A r1.2).2)).2) _ (Zj:MkA _ _ _ _ _ _ _ w _ _ _ _ _).mkr {kind:=7+2,b:=r1.1,a:=(lNumber A r1.2).1,dst:=(lNumber A r1.2).2.regs,size:=l,order:=order,site:=(lSite (10+7) order var [] (lFresh (lNumber A r1.2).2)).1} hf).mono ?_;intro e w1 hD;have hN:=MkA.nx hD Zj;clear hD HM;(try clear i' pi);obtain ⟨rfl,a1,b1,c1,ov,sv,lv,i',pi,j',HM,hm,hT,hrel⟩:=hN;(try simp only [Zz] at hrel hm);(repeat ((first|((first|(with_reducible obtain ⟨hx,hy,xg,hT⟩:=aw (lo:=w.heap.size) hT Zv hrel Zc Zi)|(with_reducible obtain ⟨hx,hy,xg,hT⟩:=av (lo:=w.heap.size) hT Zx hrel Zc Zi));(try simp only [Zz] at hx hy xg);rw [hx];clear hx)|(with_reducible replace hT:=hT.unmo)|(with_reducible replace hT:=hT.undr))));clear hT hrel))
  go_ret
  exact ZO
end
end
section
open Go.RowKit
theorem l6{f:Ex->LS->Option (Int×LS)}(hf: ∀x s r,f x s=some r->r.2.locals=s.locals): ∀(l:List Ex) (s:LS) (r:List Int×LS),lAll f l s=some r->r.2.locals=s.locals
 |[],s,r,h=>by cases h;rfl
 |x::l,s,r,h=>by
  simp only [lAll] at h
  split at h
  ·cases h
  rename_i v s1 h1
  split at h
  ·cases h
  rename_i q s2 h2
  cases h
  exact (l6 hf l s1 (q,s2) h2).trans (hf x s _ h1)
theorem cK{gl:List GlD}: ∀(n:Nat) (e:Ex) (s:LS) (r:Int×LS),lExpr gl n e s=some r->r.2.locals=s.locals
 |0,e,s,r,h=>by simp [lExpr] at h
 |n+1,e,s,r,h=>by
  unfold lExpr at h
  split at h
  ·cases h
   rfl
  split at h
  ·rcases hf:lFind s e.name with _|q
   ·rw [hf] at h
    cases h
   ·rw [hf] at h
    cases h
    rfl
  split at h
  ·split at h
   ·rename_i x y hk
    split at h
    ·cases h
    rename_i a s1 h1
    split at h
    ·cases h
    rename_i b s2 h2
    cases h
    exact (cK n y s1 _ h2).trans (cK n x s _ h1)
   ·cases h
  split at h
  ·cases h
  split at h
  ·cases h
  split at h
  ·cases h
  rename_i l s1 h1
  have h2:=l6 (fun x s r=>cK n x s r) _ _ _ h1
  unfold lAtomic at h
  simp only at h
  split at h
  ·cases h
  ·cases h
   exact h2
def LExt(s t:LS):Prop:= ∃u,t.locals=s.locals++u
theorem LExt.refl(s:LS):LExt s s:=⟨[],by simp⟩
theorem LExt.of_eq{s t:LS}(h:t.locals=s.locals):LExt s t:=⟨[],by simp [h]⟩
theorem LExt.trans{a b c:LS}(h:LExt a b)(k:LExt b c):LExt a c:=by
 obtain ⟨u,h⟩:=h
 obtain ⟨v,k⟩:=k
 exact ⟨u++v,by rw [k,h,List.append_assoc]⟩
theorem LExt.len{s t:LS}(h:LExt s t):s.locals.length<=t.locals.length:=by
 obtain ⟨u,h⟩:=h
 rw [h]
 simp
theorem l5{f:Sm->LS->Option LS}(hf: ∀x s r,f x s=some r->LExt s r): ∀(l:List Sm) (s r:LS),lSeq f l s=some r->LExt s r
 |[],s,r,h=>by cases h;exact LExt.refl _
 |x::l,s,r,h=>by
  simp only [lSeq] at h
  split at h
  ·cases h
  rename_i s1 h1
  exact (LExt.of_eq (s:=s) (t:={s with line:=x.line}) rfl).trans ((hf x _ _ h1).trans (l5 hf l s1 r h))
theorem yaZ{f:Sm->LS->Option LS}(hf: ∀x s r,f x s=some r->LExt s r)(l:List Sm)(s r:LS)(h:lBlock f l s=some r):r.locals=s.locals:=by
 unfold lBlock at h
 rcases hq:lSeq f l s with _|s1
 ·rw [hq] at h
  cases h
 rw [hq] at h
 cases h
 obtain ⟨u,hu⟩:=l5 hf l s s1 hq
 simp [hu]
theorem lY{gl:List GlD}: ∀(n:Nat) (x:Sm) (s r:LS),lStmt gl n x s=some r->LExt s r
 |0,x,s,r,h=>by simp [lStmt] at h
 |n+1,x,s,r,h=>by
  have hb:=fun l s r=>yaZ (f:=fun y s=>lStmt gl n y s) (fun x s r=>lY n x s r) l s r
  unfold lStmt at h
  split at h
  ·obtain ⟨e,v,s1, -,h1,h2⟩:=bB h
   cases h2
   exact ⟨[(x.name,s1.regs)],by rw [<-show s1.locals=s.locals from cK _ _ _ _ h1]⟩
  split at h
  ·obtain ⟨e,v,s1, -,h1,h2⟩:=bB h
   rcases hf:lFind s1 x.name with _|q
   ·rw [hf] at h2
    cases h2
   ·rw [hf] at h2
    cases h2
    exact LExt.of_eq (cK _ _ _ _ h1)
  split at h
  ·unfold lWrite at h
   split at h
   ·cases h
   split at h
   ·cases h
   obtain ⟨e,v,s1, -,h1,h2⟩:=bB h
   cases h2
   exact LExt.of_eq (show s1.locals=s.locals from cK _ _ _ _ h1)
  split at h
  ·cases h
  split at h
  ·cases h
  split at h
  ·cases h
  split at h
  ·cases h
  split at h
  ·cases h
  split at h
  ·obtain ⟨e,v,s1, -,h1,h2⟩:=bB h
   split at h2
   ·cases h2
   rename_i s2 h3
   cases h2
   have e1:=hb _ _ _ h3
   have e0:=cK _ _ _ _ h1
   have ej:(lJump (s.labels+2) v s1).locals=s1.locals:=by unfold lJump;split<;>rfl
   exact LExt.of_eq (e1.trans (ej.trans e0))
  split at h
  ·obtain ⟨e,v,s1, -,h1,h2⟩:=bB h
   cases h2
   exact LExt.of_eq (cK _ _ _ _ h1)
  ·cases h
end
section
open Go.RowKit Go.Sort
section
variable{w0 W W':qW}{M a b c:Nat}{vv wv:qV}{s:LS}{vs:List VarD}{gl:List GlD}
end
section
variable{w0 W W':qW}{M a b c:Nat}{vv wv:qV}{s:LS}{vs:List VarD}{gl:List GlD}
theorem LLe.put'(o:OpD)(k order:Int)(sp:Int×Int)(var:qB)(parts:List PartD)(s:LS):LLe s (lPut o k order sp var parts s):=(LLe.number _ _).trans ((LLe.site _ _ _ _ _).trans (LLe.add _ _))
end
end
end Go.Proofs.YtjmfoeajhiimnaaGreatDoor
