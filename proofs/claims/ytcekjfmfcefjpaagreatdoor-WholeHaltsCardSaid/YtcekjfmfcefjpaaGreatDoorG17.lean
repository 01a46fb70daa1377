/- Walks. No condition. -/
import Derived.Test.YtcekjfmfcefjpaaGreatDoorG16
set_option maxRecDepth 100000
set_option maxHeartbeats 0
set_option linter.all false
namespace Go.Proofs.YtcekjfmfcefjpaaGreatDoor
open Go.RowKit Go.Sort
theorem uG:(Tryz.prog.info? 250).map (fun i=>(i.zero,i.size,i.bytes))=some (some (.agg #[iI 0,iI 0,iI 0,iI 0,iI 0,iI 0,.int .u64 0,iI 0,iI 0,iI 0,iI 0,iI 0,iI 0]),13,104):=by kernel_rfl
theorem aT{P:Program}{c:Code}{Q:Exit->Act->qW->Prop}{a:Act}{wx:qW}(R:qW->Prop)(h:R wx)(k: ∀wy,R wy->c.wp P Q a wy):c.wp P Q a wx:=k wx h
section
variable{w0 W W':qW}{M a b c:Nat}{vv wv:qV}{s:LS}
theorem MkD.left{w:qW}{s':LS}{r:qV}{e:Ending}(hk:Kp (fun _=>False) w W)(h:MkD w0 M a b c vv wv W s' r e W'):MkD w0 M a b c vv wv w s' r e W':=by
 obtain ⟨he,a',b',c',h1,h2,h3,h4,h5⟩:=h
 have:=hk.size
 exact ⟨he,a',b',c',h1,(hk.mono (fun _ _ e=>e.elim)).trans h2,h3.imp id (fun h=>by omega),h4.imp id (fun h=>by omega),h5.imp id (fun h=>by omega)⟩
structure Tp(M a b c lo k:Nat):Prop where
 ne:M<k/\k≠a/\k≠b/\k≠c/\lo<=k
structure Rl(a b c a1 b1 c1 z:Nat):Prop where
 ra:a1=a\/z<=a1
 rb:b1=b\/z<=b1
 rc:c1=c\/z<=c1
theorem Tp.next{lo k a1 b1 c1 z:Nat}(h:Tp M a b c lo k)(hr:Rl a b c a1 b1 c1 z)(hk:k<z):Tp M a1 b1 c1 lo k:=by
 have:=h.ne
 have:=hr.ra
 have:=hr.rb
 have:=hr.rc
 exact ⟨by omega⟩
theorem ak{L:List Nat}{w2:qW}{k lo a1 b1 c1 z:Nat}{cs:Array qV}{t:TypeId}(h:Kp (fun k=>(k=M\/k=a\/k=b\/k=c)\/k∈L) (putB W k cs t) w2)(hT:Tp M a b c lo k)(hr:Rl a b c a1 b1 c1 z)(hz:k<W.heap.size/\k<z)(hL:k∉L):
  w2=putB w2 k cs t/\k<w2.heap.size/\Tp M a1 b1 c1 lo k/\Kp (fun i=>(i=M\/i=a\/i=b\/i=c)\/i∈k::L) W w2:=by
 have hne:=hT.ne
 obtain ⟨h1,h2,h3⟩:=h.peel hz.1 (by rintro (e|e);omega;exact hL e)
 exact ⟨h1,h2,hT.next hr hz.2,h3.mono (fun i _ e=>by rcases e with (e|e)|e;exact .inl e;exact .inr (zaK _ e);exact .inr (by simp [e]))⟩
theorem aj{L:List Nat}{w2:qW}{lo a1 b1 c1 z:Nat}{cs:Array qV}{t:TypeId}(h:Kp (fun k=>(k=M\/k=a\/k=b\/k=c)\/k∈L) (W.alloc (.cells cs t)) w2)(hT:Tp M a b c lo W.heap.size)(hr:Rl a b c a1 b1 c1 z)(hz:W.heap.size<z)(hL:W.heap.size∉L):
  w2=putB w2 W.heap.size cs t/\W.heap.size<w2.heap.size/\Tp M a1 b1 c1 lo W.heap.size/\Kp (fun i=>(i=M\/i=a\/i=b\/i=c)\/i∈L) W w2:=by
 have hne:=hT.ne
 obtain ⟨h1,h2,h3⟩:=h.peelA (by rintro (e|e);omega;exact hL e)
 exact ⟨h1,h2,hT.next hr hz,h3⟩
structure MkA(w0:qW)(M a b c:Nat)(vv wv:qV)(w W:qW)(a1 b1 c1:Nat)(s:LS):Prop where
 mkr:Mk w0 M a1 b1 c1 vv wv W s
 kp:Kp (fun k=>k=M\/k=a\/k=b\/k=c) w W
 ha:a1=a\/w.heap.size<=a1
 hb:b1=b\/w.heap.size<=b1
 hc:c1=c\/w.heap.size<=c1
section
variable{w:qW}{a1 b1 c1:Nat}
theorem MkA.begin(h:Mk w0 M a b c vv wv w s):MkA w0 M a b c vv wv w w a b c s:=⟨h,Kp.refl _ _,.inl rfl,.inl rfl,.inl rfl⟩
theorem MkA.alloc(h:MkA w0 M a b c vv wv w W a1 b1 c1 s)(o:Obj):MkA w0 M a b c vv wv w (W.alloc o) a1 b1 c1 s:=⟨h.mkr.alloc o,h.kp.alloc o,h.ha,h.hb,h.hc⟩
theorem MkA.drew(h:MkA w0 M a b c vv wv w W a1 b1 c1 s):MkA w0 M a b c vv wv w W.drew a1 b1 c1 s:=⟨h.mkr.drew,h.kp.drew,h.ha,h.hb,h.hc⟩
theorem MkA.mo(h:MkA w0 M a b c vv wv w W a1 b1 c1 s)(p:Regrown):MkA w0 M a b c vv wv w (more W p) a1 b1 c1 s:=⟨h.mkr.mo p,h.kp.more p,h.ha,h.hb,h.hc⟩
theorem MkA.own(h:MkA w0 M a b c vv wv w W a1 b1 c1 s){k:Nat}(hk:Tp M a1 b1 c1 w.heap.size k)(cs:Array qV)(t:TypeId)(h0:M<w.heap.size/\a<w.heap.size/\b<w.heap.size/\c<w.heap.size):MkA w0 M a b c vv wv w (putB W k cs t) a1 b1 c1 s:=
 ⟨h.mkr.own ⟨hk.ne.1,hk.ne.2.1,hk.ne.2.2.1,hk.ne.2.2.2.1⟩ cs t,h.kp.putB (fun hl=>by have:=hk.ne.2.2.2.2;omega) cs t,h.ha,h.hb,h.hc⟩
theorem MkA.next{s2:LS}{r:qV}{e:Ending}{w1:qW}(h:MkA w0 M a b c vv wv w W a1 b1 c1 s)(hD:MkD w0 M a1 b1 c1 vv wv W s2 r e w1): ∃a2 b2 c2,MkA w0 M a b c vv wv w w1 a2 b2 c2 s2/\Kp (fun k=>(k=M\/k=a1\/k=b1\/k=c1)\/k∈([]:List Nat)) W w1/\Rl a1 b1 c1 a2 b2 c2 W.heap.size:=by
 obtain ⟨-,a2,b2,c2,h1,h2,h3,h4,h5⟩:=hD
 have hz:=h.kp.size
 have ha:=h.ha
 have hb:=h.hb
 have hc:=h.hc
 exact ⟨a2,b2,c2,⟨h1,h.kp.next h2 (fun i hi e=>by omega),by omega,by omega,by omega⟩,h2.mono (fun k _ e=> .inl e),⟨h3,h4,h5⟩⟩
theorem MkA.nx{s2:LS}{r:qV}{e:Ending}{w1:qW}(hD:MkD w0 M a1 b1 c1 vv wv W s2 r e w1)(h:MkA w0 M a b c vv wv w W a1 b1 c1 s):e= .returned r/\ ∃a2 b2 c2 ov sv lv,(∀b i,w1.cell? (aB b i)=if b<w0.heap.size then w0.cell? (aB b i) else if b=M then (#[vv,wv,ov,iI s2.regs,iI s2.labels,sv,iI s2.line,lv]:Array qV)[i]? else cellW w1 ⟨b,i,none⟩)/\
  (∀b i,w1.frozen? (aB b i)=if b<w0.heap.size then w0.frozen? (aB b i) else if b=M then false else frzW w1 ⟨b,i,none⟩)/\(w0.heap.size<=M/\M<w1.heap.size/\M<=a2/\a2<w1.heap.size/\M<=b2/\b2<w1.heap.size/\M<=c2/\c2<w1.heap.size)/\Hid (MkA w0 M a b c vv wv w w1 a2 b2 c2 s2)/\W.heap.size<=w1.heap.size/\Kp (fun k=>(k=M\/k=a1\/k=b1\/k=c1)\/k∈([]:List Nat)) W w1/\Rl a1 b1 c1 a2 b2 c2 W.heap.size:=by
 have e1:=hD.1
 obtain ⟨a2,b2,c2,hM,hT,hr⟩:=MkA.next h hD
 obtain ⟨ov,sv,lv,i',pi⟩:=hM.mkr.rules
 exact ⟨e1,a2,b2,c2,ov,sv,lv,i',pi,hM.mkr.bd,Zh hM,hT.size,hT,hr⟩
theorem MkA.fin{r:qV}(h:MkA w0 M a b c vv wv w W a1 b1 c1 s):MkD w0 M a b c vv wv w s r (.returned r) W:=⟨rfl,a1,b1,c1,h.mkr,h.kp,h.ha,h.hb,h.hc⟩
end
theorem Mk.app0{ov sv lv:qV}{xs:List qV}{ob:Obj}{w2:qW}{g cap:Nat}{o:OpD}(h:Mk w0 M a b c vv wv W s)(ho:Ob M 231 (mkC vv wv ov sv lv s) (mkR s xs) W)(ea:ownN M ov=a)(eb:ownN M sv=b)(ec:ownN M lv=c)(hf:LFin (lAdd o s))
  (wW:(W.drew.alloc ob).grownBy w2 ov.ownBlock) (hown:w2.ownsRow (M+1) 250 13 (.slice (aA g) (s.ops.length+1) cap) (s.ops.length+1) (s.ops.flatMap opC++opC {o with line:=s.line})) (xb:ov.ownBlock=some g\/g=(W.drew.alloc ob).heap.size) {r:qV}:
  MkD w0 M a b c vv wv W (lAdd o s) r (.returned r) (w2.setCell ⟨M,2,none⟩ (.slice (aA g) (s.ops.length+1) cap)):=by
 subst ea eb ec
 have wT:Kp (fun k=>ov.ownBlock=some k) (W.drew.alloc ob) w2:=(Kp.of_grown wW).mono (fun k _ e=>e.symm)
 have yd:Kp (fun k=>ov.ownBlock=some k) W w2:=((Kp.dr W).trans (Kp.al _ ob)).trans wT
 have hg: ∀k,(Value.slice (aA g) (s.ops.length+1) cap).ownBlock=some k->(fld (mkC vv wv ov sv lv s) 2).ownBlock=some k\/W.heap.size<=k:=fun k hk=>by
  obtain rfl:g=k:=by simpa [Value.ownBlock] using hk
  rcases xb with e|e
  ·exact .inl e
  ·right
   simp only [Zz] at e
   omega
 obtain ⟨p1,p2,p3⟩:=ho.put (r:=⟨2,250,13,s.ops.length,s.ops.flatMap opC⟩) (by simp [mkR]) (by simp [mkC]) yd hown hg
 have xh:Kp (fun k=>k=M\/k=ownN M ov\/k=ownN M sv\/k=ownN M lv) W (w2.setCell ⟨M,2,none⟩ (.slice (aA g) (s.ops.length+1) cap)):=p2.mono (fun k _ hk=>by
  rcases de.1 hk with e|e|e|e
  ·exact .inl e
  ·exact .inr (.inl (be e))
  ·exact .inr (.inr (.inl (be e)))
  ·exact .inr (.inr (.inr (be e))))
 have j':=h.bd
 have hb:=h.bl
 refine ⟨rfl,g,_,_,⟨⟨.slice (aA g) (s.ops.length+1) cap,sv,lv,xs,?_,by simp [ownN,Value.ownBlock],rfl,rfl⟩,?_,h.le,h.nums.add o hf⟩,xh,?_,.inl rfl,.inl rfl⟩
 ·have e1:(mkC vv wv ov sv lv s).setIfInBounds 2 (.slice (aA g) (s.ops.length+1) cap)=mkC vv wv (.slice (aA g) (s.ops.length+1) cap) sv lv (lAdd o s):=rfl
  have e2:(mkR s xs).map (fun q=>if q.ix=2 then {q with n:=s.ops.length+1,xs:=s.ops.flatMap opC++opC {o with line:=s.line}} else q)=mkR (lAdd o s) xs:=by
   simp [mkR,lAdd]
  rw [e1,e2] at p1
  exact p1
 ·exact ⟨xh.os.trans hb.os,xh.tape.trans hb.tape,xh.output.trans hb.output,zal hb.size xh.size,fun k hk=>(xh.block k (by have:=hb.size;omega) Za).trans (hb.block k hk)⟩
 ·rcases xb with e|e
  ·exact .inl (be e)
  ·right
   simp only [Zz] at e
   omega
theorem cC(w:qW)(h:Mk w0 M a b c vv wv w s)(o:OpD)(hf:LFin (lAdd o s)):qC 210 #[pP M,.agg (opC o).toArray] w (MkD w0 M a b c vv wv w (lAdd o s) (.tuple #[])):=by
 obtain ⟨ov,sv,lv,i',pi⟩:=h.rules
 have j':=h.bd
 have HM:=Zh h
 obtain ⟨i0,xz,xq,xm,xk⟩:=zan uG
 clear h
 unfold opC
 go_enter Tryz.func210,Tryz.ntmps210
 go_wp2_with fail
 refine aT (R:=fun W=>Mk w0 M a b c vv wv W s/\W.heap[w.heap.size]?=some (.cells (opC {o with line:=s.line}).toArray 250 (0,0))/\Kp (fun _=>False) w W) ⟨HM.out.alloc _,zab _ _,Kp.al _ _⟩ ?_
 have xX:=j'
 clear i' pi j'
 rintro W ⟨hM,hK,y7⟩
 obtain ⟨ov,sv,lv,xs,ho,ea,eb,ec⟩:=hM.ob
 have yG:=ho.own ⟨2,250,13,s.ops.length,s.ops.flatMap opC⟩ (by simp [mkR])
 have q1: ∀i,W.cell? (aB M i)=(#[vv,wv,ov,iI s.regs,iI s.labels,sv,iI s.line,lv]:Array qV)[i]?:=aa ho.out
 have qf:=ai ho.out
 have qk: ∀i,W.cell? (aB w.heap.size i)=(#[iI o.kind,iI o.dst,iI o.dst2,iI o.a,iI o.b,iI o.c,.int .u64 o.n,iI o.op,iI o.size,iI o.order,iI o.to,iI o.site,iI s.line]:Array qV)[i]?:=aa hK
 have j':=hM.bd
 have xW:=ac hK
 have HW:=Zh hM
 have HO:=Zh ho
 have xu:=Zh yG
 have yI:=Zh y7
 clear hM hK ho yG y7
 have hA: ∀i,W.drew.cell? (aB w.heap.size i)=(#[iI o.kind,iI o.dst,iI o.dst2,iI o.a,iI o.b,iI o.c,.int .u64 o.n,iI o.op,iI o.size,iI o.order,iI o.to,iI o.site,iI s.line]:Array qV)[i]?:=qk
 have hB:W.drew.cell? (aB M 2)=some ov:=q1 2
 refine ae (fun W=> ∀i,W.cell? (aB w.heap.size i)=(#[iI o.kind,iI o.dst,iI o.dst2,iI o.a,iI o.b,iI o.c,.int .u64 o.n,iI o.op,iI o.size,iI o.order,iI o.to,iI o.site,iI s.line]:Array qV)[i]?) (fun W=>W.cell? (aB M 2)=some ov) 10 rfl ?_
 refine Zp 0 rfl (h:=Zp 1 rfl (h:=Zp 2 rfl (h:=Zp 3 rfl (h:=Zl 4 [7,10] rfl (h:=Zt 5 rfl (h:=?_))))));try simp only [Zq]
 refine Zs 6 rfl fun K hK=>?_
 go_simp
 refine hK _ _ ⟨fun i=>(an xW).trans (qk i),fun _=>(an j'.2.1).trans (q1 2)⟩ ?_
 have xS:=hf.ops
 simp only [lAdd,zaO,za2,zaV] at xS
 refine Zs 7 rfl fun K hK=>?_
 refine a8 (.tmp 13) (.tmp 15) 173 250 i0 _ 13 104 Tryz.underlying173 xz xq xm xk rfl Zg rfl rfl (M+1) ov s.ops.length (s.ops.flatMap opC) (aw xu.out (fun g hg=>zac _ _ (xu.out.lt g hg).2)) W.heap.size #[iI o.kind,iI o.dst,iI o.dst2,iI o.a,iI o.b,iI o.c,.int .u64 o.n,iI o.op,iI o.size,iI o.order,iI o.to,iI o.site,iI s.line] 250 (0,0) (zab _ _) ZB ZB rfl ZL Za Za Zc ?_
 intro g2 cap2 w2 hown wW xb xy
 have hD:=Zh (HW.out.app0 (r:= .tuple #[]) HO.out ea eb ec hf wW hown xb)
 have wT:Kp (fun k=>ov.ownBlock=some k) (W.drew.alloc _) w2:=(Kp.of_grown wW).mono (fun k _ e=>e.symm)
 have kx: ∀i,w2.cell? (aB w.heap.size i)=(#[iI o.kind,iI o.dst,iI o.dst2,iI o.a,iI o.b,iI o.c,.int .u64 o.n,iI o.op,iI o.size,iI o.order,iI o.to,iI o.site,iI s.line]:Array qV)[i]?:=fun i=>((wT.cell Zc (fun e=>by have:=be (M:=M) e;omega)).trans (an xW)).trans (qk i)
 have kc: ∀i,w2.cell? (aB M i)=(#[vv,wv,ov,iI s.regs,iI s.labels,sv,iI s.line,lv]:Array qV)[i]?:=fun i=>((wT.cell Zc (fun e=>by have:=(xu.out.lt _ e).1;omega)).trans (an j'.2.1)).trans (q1 i)
 have kf: ∀i,w2.frozen? (aB M i)=false:=ai ((wT.block M Zc (fun e=>by have:=(xu.out.lt _ e).1;omega)).trans ((zac _ _ j'.2.1).trans HO.out.out))
 clear hown wW xb wT
 refine hK _ _ ⟨kx,fun _=>kc 2⟩ ?_
 clear hK K hA hB
 have hA: ∀i,w2.cell? (aB w.heap.size i)=(#[iI o.kind,iI o.dst,iI o.dst2,iI o.a,iI o.b,iI o.c,.int .u64 o.n,iI o.op,iI o.size,iI o.order,iI o.to,iI o.site,iI s.line]:Array qV)[i]?:=kx
 have hB:w2.cell? (aB M 2)=some ov:=kc 2
 refine Zp 8 rfl (h:=Zp 9 rfl (h:=?_));try simp only [Zq]
 refine Zs 10 rfl fun K hK=>?_
 go_simp
 refine hK _ _ ⟨?_,fun hh=>Bool.noConfusion (hh.symm.trans (show _=true by kernel_rfl))⟩ ?_
 ·intro i
  exact (zaH _ _ _ _ (fun e=>by have:=congrArg Addr.block e;simp only at this;omega)).trans (kx i)
 refine af Zb ?_ _
 go_wp2_with fail
 go_end0
 exact hD.out.left yI.out
end
end Go.Proofs.YtcekjfmfcefjpaaGreatDoor
namespace Go.Proofs.YtcekjfmfcefjpaaGreatDoor
open Go.RowKit
abbrev Bz:=Int×Int
def qGet(q:List Bz)(i:Nat):Bz:=q.getD i (0,0)
def qLess(q:List Bz)(i j:Nat):Bool:=decide ((qGet q i).1<(qGet q j).1)
def qSwap(q:List Bz)(i j:Nat):List Bz:=(q.set i (qGet q j)).set j (qGet q i)
def qUp:Nat->List Bz->Nat->List Bz
 |0,q,_=>q
 |n+1,q,j=>if (j-1)/2=j\/!qLess q j ((j-1)/2) then q else qUp n (qSwap q ((j-1)/2) j) ((j-1)/2)
def qDown:Nat->List Bz->Nat->Nat->List Bz
 |0,q,_,_=>q
 |f+1,q,i,n=>if n<=2*i+1 then q else
  let j:=if 2*i+2<n/\qLess q (2*i+2) (2*i+1) then 2*i+2 else 2*i+1
  if !qLess q j i then q else qDown f (qSwap q i j) j n
def qPush(q:List Bz)(x:Bz):List Bz:=qUp (q.length+1) (q++[x]) q.length
def qPop(q:List Bz):List Bz×Bz:=
 let r:=qDown q.length (qSwap q 0 (q.length-1)) 0 (q.length-1)
 (r.take (q.length-1),qGet r (q.length-1))
structure Pool where
 free:List Int
 used:List Bz
 next:Int
 most:Int
def pDrain:Nat->Int->List Int->List Bz->List Int×List Bz
 |0,_,free,used=>(free,used)
 |n+1,at_,free,used=>match used with
  |[]=>(free,used)
  |x::_=>if x.1<at_ then pDrain n at_ (free++[(qPop used).2.2]) (qPop used).1 else (free,used)
def pTake(tt:Int)(p:Pool):Option Int×Pool:=
 match p.free.getLast? with
 |some x=>(some x,{p with free:=p.free.dropLast,used:=qPush p.used (tt,x)})
 |none=>if p.most<=p.next then (none,p) else (some p.next,{p with next:=p.next+1,used:=qPush p.used (tt,p.next)})
structure ES where
 out:List Ins
 sites:List Int
 lines:List Int
 line:Int
 labels:List (Int×Int)
 brs:List (Int×Int)
 e:Int
def nI(op:Int)(d:Int:=0)(n:Int:=0)(m:Int:=0)(e:Int:=0)(sz:Int:=0)(imm:Int:=0):Ins:=⟨op,d,n,m,e,sz,imm⟩
def eAt(site:Int)(i:Ins)(s:ES):ES:={s with out:=s.out++[i],sites:=s.sites++[site],lines:=s.lines++[s.line]}
def eAdd(i:Ins)(s:ES):ES:=eAt 0 i s
def cstParts(n:Nat):List (Int×Int):=[(0,(n%65536:Nat)),(1,(n/65536%65536:Nat)),(2,(n/4294967296%65536:Nat)),(3,(n/281474976710656%65536:Nat))]
def cst(d:Int)(n:Nat):List Ins:=
 let r:=(cstParts n).foldl (fun (l:List Ins) q=>if q.2=0 then l else if l.isEmpty then [nI 1 (d:=d) (e:=q.1) (imm:=q.2)] else l++[nI 2 (d:=d) (e:=q.1) (imm:=q.2)]) []
 if r.isEmpty then [nI 1 (d:=d)] else r
def eCst(d:Int)(n:Nat)(s:ES):ES:=(cst d n).foldl (fun s i=>eAdd i s) s
def ePlace(pl:List Int)(r:Int)(s:ES):Int×ES:=if r<0\/pl.length<=r.toNat then (0,{s with e:=1}) else (pl.getD r.toNat 0,s)
def eSource(pl:List Int)(r spare:Int)(s:ES):Int×ES:=
 let p:=ePlace pl r s
 if 0<=p.1 then p else (spare,eAdd (nI 17 (d:=spare) (n:=28) (sz:=3) (imm:= -1-p.1)) p.2)
def eTarget(pl:List Int)(r spare:Int)(s:ES):Int×ES:=
 let p:=ePlace pl r s
 if 0<=p.1 then p else (spare,p.2)
def eKeep(pl:List Int)(r d:Int)(s:ES):ES:=
 let p:=ePlace pl r s
 if p.1<0 then eAdd (nI 18 (d:=d) (n:=28) (sz:=3) (imm:= -1-p.1)) p.2 else p.2
def eMove(d n:Int)(s:ES):ES:=eAdd (nI 7 (d:=d) (n:=31) (m:=n)) s
def eFinish(pl:List Int)(r n:Int)(s:ES):ES:=
 let d:=eTarget pl r 11 s
 eKeep pl r d.1 (eMove d.1 n d.2)
def ePlain(op:Int):Int:=if op=1 then 3 else if op=2 then 4 else if op=3 then 9 else if op=4 then 6 else if op=5 then 7 else if op=6 then 8 else if op=7 then 10 else if op=8 then 11 else 0
def eCond(op:Int):Int:=if op=9 then 0 else if op=10 then 1 else 3
def eBin(pl:List Int)(o:OpD)(s:ES):ES:=
 let a:=eSource pl o.a 8 s
 let b:=eSource pl o.b 9 a.2
 let d:=eTarget pl o.dst 11 b.2
 let s1:=if ePlain o.op≠0 then eAdd (nI (ePlain o.op) (d:=d.1) (n:=a.1) (m:=b.1)) d.2 else eAdd (nI 12 (d:=d.1) (e:=eCond o.op)) (eAdd (nI 5 (d:=31) (n:=a.1) (m:=b.1)) d.2)
 eKeep pl o.dst d.1 s1
def eSize(n:Int):Int:=if n<=1 then 0 else if n<=2 then 1 else if n<=4 then 2 else if n<=8 then 3 else 4
def eAddr(pl:List Int)(o:OpD)(s:ES):Int×ES:=
 let a:=eSource pl o.a 8 s
 if o.n=0 then a else (8,eAdd (nI 3 (d:=8) (n:=a.1) (m:=14)) (eCst 14 o.n a.2))
def oAcq(o:Int):Bool:=decide (o=2)||decide (o=4)
def oRel(o:Int):Bool:=decide (o=3)||decide (o=4)
def eLoad(pl:List Int)(o:OpD)(s:ES):ES:=
 let a:=eAddr pl o s
 let d:=eTarget pl o.dst 11 a.2
 eKeep pl o.dst d.1 (eAt o.site (nI (if oAcq o.order then 19 else 17) (d:=d.1) (n:=a.1) (sz:=eSize o.size)) d.2)
def eStore(pl:List Int)(o:OpD)(s:ES):ES:=
 let a:=eAddr pl o s
 let b:=eSource pl o.b 9 a.2
 eAt o.site (nI (if oRel o.order then 20 else 18) (d:=b.1) (n:=a.1) (sz:=eSize o.size)) b.2
def eBack(tp:Int)(s:ES):ES:=eAdd (nI 16 (d:=13) (imm:=tp-s.out.length)) s
def eChange(pl:List Int)(o:OpD)(s:ES):ES:=
 let a:=eSource pl o.a 8 s
 let b:=eSource pl o.b 9 a.2
 let top:Int:=b.2.out.length
 let k:=eSize o.size
 let s1:=eAt o.site (nI (if oAcq o.order then 22 else 21) (d:=14) (n:=a.1) (sz:=k)) b.2
 let n:=if o.kind=8 then 12 else b.1
 let s2:=if o.kind=8 then eAdd (nI 3 (d:=12) (n:=14) (m:=b.1)) s1 else s1
 eFinish pl o.dst 14 (eBack top (eAt o.site (nI (if oRel o.order then 24 else 23) (d:=n) (n:=a.1) (m:=13) (sz:=k)) s2))
def eCompare(pl:List Int)(o:OpD)(s:ES):ES:=
 let a:=eSource pl o.a 8 s
 let b:=eSource pl o.b 9 a.2
 let c:=eSource pl o.c 10 b.2
 let k:=eSize o.size
 let s1:=if o.size<8 then eAdd (nI 6 (d:=12) (n:=b.1) (m:=12)) (eCst 12 (2^(8*o.size.toNat)-1) c.2) else c.2
 let bb:=if o.size<8 then 12 else b.1
 let top:Int:=s1.out.length
 let s2:=eAdd (nI 14 (e:=1) (imm:=4)) (eAdd (nI 5 (d:=31) (n:=14) (m:=bb)) (eAt o.site (nI (if oAcq o.order then 22 else 21) (d:=14) (n:=a.1) (sz:=k)) s1))
 let s3:=eBack top (eAt o.site (nI (if oRel o.order then 24 else 23) (d:=c.1) (n:=a.1) (m:=13) (sz:=k)) s2)
 eFinish pl o.dst 14 (eAdd (nI 30) (eAdd (nI 13 (imm:=2)) s3))
def eTwo(pl:List Int)(o:OpD)(s:ES):ES:=
 let a:=eSource pl o.a 8 s
 let b:=if o.kind=12 then eSource pl o.b 9 a.2 else (14,a.2)
 let c:=if o.kind=12 then eSource pl o.c 10 b.2 else (12,b.2)
 let top:Int:=c.2.out.length
 let rd:Int:=if o.kind=11/\oAcq o.order then 26 else 25
 let wr:Int:=if o.order=4\/(o.kind=12/\oRel o.order) then 28 else 27
 let s1:=eAt o.site (nI wr (d:=b.1) (n:=a.1) (m:=13) (e:=c.1)) (eAt o.site (nI rd (d:=14) (n:=a.1) (e:=12)) c.2)
 let s2:=eBack top s1
 if o.kind=11 then eFinish pl o.dst2 12 (eFinish pl o.dst 14 s2) else s2
def eBound(pl:List Int)(o:OpD)(s:ES):ES:=
 let a:=eSource pl o.a 8 s
 eAdd (nI 32 (imm:=1)) (eAdd (nI 14 (e:=3) (imm:=2)) (eAdd (nI 5 (d:=31) (n:=a.1) (m:=14)) (eCst 14 o.n a.2)))
def eJump(pl:List Int)(o:OpD)(s:ES):ES:=
 let i:=if o.kind=16 then (let a:=eSource pl o.a 8 s;(nI 15 (d:=a.1),a.2)) else (nI 13,s)
 eAdd i.1 {i.2 with brs:=i.2.brs++[((i.2.out.length:Int),o.to)]}
def eStep(pl:List Int)(o:OpD)(s:ES):ES:=
 let s:={s with line:=o.line}
 if o.kind=1 then (let d:=eTarget pl o.dst 11 s;eKeep pl o.dst d.1 (eCst d.1 o.n d.2))
 else if o.kind=2 then (let a:=eSource pl o.a 8 s;eFinish pl o.dst a.1 a.2)
 else if o.kind=3 then eBin pl o s
 else if o.kind=4\/o.kind=6 then eLoad pl o s
 else if o.kind=5\/o.kind=7 then eStore pl o s
 else if o.kind=8\/o.kind=9 then eChange pl o s
 else if o.kind=10 then eCompare pl o s
 else if o.kind=11\/o.kind=12 then eTwo pl o s
 else if o.kind=13 then eAt o.site (nI 29 (imm:=if o.order=2 then 1 else 0)) s
 else if o.kind=14 then {s with labels:=(o.to,(s.out.length:Int))::s.labels}
 else if o.kind=15\/o.kind=16 then eJump pl o s
 else if o.kind=17 then eBound pl o s
 else if o.kind=18 then (let a:=eSource pl o.a 8 s;eAdd (nI 31 (imm:=1+a.1)) a.2)
 else {s with e:=1}
def eLook(l:List (Int×Int))(k:Int):Option Int:=(l.find? (fun x=>decide (x.1=k))).map Prod.snd
def ePatch(labels:List (Int×Int)):List (Int×Int)->List Ins->Int->List Ins×Int
 |[],out,e=>(out,e)
 |b::l,out,e=>
  let tt:=(eLook labels b.2).getD 0
  let i:=out.getD b.1.toNat (nI 0)
  ePatch labels l (out.set b.1.toNat {i with imm:=tt-b.1}) (if (eLook labels b.2).isSome then e else 1)
def eThread(ops:List OpD)(pl:List Int)(priv:Nat):Option (List Ins×List Int×List Int):=
 let s:=ops.foldl (fun s o=>eStep pl o s) (eCst 28 priv ⟨[],[],[],0,[],[],0⟩)
 let s:=eAdd (nI 31) s
 let r:=ePatch s.labels s.brs s.out s.e
 if r.2≠0 then none else some (r.1,s.sites,s.lines)
end Go.Proofs.YtcekjfmfcefjpaaGreatDoor
namespace Go.Proofs.YtcekjfmfcefjpaaGreatDoor
open Go.RowKit Go.Sort
structure Tq(F:Nat->Prop)(lo k:Nat):Prop where
 no: ¬F k
 le:lo<=k
structure Rq(F F1:Nat->Prop)(z:Nat):Prop where
 r: ∀k,F1 k->F k\/z<=k
theorem Tq.next{F F1:Nat->Prop}{lo k z:Nat}(h:Tq F lo k)(hr:Rq F F1 z)(hk:k<z):Tq F1 lo k:=
 ⟨fun e=>(hr.r k e).elim h.no (fun h=>by omega),h.le⟩
def insC(i:Ins):List qV:=[iI i.op,iI i.d,iI i.n,iI i.m,iI i.e,iI i.sz,iI i.imm]
def brC(b:Int×Int):List qV:=[iI b.1,iI b.2]
def numC(n:Int):List qV:=[iI n]
def emC(pv ov sv lv bv:qV)(B:Nat)(s:ES):Array qV:=#[pv,ov,sv,lv,iI s.line,.map (some B),bv,iI s.e]
def emR(s:ES):List Rw:=[⟨1,85,7,s.out.length,s.out.flatMap insC⟩,⟨2,3,1,s.sites.length,s.sites.flatMap numC⟩,⟨3,3,1,s.lines.length,s.lines.flatMap numC⟩,⟨6,267,2,s.brs.length,s.brs.flatMap brC⟩]
structure EFin(s:ES):Prop where
 out:s.out.length<=200000
 sites:s.sites.length<=200000
 lines:s.lines.length<=200000
 labels:s.labels.length<=20000
 brs:s.brs.length<=20000
 e:s.e=0
 line:rng s.line
structure EmX(w0:qW)(M:Nat)(F:Nat->Prop)(pv ov sv lv bv:qV)(B:Nat)(W:qW)(s:ES):Prop where
 ob:Ob M 263 (emC pv ov sv lv bv B s) (emR s) W
 map:IMap W B s.labels.length (eLook s.labels)
 lt:M≠B/\w0.heap.size<=B
 no: ∀r∈emR s,(fld (emC pv ov sv lv bv B s) r.ix).ownBlock≠some B
 ft: ∀k,F k↔foot M (emC pv ov sv lv bv B s) (emR s) k\/k=B
 bl:Below w0.heap.size w0 W
 le:w0.heap.size<=M
 fin:EFin s
def Em(w0:qW)(M:Nat)(F:Nat->Prop)(pv:qV)(W:qW)(s:ES):Prop:= ∃ov sv lv bv B,EmX w0 M F pv ov sv lv bv B W s
section
variable{w0 W W':qW}{M:Nat}{F:Nat->Prop}{pv ov sv lv bv:qV}{B:Nat}{s:ES}
theorem EmX.bd(h:EmX w0 M F pv ov sv lv bv B W s):w0.heap.size<=M/\M<W.heap.size/\M≠B/\B<W.heap.size:=
 ⟨h.le,h.ob.lt,h.lt.1,h.map.lt⟩
theorem EmX.inb(h:EmX w0 M F pv ov sv lv bv B W s){k:Nat}(hk:F k):w0.heap.size<=k/\k<W.heap.size:=by
 have hb:=h.bd
 rcases (h.ft k).1 hk with h1|rfl
 ·have:=h.ob.foot_lt h1
  exact ⟨by omega,this.2⟩
 ·exact ⟨h.lt.2,h.map.lt⟩
theorem EmX.inF(h:EmX w0 M F pv ov sv lv bv B W s):F M/\F B:=⟨(h.ft M).2 (.inl (.inl rfl)),(h.ft B).2 (.inr rfl)⟩
theorem Em.bd(h:Em w0 M F pv W s):w0.heap.size<=M/\M<W.heap.size:=by
 obtain ⟨ov,sv,lv,bv,B,h⟩:=h
 exact ⟨h.bd.1,h.bd.2.1⟩
theorem Em.inb(h:Em w0 M F pv W s){k:Nat}(hk:F k):w0.heap.size<=k/\k<W.heap.size:=by
 obtain ⟨ov,sv,lv,bv,B,h⟩:=h
 exact h.inb hk
theorem EmX.rules(h:EmX w0 M F pv ov sv lv bv B W s):(∀b i,W.cell? (aB b i)=if b<w0.heap.size then w0.cell? (aB b i) else if b=M then (#[pv,ov,sv,lv,iI s.line,.map (some B),bv,iI s.e]:Array qV)[i]? else cellW W ⟨b,i,none⟩)/\
  (∀b i,W.frozen? (aB b i)=if b<w0.heap.size then w0.frozen? (aB b i) else if b=M then false else frzW W ⟨b,i,none⟩):=⟨eG h.ob.out h.bl,ez h.ob.out h.bl⟩
theorem Em.rules(h:Em w0 M F pv W s): ∃ov sv lv bv B,(∀b i,W.cell? (aB b i)=if b<w0.heap.size then w0.cell? (aB b i) else if b=M then (#[pv,ov,sv,lv,iI s.line,.map (some B),bv,iI s.e]:Array qV)[i]? else cellW W ⟨b,i,none⟩)/\
  (∀b i,W.frozen? (aB b i)=if b<w0.heap.size then w0.frozen? (aB b i) else if b=M then false else frzW W ⟨b,i,none⟩)/\ ∃a c,ov= .slice a s.out.length c:=by
 obtain ⟨ov,sv,lv,bv,B,h⟩:=h
 obtain ⟨a,c,e, -⟩:=az (h.ob.own ⟨1,85,7,s.out.length,s.out.flatMap insC⟩ (by simp [emR]))
 exact ⟨ov,sv,lv,bv,B,h.rules.1,h.rules.2,a,c,e⟩
theorem EmX.kp{X:Nat->Prop}(h:EmX w0 M F pv ov sv lv bv B W s)(hk:Kp X W W')(hb:Below w0.heap.size w0 W')(hX: ∀k,F k-> ¬X k):EmX w0 M F pv ov sv lv bv B W' s:=
 ⟨h.ob.kp hk (fun k hf=>hX k ((h.ft k).2 (.inl hf))),h.map.keep (hk.block B h.map.lt (hX B h.inF.2)),h.lt,h.no,h.ft,hb,h.le,h.fin⟩
theorem Em.kp{X:Nat->Prop}(h:Em w0 M F pv W s)(hk:Kp X W W')(hb:Below w0.heap.size w0 W')(hX: ∀k,F k-> ¬X k):Em w0 M F pv W' s:=by
 obtain ⟨ov,sv,lv,bv,B,h⟩:=h
 exact ⟨ov,sv,lv,bv,B,h.kp hk hb hX⟩
theorem EmX.below(h:EmX w0 M F pv ov sv lv bv B W s)(hb:Below W.heap.size W W'):EmX w0 M F pv ov sv lv bv B W' s:=
 h.kp (X:=fun _=>False) (Kp.of_below hb) (ar h.bl hb h.bl.size) (fun _ _=>id)
theorem Em.below(h:Em w0 M F pv W s)(hb:Below W.heap.size W W'):Em w0 M F pv W' s:=by
 obtain ⟨ov,sv,lv,bv,B,h⟩:=h
 exact ⟨ov,sv,lv,bv,B,h.below hb⟩
theorem Em.alloc(h:Em w0 M F pv W s)(o:Obj):Em w0 M F pv (W.alloc o) s:=h.below (ab (zaa _ _) o)
theorem Em.drew(h:Em w0 M F pv W s):Em w0 M F pv W.drew s:=h.below (ag (zaa _ _))
theorem Em.mo(h:Em w0 M F pv W s)(p:Regrown):Em w0 M F pv (more W p) s:=h.below (av _ _)
theorem Em.own(h:Em w0 M F pv W s){k:Nat}(hk: ¬F k)(hl:M<k)(cs:Array qV)(t:TypeId):Em w0 M F pv (putB W k cs t) s:=by
 obtain ⟨ov,sv,lv,bv,B,h⟩:=h
 have yZ:=h.le
 refine ⟨ov,sv,lv,bv,B,h.kp (X:=fun i=>i=k) (Kp.putB (X:=fun i=>i=k) (Kp.refl _ W) (fun _=>rfl) cs t) (eH h.bl Za cs t) (fun i hi e=>hk (e ▸ hi))⟩
theorem EmX.put{W2:qW}(h:EmX w0 M F pv ov sv lv bv B W s)(r:Rw)(hr:r∈emR s){v':qV}{n':Nat}{xs':List qV}(hk:Kp (fun k=>(fld (emC pv ov sv lv bv B s) r.ix).ownBlock=some k) W W2)(hown:W2.ownsRow (M+1) r.e r.sz v' n' xs')(hg: ∀k,v'.ownBlock=some k->(fld (emC pv ov sv lv bv B s) r.ix).ownBlock=some k\/W.heap.size<=k)
  {ov' sv' lv' bv':qV} {s':ES} (e1:(emC pv ov sv lv bv B s).setIfInBounds r.ix v'=emC pv ov' sv' lv' bv' B s') (e2:(emR s).map (fun q=>if q.ix=r.ix then {q with n:=n',xs:=xs'} else q)=emR s') (e3:s'.labels=s.labels) (hf:EFin s'):
  ∃F',EmX w0 M F' pv ov' sv' lv' bv' B (W2.setCell ⟨M,r.ix,none⟩ v') s'/\Kp F W (W2.setCell ⟨M,r.ix,none⟩ v')/\Rq F F' W.heap.size:=by
 have BY:r.ix<(emC pv ov sv lv bv B s).size:=by
  simp only [emR,zaM,zaN,or_false] at hr
  rcases hr with rfl|rfl|rfl|rfl<;>simp [emC]
 obtain ⟨p1,p2,p3⟩:=h.ob.put hr BY hk hown hg
 rw [e1,e2] at p1 p3
 have hb:=h.bd
 have xg:=h.bl
 have xh:Kp F W (W2.setCell ⟨M,r.ix,none⟩ v'):=p2.mono (fun k _ e=>(h.ft k).2 (.inl e))
 have hB: ¬foot M (emC pv ov sv lv bv B s) (emR s) B:=by
  rintro (e|⟨q,hq,e⟩)
  ·omega
  ·exact h.no q hq e
 refine ⟨fun k=>foot M (emC pv ov' sv' lv' bv' B s') (emR s') k\/k=B,⟨p1,?_,h.lt,fun q hq e=>?_,fun k=>Iff.rfl,?_,h.le,hf⟩,xh,⟨fun k hk=>?_⟩⟩
 ·rw [e3]
  refine h.map.keep (p2.block B h.map.lt hB)
 ·rcases p3 B (.inr ⟨q,hq,e⟩) with h1|h1
  ·exact hB h1
  ·omega
 ·exact ⟨xh.os.trans xg.os,xh.tape.trans xg.tape,xh.output.trans xg.output,zal xg.size xh.size,fun k hk=>(xh.block k (by have:=xg.size;omega) (fun e=>by have:=(h.inb e).1;omega)).trans (xg.block k hk)⟩
 ·rcases hk with hk|rfl
  ·exact (p3 k hk).imp (fun e=>(h.ft k).2 (.inl e)) id
  ·exact .inl h.inF.2
theorem EmX.app{X W2:qW}{g cap:Nat}(h:EmX w0 M F pv ov sv lv bv B W s)(r:Rw)(hr:r∈emR s){new:List qV}(hx:Kp (fun _=>False) W X)(wW:X.grownBy W2 (fld (emC pv ov sv lv bv B s) r.ix).ownBlock)(hown:W2.ownsRow (M+1) r.e r.sz (.slice (aA g) (r.n+1) cap) (r.n+1) (r.xs++new))(xb:(fld (emC pv ov sv lv bv B s) r.ix).ownBlock=some g\/g=X.heap.size)
  {ov' sv' lv' bv':qV} {s':ES} (e1:(emC pv ov sv lv bv B s).setIfInBounds r.ix (.slice (aA g) (r.n+1) cap)=emC pv ov' sv' lv' bv' B s') (e2:(emR s).map (fun q=>if q.ix=r.ix then {q with n:=r.n+1,xs:=r.xs++new} else q)=emR s') (e3:s'.labels=s.labels) (hf:EFin s'):
  ∃F',EmX w0 M F' pv ov' sv' lv' bv' B (W2.setCell ⟨M,r.ix,none⟩ (.slice (aA g) (r.n+1) cap)) s'/\Kp F W (W2.setCell ⟨M,r.ix,none⟩ (.slice (aA g) (r.n+1) cap))/\Rq F F' W.heap.size:=by
 refine h.put r hr ((hx.mono (fun _ _ e=>e.elim)).trans ((Kp.of_grown wW).mono (fun k _ e=>e.symm))) hown (fun k hk=>?_) e1 e2 e3 hf
 obtain rfl:g=k:=by simpa [Value.ownBlock] using hk
 have:=hx.size
 rcases xb with e|e
 ·exact .inl e
 ·exact .inr Za
def EmD(w0:qW)(M:Nat)(F:Nat->Prop)(pv:qV)(w:qW)(s':ES)(r:qV)(e:Ending)(w':qW):Prop:=
 e= .returned r/\ ∃F',Em w0 M F' pv w' s'/\Kp F w w'/\Rq F F' w.heap.size
structure EmA(w0:qW)(M:Nat)(F:Nat->Prop)(pv:qV)(w W:qW)(F1:Nat->Prop)(s:ES):Prop where
 em:Em w0 M F1 pv W s
 kp:Kp F w W
 rel:Rq F F1 w.heap.size
theorem Rq.refl(F:Nat->Prop)(z:Nat):Rq F F z:=⟨fun _ h=> .inl h⟩
theorem Rq.trans{F F1 F2:Nat->Prop}{z z2:Nat}(h:Rq F F1 z)(h2:Rq F1 F2 z2)(hz:z<=z2):Rq F F2 z:=
 ⟨fun k hk=>(h2.r k hk).elim (fun e=>h.r k e) (fun e=> .inr Za)⟩
section
variable{w:qW}{F1:Nat->Prop}
theorem EmA.begin(h:Em w0 M F pv w s):EmA w0 M F pv w w F s:=⟨h,Kp.refl _ _,Rq.refl _ _⟩
theorem EmA.alloc(h:EmA w0 M F pv w W F1 s)(o:Obj):EmA w0 M F pv w (W.alloc o) F1 s:=⟨h.em.alloc o,h.kp.alloc o,h.rel⟩
theorem EmA.drew(h:EmA w0 M F pv w W F1 s):EmA w0 M F pv w W.drew F1 s:=⟨h.em.drew,h.kp.drew,h.rel⟩
theorem EmA.mo(h:EmA w0 M F pv w W F1 s)(p:Regrown):EmA w0 M F pv w (more W p) F1 s:=⟨h.em.mo p,h.kp.more p,h.rel⟩
theorem EmA.own(h:EmA w0 M F pv w W F1 s){k:Nat}(hk:Tq F1 w.heap.size k)(cs:Array qV)(t:TypeId)(h0:M<w.heap.size):EmA w0 M F pv w (putB W k cs t) F1 s:=
 ⟨h.em.own hk.no (by have:=hk.le;omega) cs t,h.kp.putB (fun hl=>by have:=hk.le;omega) cs t,h.rel⟩
theorem EmA.next{s2:ES}{r:qV}{e:Ending}{w1:qW}(h:EmA w0 M F pv w W F1 s)(hD:EmD w0 M F1 pv W s2 r e w1): ∃F2,EmA w0 M F pv w w1 F2 s2/\Kp (fun k=>F1 k\/k∈([]:List Nat)) W w1/\Rq F1 F2 W.heap.size:=by
 obtain ⟨-,F2,h1,h2,h3⟩:=hD
 have hz:=h.kp.size
 exact ⟨F2,⟨h1,h.kp.next h2 (fun i hi e=>(h.rel.r i e).elim id (fun e=>by omega)),h.rel.trans h3 hz⟩,h2.mono (fun k _ e=> .inl e),h3⟩
theorem EmA.fin{r:qV}(h:EmA w0 M F pv w W F1 s):EmD w0 M F pv w s r (.returned r) W:=⟨rfl,F1,h.em,h.kp,h.rel⟩
end
end
end Go.Proofs.YtcekjfmfcefjpaaGreatDoor
