/- Walks. No condition. -/
import Derived.Laws.Bits64b
import Derived.Test.YtjmfoeajhiimnaaGreatDoorG15
set_option maxRecDepth 100000
set_option maxHeartbeats 0
set_option linter.all false
namespace Go.Proofs.YtjmfoeajhiimnaaGreatDoor
open Go.RowKit Go.Sort
def insC(i:Ins):List qV:=[iI i.op,iI i.d,iI i.n,iI i.m,iI i.e,iI i.sz,iI i.imm]
def brC(b:Int×Int):List qV:=[iI b.1,iI b.2]
def numC(n:Int):List qV:=[iI n]
def emC(pv ov sv lv bv:qV)(B:Nat)(s:ES):Array qV:=#[pv,ov,sv,lv,iI s.line,.map (some B),bv,iI s.e]
def emR(s:ES):List Rw:=[⟨1,83,7,s.out.length,s.out.flatMap insC⟩,⟨2,3,1,s.sites.length,s.sites.flatMap numC⟩,⟨3,3,1,s.lines.length,s.lines.flatMap numC⟩,⟨6,243,2,s.brs.length,s.brs.flatMap brC⟩]
structure EFin(s:ES):Prop where
 out:s.out.length<=200000
 sites:s.sites.length<=200000
 lines:s.lines.length<=200000
 labels:s.labels.length<=20000
 brs:s.brs.length<=20000
 e:s.e=0
 line:rng s.line
structure EmX(w0:qW)(M:Nat)(F:Nat->Prop)(pv ov sv lv bv:qV)(B:Nat)(W:qW)(s:ES):Prop where
 ob:Ob M 238 (emC pv ov sv lv bv B s) (emR s) W
 map:IMap W B s.labels.length (eLook s.labels)
 lt:M≠B/\w0.heap.size<=B
 no: ∀r∈emR s,(fld (emC pv ov sv lv bv B s) r.ix).ownBlock≠some B
 ft: ∀k,F k↔foot M (emC pv ov sv lv bv B s) (emR s) k\/k=B
 bl:Below w0.heap.size w0 W
 le:w0.heap.size<=M
 fin:EFin s
def Em(w0:qW)(M:Nat)(F:Nat->Prop)(pv:qV)(W:qW)(s:ES):Prop:= ∃ov sv lv bv B,EmX w0 M F pv ov sv lv bv B W s
section
variable{w0 W W':qW}{M:Nat}{F:Nat->Prop}{pv ov sv lv bv:qV}{B:Nat}{s:ES}
theorem EmX.bd(h:EmX w0 M F pv ov sv lv bv B W s):w0.heap.size<=M/\M<W.heap.size/\M≠B/\B<W.heap.size:=
 ⟨h.le,h.ob.lt,h.lt.1,h.map.lt⟩
theorem EmX.inb(h:EmX w0 M F pv ov sv lv bv B W s){k:Nat}(hk:F k):w0.heap.size<=k/\k<W.heap.size:=by
 have hb:=h.bd
 rcases (h.ft k).1 hk with h1|rfl
 ·have:=h.ob.foot_lt h1
  exact ⟨by omega,this.2⟩
 ·exact ⟨h.lt.2,h.map.lt⟩
theorem EmX.inF(h:EmX w0 M F pv ov sv lv bv B W s):F M/\F B:=⟨(h.ft M).2 (.inl (.inl rfl)),(h.ft B).2 (.inr rfl)⟩
theorem Em.bd(h:Em w0 M F pv W s):w0.heap.size<=M/\M<W.heap.size:=by
 obtain ⟨ov,sv,lv,bv,B,h⟩:=h
 exact ⟨h.bd.1,h.bd.2.1⟩
theorem Em.inb(h:Em w0 M F pv W s){k:Nat}(hk:F k):w0.heap.size<=k/\k<W.heap.size:=by
 obtain ⟨ov,sv,lv,bv,B,h⟩:=h
 exact h.inb hk
theorem EmX.rules(h:EmX w0 M F pv ov sv lv bv B W s):(∀b i,W.cell? (aB b i)=if b<w0.heap.size then w0.cell? (aB b i) else if b=M then (#[pv,ov,sv,lv,iI s.line,.map (some B),bv,iI s.e]:Array qV)[i]? else cellW W ⟨b,i,none⟩)/\
  (∀b i,W.frozen? (aB b i)=if b<w0.heap.size then w0.frozen? (aB b i) else if b=M then false else frzW W ⟨b,i,none⟩):=⟨eN h.ob.out h.bl,eF h.ob.out h.bl⟩
theorem Em.rules(h:Em w0 M F pv W s): ∃ov sv lv bv B,(∀b i,W.cell? (aB b i)=if b<w0.heap.size then w0.cell? (aB b i) else if b=M then (#[pv,ov,sv,lv,iI s.line,.map (some B),bv,iI s.e]:Array qV)[i]? else cellW W ⟨b,i,none⟩)/\
  (∀b i,W.frozen? (aB b i)=if b<w0.heap.size then w0.frozen? (aB b i) else if b=M then false else frzW W ⟨b,i,none⟩)/\ ∃a c,ov= .slice a s.out.length c:=by
 obtain ⟨ov,sv,lv,bv,B,h⟩:=h
 obtain ⟨a,c,e, -⟩:=aC (h.ob.own ⟨1,83,7,s.out.length,s.out.flatMap insC⟩ (by simp [emR]))
 exact ⟨ov,sv,lv,bv,B,h.rules.1,h.rules.2,a,c,e⟩
theorem EmX.kp{X:Nat->Prop}(h:EmX w0 M F pv ov sv lv bv B W s)(hk:Kp X W W')(hb:Below w0.heap.size w0 W')(hX: ∀k,F k-> ¬X k):EmX w0 M F pv ov sv lv bv B W' s:=
 ⟨h.ob.kp hk (fun k hf=>hX k ((h.ft k).2 (.inl hf))),h.map.keep (hk.block B h.map.lt (hX B h.inF.2)),h.lt,h.no,h.ft,hb,h.le,h.fin⟩
theorem Em.kp{X:Nat->Prop}(h:Em w0 M F pv W s)(hk:Kp X W W')(hb:Below w0.heap.size w0 W')(hX: ∀k,F k-> ¬X k):Em w0 M F pv W' s:=by
 obtain ⟨ov,sv,lv,bv,B,h⟩:=h
 exact ⟨ov,sv,lv,bv,B,h.kp hk hb hX⟩
theorem EmX.below(h:EmX w0 M F pv ov sv lv bv B W s)(hb:Below W.heap.size W W'):EmX w0 M F pv ov sv lv bv B W' s:=
 h.kp (X:=fun _=>False) (Kp.of_below hb) (an h.bl hb h.bl.size) (fun _ _=>id)
theorem Em.below(h:Em w0 M F pv W s)(hb:Below W.heap.size W W'):Em w0 M F pv W' s:=by
 obtain ⟨ov,sv,lv,bv,B,h⟩:=h
 exact ⟨ov,sv,lv,bv,B,h.below hb⟩
theorem Em.alloc(h:Em w0 M F pv W s)(o:Obj):Em w0 M F pv (W.alloc o) s:=h.below (ab (zaa _ _) o)
theorem Em.drew(h:Em w0 M F pv W s):Em w0 M F pv W.drew s:=h.below (ag (zaa _ _))
theorem Em.mo(h:Em w0 M F pv W s)(p:Regrown):Em w0 M F pv (more W p) s:=h.below (au _ _)
theorem Em.own(h:Em w0 M F pv W s){k:Nat}(hk: ¬F k)(hl:M<k)(cs:Array qV)(t:TypeId):Em w0 M F pv (putB W k cs t) s:=by
 obtain ⟨ov,sv,lv,bv,B,h⟩:=h
 have zt:=h.le
 refine ⟨ov,sv,lv,bv,B,h.kp (X:=fun i=>i=k) (Kp.putB (X:=fun i=>i=k) (Kp.refl _ W) (fun _=>rfl) cs t) (eO h.bl Za cs t) (fun i hi e=>hk (e ▸ hi))⟩
theorem EmX.put{W2:qW}(h:EmX w0 M F pv ov sv lv bv B W s)(r:Rw)(hr:r∈emR s){v':qV}{n':Nat}{xs':List qV}(hk:Kp (fun k=>(fld (emC pv ov sv lv bv B s) r.ix).ownBlock=some k) W W2)(hown:W2.ownsRow (M+1) r.e r.sz v' n' xs')(hg: ∀k,v'.ownBlock=some k->(fld (emC pv ov sv lv bv B s) r.ix).ownBlock=some k\/W.heap.size<=k)
  {ov' sv' lv' bv':qV} {s':ES} (e1:(emC pv ov sv lv bv B s).setIfInBounds r.ix v'=emC pv ov' sv' lv' bv' B s') (e2:(emR s).map (fun q=>if q.ix=r.ix then {q with n:=n',xs:=xs'} else q)=emR s') (e3:s'.labels=s.labels) (hf:EFin s'):
  ∃F',EmX w0 M F' pv ov' sv' lv' bv' B (W2.setCell ⟨M,r.ix,none⟩ v') s'/\Kp F W (W2.setCell ⟨M,r.ix,none⟩ v')/\Rq F F' W.heap.size:=by
 have Cc:r.ix<(emC pv ov sv lv bv B s).size:=by
  simp only [emR,zaM,zaN,or_false] at hr
  rcases hr with rfl|rfl|rfl|rfl<;>simp [emC]
 obtain ⟨p1,p2,p3⟩:=h.ob.put hr Cc hk hown hg
 rw [e1,e2] at p1 p3
 have hb:=h.bd
 have xo:=h.bl
 have xp:Kp F W (W2.setCell ⟨M,r.ix,none⟩ v'):=p2.mono (fun k _ e=>(h.ft k).2 (.inl e))
 have hB: ¬foot M (emC pv ov sv lv bv B s) (emR s) B:=by
  rintro (e|⟨q,hq,e⟩)
  ·omega
  ·exact h.no q hq e
 refine ⟨fun k=>foot M (emC pv ov' sv' lv' bv' B s') (emR s') k\/k=B,⟨p1,?_,h.lt,fun q hq e=>?_,fun k=>Iff.rfl,?_,h.le,hf⟩,xp,⟨fun k hk=>?_⟩⟩
 ·rw [e3]
  refine h.map.keep (p2.block B h.map.lt hB)
 ·rcases p3 B (.inr ⟨q,hq,e⟩) with h1|h1
  ·exact hB h1
  ·omega
 ·exact ⟨xp.os.trans xo.os,xp.tape.trans xo.tape,xp.output.trans xo.output,zal xo.size xp.size,fun k hk=>(xp.block k (by have:=xo.size;omega) (fun e=>by have:=(h.inb e).1;omega)).trans (xo.block k hk)⟩
 ·rcases hk with hk|rfl
  ·exact (p3 k hk).imp (fun e=>(h.ft k).2 (.inl e)) id
  ·exact .inl h.inF.2
theorem EmX.app{X W2:qW}{g cap:Nat}(h:EmX w0 M F pv ov sv lv bv B W s)(r:Rw)(hr:r∈emR s){new:List qV}(hx:Kp (fun _=>False) W X)(xb:X.grownBy W2 (fld (emC pv ov sv lv bv B s) r.ix).ownBlock)(hown:W2.ownsRow (M+1) r.e r.sz (.slice (aA g) (r.n+1) cap) (r.n+1) (r.xs++new))(xk:(fld (emC pv ov sv lv bv B s) r.ix).ownBlock=some g\/g=X.heap.size)
  {ov' sv' lv' bv':qV} {s':ES} (e1:(emC pv ov sv lv bv B s).setIfInBounds r.ix (.slice (aA g) (r.n+1) cap)=emC pv ov' sv' lv' bv' B s') (e2:(emR s).map (fun q=>if q.ix=r.ix then {q with n:=r.n+1,xs:=r.xs++new} else q)=emR s') (e3:s'.labels=s.labels) (hf:EFin s'):
  ∃F',EmX w0 M F' pv ov' sv' lv' bv' B (W2.setCell ⟨M,r.ix,none⟩ (.slice (aA g) (r.n+1) cap)) s'/\Kp F W (W2.setCell ⟨M,r.ix,none⟩ (.slice (aA g) (r.n+1) cap))/\Rq F F' W.heap.size:=by
 refine h.put r hr ((hx.mono (fun _ _ e=>e.elim)).trans ((Kp.of_grown xb).mono (fun k _ e=>e.symm))) hown (fun k hk=>?_) e1 e2 e3 hf
 obtain rfl:g=k:=by simpa [Value.ownBlock] using hk
 have:=hx.size
 rcases xk with e|e
 ·exact .inl e
 ·exact .inr Za
def EmD(w0:qW)(M:Nat)(F:Nat->Prop)(pv:qV)(w:qW)(s':ES)(r:qV)(e:Ending)(w':qW):Prop:=
 e= .returned r/\ ∃F',Em w0 M F' pv w' s'/\Kp F w w'/\Rq F F' w.heap.size
structure EmA(w0:qW)(M:Nat)(F:Nat->Prop)(pv:qV)(w W:qW)(F1:Nat->Prop)(s:ES):Prop where
 em:Em w0 M F1 pv W s
 kp:Kp F w W
 rel:Rq F F1 w.heap.size
theorem Rq.refl(F:Nat->Prop)(z:Nat):Rq F F z:=⟨fun _ h=> .inl h⟩
theorem Rq.trans{F F1 F2:Nat->Prop}{z z2:Nat}(h:Rq F F1 z)(h2:Rq F1 F2 z2)(hz:z<=z2):Rq F F2 z:=
 ⟨fun k hk=>(h2.r k hk).elim (fun e=>h.r k e) (fun e=> .inr Za)⟩
section
variable{w:qW}{F1:Nat->Prop}
theorem EmA.begin(h:Em w0 M F pv w s):EmA w0 M F pv w w F s:=⟨h,Kp.refl _ _,Rq.refl _ _⟩
theorem EmA.alloc(h:EmA w0 M F pv w W F1 s)(o:Obj):EmA w0 M F pv w (W.alloc o) F1 s:=⟨h.em.alloc o,h.kp.alloc o,h.rel⟩
theorem EmA.drew(h:EmA w0 M F pv w W F1 s):EmA w0 M F pv w W.drew F1 s:=⟨h.em.drew,h.kp.drew,h.rel⟩
theorem EmA.mo(h:EmA w0 M F pv w W F1 s)(p:Regrown):EmA w0 M F pv w (more W p) F1 s:=⟨h.em.mo p,h.kp.more p,h.rel⟩
theorem EmA.own(h:EmA w0 M F pv w W F1 s){k:Nat}(hk:Tq F1 w.heap.size k)(cs:Array qV)(t:TypeId)(h0:M<w.heap.size):EmA w0 M F pv w (putB W k cs t) F1 s:=
 ⟨h.em.own hk.no (by have:=hk.le;omega) cs t,h.kp.putB (fun hl=>by have:=hk.le;omega) cs t,h.rel⟩
theorem EmA.next{s2:ES}{r:qV}{e:Ending}{w1:qW}(h:EmA w0 M F pv w W F1 s)(hD:EmD w0 M F1 pv W s2 r e w1): ∃F2,EmA w0 M F pv w w1 F2 s2/\Kp (fun k=>F1 k\/k∈([]:List Nat)) W w1/\Rq F1 F2 W.heap.size:=by
 obtain ⟨-,F2,h1,h2,h3⟩:=hD
 have hz:=h.kp.size
 exact ⟨F2,⟨h1,h.kp.next h2 (fun i hi e=>(h.rel.r i e).elim id (fun e=>by omega)),h.rel.trans h3 hz⟩,h2.mono (fun k _ e=> .inl e),h3⟩
theorem EmA.fin{r:qV}(h:EmA w0 M F pv w W F1 s):EmD w0 M F pv w s r (.returned r) W:=⟨rfl,F1,h.em,h.kp,h.rel⟩
end
end
theorem ik:(Tryz.prog.info? 83).map (fun i=>(i.zero,i.size,i.bytes))=some (some (.agg #[iI 0,iI 0,iI 0,iI 0,iI 0,iI 0,iI 0]),7,56):=by kernel_rfl
theorem ij:(Tryz.prog.info? 3).map (fun i=>(i.zero,i.size,i.bytes))=some (some (iI 0),1,8):=by kernel_rfl
section
variable{w0 W W':qW}{M:Nat}{F:Nat->Prop}{pv:qV}{s:ES}
theorem EmD.left{w:qW}{s':ES}{r:qV}{e:Ending}(hk:Kp (fun _=>False) w W)(h:EmD w0 M F pv W s' r e W'):EmD w0 M F pv w s' r e W':=by
 obtain ⟨he,F',h1,h2,h3⟩:=h
 have:=hk.size
 exact ⟨he,F',h1,(hk.mono (fun _ _ e=>e.elim)).trans h2,⟨fun k hk=>(h3.r k hk).imp id (fun e=>by omega)⟩⟩
theorem ydA{s:ES}(i:Ins):(emR s).map (fun q=>if q.ix=1 then {q with n:=s.out.length+1,xs:=s.out.flatMap insC++insC i} else q)=emR {s with out:=s.out++[i]}:=by simp [emR]
theorem ydz{s:ES}(i:Int):(emR s).map (fun q=>if q.ix=2 then {q with n:=s.sites.length+1,xs:=s.sites.flatMap numC++numC i} else q)=emR {s with sites:=s.sites++[i]}:=by simp [emR]
theorem ydy{s:ES}(i:Int):(emR s).map (fun q=>if q.ix=3 then {q with n:=s.lines.length+1,xs:=s.lines.flatMap numC++numC i} else q)=emR {s with lines:=s.lines++[i]}:=by simp [emR]
theorem dZ(w:qW)(h:Em w0 M F pv w s)(site:Int)(i:Ins)(hf:EFin (eAt site i s)):qC 149 #[pP M,iI site,.agg (insC i).toArray] w (EmD w0 M F pv w (eAt site i s) (.tuple #[])):=by
 obtain ⟨ov,sv,lv,bv,B,hx⟩:=h
 obtain ⟨i0,xF,xx,xu,xq⟩:=zan ik
 obtain ⟨i1,Bm,AN,Bs,Aj⟩:=zan ij
 have Bo:=hx.bd
 have HM:=Zh hx
 have hw:=hx.fin
 have ya:EFin {s with out:=s.out++[i]}:=⟨by have:=hf.out;simpa [eAt] using this,hw.sites,hw.lines,hw.labels,hw.brs,hw.e,hw.line⟩
 have yM:EFin {s with out:=s.out++[i],sites:=s.sites++[site]}:=⟨by have:=hf.out;simpa [eAt] using this,by have:=hf.sites;simpa [eAt] using this,hw.lines,hw.labels,hw.brs,hw.e,hw.line⟩
 have Bw:=hf.out
 have Bv:=hf.sites
 have Bh:=hf.lines
 simp only [eAt,zaO,za2,zaV] at Bw Bv Bh
 have CG:ov.ownBlock≠some w.heap.size:=fun e=>by have:=((hx.ob.own ⟨1,83,7,s.out.length,s.out.flatMap insC⟩ (by simp [emR])).lt _ e).2;omega
 clear hx hw
 unfold insC
 go_enter Tryz.func149,Tryz.ntmps149
 go_wp2_with fail
 refine aS (R:=fun W=>EmX w0 M F pv ov sv lv bv B W s/\W.heap[w.heap.size]?=some (.cells (insC i).toArray 83 (0,0))/\Kp (fun _=>False) w W) ⟨HM.out.below (ab (zaa _ _) _),zab _ _,Kp.al _ _⟩ ?_
 clear HM
 rintro W ⟨hM,hK,ze⟩
 have yO:=hM.ob.own ⟨1,83,7,s.out.length,s.out.flatMap insC⟩ (by simp [emR])
 have q1: ∀j,W.cell? (aB M j)=(#[pv,ov,sv,lv,iI s.line,.map (some B),bv,iI s.e]:Array qV)[j]?:=aa hM.ob.out
 have qf:=ah hM.ob.out
 have qk: ∀j,W.cell? (aB w.heap.size j)=(#[iI i.op,iI i.d,iI i.n,iI i.m,iI i.e,iI i.sz,iI i.imm]:Array qV)[j]?:=aa hK
 have j':=hM.bd
 have yc:=ac hK
 have HW:=Zh hM
 have xB:=Zh yO
 have yQ:=Zh ze
 clear hM hK yO ze
 have hA: ∀j,W.drew.cell? (aB w.heap.size j)=(#[iI i.op,iI i.d,iI i.n,iI i.m,iI i.e,iI i.sz,iI i.imm]:Array qV)[j]?:=qk
 have hB:W.drew.cell? (aB M 1)=some ov:=q1 1
 refine ae (fun W=> ∀j,W.cell? (aB w.heap.size j)=(#[iI i.op,iI i.d,iI i.n,iI i.m,iI i.e,iI i.sz,iI i.imm]:Array qV)[j]?) (fun W=>W.cell? (aB M 1)=some ov) 10 rfl ?_
 refine Zp 0 rfl (h:=Zp 1 rfl (h:=Zp 2 rfl (h:=Zp 3 rfl (h:=Zl 4 [7,10] rfl (h:=Zt 5 rfl (h:=?_))))));try simp only [Zq]
 refine Zs 6 rfl fun K hK=>?_
 go_simp
 refine hK _ _ ⟨fun j=>(aj yc).trans (qk j),fun _=>(aj j'.2.1).trans (q1 1)⟩ ?_
 refine Zs 7 rfl fun K hK=>?_
 refine bf (.tmp 10) (.tmp 12) 75 83 i0 _ 7 56 Tryz.underlying75 xF xx xu xq rfl Zd rfl rfl (M+1) ov s.out.length (s.out.flatMap insC) (ax xB.out (fun g hg=>zac _ _ (xB.out.lt g hg).2)) W.heap.size #[iI i.op,iI i.d,iI i.n,iI i.m,iI i.e,iI i.sz,iI i.imm] 83 (0,0) (zab _ _) ZA ZA rfl ZD Za Za Zc ?_
 intro g2 cap2 w2 hown xb xk xE
 have hD:=Zh (HW.out.app ⟨1,83,7,s.out.length,s.out.flatMap insC⟩ (by simp [emR]) (new:=insC i) ((Kp.dr W).trans (Kp.al _ _)) xb hown xk (s':={s with out:=s.out++[i]}) rfl (ydA i) rfl ya)
 have wZ:Kp (fun k=>ov.ownBlock=some k) (W.drew.alloc _) w2:=(Kp.of_grown xb).mono (fun k _ e=>e.symm)
 have kx: ∀j,w2.cell? (aB w.heap.size j)=(#[iI i.op,iI i.d,iI i.n,iI i.m,iI i.e,iI i.sz,iI i.imm]:Array qV)[j]?:=fun j=>((wZ.cell Zc (fun e=>CG e)).trans (aj yc)).trans (qk j)
 have kc: ∀j,w2.cell? (aB M j)=(#[pv,ov,sv,lv,iI s.line,.map (some B),bv,iI s.e]:Array qV)[j]?:=fun j=>((wZ.cell Zc (fun e=>by have:=(xB.out.lt _ e).1;omega)).trans (aj j'.2.1)).trans (q1 j)
 have kf: ∀j,w2.frozen? (aB M j)=false:=ah ((wZ.block M Zc (fun e=>by have:=(xB.out.lt _ e).1;omega)).trans ((zac _ _ j'.2.1).trans HW.out.ob.out))
 clear hown xb xk wZ
 refine hK _ _ ⟨kx,fun _=>kc 1⟩ ?_
 clear hK K hA hB
 have hA: ∀j,w2.cell? (aB w.heap.size j)=(#[iI i.op,iI i.d,iI i.n,iI i.m,iI i.e,iI i.sz,iI i.imm]:Array qV)[j]?:=kx
 have hB:w2.cell? (aB M 1)=some ov:=kc 1
 refine Zp 8 rfl (h:=Zp 9 rfl (h:=?_));try simp only [Zq]
 refine Zs 10 rfl fun K hK=>?_
 go_simp
 refine hK _ _ ⟨?_,fun hh=>Bool.noConfusion (hh.symm.trans (show _=true by kernel_rfl))⟩ ?_
 ·intro j
  exact (zaH _ _ _ _ (fun e=>by have:=congrArg Addr.block e;simp only at this;omega)).trans (kx j)
 refine af Zb ?_ _
 obtain ⟨F1,C0,zg,yh⟩:=hD.out
 have BA:=Zh (EmA.mk (F:=F) (w:=w) ⟨_,_,_,_,_,C0⟩ ((yQ.out.mono (fun _ _ e=>e.elim)).trans zg) ⟨fun k hk=>(yh.r k hk).imp id (fun e=>by have:=yQ.out.size;omega)⟩)
 clear hD C0 zg yh kx kc kf hA hB hK K HW xB yQ q1 qf qk j' Bo yc xE CG
 generalize (w2.setCell ⟨M,1,none⟩ (.slice (aA g2) (s.out.length+1) cap2))=W1 at BA ⊢
 obtain ⟨ov1,sv1,lv1,bv1,B1,hx⟩:=BA.out.em
 have yO:=hx.ob.own ⟨2,3,1,s.sites.length,s.sites.flatMap numC⟩ (by simp [emR])
 have q1: ∀j,W1.cell? (aB M j)=(#[pv,ov1,sv1,lv1,iI s.line,.map (some B1),bv1,iI s.e]:Array qV)[j]?:=aa hx.ob.out
 have qf:=ah hx.ob.out
 have j':=hx.bd
 have HW:=Zh hx
 have xB:=Zh yO
 clear hx yO
 go_wp2_with (at_builtin;refine bO (.tmp 20) (.tmp 22) 46 3 i1 _ 1 8 Tryz.underlying46 Bm AN Bs Aj rfl Zd rfl rfl (M+1) sv1 s.sites.length (s.sites.flatMap numC) (ax xB.out (fun g hg=>zac _ _ (xB.out.lt g hg).2)) W1.heap.size #[iI site] 3 (0,0) (zab _ _) rfl rfl rfl ZD Za Za Zc ?_;intro g3 cap3 w3 hown xb xk Ew;have hD:=Zh (HW.out.app ⟨2,3,1,s.sites.length,s.sites.flatMap numC⟩ (by simp [emR]) (new:=numC site) (Kp.al W1 _) xb hown xk (s':={s with out:=s.out++[i],sites:=s.sites++[site]}) rfl (ydz site) rfl yM);have wZ:Kp (fun k=>sv1.ownBlock=some k) (W1.alloc _) w3:=(Kp.of_grown xb).mono (fun k _ e=>e.symm);have kc: ∀j,w3.cell? (aB M j)=(#[pv,ov1,sv1,lv1,iI s.line,.map (some B1),bv1,iI s.e]:Array qV)[j]?:=fun j=>((wZ.cell Zc (fun e=>by have:=(xB.out.lt _ e).1;omega)).trans (by rw [aV,if_pos j'.2.1])).trans (q1 j);have kf: ∀j,w3.frozen? (aB M j)=false:=ah ((wZ.block M Zc (fun e=>by have:=(xB.out.lt _ e).1;omega)).trans ((zac _ _ j'.2.1).trans HW.out.ob.out));clear hown xb xk wZ)
 obtain ⟨F2,zH,Gv,yL⟩:=hD.out
 have ye:=Zh (EmA.mk (F:=F) (w:=w) ⟨_,_,_,_,_,zH⟩ (BA.out.kp.next Gv (fun k hk e=>(BA.out.rel.r k e).elim id (fun e=>by omega))) (BA.out.rel.trans yL BA.out.kp.size))
 clear hD zH Gv yL kc kf HW xB q1 qf j' Ew BA
 generalize (w3.setCell ⟨M,2,none⟩ (.slice (aA g3) (s.sites.length+1) cap3))=W2 at ye ⊢
 obtain ⟨ov2,sv2,lv2,bv2,B2,hx⟩:=ye.out.em
 have yO:=hx.ob.own ⟨3,3,1,s.lines.length,s.lines.flatMap numC⟩ (by simp [emR])
 have q1: ∀j,W2.cell? (aB M j)=(#[pv,ov2,sv2,lv2,iI s.line,.map (some B2),bv2,iI s.e]:Array qV)[j]?:=aa hx.ob.out
 have qf:=ah hx.ob.out
 have j':=hx.bd
 have HW:=Zh hx
 have xB:=Zh yO
 clear hx yO
 have hA:W2.drew.cell? (aB M 4)=some (iI s.line):=q1 4
 have hB:W2.drew.cell? (aB M 3)=some lv2:=q1 3
 refine ae (fun W=>W.cell? (aB M 4)=some (iI s.line)) (fun W=>W.cell? (aB M 3)=some lv2) 13 rfl ?_
 refine Zp 0 rfl (h:=Zp 1 rfl (h:=Zp 2 rfl (h:=Zp 3 rfl (h:=Zl 4 [10,13] rfl (h:=Zp 5 rfl (h:=Zp 6 rfl (h:=Zp 7 rfl (h:=Zt 8 rfl (h:=?_)))))))));try simp only [Zq]
 refine Zs 9 rfl fun K hK=>?_
 go_simp
 refine hK _ _ ⟨(aj j'.2.1).trans (q1 4),fun _=>(aj j'.2.1).trans (q1 3)⟩ ?_
 refine Zs 10 rfl fun K hK=>?_
 refine bf (.tmp 30) (.tmp 35) 46 3 i1 _ 1 8 Tryz.underlying46 Bm AN Bs Aj rfl Zd rfl rfl (M+1) lv2 s.lines.length (s.lines.flatMap numC) (ax xB.out (fun g hg=>zac _ _ (xB.out.lt g hg).2)) W2.heap.size #[iI s.line] 3 (0,0) (zab _ _) ZA ZA rfl ZD Za Za Zc ?_
 intro g4 cap4 w4 hown xb xk JS
 have hD:=Zh (HW.out.app ⟨3,3,1,s.lines.length,s.lines.flatMap numC⟩ (by simp [emR]) (new:=numC s.line) ((Kp.dr W2).trans (Kp.al _ _)) xb hown xk (s':=eAt site i s) rfl (ydy s.line) rfl hf)
 have wZ:Kp (fun k=>lv2.ownBlock=some k) (W2.drew.alloc _) w4:=(Kp.of_grown xb).mono (fun k _ e=>e.symm)
 have kc: ∀j,w4.cell? (aB M j)=(#[pv,ov2,sv2,lv2,iI s.line,.map (some B2),bv2,iI s.e]:Array qV)[j]?:=fun j=>((wZ.cell Zc (fun e=>by have:=(xB.out.lt _ e).1;omega)).trans (aj j'.2.1)).trans (q1 j)
 have kf: ∀j,w4.frozen? (aB M j)=false:=ah ((wZ.block M Zc (fun e=>by have:=(xB.out.lt _ e).1;omega)).trans ((zac _ _ j'.2.1).trans HW.out.ob.out))
 clear hown xb xk wZ
 refine hK _ _ ⟨kc 4,fun _=>kc 3⟩ ?_
 clear hK K hA hB
 have hA:w4.cell? (aB M 4)=some (iI s.line):=kc 4
 have hB:w4.cell? (aB M 3)=some lv2:=kc 3
 refine Zp 11 rfl (h:=Zp 12 rfl (h:=?_));try simp only [Zq]
 refine Zs 13 rfl fun K hK=>?_
 go_simp
 refine hK _ _ ⟨(zaH _ _ _ _ (fun e=>by have:=congrArg Addr.off e;simp at this)).trans (kc 4),fun hh=>Bool.noConfusion (hh.symm.trans (show _=true by kernel_rfl))⟩ ?_
 refine af Zb ?_ _
 go_wp2_with fail
 go_end0
 obtain ⟨F3,Ko,J0,IC⟩:=hD.out
 exact ⟨rfl,F3,⟨_,_,_,_,_,Ko⟩,ye.out.kp.next J0 (fun k hk e=>(ye.out.rel.r k e).elim id (fun e=>by omega)),ye.out.rel.trans IC ye.out.kp.size⟩
end
structure EmB(w0:qW)(M:Nat)(F:Nat->Prop)(pv:qV)(w W:qW)(F1:Nat->Prop)(s:ES)(o:OpD)(K:Nat):Prop where
 a:EmA w0 M F pv w W F1 s
 box:W.heap[K]?=some (.cells (opC o).toArray 225 (0,0))
 no: ¬F1 K
 le:w.heap.size<=K
 lt:M<K
structure PlB(w0:qW)(pv:qV)(pl:List Int)(g c:Nat):Prop where
 v:pv= .slice (aA g) pl.length c
 lt:g<w0.heap.size
 cell: ∀i,i<pl.length->w0.cell? (aB g i)=some (iI (pl.getD i 0))
 le:pl.length<=20000
def plR(pl:List Int)(r:Int):Prop:=0<=r/\r.toNat<pl.length/\0<=pl.getD r.toNat 0/\pl.getD r.toNat 0<=100
def pG(pl:List Int)(r:Int):Int:=pl.getD r.toNat 0
section
variable{w0 W W' w:qW}{M:Nat}{F F1:Nat->Prop}{pv:qV}{s:ES}{o:OpD}{K:Nat}{pl:List Int}{r:Int}
theorem bm(h:plR pl r)(sp:Int)(s:ES):eSource pl r sp s=(pG pl r,s):=by
 obtain ⟨h1,h2,h3, -⟩:=h
 unfold eSource ePlace
 simp only [if_neg (show¬(r<0\/pl.length<=r.toNat) by omega),if_pos h3,pG]
theorem eK(h:plR pl r)(sp:Int)(s:ES):eTarget pl r sp s=(pG pl r,s):=by
 obtain ⟨h1,h2,h3, -⟩:=h
 unfold eTarget ePlace
 simp only [if_neg (show¬(r<0\/pl.length<=r.toNat) by omega),if_pos h3,pG]
theorem eL(h:plR pl r)(d:Int)(s:ES):eKeep pl r d s=s:=by
 obtain ⟨h1,h2,h3, -⟩:=h
 unfold eKeep ePlace
 simp only [if_neg (show¬(r<0\/pl.length<=r.toNat) by omega),if_neg (show¬pl.getD r.toNat 0<0 by omega)]
theorem fC(h:plR pl r)(n:Int)(s:ES):eFinish pl r n s=eMove (pG pl r) n s:=by
 unfold eFinish
 simp only [eK h,eL h]
theorem EmB.begin(h:Em w0 M F pv w s)(o:OpD):EmB w0 M F pv w (w.alloc (.cells (opC o).toArray 225)) F s o w.heap.size:=
 ⟨(EmA.begin h).alloc _,zab _ _,fun e=>by have:=(h.inb e).2;omega,zaq _,h.bd.2⟩
theorem EmB.alloc(h:EmB w0 M F pv w W F1 s o K)(ob:Obj):EmB w0 M F pv w (W.alloc ob) F1 s o K:=
 ⟨h.a.alloc ob,(zac _ _ (ac h.box)).trans h.box,h.no,h.le,h.lt⟩
theorem EmB.drew(h:EmB w0 M F pv w W F1 s o K):EmB w0 M F pv w W.drew F1 s o K:=⟨h.a.drew,h.box,h.no,h.le,h.lt⟩
theorem EmB.mo(h:EmB w0 M F pv w W F1 s o K)(p:Regrown):EmB w0 M F pv w (more W p) F1 s o K:=
 ⟨h.a.mo p,((Kp.mo (X:=fun _=>False) W p).block K (ac h.box) id).trans h.box,h.no,h.le,h.lt⟩
theorem EmB.next{s2:ES}{v:qV}{e:Ending}{w1:qW}(h:EmB w0 M F pv w W F1 s o K)(hD:EmD w0 M F1 pv W s2 v e w1): ∃F2,EmB w0 M F pv w w1 F2 s2 o K:=by
 obtain ⟨F2,h1,h2,h3⟩:=h.a.next hD
 have hl:=ac h.box
 exact ⟨F2,h1,(h2.block K hl (by rintro (e|e);exact h.no e;simp at e)).trans h.box,fun e=>(h3.r K e).elim h.no (fun e=>by omega),h.le,h.lt⟩
theorem EmB.bd(h:EmB w0 M F pv w W F1 s o K):w0.heap.size<=M/\M<W.heap.size/\M<K/\K<W.heap.size:=⟨h.a.em.bd.1,h.a.em.bd.2,h.lt,ac h.box⟩
theorem EmB.rules(h:EmB w0 M F pv w W F1 s o K): ∃ov sv lv bv B,(∀b i,W.cell? (aB b i)=if b<w0.heap.size then w0.cell? (aB b i) else if b=M then (#[pv,ov,sv,lv,iI s.line,.map (some B),bv,iI s.e]:Array qV)[i]? else if b=K then (#[iI o.kind,iI o.dst,iI o.dst2,iI o.a,iI o.b,iI o.c,.int .u64 o.n,iI o.op,iI o.size,iI o.order,iI o.tO,iI o.site,iI o.line]:Array qV)[i]? else cellW W ⟨b,i,none⟩)/\
  (∀b i,W.frozen? (aB b i)=if b<w0.heap.size then w0.frozen? (aB b i) else if b=M then false else if b=K then false else frzW W ⟨b,i,none⟩)/\ ∃a c,ov= .slice a s.out.length c:=by
 obtain ⟨ov,sv,lv,bv,B,h1,h2,h3⟩:=h.a.em.rules
 have hl:=h.lt
 have hb:=h.bd
 refine ⟨ov,sv,lv,bv,B,fun b i=>?_,fun b i=>?_,h3⟩
 ·rw [h1]
  split
  ·rfl
  ·split
   ·rfl
   ·split
    ·rename_i e
     subst e
     exact aa h.box i
    ·rfl
 ·rw [h2]
  split
  ·rfl
  ·split
   ·rfl
   ·split
    ·rename_i e
     subst e
     exact ah h.box i
    ·rfl
theorem EmB.nx{s2:ES}{v:qV}{e:Ending}{w1:qW}(hD:EmD w0 M F1 pv W s2 v e w1)(h:EmB w0 M F pv w W F1 s o K):e= .returned v/\ ∃F2 sv lv bv B oa oc,(∀b i,w1.cell? (aB b i)=if b<w0.heap.size then w0.cell? (aB b i) else if b=M then (#[pv,.slice oa s2.out.length oc,sv,lv,iI s2.line,.map (some B),bv,iI s2.e]:Array qV)[i]? else if b=K then (#[iI o.kind,iI o.dst,iI o.dst2,iI o.a,iI o.b,iI o.c,.int .u64 o.n,iI o.op,iI o.size,iI o.order,iI o.tO,iI o.site,iI o.line]:Array qV)[i]? else cellW w1 ⟨b,i,none⟩)/\
  (∀b i,w1.frozen? (aB b i)=if b<w0.heap.size then w0.frozen? (aB b i) else if b=M then false else if b=K then false else frzW w1 ⟨b,i,none⟩)/\(w0.heap.size<=M/\M<w1.heap.size/\M<K/\K<w1.heap.size)/\Hid (EmB w0 M F pv w w1 F2 s2 o K):=by
 obtain ⟨F2,hM⟩:=EmB.next h hD
 obtain ⟨ov,sv,lv,bv,B,i',pi,oa,oc,rfl⟩:=hM.rules
 exact ⟨hD.1,F2,sv,lv,bv,B,oa,oc,i',pi,hM.bd,Zh hM⟩
theorem gy{g c:Nat}(hP:PlB w0 pv pl g c)(w:qW)(h:Em w0 M F pv w s)(hr:plR pl r):qC 214 #[pP M,iI r] w (Gives w (iI (pG pl r))):=by
 obtain ⟨ov,sv,lv,bv,B,i',pi,a,c,rfl⟩:=h.rules
 have j':=h.bd
 have hg:=hP.lt
 have zt:=hP.le
 obtain ⟨h1,h2,h3,h4⟩:=hr
 have hc:=hP.cell _ h2
 obtain rfl:=hP.v
 obtain ⟨n,rfl⟩: ∃n:Nat,r=n:=⟨r.toNat,by omega⟩
 simp only [Int.toNat_natCast] at h2 h3 h4 hc
 unfold pG
 simp only [Int.toNat_natCast]
 generalize pl.getD n 0=p at*
 clear h hP
 go_enter Tryz.func214,Tryz.ntmps214
 go_wp2_with fail
 go_ret
 exact Gives.mk rfl (zaa _ _)
theorem br(h:plR pl r):0<=pG pl r/\pG pl r<=100:=⟨h.2.2.1,h.2.2.2⟩
theorem EmB.fin{v:qV}(h:EmB w0 M F pv w W F1 s o K):EmD w0 M F pv w s v (.returned v) W:=h.a.fin
theorem rF{g c:Nat}(hP:PlB w0 pv pl g c)(w:qW)(h:Em w0 M F pv w s)(hr:plR pl r)(sp:Int):qC 142 #[pP M,iI r,iI sp] w (Gives w (iI (pG pl r))):=by
 have hp:=br hr
 have c1:=Zh (gy hP w h hr)
 generalize pG pl r=p at*
 clear h hP hr
 go_enter Tryz.func142,Tryz.ntmps142
 go_wp2_with (go_at_call 214;refine c1.out.mono ?_;rintro e w1 ⟨rfl,p,rfl⟩)
 go_ret
 exact Gives.mk rfl Zr
theorem jp{g c:Nat}(hP:PlB w0 pv pl g c)(w:qW)(h:Em w0 M F pv w s)(hr:plR pl r)(sp:Int):qC 139 #[pP M,iI r,iI sp] w (Gives w (iI (pG pl r))):=by
 have hp:=br hr
 have c1:=Zh (gy hP w h hr)
 generalize pG pl r=p at*
 clear h hP hr
 go_enter Tryz.func139,Tryz.ntmps139
 go_wp2_with (go_at_call 214;refine c1.out.mono ?_;rintro e w1 ⟨rfl,p,rfl⟩)
 go_ret
 exact Gives.mk rfl Zr
theorem l8{g c:Nat}(hP:PlB w0 pv pl g c)(w:qW)(h:Em w0 M F pv w s)(hr:plR pl r)(d:Int):qC 140 #[pP M,iI r,iI d] w (Gives w (.tuple #[])):=by
 have hp:=br hr
 have c1:=Zh (gy hP w h hr)
 generalize pG pl r=p at*
 clear h hP hr
 go_enter Tryz.func140,Tryz.ntmps140
 go_wp2_with (go_at_call 214;refine c1.out.mono ?_;rintro e w1 ⟨rfl,p,rfl⟩)
 go_end0
 exact Gives.mk rfl Zr
theorem cd(w:qW)(h:Em w0 M F pv w s)(i:Ins)(hf:EFin (eAdd i s)):qC 94 #[pP M,.agg (insC i).toArray] w (EmD w0 M F pv w (eAdd i s) (.tuple #[])):=by
 obtain ⟨ov,sv,lv,bv,B,i',pi,oa,oc,rfl⟩:=h.rules
 have j':=h.bd
 have HM:=Zh (EmA.begin h)
 clear h
 unfold insC
 go_enter Tryz.func94,Tryz.ntmps94
 go_wp2_with (go_at_call 149;refine (dZ _ (ZX:EmA _ _ _ _ w _ _ _).em 0 i hf).mono ?_;intro e w1 hD;obtain rfl:=hD.1;obtain ⟨F2,hM, -, -⟩:=EmA.next ZX hD;clear hD;(try clear i');(try clear pi);(try clear j');obtain ⟨ov,sv,lv,bv,B,i',pi,oa,oc,rfl⟩:=hM.em.rules;have j':=hM.em.bd;replace HM:=Zh hM;clear hM)
 go_end0
 exact Z0_
theorem yaa(w:qW)(h:Em w0 M F pv w s)(d n:Int)(hf:EFin (eMove d n s)):qC 215 #[pP M,iI d,iI n] w (EmD w0 M F pv w (eMove d n s) (.tuple #[])):=by
 obtain ⟨ov,sv,lv,bv,B,i',pi,oa,oc,rfl⟩:=h.rules
 have j':=h.bd
 have HM:=Zh (EmA.begin h)
 clear h
 go_enter Tryz.func215,Tryz.ntmps215
 go_wp2_with (go_at_call 94;refine (cd _ (ZX:EmA _ _ _ _ w _ _ _).em ⟨7,d,31,n,0,0,0⟩ hf).mono ?_;intro e w1 hD;obtain rfl:=hD.1;obtain ⟨F2,hM, -, -⟩:=EmA.next ZX hD;clear hD;(try clear i');(try clear pi);(try clear j');obtain ⟨ov,sv,lv,bv,B,i',pi,oa,oc,rfl⟩:=hM.em.rules;have j':=hM.em.bd;replace HM:=Zh hM;clear hM)
 go_end0
 exact Z0_
theorem ydd{g c:Nat}(hP:PlB w0 pv pl g c)(w:qW)(h:Em w0 M F pv w s)(hr:plR pl r)(n:Int)(hf:EFin (eMove (pG pl r) n s)):qC 141 #[pP M,iI r,iI n] w (EmD w0 M F pv w (eMove (pG pl r) n s) (.tuple #[])):=by
 have hp:=br hr
 obtain ⟨ov,sv,lv,bv,B,i',pi,oa,oc,rfl⟩:=h.rules
 have j':=h.bd
 have HM:=Zh (EmA.begin h)
 have c1:=Zh (fun (W:qW) F1 (s1:ES) (hM:Em w0 M F1 pv W s1)=>jp hP W hM hr 11)
 have c2:=Zh (fun (W:qW) F1 (s1:ES) (hM:Em w0 M F1 pv W s1) d=>l8 hP W hM hr d)
 generalize pG pl r=x at*
 clear h hP hr
 go_enter Tryz.func141,Tryz.ntmps141
 go_wp2_with (first|(go_at_call 139;refine (c1.out _ _ _ (ZX:EmA _ _ _ _ w _ _ _).em).mono ?_;rintro e w1 ⟨rfl,p,rfl⟩)|(go_at_call 215;refine (yaa _ (ZX:EmA _ _ _ _ w _ _ _).em x n hf).mono ?_;intro e w1 hD;obtain rfl:=hD.1;obtain ⟨F2,hM, -, -⟩:=EmA.next ZX hD;clear hD;(try clear i');(try clear pi);(try clear j');obtain ⟨ov,sv,lv,bv,B,i',pi,oa,oc,rfl⟩:=hM.em.rules;have j':=hM.em.bd;replace HM:=Zh hM;clear hM)|(go_at_call 140;refine (c2.out _ _ _ (ZX:EmA _ _ _ _ w _ _ _).em _).mono ?_;rintro e w1 ⟨rfl,p,rfl⟩))
 go_end0
 exact Z0_
def zCS{g c:Nat}(hP:PlB w0 pv pl g c):=Zh (fun (W:qW) F1 (s1:ES) (hM:Em w0 M F1 pv W s1) r (hr:plR pl r) sp=>rF hP W hM hr sp)
def zCT{g c:Nat}(hP:PlB w0 pv pl g c):=Zh (fun (W:qW) F1 (s1:ES) (hM:Em w0 M F1 pv W s1) r (hr:plR pl r) sp=>jp hP W hM hr sp)
def zCK{g c:Nat}(hP:PlB w0 pv pl g c):=Zh (fun (W:qW) F1 (s1:ES) (hM:Em w0 M F1 pv W s1) r (hr:plR pl r) d=>l8 hP W hM hr d)
def zCF{g c:Nat}(hP:PlB w0 pv pl g c):=Zh (fun (W:qW) F1 (s1:ES) (hM:Em w0 M F1 pv W s1) r (hr:plR pl r) n hf=>ydd hP W hM hr n hf)
end
def cstF(d:Int)(l:List Ins)(q:Int×Int):List Ins:=if q.2=0 then l else if l.isEmpty then [nI 1 (d:=d) (e:=q.1) (imm:=q.2)] else l++[nI 2 (d:=d) (e:=q.1) (imm:=q.2)]
def cstq(d:Int)(n q:Nat):List Ins:=((cstParts n).take q).foldl (cstF d) []
theorem nH(d:Int)(n:Nat){q:Nat}{x:Int×Int}(h:(cstParts n)[q]?=some x):cstq d n (q+1)=cstF d (cstq d n q) x:=by
 unfold cstq
 rw [zaz,h]
 simp [zaD]
theorem nK(d:Int)(n:Nat):cst d n=if (cstq d n 4).isEmpty then [nI 1 (d:=d)] else cstq d n 4:=rfl
theorem nJ(d:Int)(n q:Nat)(hq:q<=4):(cstq d n q).length<=q:=by
 induction q with
 |zero=>simp [cstq]
 |succ q ih=>
  have hl:q<(cstParts n).length:=by simp [cstParts];omega
  rw [nH d n (zaC hl)]
  have:=ih Za
  unfold cstF
  split
  ·omega
  ·split
   ·simp
   ·simp;omega
theorem fF{d:Int}{l:List Ins}{k:Int}{p:Nat}(h:((p:Int)==0)=true):cstF d l (k,p)=l:=by
 unfold cstF
 rw [if_pos (by simpa using h)]
theorem fE{d:Int}{l:List Ins}{k:Int}{p:Nat}(h:((p:Int)==0)=false)(hl:l.length=0):cstF d l (k,p)=[nI 1 (d:=d) (e:=k) (imm:=p)]:=by
 unfold cstF
 rw [if_neg (by simpa using h),if_pos (by simpa using hl)]
theorem iE{d:Int}{l:List Ins}{k:Int}{p:Nat}(h:((p:Int)==0)=false)(hl:l.length≠0):cstF d l (k,p)=l++[nI 2 (d:=d) (e:=k) (imm:=p)]:=by
 unfold cstF
 rw [if_neg (by simpa using h),if_neg (by simpa using hl)]
theorem lD{m:Nat}(h:((m:Int)==0)=true):m=0:=by
 have:=of_decide_eq_true h
 omega
theorem fq{m:Nat}(h:((m:Int)==0)=false):m≠0:=by
 have:=of_decide_eq_false h
 omega
theorem uG(m:Nat):m&&&65535=m%65536:=Nat.and_two_pow_sub_one_eq_mod m 16
theorem ff(m:Nat)(h:m<18446744073709551616):bits BinOp.and IntKind.u64 (m:Int) 65535=((m%65536:Nat):Int):=by
 have:=bits_and_u64_nat m 65535 h Zd
 rw [uG] at this
 exact this
theorem yfH(d:Int)(n:Nat)(hn:n<18446744073709551616)(w:qW):qC 138 #[iI d,.int .u64 n] w (fun e w'=> ∃g c,e= .returned (.slice (aA g) (cst d n).length c)/\Below w.heap.size w w'/\w'.ownsRow w.heap.size 83 7 (.slice (aA g) (cst d n).length c) (cst d n).length ((cst d n).flatMap insC)):=by
 obtain ⟨i0,xF,xx,xu,xq⟩:=zan ik
 obtain ⟨p0,e0,b0⟩: ∃p:Nat,p=n%65536/\p<65536:=⟨_,rfl,by omega⟩
 obtain ⟨p1,e1,b1⟩: ∃p:Nat,p=n/65536%65536/\p<65536:=⟨_,rfl,by omega⟩
 obtain ⟨p2,e2,b2⟩: ∃p:Nat,p=n/4294967296%65536/\p<65536:=⟨_,rfl,by omega⟩
 obtain ⟨p3,e3,b3⟩: ∃p:Nat,p=n/281474976710656%65536/\p<65536:=⟨_,rfl,by omega⟩
 have MM:bits BinOp.and IntKind.u64 (n:Int) 65535=(p0:Int):=by rw [e0];exact ff n hn
 have I1:bits BinOp.and IntKind.u64 ((n:Int)/65536) 65535=(p1:Int):=by rw [e1];exact ff (n/65536) Za
 have Rv:bits BinOp.and IntKind.u64 ((n:Int)/4294967296) 65535=(p2:Int):=by rw [e2];exact ff (n/4294967296) Za
 have Ru:bits BinOp.and IntKind.u64 ((n:Int)/281474976710656) 65535=(p3:Int):=by rw [e3];exact ff (n/281474976710656) Za
 have M2:cstParts n=[(0,(p0:Int)),(1,(p1:Int)),(2,(p2:Int)),(3,(p3:Int))]:=by unfold cstParts;rw [e0,e1,e2,e3]
 have hS:Hid (∀q x,(cstParts n)[q]?=some x->cstq d n (q+1)=cstF d (cstq d n q) x):=Zh (fun q x h=>nH d n h)
 rw [M2] at hS
 have h0:=Zh (hS.out 0 _ rfl)
 have h1:=Zh (hS.out 1 _ rfl)
 have h2:=Zh (hS.out 2 _ rfl)
 have h3:=Zh (hS.out 3 _ rfl)
 have Mh:=Zh (nK d n)
 clear M2 hS e0 e1 e2 e3
 go_enter Tryz.func138,Tryz.ntmps138
 go_wp2_with fail
 go_loopw [5,8] (fun v5 v8 wr=> ∃(q:Nat) (l:List Ins),v8=iI q/\q<=4/\l=cstq d n q/\Below w.heap.size w wr/\Hid (wr.ownsRow w.heap.size 83 7 v5 l.length (l.flatMap insC))) (fun v5 v8 _=>4-(intOf v8).toNat)
 case atStart=>exact ⟨0,[],rfl,by omega,rfl,zaa _ _,Zh (zaX _ _ _ _)⟩
 case round=>
  obtain ⟨q,l,rfl,hq,hl,hB,HO⟩:=hrel
  have HL:=Zh hl
  obtain ⟨a,c,rfl,IG,hc,Er,xk⟩:=aC HO.out
  have Fp:=nJ d n q hq
  rw [<-hl] at Fp
  have yg:=Zh (fun W (hW:Below wr.heap.size wr W)=>ax HO.out (fun g hg=>hW.block g (HO.out.lt g hg).2))
  have FR:=hB.size
  have HB:=Zh hB
  have FM:=Zh xk
  clear hB xk HO hl
  generalize hm:l.length=m at*
  have Dc:q=0\/q=1\/q=2\/q=3\/q=4:=by omega
  rcases Dc with rfl|rfl|rfl|rfl|rfl
  all_goals
   go_wp2_with (at_builtin;refine bO _ _ 75 83 i0 _ 7 56 Tryz.underlying75 xF xx xu xq rfl Zd rfl rfl w.heap.size _ m (l.flatMap insC) (yg.out _ Zo) _ _ _ (0,0) (by exact aH ZC) rfl rfl (by rfl) ZD Za Za ZR ?_;intro g cap w2 hown xb xk xE;have xU:=Zh hown;have zE:=Zh xb;clear hown xb xk)
  ·refine ⟨⟨1,l,rfl,by omega,?_,HB.out,Zh ?_⟩,by simp [intOf]⟩
   ·rw [h0.out,<-HL.out]
    exact (fF (by assumption)).symm
   ·rw [hm]
    exact yg.out _ (zaa _ _)
  ·refine ⟨⟨1,[nI 1 (d:=d) (e:=0) (imm:=p0)],rfl,by omega,?_,?_,Zh ?_⟩,by simp [intOf]⟩
   ·rw [h0.out,<-HL.out]
    exact (fE (by assumption) (hm.trans Z52_)).symm
   ·exact bX Z30_ (yg.out _ (ab (zaa _ _) _)) zE.out (zaq _)
   ·have e2:l=[]:=List.length_eq_zero_iff.1 (hm.trans Z52_)
    subst e2
    subst hm
    exact xU.out
  ·refine ⟨⟨2,l,rfl,by omega,?_,HB.out,Zh ?_⟩,by simp [intOf]⟩
   ·rw [h1.out,<-HL.out]
    exact (fF (by assumption)).symm
   ·rw [hm]
    exact yg.out _ (zaa _ _)
  ·refine ⟨⟨2,[nI 1 (d:=d) (e:=1) (imm:=p1)],rfl,by omega,?_,?_,Zh ?_⟩,by simp [intOf]⟩
   ·rw [h1.out,<-HL.out]
    exact (fE (by assumption) (hm.trans Z52_)).symm
   ·exact bX Z30_ (yg.out _ (ab (zaa _ _) _)) zE.out (zaq _)
   ·have e2:l=[]:=List.length_eq_zero_iff.1 (hm.trans Z52_)
    subst e2
    subst hm
    exact xU.out
  ·refine ⟨⟨2,l++[nI 2 (d:=d) (e:=1) (imm:=p1)],rfl,by omega,?_,?_,Zh ?_⟩,by simp [intOf]⟩
   ·rw [h1.out,<-HL.out]
    exact (iE (by assumption) (by rw [hm];exact fq (by assumption))).symm
   ·exact bX Z30_ (yg.out _ (ab (zaa _ _) _)) zE.out (zaq _)
   ·have e2:(l++[nI 2 (d:=d) (e:=1) (imm:=p1)]).flatMap insC=l.flatMap insC++insC (nI 2 (d:=d) (e:=1) (imm:=p1)):=by simp
    rw [e2,zaO,hm]
    exact xU.out
  ·refine ⟨⟨3,l,rfl,by omega,?_,HB.out,Zh ?_⟩,by simp [intOf]⟩
   ·rw [h2.out,<-HL.out]
    exact (fF (by assumption)).symm
   ·rw [hm]
    exact yg.out _ (zaa _ _)
  ·refine ⟨⟨3,[nI 1 (d:=d) (e:=2) (imm:=p2)],rfl,by omega,?_,?_,Zh ?_⟩,by simp [intOf]⟩
   ·rw [h2.out,<-HL.out]
    exact (fE (by assumption) (hm.trans Z52_)).symm
   ·exact bX Z30_ (yg.out _ (ab (zaa _ _) _)) zE.out (zaq _)
   ·have e2:l=[]:=List.length_eq_zero_iff.1 (hm.trans Z52_)
    subst e2
    subst hm
    exact xU.out
  ·refine ⟨⟨3,l++[nI 2 (d:=d) (e:=2) (imm:=p2)],rfl,by omega,?_,?_,Zh ?_⟩,by simp [intOf]⟩
   ·rw [h2.out,<-HL.out]
    exact (iE (by assumption) (by rw [hm];exact fq (by assumption))).symm
   ·exact bX Z30_ (yg.out _ (ab (zaa _ _) _)) zE.out (zaq _)
   ·have e2:(l++[nI 2 (d:=d) (e:=2) (imm:=p2)]).flatMap insC=l.flatMap insC++insC (nI 2 (d:=d) (e:=2) (imm:=p2)):=by simp
    rw [e2,zaO,hm]
    exact xU.out
  ·refine ⟨⟨4,l,rfl,by omega,?_,HB.out,Zh ?_⟩,by simp [intOf]⟩
   ·rw [h3.out,<-HL.out]
    exact (fF (by assumption)).symm
   ·rw [hm]
    exact yg.out _ (zaa _ _)
  ·refine ⟨⟨4,[nI 1 (d:=d) (e:=3) (imm:=p3)],rfl,by omega,?_,?_,Zh ?_⟩,by simp [intOf]⟩
   ·rw [h3.out,<-HL.out]
    exact (fE (by assumption) (hm.trans Z52_)).symm
   ·exact bX Z30_ (yg.out _ (ab (zaa _ _) _)) zE.out (zaq _)
   ·have e2:l=[]:=List.length_eq_zero_iff.1 (hm.trans Z52_)
    subst e2
    subst hm
    exact xU.out
  ·refine ⟨⟨4,l++[nI 2 (d:=d) (e:=3) (imm:=p3)],rfl,by omega,?_,?_,Zh ?_⟩,by simp [intOf]⟩
   ·rw [h3.out,<-HL.out]
    exact (iE (by assumption) (by rw [hm];exact fq (by assumption))).symm
   ·exact bX Z30_ (yg.out _ (ab (zaa _ _) _)) zE.out (zaq _)
   ·have e2:(l++[nI 2 (d:=d) (e:=3) (imm:=p3)]).flatMap insC=l.flatMap insC++insC (nI 2 (d:=d) (e:=3) (imm:=p3)):=by simp
    rw [e2,zaO,hm]
    exact xU.out
  ·go_ret
   have e1:m=0:=by first|omega|exact lD (by assumption)
   have e2:l=[]:=List.length_eq_zero_iff.1 (hm.trans e1)
   subst e2
   subst hm
   have e3:cst d n=[nI 1 (d:=d)]:=by rw [Mh.out,<-HL.out];rfl
   rw [e3]
   exact ⟨g,cap,rfl,bX Z30_ (yg.out _ (ab (zaa _ _) _)) zE.out (zaq _),xU.out⟩
  ·go_ret
   have e1:m≠0:=fq (by assumption)
   have e3:cst d n=l:=by rw [Mh.out,<-HL.out,if_neg];intro e;simp only [List.isEmpty_iff] at e;rw [e] at hm;simp at hm;omega
   rw [e3,hm]
   cases a with
   |none=>exact absurd (Er rfl).1 e1
   |some p=>
    rw [FM.out p rfl]
    have:=yg.out _ (zaa _ _)
    rw [FM.out p rfl] at this
    exact ⟨p.block,c,rfl,HB.out,this⟩
end Go.Proofs.YtjmfoeajhiimnaaGreatDoor
