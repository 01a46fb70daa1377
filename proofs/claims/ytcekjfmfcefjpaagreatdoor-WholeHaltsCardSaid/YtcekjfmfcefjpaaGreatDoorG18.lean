/- Walks. No condition. -/
import Derived.Laws.Bits64b
import Derived.Test.YtcekjfmfcefjpaaGreatDoorG17
set_option maxRecDepth 100000
set_option maxHeartbeats 0
set_option linter.all false
namespace Go.Proofs.YtcekjfmfcefjpaaGreatDoor
open Go.RowKit Go.Sort
theorem ib:(Tryz.prog.info? 85).map (fun i=>(i.zero,i.size,i.bytes))=some (some (.agg #[iI 0,iI 0,iI 0,iI 0,iI 0,iI 0,iI 0]),7,56):=by kernel_rfl
theorem ia:(Tryz.prog.info? 3).map (fun i=>(i.zero,i.size,i.bytes))=some (some (iI 0),1,8):=by kernel_rfl
section
variable{w0 W W':qW}{M:Nat}{F:Nat->Prop}{pv:qV}{s:ES}
theorem EmD.left{w:qW}{s':ES}{r:qV}{e:Ending}(hk:Kp (fun _=>False) w W)(h:EmD w0 M F pv W s' r e W'):EmD w0 M F pv w s' r e W':=by
 obtain ⟨he,F',h1,h2,h3⟩:=h
 have:=hk.size
 exact ⟨he,F',h1,(hk.mono (fun _ _ e=>e.elim)).trans h2,⟨fun k hk=>(h3.r k hk).imp id (fun e=>by omega)⟩⟩
theorem yds{s:ES}(i:Ins):(emR s).map (fun q=>if q.ix=1 then {q with n:=s.out.length+1,xs:=s.out.flatMap insC++insC i} else q)=emR {s with out:=s.out++[i]}:=by simp [emR]
theorem ydr{s:ES}(i:Int):(emR s).map (fun q=>if q.ix=2 then {q with n:=s.sites.length+1,xs:=s.sites.flatMap numC++numC i} else q)=emR {s with sites:=s.sites++[i]}:=by simp [emR]
theorem ydq{s:ES}(i:Int):(emR s).map (fun q=>if q.ix=3 then {q with n:=s.lines.length+1,xs:=s.lines.flatMap numC++numC i} else q)=emR {s with lines:=s.lines++[i]}:=by simp [emR]
theorem cV(w:qW)(h:Em w0 M F pv w s)(site:Int)(i:Ins)(hf:EFin (eAt site i s)):qC 172 #[pP M,iI site,.agg (insC i).toArray] w (EmD w0 M F pv w (eAt site i s) (.tuple #[])):=by
 obtain ⟨ov,sv,lv,bv,B,hx⟩:=h
 obtain ⟨i0,xz,xq,xm,xk⟩:=zan ib
 obtain ⟨i1,Br,AH,Bm,Ag⟩:=zan ia
 have Bh:=hx.bd
 have HM:=Zh hx
 have hw:=hx.fin
 have xR:EFin {s with out:=s.out++[i]}:=⟨by have:=hf.out;simpa [eAt] using this,hw.sites,hw.lines,hw.labels,hw.brs,hw.e,hw.line⟩
 have yE:EFin {s with out:=s.out++[i],sites:=s.sites++[site]}:=⟨by have:=hf.out;simpa [eAt] using this,by have:=hf.sites;simpa [eAt] using this,hw.lines,hw.labels,hw.brs,hw.e,hw.line⟩
 have Bt:=hf.out
 have hfs:=hf.sites
 have Bb:=hf.lines
 simp only [eAt,zaO,za2,zaV] at Bt hfs Bb
 have Cz:ov.ownBlock≠some w.heap.size:=fun e=>by have:=((hx.ob.own ⟨1,85,7,s.out.length,s.out.flatMap insC⟩ (by simp [emR])).lt _ e).2;omega
 clear hx hw
 unfold insC
 go_enter Tryz.func172,Tryz.ntmps172
 go_wp2_with fail
 refine aT (R:=fun W=>EmX w0 M F pv ov sv lv bv B W s/\W.heap[w.heap.size]?=some (.cells (insC i).toArray 85 (0,0))/\Kp (fun _=>False) w W) ⟨HM.out.below (ab (zaa _ _) _),zab _ _,Kp.al _ _⟩ ?_
 clear HM
 rintro W ⟨hM,hK,y7⟩
 have yG:=hM.ob.own ⟨1,85,7,s.out.length,s.out.flatMap insC⟩ (by simp [emR])
 have q1: ∀j,W.cell? (aB M j)=(#[pv,ov,sv,lv,iI s.line,.map (some B),bv,iI s.e]:Array qV)[j]?:=aa hM.ob.out
 have qf:=ai hM.ob.out
 have qk: ∀j,W.cell? (aB w.heap.size j)=(#[iI i.op,iI i.d,iI i.n,iI i.m,iI i.e,iI i.sz,iI i.imm]:Array qV)[j]?:=aa hK
 have j':=hM.bd
 have xW:=ac hK
 have HW:=Zh hM
 have xu:=Zh yG
 have yI:=Zh y7
 clear hM hK yG y7
 have hA: ∀j,W.drew.cell? (aB w.heap.size j)=(#[iI i.op,iI i.d,iI i.n,iI i.m,iI i.e,iI i.sz,iI i.imm]:Array qV)[j]?:=qk
 have hB:W.drew.cell? (aB M 1)=some ov:=q1 1
 refine ae (fun W=> ∀j,W.cell? (aB w.heap.size j)=(#[iI i.op,iI i.d,iI i.n,iI i.m,iI i.e,iI i.sz,iI i.imm]:Array qV)[j]?) (fun W=>W.cell? (aB M 1)=some ov) 10 rfl ?_
 refine Zp 0 rfl (h:=Zp 1 rfl (h:=Zp 2 rfl (h:=Zp 3 rfl (h:=Zl 4 [7,10] rfl (h:=Zt 5 rfl (h:=?_))))));try simp only [Zq]
 refine Zs 6 rfl fun K hK=>?_
 go_simp
 refine hK _ _ ⟨fun j=>(an xW).trans (qk j),fun _=>(an j'.2.1).trans (q1 1)⟩ ?_
 refine Zs 7 rfl fun K hK=>?_
 refine a8 (.tmp 10) (.tmp 12) 76 85 i0 _ 7 56 Tryz.underlying76 xz xq xm xk rfl Zg rfl rfl (M+1) ov s.out.length (s.out.flatMap insC) (aw xu.out (fun g hg=>zac _ _ (xu.out.lt g hg).2)) W.heap.size #[iI i.op,iI i.d,iI i.n,iI i.m,iI i.e,iI i.sz,iI i.imm] 85 (0,0) (zab _ _) ZB ZB rfl ZL Za Za Zc ?_
 intro g2 cap2 w2 hown wW xb xy
 have hD:=Zh (HW.out.app ⟨1,85,7,s.out.length,s.out.flatMap insC⟩ (by simp [emR]) (new:=insC i) ((Kp.dr W).trans (Kp.al _ _)) wW hown xb (s':={s with out:=s.out++[i]}) rfl (yds i) rfl xR)
 have wT:Kp (fun k=>ov.ownBlock=some k) (W.drew.alloc _) w2:=(Kp.of_grown wW).mono (fun k _ e=>e.symm)
 have kx: ∀j,w2.cell? (aB w.heap.size j)=(#[iI i.op,iI i.d,iI i.n,iI i.m,iI i.e,iI i.sz,iI i.imm]:Array qV)[j]?:=fun j=>((wT.cell Zc (fun e=>Cz e)).trans (an xW)).trans (qk j)
 have kc: ∀j,w2.cell? (aB M j)=(#[pv,ov,sv,lv,iI s.line,.map (some B),bv,iI s.e]:Array qV)[j]?:=fun j=>((wT.cell Zc (fun e=>by have:=(xu.out.lt _ e).1;omega)).trans (an j'.2.1)).trans (q1 j)
 have kf: ∀j,w2.frozen? (aB M j)=false:=ai ((wT.block M Zc (fun e=>by have:=(xu.out.lt _ e).1;omega)).trans ((zac _ _ j'.2.1).trans HW.out.ob.out))
 clear hown wW xb wT
 refine hK _ _ ⟨kx,fun _=>kc 1⟩ ?_
 clear hK K hA hB
 have hA: ∀j,w2.cell? (aB w.heap.size j)=(#[iI i.op,iI i.d,iI i.n,iI i.m,iI i.e,iI i.sz,iI i.imm]:Array qV)[j]?:=kx
 have hB:w2.cell? (aB M 1)=some ov:=kc 1
 refine Zp 8 rfl (h:=Zp 9 rfl (h:=?_));try simp only [Zq]
 refine Zs 10 rfl fun K hK=>?_
 go_simp
 refine hK _ _ ⟨?_,fun hh=>Bool.noConfusion (hh.symm.trans (show _=true by kernel_rfl))⟩ ?_
 ·intro j
  exact (zaH _ _ _ _ (fun e=>by have:=congrArg Addr.block e;simp only at this;omega)).trans (kx j)
 refine af Zb ?_ _
 obtain ⟨F1,CY,y8,yh⟩:=hD.out
 have Bw:=Zh (EmA.mk (F:=F) (w:=w) ⟨_,_,_,_,_,CY⟩ ((yI.out.mono (fun _ _ e=>e.elim)).trans y8) ⟨fun k hk=>(yh.r k hk).imp id (fun e=>by have:=yI.out.size;omega)⟩)
 clear hD CY y8 yh kx kc kf hA hB hK K HW xu yI q1 qf qk j' Bh xW xy Cz
 generalize (w2.setCell ⟨M,1,none⟩ (.slice (aA g2) (s.out.length+1) cap2))=W1 at Bw ⊢
 obtain ⟨ov1,sv1,lv1,bv1,B1,hx⟩:=Bw.out.em
 have yG:=hx.ob.own ⟨2,3,1,s.sites.length,s.sites.flatMap numC⟩ (by simp [emR])
 have q1: ∀j,W1.cell? (aB M j)=(#[pv,ov1,sv1,lv1,iI s.line,.map (some B1),bv1,iI s.e]:Array qV)[j]?:=aa hx.ob.out
 have qf:=ai hx.ob.out
 have j':=hx.bd
 have HW:=Zh hx
 have xu:=Zh yG
 clear hx yG
 go_wp2_with (at_builtin;refine bL (.tmp 20) (.tmp 22) 55 3 i1 _ 1 8 Tryz.underlying55 Br AH Bm Ag rfl Zg rfl rfl (M+1) sv1 s.sites.length (s.sites.flatMap numC) (aw xu.out (fun g hg=>zac _ _ (xu.out.lt g hg).2)) W1.heap.size #[iI site] 3 (0,0) (zab _ _) rfl rfl rfl ZL Za Za Zc ?_;intro g3 cap3 w3 hown wW xb Eu;have hD:=Zh (HW.out.app ⟨2,3,1,s.sites.length,s.sites.flatMap numC⟩ (by simp [emR]) (new:=numC site) (Kp.al W1 _) wW hown xb (s':={s with out:=s.out++[i],sites:=s.sites++[site]}) rfl (ydr site) rfl yE);have wT:Kp (fun k=>sv1.ownBlock=some k) (W1.alloc _) w3:=(Kp.of_grown wW).mono (fun k _ e=>e.symm);have kc: ∀j,w3.cell? (aB M j)=(#[pv,ov1,sv1,lv1,iI s.line,.map (some B1),bv1,iI s.e]:Array qV)[j]?:=fun j=>((wT.cell Zc (fun e=>by have:=(xu.out.lt _ e).1;omega)).trans (by rw [aR,if_pos j'.2.1])).trans (q1 j);have kf: ∀j,w3.frozen? (aB M j)=false:=ai ((wT.block M Zc (fun e=>by have:=(xu.out.lt _ e).1;omega)).trans ((zac _ _ j'.2.1).trans HW.out.ob.out));clear hown wW xb wT)
 obtain ⟨F2,zw,Gf,yx⟩:=hD.out
 have ya:=Zh (EmA.mk (F:=F) (w:=w) ⟨_,_,_,_,_,zw⟩ (Bw.out.kp.next Gf (fun k hk e=>(Bw.out.rel.r k e).elim id (fun e=>by omega))) (Bw.out.rel.trans yx Bw.out.kp.size))
 clear hD zw Gf yx kc kf HW xu q1 qf j' Eu Bw
 generalize (w3.setCell ⟨M,2,none⟩ (.slice (aA g3) (s.sites.length+1) cap3))=W2 at ya ⊢
 obtain ⟨ov2,sv2,lv2,bv2,B2,hx⟩:=ya.out.em
 have yG:=hx.ob.own ⟨3,3,1,s.lines.length,s.lines.flatMap numC⟩ (by simp [emR])
 have q1: ∀j,W2.cell? (aB M j)=(#[pv,ov2,sv2,lv2,iI s.line,.map (some B2),bv2,iI s.e]:Array qV)[j]?:=aa hx.ob.out
 have qf:=ai hx.ob.out
 have j':=hx.bd
 have HW:=Zh hx
 have xu:=Zh yG
 clear hx yG
 have hA:W2.drew.cell? (aB M 4)=some (iI s.line):=q1 4
 have hB:W2.drew.cell? (aB M 3)=some lv2:=q1 3
 refine ae (fun W=>W.cell? (aB M 4)=some (iI s.line)) (fun W=>W.cell? (aB M 3)=some lv2) 13 rfl ?_
 refine Zp 0 rfl (h:=Zp 1 rfl (h:=Zp 2 rfl (h:=Zp 3 rfl (h:=Zl 4 [10,13] rfl (h:=Zp 5 rfl (h:=Zp 6 rfl (h:=Zp 7 rfl (h:=Zt 8 rfl (h:=?_)))))))));try simp only [Zq]
 refine Zs 9 rfl fun K hK=>?_
 go_simp
 refine hK _ _ ⟨(an j'.2.1).trans (q1 4),fun _=>(an j'.2.1).trans (q1 3)⟩ ?_
 refine Zs 10 rfl fun K hK=>?_
 refine a8 (.tmp 30) (.tmp 35) 55 3 i1 _ 1 8 Tryz.underlying55 Br AH Bm Ag rfl Zg rfl rfl (M+1) lv2 s.lines.length (s.lines.flatMap numC) (aw xu.out (fun g hg=>zac _ _ (xu.out.lt g hg).2)) W2.heap.size #[iI s.line] 3 (0,0) (zab _ _) ZB ZB rfl ZL Za Za Zc ?_
 intro g4 cap4 w4 hown wW xb JC
 have hD:=Zh (HW.out.app ⟨3,3,1,s.lines.length,s.lines.flatMap numC⟩ (by simp [emR]) (new:=numC s.line) ((Kp.dr W2).trans (Kp.al _ _)) wW hown xb (s':=eAt site i s) rfl (ydq s.line) rfl hf)
 have wT:Kp (fun k=>lv2.ownBlock=some k) (W2.drew.alloc _) w4:=(Kp.of_grown wW).mono (fun k _ e=>e.symm)
 have kc: ∀j,w4.cell? (aB M j)=(#[pv,ov2,sv2,lv2,iI s.line,.map (some B2),bv2,iI s.e]:Array qV)[j]?:=fun j=>((wT.cell Zc (fun e=>by have:=(xu.out.lt _ e).1;omega)).trans (an j'.2.1)).trans (q1 j)
 have kf: ∀j,w4.frozen? (aB M j)=false:=ai ((wT.block M Zc (fun e=>by have:=(xu.out.lt _ e).1;omega)).trans ((zac _ _ j'.2.1).trans HW.out.ob.out))
 clear hown wW xb wT
 refine hK _ _ ⟨kc 4,fun _=>kc 3⟩ ?_
 clear hK K hA hB
 have hA:w4.cell? (aB M 4)=some (iI s.line):=kc 4
 have hB:w4.cell? (aB M 3)=some lv2:=kc 3
 refine Zp 11 rfl (h:=Zp 12 rfl (h:=?_));try simp only [Zq]
 refine Zs 13 rfl fun K hK=>?_
 go_simp
 refine hK _ _ ⟨(zaH _ _ _ _ (fun e=>by have:=congrArg Addr.off e;simp at this)).trans (kc 4),fun hh=>Bool.noConfusion (hh.symm.trans (show _=true by kernel_rfl))⟩ ?_
 refine af Zb ?_ _
 go_wp2_with fail
 go_end0
 obtain ⟨F3,Kd,JM,DL⟩:=hD.out
 exact ⟨rfl,F3,⟨_,_,_,_,_,Kd⟩,ya.out.kp.next JM (fun k hk e=>(ya.out.rel.r k e).elim id (fun e=>by omega)),ya.out.rel.trans DL ya.out.kp.size⟩
end
structure EmB(w0:qW)(M:Nat)(F:Nat->Prop)(pv:qV)(w W:qW)(F1:Nat->Prop)(s:ES)(o:OpD)(K:Nat):Prop where
 a:EmA w0 M F pv w W F1 s
 box:W.heap[K]?=some (.cells (opC o).toArray 250 (0,0))
 no: ¬F1 K
 le:w.heap.size<=K
 lt:M<K
structure PlB(w0:qW)(pv:qV)(pl:List Int)(g c:Nat):Prop where
 v:pv= .slice (aA g) pl.length c
 lt:g<w0.heap.size
 cell: ∀i,i<pl.length->w0.cell? (aB g i)=some (iI (pl.getD i 0))
 le:pl.length<=20000
def plR(pl:List Int)(r:Int):Prop:=0<=r/\r.toNat<pl.length/\0<=pl.getD r.toNat 0/\pl.getD r.toNat 0<=100
def pG(pl:List Int)(r:Int):Int:=pl.getD r.toNat 0
section
variable{w0 W W' w:qW}{M:Nat}{F F1:Nat->Prop}{pv:qV}{s:ES}{o:OpD}{K:Nat}{pl:List Int}{r:Int}
theorem bn(h:plR pl r)(sp:Int)(s:ES):eSource pl r sp s=(pG pl r,s):=by
 obtain ⟨h1,h2,h3, -⟩:=h
 unfold eSource ePlace
 simp only [if_neg (show¬(r<0\/pl.length<=r.toNat) by omega),if_pos h3,pG]
theorem eE(h:plR pl r)(sp:Int)(s:ES):eTarget pl r sp s=(pG pl r,s):=by
 obtain ⟨h1,h2,h3, -⟩:=h
 unfold eTarget ePlace
 simp only [if_neg (show¬(r<0\/pl.length<=r.toNat) by omega),if_pos h3,pG]
theorem eF(h:plR pl r)(d:Int)(s:ES):eKeep pl r d s=s:=by
 obtain ⟨h1,h2,h3, -⟩:=h
 unfold eKeep ePlace
 simp only [if_neg (show¬(r<0\/pl.length<=r.toNat) by omega),if_neg (show¬pl.getD r.toNat 0<0 by omega)]
theorem fA(h:plR pl r)(n:Int)(s:ES):eFinish pl r n s=eMove (pG pl r) n s:=by
 unfold eFinish
 simp only [eE h,eF h]
theorem EmB.begin(h:Em w0 M F pv w s)(o:OpD):EmB w0 M F pv w (w.alloc (.cells (opC o).toArray 250)) F s o w.heap.size:=
 ⟨(EmA.begin h).alloc _,zab _ _,fun e=>by have:=(h.inb e).2;omega,zaq _,h.bd.2⟩
theorem EmB.alloc(h:EmB w0 M F pv w W F1 s o K)(ob:Obj):EmB w0 M F pv w (W.alloc ob) F1 s o K:=
 ⟨h.a.alloc ob,(zac _ _ (ac h.box)).trans h.box,h.no,h.le,h.lt⟩
theorem EmB.drew(h:EmB w0 M F pv w W F1 s o K):EmB w0 M F pv w W.drew F1 s o K:=⟨h.a.drew,h.box,h.no,h.le,h.lt⟩
theorem EmB.mo(h:EmB w0 M F pv w W F1 s o K)(p:Regrown):EmB w0 M F pv w (more W p) F1 s o K:=
 ⟨h.a.mo p,((Kp.mo (X:=fun _=>False) W p).block K (ac h.box) id).trans h.box,h.no,h.le,h.lt⟩
theorem EmB.next{s2:ES}{v:qV}{e:Ending}{w1:qW}(h:EmB w0 M F pv w W F1 s o K)(hD:EmD w0 M F1 pv W s2 v e w1): ∃F2,EmB w0 M F pv w w1 F2 s2 o K:=by
 obtain ⟨F2,h1,h2,h3⟩:=h.a.next hD
 have hl:=ac h.box
 exact ⟨F2,h1,(h2.block K hl (by rintro (e|e);exact h.no e;simp at e)).trans h.box,fun e=>(h3.r K e).elim h.no (fun e=>by omega),h.le,h.lt⟩
theorem EmB.bd(h:EmB w0 M F pv w W F1 s o K):w0.heap.size<=M/\M<W.heap.size/\M<K/\K<W.heap.size:=⟨h.a.em.bd.1,h.a.em.bd.2,h.lt,ac h.box⟩
theorem EmB.rules(h:EmB w0 M F pv w W F1 s o K): ∃ov sv lv bv B,(∀b i,W.cell? (aB b i)=if b<w0.heap.size then w0.cell? (aB b i) else if b=M then (#[pv,ov,sv,lv,iI s.line,.map (some B),bv,iI s.e]:Array qV)[i]? else if b=K then (#[iI o.kind,iI o.dst,iI o.dst2,iI o.a,iI o.b,iI o.c,.int .u64 o.n,iI o.op,iI o.size,iI o.order,iI o.to,iI o.site,iI o.line]:Array qV)[i]? else cellW W ⟨b,i,none⟩)/\
  (∀b i,W.frozen? (aB b i)=if b<w0.heap.size then w0.frozen? (aB b i) else if b=M then false else if b=K then false else frzW W ⟨b,i,none⟩)/\ ∃a c,ov= .slice a s.out.length c:=by
 obtain ⟨ov,sv,lv,bv,B,h1,h2,h3⟩:=h.a.em.rules
 have hl:=h.lt
 have hb:=h.bd
 refine ⟨ov,sv,lv,bv,B,fun b i=>?_,fun b i=>?_,h3⟩
 ·rw [h1]
  split
  ·rfl
  ·split
   ·rfl
   ·split
    ·rename_i e
     subst e
     exact aa h.box i
    ·rfl
 ·rw [h2]
  split
  ·rfl
  ·split
   ·rfl
   ·split
    ·rename_i e
     subst e
     exact ai h.box i
    ·rfl
theorem EmB.nx{s2:ES}{v:qV}{e:Ending}{w1:qW}(hD:EmD w0 M F1 pv W s2 v e w1)(h:EmB w0 M F pv w W F1 s o K):e= .returned v/\ ∃F2 sv lv bv B oa oc,(∀b i,w1.cell? (aB b i)=if b<w0.heap.size then w0.cell? (aB b i) else if b=M then (#[pv,.slice oa s2.out.length oc,sv,lv,iI s2.line,.map (some B),bv,iI s2.e]:Array qV)[i]? else if b=K then (#[iI o.kind,iI o.dst,iI o.dst2,iI o.a,iI o.b,iI o.c,.int .u64 o.n,iI o.op,iI o.size,iI o.order,iI o.to,iI o.site,iI o.line]:Array qV)[i]? else cellW w1 ⟨b,i,none⟩)/\
  (∀b i,w1.frozen? (aB b i)=if b<w0.heap.size then w0.frozen? (aB b i) else if b=M then false else if b=K then false else frzW w1 ⟨b,i,none⟩)/\(w0.heap.size<=M/\M<w1.heap.size/\M<K/\K<w1.heap.size)/\Hid (EmB w0 M F pv w w1 F2 s2 o K):=by
 obtain ⟨F2,hM⟩:=EmB.next h hD
 obtain ⟨ov,sv,lv,bv,B,i',pi,oa,oc,rfl⟩:=hM.rules
 exact ⟨hD.1,F2,sv,lv,bv,B,oa,oc,i',pi,hM.bd,Zh hM⟩
theorem gk{g c:Nat}(hP:PlB w0 pv pl g c)(w:qW)(h:Em w0 M F pv w s)(hr:plR pl r):qC 221 #[pP M,iI r] w (Gives w (iI (pG pl r))):=by
 obtain ⟨ov,sv,lv,bv,B,i',pi,a,c,rfl⟩:=h.rules
 have j':=h.bd
 have hg:=hP.lt
 have yZ:=hP.le
 obtain ⟨h1,h2,h3,h4⟩:=hr
 have hc:=hP.cell _ h2
 obtain rfl:=hP.v
 obtain ⟨n,rfl⟩: ∃n:Nat,r=n:=⟨r.toNat,by omega⟩
 simp only [Int.toNat_natCast] at h2 h3 h4 hc
 unfold pG
 simp only [Int.toNat_natCast]
 generalize pl.getD n 0=p at*
 clear h hP
 go_enter Tryz.func221,Tryz.ntmps221
 go_wp2_with fail
 go_ret
 exact Gives.mk rfl (zaa _ _)
theorem bt(h:plR pl r):0<=pG pl r/\pG pl r<=100:=⟨h.2.2.1,h.2.2.2⟩
theorem EmB.fin{v:qV}(h:EmB w0 M F pv w W F1 s o K):EmD w0 M F pv w s v (.returned v) W:=h.a.fin
theorem q8{g c:Nat}(hP:PlB w0 pv pl g c)(w:qW)(h:Em w0 M F pv w s)(hr:plR pl r)(sp:Int):qC 165 #[pP M,iI r,iI sp] w (Gives w (iI (pG pl r))):=by
 have hp:=bt hr
 have c1:=Zh (gk hP w h hr)
 generalize pG pl r=p at*
 clear h hP hr
 go_enter Tryz.func165,Tryz.ntmps165
 go_wp2_with (go_at_call 221;refine c1.out.mono ?_;rintro e w1 ⟨rfl,p,rfl⟩)
 go_ret
 exact Gives.mk rfl Zv
theorem jh{g c:Nat}(hP:PlB w0 pv pl g c)(w:qW)(h:Em w0 M F pv w s)(hr:plR pl r)(sp:Int):qC 162 #[pP M,iI r,iI sp] w (Gives w (iI (pG pl r))):=by
 have hp:=bt hr
 have c1:=Zh (gk hP w h hr)
 generalize pG pl r=p at*
 clear h hP hr
 go_enter Tryz.func162,Tryz.ntmps162
 go_wp2_with (go_at_call 221;refine c1.out.mono ?_;rintro e w1 ⟨rfl,p,rfl⟩)
 go_ret
 exact Gives.mk rfl Zv
theorem lW{g c:Nat}(hP:PlB w0 pv pl g c)(w:qW)(h:Em w0 M F pv w s)(hr:plR pl r)(d:Int):qC 163 #[pP M,iI r,iI d] w (Gives w (.tuple #[])):=by
 have hp:=bt hr
 have c1:=Zh (gk hP w h hr)
 generalize pG pl r=p at*
 clear h hP hr
 go_enter Tryz.func163,Tryz.ntmps163
 go_wp2_with (go_at_call 221;refine c1.out.mono ?_;rintro e w1 ⟨rfl,p,rfl⟩)
 go_end0
 exact Gives.mk rfl Zv
theorem ch(w:qW)(h:Em w0 M F pv w s)(i:Ins)(hf:EFin (eAdd i s)):qC 122 #[pP M,.agg (insC i).toArray] w (EmD w0 M F pv w (eAdd i s) (.tuple #[])):=by
 obtain ⟨ov,sv,lv,bv,B,i',pi,oa,oc,rfl⟩:=h.rules
 have j':=h.bd
 have HM:=Zh (EmA.begin h)
 clear h
 unfold insC
 go_enter Tryz.func122,Tryz.ntmps122
 go_wp2_with (go_at_call 172;refine (cV _ (ZY:EmA _ _ _ _ w _ _ _).em 0 i hf).mono ?_;intro e w1 hD;obtain rfl:=hD.1;obtain ⟨F2,hM, -, -⟩:=EmA.next ZY hD;clear hD;(try clear i');(try clear pi);(try clear j');obtain ⟨ov,sv,lv,bv,B,i',pi,oa,oc,rfl⟩:=hM.em.rules;have j':=hM.em.bd;replace HM:=Zh hM;clear hM)
 go_end0
 exact Z0_
theorem vZ(w:qW)(h:Em w0 M F pv w s)(d n:Int)(hf:EFin (eMove d n s)):qC 222 #[pP M,iI d,iI n] w (EmD w0 M F pv w (eMove d n s) (.tuple #[])):=by
 obtain ⟨ov,sv,lv,bv,B,i',pi,oa,oc,rfl⟩:=h.rules
 have j':=h.bd
 have HM:=Zh (EmA.begin h)
 clear h
 go_enter Tryz.func222,Tryz.ntmps222
 go_wp2_with (go_at_call 122;refine (ch _ (ZY:EmA _ _ _ _ w _ _ _).em ⟨7,d,31,n,0,0,0⟩ hf).mono ?_;intro e w1 hD;obtain rfl:=hD.1;obtain ⟨F2,hM, -, -⟩:=EmA.next ZY hD;clear hD;(try clear i');(try clear pi);(try clear j');obtain ⟨ov,sv,lv,bv,B,i',pi,oa,oc,rfl⟩:=hM.em.rules;have j':=hM.em.bd;replace HM:=Zh hM;clear hM)
 go_end0
 exact Z0_
theorem yc5{g c:Nat}(hP:PlB w0 pv pl g c)(w:qW)(h:Em w0 M F pv w s)(hr:plR pl r)(n:Int)(hf:EFin (eMove (pG pl r) n s)):qC 164 #[pP M,iI r,iI n] w (EmD w0 M F pv w (eMove (pG pl r) n s) (.tuple #[])):=by
 have hp:=bt hr
 obtain ⟨ov,sv,lv,bv,B,i',pi,oa,oc,rfl⟩:=h.rules
 have j':=h.bd
 have HM:=Zh (EmA.begin h)
 have c1:=Zh (fun (W:qW) F1 (s1:ES) (hM:Em w0 M F1 pv W s1)=>jh hP W hM hr 11)
 have c2:=Zh (fun (W:qW) F1 (s1:ES) (hM:Em w0 M F1 pv W s1) d=>lW hP W hM hr d)
 generalize pG pl r=x at*
 clear h hP hr
 go_enter Tryz.func164,Tryz.ntmps164
 go_wp2_with (first|(go_at_call 162;refine (c1.out _ _ _ (ZY:EmA _ _ _ _ w _ _ _).em).mono ?_;rintro e w1 ⟨rfl,p,rfl⟩)|(go_at_call 222;refine (vZ _ (ZY:EmA _ _ _ _ w _ _ _).em x n hf).mono ?_;intro e w1 hD;obtain rfl:=hD.1;obtain ⟨F2,hM, -, -⟩:=EmA.next ZY hD;clear hD;(try clear i');(try clear pi);(try clear j');obtain ⟨ov,sv,lv,bv,B,i',pi,oa,oc,rfl⟩:=hM.em.rules;have j':=hM.em.bd;replace HM:=Zh hM;clear hM)|(go_at_call 163;refine (c2.out _ _ _ (ZY:EmA _ _ _ _ w _ _ _).em _).mono ?_;rintro e w1 ⟨rfl,p,rfl⟩))
 go_end0
 exact Z0_
def zCS{g c:Nat}(hP:PlB w0 pv pl g c):=Zh (fun (W:qW) F1 (s1:ES) (hM:Em w0 M F1 pv W s1) r (hr:plR pl r) sp=>q8 hP W hM hr sp)
def zCT{g c:Nat}(hP:PlB w0 pv pl g c):=Zh (fun (W:qW) F1 (s1:ES) (hM:Em w0 M F1 pv W s1) r (hr:plR pl r) sp=>jh hP W hM hr sp)
def zCK{g c:Nat}(hP:PlB w0 pv pl g c):=Zh (fun (W:qW) F1 (s1:ES) (hM:Em w0 M F1 pv W s1) r (hr:plR pl r) d=>lW hP W hM hr d)
def zCF{g c:Nat}(hP:PlB w0 pv pl g c):=Zh (fun (W:qW) F1 (s1:ES) (hM:Em w0 M F1 pv W s1) r (hr:plR pl r) n hf=>yc5 hP W hM hr n hf)
end
def cstF(d:Int)(l:List Ins)(q:Int×Int):List Ins:=if q.2=0 then l else if l.isEmpty then [nI 1 (d:=d) (e:=q.1) (imm:=q.2)] else l++[nI 2 (d:=d) (e:=q.1) (imm:=q.2)]
def cstq(d:Int)(n q:Nat):List Ins:=((cstParts n).take q).foldl (cstF d) []
theorem nt(d:Int)(n:Nat){q:Nat}{x:Int×Int}(h:(cstParts n)[q]?=some x):cstq d n (q+1)=cstF d (cstq d n q) x:=by
 unfold cstq
 rw [zaz,h]
 simp [zaD]
theorem nv(d:Int)(n:Nat):cst d n=if (cstq d n 4).isEmpty then [nI 1 (d:=d)] else cstq d n 4:=rfl
theorem nu(d:Int)(n q:Nat)(hq:q<=4):(cstq d n q).length<=q:=by
 induction q with
 |zero=>simp [cstq]
 |succ q ih=>
  have hl:q<(cstParts n).length:=by simp [cstParts];omega
  rw [nt d n (zaC hl)]
  have:=ih Za
  unfold cstF
  split
  ·omega
  ·split
   ·simp
   ·simp;omega
theorem fD{d:Int}{l:List Ins}{k:Int}{p:Nat}(h:((p:Int)==0)=true):cstF d l (k,p)=l:=by
 unfold cstF
 rw [if_pos (by simpa using h)]
theorem fC{d:Int}{l:List Ins}{k:Int}{p:Nat}(h:((p:Int)==0)=false)(hl:l.length=0):cstF d l (k,p)=[nI 1 (d:=d) (e:=k) (imm:=p)]:=by
 unfold cstF
 rw [if_neg (by simpa using h),if_pos (by simpa using hl)]
theorem iA{d:Int}{l:List Ins}{k:Int}{p:Nat}(h:((p:Int)==0)=false)(hl:l.length≠0):cstF d l (k,p)=l++[nI 2 (d:=d) (e:=k) (imm:=p)]:=by
 unfold cstF
 rw [if_neg (by simpa using h),if_neg (by simpa using hl)]
theorem lu{m:Nat}(h:((m:Int)==0)=true):m=0:=by
 have:=of_decide_eq_true h
 omega
theorem fh{m:Nat}(h:((m:Int)==0)=false):m≠0:=by
 have:=of_decide_eq_false h
 omega
theorem tY(m:Nat):m&&&65535=m%65536:=Nat.and_two_pow_sub_one_eq_mod m 16
theorem eW(m:Nat)(h:m<18446744073709551616):bits BinOp.and IntKind.u64 (m:Int) 65535=((m%65536:Nat):Int):=by
 have:=bits_and_u64_nat m 65535 h Zg
 rw [tY] at this
 exact this
theorem yfp(d:Int)(n:Nat)(hn:n<18446744073709551616)(w:qW):qC 161 #[iI d,.int .u64 n] w (fun e w'=> ∃g c,e= .returned (.slice (aA g) (cst d n).length c)/\Below w.heap.size w w'/\w'.ownsRow w.heap.size 85 7 (.slice (aA g) (cst d n).length c) (cst d n).length ((cst d n).flatMap insC)):=by
 obtain ⟨i0,xz,xq,xm,xk⟩:=zan ib
 obtain ⟨p0,e0,b0⟩: ∃p:Nat,p=n%65536/\p<65536:=⟨_,rfl,by omega⟩
 obtain ⟨p1,e1,b1⟩: ∃p:Nat,p=n/65536%65536/\p<65536:=⟨_,rfl,by omega⟩
 obtain ⟨p2,e2,b2⟩: ∃p:Nat,p=n/4294967296%65536/\p<65536:=⟨_,rfl,by omega⟩
 obtain ⟨p3,e3,b3⟩: ∃p:Nat,p=n/281474976710656%65536/\p<65536:=⟨_,rfl,by omega⟩
 have Mo:bits BinOp.and IntKind.u64 (n:Int) 65535=(p0:Int):=by rw [e0];exact eW n hn
 have ID:bits BinOp.and IntKind.u64 ((n:Int)/65536) 65535=(p1:Int):=by rw [e1];exact eW (n/65536) Za
 have hP2:bits BinOp.and IntKind.u64 ((n:Int)/4294967296) 65535=(p2:Int):=by rw [e2];exact eW (n/4294967296) Za
 have hP3:bits BinOp.and IntKind.u64 ((n:Int)/281474976710656) 65535=(p3:Int):=by rw [e3];exact eW (n/281474976710656) Za
 have MF:cstParts n=[(0,(p0:Int)),(1,(p1:Int)),(2,(p2:Int)),(3,(p3:Int))]:=by unfold cstParts;rw [e0,e1,e2,e3]
 have hS:Hid (∀q x,(cstParts n)[q]?=some x->cstq d n (q+1)=cstF d (cstq d n q) x):=Zh (fun q x h=>nt d n h)
 rw [MF] at hS
 have h0:=Zh (hS.out 0 _ rfl)
 have h1:=Zh (hS.out 1 _ rfl)
 have h2:=Zh (hS.out 2 _ rfl)
 have h3:=Zh (hS.out 3 _ rfl)
 have LU:=Zh (nv d n)
 clear MF hS e0 e1 e2 e3
 go_enter Tryz.func161,Tryz.ntmps161
 go_wp2_with fail
 go_loopw [5,8] (fun v5 v8 wr=> ∃(q:Nat) (l:List Ins),v8=iI q/\q<=4/\l=cstq d n q/\Below w.heap.size w wr/\Hid (wr.ownsRow w.heap.size 85 7 v5 l.length (l.flatMap insC))) (fun v5 v8 _=>4-(intOf v8).toNat)
 case atStart=>exact ⟨0,[],rfl,by omega,rfl,zaa _ _,Zh (zaX _ _ _ _)⟩
 case round=>
  obtain ⟨q,l,rfl,hq,hl,hB,HO⟩:=hrel
  have HL:=Zh hl
  obtain ⟨a,c,rfl,JJ,hc,En,xb⟩:=az HO.out
  have Fa:=nu d n q hq
  rw [<-hl] at Fa
  have yf:=Zh (fun W (hW:Below wr.heap.size wr W)=>aw HO.out (fun g hg=>hW.block g (HO.out.lt g hg).2))
  have FA:=hB.size
  have HB:=Zh hB
  have Fw:=Zh xb
  clear hB xb HO hl
  generalize hm:l.length=m at*
  have De:q=0\/q=1\/q=2\/q=3\/q=4:=by omega
  rcases De with rfl|rfl|rfl|rfl|rfl
  all_goals
   go_wp2_with (at_builtin;refine bL _ _ 76 85 i0 _ 7 56 Tryz.underlying76 xz xq xm xk rfl Zg rfl rfl w.heap.size _ m (l.flatMap insC) (yf.out _ Zr) _ _ _ (0,0) (by exact aI ZG) rfl rfl (by rfl) ZL Za Za ZR ?_;intro g cap w2 hown wW xb xy;have xP:=Zh hown;have zs:=Zh wW;clear hown wW xb)
  ·refine ⟨⟨1,l,rfl,by omega,?_,HB.out,Zh ?_⟩,by simp [intOf]⟩
   ·rw [h0.out,<-HL.out]
    exact (fD (by assumption)).symm
   ·rw [hm]
    exact yf.out _ (zaa _ _)
  ·refine ⟨⟨1,[nI 1 (d:=d) (e:=0) (imm:=p0)],rfl,by omega,?_,?_,Zh ?_⟩,by simp [intOf]⟩
   ·rw [h0.out,<-HL.out]
    exact (fC (by assumption) (hm.trans Z52_)).symm
   ·exact bW Z32_ (yf.out _ (ab (zaa _ _) _)) zs.out (zaq _)
   ·have e2:l=[]:=List.length_eq_zero_iff.1 (hm.trans Z52_)
    subst e2
    subst hm
    exact xP.out
  ·refine ⟨⟨2,l,rfl,by omega,?_,HB.out,Zh ?_⟩,by simp [intOf]⟩
   ·rw [h1.out,<-HL.out]
    exact (fD (by assumption)).symm
   ·rw [hm]
    exact yf.out _ (zaa _ _)
  ·refine ⟨⟨2,[nI 1 (d:=d) (e:=1) (imm:=p1)],rfl,by omega,?_,?_,Zh ?_⟩,by simp [intOf]⟩
   ·rw [h1.out,<-HL.out]
    exact (fC (by assumption) (hm.trans Z52_)).symm
   ·exact bW Z32_ (yf.out _ (ab (zaa _ _) _)) zs.out (zaq _)
   ·have e2:l=[]:=List.length_eq_zero_iff.1 (hm.trans Z52_)
    subst e2
    subst hm
    exact xP.out
  ·refine ⟨⟨2,l++[nI 2 (d:=d) (e:=1) (imm:=p1)],rfl,by omega,?_,?_,Zh ?_⟩,by simp [intOf]⟩
   ·rw [h1.out,<-HL.out]
    exact (iA (by assumption) (by rw [hm];exact fh (by assumption))).symm
   ·exact bW Z32_ (yf.out _ (ab (zaa _ _) _)) zs.out (zaq _)
   ·have e2:(l++[nI 2 (d:=d) (e:=1) (imm:=p1)]).flatMap insC=l.flatMap insC++insC (nI 2 (d:=d) (e:=1) (imm:=p1)):=by simp
    rw [e2,zaO,hm]
    exact xP.out
  ·refine ⟨⟨3,l,rfl,by omega,?_,HB.out,Zh ?_⟩,by simp [intOf]⟩
   ·rw [h2.out,<-HL.out]
    exact (fD (by assumption)).symm
   ·rw [hm]
    exact yf.out _ (zaa _ _)
  ·refine ⟨⟨3,[nI 1 (d:=d) (e:=2) (imm:=p2)],rfl,by omega,?_,?_,Zh ?_⟩,by simp [intOf]⟩
   ·rw [h2.out,<-HL.out]
    exact (fC (by assumption) (hm.trans Z52_)).symm
   ·exact bW Z32_ (yf.out _ (ab (zaa _ _) _)) zs.out (zaq _)
   ·have e2:l=[]:=List.length_eq_zero_iff.1 (hm.trans Z52_)
    subst e2
    subst hm
    exact xP.out
  ·refine ⟨⟨3,l++[nI 2 (d:=d) (e:=2) (imm:=p2)],rfl,by omega,?_,?_,Zh ?_⟩,by simp [intOf]⟩
   ·rw [h2.out,<-HL.out]
    exact (iA (by assumption) (by rw [hm];exact fh (by assumption))).symm
   ·exact bW Z32_ (yf.out _ (ab (zaa _ _) _)) zs.out (zaq _)
   ·have e2:(l++[nI 2 (d:=d) (e:=2) (imm:=p2)]).flatMap insC=l.flatMap insC++insC (nI 2 (d:=d) (e:=2) (imm:=p2)):=by simp
    rw [e2,zaO,hm]
    exact xP.out
  ·refine ⟨⟨4,l,rfl,by omega,?_,HB.out,Zh ?_⟩,by simp [intOf]⟩
   ·rw [h3.out,<-HL.out]
    exact (fD (by assumption)).symm
   ·rw [hm]
    exact yf.out _ (zaa _ _)
  ·refine ⟨⟨4,[nI 1 (d:=d) (e:=3) (imm:=p3)],rfl,by omega,?_,?_,Zh ?_⟩,by simp [intOf]⟩
   ·rw [h3.out,<-HL.out]
    exact (fC (by assumption) (hm.trans Z52_)).symm
   ·exact bW Z32_ (yf.out _ (ab (zaa _ _) _)) zs.out (zaq _)
   ·have e2:l=[]:=List.length_eq_zero_iff.1 (hm.trans Z52_)
    subst e2
    subst hm
    exact xP.out
  ·refine ⟨⟨4,l++[nI 2 (d:=d) (e:=3) (imm:=p3)],rfl,by omega,?_,?_,Zh ?_⟩,by simp [intOf]⟩
   ·rw [h3.out,<-HL.out]
    exact (iA (by assumption) (by rw [hm];exact fh (by assumption))).symm
   ·exact bW Z32_ (yf.out _ (ab (zaa _ _) _)) zs.out (zaq _)
   ·have e2:(l++[nI 2 (d:=d) (e:=3) (imm:=p3)]).flatMap insC=l.flatMap insC++insC (nI 2 (d:=d) (e:=3) (imm:=p3)):=by simp
    rw [e2,zaO,hm]
    exact xP.out
  ·go_ret
   have e1:m=0:=by first|omega|exact lu (by assumption)
   have e2:l=[]:=List.length_eq_zero_iff.1 (hm.trans e1)
   subst e2
   subst hm
   have e3:cst d n=[nI 1 (d:=d)]:=by rw [LU.out,<-HL.out];rfl
   rw [e3]
   exact ⟨g,cap,rfl,bW Z32_ (yf.out _ (ab (zaa _ _) _)) zs.out (zaq _),xP.out⟩
  ·go_ret
   have e1:m≠0:=fh (by assumption)
   have e3:cst d n=l:=by rw [LU.out,<-HL.out,if_neg];intro e;simp only [List.isEmpty_iff] at e;rw [e] at hm;simp at hm;omega
   rw [e3,hm]
   cases a with
   |none=>exact absurd (En rfl).1 e1
   |some p=>
    rw [Fw.out p rfl]
    have:=yf.out _ (zaa _ _)
    rw [Fw.out p rfl] at this
    exact ⟨p.block,c,rfl,HB.out,this⟩
theorem bK(g j:Nat):(⟨g,0,none⟩:Addr).add j=⟨g,j,none⟩:=by
 unfold Addr.add
 by_cases h:j=0
 ·subst h;rfl
 ·simp [h]
def RowC(W:qW)(g:Nat)(xs:List qV):Prop:= ∀j u,xs[j]?=some u->W.cell? (aB g j)=some u
theorem RowC.kp{X:Nat->Prop}{W W':qW}{g:Nat}{xs:List qV}(h:RowC W g xs)(hk:Kp X W W')(hg:g<W.heap.size)(hX: ¬X g):RowC W' g xs:=
 fun j u hu=>(hk.cell hg hX).trans (h j u hu)
structure ELe(s s':ES):Prop where
 out:s.out.length<=s'.out.length
 sites:s.sites.length<=s'.sites.length
 lines:s.lines.length<=s'.lines.length
 labels:s.labels.length<=s'.labels.length
 brs:s.brs.length<=s'.brs.length
 e:s.e=s'.e
 line:s.line=s'.line
theorem ELe.refl(s:ES):ELe s s:=⟨zaq _,zaq _,zaq _,zaq _,zaq _,rfl,rfl⟩
theorem ELe.trans{a b c:ES}(h:ELe a b)(k:ELe b c):ELe a c:=
 ⟨zal h.out k.out,zal h.sites k.sites,zal h.lines k.lines,zal h.labels k.labels,zal h.brs k.brs,h.e.trans k.e,h.line.trans k.line⟩
theorem ELe.fin{a b:ES}(h:ELe a b)(k:EFin b):EFin a:=
 ⟨zal h.out k.out,zal h.sites k.sites,zal h.lines k.lines,zal h.labels k.labels,zal h.brs k.brs,h.e.trans k.e,by rw [h.line];exact k.line⟩
theorem ELe.at_(site:Int)(i:Ins)(s:ES):ELe s (eAt site i s):=⟨by simp [eAt],by simp [eAt],by simp [eAt],zaq _,zaq _,rfl,rfl⟩
theorem ELe.add(i:Ins)(s:ES):ELe s (eAdd i s):=ELe.at_ 0 i s
theorem ELe.many(l:List Ins): ∀s,ELe s (l.foldl (fun s i=>eAdd i s) s):=by
 induction l with
 |nil=>exact fun s=>ELe.refl s
 |cons i l ih=>exact fun s=>(ELe.add i s).trans (ih _)
theorem ELe.cst(d:Int)(n:Nat)(s:ES):ELe s (eCst d n s):=ELe.many _ s
theorem ydR(d:Int)(n:Nat):(cst d n).length<=4:=by
 rw [nv]
 have:=nu d n 4 (zaq _)
 split
 ·simp
 ·exact this
theorem du{α:Type}{l:List α}{j:Nat}{y:α}(h:l[j]?=some y):l.take (j+1)=l.take j++[y]:=by rw [zaz,h];rfl
theorem bG{α β:Type}{f:α->List β}{z:Nat}(hz: ∀x,(f x).length=z): ∀{l:List α} {j:Nat} {y:α},l[j]?=some y-> ∀k,k<z->(l.flatMap f)[j*z+k]?=(f y)[k]?:=by
 intro l
 induction l with
 |nil=>intro j y h;simp at h
 |cons x l ih=>
  intro j y h k hk
  rw [zaf]
  cases j with
  |zero=>
   simp only [List.getElem?_cons_zero,zaA] at h
   subst h
   rw [zah (by rw [hz];omega)]
   simp
  |succ j=>
   simp only [List.getElem?_cons_succ] at h
   rw [zai (by rw [hz,Nat.add_mul];omega),hz,show (j+1)*z+k-z=j*z+k by rw [Nat.add_mul];omega]
   exact ih h k hk
section
variable{w0 W W' w:qW}{M:Nat}{F F1:Nat->Prop}{pv:qV}{s:ES}
theorem EmA.bel(h:EmA w0 M F pv w W F1 s)(hb:Below W.heap.size W W'):EmA w0 M F pv w W' F1 s:=
 ⟨h.em.below hb,h.kp.next (Kp.of_below (X:=fun _=>False) hb) (fun _ _ e=>e.elim),h.rel⟩
theorem EmA.nextb{s2:ES}{r:qV}{e:Ending}{w1:qW}(h:EmA w0 M F pv w W F1 s)(hb:Below W.heap.size W W')(hD:EmD w0 M F1 pv W' s2 r e w1): ∃F2,EmA w0 M F pv w w1 F2 s2/\Kp F1 W w1/\Rq F1 F2 W.heap.size:=by
 obtain ⟨F2,h1,h2,h3⟩:=(h.bel hb).next hD
 exact ⟨F2,h1,(Kp.of_below hb).trans (h2.mono (fun k _ e=>e.elim id (fun e=>by simp at e))),⟨fun k hk=>(h3.r k hk).imp id (fun e=>zal hb.size e)⟩⟩
theorem iB(w:qW)(h:Em w0 M F pv w s)(d:Int)(n:Nat)(hn:n<18446744073709551616)(hf:EFin (eCst d n s)):qC 120 #[pP M,iI d,.int .u64 n] w (EmD w0 M F pv w (eCst d n s) (.tuple #[])):=by
 have HM:=Zh (EmA.begin h)
 have HF:=Zh hf
 have Bh:=h.bd
 have HI:=Zh (fun k (hk:F k)=>h.inb hk)
 clear h hf
 go_enter Tryz.func120,Tryz.ntmps120
 go_wp2_with (go_at_call 161;refine (yfp d n hn w).mono ?_;rintro e w1 ⟨g,c,rfl,hB,hO⟩;have xY:=hO.lt g rfl;have HC:=Zh (show RowC w1 g ((cst d n).flatMap insC) from fun j u hu=>by have:=hO.cells (g:=g) rfl j u hu;rw [bK] at this;exact this);have wX:=(az hO);replace HM:=Zh (HM.out.bel hB);clear hB hO)
 have hL4:=ydR d n
 have hf:Hid (EFin ((cst d n).foldl (fun s i=>eAdd i s) s)):=HF
 unfold eCst
 clear HF wX hn
 generalize cst d n=L at*
 have Il: ¬F g:=fun e=>by have:=(HI.out g e).2;omega
 clear HI
 go_loopw [12] (fun v12 wr=> ∃(j:Nat) (F1:Nat->Prop),v12=iI j/\j<=L.length/\Hid (EmA w0 M F pv w wr F1 ((L.take j).foldl (fun s i=>eAdd i s) s))/\Hid (RowC wr g (L.flatMap insC))/\w1.heap.size<=wr.heap.size/\ ¬F1 g) (fun v12 _=>L.length-(intOf v12).toNat)
 case atStart=>exact ⟨0,F,rfl,zaB _,HM,HC,zaq _,Il⟩
 case round=>
  obtain ⟨j,F1,rfl,hj,HM,HC,hsz,Il⟩:=hrel
  have j':=HM.out.em.bd
  by_cases yL:j<L.length
  ·obtain ⟨y,hy⟩: ∃y,L[j]?=some y:=⟨L[j],zaC yL⟩
   have wZ: ∀k u,k<7->(insC y)[k]?=some u->wr.cell? ⟨g,j*7+k,none⟩=some u:=fun k u hk hu=>HC.out (j*7+k) u (by rw [bG (f:=insC) (z:=7) (fun _=>rfl) hy k hk];exact hu)
   have c0:=wZ 0 _ Za rfl
   have c1:=wZ 1 _ Za rfl
   have c2:=wZ 2 _ Za rfl
   have c3:=wZ 3 _ Za rfl
   have c4:=wZ 4 _ Za rfl
   have c5:=wZ 5 _ Za rfl
   have c6:=wZ 6 _ Za rfl
   rw [Nat.add_zero] at c0
   have xR:EFin (eAdd y ((L.take j).foldl (fun s i=>eAdd i s) s)):=by
    have e:L=L.take (j+1)++L.drop (j+1):=(List.take_append_drop _ _).symm
    have h1:=hf.out
    rw [e,zaD,du hy,zaD] at h1
    exact (ELe.many _ _).fin h1
   have HY:=Zh hy
   clear wZ hy
   generalize yK:(L.take j).foldl (fun s i=>eAdd i s) s=s1 at*
   have Fq:=Zh yK
   clear yK
   go_wp2_with (go_at_call 122;refine (ch _ ((EmA.bel HM.out Z8):EmA _ _ _ _ w _ _ _).em y xR).mono ?_;intro e w1 hD;obtain rfl:=hD.1;obtain ⟨F2,hM,Cf,Fk⟩:=EmA.nextb HM.out Z8 hD;clear hD;(try clear i');(try clear pi);(try clear j');obtain ⟨ov,sv,lv,bv,B,i',pi,oa,oc,rfl⟩:=hM.em.rules;have j':=hM.em.bd;replace HM:=Zh hM;clear hM;have HK:=Zh Cf;clear Cf)
   have wY:=HK.out.size
   refine ⟨⟨j+1,F2,by go_num,yL,?_,Zh (HC.out.kp HK.out Za Il),by omega,fun e=>(Fk.r g e).elim Il (fun e=>by omega)⟩,by simp [intOf];omega⟩
   rw [du HY.out,zaD,Fq.out]
   exact HM
  ·obtain rfl:j=L.length:=by omega
   go_wp2_with fail
   go_end0
   have:=HM.out
   rw [List.take_length] at this
   exact this.fin
end
end Go.Proofs.YtcekjfmfcefjpaaGreatDoor
