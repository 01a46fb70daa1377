/- Walks. No condition. -/
import Derived.Deep.CutBlock
import Derived.Test.YtjmfoeajhiimnaaGreatDoorG37
set_option maxRecDepth 100000
set_option maxHeartbeats 0
set_option linter.all false
namespace Go.Proofs.YtjmfoeajhiimnaaGreatDoor
open Go.RowKit Go.Sort
theorem MacAt.there_call{W:qW}{M:Nat}{F:Nat->Prop}{bs:List Nat}{s:MSt}(h:MacAt W M F bs s)(a l:Int):qC 101 #[pP M,.agg #[iI a,iI l]] W fun e w'=>e= .returned (.bool (thereM s.bytes a l))/\Below W.heap.size W w':=by
 obtain ⟨tv,bv,ks,zG,hm,hf⟩:=h.at_
 exact pH hm a l
theorem lq{l:List Nat}(h:Small l):numK l 8<2^64:=zar (ez l h 8) Zd
theorem yfq{s:St}(hs:s.ok)(i:Ins): ∃n:Nat,bq s i=n/\n<2^64:=by
 have h1:=bY hs i.d
 unfold bq
 split
 ·split
  ·exact ⟨_,rfl,h1⟩
  ·exact ⟨_,u64_and_nat _ _ h1 (fs _),Nat.lt_of_le_of_lt Nat.and_le_left h1⟩
 ·exact ⟨0,rfl,by omega⟩
theorem yfp{s:St}(hs:s.ok)(i:Ins): ∃n:Nat,bw s i=n/\n<2^64:=by
 have h1:=bY hs i.e
 unfold bw
 split
 ·exact ⟨_,rfl,h1⟩
 ·exact ⟨0,rfl,by omega⟩
theorem ycp:Tryz.prog.eqGuardType Tryz.prog.depth 67=false:=by kernel_rfl
theorem qh:Tryz.prog.stoodInHeld 67=false:=by kernel_rfl
theorem ydv(a b c d:Int)(w:qW):(binOp .eql 67 (.agg #[iI a,iI b]) (.agg #[iI c,iI d])).run Tryz.prog w= .ok (.bool (a==c&&b==d)) w:=by
 have h1:=qh
 by_cases h:a=c<;>by_cases k:b=d<;>simp [go_sem,h1,h,k]
theorem yaO{i:Ins}(hf:Facts i)(hp:paB i.op=false):lenI i=1\/lenI i=2\/lenI i=4\/lenI i=8:=by
 have:=hf.sz
 unfold lenI
 rw [if_neg (by simpa [paB] using hp)]
 have h:i.sz=0\/i.sz=1\/i.sz=2\/i.sz=3:=by omega
 rcases h with h|h|h|h<;>rw [h]<;>decide
def MemP(W V0:qW)(M:Nat)(F:Nat->Prop)(bs:List Nat)(s':MSt)(n bi bd:Nat)(t:TD)(i:Ins)(st:Int×Int)(V:qW):Prop:=
 ∃(s1:MSt) (g0 g1:Nat) (fits:Bool) (F1:Nat->Prop),g0<2^64/\g1<2^64/\StA W bi bd i (didA true (wrB i.op) (spanA t.st i) (lenI i) (exB i.op) (acqB i.op) (relB i.op) (bq t.st i) (bw t.st i) fits g0 g1 n st) V/\MacAt V M F1 bs s1/\(∀k,F1 k->F k\/V0.heap.size<=k)/\Kp F W V/\V.cell? (aB M 0)=W.cell? (aB M 0)/\s1.ts[n]?=some t/\s'={s1 with ts:=s1.ts.set n {t with st:=nextS t.st i g0 g1 fits}}
theorem qN{W:qW}{M:Nat}{F:Nat->Prop}{bs:List Nat}{s:MSt}(h:MacAt W M F bs s)(n b:Nat)(t:TD)(i:Ins)(fail:Bool)(hb:bs[n]?=some b)(ht:s.ts[n]?=some t)(he:t.end_=0)(p:Nat)(hp:t.st.pc=p)(hi:t.code[p]?=some i)(v:Nat)(hv:enc i=some v)(hm:meB i.op=true)(s':MSt)(Fk:memM s n t i fail=some s'):
  qC 63 #[pP M,iI n,.bool fail] W fun e w'=>(∃x,e= .returned x)/\MacD W M F bs s' w':=by
 obtain ⟨cv,pv,gs,sc,hx,I3,CV,DX,yY,x'⟩:=h.th hb ht
 have zF:=h.ok.th t (zat ht)
 have Qc:=Zh (zF.np i (zat hi))
 have hM:=h.M_lt
 have xo:=hx.ob.lt
 obtain ⟨ca,cc,rfl,xh,Ke⟩:=hx.code
 obtain ⟨gc,rfl⟩:=cz Ke (by have:=(List.getElem?_eq_some_iff.1 hi).1;omega)
 have AA:=(List.getElem?_eq_some_iff.1 hi).1
 obtain ⟨st,xz⟩: ∃st,t.sites[p]?=some st:=⟨t.sites[p]'(by rw [zF.sl];exact AA),zaC _⟩
 have DI:=(List.getElem?_eq_some_iff.1 xz).1
 have q39:W.cell? (aB b 39)=some (iI 0):=he ▸ hx.cell 39 Za
 have AT:=Zh (fun W' (yN:Below W.heap.size W W')=>(h.below yN).at_call hb ht)
 have IN:=Zh (fun W' (yN:Below W.heap.size W W')=>mh (hx.kp (Kp.of_below (X:=fun _=>False) yN) (fun _ _=>id) id))
 have HX:=Zh hx
 have H:=Zh h
 have RY:=Zh CV
 obtain ⟨jn,mn,LZ,Gl,Gy⟩: ∃j m:Nat,spanA t.st i=(j:Int)+65536/\lenI i=m/\j+m<=s.bytes.length:=by
  have hl:=dg (dv hv)
  unfold memM at Fk
  by_cases yV:thereM s.bytes (spanA t.st i) (lenI i)=true
  ·exact pI yV (rE _ _) hl.1 hl.2 h.ok.bl
  ·simp [yV] at Fk
 have HFl:=Zh h.lt
 have yV:thereM s.bytes (spanA t.st i) (lenI i)=true:=by
  unfold memM at Fk
  by_cases yV:thereM s.bytes (spanA t.st i) (lenI i)=true
  ·exact yV
  ·simp [yV] at Fk
 have HS':=Zh Fk
 have zD:=Zh yV
 have KJ:=Zh yV
 have FK:=Zh LZ
 have E8:=Zh Gl
 clear x' h hx Fk yV LZ Gl
 go_enter Tryz.func63,Tryz.ntmps63
 go_wp2_with fail
 refine (AT.out _ ZG).mono ?_
 rintro e w1 ⟨rfl,rfl⟩
 go_wp2_with fail
 refine (IN.out _ ZG).mono ?_
 rintro e w1 ⟨rfl,rfl⟩
 have AD:(decide (0<=t.st.pc)&&decide (t.st.pc<(t.code.length:Int)))=true:=by
  rw [hp]
  simp
  omega
 rw [AD]
 go_wp2_with fail
 refine aS (R:=fun X=>Below W.heap.size W X/\X.heap[W.heap.size]?=some (.cells bK 175 (0,0))) ⟨ag (ab (zaa _ _) _),zab _ _⟩ ?_
 rintro V ⟨yD,h6⟩
 have zI:=HX.out.kp (Kp.of_below (X:=fun _=>False) yD) (fun _ _=>id) id
 have zC: ∀X,Below V.heap.size V X->X.cell? (aB b 0)=some (.slice (aA gc) t.code.length cc)/\X.cell? (aB b 33)=some (iI (p:Int))/\X.cell? (aB b 1)=some (.slice (aA gs) t.sites.length sc)/\X.rangeAt gc (p*7) (insC i)/\X.rangeAt gs (p*3) (siteC n st):=fun X hX=>by
  have BG:=zI.kp (Kp.of_below (X:=fun _=>False) hX) (fun _ _=>id) id
  exact ⟨BG.cell 0 Za,(BG.st 31 Za).trans (by rw [bt,hp]),BG.cell 1 Za,BG.range_ins hi,BG.range_site xz⟩
 have hA:=zC _ (ag (zaa _ V))
 have HA:=Zh zC
 clear zC
 have hB:True:=trivial
 have Gc:(p:Int)<t.code.length:=by omega
 have JA:(p:Int)<t.sites.length:=by omega
 have HV:=Zh zI
 have HB:=Zh yD
 clear zI yD
 refine ae (fun X=>X.cell? (aB b 0)=some (.slice (aA gc) t.code.length cc)/\X.cell? (aB b 33)=some (iI (p:Int))/\X.cell? (aB b 1)=some (.slice (aA gs) t.sites.length sc)/\X.rangeAt gc (p*7) (insC i)/\X.rangeAt gs (p*3) (siteC n st)) (fun W=>True) 26 rfl ?_
 refine Zp 0 rfl (h:=Zp 1 rfl (h:=Zp 2 rfl (h:=?_)));try simp only [Zq]
 refine Zt 3 rfl (h:=Zp 4 rfl (h:=Zp 5 rfl (h:=?_)));try simp only [Zq]
 refine Zp 6 rfl (h:=Zp 7 rfl (h:=Zt 8 rfl (h:=?_)));try simp only [Zq]
 refine Zp 9 rfl (h:=?_);try simp only [Zq]
 refine bG 10 (v:=insV i) rfl Zb Zb Zb (fun _ _ _ h=>h) Zd Zb (dh rfl (.tmp 42) rfl gc (p*7) ?_ i ?_) ⟨hA,fun _=>hB⟩ ?_
 ·simp [Act.eval]
 ·intro w hw;exact hw.2.2.2.1
 try simp only [Zq]
 refine Zp 11 rfl (h:=Zp 12 rfl (h:=Zp 13 rfl (h:=?_)));try simp only [Zq]
 refine Zt 14 rfl (h:=Zp 15 rfl (h:=Zp 16 rfl (h:=?_)));try simp only [Zq]
 refine Zp 17 rfl (h:=Zp 18 rfl (h:=Zt 19 rfl (h:=?_)));try simp only [Zq]
 refine Zp 20 rfl (h:=?_);try simp only [Zq]
 refine bG 21 (v:=siteV n st) rfl Zb Zb Zb (fun _ _ _ h=>h) Zd Zb (lU rfl (.tmp 53) rfl gs (p*3) ?_ n st ?_) ⟨hA,fun _=>hB⟩ ?_
 ·simp [Act.eval]
 ·intro w hw;exact hw.2.2.2.2
 try simp only [Zq]
 refine cY 22 (v:= .agg (didS n st)) rfl Zb Zb Zb (fun _ _ _ h=>h) Zd Zb (Or.inl ⟨by rfl,fun W _=>?_⟩) ⟨hA,fun _=>hB⟩ ?_
 ·kernel_rfl
 try simp only [Zq]
 refine iU 23 24 (xi:=9) (xj:=10) rfl rfl rfl rfl rfl rfl rfl rfl Zd Zb Zb Zb Zd iO iP (fun w' Az=>HA.out w' (an (ag (zaa _ V)) Az (zaq _))) (fun _ _=>trivial) ?_
 intro bi bd V2 hT
 have T:=Zh hT
 clear hT hA
 have b2:Below V.heap.size V V2:=an (ag (zaa _ V)) T.out.bel (zaq _)
 have hA:=HA.out V2 b2
 have x1:V.heap.size<=bi:=T.out.i1.1
 have x2:V.heap.size<=bd:=T.out.j1.1
 have x3:bi≠bd:=T.out.ne
 have x4:bi<V2.heap.size:=T.out.i1.2
 have x5:bd<V2.heap.size:=T.out.j1.2
 try simp only [Zq]
 refine Zs 25 rfl fun K hK=>?_
 refine bD rfl (cG 83 (.tmp 9) (.tmp 43) rfl bi 0 (insC i).toArray rfl rfl (T:=83) T.out.hi (by simp [eD,insC]) io (by simp [insC,Value.oneCell']) ?_)
 intro V3 g3 k3 z3
 rw [mc] at g3
 have b3:Below V.heap.size V V3:=aI b2 k3 (fun k e=>by omega)
 refine hK _ _ ⟨HA.out V3 b3,fun _=>trivial⟩ ?_
 clear hK K hA
 have hA:=HA.out V3 b3
 have g3d:V3.heap[bd]?=some (.cells bK 175 (0,0)):=(k3.block bd x5 (fun e=>x3 e.symm)).trans T.out.hj
 refine Zs 26 rfl fun K hK=>?_
 refine bD rfl (cG 175 (.tmp 10) (.tmp 55) rfl bd 0 (didS n st) rfl rfl g3d (by simp [bK,didS]) dm (by simp [didS,Value.oneCell']) ?_)
 intro V4 g4 k4 z4
 rw [nu] at g4
 have b4:Below V.heap.size V V4:=aI b3 k4 (fun k e=>by omega)
 refine hK _ _ ⟨HA.out V4 b4,fun _=>trivial⟩ ?_
 clear hK K hA
 refine af Zb ?_ _
 have b6lt:W.heap.size<V.heap.size:=ac h6
 have HS:Hid (StA W bi bd i (didA false false 0 0 false false false 0 0 false 0 0 n st) V4):=Zh ⟨(b4.block _ b6lt).trans h6,(k4.block bi Za (fun e=>x3 e)).trans g3,g4,by omega,by omega,x3⟩
 have Bj:=Zh (an HB.out b4 HB.out.size)
 clear g3 g4 k3 k4 b2 b3 b4 HA HB HV T g3d h6 x4 x5 z3 z4 hB
 have zI:=HX.out.kp (Kp.of_below (X:=fun _=>False) Bj.out) (fun _ _=>id) id
 have zC: ∀X,Below V4.heap.size V4 X->X.rangeAt b 2 (stL t.st)/\X.rangeAt bi 0 (insC i):=fun X hX=>⟨(zI.kp (Kp.of_below (X:=fun _=>False) hX) (fun _ _=>id) id).range_st,(HS.out.below hX).rng⟩
 have HA:=Zh zC
 have hA:=zC _ (ag (zaa _ V4))
 have hB:True:=trivial
 have HV:=Zh zI
 have ASK:=Zh (fun W'=>yfn t.st i (zF.code i (zat hi)) zF.st v hv hm (zF.np i (zat hi)) W')
 clear zC zI
 go_wp2_with fail
 refine ae (fun X=>X.rangeAt b 2 (stL t.st)/\X.rangeAt bi 0 (insC i)) (fun W=>True) 12 rfl ?_
 refine Zp 0 rfl (h:=Zp 1 rfl (h:=Zp 2 rfl (h:=?_)));try simp only [Zq]
 refine bG 3 (v:=stV t.st) rfl Zb Zb Zb (fun _ _ _ h=>h) Zd Zb (fx rfl (.tmp 59) rfl b 2 ?_ t.st ?_) ⟨hA,fun _=>hB⟩ ?_
 ·rfl
 ·intro w hw;exact hw.1
 try simp only [Zq]
 refine bG 4 (v:=insV i) rfl Zb Zb Zb (fun _ _ _ h=>h) Zd Zb (dh rfl (.tmp 9) rfl bi 0 ?_ i ?_) ⟨hA,fun _=>hB⟩ ?_
 ·rfl
 ·intro w hw;exact hw.2
 try simp only [Zq]
 refine Zs 5 rfl fun K hK=>?_
 go_simp
 go_at_call 100
 refine (ASK.out _).mono ?_
 rintro e w5 ⟨rfl,q5,rfl⟩
 obtain ⟨V5,EY⟩: ∃V5,V5=more V4.drew q5:=⟨_,rfl⟩
 rw [<-EY]
 have b5:Below V4.heap.size V4 V5:=by rw [EY];exact an (ag (zaa _ V4)) (au _ _) (zaq _)
 clear EY
 refine hK _ _ ⟨HA.out V5 b5,fun _=>trivial⟩ ?_
 clear hK K hA
 have hA:=HA.out V5 b5
 have Ck:=HS.out.below b5
 have x6:bd<V5.heap.size:=ac Ck.hd
 have x7:b<V5.heap.size:=zar HV.out.ob.lt b5.size
 have x8:b<bd:=by omega
 have x9:bi<V5.heap.size:=ac Ck.hi
 refine Zp 6 rfl (h:=Zp 7 rfl (h:=Zp 8 rfl (h:=?_)));try simp only [Zq]
 refine Zp 9 rfl (h:=?_);try simp only [Zq]
 refine Zs 10 rfl fun K hK=>?_
 refine bD rfl (cG 173 (.tmp 65) (.tmp 63) rfl bd 1 (accC (wrB i.op) (spanA t.st i) (lenI i) (exB i.op) (acqB i.op) (relB i.op) (bq t.st i) (bw t.st i)) rfl rfl Ck.hd (by simp [accC,didA]) mg (by simp [accC,Value.oneCell']) ?_)
 intro V6 g6 k6 z6
 rw [nw] at g6
 refine hK _ _ ⟨⟨k6.rng hA.1 x7 Za,k6.rng hA.2 x9 x3⟩,fun _=>trivial⟩ ?_
 clear hK K
 have E6:=hA
 clear hA
 have hA:V6.rangeAt b 2 (stL t.st)/\V6.rangeAt bi 0 (insC i):=⟨k6.rng E6.1 x7 Za,k6.rng E6.2 x9 x3⟩
 have Cj:StA W bi bd i (didA false (wrB i.op) (spanA t.st i) (lenI i) (exB i.op) (acqB i.op) (relB i.op) (bq t.st i) (bw t.st i) false 0 0 n st) V6:=Ck.put k6 g6
 refine Zp 11 rfl (h:=?_);try simp only [Zq]
 refine Zs 12 rfl fun K hK=>?_
 refine bD rfl (dC 4 (.tmp 66) (.tmp 64) rfl bd 0 (.bool true) rfl rfl Cj.hd (by simp [didA]) rfl rfl eE ?_)
 intro V7 g7 k7 z7
 rw [nv] at g7
 refine hK _ _ ⟨⟨k7.rng hA.1 Za Za,k7.rng hA.2 Za x3⟩,fun _=>trivial⟩ ?_
 clear hK K
 have E0:StA W bi bd i (didA true (wrB i.op) (spanA t.st i) (lenI i) (exB i.op) (acqB i.op) (relB i.op) (bq t.st i) (bw t.st i) false 0 0 n st) V7:=Cj.put k7 g7
 refine af Zb ?_ _
 have kk:Kp (fun k=>k=bd) V4 V7:=((Kp.of_below b5).trans k6).trans k7
 have zI:=HV.out.kp kk (fun k hk e=>by have:=(HX.out.ob.foot_lt hk).2;omega) (by have:=HX.out.sl;omega)
 have AJ:=Zh E0
 have w7:W.heap.size<V7.heap.size:=ac E0.h6
 have Hn:=Zh zI
 have FJ:Hid (Below W.heap.size W V7):=Zh (aI Bj.out kk (fun k e=>by omega))
 clear hA E6 HS HV HA Bj g6 g7 k6 k7 kk b5 Ck Cj E0 zI x6 x7 x9 z6 z7 ASK
 have q0:V7.cell? (aB bd 0)=some (.bool true):=aa AJ.out.hd 0
 have q2:V7.cell? (aB bd 2)=some (iI (spanA t.st i)):=aa AJ.out.hd 2
 have q3:V7.cell? (aB bd 3)=some (iI (lenI i)):=aa AJ.out.hd 3
 go_wp2_with fail
 refine ((H.out.below FJ.out).there_call _ _).mono ?_
 rintro e V8 ⟨rfl,b8⟩
 rw [zD.out]
 have Hc:=AJ.out.below b8
 have AI:=Zh Hc
 have Hm:=Zh (Hn.out.kp (Kp.of_below (X:=fun _=>False) b8) (fun _ _=>id) id)
 have Ih:Hid (Below W.heap.size W V8):=Zh (an FJ.out b8 FJ.out.size)
 clear q0 q2 q3 Hc b8 AJ Hn FJ zD
 have i0:V8.cell? (aB bi 0)=some (iI i.op):=aa AI.out.hi 0
 have i1:V8.cell? (aB bi 1)=some (iI i.d):=aa AI.out.hi 1
 have i2:V8.cell? (aB bi 2)=some (iI i.n):=aa AI.out.hi 2
 have i3:V8.cell? (aB bi 3)=some (iI i.m):=aa AI.out.hi 3
 have i4:V8.cell? (aB bi 4)=some (iI i.e):=aa AI.out.hi 4
 have i5:V8.cell? (aB bi 5)=some (iI i.sz):=aa AI.out.hi 5
 have i6:V8.cell? (aB bi 6)=some (iI i.imm):=aa AI.out.hi 6
 go_wp2_with fail
 go_at_call 102
 have yi:i.op≠31/\i.op≠32:=by
  unfold meB at hm
  rw [zau] at hm
  omega
 refine (ju Hm.out i yi.1 yi.2).mono ?_
 rintro e V9 ⟨rfl,b9⟩
 have AH:=Zh (AI.out.below b9)
 have Dy:Hid (Below W.heap.size W V9):=Zh (an Ih.out b9 Ih.out.size)
 clear i0 i1 i2 i3 i4 i5 i6 b9 AI Hm Ih yi
 go_upto_block 1 with fail
 go_cut [] from 11 (fun wc=>MemP W V9 M F bs s' n bi bd t i st wc)
 case first=>
  have q0:V9.cell? (aB bd 0)=some (.bool true):=aa AH.out.hd 0
  have q1:V9.cell? (aB bd 1)=some (.bool (wrB i.op)):=aa AH.out.hd 1
  have q2:V9.cell? (aB bd 2)=some (iI ((jn:Int)+65536)):=FK.out ▸ aa AH.out.hd 2
  have q3:V9.cell? (aB bd 3)=some (iI (mn:Int)):=E8.out ▸ aa AH.out.hd 3
  have FH:=Zh (H.out.below Dy.out)
  have Es:=yaO (dv hv) Qc.out
  rw [E8.out] at Es
  have yW:=HS'.out
  unfold memM at yW
  simp only [KJ.out,if_true] at yW
  rw [show (spanA t.st i-65536).toNat=jn by rw [FK.out];omega,show (lenI i).toNat=mn by rw [E8.out];omega] at yW
  cases hw:wrB i.op
  ·rw [hw] at q1
   rw [if_neg (by rw [hw];simp)] at yW
   have zY:=Zh (zae yW).symm
   clear yW
   go_wp2_with fail
   refine (sX FH.out jn mn Za Za Gy).mono ?_
   rintro e V10 ⟨rfl,b10⟩
   have yC:=AH.out.below b10
   have r9:V10.cell? (aB bd 9)=some (.bool false):=aa yC.hd 9
   have r10:V10.cell? (aB bd 10)=some (.int .u64 0):=aa yC.hd 10
   have r11:V10.cell? (aB bd 11)=some (.int .u64 0):=aa yC.hd 11
   have rf:=ah yC.hd
   have Qs:Hid (rd0 s.bytes jn mn<2^64):=Zh (lq (fg FH.out.ok.sm _ _))
   have Qr:Hid (rd1 s.bytes jn mn<2^64):=Zh (lq (fg FH.out.ok.sm _ _))
   generalize Kc:rd0 s.bytes jn mn=g0 at*
   generalize xy:rd1 s.bytes jn mn=g1 at*
   have xI:=Zh yC
   have B10:=Zh b10
   clear yC b10 Kc xy
   go_wp2_with fail
   go_meet
   case rel=>
    have h1:=aJ (aJ (aJ xI.out.hd (i:=9) (.bool true)) (i:=10) (.int .u64 g0)) (i:=11) (.int .u64 g1)
    rw [fD,show∀(c:Array qV) (x y:qV),(c.setIfInBounds 10 x).setIfInBounds 11 y=setL c 10 [x,y] from fun _ _ _=>rfl,ydK] at h1
    have hk:Kp (fun k=>k=bd) V10 (((V10.setCell ⟨bd,9,none⟩ (.bool true)).setCell ⟨bd,10,none⟩ (.int .u64 g0)).setCell ⟨bd,11,none⟩ (.int .u64 g1)):=((Kp.set _ _ _ _).trans (Kp.set _ _ _ _)).trans (Kp.set _ _ _ _)
    have OQ:=AH.out.d6
    exact ⟨s,g0,g1,true,F,Qs.out,Qr.out,xI.out.put hk h1,(FH.out.below B10.out).kp hk (fun k hk e=>by have:=(HFl.out k hk).2;omega),fun k hk=> .inl hk,(Kp.of_below (an Dy.out B10.out Dy.out.size)).next hk (fun k hk e=>by omega),(hk.cell (by have:=Dy.out.size;have:=B10.out.size;omega) (fun e=>by have:M=bd:=e;omega)).trans ((an Dy.out B10.out Dy.out.size).cell (p:=⟨M,0,none⟩) hM),ht,zY.out⟩
  ·rw [hw] at q1
   rw [if_pos hw] at yW
   have q4:V9.cell? (aB bd 4)=some (.bool (exB i.op)):=aa AH.out.hd 4
   obtain ⟨cv9,pv9,gs9,sc9,BH,Pl, -, -, -, -⟩:=FH.out.th hb ht
   have q36:V9.cell? (aB b 36)=some (iI t.st.wa):=BH.st 34 Za
   have q37:V9.cell? (aB b 37)=some (iI t.st.wl):=BH.st 35 Za
   have OQ:=AH.out.d6
   obtain ⟨dn,CX⟩: ∃dn,dn=(!exB i.op||(!fail&&(t.st.wa==spanA t.st i&&t.st.wl==lenI i))):=⟨_,rfl⟩
   rw [<-CX] at yW
   have K8:=Zh CX
   have zY:=Zh yW
   clear yW CX BH
   go_upto_region 15 with fail
   go_cut [2] from 11 (fun v2 wd=>v2= .bool fail/\StA W bi bd i (didA true (wrB i.op) (spanA t.st i) (lenI i) (exB i.op) (acqB i.op) (relB i.op) (bq t.st i) (bw t.st i) dn 0 0 n st) wd/\Kp (fun k=>k=bd) V9 wd)
   case first=>
    have hB:True:=trivial
    cases hx:exB i.op
    ·rw [hx] at q4
     have hA:V9.drew.cell? (aB bd 4)=some (.bool false):=q4
     refine ae (fun X=>X.cell? (aB bd 4)=some (.bool false)) (fun W=>True) 20 rfl ?_
     refine Zp 0 rfl (h:=Zp 1 rfl (h:=Zt 2 rfl (h:=?_)));try simp only [Zq]
     refine Zp 3 rfl (h:=Zp 4 rfl (h:=?_));try simp only [Zq]
     refine Zn 5 rfl (h:=Zn 6 rfl (h:=?_));try simp only [Zq]
     refine Zn 7 rfl (h:=Zn 8 rfl (h:=?_));try simp only [Zq]
     refine Zn 9 rfl (h:=Zn 10 rfl (h:=?_));try simp only [Zq]
     refine Zn 11 rfl (h:=Zn 12 rfl (h:=?_));try simp only [Zq]
     refine Zn 13 rfl (h:=Zn 14 rfl (h:=?_));try simp only [Zq]
     refine Zn 15 rfl (h:=Zn 16 rfl (h:=?_));try simp only [Zq]
     refine Zn 17 rfl (h:=Zp 18 rfl (h:=Zp 19 rfl (h:=?_)));try simp only [Zq]
     refine Zs 20 rfl fun K hK=>?_
     refine bD rfl (dC 4 (.tmp 103) (.tmp 102) rfl bd 9 (.bool true) rfl rfl (w:=V9.drew) AH.out.hd (by simp [didA]) rfl rfl eE ?_)
     intro V10 g10 k10 z10
     rw [fD] at g10
     refine hK _ _ ⟨by rw [aa g10];simp [didA,hx],fun _=>trivial⟩ ?_
     clear hK K
     refine af Zb ?_ _
     go_wp2_with fail
     go_meet
     case rel=>
      rw [show dn=true from by rw [K8.out,hx];rfl]
      exact ⟨rfl,AH.out.put ((Kp.dr V9).trans k10) g10,(Kp.dr V9).trans k10⟩
    ·rw [hx] at q4
     cases hf:fail
     ·have hA:V9.drew.cell? (aB bd 4)=some (.bool true)/\V9.drew.cell? (aB b 36)=some (iI t.st.wa)/\V9.drew.cell? (aB b 37)=some (iI t.st.wl)/\V9.drew.cell? (aB bd 2)=some (iI ((jn:Int)+65536))/\V9.drew.cell? (aB bd 3)=some (iI (mn:Int)):=⟨q4,q36,q37,q2,q3⟩
      have yY:=ycp
      have AE:=ydv
      refine ae (fun X=>X.cell? (aB bd 4)=some (.bool true)/\X.cell? (aB b 36)=some (iI t.st.wa)/\X.cell? (aB b 37)=some (iI t.st.wl)/\X.cell? (aB bd 2)=some (iI ((jn:Int)+65536))/\X.cell? (aB bd 3)=some (iI (mn:Int))) (fun W=>True) 20 rfl ?_
      refine Zp 0 rfl (h:=Zp 1 rfl (h:=Zt 2 rfl (h:=?_)));try simp only [Zq]
      refine Zp 3 rfl (h:=Zp 4 rfl (h:=Zp 5 rfl (h:=?_)));try simp only [Zq]
      refine Zp 6 rfl (h:=Zp 7 rfl (h:=Zp 8 rfl (h:=?_)));try simp only [Zq]
      refine Zp 9 rfl (h:=Zp 10 rfl (h:=Zp 11 rfl (h:=?_)));try simp only [Zq]
      refine Zt 12 rfl (h:=Zp 13 rfl (h:=Zp 14 rfl (h:=?_)));try simp only [Zq]
      refine Zt 15 rfl (h:=Zp 16 rfl (h:=Zp 17 rfl (h:=?_)));try simp only [Zq]
      refine Zp 18 rfl (h:=Zp 19 rfl (h:=?_));try simp only [Zq]
      refine Zs 20 rfl fun K hK=>?_
      refine bD rfl (dC 4 (.tmp 103) (.tmp 102) rfl bd 9 (.bool (t.st.wa==(jn:Int)+65536&&t.st.wl==(mn:Int))) rfl rfl (w:=V9.drew) AH.out.hd (by simp [didA]) rfl rfl eE ?_)
      intro V10 g10 k10 z10
      rw [fD] at g10
      have yF:b<bd:=by have:=HX.out.ob.lt;omega
      have yp:Kp (fun k=>k=bd) V9 V10:=(Kp.dr V9).trans k10
      refine hK _ _ ⟨⟨by rw [aa g10];simp [didA,hx],(yp.cell (aF q36) (fun e=>by have:b=bd:=e;omega)).trans q36,(yp.cell (aF q37) (fun e=>by have:b=bd:=e;omega)).trans q37,by rw [aa g10];simp [didA,FK.out],by rw [aa g10];simp [didA,E8.out]⟩,fun _=>trivial⟩ ?_
      clear hK K
      refine af Zb ?_ _
      go_wp2_with fail
      go_meet
      case rel=>
       rw [show dn=(t.st.wa==(jn:Int)+65536&&t.st.wl==(mn:Int)) from by rw [K8.out,hx,hf,FK.out,E8.out];rfl]
       exact ⟨by rw [hf],AH.out.put yp g10,yp⟩
     ·have hA:V9.drew.cell? (aB bd 4)=some (.bool true):=q4
      refine ae (fun X=>X.cell? (aB bd 4)=some (.bool true)) (fun W=>True) 20 rfl ?_
      refine Zp 0 rfl (h:=Zp 1 rfl (h:=Zt 2 rfl (h:=?_)));try simp only [Zq]
      refine Zp 3 rfl (h:=Zp 4 rfl (h:=Zp 5 rfl (h:=?_)));try simp only [Zq]
      refine Zp 6 rfl (h:=Zp 7 rfl (h:=?_));try simp only [Zq]
      refine Zn 8 rfl (h:=Zn 9 rfl (h:=?_));try simp only [Zq]
      refine Zn 10 rfl (h:=Zn 11 rfl (h:=?_));try simp only [Zq]
      refine Zn 12 rfl (h:=Zn 13 rfl (h:=?_));try simp only [Zq]
      refine Zn 14 rfl (h:=Zn 15 rfl (h:=?_));try simp only [Zq]
      refine Zn 16 rfl (h:=Zp 17 rfl (h:=Zp 18 rfl (h:=?_)));try simp only [Zq]
      refine Zp 19 rfl (h:=?_);try simp only [Zq]
      refine Zs 20 rfl fun K hK=>?_
      refine bD rfl (dC 4 (.tmp 103) (.tmp 102) rfl bd 9 (.bool false) rfl rfl (w:=V9.drew) AH.out.hd (by simp [didA]) rfl rfl eE ?_)
      intro V10 g10 k10 z10
      rw [fD] at g10
      refine hK _ _ ⟨by rw [aa g10];simp [didA,hx],fun _=>trivial⟩ ?_
      clear hK K
      refine af Zb ?_ _
      go_wp2_with fail
      go_meet
      case rel=>
       rw [show dn=false from by rw [K8.out,hx,hf];rfl]
       exact ⟨by rw [hf],AH.out.put ((Kp.dr V9).trans k10) g10,(Kp.dr V9).trans k10⟩
   case rest=>
    obtain ⟨rfl,yC,yX⟩:=hcut
    have xI:=Zh yC
    have E9:=Zh yX
    have Ie:=Zh (FH.out.kp yX (fun k hk e=>by have:=(HFl.out k hk).2;omega))
    have yQ:Hid (Kp F W wc):=Zh ((Kp.of_below Dy.out).next yX (fun k hk e=>by omega))
    have r9:wc.cell? (aB bd 9)=some (.bool dn):=aa yC.hd 9
    have Hu:Hid (wc.cell? (aB M 0)=W.cell? (aB M 0)):=Zh ((yX.cell (by have:=Dy.out.size;omega) (fun e=>by have:M=bd:=e;omega)).trans (Dy.out.cell (p:=⟨M,0,none⟩) hM))
    clear q0 q1 q2 q3 q4 q36 q37 yC yX
    cases CX:dn
    ·rw [CX] at r9
     go_wp2_with fail
     go_meet
     case rel=>
      have yW:=zY.out
      rw [CX] at yW
      have hs:=xI.out
      rw [CX] at hs
      exact ⟨s,0,0,false,F,by omega,by omega,hs,Ie.out,fun k hk=> .inl hk,yQ.out,Hu.out,ht,(zae yW).symm⟩
    ·rw [CX] at r9
     obtain ⟨d0n,yZ, -⟩:=yfq zF.st i
     obtain ⟨d1n,Dm, -⟩:=yfp zF.st i
     have c1:wc.cell? (aB bd 1)=some (.bool true):=hw ▸ aa xI.out.hd 1
     have c2:wc.cell? (aB bd 2)=some (iI ((jn:Int)+65536)):=FK.out ▸ aa xI.out.hd 2
     have c3:wc.cell? (aB bd 3)=some (iI (mn:Int)):=E8.out ▸ aa xI.out.hd 3
     have c4:wc.cell? (aB bd 4)=some (.bool (exB i.op)):=aa xI.out.hd 4
     have c5:wc.cell? (aB bd 5)=some (.bool (acqB i.op)):=aa xI.out.hd 5
     have c6:wc.cell? (aB bd 6)=some (.bool (relB i.op)):=aa xI.out.hd 6
     have c7:wc.cell? (aB bd 7)=some (.int .u64 (d0n:Int)):=yZ ▸ aa xI.out.hd 7
     have c8:wc.cell? (aB bd 8)=some (.int .u64 (d1n:Int)):=Dm ▸ aa xI.out.hd 8
     have Ji:=Zh yZ
     have K9:=Zh Dm
     have Ic:=Zh Es
     clear yZ Dm Es
     go_wp2_with fail
     refine (oK Ie.out n b hb jn mn d0n d1n (by have:=Ic.out;omega) (by have:=Ic.out;omega) Gy true (exB i.op) (acqB i.op) (relB i.op)).mono ?_
     rintro e V11 ⟨rfl,hD⟩
     have HD:=Zh hD
     clear hD c1 c2 c3 c4 c5 c6 c7 c8
     go_wp2_with fail
     go_meet
     case rel=>
      have yW:=zY.out
      rw [CX,if_pos rfl,Ji.out,K9.out,FK.out,E8.out] at yW
      have hs:=xI.out
      rw [CX] at hs
      have w10:=E9.out.size
      refine ⟨{s with bytes:=wrM s.bytes jn mn d0n d1n,ts:=othM n ((jn:Int)+65536) mn s.ts.length s.ts},0,0,true,grw F wc V11,by omega,by omega,hs.kp HD.out.kp (fun h=>by have:=(HFl.out _ h).2;omega) (fun h=>by have:=(HFl.out _ h).2;have:=hs.i6;omega) (fun h=>by have:=(HFl.out _ h).2;omega),HD.out.mac,fun k hk=>hk.imp id (fun h=>by omega),yQ.out.next HD.out.kp (fun k _ h=>h),HD.out.row.trans Hu.out,?_,?_⟩
      ·show (othM n ((jn:Int)+65536) mn s.ts.length s.ts)[n]?=some t
       rw [cQ,ht]
       simp
      ·exact (zae yW).symm
 case rest=>
  obtain ⟨s1,g0,g1,fits,F1,h0,h1,hS,Bd,Hg,xp,Iz,FY,yW⟩:=hcut
  have PX:=Zh Iz
  clear Iz
  obtain ⟨cv1,pv1,gs1,sc1,Eg,Pm,GL,OF,J9,x'⟩:=Bd.th hb FY
  have HS:=Zh hS
  have Dt:=Zh Eg
  have Qj:=Zh Bd
  have K3:=Zh Hg
  have KY:=Zh xp
  have zY:=Zh yW
  have KH:=Zh x'
  have Qu:=Zh GL
  have w9:W.heap.size<V9.heap.size:=ac AH.out.h6
  have wcl:W.heap.size<wc.heap.size:=ac hS.h6
  clear hS Eg Bd Hg xp yW x' GL AH
  go_upto_region 21 with fail
  have zC: ∀X,Below wc.heap.size wc X->X.rangeAt bi 0 (insC i)/\X.cell? (aB bd 10)=some (.int .u64 (g0:Nat))/\X.cell? (aB bd 11)=some (.int .u64 (g1:Nat))/\X.cell? (aB bd 9)=some (.bool fits):=fun X hX=>⟨(HS.out.below hX).rng,aa (HS.out.below hX).hd 10,aa (HS.out.below hX).hd 11,aa (HS.out.below hX).hd 9⟩
  have E4: ∀X,Below wc.heap.size wc X->X.rangeAt b 2 (stL t.st):=fun X hX=>(Dt.out.kp (Kp.of_below (X:=fun _=>False) hX) (fun _ _=>id) id).range_st
  have HA:=Zh zC
  have HBf:=Zh E4
  have hA:=zC _ (ag (zaa _ wc))
  have hB:=E4 _ (ag (zaa _ wc))
  have NX:=Zh (fun W'=>lr t.st i (zF.code i (zat hi)) zF.st g0 g1 h0 fits v hv (zF.np i (zat hi)) W')
  clear zC E4
  refine ae (fun X=>X.rangeAt bi 0 (insC i)/\X.cell? (aB bd 10)=some (.int .u64 (g0:Nat))/\X.cell? (aB bd 11)=some (.int .u64 (g1:Nat))/\X.cell? (aB bd 9)=some (.bool fits)) (fun X=>X.rangeAt b 2 (stL t.st)) 16 rfl ?_
  refine Zp 0 rfl (h:=Zp 1 rfl (h:=Zp 2 rfl (h:=?_)));try simp only [Zq]
  refine Zp 3 rfl (h:=?_);try simp only [Zq]
  refine fP 4 (v:=stV t.st) [10,11,12,16] rfl Zb Zb Zb (fun _ _ _ h=>h) Zb Zd Zd Zb (fx rfl (.tmp 131) rfl b 2 ?_ t.st ?_) ⟨hA,fun _=>hB⟩ ?_
  ·rfl
  ·intro w hw;exact hw.2
  try simp only [Zq]
  refine bG 5 (v:=insV i) rfl Zb Zb Zb (fun _ _ _ h=>h) Zd Zb (dh rfl (.tmp 9) rfl bi 0 ?_ i ?_) ⟨hA,fun _=>hB⟩ ?_
  ·rfl
  ·intro w hw;exact hw.1
  try simp only [Zq]
  refine Zp 6 rfl (h:=Zt 7 rfl (h:=Zp 8 rfl (h:=?_)));try simp only [Zq]
  refine Zt 9 rfl (h:=?_);try simp only [Zq]
  refine Zs 10 rfl fun K hK=>?_
  go_simp
  refine (NX.out _).mono ?_
  rintro e w9 ⟨rfl,q9,rfl⟩
  obtain ⟨V9,EW⟩: ∃V9,V9=more wc.drew q9:=⟨_,rfl⟩
  rw [<-EW]
  have b9:Below wc.heap.size wc V9:=by rw [EW];exact an (ag (zaa _ wc)) (au _ _) (zaq _)
  clear EW
  refine hK _ _ ⟨HA.out V9 b9,fun _=>HBf.out V9 b9⟩ ?_
  clear hK K hA hB
  have hA:=HA.out V9 b9
  have hB:=HBf.out V9 b9
  have BH:=Dt.out.kp (Kp.of_below (X:=fun _=>False) b9) (fun _ _=>id) id
  have Hb:=HS.out.below b9
  have CN:gs1≠b:=fun e=>J9 (e ▸ .inl rfl)
  obtain ⟨BI,yX⟩:=BH.setSt CN (nextS t.st i g0 g1 fits)
  have yC:=Hb.kp yX Za Za Za
  have E7:=Zh BI
  have xI:=Zh yC
  have Ho:=Zh BH.there_st
  have E9:=Zh ((Kp.of_below (X:=fun k=>k=b) b9).trans yX)
  clear BH Hb BI yC yX b9 NX
  refine Zp 11 rfl (h:=Zp 12 rfl (h:=Zp 13 rfl (h:=?_)));try simp only [Zq]
  refine Zp 14 rfl (h:=Zp 15 rfl (h:=?_));try simp only [Zq]
  refine Zs 16 rfl fun K hK=>?_
  refine bD rfl (wp_store_mid 78 (.tmp 142) (.tmp 139) rfl b 2 (stC (nextS t.st i g0 g1 fits).f) rfl rfl (by rw [cO];exact Ho.out) (by rw [cO];exact dS) (fT _) ?_)
  rw [show (stC (nextS t.st i g0 g1 fits).f).toList=stL (nextS t.st i g0 g1 fits) from rfl]
  generalize EZ:V9.setCells b 2 (stL (nextS t.st i g0 g1 fits))=V10 at*
  refine hK _ _ ⟨⟨xI.out.rng,aa xI.out.hd 10,aa xI.out.hd 11,aa xI.out.hd 9⟩,fun hh=>Bool.noConfusion (hh.symm.trans (show _=true by kernel_rfl))⟩ ?_
  clear hK K hA hB EZ Ho HA HBf
  refine af Zb ?_ _
  generalize stV (nextS t.st i g0 g1 fits)=Z
  go_upto_region 22 with fail
  try simp only [Zq]
  refine wp_region_lit ?_
  refine wpList_load_mid rfl 175 (.tmp 10) rfl bd 0 rfl (didA true (wrB i.op) (spanA t.st i) (lenI i) (exB i.op) (acqB i.op) (relB i.op) (bq t.st i) (bw t.st i) fits g0 g1 n st).toList _ (fun j v hv=>by rw [aa xI.out.hd];simpa using hv) Tryz.underlying175 rfl dm ?_
  go_frame
  refine wpList_plain rfl ?_
  intro K hK
  refine cG 175 (.tmp 6) (.tmp 143) rfl W.heap.size 0 (didA true (wrB i.op) (spanA t.st i) (lenI i) (exB i.op) (acqB i.op) (relB i.op) (bq t.st i) (bw t.st i) fits g0 g1 n st) rfl rfl xI.out.h6 (by simp [bK,didA]) dm (ny ..) ?_
  intro V11 g11 k11 z11
  rw [nt] at g11
  refine hK _ _ ?_
  clear hK K
  have G11:=Zh g11
  have K11:=Zh k11
  clear g11 k11 z11
  have GO:(didA true (wrB i.op) (spanA t.st i) (lenI i) (exB i.op) (acqB i.op) (relB i.op) (bq t.st i) (bw t.st i) fits g0 g1 n st).size=15:=rfl
  generalize didA true (wrB i.op) (spanA t.st i) (lenI i) (exB i.op) (acqB i.op) (relB i.op) (bq t.st i) (bw t.st i) fits g0 g1 n st=D at*
  go_frame
  go_wp2_with fail
  refine ⟨rfl,(dG rfl G11.out GO).choose,(dG rfl G11.out GO).choose_spec,⟨_,rfl⟩,?_⟩
  have hD:=KH.out {t with st:=nextS t.st i g0 g1 fits} V10 pv1 {zF with st:=lu t.st i (dv hv) zF.st g0 g1 fits h0 h1} E7.out (fun k hk=> .inl (eU (t:=t) (t':={t with st:=nextS t.st i g0 g1 fits}) rfl rfl rfl hk)) (E9.out.mono (fun k _ e=> .inl e))
  rw [zY.out]
  have w10:=hD.kp.size
  have w11:=K11.out.size
  have nF: ∀k,F1 k->k≠W.heap.size:=fun k hk e=>by
   rcases K3.out k hk with h|h
   ·have:=(HFl.out k h).2
    omega
   ·omega
  refine ⟨(hD.mac.kp K11.out (fun k hk e=>by
   rcases hk with hk|⟨h1, -⟩
   ·exact nF k hk e
   ·omega)).wide (fun k hk=>?_) (dp HFl.out hM Za),(KY.out.next hD.kp (fun k hk hF=>(K3.out k hF).elim id (fun h=>by omega))).next K11.out (fun k hk e=>by omega),(K11.out.cell (by have:=Qj.out.M_lt;omega) (fun e=>by have:M=W.heap.size:=e;omega)).trans (hD.row.trans PX.out)⟩
  have zu:=(hD.mac.lt k hk).2
  rcases hk with hk|⟨h1, -⟩
  ·rcases K3.out k hk with h|h
   ·exact .inl h
   ·exact .inr ⟨by omega,by omega⟩
  ·exact .inr ⟨by omega,by omega⟩
def mSom(n:Nat)(fail:Bool):Nat->MSt->Option (MSt×Int)
 |0,s=>some (s,0)
 |k+1,s=>s.ts[n]?.bind fun t=>
  if t.end_≠0 then some (s,0)
  else if s.taken<0 then none
  else if 65536<=s.taken then some (s,16)
  else (mStep {s with taken:=s.taken+1} n fail).bind fun s'=>mSom n fail k s'
def mRw:Nat->Nat->Bool->MSt->Option (MSt×Bool×Int)
 |0,_,g,s=>some (s,g,0)
 |k+1,n,g,s=>s.ts[n]?.bind fun t=>
  (mSom n false 1 s).bind fun r=>if r.2≠0 then some (r.1,g||decide (t.end_=0),r.2) else mRw k (n+1) (g||decide (t.end_=0)) r.1
def mAl:Nat->MSt->Option (MSt×Int)
 |0,s=>some (s,0)
 |k+1,s=>(mRw s.ts.length 0 false s).bind fun r=>if r.2.2≠0 then some (r.1,r.2.2) else if r.2.1 then mAl k r.1 else some (r.1,0)
theorem qK{W:qW}{M:Nat}{F:Nat->Prop}{bs:List Nat}{s:MSt}(h:MacAt W M F bs s)(n b:Nat)(t:TD)(fail:Bool)(hb:bs[n]?=some b)(ht:s.ts[n]?=some t)(he:t.end_≠0):
  qC 63 #[pP M,iI n,.bool fail] W fun e w'=>(∃x,e= .returned x)/\MacD W M F bs s w':=by
 obtain ⟨cv,pv,gs,sc,hx,I3,CV,DX,yY,x'⟩:=h.th hb ht
 have xo:=hx.ob.lt
 have q39:W.cell? (aB b 39)=some (iI t.end_):=hx.cell 39 Za
 have D5:(t.end_ !=0)=true:=by simpa using he
 generalize t.end_=en at*
 have AT:=Zh (fun W' (yN:Below W.heap.size W W')=>(h.below yN).at_call hb ht)
 have H:=Zh h
 clear x' h hx CV yY
 go_enter Tryz.func63,Tryz.ntmps63
 go_wp2_with fail
 refine (AT.out _ ZG).mono ?_
 rintro e w1 ⟨rfl,rfl⟩
 go_wp2_with fail
 exact ⟨rfl,(dG rfl (zab _ _) rfl).choose,(dG rfl (zab _ _) rfl).choose_spec,⟨_,rfl⟩,H.out.same (ab (zaa _ _) _)⟩
theorem qO{W:qW}{M:Nat}{F:Nat->Prop}{bs:List Nat}{s s':MSt}(h:MacAt W M F bs s)(n:Nat)(fail:Bool)(hs:mStep s n fail=some s'):
  qC 63 #[pP M,iI n,.bool fail] W fun e w'=>(∃x,e= .returned x)/\MacD W M F bs s' w':=by
 have hl:=h.bl
 unfold mStep at hs
 cases ht:s.ts[n]? with
 |none=>rw [ht] at hs;cases hs
 |some t=>
  rw [ht] at hs
  have hn:=(List.getElem?_eq_some_iff.1 ht).1
  obtain ⟨b,hb⟩: ∃b,bs[n]?=some b:=⟨bs[n],zaC Za⟩
  simp only [zaZ] at hs
  by_cases he:t.end_≠0
  ·rw [if_pos he] at hs
   obtain rfl:=zae hs
   exact qK h n b t fail hb ht he
  ·rw [if_neg he] at hs
   by_cases hp:t.st.pc<0
   ·rw [if_pos hp] at hs
    cases hs
   ·rw [if_neg hp] at hs
    cases hi:t.code[t.st.pc.toNat]? with
    |none=>rw [hi] at hs;cases hs
    |some i=>
     rw [hi] at hs
     simp only [zaZ] at hs
     cases hv:enc i with
     |none=>rw [hv] at hs;simp at hs
     |some v=>
      rw [hv] at hs
      simp only [Option.isSome_some,if_true] at hs
      cases hm:meB i.op
      ·rw [hm] at hs
       simp only [zaY,if_false] at hs
       cases h1:stopT t i with
       |none=>rw [h1] at hs;cases hs
       |some t1=>
        rw [h1] at hs
        obtain rfl:=zae hs
        exact qJ h n b t t1 i fail hb ht Za t.st.pc.toNat Za hi v hv hm h1
      ·rw [hm] at hs
       simp only [if_true] at hs
       exact qN h n b t i fail hb ht Za t.st.pc.toNat Za hi v hv hm s' hs
theorem MacAt.tick{W:qW}{M:Nat}{F:Nat->Prop}{bs:List Nat}{s:MSt}(h:MacAt W M F bs s)(v:Int):MacAt (W.setCell ⟨M,3,none⟩ (iI v)) M F bs {s with taken:=v}/\Kp (fun k=>k=M) W (W.setCell ⟨M,3,none⟩ (iI v)):=by
 have hk:Kp (fun k=>k=M) W (W.setCell ⟨M,3,none⟩ (iI v)):=Kp.set W _ _ _
 obtain ⟨tv,bv,ks,zG,hm,hf⟩:=h.at_
 have hs: ∀r∈mcR ks s.bytes,r.ix≠3:=by simp [mcR]
 have ho:=hm.ob.set 3 (iI v) hs
 have ec:(mcC tv bv s.size s.taken).setIfInBounds 3 (iI v)=mcC tv bv s.size v:=by simp [mcC]
 have GI: ∀k,foot M (mcC tv bv s.size v) (mcR ks s.bytes) k↔foot M (mcC tv bv s.size s.taken) (mcR ks s.bytes) k:=fun k=>by
  rw [<-ec]
  exact iq hs
 rw [ec] at ho
 have MS:foot M (mcC tv bv s.size s.taken) (mcR ks s.bytes) M:= .inl rfl
 refine ⟨⟨⟨h.ok.th,h.ok.n1,h.ok.n8,h.ok.bl,h.ok.sm,h.ok.sz⟩,fun k wZ=>by have:=h.lt k wZ;have:=hk.size;omega,tv,bv,ks,zG,⟨hm.len,ho,fun n q t hq ht=>?_,hm.lo,hm.ap,hm.gp,fun n q t hq ht=>?_⟩,fun k wZ=>hf k ?_⟩,hk⟩
 ·exact (hm.th n q t hq ht).kp hk (fun k wZ e=>(hm.mp n q t hq ht).1 k (e ▸ MS) wZ) (fun e=>(hm.mp n q t hq ht).2 (e ▸ MS))
 ·exact ⟨fun b hb=>(hm.mp n q t hq ht).1 b ((GI b).1 hb),fun hb=>(hm.mp n q t hq ht).2 ((GI _).1 hb)⟩
 ·rcases wZ with wZ|wZ
  ·exact .inl ((GI k).1 wZ)
  ·exact .inr wZ
theorem MacAt.cell3{W:qW}{M:Nat}{F:Nat->Prop}{bs:List Nat}{s:MSt}(h:MacAt W M F bs s):W.cell? (aB M 3)=some (iI s.taken)/\(∀i,W.frozen? (aB M i)=false)/\W.cell? (aB M 2)=some (iI s.size)/\F M:=by
 obtain ⟨tv,bv,ks,zG,hm,hf⟩:=h.at_
 exact ⟨hm.cells 3,ah hm.ob.out,hm.cells 2,hf M (.inl (.inl rfl))⟩
theorem MacAt.end39{W:qW}{M n b:Nat}{F:Nat->Prop}{bs:List Nat}{s:MSt}{t:TD}(h:MacAt W M F bs s)(hb:bs[n]?=some b)(ht:s.ts[n]?=some t):W.cell? (aB b 39)=some (iI t.end_):=by
 obtain ⟨cv,pv,gs,sc,hx, -⟩:=h.th hb ht
 exact hx.cell 39 Za
theorem fV{W:qW}{M:Nat}{F:Nat->Prop}{bs:List Nat}{s s':MSt}{e0:Int}(h:MacAt W M F bs s)(n k:Nat)(hk:k<=65536)(fail:Bool)(hs:mSom n fail k s=some (s',e0))(hn:n<bs.length):
  qC 34 #[pP M,iI n,iI k,.bool fail] W fun e w'=>e= .returned (iI e0)/\MacD W M F bs s' w':=by
 have hM:=h.M_lt
 have HF:=Zh h.lt
 have HS:=Zh hs
 have H:=Zh (h.same (zaa _ _))
 clear h hs
 go_enter Tryz.func34,Tryz.ntmps34
 go_wp2_with fail
 go_loopw [10] (fun v10 wr=> ∃(j:Nat) (sj:MSt),v10=iI j/\j<=k/\MacD W M F bs sj wr/\mSom n fail (k-j) sj=some (s',e0)) (fun v10 _=>k-(intOf v10).toNat)
 case atStart=>exact ⟨0,s,rfl,by omega,H.out,HS.out⟩
 case round=>
  obtain ⟨j,sj,rfl,hj,hm,xX⟩:=hrel
  by_cases zQ:j<k
  ·have hl:=hm.mac.bl
   obtain ⟨t,ht⟩: ∃t,sj.ts[n]?=some t:=⟨sj.ts[n]'Za,zaC _⟩
   obtain ⟨b,hb⟩: ∃b,bs[n]?=some b:=⟨bs[n],zaC hn⟩
   obtain ⟨g,c,q0,hc,hg,xn⟩:=hm.mac.row
   have q1:=xn n b hb
   have q39:=hm.mac.end39 hb ht
   obtain ⟨q3,qf, -,MX⟩:=hm.mac.cell3
   have Er:(n:Int)<bs.length:=by omega
   have EC:(j:Int)<k:=by omega
   have Cb:IntKind.i64.wrap ((j:Int)+1)=(j:Int)+1:=aR Za Za
   rw [show k-j=(k-(j+1))+1 by omega] at xX
   unfold mSom at xX
   rw [ht] at xX
   simp only [zaZ] at xX
   clear xn hl
   by_cases he:t.end_≠0
   ·rw [if_pos he] at xX
    have yW:=zae xX
    injection yW with h1 h2
    have H1:=Zh h1
    have H2:=Zh h2
    clear h1 h2
    have D5:(t.end_ !=0)=true:=by simpa using he
    have HM:=Zh hm
    clear hm xX he
    go_wp2_with fail
    go_ret
    exact ⟨by rw [<-H2.out];rfl,H1.out ▸ HM.out⟩
   ·rw [if_neg he] at xX
    have D5:(t.end_ !=0)=false:=by simpa using he
    by_cases h0:sj.taken<0
    ·rw [if_pos h0] at xX
     cases xX
    ·rw [if_neg h0] at xX
     by_cases h6:65536<=sj.taken
     ·rw [if_pos h6] at xX
      have yW:=zae xX
      injection yW with h1 h2
      have H1:=Zh h1
      have H2:=Zh h2
      clear h1 h2
      have HM:=Zh hm
      clear hm xX he
      go_wp2_with fail
      go_ret
      exact ⟨by rw [<-H2.out];rfl,H1.out ▸ HM.out⟩
     ·rw [if_neg h6] at xX
      cases yH:mStep {sj with taken:=sj.taken+1} n fail with
      |none=>rw [yH] at xX;cases xX
      |some s2=>
       rw [yH] at xX
       simp only [zaZ] at xX
       have u':IntKind.i64.wrap (sj.taken+1)=sj.taken+1:=aR Za Za
       obtain ⟨Fg,DD⟩:=hm.mac.tick (sj.taken+1)
       have CS:=Zh (qO Fg n fail yH)
       have HM:=Zh hm
       have Nh:=Zh DD
       have Du:=Zh xX
       have Qt:=Zh MX
       clear hm xX he Fg DD yH MX
       go_wp2_with fail
       refine CS.out.mono ?_
       rintro e w1 ⟨⟨x,rfl⟩,hD⟩
       have HD:=Zh hD
       clear hD CS
       go_wp2_with fail
       refine ⟨⟨j+1,s2,by simp,by omega,?_,Du.out⟩,by simp [intOf];omega⟩
       have hz:=Nh.out.size
       refine HM.out.next HF.out hM ⟨HD.out.mac.wide (fun i hi=>hi.imp id (fun h=>?_)) (dp HM.out.mac.lt HM.out.mac.M_lt ?_),(Nh.out.mono (fun k _ e=>e ▸ Qt.out)).trans HD.out.kp,HD.out.row.trans (zaH _ _ _ _ (fun e=>by have:=congrArg Addr.off e;simp at this))⟩
       ·simp [World.setCell] at h
        exact h
       ·exact zal hz HD.out.kp.size
  ·have zO:k=j:=by omega
   subst zO
   rw [Nat.sub_self] at xX
   unfold mSom at xX
   have yW:=zae xX
   injection yW with h1 h2
   have H1:=Zh h1
   have H2:=Zh h2
   clear h1 h2
   have HM:=Zh hm
   have yp: ¬(k:Int)<k:=by omega
   clear hm xX
   go_wp2_with fail
   go_ret
   exact ⟨by rw [<-H2.out];rfl,H1.out ▸ HM.out⟩
end Go.Proofs.YtjmfoeajhiimnaaGreatDoor
