/- Walks. No condition. -/
import Derived.Test.YtcekjfmfcefjpaaGreatDoorG43
set_option maxRecDepth 100000
set_option maxHeartbeats 0
set_option linter.all false
namespace Go.Proofs.YtcekjfmfcefjpaaGreatDoor
open Go.RowKit Go.Sort
theorem pN{t t1:TD}{i:Ins}(h:stopT t i=some t1):t1.st=t.st:=by
 unfold stopT at h
 repeat' split at h
 all_goals first|(obtain rfl:=zae h;rfl)|cases h
theorem pO{t t1:TD}{i:Ins}(h:stopT t i=some t1)(ho:t.ok):t1.ok:=by
 unfold stopT at h
 repeat' split at h
 all_goals first|(obtain rfl:=zae h;exact ⟨ho.st,ho.code,ho.clen,ho.sl,ho.np⟩)|cases h
theorem qt{W:qW}{M:Nat}{F:Nat->Prop}{bs:List Nat}{s:MSt}(h:MacAt W M F bs s)(n b:Nat)(t t1:TD)(i:Ins)(fail:Bool)(hb:bs[n]?=some b)(ht:s.ts[n]?=some t)(he:t.end_=0)(p:Nat)(hp:t.st.pc=p)(hi:t.code[p]?=some i)(v:Nat)(hv:enc i=some v)(hm:meB i.op=false)(h1:stopT t i=some t1):
  qC 7 #[pP M,iI n,.bool fail] W fun e w'=>(∃x,e= .returned x)/\MacD W M F bs {s with ts:=s.ts.set n {t1 with st:=nextS t.st i 0 0 false}} w':=by
 obtain ⟨cv,pv,gs,sc,hx,IF,CN,D0,yQ,xU⟩:=h.th hb ht
 have zz:=h.ok.th t (zat ht)
 have hM:=h.M_lt
 have xg:=hx.ob.lt
 obtain ⟨ca,cc,rfl,wZ,J2⟩:=hx.code
 obtain ⟨gc,rfl⟩:=cr J2 (by have:=(List.getElem?_eq_some_iff.1 hi).1;omega)
 have BM:=(List.getElem?_eq_some_iff.1 hi).1
 obtain ⟨st,xw⟩: ∃st,t.sites[p]?=some st:=⟨t.sites[p]'(by rw [zz.sl];exact BM),zaC _⟩
 have DI:=(List.getElem?_eq_some_iff.1 xw).1
 have q39:W.cell? (aB b 39)=some (iI 0):=he ▸ hx.cell 39 Za
 have AT:=Zh (fun W' (yF:Below W.heap.size W W')=>(h.below yF).at_call hb ht)
 have IN:=Zh (fun W' (yF:Below W.heap.size W W')=>l7 (hx.kp (Kp.of_below (X:=fun _=>False) yF) (fun _ _=>id) id))
 have HX:=Zh hx
 have H:=Zh h
 have Kw:=Zh xU
 clear xU h hx
 go_enter Tryz.func7,Tryz.ntmps7
 go_wp2_with fail
 refine (AT.out _ ZU).mono ?_
 rintro e w1 ⟨rfl,rfl⟩
 go_wp2_with fail
 refine (IN.out _ ZU).mono ?_
 rintro e w1 ⟨rfl,rfl⟩
 have zR:(decide (0<=t.st.pc)&&decide (t.st.pc<(t.code.length:Int)))=true:=by
  rw [hp]
  simp
  omega
 rw [zR]
 go_wp2_with fail
 refine aT (R:=fun X=>Below W.heap.size W X/\X.heap[W.heap.size]?=some (.cells bH 46 (0,0))) ⟨ag (ab (zaa _ _) _),zab _ _⟩ ?_
 rintro V ⟨yw,h6⟩
 have zy:=HX.out.kp (Kp.of_below (X:=fun _=>False) yw) (fun _ _=>id) id
 have zo: ∀X,Below V.heap.size V X->X.cell? (aB b 0)=some (.slice (aA gc) t.code.length cc)/\X.cell? (aB b 33)=some (iI (p:Int))/\X.cell? (aB b 1)=some (.slice (aA gs) t.sites.length sc)/\X.rangeAt gc (p*7) (insC i)/\X.rangeAt gs (p*3) (siteC n st):=fun X hX=>by
  have BC:=zy.kp (Kp.of_below (X:=fun _=>False) hX) (fun _ _=>id) id
  exact ⟨BC.cell 0 Za,(BC.st 31 Za).trans (by rw [bm,hp]),BC.cell 1 Za,BC.range_ins hi,BC.range_site xw⟩
 have hA:=zo _ (ag (zaa _ V))
 have HA:=Zh zo
 clear zo
 have hB:True:=trivial
 have FU:(p:Int)<t.code.length:=by omega
 have Jh:(p:Int)<t.sites.length:=by omega
 have HV:=Zh zy
 have HB:=Zh yw
 clear zy yw
 refine ae (fun X=>X.cell? (aB b 0)=some (.slice (aA gc) t.code.length cc)/\X.cell? (aB b 33)=some (iI (p:Int))/\X.cell? (aB b 1)=some (.slice (aA gs) t.sites.length sc)/\X.rangeAt gc (p*7) (insC i)/\X.rangeAt gs (p*3) (siteC n st)) (fun W=>True) 26 rfl ?_
 refine Zp 0 rfl (h:=Zp 1 rfl (h:=Zp 2 rfl (h:=Zt 3 rfl (h:=Zp 4 rfl (h:=Zp 5 rfl (h:=Zp 6 rfl (h:=Zp 7 rfl (h:=Zt 8 rfl (h:=Zp 9 rfl (h:=?_))))))))));try simp only [Zq]
 refine bD 10 (v:=insV i) rfl Zb Zb Zb (fun _ _ _ h=>h) Zg Zb (dh rfl (.tmp 42) rfl gc (p*7) ?_ i ?_) ⟨hA,fun _=>hB⟩ ?_
 ·simp [Act.eval]
 ·intro w hw;exact hw.2.2.2.1
 try simp only [Zq]
 refine Zp 11 rfl (h:=Zp 12 rfl (h:=Zp 13 rfl (h:=Zt 14 rfl (h:=Zp 15 rfl (h:=Zp 16 rfl (h:=Zp 17 rfl (h:=Zp 18 rfl (h:=Zt 19 rfl (h:=Zp 20 rfl (h:=?_))))))))));try simp only [Zq]
 refine bD 21 (v:=siteV n st) rfl Zb Zb Zb (fun _ _ _ h=>h) Zg Zb (lO rfl (.tmp 53) rfl gs (p*3) ?_ n st ?_) ⟨hA,fun _=>hB⟩ ?_
 ·simp [Act.eval]
 ·intro w hw;exact hw.2.2.2.2
 try simp only [Zq]
 refine cX 22 (v:= .agg (didS n st)) rfl Zb Zb Zb (fun _ _ _ h=>h) Zg Zb (Or.inl ⟨by rfl,fun W _=>?_⟩) ⟨hA,fun _=>hB⟩ ?_
 ·kernel_rfl
 try simp only [Zq]
 refine iO 23 24 (xi:=9) (xj:=10) rfl rfl rfl rfl rfl rfl rfl rfl Zg Zb Zb Zb Zg iJ iK (fun w' Bc=>HA.out w' (ar (ag (zaa _ V)) Bc (zaq _))) (fun _ _=>trivial) ?_
 intro bi bd V2 hT
 have T:=Zh hT
 clear hT hA
 have b2:Below V.heap.size V V2:=ar (ag (zaa _ V)) T.out.bel (zaq _)
 have hA:=HA.out V2 b2
 have x1:V.heap.size<=bi:=T.out.i1.1
 have x2:V.heap.size<=bd:=T.out.j1.1
 have x3:bi≠bd:=T.out.ne
 have x4:bi<V2.heap.size:=T.out.i1.2
 have x5:bd<V2.heap.size:=T.out.j1.2
 try simp only [Zq]
 refine Zs 25 rfl fun K hK=>?_
 refine bw rfl (cD 85 (.tmp 9) (.tmp 43) rfl bi 0 (insC i).toArray rfl rfl (T:=85) T.out.hi (by simp [ew,insC]) ie (by simp [insC,Value.oneCell']) ?_)
 intro V3 g3 k3 z3
 rw [lZ] at g3
 have b3:Below V.heap.size V V3:=aH b2 k3 (fun k e=>by omega)
 refine hK _ _ ⟨HA.out V3 b3,fun _=>trivial⟩ ?_
 clear hK K hA
 have hA:=HA.out V3 b3
 have g3d:V3.heap[bd]?=some (.cells bH 46 (0,0)):=(k3.block bd x5 (fun e=>x3 e.symm)).trans T.out.hj
 refine Zs 26 rfl fun K hK=>?_
 refine bw rfl (cD 46 (.tmp 10) (.tmp 55) rfl bd 0 (didS n st) rfl rfl g3d (by simp [bH,didS]) dj (by simp [didS,Value.oneCell']) ?_)
 intro V4 g4 k4 z4
 rw [nk] at g4
 have b4:Below V.heap.size V V4:=aH b3 k4 (fun k e=>by omega)
 refine hK _ _ ⟨HA.out V4 b4,fun _=>trivial⟩ ?_
 clear hK K hA
 refine af Zb ?_ _
 have b6lt:W.heap.size<V.heap.size:=ac h6
 have HS:Hid (StA W bi bd i (didA false false 0 0 false false false 0 0 false 0 0 n st) V4):=Zh ⟨(b4.block _ b6lt).trans h6,(k4.block bi Za (fun e=>x3 e)).trans g3,g4,by omega,by omega,x3⟩
 have Ch:=Zh (ar HB.out b4 HB.out.size)
 clear g3 g4 k3 k4 b2 b3 b4 HA HB HV T g3d h6 x4 x5 z3 z4 hB
 have zy:=HX.out.kp (Kp.of_below (X:=fun _=>False) Ch.out) (fun _ _=>id) id
 have zo: ∀X,Below V4.heap.size V4 X->X.rangeAt b 2 (stL t.st)/\X.rangeAt bi 0 (insC i):=fun X hX=>⟨(zy.kp (Kp.of_below (X:=fun _=>False) hX) (fun _ _=>id) id).range_st,(HS.out.below hX).rng⟩
 have HA:=Zh zo
 have hA:=zo _ (ag (zaa _ V4))
 have hB:True:=trivial
 have HV:=Zh zy
 have ASK:=Zh (fun W'=>ye5 t.st i (zz.code i (zat hi)) (Or.inr hm) W')
 clear zo zy
 go_wp2_with fail
 refine ae (fun X=>X.rangeAt b 2 (stL t.st)/\X.rangeAt bi 0 (insC i)) (fun W=>True) 12 rfl ?_
 refine Zp 0 rfl (h:=Zp 1 rfl (h:=Zp 2 rfl (h:=?_)));try simp only [Zq]
 refine bD 3 (v:=stV t.st) rfl Zb Zb Zb (fun _ _ _ h=>h) Zg Zb (fp rfl (.tmp 59) rfl b 2 ?_ t.st ?_) ⟨hA,fun _=>hB⟩ ?_
 ·rfl
 ·intro w hw;exact hw.1
 try simp only [Zq]
 refine bD 4 (v:=insV i) rfl Zb Zb Zb (fun _ _ _ h=>h) Zg Zb (dh rfl (.tmp 9) rfl bi 0 ?_ i ?_) ⟨hA,fun _=>hB⟩ ?_
 ·rfl
 ·intro w hw;exact hw.2
 try simp only [Zq]
 refine Zs 5 rfl fun K hK=>?_
 go_simp
 go_at_call 18
 refine (ASK.out _).mono ?_
 rintro e w5 ⟨rfl,q5,rfl⟩
 obtain ⟨V5,EM⟩: ∃V5,V5=more V4.drew q5:=⟨_,rfl⟩
 rw [<-EM]
 have b5:Below V4.heap.size V4 V5:=by rw [EM];exact ar (ag (zaa _ V4)) (av _ _) (zaq _)
 clear EM
 refine hK _ _ ⟨HA.out V5 b5,fun _=>trivial⟩ ?_
 clear hK K hA
 have hA:=HA.out V5 b5
 have Ce:=HS.out.below b5
 have x6:bd<V5.heap.size:=ac Ce.hd
 have x7:b<V5.heap.size:=zar HV.out.ob.lt b5.size
 have x8:b<bd:=by omega
 have x9:bi<V5.heap.size:=ac Ce.hi
 refine Zp 6 rfl (h:=Zp 7 rfl (h:=Zp 8 rfl (h:=Zp 9 rfl (h:=?_))));try simp only [Zq]
 refine Zs 10 rfl fun K hK=>?_
 refine bw rfl (cD 42 (.tmp 65) (.tmp 63) rfl bd 1 (accC false 0 0 false false false 0 0) rfl rfl Ce.hd (by simp [accC,didA]) l6 (by simp [accC,Value.oneCell']) ?_)
 intro V6 g6 k6 z6
 rw [nr] at g6
 refine hK _ _ ⟨⟨k6.rng hA.1 x7 Za,k6.rng hA.2 x9 x3⟩,fun _=>trivial⟩ ?_
 clear hK K
 have EQ:=hA
 clear hA
 have hA:V6.rangeAt b 2 (stL t.st)/\V6.rangeAt bi 0 (insC i):=⟨k6.rng EQ.1 x7 Za,k6.rng EQ.2 x9 x3⟩
 have Cd:StA W bi bd i (didA false false 0 0 false false false 0 0 false 0 0 n st) V6:=Ce.put k6 g6
 refine Zp 11 rfl (h:=?_);try simp only [Zq]
 refine Zs 12 rfl fun K hK=>?_
 refine bw rfl (dz 4 (.tmp 66) (.tmp 64) rfl bd 0 (.bool false) rfl rfl Cd.hd (by simp [didA]) rfl rfl ey ?_)
 intro V7 g7 k7 z7
 rw [nl] at g7
 refine hK _ _ ⟨⟨k7.rng hA.1 Za Za,k7.rng hA.2 Za x3⟩,fun _=>trivial⟩ ?_
 clear hK K
 have EO:StA W bi bd i (didA false false 0 0 false false false 0 0 false 0 0 n st) V7:=Cd.put k7 g7
 refine af Zb ?_ _
 have kk:Kp (fun k=>k=bd) V4 V7:=((Kp.of_below b5).trans k6).trans k7
 have zy:=HV.out.kp kk (fun k hk e=>by have:=(HX.out.ob.foot_lt hk).2;omega) (by have:=HX.out.sl;omega)
 have AE:=Zh EO
 have w7:W.heap.size<V7.heap.size:=ac EO.h6
 have Hb:=Zh zy
 have Fs:Hid (Below W.heap.size W V7):=Zh (aH Ch.out kk (fun k e=>by omega))
 clear hA EQ HS HV HA Ch g6 g7 k6 k7 kk b5 Ce Cd EO zy x6 x7 x9 z6 z7 ASK
 have q0:V7.cell? (aB bd 0)=some (.bool false):=aa AE.out.hd 0
 have i0:V7.cell? (aB bi 0)=some (iI i.op):=aa AE.out.hi 0
 have i1:V7.cell? (aB bi 1)=some (iI i.d):=aa AE.out.hi 1
 have i2:V7.cell? (aB bi 2)=some (iI i.n):=aa AE.out.hi 2
 have i3:V7.cell? (aB bi 3)=some (iI i.m):=aa AE.out.hi 3
 have i4:V7.cell? (aB bi 4)=some (iI i.e):=aa AE.out.hi 4
 have i5:V7.cell? (aB bi 5)=some (iI i.sz):=aa AE.out.hi 5
 have i6:V7.cell? (aB bi 6)=some (iI i.imm):=aa AE.out.hi 6
 go_wp2_with fail
 go_at_call 20
 refine (pM Hb.out yQ i t1 h1).mono ?_
 rintro e V8 ⟨rfl,hD⟩
 obtain ⟨⟨pv',K6,Gv⟩,z9⟩:=hD
 have GS:=AE.out.kp z9 (fun e=>by have:=(HX.out.ob.foot_lt e).2;omega) (fun e=>by have:=(HX.out.ob.foot_lt e).2;omega) (fun e=>by have:=(HX.out.ob.foot_lt e).2;omega)
 have AD:=Zh GS
 have G':=Zh K6
 have HF8:=Zh Gv
 have Hu:Hid (Kp (tfoot b gs sc (.slice (aA gc) t.code.length cc) pv t) W V8):=Zh ((Kp.of_below Fs.out).trans z9)
 clear q0 i0 i1 i2 i3 i4 i5 i6 GS K6 Gv z9 AE Hb
 have Jf:t1.st=t.st:=pN h1
 have q0:V8.cell? (aB bd 0)=some (.bool false):=aa AD.out.hd 0
 go_wp2_with fail
 have zo: ∀X,Below V8.heap.size V8 X->X.rangeAt bi 0 (insC i)/\X.cell? (aB bd 10)=some (.int .u64 (0:Nat))/\X.cell? (aB bd 11)=some (.int .u64 (0:Nat))/\X.cell? (aB bd 9)=some (.bool false):=fun X hX=>⟨(AD.out.below hX).rng,aa (AD.out.below hX).hd 10,aa (AD.out.below hX).hd 11,aa (AD.out.below hX).hd 9⟩
 have EP: ∀X,Below V8.heap.size V8 X->X.rangeAt b 2 (stL t.st):=fun X hX=>Jf ▸ (G'.out.kp (Kp.of_below (X:=fun _=>False) hX) (fun _ _=>id) id).range_st
 have HA:=Zh zo
 have HBf:=Zh EP
 have hA:=zo _ (ag (zaa _ V8))
 have hB:=EP _ (ag (zaa _ V8))
 have NX:=Zh (fun W'=>lh t.st i (zz.code i (zat hi)) zz.st 0 0 Za false v hv (zz.np i (zat hi)) W')
 clear zo EP q0
 refine ae (fun X=>X.rangeAt bi 0 (insC i)/\X.cell? (aB bd 10)=some (.int .u64 (0:Nat))/\X.cell? (aB bd 11)=some (.int .u64 (0:Nat))/\X.cell? (aB bd 9)=some (.bool false)) (fun X=>X.rangeAt b 2 (stL t.st)) 16 rfl ?_
 refine Zp 0 rfl (h:=Zp 1 rfl (h:=Zp 2 rfl (h:=Zp 3 rfl (h:=?_))));try simp only [Zq]
 refine fN 4 (v:=stV t.st) [10,11,12,16] rfl Zb Zb Zb (fun _ _ _ h=>h) Zb Zg Zg Zb (fp rfl (.tmp 131) rfl b 2 ?_ t.st ?_) ⟨hA,fun _=>hB⟩ ?_
 ·rfl
 ·intro w hw;exact hw.2
 try simp only [Zq]
 refine bD 5 (v:=insV i) rfl Zb Zb Zb (fun _ _ _ h=>h) Zg Zb (dh rfl (.tmp 9) rfl bi 0 ?_ i ?_) ⟨hA,fun _=>hB⟩ ?_
 ·rfl
 ·intro w hw;exact hw.1
 try simp only [Zq]
 refine Zp 6 rfl (h:=Zt 7 rfl (h:=Zp 8 rfl (h:=Zt 9 rfl (h:=?_))));try simp only [Zq]
 refine Zs 10 rfl fun K hK=>?_
 go_simp
 refine (NX.out _).mono ?_
 rintro e w9 ⟨rfl,q9,rfl⟩
 obtain ⟨V9,EL⟩: ∃V9,V9=more V8.drew q9:=⟨_,rfl⟩
 rw [<-EL]
 have b9:Below V8.heap.size V8 V9:=by rw [EL];exact ar (ag (zaa _ V8)) (av _ _) (zaq _)
 clear EL
 refine hK _ _ ⟨HA.out V9 b9,fun _=>HBf.out V9 b9⟩ ?_
 clear hK K hA hB
 have hA:=HA.out V9 b9
 have hB:=HBf.out V9 b9
 have BD:=G'.out.kp (Kp.of_below (X:=fun _=>False) b9) (fun _ _=>id) id
 have GR:=AD.out.below b9
 have CJ:gs≠b:=fun e=>yQ (e ▸ .inl rfl)
 obtain ⟨BE,yP⟩:=BD.setSt CJ (nextS t.st i 0 0 false)
 have yv:=GR.kp yP Za Za Za
 have ET:=Zh BE
 have xD:=Zh yv
 have Hc:=Zh BD.there_st
 have Kk:=Zh (Hu.out.next ((Kp.of_below (X:=fun k=>k=b) b9).trans yP) (fun k _ e=>e ▸ .inl rfl))
 clear BD GR BE yv yP b9 NX
 refine Zp 11 rfl (h:=Zp 12 rfl (h:=Zp 13 rfl (h:=Zp 14 rfl (h:=Zp 15 rfl (h:=?_)))));try simp only [Zq]
 refine Zs 16 rfl fun K hK=>?_
 refine bw rfl (wp_store_mid 79 (.tmp 142) (.tmp 139) rfl b 2 (stC (nextS t.st i 0 0 false).f) rfl rfl (by rw [cM];exact Hc.out) (by rw [cM];exact dO) (fR _) ?_)
 rw [show (stC (nextS t.st i 0 0 false).f).toList=stL (nextS t.st i 0 0 false) from rfl]
 generalize EN:V9.setCells b 2 (stL (nextS t.st i 0 0 false))=V10 at*
 refine hK _ _ ⟨⟨xD.out.rng,aa xD.out.hd 10,aa xD.out.hd 11,aa xD.out.hd 9⟩,fun hh=>Bool.noConfusion (hh.symm.trans (show _=true by kernel_rfl))⟩ ?_
 clear hK K hA hB EN Hc HA HBf
 refine af Zb ?_ _
 generalize stV (nextS t.st i 0 0 false)=Z
 go_upto_region 22 with fail
 try simp only [Zq]
 refine wp_region_lit ?_
 refine wpList_load_mid rfl 46 (.tmp 10) rfl bd 0 rfl (didA false false 0 0 false false false 0 0 false 0 0 n st).toList _ (fun j v hv=>by rw [aa xD.out.hd];simpa using hv) Tryz.underlying46 rfl dj ?_
 go_frame
 refine wpList_plain rfl ?_
 intro K hK
 refine cD 46 (.tmp 6) (.tmp 143) rfl W.heap.size 0 (didA false false 0 0 false false false 0 0 false 0 0 n st) rfl rfl xD.out.h6 (by simp [bH,didA]) dj (ns ..) ?_
 intro V11 g11 k11 z11
 rw [nj] at g11
 refine hK _ _ ?_
 clear hK K
 have G11:=Zh g11
 have K11:=Zh k11
 clear g11 k11 z11
 have GA:(didA false false 0 0 false false false 0 0 false 0 0 n st).size=15:=rfl
 generalize didA false false 0 0 false false false 0 0 false 0 0 n st=D at*
 go_frame
 go_wp2_with fail
 refine ⟨rfl,(dD rfl G11.out GA).choose,(dD rfl G11.out GA).choose_spec,⟨_,rfl⟩,?_⟩
 have xY:=HX.out.sl
 have hf: ∀k,tfoot b gs sc (.slice (aA gc) t.code.length cc) pv' {t1 with st:=nextS t.st i 0 0 false} k->tfoot b gs sc (.slice (aA gc) t.code.length cc) pv t k\/W.heap.size<k:=fun k hk=>by
  rcases HF8.out k (eN (t:=t1) (t':={t1 with st:=nextS t.st i 0 0 false}) rfl rfl rfl hk) with e|e
  ·exact .inl e
  ·exact .inr Za
 have I6:=ET.out.kp K11.out (fun k hk e=>by
  subst e
  rcases hf _ hk with e|e
  ·have:=(HX.out.ob.foot_lt e).2
   omega
  ·omega) Za
 exact Kw.out _ V11 pv' {pO h1 zz with st:=li t.st i (dt hv) zz.st 0 0 false Za Za} I6 (fun k hk=>(hf k hk).imp id Za) (Kk.out.next K11.out (fun k hk e=>by omega))
theorem eX{l:List Nat}(h:Small l)(j m:Nat):Small (partL l j m):=fun k=>by
 unfold partL
 rw [zaU,List.getElem?_take]
 split
 ·rw [List.getElem?_drop,<-zaU]
  exact h (j+k)
 ·simp
theorem kF{l:List Nat}(j m k:Nat)(hk:k<m):(partL l j m).getD k 0=l.getD (j+k) 0:=by
 unfold partL
 rw [zaU,List.getElem?_take,if_pos hk,List.getElem?_drop,<-zaU]
theorem ei{l:List Nat}(j m:Nat)(h:j+m<=l.length):(partL l j m).length=m:=by
 unfold partL
 rw [zaR,List.length_drop]
 omega
theorem pm{l:List Nat}{a m:Int}(h:thereM l a m=true)(ha:a<=1099511627776)(h1:1<=m)(h2:m<=16)(hl:l.length<=1000000): ∃j k:Nat,a=(j:Int)+65536/\m=k/\j+k<=l.length:=by
 unfold thereM at h
 simp only [za0,zau] at h
 obtain ⟨h3,h4⟩:=h
 have s1:sndB a m=true:=by unfold sndB;rw [zau];omega
 have s2:sndB 65536 (l.length:Int)=true:=by unfold sndB;rw [zau];omega
 unfold withinB loI hiI at h4
 rw [s1,s2] at h4
 simp only [if_true,zak,beq_iff_eq,za0] at h4
 unfold bLo bHi at h4
 refine ⟨(a-65536).toNat,m.toNat,by omega,by omega,?_⟩
 rcases h4 with h4|⟨h4,h5⟩
 ·omega
 ·split at h4
  ·omega
  ·split at h5<;>omega
theorem qZ(s:St)(i:Ins):spanA s i<=1099511627776:=by
 unfold spanA
 split<;>omega
theorem MacAt.bytes{W:qW}{M:Nat}{F:Nat->Prop}{bs:List Nat}{s:MSt}(h:MacAt W M F bs s)(hl:0<s.bytes.length): ∃g c,W.cell? (aB M 1)=some (.slice (aA g) s.bytes.length c)/\s.bytes.length<=c/\c<=9223372036854775807/\g<W.heap.size/\ ∀k,k<s.bytes.length->W.cell? (aB g k)=some (.int .u8 (s.bytes.getD k 0:Nat)):=by
 obtain ⟨tv,bv,ks,zv,hm,hf⟩:=h.at_
 have q1:=hm.cells 1
 obtain ⟨ba,c,rfl,hc,ho⟩:=hm.mem
 obtain ⟨g,rfl⟩:=cr ho hl
 refine ⟨g,c,q1,hc,?_,(ho.lt g rfl).2,fun k hk=>bS ho k _ ?_⟩
 ·obtain ⟨_,oc2,e2,Ej,Ei, -⟩:=az ho
  injection e2 with e2 e3 e4
  omega
 ·rw [zaU,zaC hk]
  exact fy (fun x:Nat=>Value.int .u8 x) s.bytes k _ (zaC hk)
theorem ybt:(Tryz.prog.info? 40).map (·.size)=some 2:=by kernel_rfl
theorem su{W:qW}{M:Nat}{F:Nat->Prop}{bs:List Nat}{s:MSt}(h:MacAt W M F bs s)(j m:Nat)(Aw:1<=m)(BQ:m<=16)(Gi:j+m<=s.bytes.length):qC 21 #[pP M,.agg #[iI ((j:Int)+65536),iI m]] W fun e w'=>e= .returned (.agg #[.int .u64 (rd0 s.bytes j m:Nat),.int .u64 (rd1 s.bytes j m:Nat)])/\Below W.heap.size W w':=by
 have hM:=h.M_lt
 have xg:=h.ok.bl
 have FL:=h.ok.sm
 obtain ⟨g,c,q1,hc,Dm,hg,xe⟩:=h.bytes Za
 clear h
 go_enter Tryz.func21,Tryz.ntmps21
 go_wp2_with fail
 refine aT (R:=fun X=>Below W.heap.size W X/\X.heap[W.heap.size]?=some (.cells #[iI ((j:Int)+65536),iI m] 38 (0,0))/\X.heap[W.heap.size+1]?=some (.cells #[.int .u64 0,.int .u64 0] 40 (0,0))) ⟨ab (ab (zaa _ _) _) _,(zac _ _ ZM).trans (zab _ _),aI (by simp only [au])⟩ ?_
 rintro V ⟨yw,hs,hr⟩
 have qs:=aa hs
 have BX:IntKind.i64.wrap (j:Int)=(j:Int):=a7 Za Za
 have Fc:(j:Int)+65536-65536=(j:Int):=by omega
 have Fb:(j:Int)<=s.bytes.length:=by omega
 have JP:j<=s.bytes.length:=by omega
 have yr:s.bytes.length<=c:=hc
 have D7:(j:Int)<=c:=by omega
 have J4:(m:Int)<=(c:Int)-j:=by omega
 have hc5:m<=c-j:=by omega
 have hc6: ¬c=j:=by omega
 have yJ:=Zh yw
 have HC:=Zh xe
 have HS:=Zh FL
 have hA:V.drew.cell? (aB W.heap.size 0)=some (iI ((j:Int)+65536))/\V.drew.cell? (aB W.heap.size 1)=some (iI m)/\V.drew.cell? (aB M 1)=some (.slice (aA g) s.bytes.length c):=⟨qs 0,qs 1,(yw.cell (p:=⟨M,1,none⟩) hM).trans q1⟩
 have hB:True:=trivial
 clear yw xe FL
 refine ae (fun X=>X.cell? (aB W.heap.size 0)=some (iI ((j:Int)+65536))/\X.cell? (aB W.heap.size 1)=some (iI m)/\X.cell? (aB M 1)=some (.slice (aA g) s.bytes.length c)) (fun W=>True) 11 rfl ?_
 refine Zp 0 rfl (h:=Zp 1 rfl (h:=Zp 2 rfl (h:=Zt 3 rfl (h:=Zp 4 rfl (h:=Zt 5 rfl (h:=Zp 6 rfl (h:=Zp 7 rfl (h:=Zp 8 rfl (h:=Zt 9 rfl (h:=Zp 10 rfl (h:=?_)))))))))));try simp only [Zq]
 refine Zs 11 rfl fun K hK=>?_
 go_simp
 refine hK _ _ ⟨hA,fun _=>trivial⟩ ?_
 clear hK K hA hB qs q1 BX Fc Fb JP yr D7 J4
 refine af Zb ?_ _
 go_wp2_with fail
 have hA:True:=trivial
 have hB:True:=trivial
 obtain ⟨k1,wT⟩: ∃k1,k1=min m 8:=⟨_,rfl⟩
 have n1:min (m:Int) 8=(k1:Int):=by omega
 have n2:(k1:Int)<=((c-j:Nat):Int):=by omega
 have n3:k1<=c-j:=by omega
 have n5:(k1:Int)<=(m:Int):=by omega
 have n6:k1<=m:=by omega
 have zX:=Zh wT
 clear wT
 refine ae (fun X=>True) (fun W=>True) 13 rfl ?_
 refine Zp 0 rfl (h:=Zp 1 rfl (h:=Zp 2 rfl (h:=Zp 3 rfl (h:=Zp 4 rfl (h:=Zp 6 rfl (h:=Zp 7 rfl (h:=Zp 8 rfl (h:=Zp 9 rfl (h:=Zp 10 rfl (h:=?_))))))))));try simp only [Zq]
 generalize Cx:(if c-j=k1 then (some ⟨g,j,none⟩:Option Addr) else some ⟨g,j+k1,none⟩)=pa
 obtain ⟨off,rfl,Js⟩: ∃off,pa=some ⟨g,off,none⟩/\(k1<m->off=j+k1):=by
  by_cases e:c-j=k1
  ·rw [if_pos e] at Cx
   exact ⟨j,Cx.symm,fun h=>by omega⟩
  ·rw [if_neg e] at Cx
   exact ⟨_,Cx.symm,fun _=>rfl⟩
 clear Cx
 have xe: ∀k,k<s.bytes.length->V.cell? (aB g k)=some (.int .u8 (s.bytes.getD k 0:Nat)):=fun k hk=>(yJ.out.cell (p:=⟨g,k,none⟩) hg).trans (HC.out k hk)
 have HV:=Zh xe
 clear xe
 refine Zs 5 rfl fun K hK=>?_
 go_simp
 go_at_call 50
 have wT:=zX.out
 have N1:=kZ g j (c-j) (partL s.bytes j k1) (eX HS.out _ _) (by rw [ei j k1 Za];omega) Za (by rw [ei j k1 Za];omega) V.drew.drew (fun k hk=>by
  rw [ei j k1 Za] at hk
  refine (HV.out (j+k) Za).trans ?_
  unfold byteC
  rw [kF j _ k hk])
 rw [ei j k1 Za] at N1
 refine N1.mono ?_
 rintro e w1 ⟨rfl,rfl⟩
 refine hK _ _ ⟨trivial,fun _=>trivial⟩ ?_
 clear hK K N1 wT
 refine Zs 11 rfl fun K hK=>?_
 go_simp
 go_at_call 50
 have wT:=zX.out
 have yy:(partL s.bytes (j+8) (m-8)).length=m-k1:=by
  by_cases e:m<=8
  ·rw [show m-8=0 by omega]
   simp [partL]
   omega
  ·rw [ei (j+8) (m-8) Za]
   omega
 have N2:=kZ g off (c-j-k1) (partL s.bytes (j+8) (m-8)) (eX HS.out _ _) (by rw [yy];omega) Za (by rw [yy];omega) V.drew.drew (fun k hk=>by
  rw [yy] at hk
  have h1:=Js Za
  subst h1
  refine (HV.out (j+k1+k) Za).trans ?_
  unfold byteC
  rw [kF (j+8) _ k Za,show j+k1+k=j+8+k by omega])
 rw [yy] at N2
 refine N2.mono ?_
 rintro e w1 ⟨rfl,rfl⟩
 refine hK _ _ ⟨trivial,fun _=>trivial⟩ ?_
 clear hK K N2 yy wT
 rw [show numK (partL s.bytes j k1) 8=rd0 s.bytes j m from by rw [zX.out];rfl,show numK (partL s.bytes (j+8) (m-8)) 8=rd1 s.bytes j m from rfl]
 generalize Dc:rd0 s.bytes j m=r0
 generalize yh:rd1 s.bytes j m=r1
 have Hj:=Zh Dc
 have Cm:=Zh yh
 clear Dc yh
 refine Zp 12 rfl (h:=?_);try simp only [Zq]
 refine Zs 13 rfl fun K hK=>?_
 refine bw rfl (cD 40 (.tmp 4) (.tmp 29) rfl (W.heap.size+1) 0 #[.int .u64 (r0:Nat),.int .u64 (r1:Nat)] rfl rfl (w:=V.drew.drew) (T:=40) hr Zi ybt ZL ?_)
 intro Z hZ Mx _
 refine hK _ _ ⟨trivial,fun _=>trivial⟩ ?_
 refine af Zb ?_ _
 clear hK K
 have z0:Z.cell? ⟨W.heap.size+1,0,none⟩=some (.int .u64 (r0:Nat)):=(aa hZ 0).trans rfl
 have z1:Z.cell? ⟨W.heap.size+1,1,none⟩=some (.int .u64 (r1:Nat)):=(aa hZ 1).trans rfl
 have hbz:=Zh (aH yJ.out ((Kp.dr (X:=fun b=>b=W.heap.size+1) V).trans ((Kp.dr _).trans Mx)) (fun b e=>by omega))
 clear hr hs hZ Mx yJ HC HS HV
 go_wp2_with fail
 (try simp only [Exit.inBlock,Exit.then]);refine zad (by simp [results,Tryz.results21,go_sem,↓IntWalk.iteOmega,z0,z1];try rfl) rfl ?_
 exact ⟨by rw [Hj.out,Cm.out],hbz.out⟩
theorem jr{P:Program}{ops:Array Oper}{o:Oper}{a:Act}{w:qW}{K:Act->qW->Prop}{Q:Exit->Act->qW->Prop}{E:Prop}(hgd:o.guard=none)(d s:Operand)(dT sT:TypeId)
  (ho:o.op= .call {callee:= .builtin .copy,args:=#[d,s],argTypes:=#[dT,sT]}) (elem:TypeId) (hu:P.underlying dT=some (.slice elem)) (hsz:(P.info? elem).map (·.size)=some 1)
  (g off:Nat) (ad:Addr) (dLen dCap sLen sCap:Nat) (hd:a.eval d= .slice (some ⟨g,off,none⟩) dLen dCap) (hs:a.eval s= .slice (some ad) sLen sCap)
  (cur:Array qV) (t:TypeId) (hg:w.heap[g]?=some (.cells cur t (0,0))) (cs:List qV) (hn:cs.length=Nat.min sLen dLen)
  (Jg: ∀j v,cs[j]?=some v->w.cell? (ad.add j)=some v) (y9:off+cs.length<=cur.size) (h1: ∀v∈cs,v.oneCell'=true)
  (h: ∀w',w'.heap[g]?=some (.cells (splice cur.toList off cs).toArray t (0,0))->Kp (fun k=>k=g) w w'->w'.heap.size=w.heap.size->K (a.put o.dst (goInt cs.length)) w'):
  if Region.wanted o (yielded ops a.tmps)=true then Oper.wp P o a w K Q else E:=by
 have hw:Region.wanted o (yielded ops a.tmps)=true:=by simp [Region.wanted,hgd]
 rw [if_pos hw]
 have wU:=run_copy_row (P:=P) w dT sT o.type elem g off dLen dCap ad sLen sCap cur t cs hu hsz hg hn Jg y9 h1
 unfold Oper.wp
 simp [execOp,ho,resolve,invoke,builtin,hd,hs,wU,Result.andThen]
 refine h _ ?_ ⟨rfl,rfl,rfl,by simp [World.setRow],fun k _ hx=>setRow_other w g k _ hx⟩ (by simp [World.setRow])
 simpa [splice] using setRow_heap w g _ _ t _ hg
theorem MacD.flat{W W':qW}{M:Nat}{F:Nat->Prop}{bs:List Nat}{s s':MSt}(h0:MacAt W M F bs s)(h:MacD W M F bs s' W')(hs:W'.heap.size=W.heap.size):MacAt W' M F bs s':=
 h.mac.wide (fun k hk=>by
  rcases hk with hk|⟨h1,h2⟩
  ·exact hk
  ·omega) (fun k hk=>by have:=h0.lt k hk;omega)
theorem pn(cv sv pv:qV)(t:TD):thC (upd (upd (thF cv sv pv t) 36 (iI 0)) 37 (iI 0))=thC (thF cv sv pv {t with st:={t.st with wa:=0,wl:=0}}):=by
 apply eM
 intro k hk
 unfold upd
 by_cases MP:k=37
 ·subst MP
  rfl
 ·rw [if_neg MP]
  by_cases MQ:k=36
  ·subst MQ
   rfl
  ·rw [if_neg MQ]
   unfold thF
   repeat' split
   all_goals try rfl
   unfold St.f
   rw [show (∀a b c d e f:qV,(if k-2<31 then a else if k-2=31 then b else if k-2=32 then c else if k-2=33 then d else if k-2=34 then e else f)=if k-2<31 then a else if k-2=31 then b else if k-2=32 then c else d) from fun a b c d e f=>by
    have h1: ¬k-2=34:=by omega
    have h2:k-2<31\/k-2=31\/k-2=32\/k-2=33:=by omega
    rw [if_neg h1]
    rcases h2 with h|h|h|h<;>simp [h]]
   rw [show (∀a b c d e f:qV,(if k-2<31 then a else if k-2=31 then b else if k-2=32 then c else if k-2=33 then d else if k-2=34 then e else f)=if k-2<31 then a else if k-2=31 then b else if k-2=32 then c else d) from fun a b c d e f=>by
    have h1: ¬k-2=34:=by omega
    have h2:k-2<31\/k-2=31\/k-2=32\/k-2=33:=by omega
    rw [if_neg h1]
    rcases h2 with h|h|h|h<;>simp [h]]
theorem MtX.setW{W:qW}{n b gs sc:Nat}{cv pv:qV}{t:TD}(h:MtX W n b gs cv pv sc t)(hg:gs≠b):
  MtX ((W.setCell ⟨b,36,none⟩ (iI 0)).setCell ⟨b,37,none⟩ (iI 0)) n b gs cv pv sc {t with st:={t.st with wa:=0,wl:=0}}/\Kp (fun k=>k=b) W ((W.setCell ⟨b,36,none⟩ (iI 0)).setCell ⟨b,37,none⟩ (iI 0)):=by
 have hk:Kp (fun k=>k=b) W ((W.setCell ⟨b,36,none⟩ (iI 0)).setCell ⟨b,37,none⟩ (iI 0)):=(Kp.set W _ _ _).trans (Kp.set _ _ _ _)
 have ho:=(h.ob.set 36 (iI 0) (by simp [thR])).set 37 (iI 0) (by simp [thR])
 rw [dZ,dZ,pn] at ho
 exact ⟨⟨ho,h.sr.kp hk h.sl hg,by have:=hk.size;have:=h.sl;omega,h.sb⟩,hk⟩
theorem cz{α:Type}(f:α->qV): ∀l:List α,l.flatMap (fun x=>[f x])=l.map f
 |[]=>rfl
 |x::l=>by simp [cz f l]
theorem pB{α:Type}(l:List α)(n o:Nat)(cs:List α)(h:o+cs.length<=n)(hn:n<=l.length):(splice l o cs).take n=splice (l.take n) o cs:=by
 unfold splice
 rw [List.take_append,List.take_append,List.take_take,List.take_take,zaR,List.drop_take]
 rw [show min n o=o by omega,show min o l.length=o by omega,show min o n=o by omega,List.take_of_length_le (show cs.length<=n-o by omega),show n-o-cs.length=n-(o+cs.length) by omega]
theorem wL{α β:Type}(f:α->β)(l:List α)(o:Nat)(cs:List α):(splice l o cs).map f=splice (l.map f) o (cs.map f):=by
 simp [splice,List.map_take,List.map_drop]
theorem qY{l cs:List Nat}(h:Small l)(o:Nat)(hc: ∀x∈cs,x<256):Small (splice l o cs):=by
 have hs: ∀x∈l,x<256:=fun x hx=>by
  obtain ⟨i,hi,rfl⟩:=zaP hx
  have:=h i
  rw [zaU,zaC hi] at this
  exact this
 intro k
 rw [zaU]
 cases he:(splice l o cs)[k]? with
 |none=>simp
 |some x=>
  have hx:=zat he
  unfold splice at hx
  rw [List.mem_append,List.mem_append] at hx
  rcases hx with hx|hx|hx
  ·exact hs x (List.mem_of_mem_take hx)
  ·exact hc x hx
  ·exact hs x (List.mem_of_mem_drop hx)
theorem MacAt.put{W:qW}{M:Nat}{F:Nat->Prop}{bs:List Nat}{s:MSt}(h:MacAt W M F bs s)(hl:0<s.bytes.length): ∃g c cur,W.cell? (aB M 1)=some (.slice (aA g) s.bytes.length c)/\s.bytes.length<=c/\c<=9223372036854775807/\g<W.heap.size/\F g/\W.heap[g]?=some (.cells cur 5 (0,0))/\s.bytes.length<=cur.size/\
  ∀(j x k:Nat) (W':qW),j+k<=s.bytes.length->W'.heap[g]?=some (.cells (splice cur.toList j ((List.range k).map (byteV x))).toArray 5 (0,0))->Kp (fun b=>b=g) W W'->W'.heap.size=W.heap.size->MacAt W' M F bs {s with bytes:=putBy s.bytes j x k}:=by
 obtain ⟨tv,bv,ks,zv,hm,hf⟩:=h.at_
 have q1:=hm.cells 1
 obtain ⟨ba,c,rfl,hc,ho⟩:=hm.mem
 obtain ⟨g,rfl⟩:=cr ho hl
 obtain ⟨wX,Av⟩:=ho
 rcases Av with ⟨e, -⟩|⟨g',cap,cur,e,h2,h3,h4,h5,h6,h7⟩
 ·injection e with e1 e2 e3
  cases e1
 ·injection e with e1 e2 e3
  injection e1 with e1
  injection e1 with e1 e4 e5
  subst e1 e3
  have JW:foot M (mcC tv (.slice (aA g) s.bytes.length c) s.size s.taken) (mcR ks s.bytes) g:= .inr ⟨⟨1,5,1,s.bytes.length,s.bytes.flatMap aK⟩,by simp [mcR],by simp [fld,mcC,Value.ownBlock]⟩
  have zN:F g:=hf g (.inl JW)
  refine ⟨g,c,cur,q1,hc,?_,(h.lt g zN).2,zN,h3,by omega,fun j x k W' Ab hw hk hsz=>?_⟩
  ·simpa [maxLen] using h5
  ·have hMg:M<g:=by omega
   have xr:(putBy s.bytes j x k).length=s.bytes.length:=length_splice _ _ _ (by simpa using Ab)
   have hR: ∀k',foot M (mcC tv (.slice (aA g) s.bytes.length c) s.size s.taken) (mcR ks (putBy s.bytes j x k)) k'↔foot M (mcC tv (.slice (aA g) s.bytes.length c) s.size s.taken) (mcR ks s.bytes) k':=fun k'=>by
    simp [foot,mcR]
   refine ⟨⟨h.ok.th,h.ok.n1,h.ok.n8,by simpa [xr] using h.ok.bl,qY h.ok.sm j (fun y hy=>by
     obtain ⟨i, -,rfl⟩:=List.mem_map.1 hy
     exact zaL _ Za),by simpa [xr] using h.ok.sz⟩,fun k' Aj=>by have:=h.lt k' Aj;omega,tv,.slice (aA g) s.bytes.length c,ks,zv,⟨hm.len,⟨?_,?_,by simp [mcR],?_⟩,fun n q t hq ht=>?_,hm.lo,hm.ap,hm.gp,fun n q t hq ht=>?_⟩,fun k' Aj=>?_⟩
   ·exact (hk.block M hm.ob.lt Za).trans hm.ob.out
   ·intro r hr
    simp only [mcR,zaM,zaN,or_false] at hr
    rcases hr with rfl|rfl
    ·have h8:=hm.ob.own ⟨0,74,1,ks.length,ks.flatMap (fun q=>[pP q.b])⟩ (by simp [mcR])
     exact ah h8 hk (fun k' Aj e=>by
      subst e
      exact hm.ob.apart ⟨0,74,1,ks.length,ks.flatMap (fun q=>[pP q.b])⟩ (by simp [mcR]) ⟨1,5,1,s.bytes.length,s.bytes.flatMap aK⟩ (by simp [mcR]) Zi _ Aj (by simp [fld,mcC,Value.ownBlock]))
    ·show W'.ownsRow (M+1) 5 1 (.slice (aA g) s.bytes.length c) (putBy s.bytes j x k).length ((putBy s.bytes j x k).flatMap aK)
     rw [xr]
     have i':s.bytes.length<=cur.toList.length:=by simpa using (show s.bytes.length<=cur.size by omega)
     refine ⟨?_,.inr ⟨g,c,_,rfl,h2,hw,h4,h5,?_,?_⟩⟩
     ·rw [show aK=(fun n:Nat=>[Value.int .u8 n]) from rfl,cz,List.length_map,xr,Nat.mul_one]
     ·have:=length_splice cur.toList j ((List.range k).map (byteV x)) (by simp;simp at i';omega)
      simpa [h6] using this
     ·rw [show aK=(fun n:Nat=>[Value.int .u8 n]) from rfl] at h7 ⊢
      rw [cz] at h7 ⊢
      rw [Nat.mul_one] at h7 ⊢
      unfold putBy
      rw [wL,<-h7,<-pB _ _ _ _ (by simpa using Ab) i']
      simp only [List.map_map]
      rfl
   ·intro r hr q hq hne k' h8 h9
    simp only [mcR,zaM,zaN,or_false] at hr hq
    rcases hr with rfl|rfl<;>rcases hq with rfl|rfl
    ·exact hne rfl
    ·exact hm.ob.apart ⟨0,74,1,ks.length,ks.flatMap (fun q=>[pP q.b])⟩ (by simp [mcR]) ⟨1,5,1,s.bytes.length,s.bytes.flatMap aK⟩ (by simp [mcR]) Zi _ h8 h9
    ·exact hm.ob.apart ⟨1,5,1,s.bytes.length,s.bytes.flatMap aK⟩ (by simp [mcR]) ⟨0,74,1,ks.length,ks.flatMap (fun q=>[pP q.b])⟩ (by simp [mcR]) Zi _ h8 h9
    ·exact hne rfl
   ·exact (hm.th n q t hq ht).kp hk (fun k' Aj e=>(hm.mp n q t hq ht).1 k' (e ▸ JW) Aj) (fun e=>(hm.mp n q t hq ht).2 (e ▸ JW))
   ·exact ⟨fun b hb=>(hm.mp n q t hq ht).1 b ((hR b).1 hb),fun hb=>(hm.mp n q t hq ht).2 ((hR _).1 hb)⟩
   ·refine hf k' ?_
    rcases Aj with Aj|Aj
    ·exact .inl ((hR k').1 Aj)
    ·exact .inr Aj
theorem MacAt.bs_ne{W:qW}{M:Nat}{F:Nat->Prop}{bs:List Nat}{s:MSt}(h:MacAt W M F bs s){n m b c:Nat}(hb:bs[n]?=some b)(hc:bs[m]?=some c)(hne:n≠m):b≠c:=by
 obtain ⟨tv,bv,ks,rfl,hm,hf⟩:=h.at_
 rw [zaj] at hb hc
 rcases hq:ks[n]? with _|q
 ·rw [hq] at hb
  simp at hb
 rcases hp:ks[m]? with _|p
 ·rw [hp] at hc
  simp at hc
 rw [hq] at hb
 rw [hp] at hc
 obtain rfl:q.b=b:=by simpa using hb
 obtain rfl:p.b=c:=by simpa using hc
 have hn:=(List.getElem?_eq_some_iff.1 hq).1
 have BQ:=(List.getElem?_eq_some_iff.1 hp).1
 have hl:=hm.len
 intro e
 exact hm.ap n q (s.ts[n]'Za) m p (s.ts[m]'Za) hq (zaC _) hp (zaC _) hne q.b (.inl rfl) (.inl e)
end Go.Proofs.YtcekjfmfcefjpaaGreatDoor
