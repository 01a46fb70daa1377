/- Walks. No condition. -/
import Derived.Deep.CutBlock
import Derived.Test.YtcekjfmfcefjpaaGreatDoorG45
set_option maxRecDepth 100000
set_option maxHeartbeats 0
set_option linter.all false
namespace Go.Proofs.YtcekjfmfcefjpaaGreatDoor
open Go.RowKit Go.Sort
theorem MacAt.there_call{W:qW}{M:Nat}{F:Nat->Prop}{bs:List Nat}{s:MSt}(h:MacAt W M F bs s)(a l:Int):qC 19 #[pP M,.agg #[iI a,iI l]] W fun e w'=>e= .returned (.bool (thereM s.bytes a l))/\Below W.heap.size W w':=by
 obtain ⟨tv,bv,ks,zv,hm,hf⟩:=h.at_
 exact pk hm a l
theorem ld{l:List Nat}(h:Small l):numK l 8<2^64:=zar (ek l h 8) Zg
theorem ye7{s:St}(hs:s.ok)(i:Ins): ∃n:Nat,bC s i=n/\n<2^64:=by
 have h1:=bX hs i.d
 unfold bC
 split
 ·split
  ·exact ⟨_,rfl,h1⟩
  ·exact ⟨_,u64_and_nat _ _ h1 (fi _),Nat.lt_of_le_of_lt Nat.and_le_left h1⟩
 ·exact ⟨0,rfl,by omega⟩
theorem ye6{s:St}(hs:s.ok)(i:Ins): ∃n:Nat,bB s i=n/\n<2^64:=by
 have h1:=bX hs i.e
 unfold bB
 split
 ·exact ⟨_,rfl,h1⟩
 ·exact ⟨0,rfl,by omega⟩
theorem ych:Tryz.prog.eqGuardType Tryz.prog.depth 38=false:=by kernel_rfl
theorem pQ:Tryz.prog.stoodInHeld 38=false:=by kernel_rfl
theorem ydn(a b c d:Int)(w:qW):(binOp .eql 38 (.agg #[iI a,iI b]) (.agg #[iI c,iI d])).run Tryz.prog w= .ok (.bool (a==c&&b==d)) w:=by
 have h1:=pQ
 by_cases h:a=c<;>by_cases k:b=d<;>simp [go_sem,h1,h,k]
theorem yak{i:Ins}(hf:Facts i):lenI i=1\/lenI i=2\/lenI i=4\/lenI i=8\/lenI i=16:=by
 have:=hf.sz
 unfold lenI
 split
 ·omega
 ·have h:i.sz=0\/i.sz=1\/i.sz=2\/i.sz=3:=by omega
  rcases h with h|h|h|h<;>rw [h]<;>decide
def MemP(W V0:qW)(M:Nat)(F:Nat->Prop)(bs:List Nat)(s':MSt)(n bi bd:Nat)(t:TD)(i:Ins)(st:Int×Int)(V:qW):Prop:=
 ∃(s1:MSt) (g0 g1:Nat) (fits:Bool) (F1:Nat->Prop),g0<2^64/\g1<2^64/\StA W bi bd i (didA true (wrB i.op) (spanA t.st i) (lenI i) (exB i.op) (acqB i.op) (relB i.op) (bC t.st i) (bB t.st i) fits g0 g1 n st) V/\MacAt V M F1 bs s1/\(∀k,F1 k->F k\/V0.heap.size<=k)/\Kp F W V/\V.cell? (aB M 0)=W.cell? (aB M 0)/\s1.ts[n]?=some t/\s'={s1 with ts:=s1.ts.set n {t with st:=nextS t.st i g0 g1 fits}}
theorem qw{W:qW}{M:Nat}{F:Nat->Prop}{bs:List Nat}{s:MSt}(h:MacAt W M F bs s)(n b:Nat)(t:TD)(i:Ins)(fail:Bool)(hb:bs[n]?=some b)(ht:s.ts[n]?=some t)(he:t.end_=0)(p:Nat)(hp:t.st.pc=p)(hi:t.code[p]?=some i)(v:Nat)(hv:enc i=some v)(hm:meB i.op=true)(s':MSt)(Da:memM s n t i fail=some s'):
  qC 7 #[pP M,iI n,.bool fail] W fun e w'=>(∃x,e= .returned x)/\MacD W M F bs s' w':=by
 obtain ⟨cv,pv,gs,sc,hx,IF,CN,D0,yQ,xU⟩:=h.th hb ht
 have zz:=h.ok.th t (zat ht)
 have hM:=h.M_lt
 have xg:=hx.ob.lt
 obtain ⟨ca,cc,rfl,wZ,J2⟩:=hx.code
 obtain ⟨gc,rfl⟩:=cr J2 (by have:=(List.getElem?_eq_some_iff.1 hi).1;omega)
 have BM:=(List.getElem?_eq_some_iff.1 hi).1
 obtain ⟨st,xw⟩: ∃st,t.sites[p]?=some st:=⟨t.sites[p]'(by rw [zz.sl];exact BM),zaC _⟩
 have DI:=(List.getElem?_eq_some_iff.1 xw).1
 have q39:W.cell? (aB b 39)=some (iI 0):=he ▸ hx.cell 39 Za
 have AT:=Zh (fun W' (yF:Below W.heap.size W W')=>(h.below yF).at_call hb ht)
 have IN:=Zh (fun W' (yF:Below W.heap.size W W')=>l7 (hx.kp (Kp.of_below (X:=fun _=>False) yF) (fun _ _=>id) id))
 have HX:=Zh hx
 have H:=Zh h
 have HFF:=Zh CN
 obtain ⟨jn,mn,LC,F5,Gi⟩: ∃j m:Nat,spanA t.st i=(j:Int)+65536/\lenI i=m/\j+m<=s.bytes.length:=by
  have hl:=dg (dt hv)
  unfold memM at Da
  by_cases yb:thereM s.bytes (spanA t.st i) (lenI i)=true
  ·exact pm yb (qZ _ _) hl.1 hl.2 h.ok.bl
  ·simp [yb] at Da
 have HFl:=Zh h.lt
 have yb:thereM s.bytes (spanA t.st i) (lenI i)=true:=by
  unfold memM at Da
  by_cases yb:thereM s.bytes (spanA t.st i) (lenI i)=true
  ·exact yb
  ·simp [yb] at Da
 have HS':=Zh Da
 have zq:=Zh yb
 have Ky:=Zh yb
 have Ft:=Zh LC
 have EV:=Zh F5
 clear xU h hx Da yb LC F5
 go_enter Tryz.func7,Tryz.ntmps7
 go_wp2_with fail
 refine (AT.out _ ZU).mono ?_
 rintro e w1 ⟨rfl,rfl⟩
 go_wp2_with fail
 refine (IN.out _ ZU).mono ?_
 rintro e w1 ⟨rfl,rfl⟩
 have zR:(decide (0<=t.st.pc)&&decide (t.st.pc<(t.code.length:Int)))=true:=by
  rw [hp]
  simp
  omega
 rw [zR]
 go_wp2_with fail
 refine aT (R:=fun X=>Below W.heap.size W X/\X.heap[W.heap.size]?=some (.cells bH 46 (0,0))) ⟨ag (ab (zaa _ _) _),zab _ _⟩ ?_
 rintro V ⟨yw,h6⟩
 have zy:=HX.out.kp (Kp.of_below (X:=fun _=>False) yw) (fun _ _=>id) id
 have zo: ∀X,Below V.heap.size V X->X.cell? (aB b 0)=some (.slice (aA gc) t.code.length cc)/\X.cell? (aB b 33)=some (iI (p:Int))/\X.cell? (aB b 1)=some (.slice (aA gs) t.sites.length sc)/\X.rangeAt gc (p*7) (insC i)/\X.rangeAt gs (p*3) (siteC n st):=fun X hX=>by
  have BC:=zy.kp (Kp.of_below (X:=fun _=>False) hX) (fun _ _=>id) id
  exact ⟨BC.cell 0 Za,(BC.st 31 Za).trans (by rw [bm,hp]),BC.cell 1 Za,BC.range_ins hi,BC.range_site xw⟩
 have hA:=zo _ (ag (zaa _ V))
 have HA:=Zh zo
 clear zo
 have hB:True:=trivial
 have FU:(p:Int)<t.code.length:=by omega
 have Jh:(p:Int)<t.sites.length:=by omega
 have HV:=Zh zy
 have HB:=Zh yw
 clear zy yw
 refine ae (fun X=>X.cell? (aB b 0)=some (.slice (aA gc) t.code.length cc)/\X.cell? (aB b 33)=some (iI (p:Int))/\X.cell? (aB b 1)=some (.slice (aA gs) t.sites.length sc)/\X.rangeAt gc (p*7) (insC i)/\X.rangeAt gs (p*3) (siteC n st)) (fun W=>True) 26 rfl ?_
 refine Zp 0 rfl (h:=Zp 1 rfl (h:=Zp 2 rfl (h:=?_)));try simp only [Zq]
 refine Zt 3 rfl (h:=Zp 4 rfl (h:=Zp 5 rfl (h:=?_)));try simp only [Zq]
 refine Zp 6 rfl (h:=Zp 7 rfl (h:=Zt 8 rfl (h:=?_)));try simp only [Zq]
 refine Zp 9 rfl (h:=?_);try simp only [Zq]
 refine bD 10 (v:=insV i) rfl Zb Zb Zb (fun _ _ _ h=>h) Zg Zb (dh rfl (.tmp 42) rfl gc (p*7) ?_ i ?_) ⟨hA,fun _=>hB⟩ ?_
 ·simp [Act.eval]
 ·intro w hw;exact hw.2.2.2.1
 try simp only [Zq]
 refine Zp 11 rfl (h:=Zp 12 rfl (h:=Zp 13 rfl (h:=?_)));try simp only [Zq]
 refine Zt 14 rfl (h:=Zp 15 rfl (h:=Zp 16 rfl (h:=?_)));try simp only [Zq]
 refine Zp 17 rfl (h:=Zp 18 rfl (h:=Zt 19 rfl (h:=?_)));try simp only [Zq]
 refine Zp 20 rfl (h:=?_);try simp only [Zq]
 refine bD 21 (v:=siteV n st) rfl Zb Zb Zb (fun _ _ _ h=>h) Zg Zb (lO rfl (.tmp 53) rfl gs (p*3) ?_ n st ?_) ⟨hA,fun _=>hB⟩ ?_
 ·simp [Act.eval]
 ·intro w hw;exact hw.2.2.2.2
 try simp only [Zq]
 refine cX 22 (v:= .agg (didS n st)) rfl Zb Zb Zb (fun _ _ _ h=>h) Zg Zb (Or.inl ⟨by rfl,fun W _=>?_⟩) ⟨hA,fun _=>hB⟩ ?_
 ·kernel_rfl
 try simp only [Zq]
 refine iO 23 24 (xi:=9) (xj:=10) rfl rfl rfl rfl rfl rfl rfl rfl Zg Zb Zb Zb Zg iJ iK (fun w' Bc=>HA.out w' (ar (ag (zaa _ V)) Bc (zaq _))) (fun _ _=>trivial) ?_
 intro bi bd V2 hT
 have T:=Zh hT
 clear hT hA
 have b2:Below V.heap.size V V2:=ar (ag (zaa _ V)) T.out.bel (zaq _)
 have hA:=HA.out V2 b2
 have x1:V.heap.size<=bi:=T.out.i1.1
 have x2:V.heap.size<=bd:=T.out.j1.1
 have x3:bi≠bd:=T.out.ne
 have x4:bi<V2.heap.size:=T.out.i1.2
 have x5:bd<V2.heap.size:=T.out.j1.2
 try simp only [Zq]
 refine Zs 25 rfl fun K hK=>?_
 refine bw rfl (cD 85 (.tmp 9) (.tmp 43) rfl bi 0 (insC i).toArray rfl rfl (T:=85) T.out.hi (by simp [ew,insC]) ie (by simp [insC,Value.oneCell']) ?_)
 intro V3 g3 k3 z3
 rw [lZ] at g3
 have b3:Below V.heap.size V V3:=aH b2 k3 (fun k e=>by omega)
 refine hK _ _ ⟨HA.out V3 b3,fun _=>trivial⟩ ?_
 clear hK K hA
 have hA:=HA.out V3 b3
 have g3d:V3.heap[bd]?=some (.cells bH 46 (0,0)):=(k3.block bd x5 (fun e=>x3 e.symm)).trans T.out.hj
 refine Zs 26 rfl fun K hK=>?_
 refine bw rfl (cD 46 (.tmp 10) (.tmp 55) rfl bd 0 (didS n st) rfl rfl g3d (by simp [bH,didS]) dj (by simp [didS,Value.oneCell']) ?_)
 intro V4 g4 k4 z4
 rw [nk] at g4
 have b4:Below V.heap.size V V4:=aH b3 k4 (fun k e=>by omega)
 refine hK _ _ ⟨HA.out V4 b4,fun _=>trivial⟩ ?_
 clear hK K hA
 refine af Zb ?_ _
 have b6lt:W.heap.size<V.heap.size:=ac h6
 have HS:Hid (StA W bi bd i (didA false false 0 0 false false false 0 0 false 0 0 n st) V4):=Zh ⟨(b4.block _ b6lt).trans h6,(k4.block bi Za (fun e=>x3 e)).trans g3,g4,by omega,by omega,x3⟩
 have Ch:=Zh (ar HB.out b4 HB.out.size)
 clear g3 g4 k3 k4 b2 b3 b4 HA HB HV T g3d h6 x4 x5 z3 z4 hB
 have zy:=HX.out.kp (Kp.of_below (X:=fun _=>False) Ch.out) (fun _ _=>id) id
 have zo: ∀X,Below V4.heap.size V4 X->X.rangeAt b 2 (stL t.st)/\X.rangeAt bi 0 (insC i):=fun X hX=>⟨(zy.kp (Kp.of_below (X:=fun _=>False) hX) (fun _ _=>id) id).range_st,(HS.out.below hX).rng⟩
 have HA:=Zh zo
 have hA:=zo _ (ag (zaa _ V4))
 have hB:True:=trivial
 have HV:=Zh zy
 have ASK:=Zh (fun W'=>ye4 t.st i (zz.code i (zat hi)) zz.st v hv hm (zz.np i (zat hi)) W')
 clear zo zy
 go_wp2_with fail
 refine ae (fun X=>X.rangeAt b 2 (stL t.st)/\X.rangeAt bi 0 (insC i)) (fun W=>True) 12 rfl ?_
 refine Zp 0 rfl (h:=Zp 1 rfl (h:=Zp 2 rfl (h:=?_)));try simp only [Zq]
 refine bD 3 (v:=stV t.st) rfl Zb Zb Zb (fun _ _ _ h=>h) Zg Zb (fp rfl (.tmp 59) rfl b 2 ?_ t.st ?_) ⟨hA,fun _=>hB⟩ ?_
 ·rfl
 ·intro w hw;exact hw.1
 try simp only [Zq]
 refine bD 4 (v:=insV i) rfl Zb Zb Zb (fun _ _ _ h=>h) Zg Zb (dh rfl (.tmp 9) rfl bi 0 ?_ i ?_) ⟨hA,fun _=>hB⟩ ?_
 ·rfl
 ·intro w hw;exact hw.2
 try simp only [Zq]
 refine Zs 5 rfl fun K hK=>?_
 go_simp
 go_at_call 18
 refine (ASK.out _).mono ?_
 rintro e w5 ⟨rfl,q5,rfl⟩
 obtain ⟨V5,EM⟩: ∃V5,V5=more V4.drew q5:=⟨_,rfl⟩
 rw [<-EM]
 have b5:Below V4.heap.size V4 V5:=by rw [EM];exact ar (ag (zaa _ V4)) (av _ _) (zaq _)
 clear EM
 refine hK _ _ ⟨HA.out V5 b5,fun _=>trivial⟩ ?_
 clear hK K hA
 have hA:=HA.out V5 b5
 have Ce:=HS.out.below b5
 have x6:bd<V5.heap.size:=ac Ce.hd
 have x7:b<V5.heap.size:=zar HV.out.ob.lt b5.size
 have x8:b<bd:=by omega
 have x9:bi<V5.heap.size:=ac Ce.hi
 refine Zp 6 rfl (h:=Zp 7 rfl (h:=Zp 8 rfl (h:=?_)));try simp only [Zq]
 refine Zp 9 rfl (h:=?_);try simp only [Zq]
 refine Zs 10 rfl fun K hK=>?_
 refine bw rfl (cD 42 (.tmp 65) (.tmp 63) rfl bd 1 (accC (wrB i.op) (spanA t.st i) (lenI i) (exB i.op) (acqB i.op) (relB i.op) (bC t.st i) (bB t.st i)) rfl rfl Ce.hd (by simp [accC,didA]) l6 (by simp [accC,Value.oneCell']) ?_)
 intro V6 g6 k6 z6
 rw [nr] at g6
 refine hK _ _ ⟨⟨k6.rng hA.1 x7 Za,k6.rng hA.2 x9 x3⟩,fun _=>trivial⟩ ?_
 clear hK K
 have EQ:=hA
 clear hA
 have hA:V6.rangeAt b 2 (stL t.st)/\V6.rangeAt bi 0 (insC i):=⟨k6.rng EQ.1 x7 Za,k6.rng EQ.2 x9 x3⟩
 have Cd:StA W bi bd i (didA false (wrB i.op) (spanA t.st i) (lenI i) (exB i.op) (acqB i.op) (relB i.op) (bC t.st i) (bB t.st i) false 0 0 n st) V6:=Ce.put k6 g6
 refine Zp 11 rfl (h:=?_);try simp only [Zq]
 refine Zs 12 rfl fun K hK=>?_
 refine bw rfl (dz 4 (.tmp 66) (.tmp 64) rfl bd 0 (.bool true) rfl rfl Cd.hd (by simp [didA]) rfl rfl ey ?_)
 intro V7 g7 k7 z7
 rw [nl] at g7
 refine hK _ _ ⟨⟨k7.rng hA.1 Za Za,k7.rng hA.2 Za x3⟩,fun _=>trivial⟩ ?_
 clear hK K
 have EO:StA W bi bd i (didA true (wrB i.op) (spanA t.st i) (lenI i) (exB i.op) (acqB i.op) (relB i.op) (bC t.st i) (bB t.st i) false 0 0 n st) V7:=Cd.put k7 g7
 refine af Zb ?_ _
 have kk:Kp (fun k=>k=bd) V4 V7:=((Kp.of_below b5).trans k6).trans k7
 have zy:=HV.out.kp kk (fun k hk e=>by have:=(HX.out.ob.foot_lt hk).2;omega) (by have:=HX.out.sl;omega)
 have AE:=Zh EO
 have w7:W.heap.size<V7.heap.size:=ac EO.h6
 have Hb:=Zh zy
 have Fs:Hid (Below W.heap.size W V7):=Zh (aH Ch.out kk (fun k e=>by omega))
 clear hA EQ HS HV HA Ch g6 g7 k6 k7 kk b5 Ce Cd EO zy x6 x7 x9 z6 z7 ASK
 have q0:V7.cell? (aB bd 0)=some (.bool true):=aa AE.out.hd 0
 have q2:V7.cell? (aB bd 2)=some (iI (spanA t.st i)):=aa AE.out.hd 2
 have q3:V7.cell? (aB bd 3)=some (iI (lenI i)):=aa AE.out.hd 3
 go_wp2_with fail
 refine ((H.out.below Fs.out).there_call _ _).mono ?_
 rintro e V8 ⟨rfl,b8⟩
 rw [zq.out]
 have GS:=AE.out.below b8
 have AD:=Zh GS
 have G':=Zh (Hb.out.kp (Kp.of_below (X:=fun _=>False) b8) (fun _ _=>id) id)
 have Hu:Hid (Below W.heap.size W V8):=Zh (ar Fs.out b8 Fs.out.size)
 clear q0 q2 q3 GS b8 AE Hb Fs zq
 have i0:V8.cell? (aB bi 0)=some (iI i.op):=aa AD.out.hi 0
 have i1:V8.cell? (aB bi 1)=some (iI i.d):=aa AD.out.hi 1
 have i2:V8.cell? (aB bi 2)=some (iI i.n):=aa AD.out.hi 2
 have i3:V8.cell? (aB bi 3)=some (iI i.m):=aa AD.out.hi 3
 have i4:V8.cell? (aB bi 4)=some (iI i.e):=aa AD.out.hi 4
 have i5:V8.cell? (aB bi 5)=some (iI i.sz):=aa AD.out.hi 5
 have i6:V8.cell? (aB bi 6)=some (iI i.imm):=aa AD.out.hi 6
 go_wp2_with fail
 go_at_call 20
 have yj:i.op≠31/\i.op≠32:=by
  unfold meB at hm
  rw [zau] at hm
  omega
 refine (jl G'.out i yj.1 yj.2).mono ?_
 rintro e V9 ⟨rfl,b9⟩
 have AB:=Zh (AD.out.below b9)
 have Dy:Hid (Below W.heap.size W V9):=Zh (ar Hu.out b9 Hu.out.size)
 clear i0 i1 i2 i3 i4 i5 i6 b9 AD G' Hu yj
 go_upto_block 1 with fail
 go_cut [] from 11 (fun wc=>MemP W V9 M F bs s' n bi bd t i st wc)
 case first=>
  have q0:V9.cell? (aB bd 0)=some (.bool true):=aa AB.out.hd 0
  have q1:V9.cell? (aB bd 1)=some (.bool (wrB i.op)):=aa AB.out.hd 1
  have q2:V9.cell? (aB bd 2)=some (iI ((jn:Int)+65536)):=Ft.out ▸ aa AB.out.hd 2
  have q3:V9.cell? (aB bd 3)=some (iI (mn:Int)):=EV.out ▸ aa AB.out.hd 3
  have Fr:=Zh (H.out.below Dy.out)
  have Eo:=yak (dt hv)
  rw [EV.out] at Eo
  have yN:=HS'.out
  unfold memM at yN
  simp only [Ky.out,if_true] at yN
  rw [show (spanA t.st i-65536).toNat=jn by rw [Ft.out];omega,show (lenI i).toNat=mn by rw [EV.out];omega] at yN
  cases hw:wrB i.op
  ·rw [hw] at q1
   rw [if_neg (by rw [hw];simp)] at yN
   have zT:=Zh (zae yN).symm
   clear yN
   go_wp2_with fail
   refine (su Fr.out jn mn Za Za Gi).mono ?_
   rintro e V10 ⟨rfl,b10⟩
   have yv:=AB.out.below b10
   have r9:V10.cell? (aB bd 9)=some (.bool false):=aa yv.hd 9
   have r10:V10.cell? (aB bd 10)=some (.int .u64 0):=aa yv.hd 10
   have r11:V10.cell? (aB bd 11)=some (.int .u64 0):=aa yv.hd 11
   have rf:=ai yv.hd
   have HG0:Hid (rd0 s.bytes jn mn<2^64):=Zh (ld (eX Fr.out.ok.sm _ _))
   have HG1:Hid (rd1 s.bytes jn mn<2^64):=Zh (ld (eX Fr.out.ok.sm _ _))
   generalize JY:rd0 s.bytes jn mn=g0 at*
   generalize xn:rd1 s.bytes jn mn=g1 at*
   have xD:=Zh yv
   have B10:=Zh b10
   clear yv b10 JY xn
   go_wp2_with fail
   go_meet
   case rel=>
    have h1:=aJ (aJ (aJ xD.out.hd (i:=9) (.bool true)) (i:=10) (.int .u64 g0)) (i:=11) (.int .u64 g1)
    rw [fB,show∀(c:Array qV) (x y:qV),(c.setIfInBounds 10 x).setIfInBounds 11 y=setL c 10 [x,y] from fun _ _ _=>rfl,ydE] at h1
    have hk:Kp (fun k=>k=bd) V10 (((V10.setCell ⟨bd,9,none⟩ (.bool true)).setCell ⟨bd,10,none⟩ (.int .u64 g0)).setCell ⟨bd,11,none⟩ (.int .u64 g1)):=((Kp.set _ _ _ _).trans (Kp.set _ _ _ _)).trans (Kp.set _ _ _ _)
    have hd6:=AB.out.d6
    exact ⟨s,g0,g1,true,F,HG0.out,HG1.out,xD.out.put hk h1,(Fr.out.below B10.out).kp hk (fun k hk e=>by have:=(HFl.out k hk).2;omega),fun k hk=> .inl hk,(Kp.of_below (ar Dy.out B10.out Dy.out.size)).next hk (fun k hk e=>by omega),(hk.cell (by have:=Dy.out.size;have:=B10.out.size;omega) (fun e=>by have:M=bd:=e;omega)).trans ((ar Dy.out B10.out Dy.out.size).cell (p:=⟨M,0,none⟩) hM),ht,zT.out⟩
  ·rw [hw] at q1
   rw [if_pos hw] at yN
   have q4:V9.cell? (aB bd 4)=some (.bool (exB i.op)):=aa AB.out.hd 4
   obtain ⟨cv9,pv9,gs9,sc9,BD,hMb9, -, -, -, -⟩:=Fr.out.th hb ht
   have q36:V9.cell? (aB b 36)=some (iI t.st.wa):=BD.st 34 Za
   have q37:V9.cell? (aB b 37)=some (iI t.st.wl):=BD.st 35 Za
   have hd6:=AB.out.d6
   obtain ⟨dn,CU⟩: ∃dn,dn=(!exB i.op||(!fail&&(t.st.wa==spanA t.st i&&t.st.wl==lenI i))):=⟨_,rfl⟩
   rw [<-CU] at yN
   have KU:=Zh CU
   have zT:=Zh yN
   clear yN CU BD
   go_upto_region 15 with fail
   go_cut [2] from 11 (fun v2 wd=>v2= .bool fail/\StA W bi bd i (didA true (wrB i.op) (spanA t.st i) (lenI i) (exB i.op) (acqB i.op) (relB i.op) (bC t.st i) (bB t.st i) dn 0 0 n st) wd/\Kp (fun k=>k=bd) V9 wd)
   case first=>
    have hB:True:=trivial
    cases hx:exB i.op
    ·rw [hx] at q4
     have hA:V9.drew.cell? (aB bd 4)=some (.bool false):=q4
     refine ae (fun X=>X.cell? (aB bd 4)=some (.bool false)) (fun W=>True) 20 rfl ?_
     refine Zp 0 rfl (h:=Zp 1 rfl (h:=Zt 2 rfl (h:=?_)));try simp only [Zq]
     refine Zp 3 rfl (h:=Zp 4 rfl (h:=?_));try simp only [Zq]
     refine Zn 5 rfl (h:=Zn 6 rfl (h:=?_));try simp only [Zq]
     refine Zn 7 rfl (h:=Zn 8 rfl (h:=?_));try simp only [Zq]
     refine Zn 9 rfl (h:=Zn 10 rfl (h:=?_));try simp only [Zq]
     refine Zn 11 rfl (h:=Zn 12 rfl (h:=?_));try simp only [Zq]
     refine Zn 13 rfl (h:=Zn 14 rfl (h:=?_));try simp only [Zq]
     refine Zn 15 rfl (h:=Zn 16 rfl (h:=?_));try simp only [Zq]
     refine Zn 17 rfl (h:=Zp 18 rfl (h:=Zp 19 rfl (h:=?_)));try simp only [Zq]
     refine Zs 20 rfl fun K hK=>?_
     refine bw rfl (dz 4 (.tmp 103) (.tmp 102) rfl bd 9 (.bool true) rfl rfl (w:=V9.drew) AB.out.hd (by simp [didA]) rfl rfl ey ?_)
     intro V10 g10 k10 z10
     rw [fB] at g10
     refine hK _ _ ⟨by rw [aa g10];simp [didA,hx],fun _=>trivial⟩ ?_
     clear hK K
     refine af Zb ?_ _
     go_wp2_with fail
     go_meet
     case rel=>
      rw [show dn=true from by rw [KU.out,hx];rfl]
      exact ⟨rfl,AB.out.put ((Kp.dr V9).trans k10) g10,(Kp.dr V9).trans k10⟩
    ·rw [hx] at q4
     cases hf:fail
     ·have hA:V9.drew.cell? (aB bd 4)=some (.bool true)/\V9.drew.cell? (aB b 36)=some (iI t.st.wa)/\V9.drew.cell? (aB b 37)=some (iI t.st.wl)/\V9.drew.cell? (aB bd 2)=some (iI ((jn:Int)+65536))/\V9.drew.cell? (aB bd 3)=some (iI (mn:Int)):=⟨q4,q36,q37,q2,q3⟩
      have yQ:=ych
      have Ay:=ydn
      refine ae (fun X=>X.cell? (aB bd 4)=some (.bool true)/\X.cell? (aB b 36)=some (iI t.st.wa)/\X.cell? (aB b 37)=some (iI t.st.wl)/\X.cell? (aB bd 2)=some (iI ((jn:Int)+65536))/\X.cell? (aB bd 3)=some (iI (mn:Int))) (fun W=>True) 20 rfl ?_
      refine Zp 0 rfl (h:=Zp 1 rfl (h:=Zt 2 rfl (h:=?_)));try simp only [Zq]
      refine Zp 3 rfl (h:=Zp 4 rfl (h:=Zp 5 rfl (h:=?_)));try simp only [Zq]
      refine Zp 6 rfl (h:=Zp 7 rfl (h:=Zp 8 rfl (h:=?_)));try simp only [Zq]
      refine Zp 9 rfl (h:=Zp 10 rfl (h:=Zp 11 rfl (h:=?_)));try simp only [Zq]
      refine Zt 12 rfl (h:=Zp 13 rfl (h:=Zp 14 rfl (h:=?_)));try simp only [Zq]
      refine Zt 15 rfl (h:=Zp 16 rfl (h:=Zp 17 rfl (h:=?_)));try simp only [Zq]
      refine Zp 18 rfl (h:=Zp 19 rfl (h:=?_));try simp only [Zq]
      refine Zs 20 rfl fun K hK=>?_
      refine bw rfl (dz 4 (.tmp 103) (.tmp 102) rfl bd 9 (.bool (t.st.wa==(jn:Int)+65536&&t.st.wl==(mn:Int))) rfl rfl (w:=V9.drew) AB.out.hd (by simp [didA]) rfl rfl ey ?_)
      intro V10 g10 k10 z10
      rw [fB] at g10
      have yz:b<bd:=by have:=HX.out.ob.lt;omega
      have ym:Kp (fun k=>k=bd) V9 V10:=(Kp.dr V9).trans k10
      refine hK _ _ ⟨⟨by rw [aa g10];simp [didA,hx],(ym.cell (aG q36) (fun e=>by have:b=bd:=e;omega)).trans q36,(ym.cell (aG q37) (fun e=>by have:b=bd:=e;omega)).trans q37,by rw [aa g10];simp [didA,Ft.out],by rw [aa g10];simp [didA,EV.out]⟩,fun _=>trivial⟩ ?_
      clear hK K
      refine af Zb ?_ _
      go_wp2_with fail
      go_meet
      case rel=>
       rw [show dn=(t.st.wa==(jn:Int)+65536&&t.st.wl==(mn:Int)) from by rw [KU.out,hx,hf,Ft.out,EV.out];rfl]
       exact ⟨by rw [hf],AB.out.put ym g10,ym⟩
     ·have hA:V9.drew.cell? (aB bd 4)=some (.bool true):=q4
      refine ae (fun X=>X.cell? (aB bd 4)=some (.bool true)) (fun W=>True) 20 rfl ?_
      refine Zp 0 rfl (h:=Zp 1 rfl (h:=Zt 2 rfl (h:=?_)));try simp only [Zq]
      refine Zp 3 rfl (h:=Zp 4 rfl (h:=Zp 5 rfl (h:=?_)));try simp only [Zq]
      refine Zp 6 rfl (h:=Zp 7 rfl (h:=?_));try simp only [Zq]
      refine Zn 8 rfl (h:=Zn 9 rfl (h:=?_));try simp only [Zq]
      refine Zn 10 rfl (h:=Zn 11 rfl (h:=?_));try simp only [Zq]
      refine Zn 12 rfl (h:=Zn 13 rfl (h:=?_));try simp only [Zq]
      refine Zn 14 rfl (h:=Zn 15 rfl (h:=?_));try simp only [Zq]
      refine Zn 16 rfl (h:=Zp 17 rfl (h:=Zp 18 rfl (h:=?_)));try simp only [Zq]
      refine Zp 19 rfl (h:=?_);try simp only [Zq]
      refine Zs 20 rfl fun K hK=>?_
      refine bw rfl (dz 4 (.tmp 103) (.tmp 102) rfl bd 9 (.bool false) rfl rfl (w:=V9.drew) AB.out.hd (by simp [didA]) rfl rfl ey ?_)
      intro V10 g10 k10 z10
      rw [fB] at g10
      refine hK _ _ ⟨by rw [aa g10];simp [didA,hx],fun _=>trivial⟩ ?_
      clear hK K
      refine af Zb ?_ _
      go_wp2_with fail
      go_meet
      case rel=>
       rw [show dn=false from by rw [KU.out,hx,hf];rfl]
       exact ⟨by rw [hf],AB.out.put ((Kp.dr V9).trans k10) g10,(Kp.dr V9).trans k10⟩
   case rest=>
    obtain ⟨rfl,yv,yP⟩:=hcut
    have xD:=Zh yv
    have EW:=Zh yP
    have Hr:=Zh (Fr.out.kp yP (fun k hk e=>by have:=(HFl.out k hk).2;omega))
    have yI:Hid (Kp F W wc):=Zh ((Kp.of_below Dy.out).next yP (fun k hk e=>by omega))
    have r9:wc.cell? (aB bd 9)=some (.bool dn):=aa yv.hd 9
    have Hi:Hid (wc.cell? (aB M 0)=W.cell? (aB M 0)):=Zh ((yP.cell (by have:=Dy.out.size;omega) (fun e=>by have:M=bd:=e;omega)).trans (Dy.out.cell (p:=⟨M,0,none⟩) hM))
    clear q0 q1 q2 q3 q4 q36 q37 yv yP
    cases CU:dn
    ·rw [CU] at r9
     go_wp2_with fail
     go_meet
     case rel=>
      have yN:=zT.out
      rw [CU] at yN
      have hs:=xD.out
      rw [CU] at hs
      exact ⟨s,0,0,false,F,by omega,by omega,hs,Hr.out,fun k hk=> .inl hk,yI.out,Hi.out,ht,(zae yN).symm⟩
    ·rw [CU] at r9
     obtain ⟨d0n,yV, -⟩:=ye7 zz.st i
     obtain ⟨d1n,Dl, -⟩:=ye6 zz.st i
     have c1:wc.cell? (aB bd 1)=some (.bool true):=hw ▸ aa xD.out.hd 1
     have c2:wc.cell? (aB bd 2)=some (iI ((jn:Int)+65536)):=Ft.out ▸ aa xD.out.hd 2
     have c3:wc.cell? (aB bd 3)=some (iI (mn:Int)):=EV.out ▸ aa xD.out.hd 3
     have c4:wc.cell? (aB bd 4)=some (.bool (exB i.op)):=aa xD.out.hd 4
     have c5:wc.cell? (aB bd 5)=some (.bool (acqB i.op)):=aa xD.out.hd 5
     have c6:wc.cell? (aB bd 6)=some (.bool (relB i.op)):=aa xD.out.hd 6
     have c7:wc.cell? (aB bd 7)=some (.int .u64 (d0n:Int)):=yV ▸ aa xD.out.hd 7
     have c8:wc.cell? (aB bd 8)=some (.int .u64 (d1n:Int)):=Dl ▸ aa xD.out.hd 8
     have HD0:=Zh yV
     have Fu:=Zh Dl
     have Hq:=Zh Eo
     clear yV Dl Eo
     go_wp2_with fail
     refine (oy Hr.out n b hb jn mn d0n d1n (by have:=Hq.out;omega) (by have:=Hq.out;omega) Gi true (exB i.op) (acqB i.op) (relB i.op)).mono ?_
     rintro e V11 ⟨rfl,hD⟩
     have HD:=Zh hD
     clear hD c1 c2 c3 c4 c5 c6 c7 c8
     go_wp2_with fail
     go_meet
     case rel=>
      have yN:=zT.out
      rw [CU,if_pos rfl,HD0.out,Fu.out,Ft.out,EV.out] at yN
      have hs:=xD.out
      rw [CU] at hs
      have w10:=EW.out.size
      refine ⟨{s with bytes:=wrM s.bytes jn mn d0n d1n,ts:=othM n ((jn:Int)+65536) mn s.ts.length s.ts},0,0,true,grw F wc V11,by omega,by omega,hs.kp HD.out.kp (fun h=>by have:=(HFl.out _ h).2;omega) (fun h=>by have:=(HFl.out _ h).2;have:=hs.i6;omega) (fun h=>by have:=(HFl.out _ h).2;omega),HD.out.mac,fun k hk=>hk.imp id (fun h=>by omega),yI.out.next HD.out.kp (fun k _ h=>h),HD.out.row.trans Hi.out,?_,?_⟩
      ·show (othM n ((jn:Int)+65536) mn s.ts.length s.ts)[n]?=some t
       rw [cP,ht]
       simp
      ·exact (zae yN).symm
 case rest=>
  obtain ⟨s1,g0,g1,fits,F1,h0,h1,hS,Aw,GX,xh,Ij,FH,yN⟩:=hcut
  have HRW:=Zh Ij
  clear Ij
  obtain ⟨cv1,pv1,gs1,sc1,BF,hMb1,Gu,hgF1,JV,xU⟩:=Aw.th hb FH
  have HS:=Zh hS
  have Dt:=Zh BF
  have HM1:=Zh Aw
  have KQ:=Zh GX
  have KO:=Zh xh
  have zT:=Zh yN
  have Kw:=Zh xU
  have HFF1:=Zh Gu
  have w9:W.heap.size<V9.heap.size:=ac AB.out.h6
  have wcl:W.heap.size<wc.heap.size:=ac hS.h6
  clear hS BF Aw GX xh yN xU Gu AB
  go_upto_region 21 with fail
  have zo: ∀X,Below wc.heap.size wc X->X.rangeAt bi 0 (insC i)/\X.cell? (aB bd 10)=some (.int .u64 (g0:Nat))/\X.cell? (aB bd 11)=some (.int .u64 (g1:Nat))/\X.cell? (aB bd 9)=some (.bool fits):=fun X hX=>⟨(HS.out.below hX).rng,aa (HS.out.below hX).hd 10,aa (HS.out.below hX).hd 11,aa (HS.out.below hX).hd 9⟩
  have EP: ∀X,Below wc.heap.size wc X->X.rangeAt b 2 (stL t.st):=fun X hX=>(Dt.out.kp (Kp.of_below (X:=fun _=>False) hX) (fun _ _=>id) id).range_st
  have HA:=Zh zo
  have HBf:=Zh EP
  have hA:=zo _ (ag (zaa _ wc))
  have hB:=EP _ (ag (zaa _ wc))
  have NX:=Zh (fun W'=>lh t.st i (zz.code i (zat hi)) zz.st g0 g1 h0 fits v hv (zz.np i (zat hi)) W')
  clear zo EP
  refine ae (fun X=>X.rangeAt bi 0 (insC i)/\X.cell? (aB bd 10)=some (.int .u64 (g0:Nat))/\X.cell? (aB bd 11)=some (.int .u64 (g1:Nat))/\X.cell? (aB bd 9)=some (.bool fits)) (fun X=>X.rangeAt b 2 (stL t.st)) 16 rfl ?_
  refine Zp 0 rfl (h:=Zp 1 rfl (h:=Zp 2 rfl (h:=?_)));try simp only [Zq]
  refine Zp 3 rfl (h:=?_);try simp only [Zq]
  refine fN 4 (v:=stV t.st) [10,11,12,16] rfl Zb Zb Zb (fun _ _ _ h=>h) Zb Zg Zg Zb (fp rfl (.tmp 131) rfl b 2 ?_ t.st ?_) ⟨hA,fun _=>hB⟩ ?_
  ·rfl
  ·intro w hw;exact hw.2
  try simp only [Zq]
  refine bD 5 (v:=insV i) rfl Zb Zb Zb (fun _ _ _ h=>h) Zg Zb (dh rfl (.tmp 9) rfl bi 0 ?_ i ?_) ⟨hA,fun _=>hB⟩ ?_
  ·rfl
  ·intro w hw;exact hw.1
  try simp only [Zq]
  refine Zp 6 rfl (h:=Zt 7 rfl (h:=Zp 8 rfl (h:=?_)));try simp only [Zq]
  refine Zt 9 rfl (h:=?_);try simp only [Zq]
  refine Zs 10 rfl fun K hK=>?_
  go_simp
  refine (NX.out _).mono ?_
  rintro e w9 ⟨rfl,q9,rfl⟩
  obtain ⟨V9,EL⟩: ∃V9,V9=more wc.drew q9:=⟨_,rfl⟩
  rw [<-EL]
  have b9:Below wc.heap.size wc V9:=by rw [EL];exact ar (ag (zaa _ wc)) (av _ _) (zaq _)
  clear EL
  refine hK _ _ ⟨HA.out V9 b9,fun _=>HBf.out V9 b9⟩ ?_
  clear hK K hA hB
  have hA:=HA.out V9 b9
  have hB:=HBf.out V9 b9
  have BD:=Dt.out.kp (Kp.of_below (X:=fun _=>False) b9) (fun _ _=>id) id
  have GR:=HS.out.below b9
  have CJ:gs1≠b:=fun e=>JV (e ▸ .inl rfl)
  obtain ⟨BE,yP⟩:=BD.setSt CJ (nextS t.st i g0 g1 fits)
  have yv:=GR.kp yP Za Za Za
  have ET:=Zh BE
  have xD:=Zh yv
  have Hc:=Zh BD.there_st
  have EW:=Zh ((Kp.of_below (X:=fun k=>k=b) b9).trans yP)
  clear BD GR BE yv yP b9 NX
  refine Zp 11 rfl (h:=Zp 12 rfl (h:=Zp 13 rfl (h:=?_)));try simp only [Zq]
  refine Zp 14 rfl (h:=Zp 15 rfl (h:=?_));try simp only [Zq]
  refine Zs 16 rfl fun K hK=>?_
  refine bw rfl (wp_store_mid 79 (.tmp 142) (.tmp 139) rfl b 2 (stC (nextS t.st i g0 g1 fits).f) rfl rfl (by rw [cM];exact Hc.out) (by rw [cM];exact dO) (fR _) ?_)
  rw [show (stC (nextS t.st i g0 g1 fits).f).toList=stL (nextS t.st i g0 g1 fits) from rfl]
  generalize EN:V9.setCells b 2 (stL (nextS t.st i g0 g1 fits))=V10 at*
  refine hK _ _ ⟨⟨xD.out.rng,aa xD.out.hd 10,aa xD.out.hd 11,aa xD.out.hd 9⟩,fun hh=>Bool.noConfusion (hh.symm.trans (show _=true by kernel_rfl))⟩ ?_
  clear hK K hA hB EN Hc HA HBf
  refine af Zb ?_ _
  generalize stV (nextS t.st i g0 g1 fits)=Z
  go_upto_region 22 with fail
  try simp only [Zq]
  refine wp_region_lit ?_
  refine wpList_load_mid rfl 46 (.tmp 10) rfl bd 0 rfl (didA true (wrB i.op) (spanA t.st i) (lenI i) (exB i.op) (acqB i.op) (relB i.op) (bC t.st i) (bB t.st i) fits g0 g1 n st).toList _ (fun j v hv=>by rw [aa xD.out.hd];simpa using hv) Tryz.underlying46 rfl dj ?_
  go_frame
  refine wpList_plain rfl ?_
  intro K hK
  refine cD 46 (.tmp 6) (.tmp 143) rfl W.heap.size 0 (didA true (wrB i.op) (spanA t.st i) (lenI i) (exB i.op) (acqB i.op) (relB i.op) (bC t.st i) (bB t.st i) fits g0 g1 n st) rfl rfl xD.out.h6 (by simp [bH,didA]) dj (ns ..) ?_
  intro V11 g11 k11 z11
  rw [nj] at g11
  refine hK _ _ ?_
  clear hK K
  have G11:=Zh g11
  have K11:=Zh k11
  clear g11 k11 z11
  have GA:(didA true (wrB i.op) (spanA t.st i) (lenI i) (exB i.op) (acqB i.op) (relB i.op) (bC t.st i) (bB t.st i) fits g0 g1 n st).size=15:=rfl
  generalize didA true (wrB i.op) (spanA t.st i) (lenI i) (exB i.op) (acqB i.op) (relB i.op) (bC t.st i) (bB t.st i) fits g0 g1 n st=D at*
  go_frame
  go_wp2_with fail
  refine ⟨rfl,(dD rfl G11.out GA).choose,(dD rfl G11.out GA).choose_spec,⟨_,rfl⟩,?_⟩
  have hD:=Kw.out {t with st:=nextS t.st i g0 g1 fits} V10 pv1 {zz with st:=li t.st i (dt hv) zz.st g0 g1 fits h0 h1} ET.out (fun k hk=> .inl (eN (t:=t) (t':={t with st:=nextS t.st i g0 g1 fits}) rfl rfl rfl hk)) (EW.out.mono (fun k _ e=> .inl e))
  rw [zT.out]
  have w10:=hD.kp.size
  have w11:=K11.out.size
  have nF: ∀k,F1 k->k≠W.heap.size:=fun k hk e=>by
   rcases KQ.out k hk with h|h
   ·have:=(HFl.out k h).2
    omega
   ·omega
  refine ⟨(hD.mac.kp K11.out (fun k hk e=>by
   rcases hk with hk|⟨h1, -⟩
   ·exact nF k hk e
   ·omega)).wide (fun k hk=>?_) (dk HFl.out hM Za),(KO.out.next hD.kp (fun k hk hF=>(KQ.out k hF).elim id (fun h=>by omega))).next K11.out (fun k hk e=>by omega),(K11.out.cell (by have:=HM1.out.M_lt;omega) (fun e=>by have:M=W.heap.size:=e;omega)).trans (hD.row.trans HRW.out)⟩
  have zj:=(hD.mac.lt k hk).2
  rcases hk with hk|⟨h1, -⟩
  ·rcases KQ.out k hk with h|h
   ·exact .inl h
   ·exact .inr ⟨by omega,by omega⟩
  ·exact .inr ⟨by omega,by omega⟩
end Go.Proofs.YtcekjfmfcefjpaaGreatDoor
