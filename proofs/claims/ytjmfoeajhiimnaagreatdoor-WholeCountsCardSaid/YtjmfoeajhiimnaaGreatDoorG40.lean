/- Walks. No condition. -/
import Derived.Test.YtjmfoeajhiimnaaGreatDoorG39
set_option maxRecDepth 100000
set_option maxHeartbeats 0
set_option linter.all false
namespace Go.Proofs.YtjmfoeajhiimnaaGreatDoor
open Go.RowKit Go.Sort
theorem iX:(Tryz.prog.info? 5).map (fun i=>(i.zero,i.size,i.bytes))=some (some (.int .u8 0),1,1):=by kernel_rfl
theorem tU:(Tryz.prog.info? 71).map (fun i=>(i.zero,i.size,i.bytes))=some (some (.pointer none),1,8):=by kernel_rfl
def mBeg(size:Int)(rs:List ThI):MSt:=⟨size,0,List.replicate (iStack size (rs.length-1)+1024-65536).toNat 0,rs.map tdOf⟩
structure NwA(w:qW)(M:Nat)(img:Array qV)(size:Int)(N:Nat)(rs:List ThI)(k:Nat)(W:qW):Prop where
 im:W.heap[w.heap.size]?=some (.cells img 31 (0,0))
 mx: ∃tv bv ks,McX W M tv bv size 0 (List.replicate N 0) ((rs.take k).map tdOf) ks
 bl:Below w.heap.size w W
 lt:w.heap.size<M
theorem NwA.below{w:qW}{M:Nat}{img:Array qV}{size:Int}{N:Nat}{rs:List ThI}{k:Nat}{W W':qW}(h:NwA w M img size N rs k W)(hb:Below W.heap.size W W'):NwA w M img size N rs k W':=by
 obtain ⟨tv,bv,ks,hm⟩:=h.mx
 exact ⟨(hb.block _ (ac h.im)).trans h.im,⟨tv,bv,ks,hm.kp (Kp.of_below (X:=fun _=>False) hb) (fun _ e=>e.elim)⟩,an h.bl hb h.bl.size,h.lt⟩
theorem NwA.zero{w V:qW}{size:Int}{N:Nat}{img:Array qV}{rs:List ThI}(hN:N<=100000)(hi:V.heap[w.heap.size]?=some (.cells img 31 (0,0)))(hm:V.heap[w.heap.size+1]?=some (.cells #[.slice none 0 0,.slice none 0 0,iI size,iI 0] 65 (0,0)))(hb:Below w.heap.size w V):
  NwA w (w.heap.size+1) img size N rs 0 ((V.setCell ⟨w.heap.size+1,1,none⟩ (.slice (aA V.heap.size) N N)).alloc (.cells (madeCells #[.int .u8 0] N) 5)):=by
 have MT:=ac hm
 have Bf:=ac hi
 have hsz:(V.setCell ⟨w.heap.size+1,1,none⟩ (.slice (aA V.heap.size) N N)).heap.size=V.heap.size:=by simp [World.setCell]
 have o1:=(zac (V.setCell ⟨w.heap.size+1,1,none⟩ (.slice (aA V.heap.size) N N)) (.cells (madeCells #[.int .u8 0] N) 5) (by rw [hsz];exact MT)).trans (aJ hm (i:=1) (.slice (aA V.heap.size) N N))
 have hk:Kp (fun k=>k=w.heap.size+1) V ((V.setCell ⟨w.heap.size+1,1,none⟩ (.slice (aA V.heap.size) N N)).alloc (.cells (madeCells #[.int .u8 0] N) 5)):=(Kp.set _ _ _ _).trans (Kp.al _ _)
 have og:((V.setCell ⟨w.heap.size+1,1,none⟩ (.slice (aA V.heap.size) N N)).alloc (.cells (madeCells #[.int .u8 0] N) 5)).heap[V.heap.size]?=some (.cells (madeCells #[.int .u8 0] N) 5 (0,0)):=aH hsz.symm
 have Bh:(List.replicate N 0).flatMap aK=List.replicate N (Value.int .u8 0):=by
  rw [show aK=(fun n:Nat=>[Value.int .u8 n]) from rfl,cC,List.map_replicate]
  rfl
 refine ⟨(hk.block _ Bf (fun e=>by omega)).trans hi,⟨.slice none 0 0,.slice (aA V.heap.size) N N,[],rfl,⟨o1,fun r hr=>?_,by simp [mcR],fun r hr q hq hne k h8 h9=>?_⟩,fun n q t hq=>by simp at hq,fun n q t hq=>by simp at hq,fun n q t m p u hq=>by simp at hq,fun n q t m p u hq=>by simp at hq,fun n q t hq=>by simp at hq⟩,aI hb hk (fun k e=>by omega),by omega⟩
 ·simp only [mcR,zaM,zaN,or_false] at hr
  rcases hr with rfl|rfl
  ·exact ⟨by simp,.inl ⟨rfl,rfl⟩⟩
  ·refine ⟨by rw [Bh];simp,.inr ⟨V.heap.size,N,_,by simp [fld,mcC],by omega,og,by simp,by simp [maxLen];omega,by simp [size_madeCells],?_⟩⟩
   rw [toList_madeCells_one,Bh]
   simp
 ·simp only [mcR,zaM,zaN,or_false] at hr hq
  rcases hr with rfl|rfl<;>rcases hq with rfl|rfl
  ·exact hne rfl
  ·simp [fld,mcC,Value.ownBlock] at h8
  ·simp [fld,mcC,Value.ownBlock] at h9
  ·exact hne rfl
def tdJ(r:ThI)(j:Nat):TD:=⟨(codeOf r).take j,r.2,St.zero,[],0⟩
structure NwB(wy:qW)(k b g c:Nat)(cv:qV)(r:ThI)(j:Nat)(W:qW):Prop where
 th:MtX W k b g cv (.slice none 0 0) c (tdJ r j)
 fo: ∀x,tfoot b g c cv (.slice none 0 0) (tdJ r j) x->wy.heap.size<=x
 gs:wy.heap.size<=g
 ng: ¬tfoot b g c cv (.slice none 0 0) (tdJ r j) g
 bel:Below wy.heap.size wy W
theorem jl{b g c:Nat}{t:TD}{x:Nat}(h:tfoot b g c (.slice none 0 0) (.slice none 0 0) t x):x=b:=by
 rcases h with h|⟨r,hr,h⟩
 ·exact h
 ·simp only [thR,zaM,zaN,or_false] at hr
  rcases hr with rfl|rfl
  ·rw [bh _ 0 Za] at h
   simp [thF,Value.ownBlock] at h
  ·rw [bh _ 38 Za] at h
   simp [thF,Value.ownBlock] at h
theorem NwB.zero{wy V:qW}{k g c:Nat}{r:ThI}(hb:Below wy.heap.size wy V)(hw:V.heap[V.heap.size-1]?=some (.cells (thC (thF (.slice none 0 0) (.slice (aA g) r.2.length c) (.slice none 0 0) (tdJ r 0))) 80 (0,0)))(hV:1<=V.heap.size)(NA:wy.heap.size<=g)(yd:g<V.heap.size-1)(hr:RowC V g (r.2.flatMap (siteC k)))(hc:r.2.length<=c):
  NwB wy k (V.heap.size-1) g c (.slice none 0 0) r 0 V:=by
 refine ⟨⟨⟨hw,fun q hq=>?_,by simp [thR],fun q hq p hp hne x h8 h9=>?_⟩,hr,by omega,hc⟩,fun x hx=>by have:=jl hx;omega,NA,fun h=>by have:=jl h;omega,hb⟩
 ·simp only [thR,zaM,zaN,or_false] at hq
  rcases hq with rfl|rfl
  ·rw [bh _ 0 Za]
   exact ⟨by simp [tdJ],.inl ⟨rfl,by simp [tdJ]⟩⟩
  ·rw [bh _ 38 Za]
   exact ⟨by simp [tdJ],.inl ⟨rfl,by simp [tdJ]⟩⟩
 ·simp only [thR,zaM,zaN,or_false] at hq
  rcases hq with rfl|rfl
  ·rw [bh _ 0 Za] at h8
   simp [thF,Value.ownBlock] at h8
  ·rw [bh _ 38 Za] at h8
   simp [thF,Value.ownBlock] at h8
def NewD(w:qW)(size:Int)(rs:List ThI)(e:Ending)(w':qW):Prop:=
 ∃M F bs,e= .returned (.tuple #[pP M,iI 0])/\w.heap.size<=M/\MacAt w' M F bs (mBeg size rs)/\Below w.heap.size w w'
theorem oH:St.zero.ok:=⟨fun _=>by show 0<2^64;omega,by show rngI 0;unfold rngI;omega,by show rngI 0;unfold rngI;omega,by show rngI 0;unfold rngI;omega⟩
theorem ydi{i:Ins}(h:Facts i):i.rng:=fun k hk=>by
 have h1:=h.op
 have h2:=h.d
 have h3:=h.n
 have h4:=h.m
 have h5:=h.e
 have h6:=h.sz
 have h7:=h.imm
 have:k=0\/k=1\/k=2\/k=3\/k=4\/k=5\/k=6:=by omega
 rcases this with rfl|rfl|rfl|rfl|rfl|rfl|rfl<;>(simp only [Ins.get,rngI];omega)
theorem ydS{w:Nat}{i:Ins}(h:decF w=some i):i.rng:=ydi (dv (ydP h))
theorem lx(w:qW)(gT L:Nat)(gv:qV)(size:Int)(rs:List ThI)(yG:1<=L)(RA:L<=8)(AR:rs.length=L)(h0:0<=size)(h1:size<=65536)(hg:gT+1<w.heap.size)(ht: ∀j r,rs[j]?=some r->TImg w (gT+2) gT (gT+1) j j r)(xr: ∀r∈rs,rOk r=true)(gvs: ∃a n c,gv= .slice a n c):
  qC 8 #[.agg #[.slice (aA gT) L L,.slice (aA (gT+1)) L L,gv,iI size]] w (NewD w size rs):=by
 obtain ⟨ga,gn,gc,rfl⟩:=gvs
 have CS:=Zh (fun W=>jz W (aA gT) L L (.slice (aA (gT+1)) L L) (.slice ga gn gc) size (L-1) Za Za h0 h1 Za)
 rw [Int.ofNat_sub yG] at CS
 have HT:=Zh ht
 have zN:=Zh xr
 clear ht xr
 have xz:Hid (0<=iStack size (L-1)/\iStack size (L-1)<=500000):=Zh (by unfold iStack;omega)
 go_enter Tryz.func8,Tryz.ntmps8
 go_wp2_with fail
 go_at_call 14
 refine (CS.out _).mono ?_
 rintro e w4 ⟨rfl,p4,rfl⟩
 obtain ⟨N,hN⟩: ∃N:Nat,iStack size (L-1)+1024-65536=N:=⟨(iStack size (L-1)+1024-65536).toNat,by have:=xz.out;unfold iStack at*;omega⟩
 have MO:N<=100000/\size<=N:=by unfold iStack at hN;omega
 have HN:=Zh hN
 generalize Dd:iStack size (L-1)=ps at*
 have hw:wrap64 (wrap64 (ps+1024)-65536)=(N:Int):=by
  have:=xz.out
  unfold wrap64
  omega
 have Bd: ∀w:qW,(Instr.makeSlice 44 (iI (N:Int)) (iI (N:Int))).run Tryz.prog w= .ok (.slice (aA w.heap.size) N N) (w.alloc (.cells (madeCells #[.int .u8 0] N) 5)):=
  fun w=>run_make_row' 44 5 (.int .u8 0) 1 Tryz.underlying44 iX rfl .i64 .i64 N Za Za w
 go_upto_region 6 with fail
 obtain ⟨S6,Cj⟩: ∃S6,S6=w.heap.size+1+1+p4.os.size:=⟨_,rfl⟩
 rw [<-Cj]
 refine aS (R:=fun X=>Below w.heap.size w X/\X.heap[w.heap.size]?=some (.cells #[.slice (aA gT) L L,.slice (aA (gT+1)) L L,.slice ga gn gc,iI size] 31 (0,0))/\X.heap[w.heap.size+1]?=some (.cells #[.slice none 0 0,.slice none 0 0,iI size,iI 0] 65 (0,0))/\X.heap[S6]?=some (.cells #[iI ps,iI 1024] 67 (0,0))) ⟨ab (aG (ab (ab (zaa _ _) _) _) _) _,(zac _ _ (by simp only [aZ,ar];omega)).trans (((Kp.mo (X:=fun _=>False) _ _).block _ ZF id).trans ((zac _ _ ZF).trans (zab _ _))),(zac _ _ (by simp only [aZ,ar];omega)).trans (((Kp.mo (X:=fun _=>False) _ _).block _ ZF id).trans (aH (by simp only [ar]))),aH (by rw [Cj];simp only [aZ,ar])⟩ ?_
 rintro V ⟨yD,hi,hm,hs⟩
 have s0:V.cell? (aB S6 0)=some (iI ps):=aa hs 0
 have s1:V.cell? (aB S6 1)=some (iI 1024):=aa hs 1
 have m1:V.cell? ⟨w.heap.size+1,1,none⟩=some (.slice none 0 0):=aa hm 1
 have mf:=ah hm
 have MT:w.heap.size+1<V.heap.size:=ac hm
 have Bf:w.heap.size<V.heap.size:=by omega
 have Rt:S6<V.heap.size:=ac hs
 have im0:V.cell? (aB w.heap.size 0)=some (.slice (aA gT) L L):=aa hi 0
 have HI:=Zh hi
 have Qi:=Zh hm
 have yR:=Zh yD
 clear yD hi hm hs Cj CS
 go_wp2_with fail
 go_loopw [61] (fun v61 wr=> ∃k:Nat,v61=iI k/\k<=L/\NwA w (w.heap.size+1) #[.slice (aA gT) L L,.slice (aA (gT+1)) L L,.slice ga gn gc,iI size] size N rs k wr) (fun v61 _=>L-(intOf v61).toNat)
 case atStart=>exact ⟨0,rfl,by omega,NwA.zero MO.1 HI.out Qi.out yR.out⟩
 case round=>
  obtain ⟨k,rfl,hk,hA⟩:=hrel
  by_cases zu:k<L
  ·obtain ⟨r,hr⟩: ∃r,rs[k]?=some r:=⟨rs[k]'Za,zaC _⟩
   obtain ⟨g1,c1,g2,c2,a1,a2,a3,a4⟩:=HT.out k r hr
   have zL:=km (zN.out r (zat hr))
   have b1:=(hA.bl.cell (p:=⟨gT,k,none⟩) (by show gT<_;omega)).trans a1
   have b2:=(hA.bl.cell (p:=⟨gT+1,k,none⟩) (by show gT+1<_;omega)).trans a2
   have im0:wr.cell? (aB w.heap.size 0)=some (.slice (aA gT) L L):=aa hA.im 0
   have im1:wr.cell? (aB w.heap.size 1)=some (.slice (aA (gT+1)) L L):=aa hA.im 1
   have xZ:(k:Int)<L:=by omega
   have wZ:IntKind.i64.wrap ((k:Int)+1)=(k:Int)+1:=aR Za Za
   have hne:((r.1.length:Int) !=(r.2.length:Int))=false:=by
    have:=zL.1
    simp
    omega
   have R4:=a4
   have Ag:g2<w.heap.size:=(a4.lt g2 rfl).2
   obtain ⟨_,_,e4,O1,O0, -, -⟩:=aC a4
   injection e4 with e41 e42 e43
   have CL:=Zh (yen wr g2 c2 k r.2 (by have:=zL.1;have:=zL.2.1;omega) (by have:=zL.1;have:=zL.2.2.1;omega) (by have:=hA.bl.size;omega) (bT (bW (X:=fun b=>w.heap.size<=b) a4 ⟨hA.bl.os,hA.bl.tape,hA.bl.output,hA.bl.size,fun b hb hx=>hA.bl.block b Za⟩ Za)) Za Za)
   have HA:=Zh hA
   have Ee:=Zh zL
   have A3:=Zh a3
   clear hA zL a1 a2 a3 a4 R4 e41 e42 e43
   go_wp2_with fail
   refine CL.out.mono ?_
   rintro e V2 ⟨g',c',rfl,xA,AB⟩
   have z8:=Zh AB
   have xV:=Zh xA
   clear xA AB CL b2 im1
   go_upto_region 13 with fail
   refine aS (R:=fun X=>Below V2.heap.size V2 X/\X.heap.size=V2.heap.size+1/\X.heap[V2.heap.size]?=some (.cells (thC (thF (.slice none 0 0) (.slice (aA g') r.2.length c') (.slice none 0 0) (tdJ r 0))) 80 (0,0))) ⟨ab (zaa _ _) _,by simp only [ar],(zab _ _).trans Zb⟩ ?_
   rintro V3 ⟨Ai,Jo,Lt⟩
   have yd:=(z8.out.lt g' rfl)
   obtain ⟨_,_,e4,OZ,OY, -, -⟩:=aC z8.out
   injection e4 with e41 e42 e43
   have MP:NwB wr k V2.heap.size g' c' (.slice none 0 0) r 0 V3:=by
    have:=NwB.zero (wy:=wr) (V:=V3) (k:=k) (g:=g') (c:=c') (r:=r) (an xV.out Ai xV.out.size) (by rw [Jo];exact Lt) Za yd.1 Za (bT (bW (X:=fun _=>False) z8.out (Kp.of_below Ai) id)) Za
    rwa [Jo] at this
   have Qe:=Zh MP
   clear MP Ai Lt e41 e42 e43 z8
   go_wp2_with fail
   generalize wr=wy at*
   have Ay:=Zh Jo
   go_loopw [85] (fun v85 wz=> ∃(j:Nat) (cv:qV),v85=iI j/\j<=r.1.length/\NwB wy k V2.heap.size g' c' cv r j wz) (fun v85 _=>r.1.length-(intOf v85).toNat)
   case atStart=>exact ⟨0,_,rfl,by omega,Qe.out⟩
   case round=>
    obtain ⟨j,cv,rfl,hj,hN⟩:=hrel
    by_cases zh:j<r.1.length
    ·obtain ⟨wd,y7⟩: ∃wd,r.1[j]?=some wd:=⟨r.1[j],zaC zh⟩
     obtain ⟨Jt,i,Ch,Do, -⟩:=Ee.out.2.2.2 j wd y7
     have Gz:(j:Int)<r.1.length:=by omega
     have Cb:IntKind.i64.wrap ((j:Int)+1)=(j:Int)+1:=aR (by have:=Ee.out.2.2.1;omega) (by have:=Ee.out.2.2.1;omega)
     have Ci:Below w.heap.size w wr:=an HA.out.bl hN.bel HA.out.bl.size
     have cw:wr.cell? (aB g1 j)=some (.int .u32 (wd:Nat)):=(Ci.cell (p:=⟨g1,j,none⟩) (A3.out.lt g1 rfl).2).trans (bT A3.out j _ (eH (fun x:Nat=>Value.int .u32 x) r.1 j wd y7))
     have DEC:=ydO wd Jt
     rw [Ch] at DEC
     simp only [Option.getD_some,Option.isSome_some,if_true] at DEC
     have DEC:=Zh DEC
     have HN:=Zh hN
     have Nt:=Zh Do
     have Ar:=hN.th.ob.lt
     clear hN Ci Ch Do
     go_wp2_with fail
     refine (DEC.out _).mono ?_
     rintro e w5 ⟨rfl,p5,rfl⟩
     unfold insV
     go_upto_region 19 with fail
     obtain ⟨bx,Kh⟩: ∃bx,bx=wr.heap.size+p5.os.size:=⟨_,rfl⟩
     rw [<-Kh]
     refine aS (R:=fun X=>Below wr.heap.size wr X/\X.heap[bx]?=some (.cells (insC i).toArray 83 (0,0))) ⟨ab (aG (zaa _ _) _) _,aH (by rw [Kh];simp only [aZ])⟩ ?_
     rintro V5 ⟨ER,Iq⟩
     have O4:wr.heap.size<=bx:=by omega
     have GW:bx<V5.heap.size:=ac Iq
     clear Kh
     obtain ⟨i0,xF,xx,xu,xq⟩:=zan ik
     have BN:=HN.out.th.kp (Kp.of_below (X:=fun _=>False) ER) (fun _ _=>id) id
     have q0:V5.cell? (aB V2.heap.size 0)=some cv:=BN.cell 0 Za
     have qf:=ah BN.ob.out
     have yi:V5.ownsRow (V2.heap.size+1) 83 7 cv (tdJ r j).code.length ((tdJ r j).code.flatMap insC):=by
      have:=BN.ob.own ⟨0,83,7,(tdJ r j).code.length,(tdJ r j).code.flatMap insC⟩ (by simp [thR])
      simp only [bh _ 0 (by omega:0<40)] at this
      exact this
     have LV:(tdJ r j).code.length=j:=by
      show ((codeOf r).take j).length=j
      have:=(List.getElem?_eq_some_iff.1 Nt.out).1
      rw [zaR]
      omega
     have No:=Zh LV
     clear LV
     have Of:cv.ownBlock≠some bx:=fun e=>by
      have:=(HN.out.th.ob.own ⟨0,83,7,(tdJ r j).code.length,(tdJ r j).code.flatMap insC⟩ (by simp [thR])).lt bx (by simp only [bh _ 0 (by omega:0<40)];exact e)
      omega
     have EQ:V2.heap.size<V5.heap.size:=by have:=ER.size;omega
     have HM:=Zh BN
     have xB:=Zh yi
     have RW:=Zh Iq
     have Io:=Zh ER
     have hA:V5.drew.rangeAt bx 0 (insC i):=fun q v hv=>(aa Iq _).trans (by simpa using hv)
     have hB:V5.drew.cell? (aB V2.heap.size 0)=some cv:=q0
     clear BN yi Iq ER
     refine ae (fun X=>X.rangeAt bx 0 (insC i)) (fun X=>X.cell? (aB V2.heap.size 0)=some cv) 10 rfl ?_
     refine Zp 0 rfl (h:=Zp 1 rfl (h:=Zp 2 rfl (h:=Zp 3 rfl (h:=Zl 4 [7,10] rfl (h:=?_)))));try simp only [Zq]
     refine bG 5 (v:=insV i) rfl Zb Zb Zb (fun _ _ _ h=>h) Zd Zb (dh rfl (.tmp 12) rfl bx 0 ?_ i ?_) ⟨hA,fun _=>hB⟩ ?_
     ·rfl
     ·intro w hw;exact hw
     try simp only [Zq]
     unfold insV
     refine Zs 6 rfl fun K hK=>?_
     go_simp
     refine hK _ _ ⟨fun q v hv=>(aj GW).trans (hA q v hv),fun _=>(aj EQ).trans q0⟩ ?_
     refine Zs 7 rfl fun K hK=>?_
     refine bf (.tmp 101) (.tmp 103) 75 83 i0 _ 7 56 Tryz.underlying75 xF xx xu xq rfl Zd rfl rfl (V2.heap.size+1) cv (tdJ r j).code.length ((tdJ r j).code.flatMap insC) (ax xB.out (fun g hg=>zac _ _ (xB.out.lt g hg).2)) V5.heap.size (insC i).toArray 83 (0,0) (zab _ _) ZA ZA rfl (by simp [insC,Value.oneCell']) (by rw [No.out];have:=Ee.out.2.2.1;omega) (by rw [No.out];have:=Ee.out.2.2.1;omega) Zc ?_
     intro g6 cap6 w6 hown xb xk Ev
     have yp:Kp (fun q=>cv.ownBlock=some q) (V5.drew.alloc (.cells (insC i).toArray 83)) w6:=(Kp.of_grown xb).mono (fun q _ e=>e.symm)
     have BX:cv.ownBlock≠some V2.heap.size:=fun e=>by have:=(xB.out.lt _ e).1;omega
     have z0:w6.cell? (aB V2.heap.size 0)=some cv:=((yp.cell Zc BX).trans (aj EQ)).trans q0
     have zf: ∀q,w6.frozen? (aB V2.heap.size q)=false:=ah ((yp.block _ Zc BX).trans ((zac _ _ EQ).trans HM.out.ob.out))
     have zr:w6.rangeAt bx 0 (insC i):=yp.rng (fun q v hv=>(aj GW).trans (hA q v hv)) Zc Of
     obtain ⟨d1,d2,d3⟩:=HM.out.code1 (v:=i) ((Kp.dr V5).trans (Kp.al _ _)) xb hown xk HN.out.ng
     have D1:=Zh d1
     have D2:=Zh d2
     have D3:=Zh d3
     clear d1 d2 d3 hown xb xk yp q0 qf
     refine hK _ _ ⟨zr,fun _=>z0⟩ ?_
     clear hK K hA hB
     have hA:=zr
     have hB:=z0
     have yF:V2.heap.size≠bx:=by have:=HN.out.th.ob.lt;omega
     refine Zp 8 rfl (h:=Zp 9 rfl (h:=?_));try simp only [Zq]
     refine Zs 10 rfl fun K hK=>?_
     go_simp
     refine hK _ _ ⟨fun q v hv=>(zaH _ _ _ _ (fun e=>yF (congrArg Addr.block e))).trans (zr q v hv),fun hh=>Bool.noConfusion (hh.symm.trans (show _=true by kernel_rfl))⟩ ?_
     clear hK K hA hB z0 zf zr
     refine af Zb ?_ _
     go_wp2_with fail
     have et:tdJ r (j+1)={tdJ r j with code:=(tdJ r j).code++[i]}:=by
      unfold tdJ
      simp only
      rw [zaz,Nt.out]
      rfl
     have Eh:=xV.out.size
     have QI:=Io.out.size
     have Nz:=HN.out.bel.size
     refine ⟨⟨j+1,.slice (aA g6) ((tdJ r j).code.length+1) cap6,by simp,by omega,⟨?_,fun x hx=>?_,HN.out.gs,fun hx=>?_,aI (an HN.out.bel Io.out Nz) D2.out (fun q hq=>HN.out.fo q hq)⟩⟩,by simp [intOf];omega⟩
     ·rw [et]
      exact D1.out
     ·rw [et] at hx
      rcases D3.out x hx with h|h
      ·exact HN.out.fo x h
      ·omega
     ·rw [et] at hx
      rcases D3.out _ hx with h|h
      ·exact HN.out.ng h
      ·omega
    ·have ED:j=r.1.length:=by omega
     have Gz: ¬(j:Int)<r.1.length:=by omega
     have et:tdJ r j=tdOf r:=by
      unfold tdJ tdOf
      rw [ED,List.take_of_length_le (by simp [codeOf])]
     obtain ⟨tv,bv,ks,Gj⟩:=HA.out.mx
     have CH:=Gj.kp (Kp.of_below (X:=fun _=>False) hN.bel) (fun _ e=>e.elim)
     have B6:k<rs.length:=by omega
     have zJ:((rs.take k).map tdOf).length=k:=by rw [List.length_map,zaR];omega
     have Gw:=CH.len
     rw [zJ] at Gw
     have q0:wr.cell? ⟨w.heap.size+1,0,none⟩=some tv:=CH.cells 0
     have qf:=ah CH.ob.out
     have MQ:=CH.ob.lt
     have yi:wr.ownsRow (w.heap.size+1+1) 71 1 tv ks.length (ks.flatMap (fun q:TK=>[pP q.b])):=CH.ob.own ⟨0,71,1,ks.length,ks.flatMap (fun q:TK=>[pP q.b])⟩ (by simp [mcR])
     have hby: ∀x,mfoot (w.heap.size+1) tv bv size 0 (List.replicate N 0) ((rs.take k).map tdOf) ks x->x<wy.heap.size:=fun x hx=>by
      rcases hx with hx|⟨m,q,u,hq,hu,hx⟩
      ·exact (Gj.ob.foot_lt hx).2
      ·rcases hx with hx|rfl
       ·exact ((Gj.th m q u hq hu).ob.foot_lt hx).2
       ·exact (Gj.th m q u hq hu).sl
     have DM: ∀(w6:qW) (g6 cap6:Nat),World.grownBy (wr.alloc (.cells #[pP V2.heap.size] 71)) w6 tv.ownBlock->w6.ownsRow (w.heap.size+1+1) 71 1 (.slice (aA g6) (ks.length+1) cap6) (ks.length+1) (ks.flatMap (fun q:TK=>[pP q.b])++[pP V2.heap.size])->(tv.ownBlock=some g6\/g6=(wr.alloc (.cells #[pP V2.heap.size] 71)).heap.size)->
       NwA w (w.heap.size+1) #[.slice (aA gT) L L,.slice (aA (gT+1)) L L,.slice ga gn gc,iI size] size N rs (k+1) (w6.setCell ⟨w.heap.size+1,0,none⟩ (.slice (aA g6) (ks.length+1) cap6)):=fun w6 g6 cap6 xb hown xk=>by
      obtain ⟨p1,p2,p3⟩:=CH.push (q:=⟨V2.heap.size,g',c',cv,.slice none 0 0⟩) (t:=tdJ r j) (B0:=wy.heap.size) (by rw [zJ];exact hN.th) hby (fun x hx=>by
       rcases hx with hx|rfl
       ·exact ⟨hN.fo x hx,(hN.th.ob.foot_lt hx).2⟩
       ·exact ⟨hN.gs,hN.th.sl⟩) (fun hx=>hN.ng hx) ((Kp.al _ _)) xb hown xk
      have xo:Below w.heap.size w wr:=an HA.out.bl hN.bel HA.out.bl.size
      have e7:(rs.take (k+1)).map tdOf=(rs.take k).map tdOf++[tdJ r j]:=by
       rw [zaz,hr,et]
       simp
      rw [<-e7] at p1
      refine ⟨(p2.block _ Za (fun hx=>by have:=(CH.ob.foot_lt hx).1;omega)).trans ((hN.bel.block _ (ac HA.out.im)).trans HA.out.im),⟨_,_,_,p1⟩,aI xo p2 (fun x hx=>by have:=(CH.ob.foot_lt hx).1;omega),by omega⟩
     have xB:=Zh yi
     have HP:=Zh DM
     have Qh:=Zh CH.ob.out
     obtain ⟨i0,xF,xx,xu,xq⟩:=zan tU
     clear hN et ED DM CH Gj hby yi Ay b1
     go_wp2_with (at_builtin;refine bO (.tmp 112) (.tmp 114) 63 71 i0 _ 1 8 Tryz.underlying63 xF xx xu xq rfl Zd rfl rfl (w.heap.size+1+1) tv ks.length (ks.flatMap (fun q:TK=>[pP q.b])) (ax xB.out (fun g hg=>zac _ _ (xB.out.lt g hg).2)) wr.heap.size #[pP V2.heap.size] 71 (0,0) (zab _ _) rfl rfl rfl ZD Za Za ZF ?_;intro g6 cap6 w6 hown xb xk Ev;have HQ:=Zh (HP.out w6 g6 cap6 xb hown xk);have BX:tv.ownBlock≠some (w.heap.size+1):=(fun e=>by have:=(xB.out.lt _ e).1;omega);have yp:Kp (fun q=>tv.ownBlock=some q) wr w6:=((Kp.al _ _).trans ((Kp.of_grown xb).mono (fun q _ e=>e.symm)));have z0:w6.cell? ⟨w.heap.size+1,0,none⟩=some tv:=((yp.cell MQ BX).trans q0);have zf: ∀q,w6.frozen? ⟨w.heap.size+1,q,none⟩=false:=(ah ((yp.block _ MQ BX).trans Qh.out));clear hown xb xk yp)
     exact ⟨⟨k+1,by simp,by omega,by have:=HQ.out;rw [Gw] at this;exact this⟩,by simp [intOf];omega⟩
  ·have zO:k=L:=by omega
   have xZ: ¬(k:Int)<L:=by omega
   obtain ⟨tv,bv,ks,IF⟩:=hA.mx
   rw [zO,<-AR,List.take_length] at IF
   have Qg:=Zh IF
   have Ab:=Zh hA.bl
   have Qd:=Zh hN
   clear hA IF zO hN
   go_wp2_with fail
   (try simp only [Exit.inBlock,Exit.then]);refine zad (by simp [results,Tryz.results8,go_sem,↓IntWalk.iteOmega];try rfl) rfl ?_
   have hm:=Qg.out
   have Oi:mBeg size rs=⟨size,0,List.replicate N 0,rs.map tdOf⟩:=by
    unfold mBeg
    rw [AR,Dd,Qd.out]
    rfl
   refine ⟨w.heap.size+1,mfoot (w.heap.size+1) tv bv size 0 (List.replicate N 0) (rs.map tdOf) ks,ks.map TK.b,rfl,by omega,?_,Ab.out⟩
   rw [Oi]
   refine ⟨⟨fun t ht=>?_,by simp;omega,by simp;omega,by simp;omega,fun q=>?_,⟨h0,by simpa using MO.2⟩⟩,fun q hq=>?_,tv,bv,ks,rfl,hm,fun q hq=>hq⟩
   ·obtain ⟨r,hr,rfl⟩:=List.mem_map.1 ht
    have ho:=km (zN.out r hr)
    have hc: ∀i∈(tdOf r).code,i.rng/\paB i.op=false:=fun i hi=>by
     obtain ⟨q,hq⟩:=List.getElem?_of_mem hi
     have N4:=(List.getElem?_eq_some_iff.1 hq).1
     have zU:q<r.1.length:=by simpa [tdOf,codeOf] using N4
     obtain ⟨FB,i2,hd,hc,DN⟩:=ho.2.2.2 q r.1[q] (zaC zU)
     have e:i2=i:=zae (hc.symm.trans hq)
     subst e
     exact ⟨ydS hd,DN⟩
    exact ⟨oH,fun i hi=>(hc i hi).1,by simp [tdOf,codeOf];exact ho.2.2.1,by simp [tdOf,codeOf];exact ho.1.symm,fun i hi=>(hc i hi).2⟩
   ·rw [zaU,List.getElem?_replicate]
    split<;>simp
   ·rcases hq with hq|⟨m,p,u,hp,hu,hq⟩
    ·exact hm.ob.foot_lt hq
    ·have hl:=hm.lo m p u hp hu
     rcases hq with hq|rfl
     ·have:=(hm.th m p u hp hu).ob.foot_lt hq
      omega
     ·have:=(hm.th m p u hp hu).sl
      omega
theorem u9(n:Nat)(a m:Int)(k:Nat)(ts:List TD):(othM n a m k ts).length=ts.length:=by simp [othM]
theorem vd{n:Nat}{a m:Int}{k j:Nat}{ts:List TD}{t0:TD}(h:ts[j]?=some t0):(othM n a m k ts)[j]?=some (if j<k/\j≠n then clrW a m t0 else t0):=by
 simp [othM,List.getElem?_mapIdx,h]
theorem jk{l:List Nat}{m:Nat}(h1:1<=m)(h2:m<=8)(hl:m<=l.length)(B5:l.length<=1000000):thereM l 65536 m=true:=by
 unfold thereM
 have s1:sndB 65536 (m:Int)=true:=by unfold sndB;rw [zau];omega
 have s2:sndB 65536 (l.length:Int)=true:=by unfold sndB;rw [zau];omega
 unfold withinB loI hiI
 rw [s1,s2]
 simp only [if_true,zak,beq_iff_eq,za0,zau]
 unfold bLo bHi
 rw [if_neg Za,if_neg Za]
 omega
theorem uH{l:List Nat}(r:List Nat){j m:Nat}(h:j+m<=l.length):partL (l++r) j m=partL l j m:=by
 unfold partL
 rw [List.drop_append_of_le_length Za,List.take_append_of_le_length (by rw [List.length_drop];omega)]
theorem sZ{l:List Nat}(r:List Nat){j m:Nat}(h:j+m<=l.length):rd0 (l++r) j m=rd0 l j m:=by
 unfold rd0
 rw [uH r Za]
theorem oO{l:List Nat}(r:List Nat){m:Nat}(x y:Nat)(h8:m<=8)(h:m<=l.length):wrM (l++r) 0 m x y=wrM l 0 m x y++r:=by
 have hz: ∀q:List Nat,putBy q (0+8) y 0=q:=fun q=>by
  unfold putBy splice
  simp
 unfold wrM
 rw [show m-8=0 by omega,hz,hz,show min m 8=m by omega]
 unfold putBy splice
 rw [List.take_zero,List.take_zero,List.drop_append_of_le_length Zk]
 simp
def ctBy(sz m:Nat):List Nat:=m::List.replicate (sz-1) 0
def ctCode(y k z:Int):List Ins:=[⟨1,28,0,0,0,0,y⟩,⟨2,28,0,0,1,0,1⟩,⟨1,0,0,0,0,0,0⟩,⟨7,1,31,0,0,0,0⟩,⟨1,0,0,0,0,0,k⟩,⟨5,31,1,0,0,0,0⟩,⟨12,2,0,0,3,0,0⟩,⟨15,2,0,0,0,0,13⟩,⟨1,0,0,0,0,0,1⟩,⟨1,2,0,0,1,0,1⟩,⟨21,14,2,0,0,z,0⟩,⟨3,12,14,0,0,0,0⟩,⟨23,12,2,13,0,z,0⟩,⟨16,13,0,0,0,0, -3⟩,⟨7,3,31,14,0,0,0⟩,⟨31,0,0,0,0,0,4⟩,⟨1,0,0,0,0,0,1⟩,⟨3,2,1,0,0,0,0⟩,⟨7,1,31,2,0,0,0⟩,⟨13,0,0,0,0,0, -15⟩,⟨31,0,0,0,0,0,0⟩]
def Lp(k:Nat)(x:Nat->Nat)(c:Bool)(a p h n:Nat):Nat->Prop
 |0=>a=0/\p=0/\h=0/\n=k*25+27
 |1=>a=0/\p=0/\h=0/\n=k*25+26
 |2=>a=0/\p=0/\h=0/\n=k*25+25
 |3=>x 0=0/\a=0/\p=0/\h=0/\n=k*25+24
 |4=>x 1=a/\a<=k/\p=0/\h=0/\n=(k-a)*25+23
 |5=>x 1=a/\x 0=k/\a<=k/\p=0/\h=0/\n=(k-a)*25+22
 |6=>x 1=a/\c=decide (k<=a)/\a<=k/\p=0/\h=0/\n=(k-a)*25+21
 |7=>x 1=a/\x 2=(if a<k then 1 else 0)/\a<=k/\p=0/\h=0/\n=(k-a)*25+20
 |8=>x 1=a/\a<k/\p=0/\h=0/\n=(k-a)*25+19
 |9=>x 1=a/\x 0=1/\a<k/\p=0/\h=0/\n=(k-a)*25+18
 |10=>x 1=a/\x 0=1/\x 2=65536/\a<k/\p=0/\h=0/\n=(k-a)*25+14
 |11=>x 1=a/\x 0=1/\x 2=65536/\x 14<20/\a<k/\p=0/\((h=0/\n=(k-a)*25+17)\/(h=x 14+1/\n=(k-a)*25+13))
 |12=>x 1=a/\x 0=1/\x 2=65536/\x 14<20/\x 12=x 14+1/\a<k/\p=0/\((h=0/\n=(k-a)*25+16)\/(h=x 14+1/\n=(k-a)*25+12))
 |13=>h=0/\((x 13=0/\x 1+1=a/\a<=k/\x 14<20/\p=x 14+1/\n=(k+1-a)*25+11)\/(x 13=1/\x 1=a/\x 0=1/\x 2=65536/\a<k/\p=0/\n=(k-a)*25+15))
 |14=>x 1+1=a/\a<=k/\x 14<20/\p=x 14+1/\h=0/\n=(k+1-a)*25+10
 |15=>x 1+1=a/\a<=k/\p=x 3+1/\h=0/\n=(k+1-a)*25+9
 |16=>x 1+1=a/\a<=k/\p=0/\h=0/\n=(k+1-a)*25+8
 |17=>x 1+1=a/\x 0=1/\a<=k/\p=0/\h=0/\n=(k+1-a)*25+7
 |18=>x 2=a/\1<=a/\a<=k/\p=0/\h=0/\n=(k+1-a)*25+6
 |19=>x 1=a/\1<=a/\a<=k/\p=0/\h=0/\n=(k+1-a)*25+5
 |20=>a=k/\p=0/\h=0/\n=1
 |_=>False
theorem oF{k:Nat}{x:Nat->Nat}{c:Bool}{a p h n:Nat}: ∀pc,Lp k x c a p h n pc->a<=k/\(h≠0->pc=11\/pc=12):=fun pc hL=>by
 unfold Lp at hL
 split at hL<;>first|omega|exact hL.elim
theorem yfG{k:Nat}{x:Nat->Nat}{c:Bool}{a p h n pc:Nat}(hL:Lp k x c a p h n pc): ∃n',Lp k x c a p 0 n' pc:=by
 by_cases h0:h=0
 ·exact ⟨n,h0 ▸ hL⟩
 ·rcases (oF pc hL).2 h0 with rfl|rfl
  ·obtain ⟨h1,h2,h3,h4,h5,h6, -⟩:=hL
   exact ⟨_,h1,h2,h3,h4,h5,h6,.inl ⟨rfl,rfl⟩⟩
  ·obtain ⟨h1,h2,h3,h4,h5,h6,h7, -⟩:=hL
   exact ⟨_,h1,h2,h3,h4,h5,h6,h7,.inl ⟨rfl,rfl⟩⟩
structure ThL(k z:Nat)(t:TD)(a p h n:Nat):Prop where
 code: ∃y,t.code=ctCode y k z
 enc: ∀i∈t.code,(enc i).isSome=true
 w0:h=0->t.st.wa=0/\t.st.wl=0
 w1:h≠0->t.st.wa=65536/\t.st.wl=(2^z:Nat)
 k3:k<=3
 z3:z<=3
 pr:t.prints.length<=1000
 st:(t.end_=1/\a=k/\p=0/\h=0)\/(t.end_=0/\ ∃pc:Nat,t.st.pc=pc/\Lp k t.st.x t.st.c a p h n pc)
theorem ThL.ak{k z:Nat}{t:TD}{a p h n:Nat}(L:ThL k z t a p h n):a<=k:=by
 rcases L.st with ⟨-,e, -⟩|⟨-,pc, -,hL⟩
 ·omega
 ·exact (oF pc hL).1
theorem ThL.clr{k z:Nat}{t:TD}{a p h n:Nat}(L:ThL k z t a p h n): ∃n',ThL k z {t with st:={t.st with wa:=0,wl:=0}} a p 0 n':=by
 rcases L.st with ⟨e1,e2,e3,e4⟩|⟨e,pc,xC,hL⟩
 ·exact ⟨n,L.code,L.enc,fun _=>⟨rfl,rfl⟩,fun h=>absurd rfl h,L.k3,L.z3,L.pr,.inl ⟨e1,e2,e3,rfl⟩⟩
 ·obtain ⟨n',h'⟩:=yfG hL
  exact ⟨n',L.code,L.enc,fun _=>⟨rfl,rfl⟩,fun h=>absurd rfl h,L.k3,L.z3,L.pr,.inr ⟨e,pc,xC,h'⟩⟩
theorem yfF{k:Nat}{x:Nat->Nat}{c:Bool}{a p h n:Nat}: ∀pc,Lp k x c a p h n pc->n<=(k+1)*25+27:=fun pc hL=>by
 unfold Lp at hL
 split at hL<;>first|omega|exact hL.elim
def ctF(z m:Nat):Bool:=
 decide (rd0 (ctBy (2^z) m) 0 (2^z)=m)&&decide (m&&&mask (8*((2^z:Nat):Int))=m)&&decide ((bits .and .u64 ((m+1:Nat):Int) (mask (8*((2^z:Nat):Int)):Nat)).toNat=m+1)&&decide (wrM (ctBy (2^z) m) 0 (2^z) (m+1) 0=ctBy (2^z) (m+1))&&decide (bits .or .u64 0 (m:Nat)=(m:Int))
theorem yd7:(List.range 4).all (fun z=>(List.range 20).all (ctF z))=true:=by kernel_rfl
theorem iD{z m:Nat}(hz:z<=3)(hm:m<20):rd0 (ctBy (2^z) m) 0 (2^z)=m/\m&&&mask (8*((2^z:Nat):Int))=m/\(bits .and .u64 ((m+1:Nat):Int) (mask (8*((2^z:Nat):Int)):Nat)).toNat=m+1/\wrM (ctBy (2^z) m) 0 (2^z) (m+1) 0=ctBy (2^z) (m+1)/\bits .or .u64 0 (m:Nat)=(m:Int):=by
 have h:=List.all_eq_true.1 (List.all_eq_true.1 yd7 z (List.mem_range.2 Za)) m (List.mem_range.2 hm)
 unfold ctF at h
 simp only [za0,zau] at h
 exact ⟨h.1.1.1.1,h.1.1.1.2,h.1.1.2,h.1.2,h.2⟩
def OwnS(k z:Nat)(R:List Nat)(s:MSt)(u:Nat)(f:Bool)(t:TD)(a p h n m:Nat):Prop:=
 ∃(t1:TD) (a' p' h' n' m':Nat) (ts':List TD),mStep s u f=some {s with bytes:=ctBy (2^z) m'++R,ts:=ts'.set u t1}/\ThL k z t1 a' p' h' n'/\(f=false->n'+1<=n)/\
  ((ts'=s.ts/\m'=m/\a'=a/\(h'≠0->h'=m+1)/\((t1.prints=t.prints/\p'=p)\/ ∃v,t1.prints=t.prints++[v]/\p=v+1/\p'=0))\/
   (ts'=othM u 65536 ((2^z:Nat):Int) s.ts.length s.ts/\m'=m+1/\a'=a+1/\p=0/\p'=m+1/\t1.prints=t.prints/\h'=0))
theorem uW{k z:Nat}{R:List Nat}{s:MSt}{u:Nat}{f:Bool}{t:TD}{a p h n m:Nat}(yU:s.ts[u]?=some t)(L:ThL k z t a p h n)(he:t.end_=0)(hb:s.bytes=ctBy (2^z) m++R)(hh:h≠0->h=m+1)
  (pc pc' n':Nat) (xC:t.st.pc=pc) (i:Ins) (Do:t.code[pc]?=some i) (ho:meB i.op=false) (BB:i.op≠31/\i.op≠32/\i.op≠30) (Fm:(nextS t.st i 0 0 false).pc=pc') (hL:Lp k (nextS t.st i 0 0 false).x (nextS t.st i 0 0 false).c a p h n' pc') (hn:n'+1<=n):OwnS k z R s u f t a p h n m:=by
 obtain ⟨y,hc⟩:=L.code
 have xz:stopT t i=some t:=by
  unfold stopT
  rw [if_neg BB.2.1,if_neg BB.1]
 have hw:(nextS t.st i 0 0 false).wa=t.st.wa/\(nextS t.st i 0 0 false).wl=t.st.wl:=by
  unfold nextS bodyS
  rw [if_neg BB.2.2,ho]
  simp only [zaY,if_false]
  split
  ·unfold setX
   split<;>split<;>exact ⟨rfl,rfl⟩
  ·exact ⟨rfl,rfl⟩
 refine ⟨{t with st:=nextS t.st i 0 0 false},a,p,h,n',m,s.ts,?_,⟨⟨y,hc⟩,L.enc,fun e=>?_,fun e=>?_,L.k3,L.z3,L.pr,.inr ⟨he,pc',Fm,hL⟩⟩,fun _=>hn,.inl ⟨rfl,rfl,rfl,hh,.inl ⟨rfl,rfl⟩⟩⟩
 ·unfold mStep
  rw [yU,zaZ,if_neg (by simp [he]),if_neg Za,show t.st.pc.toNat=pc by omega,Do,zaZ,if_pos (L.enc i (zat Do)),ho,xz,<-hb]
  rfl
 ·show (nextS t.st i 0 0 false).wa=0/\(nextS t.st i 0 0 false).wl=0
  rw [hw.1,hw.2]
  exact L.w0 e
 ·show (nextS t.st i 0 0 false).wa=65536/\(nextS t.st i 0 0 false).wl=_
  rw [hw.1,hw.2]
  exact L.w1 e
theorem fN{n:Nat}(h:n<1000):(IntKind.u64.wrap (n:Int)).toNat=n:=by
 simp [IntKind.wrap,IntKind.bits,IntKind.signed]
 omega
theorem w64{n:Nat}(h:n<1000):wrap64 (n:Int)=n:=by
 unfold wrap64
 omega
theorem cR{i:Ins}(s:St)(hb:numB i.op=true)(h5:i.op≠5)(hd:i.d≠31)(j:Nat):(nextS s i 0 0 false).x j=if (j:Int)=i.d then (numI s i).toNat else s.x j:=by
 have zT:i.op≠30:=fun e=>by rw [e] at hb;cases hb
 have hm:meB i.op=false:=by
  simp only [numB,meB,zau,decide_eq_false_iff_not] at hb ⊢
  omega
 unfold nextS bodyS
 rw [if_neg zT,hm]
 simp only [zaY,if_false,hb,if_true,if_neg h5]
 unfold setX
 rw [if_neg hd]
end Go.Proofs.YtjmfoeajhiimnaaGreatDoor
