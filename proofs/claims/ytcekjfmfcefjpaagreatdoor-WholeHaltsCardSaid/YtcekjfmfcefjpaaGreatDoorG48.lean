/- Walks. No condition. -/
import Derived.Test.YtcekjfmfcefjpaaGreatDoorG47
set_option maxRecDepth 100000
set_option maxHeartbeats 0
set_option linter.all false
namespace Go.Proofs.YtcekjfmfcefjpaaGreatDoor
open Go.RowKit Go.Sort
theorem iT:(Tryz.prog.info? 5).map (fun i=>(i.zero,i.size,i.bytes))=some (some (.int .u8 0),1,1):=by kernel_rfl
theorem tf:(Tryz.prog.info? 74).map (fun i=>(i.zero,i.size,i.bytes))=some (some (.pointer none),1,8):=by kernel_rfl
def mBeg(size:Int)(rs:List ThI):MSt:=⟨size,0,List.replicate (iStack size (rs.length-1)+1024-65536).toNat 0,rs.map tdOf⟩
structure NwA(w:qW)(M:Nat)(img:Array qV)(size:Int)(N:Nat)(rs:List ThI)(k:Nat)(W:qW):Prop where
 im:W.heap[w.heap.size]?=some (.cells img 28 (0,0))
 mx: ∃tv bv ks,McX W M tv bv size 0 (List.replicate N 0) ((rs.take k).map tdOf) ks
 bl:Below w.heap.size w W
 lt:w.heap.size<M
theorem NwA.below{w:qW}{M:Nat}{img:Array qV}{size:Int}{N:Nat}{rs:List ThI}{k:Nat}{W W':qW}(h:NwA w M img size N rs k W)(hb:Below W.heap.size W W'):NwA w M img size N rs k W':=by
 obtain ⟨tv,bv,ks,hm⟩:=h.mx
 exact ⟨(hb.block _ (ac h.im)).trans h.im,⟨tv,bv,ks,hm.kp (Kp.of_below (X:=fun _=>False) hb) (fun _ e=>e.elim)⟩,ar h.bl hb h.bl.size,h.lt⟩
theorem NwA.zero{w V:qW}{size:Int}{N:Nat}{img:Array qV}{rs:List ThI}(hN:N<=100000)(hi:V.heap[w.heap.size]?=some (.cells img 28 (0,0)))(hm:V.heap[w.heap.size+1]?=some (.cells #[.slice none 0 0,.slice none 0 0,iI size,iI 0] 70 (0,0)))(hb:Below w.heap.size w V):
  NwA w (w.heap.size+1) img size N rs 0 ((V.setCell ⟨w.heap.size+1,1,none⟩ (.slice (aA V.heap.size) N N)).alloc (.cells (madeCells #[.int .u8 0] N) 5)):=by
 have Mv:=ac hm
 have Ba:=ac hi
 have hsz:(V.setCell ⟨w.heap.size+1,1,none⟩ (.slice (aA V.heap.size) N N)).heap.size=V.heap.size:=by simp [World.setCell]
 have o1:=(zac (V.setCell ⟨w.heap.size+1,1,none⟩ (.slice (aA V.heap.size) N N)) (.cells (madeCells #[.int .u8 0] N) 5) (by rw [hsz];exact Mv)).trans (aJ hm (i:=1) (.slice (aA V.heap.size) N N))
 have hk:Kp (fun k=>k=w.heap.size+1) V ((V.setCell ⟨w.heap.size+1,1,none⟩ (.slice (aA V.heap.size) N N)).alloc (.cells (madeCells #[.int .u8 0] N) 5)):=(Kp.set _ _ _ _).trans (Kp.al _ _)
 have og:((V.setCell ⟨w.heap.size+1,1,none⟩ (.slice (aA V.heap.size) N N)).alloc (.cells (madeCells #[.int .u8 0] N) 5)).heap[V.heap.size]?=some (.cells (madeCells #[.int .u8 0] N) 5 (0,0)):=aI hsz.symm
 have Bb:(List.replicate N 0).flatMap aK=List.replicate N (Value.int .u8 0):=by
  rw [show aK=(fun n:Nat=>[Value.int .u8 n]) from rfl,cz,List.map_replicate]
  rfl
 refine ⟨(hk.block _ Ba (fun e=>by omega)).trans hi,⟨.slice none 0 0,.slice (aA V.heap.size) N N,[],rfl,⟨o1,fun r hr=>?_,by simp [mcR],fun r hr q hq hne k h8 h9=>?_⟩,fun n q t hq=>by simp at hq,fun n q t hq=>by simp at hq,fun n q t m p u hq=>by simp at hq,fun n q t m p u hq=>by simp at hq,fun n q t hq=>by simp at hq⟩,aH hb hk (fun k e=>by omega),by omega⟩
 ·simp only [mcR,zaM,zaN,or_false] at hr
  rcases hr with rfl|rfl
  ·exact ⟨by simp,.inl ⟨rfl,rfl⟩⟩
  ·refine ⟨by rw [Bb];simp,.inr ⟨V.heap.size,N,_,by simp [fld,mcC],by omega,og,by simp,by simp [maxLen];omega,by simp [size_madeCells],?_⟩⟩
   rw [toList_madeCells_one,Bb]
   simp
 ·simp only [mcR,zaM,zaN,or_false] at hr hq
  rcases hr with rfl|rfl<;>rcases hq with rfl|rfl
  ·exact hne rfl
  ·simp [fld,mcC,Value.ownBlock] at h8
  ·simp [fld,mcC,Value.ownBlock] at h9
  ·exact hne rfl
def tdJ(r:ThI)(j:Nat):TD:=⟨(codeOf r).take j,r.2,St.zero,[],0⟩
structure NwB(wy:qW)(k b g c:Nat)(cv:qV)(r:ThI)(j:Nat)(W:qW):Prop where
 th:MtX W k b g cv (.slice none 0 0) c (tdJ r j)
 fo: ∀x,tfoot b g c cv (.slice none 0 0) (tdJ r j) x->wy.heap.size<=x
 gs:wy.heap.size<=g
 ng: ¬tfoot b g c cv (.slice none 0 0) (tdJ r j) g
 bel:Below wy.heap.size wy W
theorem jd{b g c:Nat}{t:TD}{x:Nat}(h:tfoot b g c (.slice none 0 0) (.slice none 0 0) t x):x=b:=by
 rcases h with h|⟨r,hr,h⟩
 ·exact h
 ·simp only [thR,zaM,zaN,or_false] at hr
  rcases hr with rfl|rfl
  ·rw [a9 _ 0 Za] at h
   simp [thF,Value.ownBlock] at h
  ·rw [a9 _ 38 Za] at h
   simp [thF,Value.ownBlock] at h
theorem NwB.zero{wy V:qW}{k g c:Nat}{r:ThI}(hb:Below wy.heap.size wy V)(hw:V.heap[V.heap.size-1]?=some (.cells (thC (thF (.slice none 0 0) (.slice (aA g) r.2.length c) (.slice none 0 0) (tdJ r 0))) 82 (0,0)))(hV:1<=V.heap.size)(Nd:wy.heap.size<=g)(xY:g<V.heap.size-1)(hr:RowC V g (r.2.flatMap (siteC k)))(hc:r.2.length<=c):
  NwB wy k (V.heap.size-1) g c (.slice none 0 0) r 0 V:=by
 refine ⟨⟨⟨hw,fun q hq=>?_,by simp [thR],fun q hq p hp hne x h8 h9=>?_⟩,hr,by omega,hc⟩,fun x hx=>by have:=jd hx;omega,Nd,fun h=>by have:=jd h;omega,hb⟩
 ·simp only [thR,zaM,zaN,or_false] at hq
  rcases hq with rfl|rfl
  ·rw [a9 _ 0 Za]
   exact ⟨by simp [tdJ],.inl ⟨rfl,by simp [tdJ]⟩⟩
  ·rw [a9 _ 38 Za]
   exact ⟨by simp [tdJ],.inl ⟨rfl,by simp [tdJ]⟩⟩
 ·simp only [thR,zaM,zaN,or_false] at hq
  rcases hq with rfl|rfl
  ·rw [a9 _ 0 Za] at h8
   simp [thF,Value.ownBlock] at h8
  ·rw [a9 _ 38 Za] at h8
   simp [thF,Value.ownBlock] at h8
def NewD(w:qW)(size:Int)(rs:List ThI)(e:Ending)(w':qW):Prop:=
 ∃M F bs,e= .returned (.tuple #[pP M,iI 0])/\w.heap.size<=M/\MacAt w' M F bs (mBeg size rs)/\Below w.heap.size w w'
theorem ot:St.zero.ok:=⟨fun _=>by show 0<2^64;omega,by show rngI 0;unfold rngI;omega,by show rngI 0;unfold rngI;omega,by show rngI 0;unfold rngI;omega⟩
theorem yda{i:Ins}(h:Facts i):i.rng:=fun k hk=>by
 have h1:=h.op
 have h2:=h.d
 have h3:=h.n
 have h4:=h.m
 have h5:=h.e
 have h6:=h.sz
 have h7:=h.imm
 have:k=0\/k=1\/k=2\/k=3\/k=4\/k=5\/k=6:=by omega
 rcases this with rfl|rfl|rfl|rfl|rfl|rfl|rfl<;>(simp only [Ins.get,rngI];omega)
theorem ydM{w:Nat}{i:Ins}(h:decF w=some i):i.rng:=yda (dt (ydJ h))
theorem lj(w:qW)(gT L:Nat)(gv:qV)(size:Int)(rs:List ThI)(yA:1<=L)(hL8:L<=8)(AK:rs.length=L)(h0:0<=size)(h1:size<=65536)(hg:gT+1<w.heap.size)(ht: ∀j r,rs[j]?=some r->TImg w (gT+2) gT (gT+1) j j r)(xo: ∀r∈rs,rOk r=true)(gvs: ∃a n c,gv= .slice a n c):
  qC 6 #[.agg #[.slice (aA gT) L L,.slice (aA (gT+1)) L L,gv,iI size]] w (NewD w size rs):=by
 obtain ⟨ga,gn,gc,rfl⟩:=gvs
 have CS:=Zh (fun W=>ju W (aA gT) L L (.slice (aA (gT+1)) L L) (.slice ga gn gc) size (L-1) Za Za h0 h1 Za)
 rw [Int.ofNat_sub yA] at CS
 have HT:=Zh ht
 have zK:=Zh xo
 clear ht xo
 have xw:Hid (0<=iStack size (L-1)/\iStack size (L-1)<=500000):=Zh (by unfold iStack;omega)
 go_enter Tryz.func6,Tryz.ntmps6
 go_wp2_with fail
 go_at_call 13
 refine (CS.out _).mono ?_
 rintro e w4 ⟨rfl,p4,rfl⟩
 obtain ⟨N,hN⟩: ∃N:Nat,iStack size (L-1)+1024-65536=N:=⟨(iStack size (L-1)+1024-65536).toNat,by have:=xw.out;unfold iStack at*;omega⟩
 have Mq:N<=100000/\size<=N:=by unfold iStack at hN;omega
 have HN:=Zh hN
 generalize DN:iStack size (L-1)=ps at*
 have hw:wrap64 (wrap64 (ps+1024)-65536)=(N:Int):=by
  have:=xw.out
  unfold wrap64
  omega
 have Aw: ∀w:qW,(Instr.makeSlice 22 (iI (N:Int)) (iI (N:Int))).run Tryz.prog w= .ok (.slice (aA w.heap.size) N N) (w.alloc (.cells (madeCells #[.int .u8 0] N) 5)):=
  fun w=>run_make_row' 22 5 (.int .u8 0) 1 Tryz.underlying22 iT rfl .i64 .i64 N Za Za w
 go_upto_region 6 with fail
 obtain ⟨S6,Cd⟩: ∃S6,S6=w.heap.size+1+1+p4.os.size:=⟨_,rfl⟩
 rw [<-Cd]
 refine aT (R:=fun X=>Below w.heap.size w X/\X.heap[w.heap.size]?=some (.cells #[.slice (aA gT) L L,.slice (aA (gT+1)) L L,.slice ga gn gc,iI size] 28 (0,0))/\X.heap[w.heap.size+1]?=some (.cells #[.slice none 0 0,.slice none 0 0,iI size,iI 0] 70 (0,0))/\X.heap[S6]?=some (.cells #[iI ps,iI 1024] 38 (0,0))) ⟨ab (aF (ab (ab (zaa _ _) _) _) _) _,(zac _ _ (by simp only [aZ,au];omega)).trans (((Kp.mo (X:=fun _=>False) _ _).block _ ZM id).trans ((zac _ _ ZM).trans (zab _ _))),(zac _ _ (by simp only [aZ,au];omega)).trans (((Kp.mo (X:=fun _=>False) _ _).block _ ZM id).trans (aI (by simp only [au]))),aI (by rw [Cd];simp only [aZ,au])⟩ ?_
 rintro V ⟨yw,hi,hm,hs⟩
 have s0:V.cell? (aB S6 0)=some (iI ps):=aa hs 0
 have s1:V.cell? (aB S6 1)=some (iI 1024):=aa hs 1
 have m1:V.cell? ⟨w.heap.size+1,1,none⟩=some (.slice none 0 0):=aa hm 1
 have mf:=ai hm
 have Mv:w.heap.size+1<V.heap.size:=ac hm
 have Ba:w.heap.size<V.heap.size:=by omega
 have hSV:S6<V.heap.size:=ac hs
 have im0:V.cell? (aB w.heap.size 0)=some (.slice (aA gT) L L):=aa hi 0
 have HI:=Zh hi
 have HMB:=Zh hm
 have yJ:=Zh yw
 clear yw hi hm hs Cd CS
 go_wp2_with fail
 go_loopw [61] (fun v61 wr=> ∃k:Nat,v61=iI k/\k<=L/\NwA w (w.heap.size+1) #[.slice (aA gT) L L,.slice (aA (gT+1)) L L,.slice ga gn gc,iI size] size N rs k wr) (fun v61 _=>L-(intOf v61).toNat)
 case atStart=>exact ⟨0,rfl,by omega,NwA.zero Mq.1 HI.out HMB.out yJ.out⟩
 case round=>
  obtain ⟨k,rfl,hk,hA⟩:=hrel
  by_cases zj:k<L
  ·obtain ⟨r,hr⟩: ∃r,rs[k]?=some r:=⟨rs[k]'Za,zaC _⟩
   obtain ⟨g1,c1,g2,c2,a1,a2,a3,a4⟩:=HT.out k r hr
   have zE:=jV (zK.out r (zat hr))
   have b1:=(hA.bl.cell (p:=⟨gT,k,none⟩) (by show gT<_;omega)).trans a1
   have b2:=(hA.bl.cell (p:=⟨gT+1,k,none⟩) (by show gT+1<_;omega)).trans a2
   have im0:wr.cell? (aB w.heap.size 0)=some (.slice (aA gT) L L):=aa hA.im 0
   have im1:wr.cell? (aB w.heap.size 1)=some (.slice (aA (gT+1)) L L):=aa hA.im 1
   have xT:(k:Int)<L:=by omega
   have wT:IntKind.i64.wrap ((k:Int)+1)=(k:Int)+1:=a7 Za Za
   have hne:((r.1.length:Int) !=(r.2.length:Int))=false:=by
    have:=zE.1
    simp
    omega
   have R4:=a4
   have Am:g2<w.heap.size:=(a4.lt g2 rfl).2
   obtain ⟨_,_,e4,hc2a,hc2b, -, -⟩:=az a4
   injection e4 with e41 e42 e43
   have CL:=Zh (yd3 wr g2 c2 k r.2 (by have:=zE.1;have:=zE.2.1;omega) (by have:=zE.1;have:=zE.2.2.1;omega) (by have:=hA.bl.size;omega) (bS (bV (X:=fun b=>w.heap.size<=b) a4 ⟨hA.bl.os,hA.bl.tape,hA.bl.output,hA.bl.size,fun b hb hx=>hA.bl.block b Za⟩ Za)) Za Za)
   have HA:=Zh hA
   have Eb:=Zh zE
   have A3:=Zh a3
   clear hA zE a1 a2 a3 a4 R4 e41 e42 e43
   go_wp2_with fail
   refine CL.out.mono ?_
   rintro e V2 ⟨g',c',rfl,xr,Av⟩
   have zV:=Zh Av
   have xA:=Zh xr
   clear xr Av CL b2 im1
   go_upto_region 13 with fail
   refine aT (R:=fun X=>Below V2.heap.size V2 X/\X.heap.size=V2.heap.size+1/\X.heap[V2.heap.size]?=some (.cells (thC (thF (.slice none 0 0) (.slice (aA g') r.2.length c') (.slice none 0 0) (tdJ r 0))) 82 (0,0))) ⟨ab (zaa _ _) _,by simp only [au],(zab _ _).trans Zb⟩ ?_
   rintro V3 ⟨AY,E3,Lb⟩
   have xY:=(zV.out.lt g' rfl)
   obtain ⟨_,_,e4,hc3a,hc3b, -, -⟩:=az zV.out
   injection e4 with e41 e42 e43
   have Mr:NwB wr k V2.heap.size g' c' (.slice none 0 0) r 0 V3:=by
    have:=NwB.zero (wy:=wr) (V:=V3) (k:=k) (g:=g') (c:=c') (r:=r) (ar xA.out AY xA.out.size) (by rw [E3];exact Lb) Za xY.1 Za (bS (bV (X:=fun _=>False) zV.out (Kp.of_below AY) id)) Za
    rwa [E3] at this
   have HNB:=Zh Mr
   clear Mr AY Lb e41 e42 e43 zV
   go_wp2_with fail
   generalize wr=wy at*
   have Af:=Zh E3
   go_loopw [85] (fun v85 wz=> ∃(j:Nat) (cv:qV),v85=iI j/\j<=r.1.length/\NwB wy k V2.heap.size g' c' cv r j wz) (fun v85 _=>r.1.length-(intOf v85).toNat)
   case atStart=>exact ⟨0,_,rfl,by omega,HNB.out⟩
   case round=>
    obtain ⟨j,cv,rfl,hj,hN⟩:=hrel
    by_cases yL:j<r.1.length
    ·obtain ⟨wd,yR⟩: ∃wd,r.1[j]?=some wd:=⟨r.1[j],zaC yL⟩
     obtain ⟨I7,i,Cb,Fj, -⟩:=Eb.out.2.2.2 j wd yR
     have Gj:(j:Int)<r.1.length:=by omega
     have BX:IntKind.i64.wrap ((j:Int)+1)=(j:Int)+1:=a7 (by have:=Eb.out.2.2.1;omega) (by have:=Eb.out.2.2.1;omega)
     have Bg:Below w.heap.size w wr:=ar HA.out.bl hN.bel HA.out.bl.size
     have cw:wr.cell? (aB g1 j)=some (.int .u32 (wd:Nat)):=(Bg.cell (p:=⟨g1,j,none⟩) (A3.out.lt g1 rfl).2).trans (bS A3.out j _ (fy (fun x:Nat=>Value.int .u32 x) r.1 j wd yR))
     have DEC:=ydI wd I7
     rw [Cb] at DEC
     simp only [Option.getD_some,Option.isSome_some,if_true] at DEC
     have DEC:=Zh DEC
     have HN:=Zh hN
     have M6:=Zh Fj
     have Ap:=hN.th.ob.lt
     clear hN Bg Cb Fj
     go_wp2_with fail
     refine (DEC.out _).mono ?_
     rintro e w5 ⟨rfl,p5,rfl⟩
     unfold insV
     go_upto_region 19 with fail
     obtain ⟨bx,J7⟩: ∃bx,bx=wr.heap.size+p5.os.size:=⟨_,rfl⟩
     rw [<-J7]
     refine aT (R:=fun X=>Below wr.heap.size wr X/\X.heap[bx]?=some (.cells (insC i).toArray 85 (0,0))) ⟨ab (aF (zaa _ _) _) _,aI (by rw [J7];simp only [aZ])⟩ ?_
     rintro V5 ⟨CX,Ic⟩
     have hbxl:wr.heap.size<=bx:=by omega
     have GH:bx<V5.heap.size:=ac Ic
     clear J7
     obtain ⟨i0,xz,xq,xm,xk⟩:=zan ib
     have BI:=HN.out.th.kp (Kp.of_below (X:=fun _=>False) CX) (fun _ _=>id) id
     have q0:V5.cell? (aB V2.heap.size 0)=some cv:=BI.cell 0 Za
     have qf:=ai BI.ob.out
     have yj:V5.ownsRow (V2.heap.size+1) 85 7 cv (tdJ r j).code.length ((tdJ r j).code.flatMap insC):=by
      have:=BI.ob.own ⟨0,85,7,(tdJ r j).code.length,(tdJ r j).code.flatMap insC⟩ (by simp [thR])
      simp only [a9 _ 0 (by omega:0<40)] at this
      exact this
     have Lx:(tdJ r j).code.length=j:=by
      show ((codeOf r).take j).length=j
      have:=(List.getElem?_eq_some_iff.1 M6.out).1
      rw [zaR]
      omega
     have MZ:=Zh Lx
     clear Lx
     have NO:cv.ownBlock≠some bx:=fun e=>by
      have:=(HN.out.th.ob.own ⟨0,85,7,(tdJ r j).code.length,(tdJ r j).code.flatMap insC⟩ (by simp [thR])).lt bx (by simp only [a9 _ 0 (by omega:0<40)];exact e)
      omega
     have Bi:V2.heap.size<V5.heap.size:=by have:=CX.size;omega
     have HM:=Zh BI
     have xu:=Zh yj
     have HX5:=Zh Ic
     have Fv:=Zh CX
     have hA:V5.drew.rangeAt bx 0 (insC i):=fun q v hv=>(aa Ic _).trans (by simpa using hv)
     have hB:V5.drew.cell? (aB V2.heap.size 0)=some cv:=q0
     clear BI yj Ic CX
     refine ae (fun X=>X.rangeAt bx 0 (insC i)) (fun X=>X.cell? (aB V2.heap.size 0)=some cv) 10 rfl ?_
     refine Zp 0 rfl (h:=Zp 1 rfl (h:=Zp 2 rfl (h:=Zp 3 rfl (h:=Zl 4 [7,10] rfl (h:=?_)))));try simp only [Zq]
     refine bD 5 (v:=insV i) rfl Zb Zb Zb (fun _ _ _ h=>h) Zg Zb (dh rfl (.tmp 12) rfl bx 0 ?_ i ?_) ⟨hA,fun _=>hB⟩ ?_
     ·rfl
     ·intro w hw;exact hw
     try simp only [Zq]
     unfold insV
     refine Zs 6 rfl fun K hK=>?_
     go_simp
     refine hK _ _ ⟨fun q v hv=>(an GH).trans (hA q v hv),fun _=>(an Bi).trans q0⟩ ?_
     refine Zs 7 rfl fun K hK=>?_
     refine a8 (.tmp 101) (.tmp 103) 76 85 i0 _ 7 56 Tryz.underlying76 xz xq xm xk rfl Zg rfl rfl (V2.heap.size+1) cv (tdJ r j).code.length ((tdJ r j).code.flatMap insC) (aw xu.out (fun g hg=>zac _ _ (xu.out.lt g hg).2)) V5.heap.size (insC i).toArray 85 (0,0) (zab _ _) ZB ZB rfl (by simp [insC,Value.oneCell']) (by rw [MZ.out];have:=Eb.out.2.2.1;omega) (by rw [MZ.out];have:=Eb.out.2.2.1;omega) Zc ?_
     intro g6 cap6 w6 hown wW xb Et
     have ym:Kp (fun q=>cv.ownBlock=some q) (V5.drew.alloc (.cells (insC i).toArray 85)) w6:=(Kp.of_grown wW).mono (fun q _ e=>e.symm)
     have BP:cv.ownBlock≠some V2.heap.size:=fun e=>by have:=(xu.out.lt _ e).1;omega
     have z0:w6.cell? (aB V2.heap.size 0)=some cv:=((ym.cell Zc BP).trans (an Bi)).trans q0
     have zf: ∀q,w6.frozen? (aB V2.heap.size q)=false:=ai ((ym.block _ Zc BP).trans ((zac _ _ Bi).trans HM.out.ob.out))
     have zr:w6.rangeAt bx 0 (insC i):=ym.rng (fun q v hv=>(an GH).trans (hA q v hv)) Zc NO
     obtain ⟨d1,d2,d3⟩:=HM.out.code1 (v:=i) ((Kp.dr V5).trans (Kp.al _ _)) wW hown xb HN.out.ng
     have D1:=Zh d1
     have D2:=Zh d2
     have D3:=Zh d3
     clear d1 d2 d3 hown wW xb ym q0 qf
     refine hK _ _ ⟨zr,fun _=>z0⟩ ?_
     clear hK K hA hB
     have hA:=zr
     have hB:=z0
     have yz:V2.heap.size≠bx:=by have:=HN.out.th.ob.lt;omega
     refine Zp 8 rfl (h:=Zp 9 rfl (h:=?_));try simp only [Zq]
     refine Zs 10 rfl fun K hK=>?_
     go_simp
     refine hK _ _ ⟨fun q v hv=>(zaH _ _ _ _ (fun e=>yz (congrArg Addr.block e))).trans (zr q v hv),fun hh=>Bool.noConfusion (hh.symm.trans (show _=true by kernel_rfl))⟩ ?_
     clear hK K hA hB z0 zf zr
     refine af Zb ?_ _
     go_wp2_with fail
     have et:tdJ r (j+1)={tdJ r j with code:=(tdJ r j).code++[i]}:=by
      unfold tdJ
      simp only
      rw [zaz,M6.out]
      rfl
     have Ed:=xA.out.size
     have hz5:=Fv.out.size
     have Nb:=HN.out.bel.size
     refine ⟨⟨j+1,.slice (aA g6) ((tdJ r j).code.length+1) cap6,by simp,by omega,⟨?_,fun x hx=>?_,HN.out.gs,fun hx=>?_,aH (ar HN.out.bel Fv.out Nb) D2.out (fun q hq=>HN.out.fo q hq)⟩⟩,by simp [intOf];omega⟩
     ·rw [et]
      exact D1.out
     ·rw [et] at hx
      rcases D3.out x hx with h|h
      ·exact HN.out.fo x h
      ·omega
     ·rw [et] at hx
      rcases D3.out _ hx with h|h
      ·exact HN.out.ng h
      ·omega
    ·have Ip:j=r.1.length:=by omega
     have Gj: ¬(j:Int)<r.1.length:=by omega
     have et:tdJ r j=tdOf r:=by
      unfold tdJ tdOf
      rw [Ip,List.take_of_length_le (by simp [codeOf])]
     obtain ⟨tv,bv,ks,F0⟩:=HA.out.mx
     have CD:=F0.kp (Kp.of_below (X:=fun _=>False) hN.bel) (fun _ e=>e.elim)
     have Bq:k<rs.length:=by omega
     have zC:((rs.take k).map tdOf).length=k:=by rw [List.length_map,zaR];omega
     have Gg:=CD.len
     rw [zC] at Gg
     have q0:wr.cell? ⟨w.heap.size+1,0,none⟩=some tv:=CD.cells 0
     have qf:=ai CD.ob.out
     have Mt:=CD.ob.lt
     have yj:wr.ownsRow (w.heap.size+1+1) 74 1 tv ks.length (ks.flatMap (fun q:TK=>[pP q.b])):=CD.ob.own ⟨0,74,1,ks.length,ks.flatMap (fun q:TK=>[pP q.b])⟩ (by simp [mcR])
     have hby: ∀x,mfoot (w.heap.size+1) tv bv size 0 (List.replicate N 0) ((rs.take k).map tdOf) ks x->x<wy.heap.size:=fun x hx=>by
      rcases hx with hx|⟨m,q,u,hq,hu,hx⟩
      ·exact (F0.ob.foot_lt hx).2
      ·rcases hx with hx|rfl
       ·exact ((F0.th m q u hq hu).ob.foot_lt hx).2
       ·exact (F0.th m q u hq hu).sl
     have DM: ∀(w6:qW) (g6 cap6:Nat),World.grownBy (wr.alloc (.cells #[pP V2.heap.size] 74)) w6 tv.ownBlock->w6.ownsRow (w.heap.size+1+1) 74 1 (.slice (aA g6) (ks.length+1) cap6) (ks.length+1) (ks.flatMap (fun q:TK=>[pP q.b])++[pP V2.heap.size])->(tv.ownBlock=some g6\/g6=(wr.alloc (.cells #[pP V2.heap.size] 74)).heap.size)->
       NwA w (w.heap.size+1) #[.slice (aA gT) L L,.slice (aA (gT+1)) L L,.slice ga gn gc,iI size] size N rs (k+1) (w6.setCell ⟨w.heap.size+1,0,none⟩ (.slice (aA g6) (ks.length+1) cap6)):=fun w6 g6 cap6 wW hown xb=>by
      obtain ⟨p1,p2,p3⟩:=CD.push (q:=⟨V2.heap.size,g',c',cv,.slice none 0 0⟩) (t:=tdJ r j) (B0:=wy.heap.size) (by rw [zC];exact hN.th) hby (fun x hx=>by
       rcases hx with hx|rfl
       ·exact ⟨hN.fo x hx,(hN.th.ob.foot_lt hx).2⟩
       ·exact ⟨hN.gs,hN.th.sl⟩) (fun hx=>hN.ng hx) ((Kp.al _ _)) wW hown xb
      have xg:Below w.heap.size w wr:=ar HA.out.bl hN.bel HA.out.bl.size
      have e7:(rs.take (k+1)).map tdOf=(rs.take k).map tdOf++[tdJ r j]:=by
       rw [zaz,hr,et]
       simp
      rw [<-e7] at p1
      refine ⟨(p2.block _ Za (fun hx=>by have:=(CD.ob.foot_lt hx).1;omega)).trans ((hN.bel.block _ (ac HA.out.im)).trans HA.out.im),⟨_,_,_,p1⟩,aH xg p2 (fun x hx=>by have:=(CD.ob.foot_lt hx).1;omega),by omega⟩
     have xu:=Zh yj
     have HP:=Zh DM
     have HMO:=Zh CD.ob.out
     obtain ⟨i0,xz,xq,xm,xk⟩:=zan tf
     clear hN et Ip DM CD F0 hby yj Af b1
     go_wp2_with (at_builtin;refine bL (.tmp 112) (.tmp 114) 68 74 i0 _ 1 8 Tryz.underlying68 xz xq xm xk rfl Zg rfl rfl (w.heap.size+1+1) tv ks.length (ks.flatMap (fun q:TK=>[pP q.b])) (aw xu.out (fun g hg=>zac _ _ (xu.out.lt g hg).2)) wr.heap.size #[pP V2.heap.size] 74 (0,0) (zab _ _) rfl rfl rfl ZL Za Za ZM ?_;intro g6 cap6 w6 hown wW xb Et;have HQ:=Zh (HP.out w6 g6 cap6 wW hown xb);have BP:tv.ownBlock≠some (w.heap.size+1):=(fun e=>by have:=(xu.out.lt _ e).1;omega);have ym:Kp (fun q=>tv.ownBlock=some q) wr w6:=((Kp.al _ _).trans ((Kp.of_grown wW).mono (fun q _ e=>e.symm)));have z0:w6.cell? ⟨w.heap.size+1,0,none⟩=some tv:=((ym.cell Mt BP).trans q0);have zf: ∀q,w6.frozen? ⟨w.heap.size+1,q,none⟩=false:=(ai ((ym.block _ Mt BP).trans HMO.out));clear hown wW xb ym)
     exact ⟨⟨k+1,by simp,by omega,by have:=HQ.out;rw [Gg] at this;exact this⟩,by simp [intOf];omega⟩
  ·have zM:k=L:=by omega
   have xT: ¬(k:Int)<L:=by omega
   obtain ⟨tv,bv,ks,Im⟩:=hA.mx
   rw [zM,<-AK,List.take_length] at Im
   have HMX:=Zh Im
   have zY:=Zh hA.bl
   have HNN:=Zh hN
   clear hA Im zM hN
   go_wp2_with fail
   (try simp only [Exit.inBlock,Exit.then]);refine zad (by simp [results,Tryz.results6,go_sem,↓IntWalk.iteOmega];try rfl) rfl ?_
   have hm:=HMX.out
   have NQ:mBeg size rs=⟨size,0,List.replicate N 0,rs.map tdOf⟩:=by
    unfold mBeg
    rw [AK,DN,HNN.out]
    rfl
   refine ⟨w.heap.size+1,mfoot (w.heap.size+1) tv bv size 0 (List.replicate N 0) (rs.map tdOf) ks,ks.map TK.b,rfl,by omega,?_,zY.out⟩
   rw [NQ]
   refine ⟨⟨fun t ht=>?_,by simp;omega,by simp;omega,by simp;omega,fun q=>?_,⟨h0,by simpa using Mq.2⟩⟩,fun q hq=>?_,tv,bv,ks,rfl,hm,fun q hq=>hq⟩
   ·obtain ⟨r,hr,rfl⟩:=List.mem_map.1 ht
    have ho:=jV (zK.out r hr)
    have hc: ∀i∈(tdOf r).code,i.rng/\paB i.op=false:=fun i hi=>by
     obtain ⟨q,hq⟩:=List.getElem?_of_mem hi
     have NC:=(List.getElem?_eq_some_iff.1 hq).1
     have zF:q<r.1.length:=by simpa [tdOf,codeOf] using NC
     obtain ⟨Fo,i2,hd,hc,DO⟩:=ho.2.2.2 q r.1[q] (zaC zF)
     have e:i2=i:=zae (hc.symm.trans hq)
     subst e
     exact ⟨ydM hd,DO⟩
    exact ⟨ot,fun i hi=>(hc i hi).1,by simp [tdOf,codeOf];exact ho.2.2.1,by simp [tdOf,codeOf];exact ho.1.symm,fun i hi=>(hc i hi).2⟩
   ·rw [zaU,List.getElem?_replicate]
    split<;>simp
   ·rcases hq with hq|⟨m,p,u,hp,hu,hq⟩
    ·exact hm.ob.foot_lt hq
    ·have hl:=hm.lo m p u hp hu
     rcases hq with hq|rfl
     ·have:=(hm.th m p u hp hu).ob.foot_lt hq
      omega
     ·have:=(hm.th m p u hp hu).sl
      omega
def SlV(W:qW)(v:qV)(n:Nat)(xs:List qV):Prop:= ∃a c,v= .slice a n c/\n<=c/\c<=9223372036854775807/\xs.length=n/\(∀u∈xs,u.oneCell'=true)/\((a=none/\n=0/\c=0)\/ ∃g,a=aA g/\g<W.heap.size/\RowC W g xs)
theorem SlV.of_own{W:qW}{B n:Nat}{e:TypeId}{v:qV}{xs:List qV}(h:W.ownsRow B e 1 v n xs)(h1: ∀u∈xs,u.oneCell'=true):SlV W v n xs:=by
 obtain ⟨a,c,rfl,hc,yr,hn,hp⟩:=az h
 refine ⟨a,c,rfl,hc,yr,by simpa using h.1,h1,?_⟩
 cases a with
 |none=>exact .inl ⟨rfl,hn rfl⟩
 |some p=>
  obtain ⟨g,rfl⟩: ∃g,p=⟨g,0,none⟩:=⟨p.block,hp p rfl⟩
  exact .inr ⟨g,rfl,(h.lt _ rfl).2,bS h⟩
def ClipD(w:qW)(n B:Nat)(xs:List qV)(e:Ending)(w':qW):Prop:= ∃a,e= .returned (.slice a n n)/\w'=w/\((a=none/\n=0)\/ ∃g,a=aA g/\B<=g/\g<w.heap.size/\RowC w g xs)
theorem rW(p:Addr)(n c:Nat)(w:qW):(binOp BinOp.eql 22 (.slice (some p) n c) (.slice none 0 0)).run Tryz.prog w= .ok (.bool false) w:=by kernel_rfl
theorem rP(w:qW):(binOp BinOp.eql 22 (.slice none 0 0) (.slice none 0 0)).run Tryz.prog w= .ok (.bool true) w:=by kernel_rfl
theorem rQ(w:qW):(binOp BinOp.eql 80 (.slice none 0 0) (.slice none 0 0)).run Tryz.prog w= .ok (.bool true) w:=by kernel_rfl
theorem rX(p:Addr)(n c:Nat)(w:qW):(binOp BinOp.eql 80 (.slice (some p) n c) (.slice none 0 0)).run Tryz.prog w= .ok (.bool false) w:=by kernel_rfl
theorem yd1(w:qW)(v:qV)(n:Nat)(xs:List qV)(hn:n<=2000000)(h:SlV w v n xs):qC 26 #[v] w fun e w'=> ∃v',e= .returned v'/\Below w.heap.size w w'/\w'.ownsRow w.heap.size 5 1 v' n xs:=by
 obtain ⟨i0,xz,xq,xm,xk⟩:=zan iT
 obtain ⟨a,c,rfl,hc,yr,wX,h1,hx⟩:=h
 have H1:=Zh h1
 rcases hx with ⟨rfl,rfl,rfl⟩|⟨g,rfl,hg,hR⟩
 ·have Cs:xs=[]:=List.eq_nil_of_length_eq_zero wX
  clear h1 wX
  have Ay:=rP
  go_enter Tryz.func26,Tryz.ntmps26
  go_wp2_with fail
  go_ret
  exact ⟨_,rfl,zaa _ _,by rw [Cs];exact ⟨rfl,.inl ⟨rfl,rfl⟩⟩⟩
 ·have HR:=Zh hR
  have Ay:=rW ⟨g,0,none⟩ n c
  clear hR h1
  go_enter Tryz.func26,Tryz.ntmps26
  go_wp2_with (at_builtin;refine wpList_append_own_at (w:=w.alloc (.cells #[] 5)) (hgd:=rfl) (s:= .tmp 5) (x:= .tmp 6) (t:=22) (ho:=rfl) (base:=w.heap.size) (e:=5) (i:=i0) (z:=_) (size:=1) (bytes:=1) (ht:=Tryz.underlying22) (hi:=xz) (hz:=xq) (hsize:=xm) (hby:=xk) (hzs:=rfl) (hsz:=by decide) (v:= .slice (aA w.heap.size) 0 0) (n:=0) (xs:=[]) (hs:=rfl) (hown:=⟨rfl,.inr ⟨w.heap.size,0,#[],rfl,zaq _,zab _ _,zaq _,by unfold maxLen;omega,rfl,rfl⟩⟩) (ad:=⟨g,0,none⟩) (m:=n) (c:=c) (news:=xs) (hx:=rfl) (hl:=by omega) (hnews:=fun j u hu=>by rw [bK];exact ((ab (zaa _ w) _).cell (p:=⟨g,j,none⟩) hg).trans (HR.out j u hu)) (h1:=H1.out) (h63:=by unfold maxLen;omega) (hbytes:=by omega) (hbase:=by simp [go_sem]) (h:=?_);intro v' w' h2 h3 _ h5;have HO:=Zh h2;have HG:=Zh h3;clear h2 h3 h5)
  go_ret
  have ho:=HO.out
  simp only [zag,List.nil_append] at ho
  refine ⟨v',rfl,?_,ho⟩
  refine (ab (zaa w.heap.size w) (.cells #[] 5)).grown HG.out ZG (fun b hb=>?_)
  simp [Value.ownBlock] at hb
  omega
theorem yd5(w:qW)(v:qV)(n B:Nat)(xs:List qV)(h:w.ownsRow B 5 1 v n xs):qC 25 #[v] w (ClipD w n B xs):=by
 obtain ⟨a,c,rfl,hc,yr,hn,hp⟩:=az h
 cases a with
 |none=>
  obtain ⟨rfl,rfl⟩:=hn rfl
  clear h
  go_enter Tryz.func25,Tryz.ntmps25
  go_wp2_with fail
  go_ret
  exact ⟨none,rfl,rfl,.inl ⟨rfl,rfl⟩⟩
 |some p=>
  obtain ⟨g,rfl⟩: ∃g,p=⟨g,0,none⟩:=⟨p.block,hp p rfl⟩
  have hR:=Zh (bS h)
  have hl:=h.lt g rfl
  have D7:(n:Int)<=c:=by omega
  clear h hp hn
  go_enter Tryz.func25,Tryz.ntmps25
  go_wp2_with fail
  go_ret
  exact ⟨aA g,rfl,rfl,.inr ⟨g,rfl,hl.1,hl.2,hR.out⟩⟩
theorem yd2(w:qW)(v:qV)(n:Nat)(xs:List qV)(hn:n<=2000000)(h:SlV w v n xs):qC 28 #[v] w fun e w'=> ∃v',e= .returned v'/\Below w.heap.size w w'/\w'.ownsRow w.heap.size 39 1 v' n xs:=by
 obtain ⟨i0,xz,xq,xm,xk⟩:=zan iV
 obtain ⟨a,c,rfl,hc,yr,wX,h1,hx⟩:=h
 have H1:=Zh h1
 rcases hx with ⟨rfl,rfl,rfl⟩|⟨g,rfl,hg,hR⟩
 ·have Cs:xs=[]:=List.eq_nil_of_length_eq_zero wX
  clear h1 wX
  have Ay:=rQ
  go_enter Tryz.func28,Tryz.ntmps28
  go_wp2_with fail
  go_ret
  exact ⟨_,rfl,zaa _ _,by rw [Cs];exact ⟨rfl,.inl ⟨rfl,rfl⟩⟩⟩
 ·have HR:=Zh hR
  have Ay:=rX ⟨g,0,none⟩ n c
  clear hR h1
  go_enter Tryz.func28,Tryz.ntmps28
  go_wp2_with (at_builtin;refine wpList_append_own_at (w:=w.alloc (.cells #[] 39)) (hgd:=rfl) (s:= .tmp 5) (x:= .tmp 6) (t:=80) (ho:=rfl) (base:=w.heap.size) (e:=39) (i:=i0) (z:=_) (size:=1) (bytes:=8) (ht:=Tryz.underlying80) (hi:=xz) (hz:=xq) (hsize:=xm) (hby:=xk) (hzs:=rfl) (hsz:=by decide) (v:= .slice (aA w.heap.size) 0 0) (n:=0) (xs:=[]) (hs:=rfl) (hown:=⟨rfl,.inr ⟨w.heap.size,0,#[],rfl,zaq _,zab _ _,zaq _,by unfold maxLen;omega,rfl,rfl⟩⟩) (ad:=⟨g,0,none⟩) (m:=n) (c:=c) (news:=xs) (hx:=rfl) (hl:=by omega) (hnews:=fun j u hu=>by rw [bK];exact ((ab (zaa _ w) _).cell (p:=⟨g,j,none⟩) hg).trans (HR.out j u hu)) (h1:=H1.out) (h63:=by unfold maxLen;omega) (hbytes:=by omega) (hbase:=by simp [go_sem]) (h:=?_);intro v' w' h2 h3 _ h5;have HO:=Zh h2;have HG:=Zh h3;clear h2 h3 h5)
  go_ret
  have ho:=HO.out
  simp only [zag,List.nil_append] at ho
  refine ⟨v',rfl,?_,ho⟩
  refine (ab (zaa w.heap.size w) (.cells #[] 39)).grown HG.out ZG (fun b hb=>?_)
  simp [Value.ownBlock] at hb
  omega
theorem yd6(w:qW)(v:qV)(n B:Nat)(xs:List qV)(h:w.ownsRow B 39 1 v n xs):qC 27 #[v] w (ClipD w n B xs):=by
 obtain ⟨a,c,rfl,hc,yr,hn,hp⟩:=az h
 cases a with
 |none=>
  obtain ⟨rfl,rfl⟩:=hn rfl
  clear h
  go_enter Tryz.func27,Tryz.ntmps27
  go_wp2_with fail
  go_ret
  exact ⟨none,rfl,rfl,.inl ⟨rfl,rfl⟩⟩
 |some p=>
  obtain ⟨g,rfl⟩: ∃g,p=⟨g,0,none⟩:=⟨p.block,hp p rfl⟩
  have hR:=Zh (bS h)
  have hl:=h.lt g rfl
  have D7:(n:Int)<=c:=by omega
  clear h hp hn
  go_enter Tryz.func27,Tryz.ntmps27
  go_wp2_with fail
  go_ret
  exact ⟨aA g,rfl,rfl,.inr ⟨g,rfl,hl.1,hl.2,hR.out⟩⟩
end Go.Proofs.YtcekjfmfcefjpaaGreatDoor
