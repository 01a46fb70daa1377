/- Walks. No condition. -/
import Derived.Deep.RegionLaw
import Derived.Maps.AppendAt
import Derived.Deep.AppendLies
import Derived.Test.YtcekjfmfcefjpaaGreatDoorG11
set_option maxRecDepth 100000
set_option maxHeartbeats 0
set_option linter.all false
namespace Go.Proofs.YtcekjfmfcefjpaaGreatDoor
open Go.RowKit Go.Sort Go.Lib
theorem mA: ∀(l:List Tri) (j:Nat) (x:Tri),l[j]?=some x->(l.flatMap ivC)[j*3]?=some (iI x.1)/\(l.flatMap ivC)[j*3+1]?=some (iI x.2.1)/\(l.flatMap ivC)[j*3+2]?=some (iI x.2.2)
 |[],j,x,h=>by simp at h
 |y::r,0,x,h=>by
  simp at h
  subst h
  exact ⟨rfl,rfl,rfl⟩
 |y::r,j+1,x,h=>by
  have ih:=mA r j x (by simpa using h)
  have e: ∀t,((y::r).flatMap ivC)[(j+1)*3+t]?=(r.flatMap ivC)[j*3+t]?:=fun t=>by
   rw [zaf,zai (by simp [ivC];omega)]
   congr 1
   simp [ivC]
   omega
  exact ⟨(e 0).trans ih.1,(e 1).trans ih.2.1,(e 2).trans ih.2.2⟩
theorem mB: ∀(l:List (Int×Int)) (j:Nat) (x:Int×Int),l[j]?=some x->(l.flatMap lpC)[j*2]?=some (iI x.1)/\(l.flatMap lpC)[j*2+1]?=some (iI x.2)
 |[],j,x,h=>by simp at h
 |y::r,0,x,h=>by
  simp at h
  subst h
  exact ⟨rfl,rfl⟩
 |y::r,j+1,x,h=>by
  have ih:=mB r j x (by simpa using h)
  have e: ∀t,((y::r).flatMap lpC)[(j+1)*2+t]?=(r.flatMap lpC)[j*2+t]?:=fun t=>by
   rw [zaf,zai (by simp [lpC];omega)]
   congr 1
   simp [lpC]
   omega
  exact ⟨(e 0).trans ih.1,(e 1).trans ih.2⟩
theorem un{w:qW}{base size n cap g:Nat}{e:TypeId}{xs:List qV}(h:w.ownsRow base e size (.slice (aA g) n cap) n xs)(k:Nat):w.frozen? (aB g k)=false:=by
 rcases h.2 with ⟨h,_⟩|⟨g',cap',cur,h,_,hg,_⟩
 ·simp at h
 ·simp only [Value.slice.injEq,zaA,Addr.mk.injEq,and_true,true_and] at h
  obtain ⟨rfl,_⟩:=h
  simp [World.frozen?,hg]
def LoopsAt(w:qW)(g:Nat)(l:List (Int×Int)):Prop:= ∀j x,l[j]?=some x->w.cell? ⟨g,j*2,none⟩=some (iI x.1)/\w.cell? ⟨g,j*2+1,none⟩=some (iI x.2)
theorem ue{w:qW}{base:Nat}{v:qV}{l:List Tri}(h:w.ownsRow base 235 3 v l.length (l.flatMap ivC))(hb:base<=w.heap.size):
  ∃(A:Option Addr) (g cap:Nat),v= .slice A l.length cap/\(0<l.length->A=aA g/\g<w.heap.size)/\base<=g/\g<=w.heap.size/\l.length<=cap/\cap<=9223372036854775807/\RowAt w g l:=by
 rcases h.2 with ⟨h1,h2⟩|⟨g,cap,cur,h1,h2,h3,h4,h5,h6,h7⟩
 ·have e:l=[]:=List.length_eq_zero_iff.1 h2
  subst e
  exact ⟨none,base,0,h1,fun h=>by simp at h,zaq _,hb,by simp,by simp,fun j x hj=>by simp at hj⟩
 ·subst h1
  refine ⟨aA g,g,cap,rfl,fun _=>⟨rfl,(Array.getElem?_eq_some_iff.1 h3).1⟩,h2,Nat.le_of_lt (Array.getElem?_eq_some_iff.1 h3).1,h4,h5,fun j x hj=>?_⟩
  have yL:=(List.getElem?_eq_some_iff.1 hj).1
  obtain ⟨f0,f1,f2⟩:=mA l j x hj
  exact ⟨(h.cellAt (j*3) Za).trans f0,(h.cellAt (j*3+1) Za).trans f1,(h.cellAt (j*3+2) Za).trans f2,un h _⟩
theorem uh{w:qW}{base:Nat}{v:qV}{l:List (Int×Int)}(h:w.ownsRow base 257 2 v l.length (l.flatMap lpC)):
  ∃(A:Option Addr) (g cap:Nat),v= .slice A l.length cap/\(0<l.length->A=aA g/\g<w.heap.size)/\base<=g/\l.length<=cap/\cap<=9223372036854775807/\LoopsAt w g l:=by
 rcases h.2 with ⟨h1,h2⟩|⟨g,cap,cur,h1,h2,h3,h4,h5,h6,h7⟩
 ·have e:l=[]:=List.length_eq_zero_iff.1 h2
  subst e
  exact ⟨none,base,0,h1,fun h=>by simp at h,zaq _,by simp,by simp,fun j x hj=>by simp at hj⟩
 ·subst h1
  refine ⟨aA g,g,cap,rfl,fun _=>⟨rfl,(Array.getElem?_eq_some_iff.1 h3).1⟩,h2,h4,h5,fun j x hj=>?_⟩
  have yL:=(List.getElem?_eq_some_iff.1 hj).1
  obtain ⟨f0,f1⟩:=mB l j x hj
  exact ⟨(h.cellAt (j*2) Za).trans f0,(h.cellAt (j*2+1) Za).trans f1⟩
theorem LoopsAt.onto{w w':qW}{g B:Nat}{l:List (Int×Int)}(h:LoopsAt w g l)(ho:Onto B w w')(hne:g≠B):LoopsAt w' g l:=fun j x hj=>by
 obtain ⟨c0,c1⟩:=h j x hj
 exact ⟨(ho.cell (bp c0) hne).trans c0,(ho.cell (bp c1) hne).trans c1⟩
theorem yee(S b1 b2:Nat)(l1 l2 rs:List Int)(BJ:rs=l1++l2)(CG:l1.length<=3)(yy:l2.length<=3)(w:qW)(h0:w.cell? (aB S 0)=some (.slice (aA b1) l1.length 3))(h1:w.cell? (aB S 1)=some (.slice (aA b2) l2.length 2))(CB:NumsAt w b1 l1)(yO:NumsAt w b2 l2)(ye:b1<w.heap.size)(xr:b2<w.heap.size):
  qC 115 #[.slice (aA S) 2 2] w fun e w'=> ∃(A:Option Addr) (G:Nat),e= .returned (.slice A rs.length G)/\(∃p:Regrown,w'=more w p)/\rs.length<=G/\G<=9223372036854775807/\(0<rs.length-> ∃b,A=aA b/\NumsAt w' b rs/\w.heap.size<=b):=by
 subst BJ
 by_cases yi:0<l1.length+l2.length
 ·refine (yed S b1 b2 3 2 l1 l2 CG yy yi w h0 h1 CB yO ye xr).mono ?_
  rintro e w' ⟨b,G,rfl,hp,hn,Bg,hG,C4⟩
  exact ⟨aA b,G,by rw [zaO],hp,by rw [zaO];exact hG,C4,fun _=>⟨b,rfl,hn,Bg⟩⟩
 ·have e1:l1=[]:=List.length_eq_zero_iff.1 Za
  have e2:l2=[]:=List.length_eq_zero_iff.1 Za
  subst e1 e2
  refine (yec S b1 b2 3 2 w h0 h1).mono ?_
  rintro e w' ⟨rfl,rfl⟩
  exact ⟨none,0,rfl,bu (zaa _ _),by simp,by simp,fun h=>by simp at h⟩
theorem kV{w:qW}{b:Nat}{l:List Int}(h:NumsAt w b l)(p:Regrown):NumsAt (more w p) b l:=h.below (av w p)
theorem gA{w:qW}{b:Nat}{l:List Int}(h:NumsAt w b l)(o:Obj):NumsAt (w.alloc o) b l:=h.below (ab (zaa _ _) o)
theorem kW{w:qW}{b:Nat}{l:List Int}(h:NumsAt w b l):NumsAt w.drew b l:=h
theorem ydk(R i:Int)(S:Iv)(l:List Int)(j:Nat)(r:Int)(h:l[j]?=some r):evs R i S (l.take (j+1))=ev R i (evs R i S (l.take j)) r:=by
 unfold evs
 rw [zaz,h,zaD]
 rfl
theorem ybx:(Tryz.prog.info? 235).map (fun i=>(i.zero,i.size,i.bytes))=some (some (.agg #[iI 0,iI 0,iI 0]),3,24):=by kernel_rfl
structure L1W(w wr:qW)(Y:Nat)(X off N:Nat)(ops:Nat->LOp)(n:Nat)(S:Iv):Prop where
 iv:IvW w wr w.heap.size Y n S
 ops_: ∀k,k<N->OAt wr X (off+k*13) (ops k)
theorem L1W.next{w wr wy:qW}{Y X off N n:Nat}{ops:Nat->LOp}{S:Iv}(h:L1W w wr Y X off N ops n S)(hb:Below wr.heap.size wr wy):L1W w wy Y X off N ops n S:=
 ⟨h.iv.next hb,fun k hk=>(h.ops_ k hk).below hb⟩
theorem ybn(A:Option Addr)(X off N cap:Nat)(ops:Nat->LOp)(R:Int)(hA:0<N->A=some ⟨X,off,none⟩)(hN:N<=61)(yu:N<=cap)(Dm:cap<=9223372036854775807)(hR:R<=300)(IB: -9223372036854775808<=R)(BN: ∀k,k<N->(ops k).ok)(w:qW)(hO: ∀k,k<N->OAt w X (off+k*13) (ops k)):
  qC 78 #[.slice A N cap,iI R] w fun e w'=> ∃(A':Option Addr) (g c':Nat) (r:List Tri),e= .returned (.slice A' r.length c')/\(∃p:Regrown,w'=more w p)/\Stops (lpN ops N) (outN (ivsN R ops N) R.toNat) r/\(0<r.length->A'=aA g/\g<w'.heap.size)/\w.heap.size<=g/\r.length<=c'/\c'<=9223372036854775807/\RowAt w' g r:=by
 have HO:=Zh hO
 have Lv:=@run_makeMap Tryz.prog
 have US:=Zh (fun o W=>oV o W)
 have SE:=Zh (fun o W=>rz o W)
 have zK:=Zh BN
 have H0:Hid (L1W w (w.alloc (.map #[] 0)) w.heap.size X off N ops 0 (fun _=>none)):=Zh
  ⟨⟨ab (zaa _ _) _,zaq _,_,tC w,⟨fun _ _=>rfl,fun r b h=>by cases h⟩⟩,fun k hk=>(hO k hk).below (ab (zaa _ _) _)⟩
 clear hO BN
 go_enter Tryz.func78,Tryz.ntmps78
 go_wp2_with fail
 go_loopw [6,20] (fun _ v20 wr=> ∃k:Nat,k<=N/\v20=iI k/\L1W w wr w.heap.size X off N ops (5*k) (ivsN R ops k)) (fun _ v20 _=>N-(intOf v20).toNat)
 case atStart=>exact ⟨0,by omega,rfl,H0.out⟩
 case round=>
  obtain ⟨k,hk,rfl,hW⟩:=hrel
  have HW:=Zh hW
  clear hW H0
  by_cases wY:(k:Int)<N
  ·obtain rfl:=hA Za
   have hO:=HW.out.ops_ k Za
   unfold OAt at hO
   obtain ⟨c0,c1,c2,c3,c4,c5,c6,c7,c8,c9,c10,c11,c12⟩:=hO
   have U1:=Zh (fun W=>US.out (ops k) W)
   have S1:=Zh (fun W=>SE.out (ops k) W)
   unfold lopV LOp.cs at U1 S1
   have l1:(usesL (ops k)).length<=3:=dN _ 3
   have l2:(setsL (ops k)).length<=3:=zal (dN _ 2) Za
   obtain ⟨rs,BJ⟩: ∃rs,rs=regsL (ops k):=⟨_,rfl⟩
   have AK:rs.length<=5:=by
    have h2:(setsL (ops k)).length<=2:=dN _ 2
    rw [BJ]
    unfold regsL
    rw [zaO]
    omega
   have hsz:Hid (∀(S b1 b2:Nat) (w:qW) (h0:w.cell? (aB S 0)=some (.slice (aA b1) (usesL (ops k)).length 3)) (h1:w.cell? (aB S 1)=some (.slice (aA b2) (setsL (ops k)).length 2)) (CB:NumsAt w b1 (usesL (ops k))) (yO:NumsAt w b2 (setsL (ops k))) (ye:b1<w.heap.size) (xr:b2<w.heap.size),_):=Zh (fun S b1 b2 w h0 h1 CB yO ye xr=>yee S b1 b2 (usesL (ops k)) (setsL (ops k)) rs BJ l1 l2 w h0 h1 CB yO ye xr)
   replace BJ:=Zh BJ
   go_upto_region 5 with fail
   clear c0 c1 c2 c3 c4 c5 c6 c7 c8 c9 c10 c11 c12
   generalize usesL (ops k)=us at*
   generalize setsL (ops k)=ss at*
   go_cut [30,31,32] from 25 to 57 (fun t30 t31 t32 W=> ∃(A:Option Addr) (G:Nat),t30= .slice A rs.length G/\t31=iI (rs.length:Nat)/\t32=iI 0/\Below wr.heap.size wr W/\rs.length<=G/\G<=9223372036854775807/\(0<rs.length-> ∃b,A=aA b/\NumsAt W b rs/\wr.heap.size<=b))
   case first=>
    go_region_with (first
     |(go_at_call 116;refine (U1.out _).mono ?_;rintro e w1 ⟨b1,rfl,⟨p1,rfl⟩,CB,ye,CG⟩)
     |(go_at_call 117;refine (S1.out _).mono ?_;rintro e w1 ⟨b2,rfl,⟨p2,rfl⟩,yO,xr,yy⟩)
     |(go_at_call 115;refine (hsz.out _ b1 b2 _ ZG ZG (by repeat (first|with_reducible exact CB|with_reducible refine kV ?_ _|with_reducible refine gA ?_ _|with_reducible refine kW ?_)) (by repeat (first|with_reducible exact yO|with_reducible refine kV ?_ _|with_reducible refine gA ?_ _|with_reducible refine kW ?_)) (by simp [go_sem] at CG yy ⊢;omega) (by simp [go_sem] at CG yy ⊢;omega)).mono ?_;rintro e w1 ⟨A2,G,rfl,⟨p3,rfl⟩,hG,C4,ya⟩))
    all_goals
     go_wp2_with fail
     go_meet
     refine ⟨A2,G,rfl,rfl,rfl,?_,hG,C4,fun h=>?_⟩
     ·repeat (first|with_reducible exact zaa _ _|with_reducible refine aF ?_ _|with_reducible refine ab ?_ _|with_reducible refine ag ?_)
     ·obtain ⟨b3,e3,h3,h4⟩:=ya h
      refine ⟨b3,e3,h3,?_⟩
      simp [go_sem] at h4
      omega
   case rest=>
    obtain ⟨A2,G,rfl,rfl,rfl,xg,hG,C4,ya⟩:=hcut
    have Ij:Hid (∀x∈rs,wfI x):=Zh (by rw [BJ.out];exact sn (zK.out k Za))
    obtain ⟨Y,hY⟩: ∃Y,0<rs.length->A2=aA Y/\NumsAt wc Y rs/\wr.heap.size<=Y:=by
     by_cases h:0<rs.length
     ·obtain ⟨b,h1,h2,h3⟩:=ya h
      exact ⟨b,fun _=>⟨h1,h2,h3⟩⟩
     ·exact ⟨0,fun h'=>absurd h' h⟩
    have MT:Hid (∃Y',(0<rs.length->Y'=Y)/\L1W w wc Y' X off N ops (5*k) (ivsN R ops k)):=Zh (by
     by_cases h:0<rs.length
     ·exact ⟨Y,fun _=>rfl,HW.out.iv.apart xg (hY h).2.2,fun q hq=>(HW.out.ops_ q hq).below xg⟩
     ·exact ⟨w.heap.size,fun h'=>absurd h' h,(HW.out.next xg).iv,(HW.out.next xg).ops_⟩)
    have Na:Hid (0<rs.length->A2=aA Y/\NumsAt wc Y rs):=Zh (fun h=>⟨(hY h).1,(hY h).2.1⟩)
    have hXw:X<w.heap.size:=bp (HO.out k Za).1
    obtain ⟨bl0,Eg,_⟩:=HW.out.iv.ex
    have HYB:Hid (0<rs.length->Y≠w.heap.size):=Zh (fun h=>by have h1:=(hY h).2.2;have h2:=Eg.lt;omega)
    clear ya hY xg HW U1 S1 hsz US SE Eg
    go_wp2_with fail
    go_loopw [9,32] (fun _ v32 w3=> ∃j:Nat,j<=rs.length/\v32=iI j/\(∃Y',(0<rs.length->Y'=Y)/\L1W w w3 Y' X off N ops (5*k+j) (evs R k (ivsN R ops k) (rs.take j)))/\(0<rs.length->A2=aA Y/\NumsAt w3 Y rs)) (fun _ v32 _=>rs.length-(intOf v32).toNat)
    case atStart=>exact ⟨0,by omega,rfl,MT.out,Na.out⟩
    case round=>
     obtain ⟨j,hj,rfl,⟨Y',hYY,L9⟩,MJ⟩:=hrel
     have C6:=Zh L9
     clear L9 MT Na
     by_cases yL:(j:Int)<rs.length
     ·obtain ⟨rfl,hn⟩:=MJ Za
      obtain rfl:=hYY Za
      obtain ⟨r,hr⟩: ∃r,rs[j]?=some r:=⟨_,zaC Za⟩
      have It:=hn j r hr
      have Ik:=Ij.out r (zat hr)
      have KR:=Zh (ydk R k (ivsN R ops k) rs j r hr)
      have HN:=Zh hn
      clear hn hr MJ
      by_cases IB:R<=r
      ·go_wp2_with fail
       go_roundw
       case rel=>exact ⟨j+1,by omega,by go_num,by rw [KR.out,ir _ _ _ _ IB];exact ⟨_,fun _=>rfl,C6.out.iv.mono Za,C6.out.ops_⟩,fun _=>⟨by simp,HN.out⟩⟩
       case measure=>simp [intOf];omega
      ·obtain ⟨bl,Cv,BZ⟩:=C6.out.iv.ex
       cases GJ:bl r with
       |some b'=>
        obtain ⟨f,t,hS,h1,h2,Ix,c0,c1,c2,z⟩:=BZ.some_ r b' GJ
        have yo:=Cv.look r Ik
        rw [GJ] at yo
        unfold ptrV at yo
        have HT:=Zh (IvW.touch C6.out.iv.below (zaq _) Cv BZ (R:=R) (i:=k) IB GJ)
        clear Cv BZ hS c0 c1
        go_wp2_with fail
        go_roundw
        case rel=>exact ⟨j+1,by omega,by go_num,⟨_,fun _=>rfl,by rw [KR.out];exact ⟨HT.out.mono Za,fun q hq=>(C6.out.ops_ q hq).set Za⟩⟩,fun _=>⟨by simp,HN.out.set (fun e=>Ix e.symm)⟩⟩
        case measure=>simp [intOf];omega
       |none=>
        have yo:=Cv.look r Ik
        rw [GJ] at yo
        unfold ptrV at yo
        have IU:=Zh Cv
        have Hw:=Zh BZ
        have G6:=Cv.lt
        have L5:=bp It
        clear Cv BZ
        go_upto_region 11 with (at_mapUpdate;go_loud (refine oE rfl _ _ _ rfl w.heap.size (5*k+j) bl rfl (IU.out.below (ab (zaa _ _) _)) (by unfold maxLen;omega) r rfl Ik wr.heap.size rfl ?_);intro w2 pm2 grow2;go_frame)
        have HF:=Zh (IvB.fresh (R:=R) (i:=k) C6.out.iv.below.size G6 L5 Hw.out Za GJ grow2)
        have xA:=Zh (fF (ab C6.out.iv.below _) grow2 (zaq _))
        have BR:=pm2.look r Ik
        simp only [if_true] at BR
        unfold ptrV at BR
        obtain ⟨f,t,hS,h1,h2,Ix,c0,c1,c2,z⟩:=HF.out.some_ r wr.heap.size Zi
        have HT:=Zh (IvW.touch xA.out (zaq _) pm2 HF.out (R:=R) (i:=k) Za (b:=wr.heap.size) Zi)
        have xu:=Zh (fun q hq=>((C6.out.ops_ q hq).below (ab (zaa _ _) (.cells #[iI r,iI k,iI k] 235))).grown grow2 Za)
        have Hp:=Zh ((gA HN.out (.cells #[iI r,iI k,iI k] 235)).grown grow2 (HYB.out Za))
        clear pm2 grow2 hS c0 c1 yo
        go_wp2_with fail
        go_roundw
        case rel=>exact ⟨j+1,by omega,by go_num,⟨_,fun _=>rfl,by rw [KR.out];exact ⟨by have:=HT.out;rw [ydl] at this;exact this.mono Za,fun q hq=>(xu.out q hq).set Za⟩⟩,fun _=>⟨by simp,Hp.out.set (fun e=>Ix e.symm)⟩⟩
        case measure=>simp [intOf];omega
     ·obtain rfl:j=rs.length:=by omega
      go_wp2_with fail
      go_roundw
      case rel=>
       have h:=(C6.out.iv.plain).mono (m:=5*(k+1)) Za
       rw [List.take_length,BJ.out] at h
       exact ⟨k+1,by omega,by go_num,h,C6.out.ops_⟩
      case measure=>simp [intOf];omega
  ·obtain rfl:k=N:=by omega
   generalize hS:ivsN R ops k=S at HW
   replace hS:=Zh hS
   clear US SE
   obtain ⟨bl,Cv,BZ⟩:=HW.out.iv.ex
   have IU:=Zh Cv
   have Hw:=Zh BZ
   clear Cv BZ
   obtain ⟨M,hM⟩: ∃M:Nat,(M:Int)=max R 0:=⟨R.toNat,by omega⟩
   have Mw:M<=300:=by omega
   obtain ⟨i0,hi,xq,xm,xk⟩:=zan ybx
   generalize u':wr=w1 at*
   clear u'
   go_upto_region 15 with fail
   go_cut [59,60] from 58 to 60 (fun t59 t60 W=>t59=iI M/\t60=iI 0/\W=w1)
   case first=>
    by_cases h0:0<=R
    ·have hMR:(M:Int)=R:=by omega
     go_wp2_with fail
     go_meet
     exact ⟨by rw [hMR],rfl,rfl⟩
    ·have hM0:(M:Int)=0:=by omega
     go_wp2_with fail
     go_meet
     exact ⟨by rw [hM0],rfl,rfl⟩
   case rest=>
    obtain ⟨rfl,rfl,La⟩:=hcut
    subst La
    go_wp2_with fail
    go_loopw [10,11,12,60] (fun v10 _ _ v60 wr=> ∃q:Nat,q<=M/\v60=iI q/\Below wc.heap.size wc wr/\wr.ownsRow wc.heap.size 235 3 v10 (outN S q).length ((outN S q).flatMap ivC)) (fun _ _ _ v60 _=>M-(intOf v60).toNat)
    case atStart=>exact ⟨0,by omega,rfl,zaa _ _,rfl,.inl ⟨rfl,rfl⟩⟩
    case round=>
     obtain ⟨q,hq,rfl,hb,DS⟩:=hrel
     have yf:=Zh DS
     have zZ:=Zh hb
     clear DS
     by_cases hqM:(q:Int)<M
     ·have NF:wfI (q:Int):=WalkArith.wf_i64 Za
      have yo:=(IU.out.below hb).look (q:Int) NF
      cases Iu:bl (q:Int) with
      |none=>
       rw [Iu] at yo
       unfold ptrV at yo
       have HS:=Zh (kN (Hw.out.none_ _ Iu))
       go_wp2_with fail
       go_roundw
       case rel=>exact ⟨q+1,by omega,by go_num,zZ.out,by rw [HS.out];exact yf.out⟩
       case measure=>simp [intOf];omega
      |some b=>
       rw [Iu] at yo
       unfold ptrV at yo
       obtain ⟨f,t,Mi,h1,h2,Ix,c0,c1,c2,z⟩:=Hw.out.some_ _ b Iu
       replace c0:=aP c0 hb
       replace c1:=aP c1 hb
       replace c2:=aP c2 hb
       have HS:=Zh (kM Mi)
       have wX:=gz S q
       generalize Lr:(outN S q).length=nq at*
       generalize xC:(outN S q).flatMap ivC=cs at*
       have HE:Hid ((outN S (q+1)).length=nq+1/\(outN S (q+1)).flatMap ivC=cs++[iI q,iI f,iI t]):=Zh (by
        rw [HS.out,List.flatMap_append,xC]
        exact ⟨by simp [Lr],rfl⟩)
       clear Mi Lr xC HS
       have Nr:wc.heap.size<=wr.heap.size:=hb.size
       go_wp2_with (at_builtin;refine wpList_append_own _ rfl _ _ 178 rfl wc.heap.size 235 i0 (.agg #[iI 0,iI 0,iI 0]) 3 24 Tryz.underlying178 hi xq xm xk rfl Zg _ _ _ rfl (yf.out.alloc _) ⟨wr.heap.size,0,none⟩ 1 1 [iI q,iI f,iI t] rfl rfl ?a1 ?a2 ?a3 ?a4 ?a5 ?_)
       case a2=>exact ⟨rfl,rfl,rfl⟩
       case a3=>unfold maxLen;omega
       case a4=>omega
       case a5=>omega
       intro v' w' own grow BO
       have xA:=Zh (bW (ab zZ.out _) (yf.out.alloc _) grow (zaq _))
       clear grow BO
       go_wp2_with fail
       go_roundw
       case rel=>exact ⟨q+1,by omega,by go_num,xA.out,by rw [HE.out.1,HE.out.2];exact own⟩
       case measure=>simp [intOf];omega
     ·have BK:q=M:=by omega
      subst BK
      have NG:q=R.toNat:=by omega
      have M9:=Zh (bQ HW.out.iv.below zZ.out)
      have xu:=Zh (fun j hj=>(HO.out j hj).below M9.out)
      obtain ⟨A1,g1,c1,rfl,Bw,xn,Am,Bu,GD,xd⟩:=ue yf.out hb.size
      have LP:=Zh (fun W hO=>wS A X off k cap ops hA hN yu Dm (fun j hj=>(zK.out j hj).2.2.2.2.2) W hO)
      have hL0:=gz S q
      have KN:Hid (outN S q=outN (ivsN R ops k) R.toNat):=Zh (by rw [hS.out,NG])
      have Dv:=Zh xd
      have La:w.heap.size<=wc.heap.size:=HW.out.iv.below.size
      clear xd yf zZ IU Hw HW
      generalize outN S q=L0 at*
      go_upto_region 23 with (go_at_call 118;refine (LP.out _ xu.out).mono ?_;rintro e w1 ⟨v13,rfl,⟨p,rfl⟩,xx⟩)
      have JG:=lH ops k
      have NV:=gW ops k
      have KC:Hid (∀r,Stops (lpN ops k) L0 r->Stops (lpN ops k) (outN (ivsN R ops k) R.toNat) r):=Zh (fun r h=>by rw [<-KN.out];exact h)
      generalize JE:lpN ops k=lps at*
      replace JE:=Zh JE
      have KM:=Zh (fun x hx=>Int.le_trans (JG x hx) (show (k:Int)<=1000 by omega))
      obtain ⟨A2,g2,c2,rfl,ya,LH,yr,hcm2,Ga⟩:=uh xx
      have STR:Hid (∀(l:List Tri) (lf lt:Int),l.length=L0.length-> ∀W:qW,(0<l.length->g1<W.heap.size)->RowAt W g1 l->qC 119 #[.slice A1 L0.length c1,.agg #[iI lf,iI lt]] W fun e w'=>e= .returned (.bool (l.any (bf lf lt)))/\Onto g1 W w'/\RowAt w' g1 (l.map (st1 lf lt))):=Zh (fun l lf lt A8 W hg hR=>by
       rw [<-A8]
       exact pE A1 g1 c1 l lf lt (fun h=>(Bw Za).1) Za Za GD W hg hR)
      have IS:=Zh (Dv.out.mo p)
      have HLP:=Zh Ga
      have Nu:wr.heap.size<=(more wr p).heap.size:=by rw [aZ];omega
      have Ia:=Zh (aF M9.out p)
      generalize more wr p=w4 at*
      clear xx Ga Dv
      go_wp2_with fail
      go_loopg [14,16] (pot L0+1) (fun gg v14 _ w5=> ∃(l:List Tri) (b:Bool),v14= .bool b/\l.length=L0.length/\(pot l+(if b then 1 else 0))<=gg/\Onto g1 w4 w5/\RowAt w5 g1 l/\(∀r,Stops lps l r->Stops lps (outN (ivsN R ops k) R.toNat) r)/\(b=false->anyM lps l=false))
      case atStart=>exact ⟨L0,true,rfl,rfl,by simp,Onto.refl,IS.out,KC.out,fun h=>by cases h⟩
      case round=>
       obtain ⟨l,b,rfl,A8,LG,ho,hr,xw,LW⟩:=hrel
       have IV:=Zh ho
       have KF:=Zh hr
       have za:=Zh xw
       have HBF:=Zh LW
       clear ho hr xw LW IS
       cases b with
       |false=>
        go_wp2_with fail
        go_ret
        refine ⟨A1,g1,c1,l,by rw [A8];rfl,bu (IV.out.under Ia.out Za),by rw [JE.out];exact za.out l (.stop (by have h9:=HBF.out;simpa using h9)),fun h=>⟨(Bw Za).1,?_⟩,by omega,by omega,GD,KF.out⟩
        have h1:=(Bw Za).2
        have h2:=IV.out.size
        omega
       |true=>
        go_wp2_with fail
        go_loopw [14,16,80] (fun v14 _ v80 w6=> ∃j:Nat,j<=lps.length/\v80=iI j/\v14= .bool (anyM (lps.take j) l)/\Onto g1 w4 w6/\RowAt w6 g1 (pass (lps.take j) l)) (fun _ _ v80 _=>lps.length-(intOf v80).toNat)
        case atStart=>exact ⟨0,by omega,rfl,rfl,IV.out,by simpa [pass] using KF.out⟩
        case round=>
         obtain ⟨j,hj,rfl,rfl,ho,hr⟩:=hrel
         have KI:=Zh ho
         have KE:=Zh hr
         have hs6:=ho.size
         clear ho hr IV KF
         by_cases yL:(j:Int)<lps.length
         ·obtain ⟨rfl,hg24⟩:=ya Za
          obtain ⟨x,hx⟩: ∃x,lps[j]?=some x:=⟨_,zaC Za⟩
          obtain ⟨c0,c1'⟩:=HLP.out.onto KI.out Za j x hx
          have HP:=Zh (tX lps l j x hx)
          have HM:=Zh (yfa lps l j x hx)
          have BM:=kz (lps.take j) l
          obtain ⟨xf,xt⟩:=x
          simp only at c0 c1' HP HM
          have S1:=Zh (fun W hg hR=>STR.out (pass (lps.take j) l) xf xt Za W hg hR)
          generalize pass (lps.take j) l=pl at*
          generalize anyM (lps.take j) l=am at*
          have lg:g2<wr.heap.size:=by omega
          have HG:Hid (0<pl.length->g1<wr.heap.size+1):=Zh (fun h=>by have h1:=(Bw Za).2;omega)
          cases ye:pl.any (bf xf xt)
          all_goals
           rw [ye] at S1 HM
           go_wp2_with (go_at_call 119;refine (S1.out _ (fun h=>by have h9:=HG.out h;simp;omega) (KE.out.onto_new _)).mono ?_;rintro e w1 ⟨rfl,Lm,Be⟩)
           ·have HO7:=Zh (Onto.trans (Onto.alloc KI.out _) Lm)
            have HR7:=Zh Be
            clear Lm Be
            go_roundw
            case rel=>exact ⟨j+1,by omega,by go_num,by rw [HM.out];simp,HO7.out,by rw [HP.out];exact HR7.out⟩
            case measure=>simp [intOf];omega
         ·have Ip:j=lps.length:=by omega
          subst Ip
          rw [List.take_length] at KE
          have DO:=ky lps l KM.out
          have BM:=kz lps l
          go_wp2_with fail
          go_roundg (pot (pass lps l)+(if anyM lps l then 1 else 0))
          case measure=>
           cases hm:anyM lps l with
           |true=>have:=DO.2 hm;simp at LG ⊢;omega
           |false=>simp at LG ⊢;omega
          case rel=>
           refine ⟨pass lps l,anyM lps l,rfl,by omega,zaq _,KI.out,KE.out,fun r h=>?_,fun h=>?_⟩
           ·cases hm:anyM lps l with
            |true=>exact za.out r (.go hm h)
            |false=>rw [gq hm] at h;exact za.out r h
           ·rw [gq h];exact h
end Go.Proofs.YtcekjfmfcefjpaaGreatDoor
namespace Go.Proofs.YtcekjfmfcefjpaaGreatDoor
open Go.RowKit Go.Sort
theorem qA{P:Program}{ops:Array Oper}{o:Oper}{a:Act}{w:qW}{K:Act->qW->Prop}{Q:Exit->Act->qW->Prop}{E:Prop}(hgd:o.guard=none)(s x:Operand)(t:TypeId)
  (ho:o.op= .call {callee:= .builtin .append,args:=#[s,x],argTypes:=#[t,t]})
  (base:Nat) (e:TypeId) (i:TypeInfo) (z:qV) (size bytes:Nat) (ht:P.underlying t=some (.slice e)) (hi:P.info? e=some i) (hz:i.zero=some z)
  (hsize:i.size=size) (hby:i.bytes=bytes) (hzs:z.cells.size=size) (hsz:0<size)
  (v:qV) (n:Nat) (xs:List qV) (hs:a.eval s=v) (hown:w.ownsRow base e size v n xs)
  (ad:Addr) (m c:Nat) (news:List qV) (hx:a.eval x= .slice (some ad) m c) (hl:news.length=m*size) (hnews: ∀j u,news[j]?=some u->w.cell? (ad.add j)=some u) (h1: ∀u∈news,u.oneCell'=true)
  (hm:0<n+m) (h63:n+m<=maxLen) (hbytes:(n+m)*bytes<=140737488355328) (hbase:base<=w.heap.size)
  (h: ∀g cap w',w'.ownsRow base e size (.slice (aA g) (n+m) cap) (n+m) (xs++news)->w.grownBy w' v.ownBlock->(v.ownBlock=some g\/g=w.heap.size)->g<w'.heap.size->K (a.put o.dst (.slice (aA g) (n+m) cap)) w'):
  if Region.wanted o (yielded ops a.tmps)=true then Oper.wp P o a w K Q else E:=by
 have hw:Region.wanted o (yielded ops a.tmps)=true:=by simp [Region.wanted,hgd]
 rw [if_pos hw]
 obtain ⟨v',w',hr,h2,h3,_,h5⟩:=run_append_own_at (P:=P) w base t o.type e i z size bytes ht hi hz hsize hby hzs hsz v n xs hown ad m c news hl hnews h1 h63 hbytes hbase
 obtain ⟨g,cap,rfl,_,wY⟩:=h2.form Za
 unfold Oper.wp execOp
 simp only [ho,resolve,invoke,builtin,Sem.run_bind,Sem.run_pure,Result.andThen_ok,List.map_toArray,List.map_cons,List.map_nil,hs,hx,hr]
 refine h g cap w' h2 h3 ?_ wY
 rcases h5 with h5|h5
 ·exact .inl (by rw [<-h5];rfl)
 ·right
  simpa [Value.ownBlock] using h5
theorem a8{P:Program}{ops:Array Oper}{o:Oper}{a:Act}{w:qW}{K:Act->qW->Prop}{Q:Exit->Act->qW->Prop}{E:Prop}(s x:Operand)(t:TypeId)
  (e:TypeId) (i:TypeInfo) (z:qV) (size bytes:Nat) (ht:P.underlying t=some (.slice e)) (hi:P.info? e=some i) (hz:i.zero=some z)
  (hsize:i.size=size) (hby:i.bytes=bytes) (hzs:z.cells.size=size) (hsz:0<size) (hgd:o.guard=none)
  (ho:o.op= .call {callee:= .builtin .append,args:=#[s,x],argTypes:=#[t,t]})
  (base:Nat) (v:qV) (n:Nat) (xs:List qV) (hown:w.ownsRow base e size v n xs) (k:Nat) (cs:Array qV) (t0:TypeId) (fr:Nat×Nat) (hk:w.heap[k]?=some (.cells cs t0 fr)) (hs:a.eval s=v)
  (hx:a.eval x= .slice (aA k) 1 1) (hl:cs.size=size) (h1: ∀u∈cs.toList,u.oneCell'=true)
  (h63:(n+1)*bytes<=140737488355328) (IJ:n+1<=9223372036854775807) (hbase:base<=w.heap.size)
  (h: ∀g cap w',w'.ownsRow base e size (.slice (aA g) (n+1) cap) (n+1) (xs++cs.toList)->w.grownBy w' v.ownBlock->(v.ownBlock=some g\/g=w.heap.size)->g<w'.heap.size->K (a.put o.dst (.slice (aA g) (n+1) cap)) w'):
  if Region.wanted o (yielded ops a.tmps)=true then Oper.wp P o a w K Q else E:=
 qA hgd s x t ho base e i z size bytes ht hi hz hsize hby hzs hsz v n xs hs hown ⟨k,0,none⟩ 1 1 cs.toList hx (by simpa using hl) (World.news_of_block hk) h1 Za (by unfold maxLen;omega) h63 hbase h
theorem bL{P:Program}{ops:Array Oper}{rest:List Oper}{o:Oper}{a:Act}{w:qW}{Q:Exit->Act->qW->Prop}(s x:Operand)(t:TypeId)
  (e:TypeId) (i:TypeInfo) (z:qV) (size bytes:Nat) (ht:P.underlying t=some (.slice e)) (hi:P.info? e=some i) (hz:i.zero=some z)
  (hsize:i.size=size) (hby:i.bytes=bytes) (hzs:z.cells.size=size) (hsz:0<size) (hgd:o.guard=none)
  (ho:o.op= .call {callee:= .builtin .append,args:=#[s,x],argTypes:=#[t,t]})
  (base:Nat) (v:qV) (n:Nat) (xs:List qV) (hown:w.ownsRow base e size v n xs) (k:Nat) (cs:Array qV) (t0:TypeId) (fr:Nat×Nat) (hk:w.heap[k]?=some (.cells cs t0 fr)) (hs:a.eval s=v)
  (hx:a.eval x= .slice (aA k) 1 1) (hl:cs.size=size) (h1: ∀u∈cs.toList,u.oneCell'=true)
  (h63:(n+1)*bytes<=140737488355328) (IJ:n+1<=9223372036854775807) (hbase:base<=w.heap.size)
  (h: ∀g cap w',w'.ownsRow base e size (.slice (aA g) (n+1) cap) (n+1) (xs++cs.toList)->w.grownBy w' v.ownBlock->(v.ownBlock=some g\/g=w.heap.size)->g<w'.heap.size->wpList P ops Q rest (a.put o.dst (.slice (aA g) (n+1) cap)) w'):
  wpList P ops Q (o::rest) a w:=by
 refine wpList_append_own_at (w:=w) (hgd:=hgd) (s:=s) (x:=x) (t:=t) (ho:=ho) (base:=base) (e:=e) (i:=i) (z:=z) (size:=size) (bytes:=bytes) (ht:=ht) (hi:=hi) (hz:=hz) (hsize:=hsize) (hby:=hby) (hzs:=hzs) (hsz:=hsz) (v:=v) (n:=n) (xs:=xs) (hs:=hs) (hown:=hown) (ad:=⟨k,0,none⟩) (m:=1) (c:=1) (news:=cs.toList) (hx:=hx) (hl:=by simpa using hl) (hnews:=World.news_of_block hk) (h1:=h1) (h63:=by unfold maxLen;omega) (hbytes:=h63) (hbase:=hbase) (h:=?_)
 intro v' w' h2 h3 _ h5
 obtain ⟨g,cap,rfl,_,wY⟩:=h2.form Za
 refine h g cap w' h2 h3 ?_ wY
 rcases h5 with h5|h5
 ·exact .inl (by rw [<-h5];rfl)
 ·right
  simpa [Value.ownBlock] using h5
end Go.Proofs.YtcekjfmfcefjpaaGreatDoor
