/- Walks. No condition. -/
import Derived.Deep.RegionLaw
import Derived.Maps.AppendAt
import Derived.Deep.AppendLies
import Derived.Laws.RangeAny
import Derived.Test.YtjmfoeajhiimnaaGreatDoorProg
import Derived.Test.YtjmfoeajhiimnaaGreatDoorG10
set_option maxRecDepth 100000
set_option maxHeartbeats 0
set_option linter.all false
namespace Go.Proofs.YtjmfoeajhiimnaaGreatDoor
section
open Go.RowKit Go.Sort Go.Lib
theorem yex(S b1 b2:Nat)(l1 l2 rs:List Int)(BO:rs=l1++l2)(CJ:l1.length<=3)(yE:l2.length<=3)(w:qW)(h0:w.cell? (aB S 0)=some (.slice (aA b1) l1.length 3))(h1:w.cell? (aB S 1)=some (.slice (aA b2) l2.length 2))(BY:NumsAt w b1 l1)(yS:NumsAt w b2 l2)(yn:b1<w.heap.size)(xA:b2<w.heap.size):
  qC 87 #[.slice (aA S) 2 2] w fun e w'=> ∃(A:Option Addr) (G:Nat),e= .returned (.slice A rs.length G)/\(∃p:Regrown,w'=more w p)/\rs.length<=G/\G<=9223372036854775807/\(0<rs.length-> ∃b,A=aA b/\NumsAt w' b rs/\w.heap.size<=b):=by
 subst BO
 by_cases yy:0<l1.length+l2.length
 ·refine (yew S b1 b2 3 2 l1 l2 CJ yE yy w h0 h1 BY yS yn xA).mono ?_
  rintro e w' ⟨b,G,rfl,hp,hn,Ci,hG,C6⟩
  exact ⟨aA b,G,by rw [zaO],hp,by rw [zaO];exact hG,C6,fun _=>⟨b,rfl,hn,Ci⟩⟩
 ·have e1:l1=[]:=List.length_eq_zero_iff.1 Za
  have e2:l2=[]:=List.length_eq_zero_iff.1 Za
  subst e1 e2
  refine (yev S b1 b2 3 2 w h0 h1).mono ?_
  rintro e w' ⟨rfl,rfl⟩
  exact ⟨none,0,rfl,bC (zaa _ _),by simp,by simp,fun h=>by simp at h⟩
theorem lh{w:qW}{b:Nat}{l:List Int}(h:NumsAt w b l)(p:Regrown):NumsAt (more w p) b l:=h.below (au w p)
theorem gF{w:qW}{b:Nat}{l:List Int}(h:NumsAt w b l)(o:Obj):NumsAt (w.alloc o) b l:=h.below (ab (zaa _ _) o)
theorem li{w:qW}{b:Nat}{l:List Int}(h:NumsAt w b l):NumsAt w.drew b l:=h
theorem yds(R i:Int)(S:Iv)(l:List Int)(j:Nat)(r:Int)(h:l[j]?=some r):evs R i S (l.take (j+1))=ev R i (evs R i S (l.take j)) r:=by
 unfold evs
 rw [zaz,h,zaD]
 rfl
theorem yb0:(Tryz.prog.info? 210).map (fun i=>(i.zero,i.size,i.bytes))=some (some (.agg #[iI 0,iI 0,iI 0]),3,24):=by kernel_rfl
structure L1W(w wr:qW)(Y:Nat)(X off N:Nat)(ops:Nat->LOp)(n:Nat)(S:Iv):Prop where
 iv:IvW w wr w.heap.size Y n S
 ops_: ∀k,k<N->OAt wr X (off+k*13) (ops k)
theorem L1W.next{w wr wy:qW}{Y X off N n:Nat}{ops:Nat->LOp}{S:Iv}(h:L1W w wr Y X off N ops n S)(hb:Below wr.heap.size wr wy):L1W w wy Y X off N ops n S:=
 ⟨h.iv.next hb,fun k hk=>(h.ops_ k hk).below hb⟩
theorem ybQ(A:Option Addr)(X off N cap:Nat)(ops:Nat->LOp)(R:Int)(hA:0<N->A=some ⟨X,off,none⟩)(hN:N<=61)(yA:N<=cap)(Dn:cap<=9223372036854775807)(hR:R<=300)(IY: -9223372036854775808<=R)(BV: ∀k,k<N->(ops k).ok)(w:qW)(hO: ∀k,k<N->OAt w X (off+k*13) (ops k)):
  qC 55 #[.slice A N cap,iI R] w fun e w'=> ∃(A':Option Addr) (g c':Nat) (r:List Tri),e= .returned (.slice A' r.length c')/\(∃p:Regrown,w'=more w p)/\Stops (lpN ops N) (outN (ivsN R ops N) R.toNat) r/\(0<r.length->A'=aA g/\g<w'.heap.size)/\w.heap.size<=g/\r.length<=c'/\c'<=9223372036854775807/\RowAt w' g r:=by
 have HO:=Zh hO
 have LN:=@run_makeMap Tryz.prog
 have US:=Zh (fun o W=>pj o W)
 have SE:=Zh (fun o W=>rU o W)
 have zN:=Zh BV
 have H0:Hid (L1W w (w.alloc (.map #[] 0)) w.heap.size X off N ops 0 (fun _=>none)):=Zh
  ⟨⟨ab (zaa _ _) _,zaq _,_,uf w,⟨fun _ _=>rfl,fun r b h=>by cases h⟩⟩,fun k hk=>(hO k hk).below (ab (zaa _ _) _)⟩
 clear hO BV
 go_enter Tryz.func55,Tryz.ntmps55
 go_wp2_with fail
 go_loopw [6,20] (fun _ v20 wr=> ∃k:Nat,k<=N/\v20=iI k/\L1W w wr w.heap.size X off N ops (5*k) (ivsN R ops k)) (fun _ v20 _=>N-(intOf v20).toNat)
 case atStart=>exact ⟨0,by omega,rfl,H0.out⟩
 case round=>
  obtain ⟨k,hk,rfl,hW⟩:=hrel
  have HW:=Zh hW
  clear hW H0
  by_cases xe:(k:Int)<N
  ·obtain rfl:=hA Za
   have hO:=HW.out.ops_ k Za
   unfold OAt at hO
   obtain ⟨c0,c1,c2,c3,c4,c5,c6,c7,c8,c9,c10,c11,c12⟩:=hO
   have U1:=Zh (fun W=>US.out (ops k) W)
   have S1:=Zh (fun W=>SE.out (ops k) W)
   unfold lopV LOp.cs at U1 S1
   have l1:(usesL (ops k)).length<=3:=dR _ 3
   have l2:(setsL (ops k)).length<=3:=zal (dR _ 2) Za
   obtain ⟨rs,BO⟩: ∃rs,rs=regsL (ops k):=⟨_,rfl⟩
   have AR:rs.length<=5:=by
    have h2:(setsL (ops k)).length<=2:=dR _ 2
    rw [BO]
    unfold regsL
    rw [zaO]
    omega
   have hsz:Hid (∀(S b1 b2:Nat) (w:qW) (h0:w.cell? (aB S 0)=some (.slice (aA b1) (usesL (ops k)).length 3)) (h1:w.cell? (aB S 1)=some (.slice (aA b2) (setsL (ops k)).length 2)) (BY:NumsAt w b1 (usesL (ops k))) (yS:NumsAt w b2 (setsL (ops k))) (yn:b1<w.heap.size) (xA:b2<w.heap.size),_):=Zh (fun S b1 b2 w h0 h1 BY yS yn xA=>yex S b1 b2 (usesL (ops k)) (setsL (ops k)) rs BO l1 l2 w h0 h1 BY yS yn xA)
   replace BO:=Zh BO
   go_upto_region 5 with fail
   clear c0 c1 c2 c3 c4 c5 c6 c7 c8 c9 c10 c11 c12
   generalize usesL (ops k)=us at*
   generalize setsL (ops k)=ss at*
   go_cut [30,31,32] from 25 to 57 (fun t30 t31 t32 W=> ∃(A:Option Addr) (G:Nat),t30= .slice A rs.length G/\t31=iI (rs.length:Nat)/\t32=iI 0/\Below wr.heap.size wr W/\rs.length<=G/\G<=9223372036854775807/\(0<rs.length-> ∃b,A=aA b/\NumsAt W b rs/\wr.heap.size<=b))
   case first=>
    go_region_with (first
     |(go_at_call 88;refine (U1.out _).mono ?_;rintro e w1 ⟨b1,rfl,⟨p1,rfl⟩,BY,yn,CJ⟩)
     |(go_at_call 89;refine (S1.out _).mono ?_;rintro e w1 ⟨b2,rfl,⟨p2,rfl⟩,yS,xA,yE⟩)
     |(go_at_call 87;refine (hsz.out _ b1 b2 _ ZC ZC (by repeat (first|with_reducible exact BY|with_reducible refine lh ?_ _|with_reducible refine gF ?_ _|with_reducible refine li ?_)) (by repeat (first|with_reducible exact yS|with_reducible refine lh ?_ _|with_reducible refine gF ?_ _|with_reducible refine li ?_)) (by simp [go_sem] at CJ yE ⊢;omega) (by simp [go_sem] at CJ yE ⊢;omega)).mono ?_;rintro e w1 ⟨A2,G,rfl,⟨p3,rfl⟩,hG,C6,ye⟩))
    all_goals
     go_wp2_with fail
     go_meet
     refine ⟨A2,G,rfl,rfl,rfl,?_,hG,C6,fun h=>?_⟩
     ·repeat (first|with_reducible exact zaa _ _|with_reducible refine aG ?_ _|with_reducible refine ab ?_ _|with_reducible refine ag ?_)
     ·obtain ⟨b3,e3,h3,h4⟩:=ye h
      refine ⟨b3,e3,h3,?_⟩
      simp [go_sem] at h4
      omega
   case rest=>
    obtain ⟨A2,G,rfl,rfl,rfl,xo,hG,C6,ye⟩:=hcut
    have Iz:Hid (∀x∈rs,wfI x):=Zh (by rw [BO.out];exact sU (zN.out k Za))
    obtain ⟨Y,hY⟩: ∃Y,0<rs.length->A2=aA Y/\NumsAt wc Y rs/\wr.heap.size<=Y:=by
     by_cases h:0<rs.length
     ·obtain ⟨b,h1,h2,h3⟩:=ye h
      exact ⟨b,fun _=>⟨h1,h2,h3⟩⟩
     ·exact ⟨0,fun h'=>absurd h' h⟩
    have Ng:Hid (∃Y',(0<rs.length->Y'=Y)/\L1W w wc Y' X off N ops (5*k) (ivsN R ops k)):=Zh (by
     by_cases h:0<rs.length
     ·exact ⟨Y,fun _=>rfl,HW.out.iv.apart xo (hY h).2.2,fun q hq=>(HW.out.ops_ q hq).below xo⟩
     ·exact ⟨w.heap.size,fun h'=>absurd h' h,(HW.out.next xo).iv,(HW.out.next xo).ops_⟩)
    have Ny:Hid (0<rs.length->A2=aA Y/\NumsAt wc Y rs):=Zh (fun h=>⟨(hY h).1,(hY h).2.1⟩)
    have Pa:X<w.heap.size:=bu (HO.out k Za).1
    obtain ⟨bl0,BT,_⟩:=HW.out.iv.ex
    have PD:Hid (0<rs.length->Y≠w.heap.size):=Zh (fun h=>by have h1:=(hY h).2.2;have h2:=BT.lt;omega)
    clear ye hY xo HW U1 S1 hsz US SE BT
    go_wp2_with fail
    go_loopw [9,32] (fun _ v32 w3=> ∃j:Nat,j<=rs.length/\v32=iI j/\(∃Y',(0<rs.length->Y'=Y)/\L1W w w3 Y' X off N ops (5*k+j) (evs R k (ivsN R ops k) (rs.take j)))/\(0<rs.length->A2=aA Y/\NumsAt w3 Y rs)) (fun _ v32 _=>rs.length-(intOf v32).toNat)
    case atStart=>exact ⟨0,by omega,rfl,Ng.out,Ny.out⟩
    case round=>
     obtain ⟨j,hj,rfl,⟨Y',O',Mt⟩,M7⟩:=hrel
     have C7:=Zh Mt
     clear Mt Ng Ny
     by_cases zh:(j:Int)<rs.length
     ·obtain ⟨rfl,hn⟩:=M7 Za
      obtain rfl:=O' Za
      obtain ⟨r,hr⟩: ∃r,rs[j]?=some r:=⟨_,zaC Za⟩
      have IM:=hn j r hr
      have IA:=Iz.out r (zat hr)
      have K4:=Zh (yds R k (ivsN R ops k) rs j r hr)
      have HN:=Zh hn
      clear hn hr M7
      by_cases IY:R<=r
      ·go_wp2_with fail
       go_roundw
       case rel=>exact ⟨j+1,by omega,by go_num,by rw [K4.out,iw _ _ _ _ IY];exact ⟨_,fun _=>rfl,C7.out.iv.mono Za,C7.out.ops_⟩,fun _=>⟨by simp,HN.out⟩⟩
       case measure=>simp [intOf];omega
      ·obtain ⟨bl,Cz,Cd⟩:=C7.out.iv.ex
       cases GY:bl r with
       |some b'=>
        obtain ⟨f,t,hS,h1,h2,IT,c0,c1,c2,z⟩:=Cd.some_ r b' GY
        have yu:=Cz.look r IA
        rw [GY] at yu
        unfold ptrV at yu
        have HT:=Zh (IvW.touch C7.out.iv.below (zaq _) Cz Cd (R:=R) (i:=k) IY GY)
        clear Cz Cd hS c0 c1
        go_wp2_with fail
        go_roundw
        case rel=>exact ⟨j+1,by omega,by go_num,⟨_,fun _=>rfl,by rw [K4.out];exact ⟨HT.out.mono Za,fun q hq=>(C7.out.ops_ q hq).set Za⟩⟩,fun _=>⟨by simp,HN.out.set (fun e=>IT e.symm)⟩⟩
        case measure=>simp [intOf];omega
       |none=>
        have yu:=Cz.look r IA
        rw [GY] at yu
        unfold ptrV at yu
        have Jf:=Zh Cz
        have Ij:=Zh Cd
        have Hi:=Cz.lt
        have Mo:=bu IM
        clear Cz Cd
        go_upto_region 11 with (at_mapUpdate;go_loud (refine oR rfl _ _ _ rfl w.heap.size (5*k+j) bl rfl (Jf.out.below (ab (zaa _ _) _)) (by unfold maxLen;omega) r rfl IA wr.heap.size rfl ?_);intro w2 pm2 grow2;go_frame)
        have HF:=Zh (IvB.fresh (R:=R) (i:=k) C7.out.iv.below.size Hi Mo Ij.out Za GY grow2)
        have xV:=Zh (fH (ab C7.out.iv.below _) grow2 (zaq _))
        have BZ:=pm2.look r IA
        simp only [if_true] at BZ
        unfold ptrV at BZ
        obtain ⟨f,t,hS,h1,h2,IT,c0,c1,c2,z⟩:=HF.out.some_ r wr.heap.size Zg
        have HT:=Zh (IvW.touch xV.out (zaq _) pm2 HF.out (R:=R) (i:=k) Za (b:=wr.heap.size) Zg)
        have xB:=Zh (fun q hq=>((C7.out.ops_ q hq).below (ab (zaa _ _) (.cells #[iI r,iI k,iI k] 210))).grown grow2 Za)
        have Dw:=Zh ((gF HN.out (.cells #[iI r,iI k,iI k] 210)).grown grow2 (PD.out Za))
        clear pm2 grow2 hS c0 c1 yu
        go_wp2_with fail
        go_roundw
        case rel=>exact ⟨j+1,by omega,by go_num,⟨_,fun _=>rfl,by rw [K4.out];exact ⟨by have:=HT.out;rw [ydt] at this;exact this.mono Za,fun q hq=>(xB.out q hq).set Za⟩⟩,fun _=>⟨by simp,Dw.out.set (fun e=>IT e.symm)⟩⟩
        case measure=>simp [intOf];omega
     ·obtain rfl:j=rs.length:=by omega
      go_wp2_with fail
      go_roundw
      case rel=>
       have h:=(C7.out.iv.plain).mono (m:=5*(k+1)) Za
       rw [List.take_length,BO.out] at h
       exact ⟨k+1,by omega,by go_num,h,C7.out.ops_⟩
      case measure=>simp [intOf];omega
  ·obtain rfl:k=N:=by omega
   generalize hS:ivsN R ops k=S at HW
   replace hS:=Zh hS
   clear US SE
   obtain ⟨bl,Cz,Cd⟩:=HW.out.iv.ex
   have Jf:=Zh Cz
   have Ij:=Zh Cd
   clear Cz Cd
   obtain ⟨M,hM⟩: ∃M:Nat,(M:Int)=max R 0:=⟨R.toNat,by omega⟩
   have MU:M<=300:=by omega
   obtain ⟨i0,hi,xx,xu,xq⟩:=zan yb0
   generalize u':wr=w1 at*
   clear u'
   go_upto_region 15 with fail
   go_cut [59,60] from 58 to 60 (fun t59 t60 W=>t59=iI M/\t60=iI 0/\W=w1)
   case first=>
    by_cases h0:0<=R
    ·have Pn:(M:Int)=R:=by omega
     go_wp2_with fail
     go_meet
     exact ⟨by rw [Pn],rfl,rfl⟩
    ·have Pq:(M:Int)=0:=by omega
     go_wp2_with fail
     go_meet
     exact ⟨by rw [Pq],rfl,rfl⟩
   case rest=>
    obtain ⟨rfl,rfl,Lr⟩:=hcut
    subst Lr
    go_wp2_with fail
    go_loopw [10,11,12,60] (fun v10 _ _ v60 wr=> ∃q:Nat,q<=M/\v60=iI q/\Below wc.heap.size wc wr/\wr.ownsRow wc.heap.size 210 3 v10 (outN S q).length ((outN S q).flatMap ivC)) (fun _ _ _ v60 _=>M-(intOf v60).toNat)
    case atStart=>exact ⟨0,by omega,rfl,zaa _ _,rfl,.inl ⟨rfl,rfl⟩⟩
    case round=>
     obtain ⟨q,hq,rfl,hb,DR⟩:=hrel
     have yg:=Zh DR
     have Ac:=Zh hb
     clear DR
     by_cases QW:(q:Int)<M
     ·have N6:wfI (q:Int):=WalkArith.wf_i64 Za
      have yu:=(Jf.out.below hb).look (q:Int) N6
      cases IQ:bl (q:Int) with
      |none=>
       rw [IQ] at yu
       unfold ptrV at yu
       have HS:=Zh (kU (Ij.out.none_ _ IQ))
       go_wp2_with fail
       go_roundw
       case rel=>exact ⟨q+1,by omega,by go_num,Ac.out,by rw [HS.out];exact yg.out⟩
       case measure=>simp [intOf];omega
      |some b=>
       rw [IQ] at yu
       unfold ptrV at yu
       obtain ⟨f,t,MD,h1,h2,IT,c0,c1,c2,z⟩:=Ij.out.some_ _ b IQ
       replace c0:=aQ c0 hb
       replace c1:=aQ c1 hb
       replace c2:=aQ c2 hb
       have HS:=Zh (kT MD)
       have xd:=gE S q
       generalize LM:(outN S q).length=nq at*
       generalize xG:(outN S q).flatMap ivC=cs at*
       have HE:Hid ((outN S (q+1)).length=nq+1/\(outN S (q+1)).flatMap ivC=cs++[iI q,iI f,iI t]):=Zh (by
        rw [HS.out,List.flatMap_append,xG]
        exact ⟨by simp [LM],rfl⟩)
       clear MD LM xG HS
       have NN:wc.heap.size<=wr.heap.size:=hb.size
       go_wp2_with (at_builtin;refine wpList_append_own _ rfl _ _ 153 rfl wc.heap.size 210 i0 (.agg #[iI 0,iI 0,iI 0]) 3 24 Tryz.underlying153 hi xx xu xq rfl Zd _ _ _ rfl (yg.out.alloc _) ⟨wr.heap.size,0,none⟩ 1 1 [iI q,iI f,iI t] rfl rfl ?a1 ?a2 ?a3 ?a4 ?a5 ?_)
       case a2=>exact ⟨rfl,rfl,rfl⟩
       case a3=>unfold maxLen;omega
       case a4=>omega
       case a5=>omega
       intro v' w' own grow BW
       have xV:=Zh (bX (ab Ac.out _) (yg.out.alloc _) grow (zaq _))
       clear grow BW
       go_wp2_with fail
       go_roundw
       case rel=>exact ⟨q+1,by omega,by go_num,xV.out,by rw [HE.out.1,HE.out.2];exact own⟩
       case measure=>simp [intOf];omega
     ·have BP:q=M:=by omega
      subst BP
      have N7:q=R.toNat:=by omega
      have Jk:=Zh (bR HW.out.iv.below Ac.out)
      have xB:=Zh (fun j hj=>(HO.out j hj).below Jk.out)
      obtain ⟨A1,g1,c1,rfl,BA,xy,Ag,Bx,GU,xn⟩:=uP yg.out hb.size
      have LP:=Zh (fun W hO=>yaD A X off k cap ops hA hN yA Dn (fun j hj=>(zN.out j hj).2.2.2.2.2) W hO)
      have RD:=gE S q
      have KX:Hid (outN S q=outN (ivsN R ops k) R.toNat):=Zh (by rw [hS.out,N7])
      have Dv:=Zh xn
      have Lr:w.heap.size<=wc.heap.size:=HW.out.iv.below.size
      clear xn yg Ac Jf Ij HW
      generalize outN S q=L0 at*
      go_upto_region 23 with (go_at_call 90;refine (LP.out _ xB.out).mono ?_;rintro e w1 ⟨v13,rfl,⟨p,rfl⟩,xD⟩)
      have JW:=lN ops k
      have Om:=ib ops k
      have KN:Hid (∀r,Stops (lpN ops k) L0 r->Stops (lpN ops k) (outN (ivsN R ops k) R.toNat) r):=Zh (fun r h=>by rw [<-KX.out];exact h)
      generalize JU:lpN ops k=lps at*
      replace JU:=Zh JU
      have KW:=Zh (fun x hx=>Int.le_trans (JW x hx) (show (k:Int)<=1000 by omega))
      obtain ⟨A2,g2,c2,rfl,ye,Kb,yB,OT,Gq⟩:=uR xD
      have STR:Hid (∀(l:List Tri) (lf lt:Int),l.length=L0.length-> ∀W:qW,(0<l.length->g1<W.heap.size)->RowAt W g1 l->qC 91 #[.slice A1 L0.length c1,.agg #[iI lf,iI lt]] W fun e w'=>e= .returned (.bool (l.any (bp lf lt)))/\Onto g1 W w'/\RowAt w' g1 (l.map (st1 lf lt))):=Zh (fun l lf lt zV W hg hR=>by
       rw [<-zV]
       exact pV A1 g1 c1 l lf lt (fun h=>(BA Za).1) Za Za GU W hg hR)
      have Je:=Zh (Dv.out.mo p)
      have Ql:=Zh Gq
      have NQ:wr.heap.size<=(more wr p).heap.size:=by rw [aZ];omega
      have FL:=Zh (aG Jk.out p)
      generalize more wr p=w4 at*
      clear xD Gq Dv
      go_wp2_with fail
      go_loopg [14,16] (pot L0+1) (fun gg v14 _ w5=> ∃(l:List Tri) (b:Bool),v14= .bool b/\l.length=L0.length/\(pot l+(if b then 1 else 0))<=gg/\Onto g1 w4 w5/\RowAt w5 g1 l/\(∀r,Stops lps l r->Stops lps (outN (ivsN R ops k) R.toNat) r)/\(b=false->anyM lps l=false))
      case atStart=>exact ⟨L0,true,rfl,rfl,by simp,Onto.refl,Je.out,KN.out,fun h=>by cases h⟩
      case round=>
       obtain ⟨l,b,rfl,zV,L5,ho,hr,xz,Mj⟩:=hrel
       have Jg:=Zh ho
       have KQ:=Zh hr
       have zk:=Zh xz
       have QH:=Zh Mj
       clear ho hr xz Mj Je
       cases b with
       |false=>
        go_wp2_with fail
        go_ret
        refine ⟨A1,g1,c1,l,by rw [zV];rfl,bC (Jg.out.under FL.out Za),by rw [JU.out];exact zk.out l (.stop (by have h9:=QH.out;simpa using h9)),fun h=>⟨(BA Za).1,?_⟩,by omega,by omega,GU,KQ.out⟩
        have h1:=(BA Za).2
        have h2:=Jg.out.size
        omega
       |true=>
        go_wp2_with fail
        go_loopw [14,16,80] (fun v14 _ v80 w6=> ∃j:Nat,j<=lps.length/\v80=iI j/\v14= .bool (anyM (lps.take j) l)/\Onto g1 w4 w6/\RowAt w6 g1 (pass (lps.take j) l)) (fun _ _ v80 _=>lps.length-(intOf v80).toNat)
        case atStart=>exact ⟨0,by omega,rfl,rfl,Jg.out,by simpa [pass] using KQ.out⟩
        case round=>
         obtain ⟨j,hj,rfl,rfl,ho,hr⟩:=hrel
         have KS:=Zh ho
         have KP:=Zh hr
         have QT:=ho.size
         clear ho hr Jg KQ
         by_cases zh:(j:Int)<lps.length
         ·obtain ⟨rfl,OH⟩:=ye Za
          obtain ⟨x,hx⟩: ∃x,lps[j]?=some x:=⟨_,zaC Za⟩
          obtain ⟨c0,c1'⟩:=Ql.out.onto KS.out Za j x hx
          have HP:=Zh (uF lps l j x hx)
          have HM:=Zh (yfs lps l j x hx)
          have AA:=kG (lps.take j) l
          obtain ⟨xf,xt⟩:=x
          simp only at c0 c1' HP HM
          have S1:=Zh (fun W hg hR=>STR.out (pass (lps.take j) l) xf xt Za W hg hR)
          generalize pass (lps.take j) l=pl at*
          generalize anyM (lps.take j) l=am at*
          have lg:g2<wr.heap.size:=by omega
          have HG:Hid (0<pl.length->g1<wr.heap.size+1):=Zh (fun h=>by have h1:=(BA Za).2;omega)
          cases yn:pl.any (bp xf xt)
          all_goals
           rw [yn] at S1 HM
           go_wp2_with (go_at_call 91;refine (S1.out _ (fun h=>by have h9:=HG.out h;simp;omega) (KP.out.onto_new _)).mono ?_;rintro e w1 ⟨rfl,LH,Bk⟩)
           ·have Qa:=Zh (Onto.trans (Onto.alloc KS.out _) LH)
            have P0:=Zh Bk
            clear LH Bk
            go_roundw
            case rel=>exact ⟨j+1,by omega,by go_num,by rw [HM.out];simp,Qa.out,by rw [HP.out];exact P0.out⟩
            case measure=>simp [intOf];omega
         ·have ED:j=lps.length:=by omega
          subst ED
          rw [List.take_length] at KP
          have DN:=kF lps l KW.out
          have AA:=kG lps l
          go_wp2_with fail
          go_roundg (pot (pass lps l)+(if anyM lps l then 1 else 0))
          case measure=>
           cases hm:anyM lps l with
           |true=>have:=DN.2 hm;simp at L5 ⊢;omega
           |false=>simp at L5 ⊢;omega
          case rel=>
           refine ⟨pass lps l,anyM lps l,rfl,by omega,zaq _,KS.out,KP.out,fun r h=>?_,fun h=>?_⟩
           ·cases hm:anyM lps l with
            |true=>exact zk.out r (.go hm h)
            |false=>rw [gz hm] at h;exact zk.out r h
           ·rw [gz h];exact h
end
section
open Go.RowKit Go.Sort
theorem qS{P:Program}{ops:Array Oper}{o:Oper}{a:Act}{w:qW}{K:Act->qW->Prop}{Q:Exit->Act->qW->Prop}{E:Prop}(hgd:o.guard=none)(s x:Operand)(t:TypeId)
  (ho:o.op= .call {callee:= .builtin .append,args:=#[s,x],argTypes:=#[t,t]})
  (base:Nat) (e:TypeId) (i:TypeInfo) (z:qV) (size bytes:Nat) (ht:P.underlying t=some (.slice e)) (hi:P.info? e=some i) (hz:i.zero=some z)
  (hsize:i.size=size) (hby:i.bytes=bytes) (hzs:z.cells.size=size) (hsz:0<size)
  (v:qV) (n:Nat) (xs:List qV) (hs:a.eval s=v) (hown:w.ownsRow base e size v n xs)
  (ad:Addr) (m c:Nat) (news:List qV) (hx:a.eval x= .slice (some ad) m c) (hl:news.length=m*size) (hnews: ∀j u,news[j]?=some u->w.cell? (ad.add j)=some u) (h1: ∀u∈news,u.oneCell'=true)
  (hm:0<n+m) (h63:n+m<=maxLen) (hbytes:(n+m)*bytes<=140737488355328) (hbase:base<=w.heap.size)
  (h: ∀g cap w',w'.ownsRow base e size (.slice (aA g) (n+m) cap) (n+m) (xs++news)->w.grownBy w' v.ownBlock->(v.ownBlock=some g\/g=w.heap.size)->g<w'.heap.size->K (a.put o.dst (.slice (aA g) (n+m) cap)) w'):
  if Region.wanted o (yielded ops a.tmps)=true then Oper.wp P o a w K Q else E:=by
 have hw:Region.wanted o (yielded ops a.tmps)=true:=by simp [Region.wanted,hgd]
 rw [if_pos hw]
 obtain ⟨v',w',hr,h2,h3,_,h5⟩:=run_append_own_at (P:=P) w base t o.type e i z size bytes ht hi hz hsize hby hzs hsz v n xs hown ad m c news hl hnews h1 h63 hbytes hbase
 obtain ⟨g,cap,rfl,_,xe⟩:=h2.form Za
 unfold Oper.wp execOp
 simp only [ho,resolve,invoke,builtin,Sem.run_bind,Sem.run_pure,Result.andThen_ok,List.map_toArray,List.map_cons,List.map_nil,hs,hx,hr]
 refine h g cap w' h2 h3 ?_ xe
 rcases h5 with h5|h5
 ·exact .inl (by rw [<-h5];rfl)
 ·right
  simpa [Value.ownBlock] using h5
theorem bf{P:Program}{ops:Array Oper}{o:Oper}{a:Act}{w:qW}{K:Act->qW->Prop}{Q:Exit->Act->qW->Prop}{E:Prop}(s x:Operand)(t:TypeId)
  (e:TypeId) (i:TypeInfo) (z:qV) (size bytes:Nat) (ht:P.underlying t=some (.slice e)) (hi:P.info? e=some i) (hz:i.zero=some z)
  (hsize:i.size=size) (hby:i.bytes=bytes) (hzs:z.cells.size=size) (hsz:0<size) (hgd:o.guard=none)
  (ho:o.op= .call {callee:= .builtin .append,args:=#[s,x],argTypes:=#[t,t]})
  (base:Nat) (v:qV) (n:Nat) (xs:List qV) (hown:w.ownsRow base e size v n xs) (k:Nat) (cs:Array qV) (t0:TypeId) (fr:Nat×Nat) (hk:w.heap[k]?=some (.cells cs t0 fr)) (hs:a.eval s=v)
  (hx:a.eval x= .slice (aA k) 1 1) (hl:cs.size=size) (h1: ∀u∈cs.toList,u.oneCell'=true)
  (h63:(n+1)*bytes<=140737488355328) (I8:n+1<=9223372036854775807) (hbase:base<=w.heap.size)
  (h: ∀g cap w',w'.ownsRow base e size (.slice (aA g) (n+1) cap) (n+1) (xs++cs.toList)->w.grownBy w' v.ownBlock->(v.ownBlock=some g\/g=w.heap.size)->g<w'.heap.size->K (a.put o.dst (.slice (aA g) (n+1) cap)) w'):
  if Region.wanted o (yielded ops a.tmps)=true then Oper.wp P o a w K Q else E:=
 qS hgd s x t ho base e i z size bytes ht hi hz hsize hby hzs hsz v n xs hs hown ⟨k,0,none⟩ 1 1 cs.toList hx (by simpa using hl) (World.news_of_block hk) h1 Za (by unfold maxLen;omega) h63 hbase h
theorem bO{P:Program}{ops:Array Oper}{rest:List Oper}{o:Oper}{a:Act}{w:qW}{Q:Exit->Act->qW->Prop}(s x:Operand)(t:TypeId)
  (e:TypeId) (i:TypeInfo) (z:qV) (size bytes:Nat) (ht:P.underlying t=some (.slice e)) (hi:P.info? e=some i) (hz:i.zero=some z)
  (hsize:i.size=size) (hby:i.bytes=bytes) (hzs:z.cells.size=size) (hsz:0<size) (hgd:o.guard=none)
  (ho:o.op= .call {callee:= .builtin .append,args:=#[s,x],argTypes:=#[t,t]})
  (base:Nat) (v:qV) (n:Nat) (xs:List qV) (hown:w.ownsRow base e size v n xs) (k:Nat) (cs:Array qV) (t0:TypeId) (fr:Nat×Nat) (hk:w.heap[k]?=some (.cells cs t0 fr)) (hs:a.eval s=v)
  (hx:a.eval x= .slice (aA k) 1 1) (hl:cs.size=size) (h1: ∀u∈cs.toList,u.oneCell'=true)
  (h63:(n+1)*bytes<=140737488355328) (I8:n+1<=9223372036854775807) (hbase:base<=w.heap.size)
  (h: ∀g cap w',w'.ownsRow base e size (.slice (aA g) (n+1) cap) (n+1) (xs++cs.toList)->w.grownBy w' v.ownBlock->(v.ownBlock=some g\/g=w.heap.size)->g<w'.heap.size->wpList P ops Q rest (a.put o.dst (.slice (aA g) (n+1) cap)) w'):
  wpList P ops Q (o::rest) a w:=by
 refine wpList_append_own_at (w:=w) (hgd:=hgd) (s:=s) (x:=x) (t:=t) (ho:=ho) (base:=base) (e:=e) (i:=i) (z:=z) (size:=size) (bytes:=bytes) (ht:=ht) (hi:=hi) (hz:=hz) (hsize:=hsize) (hby:=hby) (hzs:=hzs) (hsz:=hsz) (v:=v) (n:=n) (xs:=xs) (hs:=hs) (hown:=hown) (ad:=⟨k,0,none⟩) (m:=1) (c:=1) (news:=cs.toList) (hx:=hx) (hl:=by simpa using hl) (hnews:=World.news_of_block hk) (h1:=h1) (h63:=by unfold maxLen;omega) (hbytes:=h63) (hbase:=hbase) (h:=?_)
 intro v' w' h2 h3 _ h5
 obtain ⟨g,cap,rfl,_,xe⟩:=h2.form Za
 refine h g cap w' h2 h3 ?_ xe
 rcases h5 with h5|h5
 ·exact .inl (by rw [<-h5];rfl)
 ·right
  simpa [Value.ownBlock] using h5
def ltrB(c:Int):Bool:=decide (97<=c)&&decide (c<=122)
def okC(c:Int):Bool:=ltrB c||c==95||(decide (48<=c)&&decide (c<=57))
def byteAt(s:qB)(i:Nat):Nat:=if h:i<s.size then (s[i]'h).toNat else 0
def nameB(s:qB):Bool:=decide (1<=s.size/\s.size<=16)&&(ltrB (byteAt s 0)&&(List.range s.size).all (fun i=>okC (byteAt s i)))
theorem nR(s:qB)(i:Nat)(h:i<s.size):byteAt s i=(s[i]'h).toNat:=by unfold byteAt;rw [dif_pos h]
theorem lC(s:qB)(i:Nat)(h:i<s.size)(hc:okC (byteAt s i)=false):nameB s=false:=by
 unfold nameB
 have:(List.range s.size).all (fun i=>okC (byteAt s i))=false:=by
  rw [List.all_eq_false]
  exact ⟨i,List.mem_range.2 h,by simpa using hc⟩
 rw [this];simp
theorem wW(s:qB)(h1:1<=s.size)(h2:s.size<=16)(h3:ltrB (byteAt s 0)=true)(h: ∀i,i<s.size->okC (byteAt s i)=true):nameB s=true:=by
 unfold nameB
 have:(List.range s.size).all (fun i=>okC (byteAt s i))=true:=List.all_eq_true.2 fun i hi=>h i (List.mem_range.1 hi)
 rw [this,h3,zaw ⟨h1,h2⟩];rfl
theorem cI{a b:Bool}(h:a=b):Ending.returned (.bool a)= .returned (.bool b):=by rw [h]
theorem ic(c:Int)(w:qW):qC 118 #[.int .i32 c] w fun e w'=>e= .returned (.bool (ltrB c))/\w=w':=by
 by_cases h1:97<=c
 ·by_cases h2:c<=122
  ·have H:Hid (ltrB c=true):=by unfold ltrB;rw [zaw h1,zaw h2];exact Zh rfl
   go_enter Tryz.func118,Tryz.ntmps118
   go_wp2
   go_ret
   exact ⟨cI (by rw [H.out]),rfl⟩
  ·have H:Hid (ltrB c=false):=by unfold ltrB;rw [zax h2,Bool.and_false];exact Zh rfl
   go_enter Tryz.func118,Tryz.ntmps118
   go_wp2
   go_ret
   exact ⟨cI (by rw [H.out]<;>simp<;>omega),rfl⟩
 ·have H:Hid (ltrB c=false):=by unfold ltrB;rw [zax h1,zay];exact Zh rfl
  go_enter Tryz.func118,Tryz.ntmps118
  go_wp2
  go_ret
  exact ⟨cI (by rw [H.out]<;>simp<;>omega),rfl⟩
theorem iM(w:qW)(s:qB)(pos:Nat):Below w.heap.size w (w.iter s pos):=ab (zaa _ _) _
theorem vD(s:qB)(pos:Nat)(h:pos<s.size):okC ((Utf8.decode s pos).1:Nat)=okC (byteAt s pos)/\(okC (byteAt s pos)=true->(Utf8.decode s pos).2=1):=by
 rw [nR s pos h]
 by_cases ha:(s[pos]'h).toNat<128
 ·rw [decode_ascii s pos h ha]
  exact ⟨rfl,fun _=>rfl⟩
 ·have h1:=(decode_high s pos h Za).1
  have f: ∀n:Nat,128<=n->okC (n:Int)=false:=fun n hn=>by
   unfold okC ltrB
   rw [zax (show¬(n:Int)<=122 by omega),zax (show¬(n:Int)<=57 by omega),show ((n:Int)==95)=false by simp;omega]
   simp
  rw [f _ h1,f _ Za]
  exact ⟨rfl,fun h=>by cases h⟩
theorem lA(s:qB)(hs:s.size<=9223372036854775807)(w:qW):qC 74 #[.string s] w (Gives w (.bool (nameB s))):=by
 by_cases h1:s.size<1
 ·have H:Hid (nameB s=false):=by unfold nameB;rw [zax Za];exact Zh rfl
  go_enter Tryz.func74,Tryz.ntmps74
  go_wp2_with fail
  go_ret
  exact Gives.mk (cI (by rw [H.out])) (zaa _ _)
 by_cases h2:16<s.size
 ·have H:Hid (nameB s=false):=by unfold nameB;rw [zax Za];exact Zh rfl
  have h3: ¬s.size<1:=h1
  go_enter Tryz.func74,Tryz.ntmps74
  go_wp2_with fail
  go_ret
  exact Gives.mk (cI (by rw [H.out])) (zaa _ _)
 have h0:0<s.size:=by omega
 have hb:=nR s 0 h0
 cases hl:ltrB (byteAt s 0)
 ·have H:Hid (nameB s=false):=by unfold nameB;rw [hl];simp [Hid]
  rw [hb] at hl
  have Ou:(s[0]'h0).toNat<256:=(s[0]'h0).toNat_lt
  have L:=ic ((s[0]'h0).toNat:Int)
  rw [hl] at L
  have HL:=Zh L
  clear L hl hb
  go_enter Tryz.func74,Tryz.ntmps74
  go_wp2_with (go_at_call 118;refine (HL.out _).mono ?_;rintro e w1 ⟨rfl,rfl⟩)
  go_ret
  exact Gives.mk (cI (by rw [H.out])) (zaa _ _)
 ·have CJ:=Zh hl
  rw [hb] at hl
  have Ou:(s[0]'h0).toNat<256:=(s[0]'h0).toNat_lt
  have L:=ic ((s[0]'h0).toNat:Int)
  rw [hl] at L
  have HL:=Zh L
  clear L hl hb
  go_enter Tryz.func74,Tryz.ntmps74
  go_wp2_with (go_at_call 118;refine (HL.out _).mono ?_;rintro e w1 ⟨rfl,rfl⟩)
  go_loopw [4] (fun _ w'=> ∃pos:Nat,w'=w.iter s pos/\(∀i,i<pos->okC (byteAt s i)=true)) (fun _ w'=>s.size-w'.iterPos w.heap.size)
  case atStart=>exact ⟨0,rfl,fun i hi=>by omega⟩
  case round=>
   obtain ⟨pos,rfl,xw⟩:=hrel
   by_cases hp:pos<s.size
   ·have DS: ∀ty,(Instr.next (pP w.heap.size) true ty).run Tryz.prog (w.iter s pos)=_:=fun ty=>run_next_any w s pos ty hp
    obtain ⟨zL,yz⟩:=vD s pos hp
    generalize hR:(Utf8.decode s pos).1=R at*
    generalize hW:(Utf8.decode s pos).2=W at*
    clear hR hW
    have L2:=ic (R:Int)
    cases xe:ltrB (R:Int)
    ·rw [xe] at L2
     have yP:=Zh L2
     clear L2
     by_cases Dr:(R:Int)=95
     ·have yf:okC (R:Int)=true:=by unfold okC;rw [Dr];rfl
      have b95:((R:Int) !=95)=false:=by simp [Dr]
      clear xe Dr
      have u':=yz (by rw [<-zL,yf])
      have HA:Hid (∀i,i<pos+1->okC (byteAt s i)=true):=Zh (fun i hi=>by
       rcases zaJ i pos with h|h
       ·exact xw i h
       ·obtain rfl:i=pos:=by omega
        rw [<-zL,yf])
      have HW:=Zh u'
      clear yf xw zL yz u'
      go_wp2_with (go_at_call 118;refine (yP.out _).mono ?_;rintro e w1 ⟨rfl,rfl⟩)
      go_roundw
      case rel=>exact ⟨pos+1,by rw [HW.out],HA.out⟩
      case measure=>rw [HW.out];simp;omega
     ·have b95:((R:Int) !=95)=true:=by simpa using Dr
      by_cases M':(48:Int)<=R
      ·by_cases M9:(R:Int)<=57
       ·have yf:okC (R:Int)=true:=by unfold okC;rw [zaw M',zaw M9];simp
        clear xe Dr
        have u':=yz (by rw [<-zL,yf])
        have HA:Hid (∀i,i<pos+1->okC (byteAt s i)=true):=Zh (fun i hi=>by
         rcases zaJ i pos with h|h
         ·exact xw i h
         ·obtain rfl:i=pos:=by omega
          rw [<-zL,yf])
        have HW:=Zh u'
        clear yf xw zL yz u'
        go_wp2_with (go_at_call 118;refine (yP.out _).mono ?_;rintro e w1 ⟨rfl,rfl⟩)
        go_roundw
        case rel=>exact ⟨pos+1,by rw [HW.out],HA.out⟩
        case measure=>rw [HW.out];simp;omega
       ·have yf:okC (R:Int)=false:=by unfold okC;rw [xe,zax M9,show ((R:Int)==95)=false by simpa using Dr];simp
        clear xe Dr
        have H:Hid (nameB s=false):=Zh (lC s pos hp (by rw [<-zL,yf]))
        clear yf xw zL yz
        go_wp2_with (go_at_call 118;refine (yP.out _).mono ?_;rintro e w1 ⟨rfl,rfl⟩)
        go_ret
        exact Gives.mk (cI (by rw [H.out])) (iM _ _ _)
      ·have yf:okC (R:Int)=false:=by unfold okC;rw [xe,zax M',show ((R:Int)==95)=false by simpa using Dr];simp
       clear xe Dr
       have H:Hid (nameB s=false):=Zh (lC s pos hp (by rw [<-zL,yf]))
       clear yf xw zL yz
       go_wp2_with (go_at_call 118;refine (yP.out _).mono ?_;rintro e w1 ⟨rfl,rfl⟩)
       go_ret
       exact Gives.mk (cI (by rw [H.out])) (iM _ _ _)
    ·rw [xe] at L2
     have yP:=Zh L2
     clear L2
     have yf:okC (R:Int)=true:=by unfold okC;rw [xe];rfl
     clear xe
     have u':=yz (by rw [<-zL,yf])
     have HA:Hid (∀i,i<pos+1->okC (byteAt s i)=true):=Zh (fun i hi=>by
      rcases zaJ i pos with h|h
      ·exact xw i h
      ·obtain rfl:i=pos:=by omega
       rw [<-zL,yf])
     have HW:=Zh u'
     clear yf xw zL yz u'
     go_wp2_with (go_at_call 118;refine (yP.out _).mono ?_;rintro e w1 ⟨rfl,rfl⟩)
     go_roundw
     case rel=>exact ⟨pos+1,by rw [HW.out],HA.out⟩
     case measure=>rw [HW.out];simp;omega
   ·have DS: ∀ty,(Instr.next (pP w.heap.size) true ty).run Tryz.prog (w.iter s pos)=_:=fun ty=>run_next_end w s pos ty hp
    have H:Hid (nameB s=true):=Zh (wW s Za Za CJ.out (fun i hi=>xw i Za))
    clear xw
    go_wp2_with fail
    go_ret
    exact Gives.mk (cI (by rw [H.out])) (iM _ _ _)
structure FdF(α:Type) where
 name:qB
 type:α
 isBits:Bool
 width:Int
structure TyF(α:Type) where
 kind:Int
 size:Int
 packed:Bool
 fields:List (FdF α)
 count:Int
 elem:List α
def Ty:Nat->Type
 |0=>Empty
 |n+1=>TyF (Ty n)
structure Raw where
 kind:Int
 size:Int
 packed:Bool
 fa:Option Addr
 fl:Nat
 fc:Nat
 count:Int
 ea:Option Addr
 el:Nat
 ec:Nat
def Raw.val(r:Raw):qV:= .agg #[iI r.kind,iI r.size,.bool r.packed,.slice r.fa r.fl r.fc,iI r.count,.slice r.ea r.el r.ec]
def rng(x:Int):Prop:= -9223372036854775808<=x/\x<=9223372036854775807
def SlIn(w:qW)(a:Option Addr)(n c:Nat)(P:Nat->Nat->Prop):Prop:=
 n<=c/\c<=9223372036854775807/\(0<n-> ∃b off,a=some ⟨b,off,none⟩/\b<w.heap.size/\P b off)
def TyAt(w:qW):(n:Nat)->Ty n->Raw->Prop
 |0,t,_=>nomatch t
 |n+1,(t:TyF (Ty n)),r=>r.kind=t.kind/\r.size=t.size/\r.packed=t.packed/\r.fl=t.fields.length/\r.count=t.count/\r.el=t.elem.length/\
   rng t.kind/\rng t.size/\rng t.count/\
   SlIn w r.fa r.fl r.fc (fun b off=> ∀i f,t.fields[i]?=some f-> ∃q:Raw,TyAt w n f.type q/\rng f.width/\f.name.size<=9223372036854775807/\
    w.cell? ⟨b,off+i*9,none⟩=some (.string f.name)/\w.cell? ⟨b,off+i*9+1,none⟩=some (iI q.kind)/\w.cell? ⟨b,off+i*9+2,none⟩=some (iI q.size)/\
    w.cell? ⟨b,off+i*9+3,none⟩=some (.bool q.packed)/\w.cell? ⟨b,off+i*9+4,none⟩=some (.slice q.fa q.fl q.fc)/\w.cell? ⟨b,off+i*9+5,none⟩=some (iI q.count)/\
    w.cell? ⟨b,off+i*9+6,none⟩=some (.slice q.ea q.el q.ec)/\w.cell? ⟨b,off+i*9+7,none⟩=some (.bool f.isBits)/\w.cell? ⟨b,off+i*9+8,none⟩=some (iI f.width))/\
   SlIn w r.ea r.el r.ec (fun b off=> ∀i e,t.elem[i]?=some e-> ∃q:Raw,TyAt w n e q/\
    w.cell? ⟨b,off+i*6,none⟩=some (iI q.kind)/\w.cell? ⟨b,off+i*6+1,none⟩=some (iI q.size)/\
    w.cell? ⟨b,off+i*6+2,none⟩=some (.bool q.packed)/\w.cell? ⟨b,off+i*6+3,none⟩=some (.slice q.fa q.fl q.fc)/\w.cell? ⟨b,off+i*6+4,none⟩=some (iI q.count)/\
    w.cell? ⟨b,off+i*6+5,none⟩=some (.slice q.ea q.el q.ec))
theorem TyAt.keep{w w':qW}(h: ∀b o,b<w.heap.size->w'.cell? ⟨b,o,none⟩=w.cell? ⟨b,o,none⟩)(hz:w.heap.size<=w'.heap.size): ∀(n:Nat) (t:Ty n) (r:Raw),TyAt w n t r->TyAt w' n t r
 |0,t,_,_=>nomatch t
 |n+1,(t:TyF (Ty n)),r,⟨h1,h2,h3,h4,h5,h6,h7,h8,h9,hf,he⟩=>by
  refine ⟨h1,h2,h3,h4,h5,h6,h7,h8,h9,⟨hf.1,hf.2.1,fun hn=>?_⟩,⟨he.1,he.2.1,fun hn=>?_⟩⟩
  ·obtain ⟨b,off,ha,hb,hc⟩:=hf.2.2 hn
   refine ⟨b,off,ha,by omega,fun i f hi=>?_⟩
   obtain ⟨q,hq,g1,g2,c0,c1,c2,c3,c4,c5,c6,c7,c8⟩:=hc i f hi
   exact ⟨q,TyAt.keep h hz n f.type q hq,g1,g2,(h _ _ hb).trans c0,(h _ _ hb).trans c1,(h _ _ hb).trans c2,(h _ _ hb).trans c3,(h _ _ hb).trans c4,(h _ _ hb).trans c5,(h _ _ hb).trans c6,(h _ _ hb).trans c7,(h _ _ hb).trans c8⟩
  ·obtain ⟨b,off,ha,hb,hc⟩:=he.2.2 hn
   refine ⟨b,off,ha,by omega,fun i f hi=>?_⟩
   obtain ⟨q,hq,c0,c1,c2,c3,c4,c5⟩:=hc i f hi
   exact ⟨q,TyAt.keep h hz n f q hq,(h _ _ hb).trans c0,(h _ _ hb).trans c1,(h _ _ hb).trans c2,(h _ _ hb).trans c3,(h _ _ hb).trans c4,(h _ _ hb).trans c5⟩
theorem TyAt.below{w w':qW}(hb:Below w.heap.size w w'){n:Nat}{t:Ty n}{r:Raw}(h:TyAt w n t r):TyAt w' n t r:=
 TyAt.keep (fun b o yN=>hb.cell (p:=⟨b,o,none⟩) yN) hb.size n t r h
end
end Go.Proofs.YtjmfoeajhiimnaaGreatDoor
