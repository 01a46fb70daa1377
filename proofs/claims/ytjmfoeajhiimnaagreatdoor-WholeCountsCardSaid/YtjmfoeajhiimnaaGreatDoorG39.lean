/- Walks. No condition. -/
import Derived.Test.YtjmfoeajhiimnaaGreatDoorG38
set_option maxRecDepth 100000
set_option maxHeartbeats 0
set_option linter.all false
namespace Go.Proofs.YtjmfoeajhiimnaaGreatDoor
open Go.RowKit Go.Sort
theorem yfu{W:qW}{M:Nat}{F:Nat->Prop}{bs:List Nat}{s s':MSt}{e0:Int}(h:MacAt W M F bs s)(k:Nat)(hk:k<=65536)(hs:mAl k s=some (s',e0)):
  qC 35 #[pP M,iI k] W fun e w'=>e= .returned (iI e0)/\MacD W M F bs s' w':=by
 have hM:=h.M_lt
 have HF:=Zh h.lt
 have HS:=Zh hs
 have H:=Zh (h.same (zaa _ _))
 have h8:=h.ok.n8
 have Ac:=Zh h.bl
 have O8:bs.length<=8:=by have:=h.bl;omega
 clear h hs
 go_enter Tryz.func35,Tryz.ntmps35
 go_wp2_with fail
 go_loopw [10] (fun v10 wr=> ∃(j:Nat) (sj:MSt),v10=iI j/\j<=k/\MacD W M F bs sj wr/\mAl (k-j) sj=some (s',e0)) (fun v10 _=>k-(intOf v10).toNat)
 case atStart=>exact ⟨0,s,rfl,by omega,H.out,HS.out⟩
 case round=>
  obtain ⟨j,sj,rfl,hj,hm,xX⟩:=hrel
  by_cases zQ:j<k
  ·have EC:(j:Int)<k:=by omega
   have Cb:IntKind.i64.wrap ((j:Int)+1)=(j:Int)+1:=aR Za Za
   rw [show k-j=(k-(j+1))+1 by omega] at xX
   unfold mAl at xX
   cases hr:mRw sj.ts.length 0 false sj with
   |none=>rw [hr] at xX;cases xX
   |some r=>
    rw [hr] at xX
    simp only [zaZ] at xX
    have xo:=hm.mac.bl
    rw [<-xo] at hr
    obtain ⟨g,c,q0,hc,hg, -⟩:=hm.mac.row
    have HM:=Zh hm
    have HR:=Zh hr
    have Du:=Zh xX
    clear hm hr xX xo
    go_wp2_with fail
    have Hw:=Zh q0
    clear q0
    generalize wr=wy at*
    go_loopw [17,5] (fun v17 v5 wz=> ∃(i:Nat) (gb:Bool) (si:MSt),v17=iI i/\v5= .bool gb/\i<=bs.length/\MacD W M F bs si wz/\wz.cell? (aB M 0)=some (.slice (aA g) bs.length c)/\mRw (bs.length-i) i gb si=some r) (fun v17 _ _=>bs.length-(intOf v17).toNat)
    case atStart=>exact ⟨0,false,sj,rfl,rfl,by omega,HM.out,Hw.out,HR.out⟩
    case round=>
     obtain ⟨i,gb,si,rfl,rfl,hi,hm,yt,Ak⟩:=hrel
     by_cases Cd:i<bs.length
     ·have J7:(i:Int)<bs.length:=by omega
      have Bm:IntKind.i64.wrap ((i:Int)+1)=(i:Int)+1:=aR Za Za
      have xo:=hm.mac.bl
      obtain ⟨t,ht⟩: ∃t,si.ts[i]?=some t:=⟨si.ts[i]'Za,zaC _⟩
      obtain ⟨b,hb⟩: ∃b,bs[i]?=some b:=⟨bs[i],zaC Cd⟩
      have qrow:wr.cell? (aB g i)=some (pP b):=by
       obtain ⟨g',c',q0', -, -,hr⟩:=hm.mac.row
       have e:=zae (q0'.symm.trans yt)
       injection e with e1 e2 e3
       injection e1 with e1
       injection e1 with e1 e4 e5
       exact e1 ▸ hr i b hb
      have q39:=hm.mac.end39 hb ht
      rw [show bs.length-i=(bs.length-(i+1))+1 by omega] at Ak
      unfold mRw at Ak
      rw [ht] at Ak
      simp only [zaZ] at Ak
      cases Ix:mSom i false 1 si with
      |none=>rw [Ix] at Ak;cases Ak
      |some q=>
       rw [Ix] at Ak
       simp only [zaZ] at Ak
       obtain ⟨s2,e2⟩:=q
       have CS:=Zh (fV hm.mac i 1 Za false Ix Cd)
       have HM:=Zh hm
       have Jd:=Zh Ak
       have HQ:=Zh yt
       generalize L9:t.end_=en at*
       clear hm Ak yt Ix xo
       cases gb
       ·have DS: ∀(g':Bool),(false||decide (en=0))=g'->e2=0->mRw (bs.length-(i+1)) (i+1) g' s2=some r:=fun g' hg he=>by
         have:=Jd.out
         rw [if_neg (by simpa using he),hg] at this
         exact this
        have xz:e2≠0->r.1=s2/\r.2.2=e2:=fun he=>by
         have:=Jd.out
         rw [if_pos (by simpa using he)] at this
         obtain rfl:=zae this
         exact ⟨rfl,rfl⟩
        have KT:=Zh DS
        have zk:=Zh xz
        clear DS xz
        go_wp2_with fail
        refine CS.out.mono ?_
        rintro e w1 ⟨rfl,hD⟩
        have HD:=Zh (HM.out.next HF.out hM hD)
        have KR:=Zh (hD.row.trans HQ.out)
        clear hD CS q39 qrow
        by_cases he:e2=0
        ·have D5:(e2 !=0)=false:=by simpa using he
         have hn:=KT.out (en==0) (by simp [Bool.beq_eq_decide_eq]) he
         have HN:=Zh hn
         clear hn he
         go_wp2_with fail
         exact ⟨⟨i+1,(en==0),s2,by simp,rfl,by omega,HD.out,KR.out,HN.out⟩,by simp [intOf];omega⟩
        ·have D5:(e2 !=0)=true:=by simpa using he
         obtain ⟨h1,h2⟩:=zk.out he
         have hs:=Du.out
         rw [h2,if_pos he,h1] at hs
         have zY:=Zh (zae hs)
         clear h1 h2 hs he
         go_wp2_with fail
         go_ret
         have e5:=zY.out
         injection e5 with e6 e7
         exact ⟨by rw [<-e7];rfl,e6 ▸ HD.out⟩
       ·have DS: ∀(g':Bool),(true||decide (en=0))=g'->e2=0->mRw (bs.length-(i+1)) (i+1) g' s2=some r:=fun g' hg he=>by
         have:=Jd.out
         rw [if_neg (by simpa using he),hg] at this
         exact this
        have xz:e2≠0->r.1=s2/\r.2.2=e2:=fun he=>by
         have:=Jd.out
         rw [if_pos (by simpa using he)] at this
         obtain rfl:=zae this
         exact ⟨rfl,rfl⟩
        have KT:=Zh DS
        have zk:=Zh xz
        clear DS xz
        go_wp2_with fail
        refine CS.out.mono ?_
        rintro e w1 ⟨rfl,hD⟩
        have HD:=Zh (HM.out.next HF.out hM hD)
        have KR:=Zh (hD.row.trans HQ.out)
        clear hD CS q39 qrow
        by_cases he:e2=0
        ·have D5:(e2 !=0)=false:=by simpa using he
         have hn:=KT.out true Zg he
         have HN:=Zh hn
         clear hn he
         go_wp2_with fail
         exact ⟨⟨i+1,true,s2,by simp,rfl,by omega,HD.out,KR.out,HN.out⟩,by simp [intOf];omega⟩
        ·have D5:(e2 !=0)=true:=by simpa using he
         obtain ⟨h1,h2⟩:=zk.out he
         have hs:=Du.out
         rw [h2,if_pos he,h1] at hs
         have zY:=Zh (zae hs)
         clear h1 h2 hs he
         go_wp2_with fail
         go_ret
         have e5:=zY.out
         injection e5 with e6 e7
         exact ⟨by rw [<-e7];rfl,e6 ▸ HD.out⟩
     ·have EE:i=bs.length:=by omega
      have J7: ¬(i:Int)<bs.length:=by omega
      have Bk:some (si,gb,(0:Int))=some r:=by
       rw [show bs.length-i=0 by omega] at Ak
       unfold mRw at Ak
       exact Ak
      have hs:=Du.out
      obtain rfl:=zae Bk
      rw [if_neg Zg] at hs
      have HM:=Zh hm
      have zY:=Zh hs
      clear hm Ak yt Bk hs EE Du HR
      cases gb
      ·go_wp2_with fail
       go_ret
       have e5:=zY.out
       rw [if_neg Zg] at e5
       have e5:=zae e5
       injection e5 with e6 e7
       exact ⟨by rw [<-e7];rfl,e6 ▸ HM.out⟩
      ·go_wp2_with fail
       have e5:=zY.out
       rw [if_pos rfl] at e5
       exact ⟨⟨j+1,si,by simp,by omega,HM.out,e5⟩,by simp [intOf];omega⟩
  ·have zO:k=j:=by omega
   subst zO
   rw [Nat.sub_self] at xX
   unfold mAl at xX
   have yW:=zae xX
   injection yW with h1 h2
   have H1:=Zh h1
   have H2:=Zh h2
   have HM:=Zh hm
   have yp: ¬(k:Int)<k:=by omega
   clear hm xX h1 h2
   go_wp2_with fail
   go_ret
   exact ⟨by rw [<-H2.out];rfl,H1.out ▸ HM.out⟩
def mOne(s:MSt)(a b c:Int):Option (MSt×Int):=
 if a=1 then (if 0<=b/\b<s.ts.length/\0<=c/\c<=65536 then mSom b.toNat false c.toNat s else some (s,1))
 else if a=2 then (if 0<=b/\b<s.ts.length then mSom b.toNat true 1 s else some (s,1))
 else if a=3 then (if 0<=b/\b<=65536 then mAl b.toNat s else some (s,1))
 else some (s,1)
theorem MacAt.at_none{W:qW}{M:Nat}{F:Nat->Prop}{bs:List Nat}{s:MSt}(h:MacAt W M F bs s)(b:Int)(hb:b<0\/(bs.length:Int)<=b):qC 33 #[pP M,iI b] W fun e w'=>e= .returned (.pointer none)/\w'=W:=by
 obtain ⟨g,c,q0,hc,hg, -⟩:=h.row
 clear h
 rcases hb with hb|hb
 ·go_enter Tryz.func33,Tryz.ntmps33
  go_wp2_with fail
  go_ret
  exact ⟨rfl,rfl⟩
 ·have h0: ¬b<0:=by omega
  have h1: ¬b<bs.length:=by omega
  go_enter Tryz.func33,Tryz.ntmps33
  go_wp2_with fail
  go_ret
  exact ⟨rfl,rfl⟩
theorem vw{W:qW}{M:Nat}{F:Nat->Prop}{bs:List Nat}{s:MSt}(h:MacAt W M F bs s)(a b c:Int)(ha:a<1\/3<a):
  qC 17 #[pP M,.agg #[iI a,iI b,iI c]] W fun e w'=>e= .returned (iI 1)/\MacD W M F bs s w':=by
 have H:=Zh h
 have a3:(a==3)=false:=by simp;omega
 clear h
 rcases ha with ha|ha
 ·go_enter Tryz.func17,Tryz.ntmps17
  go_wp2_with fail
  go_ret
  exact ⟨rfl,H.out.same ZG⟩
 ·have a1: ¬a<1:=by omega
  go_enter Tryz.func17,Tryz.ntmps17
  go_wp2_with fail
  go_ret
  exact ⟨rfl,H.out.same ZG⟩
theorem kZ{W:qW}{M:Nat}{F:Nat->Prop}{bs:List Nat}{s:MSt}(h:MacAt W M F bs s)(a b c:Int)(ha:a=1\/a=2)(hb:b<0\/(bs.length:Int)<=b):
  qC 17 #[pP M,.agg #[iI a,iI b,iI c]] W fun e w'=>e= .returned (iI 1)/\MacD W M F bs s w':=by
 have H:=Zh h
 have AT:=Zh (fun W' (yN:Below W.heap.size W W')=>(h.below yN).at_none b hb)
 have a3:(a==3)=false:=by simp;omega
 have a1: ¬a<1:=by omega
 have a2: ¬3<a:=by omega
 have a4:(a !=3)=true:=by simp;omega
 clear h ha hb
 go_enter Tryz.func17,Tryz.ntmps17
 go_wp2_with fail
 refine (AT.out _ ZG).mono ?_
 rintro e w1 ⟨rfl,rfl⟩
 go_wp2_with fail
 go_ret
 exact ⟨rfl,H.out.same ZG⟩
theorem vy{W:qW}{M:Nat}{F:Nat->Prop}{bs:List Nat}{s:MSt}(h:MacAt W M F bs s)(n:Nat)(c:Int)(hn:n<bs.length)(hc:c<0\/65536<c):
  qC 17 #[pP M,.agg #[iI 1,iI n,iI c]] W fun e w'=>e= .returned (iI 1)/\MacD W M F bs s w':=by
 have hl:=h.bl
 have AT:=Zh (fun W' (hb:Below W.heap.size W W')=>(h.below hb).at_call (n:=n) (zaC hn) (zaC (show n<s.ts.length by omega)))
 have H:=Zh h
 clear h hl
 rcases hc with hc|hc
 ·go_enter Tryz.func17,Tryz.ntmps17
  go_wp2_with fail
  refine (AT.out _ ZG).mono ?_
  rintro e w1 ⟨rfl,rfl⟩
  go_wp2_with fail
  go_ret
  exact ⟨rfl,H.out.same ZG⟩
 ·have IP: ¬c<0:=by omega
  go_enter Tryz.func17,Tryz.ntmps17
  go_wp2_with fail
  refine (AT.out _ ZG).mono ?_
  rintro e w1 ⟨rfl,rfl⟩
  go_wp2_with fail
  go_ret
  exact ⟨rfl,H.out.same ZG⟩
theorem vB{W:qW}{M:Nat}{F:Nat->Prop}{bs:List Nat}{s:MSt}(h:MacAt W M F bs s)(b c:Int)(hb:b<0\/65536<b):
  qC 17 #[pP M,.agg #[iI 3,iI b,iI c]] W fun e w'=>e= .returned (iI 1)/\MacD W M F bs s w':=by
 have H:=Zh h
 clear h
 rcases hb with hb|hb
 ·go_enter Tryz.func17,Tryz.ntmps17
  go_wp2_with fail
  go_ret
  exact ⟨rfl,H.out.same ZG⟩
 ·have yb: ¬b<0:=by omega
  go_enter Tryz.func17,Tryz.ntmps17
  go_wp2_with fail
  go_ret
  exact ⟨rfl,H.out.same ZG⟩
theorem vA{W:qW}{M:Nat}{F:Nat->Prop}{bs:List Nat}{s s':MSt}{e0:Int}(h:MacAt W M F bs s)(k:Nat)(hk:k<=65536)(c:Int)(hs:mAl k s=some (s',e0)):
  qC 17 #[pP M,.agg #[iI 3,iI k,iI c]] W fun e w'=>e= .returned (iI e0)/\MacD W M F bs s' w':=by
 have CA:=Zh (fun W' (hb:Below W.heap.size W W')=>yfu (h.below hb) k hk hs)
 have HL:=Zh h.lt
 have hM:=h.M_lt
 have k0:(0:Int)<=k:=by omega
 have k1: ¬(k:Int)<0:=by omega
 have k2: ¬(65536:Int)<k:=by omega
 clear h hs
 go_enter Tryz.func17,Tryz.ntmps17
 go_wp2_with fail
 refine (CA.out _ ZG).mono ?_
 rintro e w1 ⟨rfl,hD⟩
 have HD:=Zh (hD.ahead HL.out hM ZG)
 clear hD CA
 go_wp2_with fail
 go_ret
 exact ⟨rfl,HD.out⟩
theorem vt{W:qW}{M:Nat}{F:Nat->Prop}{bs:List Nat}{s s':MSt}{e0:Int}(h:MacAt W M F bs s)(n k:Nat)(hk:k<=65536)(hn:n<bs.length)(hs:mSom n false k s=some (s',e0)):
  qC 17 #[pP M,.agg #[iI 1,iI n,iI k]] W fun e w'=>e= .returned (iI e0)/\MacD W M F bs s' w':=by
 have CA:=Zh (fun W' (hb:Below W.heap.size W W')=>fV (h.below hb) n k hk false hs hn)
 have hl:=h.bl
 have AT:=Zh (fun W' (hb:Below W.heap.size W W')=>(h.below hb).at_call (n:=n) (zaC hn) (zaC (show n<s.ts.length by omega)))
 have HL:=Zh h.lt
 have hM:=h.M_lt
 have k0:(0:Int)<=k:=by omega
 have k1: ¬(k:Int)<0:=by omega
 have k2: ¬(65536:Int)<k:=by omega
 clear h hs hl
 go_enter Tryz.func17,Tryz.ntmps17
 go_wp2_with fail
 refine (AT.out _ ZG).mono ?_
 rintro e w1 ⟨rfl,rfl⟩
 go_wp2_with fail
 refine (CA.out _ ZG).mono ?_
 rintro e w1 ⟨rfl,hD⟩
 have HD:=Zh (hD.ahead HL.out hM ZG)
 clear hD CA
 go_wp2_with fail
 go_ret
 exact ⟨rfl,HD.out⟩
theorem vx{W:qW}{M:Nat}{F:Nat->Prop}{bs:List Nat}{s s':MSt}{e0:Int}(h:MacAt W M F bs s)(n:Nat)(c:Int)(hn:n<bs.length)(hs:mSom n true 1 s=some (s',e0)):
  qC 17 #[pP M,.agg #[iI 2,iI n,iI c]] W fun e w'=>e= .returned (iI e0)/\MacD W M F bs s' w':=by
 have CA:=Zh (fun W' (hb:Below W.heap.size W W')=>fV (h.below hb) n 1 Za true hs hn)
 have hl:=h.bl
 have AT:=Zh (fun W' (hb:Below W.heap.size W W')=>(h.below hb).at_call (n:=n) (zaC hn) (zaC (show n<s.ts.length by omega)))
 have HL:=Zh h.lt
 have hM:=h.M_lt
 clear h hs hl
 go_enter Tryz.func17,Tryz.ntmps17
 go_wp2_with fail
 refine (AT.out _ ZG).mono ?_
 rintro e w1 ⟨rfl,rfl⟩
 go_wp2_with fail
 refine (CA.out _ ZG).mono ?_
 rintro e w1 ⟨rfl,hD⟩
 have HD:=Zh (hD.ahead HL.out hM ZG)
 clear hD CA
 go_wp2_with fail
 go_ret
 exact ⟨rfl,HD.out⟩
theorem vu{W:qW}{M:Nat}{F:Nat->Prop}{bs:List Nat}{s s':MSt}{e0:Int}(h:MacAt W M F bs s)(a b c:Int)(hs:mOne s a b c=some (s',e0)):
  qC 17 #[pP M,.agg #[iI a,iI b,iI c]] W fun e w'=>e= .returned (iI e0)/\MacD W M F bs s' w':=by
 have hl:=h.bl
 have no:some (s,(1:Int))=some (s',e0)->s=s'/\1=e0:=fun h=>by
  injection h with h
  injection h with h1 h2
  exact ⟨h1,h2⟩
 unfold mOne at hs
 by_cases h1:a=1
 ·rw [if_pos h1] at hs
  by_cases h2:0<=b/\b<s.ts.length/\0<=c/\c<=65536
  ·rw [if_pos h2] at hs
   have:=vt h b.toNat c.toNat Za Za hs
   rwa [<-h1,show ((b.toNat:Nat):Int)=b by omega,show ((c.toNat:Nat):Int)=c by omega] at this
  ·rw [if_neg h2] at hs
   obtain ⟨rfl,rfl⟩:=no hs
   by_cases h3:b<0\/(bs.length:Int)<=b
   ·exact kZ h a b c (.inl h1) h3
   ·have:=vy h b.toNat c Za Za
    subst h1
    rwa [show ((b.toNat:Nat):Int)=b by omega] at this
 ·rw [if_neg h1] at hs
  by_cases h3:a=2
  ·rw [if_pos h3] at hs
   by_cases h2:0<=b/\b<s.ts.length
   ·rw [if_pos h2] at hs
    have:=vx h b.toNat c Za hs
    rwa [<-h3,show ((b.toNat:Nat):Int)=b by omega] at this
   ·rw [if_neg h2] at hs
    obtain ⟨rfl,rfl⟩:=no hs
    exact kZ h a b c (.inr h3) Za
  ·rw [if_neg h3] at hs
   by_cases h4:a=3
   ·rw [if_pos h4] at hs
    by_cases h2:0<=b/\b<=65536
    ·rw [if_pos h2] at hs
     have:=vA h b.toNat Za c hs
     rwa [<-h4,show ((b.toNat:Nat):Int)=b by omega] at this
    ·rw [if_neg h2] at hs
     obtain ⟨rfl,rfl⟩:=no hs
     have:=vB h b c Za
     rwa [<-h4] at this
   ·rw [if_neg h4] at hs
    obtain ⟨rfl,rfl⟩:=no hs
    exact vw h a b c Za
def mRun:List (Int×Int×Int)->Nat->MSt->Option (MSt×Int×Int)
 |[],n,s=>some (s,n,0)
 |x::l,n,s=>(mOne s x.1 x.2.1 x.2.2).bind fun r=>if r.2≠0 then some (r.1,n,r.2) else mRun l (n+1) r.1
def spC(x:Int×Int×Int):List qV:=[iI x.1,iI x.2.1,iI x.2.2]
def ScrAt(W:qW)(F:Nat->Prop)(a:Option Addr)(l:List (Int×Int×Int)):Prop:= ∀j x,l[j]?=some x-> ∃g o,a=some ⟨g,o,none⟩/\g<W.heap.size/\ ¬F g/\ ∀i v,(spC x)[i]?=some v->W.cell? ⟨g,o+j*3+i,none⟩=some v
theorem jT{W:qW}{M:Nat}{F:Nat->Prop}{bs:List Nat}{s s':MSt}{n0 e0:Int}(h:MacAt W M F bs s)(l:List (Int×Int×Int))(a0:Option Addr)(c:Nat)(hl:l.length<=100000)(hR:ScrAt W F a0 l)(hs:mRun l 0 s=some (s',n0,e0)):
  qC 9 #[pP M,.slice a0 l.length c] W fun e w'=>e= .returned (.tuple #[iI n0,iI e0])/\MacD W M F bs s' w':=by
 have hM:=h.M_lt
 have HF:=Zh h.lt
 have HS:=Zh hs
 have H:=Zh (h.same (zaa _ _))
 have HR:=Zh hR
 clear h hs hR
 go_enter Tryz.func9,Tryz.ntmps9
 go_wp2_with fail
 go_loopw [13] (fun v13 wr=> ∃(j:Nat) (sj:MSt),v13=iI j/\j<=l.length/\MacD W M F bs sj wr/\mRun (l.drop j) j sj=some (s',n0,e0)) (fun v13 _=>l.length-(intOf v13).toNat)
 case atStart=>exact ⟨0,s,rfl,by omega,H.out,HS.out⟩
 case round=>
  obtain ⟨j,sj,rfl,hj,hm,xX⟩:=hrel
  by_cases zh:j<l.length
  ·obtain ⟨x,hx⟩: ∃x,l[j]?=some x:=⟨l[j],zaC zh⟩
   have Gz:(j:Int)<l.length:=by omega
   have Cb:IntKind.i64.wrap ((j:Int)+1)=(j:Int)+1:=aR Za Za
   obtain ⟨g,o,rfl,hg,DX,i'⟩:=HR.out j x hx
   have cg: ∀i v,(spC x)[i]?=some v->wr.cell? ⟨g,o+j*3+i,none⟩=some v:=fun i v hv=>(hm.kp.cell hg DX).trans (i' i v hv)
   have c0:wr.cell? ⟨g,o+j*3,none⟩=some (iI x.1):=cg 0 _ rfl
   have c1:wr.cell? ⟨g,o+j*3+1,none⟩=some (iI x.2.1):=cg 1 _ rfl
   have c2:wr.cell? ⟨g,o+j*3+2,none⟩=some (iI x.2.2):=cg 2 _ rfl
   rw [zaS zh,show l[j]=x from (List.getElem?_eq_some_iff.1 hx).2] at xX
   unfold mRun at xX
   cases ho:mOne sj x.1 x.2.1 x.2.2 with
   |none=>rw [ho] at xX;cases xX
   |some q=>
    rw [ho] at xX
    obtain ⟨s2,e2⟩:=q
    simp only [zaZ] at xX
    have CO:=Zh (fun W' (hb:Below wr.heap.size wr W')=>vu (hm.mac.below hb) x.1 x.2.1 x.2.2 ho)
    have HM:=Zh hm
    have Du:=Zh xX
    clear hm xX ho cg i'
    go_wp2_with fail
    refine (CO.out _ ZG).mono ?_
    rintro e w1 ⟨rfl,hD⟩
    have HD:=Zh (HM.out.next HF.out hM (hD.ahead HM.out.mac.lt HM.out.mac.M_lt ZG))
    clear hD CO c0 c1 c2
    by_cases he:e2=0
    ·have D5:(e2 !=0)=false:=by simpa using he
     have hs:=Du.out
     rw [if_neg (by simpa using he)] at hs
     have zY:=Zh hs
     clear hs he
     go_wp2_with fail
     exact ⟨⟨j+1,s2,by simp,by omega,HD.out,zY.out⟩,by simp [intOf];omega⟩
    ·have D5:(e2 !=0)=true:=by simpa using he
     have hs:=Du.out
     rw [if_pos (by simpa using he)] at hs
     have zY:=Zh (zae hs)
     clear hs he
     go_wp2_with fail
     (try simp only [Exit.inBlock,Exit.then]);refine zad (by simp [results,Tryz.results9,go_sem,↓IntWalk.iteOmega];try rfl) rfl ?_
     have e5:=zY.out
     injection e5 with e6 e7
     injection e7 with e8 e9
     exact ⟨by rw [<-e8,<-e9],e6 ▸ HD.out⟩
  ·have zO:j=l.length:=by omega
   subst zO
   rw [List.drop_length] at xX
   unfold mRun at xX
   have zY:=Zh (zae xX)
   have HM:=Zh hm
   have yp: ¬(l.length:Int)<l.length:=by omega
   clear hm xX
   go_wp2_with fail
   (try simp only [Exit.inBlock,Exit.then]);refine zad (by simp [results,Tryz.results9,go_sem,↓IntWalk.iteOmega];try rfl) rfl ?_
   have e5:=zY.out
   injection e5 with e6 e7
   injection e7 with e8 e9
   exact ⟨by rw [<-e8,<-e9],e6 ▸ HM.out⟩
theorem jU{W:qW}{M:Nat}{F:Nat->Prop}{bs:List Nat}{s s':MSt}{n0 e0:Int}(h:MacAt W M F bs s)(l:List (Int×Int×Int))(g c:Nat)(hl:l.length<=100000)(hg:g<W.heap.size)(DX: ¬F g)(hR:RowC W g (l.flatMap spC))(hs:mRun l 0 s=some (s',n0,e0)):
  qC 9 #[pP M,.slice (aA g) l.length c] W fun e w'=>e= .returned (.tuple #[iI n0,iI e0])/\MacD W M F bs s' w':=
 jT h l _ c hl (fun j x hx=>⟨g,0,rfl,hg,DX,fun i v hv=>by rw [zag];exact hR _ _ (fz spC 3 (fun _=>rfl) l j x hx i v hv)⟩) hs
theorem aU{α:Type}{l:List α}{n:Nat}{x y:α}(h:(l++[x])[n]?=some y):(n<l.length/\l[n]?=some y)\/(n=l.length/\y=x):=by
 rcases Nat.lt_trichotomy n l.length with hn|hn|hn
 ·rw [zah hn] at h
  exact .inl ⟨hn,h⟩
 ·subst hn
  rw [zai (zaq _)] at h
  simp at h
  exact .inr ⟨rfl,h.symm⟩
 ·rw [List.getElem?_eq_none Zk] at h
  cases h
theorem McX.push{W X W2:qW}{M B0 g cap:Nat}{tv bv:qV}{size taken:Int}{bytes:List Nat}{ts:List TD}{ks:List TK}{q:TK}{t:TD}(h:McX W M tv bv size taken bytes ts ks)
  (hm:MtX W ts.length q.b q.gs q.cv q.pv q.sc t) (hB: ∀k,mfoot M tv bv size taken bytes ts ks k->k<B0) (hq: ∀k,q.foot t k\/k=q.gs->B0<=k/\k<W.heap.size) (N5: ¬q.foot t q.gs)
  (hx:Kp (fun _=>False) W X) (xb:X.grownBy W2 tv.ownBlock) (hown:W2.ownsRow (M+1) 71 1 (.slice (aA g) (ks.length+1) cap) (ks.length+1) (ks.flatMap (fun q=>[pP q.b])++[pP q.b])) (xk:tv.ownBlock=some g\/g=X.heap.size):
  McX (W2.setCell ⟨M,0,none⟩ (.slice (aA g) (ks.length+1) cap)) M (.slice (aA g) (ks.length+1) cap) bv size taken bytes (ts++[t]) (ks++[q])/\
   Kp (foot M (mcC tv bv size taken) (mcR ks bytes)) W (W2.setCell ⟨M,0,none⟩ (.slice (aA g) (ks.length+1) cap))/\
   ∀k,foot M (mcC (.slice (aA g) (ks.length+1) cap) bv size taken) (mcR (ks++[q]) bytes) k->foot M (mcC tv bv size taken) (mcR ks bytes) k\/W.heap.size<=k:=by
 have Rz:M<B0:=hB M (.inl (.inl rfl))
 obtain ⟨h1,h2,h3⟩:=h.ob.put (r:=⟨0,71,1,ks.length,ks.flatMap (fun q=>[pP q.b])⟩) (by simp [mcR]) (by simp [mcC]) (W2:=W2) (v':= .slice (aA g) (ks.length+1) cap) (n':=ks.length+1) (xs':=ks.flatMap (fun q=>[pP q.b])++[pP q.b])
  ((hx.mono (fun _ _ e=>e.elim)).trans ((Kp.of_grown xb).mono (fun k _ e=>e.symm))) hown (fun k hk=>by
   obtain rfl:g=k:=by simpa [Value.ownBlock] using hk
   have:=hx.size
   rcases xk with e|e
   ·exact .inl e
   ·exact .inr Za)
 have er:(mcR ks bytes).map (fun p=>if p.ix=0 then {p with n:=ks.length+1,xs:=ks.flatMap (fun q=>[pP q.b])++[pP q.b]} else p)=mcR (ks++[q]) bytes:=by
  simp [mcR]
 have ec:(mcC tv bv size taken).setIfInBounds 0 (.slice (aA g) (ks.length+1) cap)=mcC (.slice (aA g) (ks.length+1) cap) bv size taken:=by simp [mcC]
 simp only at h1 h2 h3
 rw [er,ec] at h1 h3
 have Bu:=h.len
 have old: ∀{n:Nat} {p:TK} {u:TD},ks[n]?=some p->ts[n]?=some u-> ∀k,p.foot u k\/k=p.gs->k<B0:=fun {n p u} hp hu k hk=>hB k (.inr ⟨n,p,u,hp,hu,hk⟩)
 have nofM: ∀k,foot M (mcC tv bv size taken) (mcR ks bytes) k->k<B0:=fun k hk=>hB k (.inl hk)
 have Dg:MtX W ks.length q.b q.gs q.cv q.pv q.sc t:=by rw [Bu];exact hm
 refine ⟨⟨by simp [Bu],h1,fun n p u hp hu=>?_,fun n p u hp hu=>?_,fun n p u l r v hp hu hr hv hne b hb xA=>?_,fun n p u l r v hp hu hr hv=>?_,fun n p u hp hu=>?_⟩,h2,h3⟩
 ·rcases aU hp with ⟨hn,zq⟩|⟨rfl,rfl⟩
  ·rcases aU hu with ⟨yS,yJ⟩|⟨rfl,rfl⟩
   ·exact (h.th n p u zq yJ).kp h2 (fun k hk xZ=>(h.mp n p u zq yJ).1 k xZ hk) ((h.mp n p u zq yJ).2)
   ·omega
  ·rcases aU hu with ⟨yS,yJ⟩|⟨e,rfl⟩
   ·omega
   ·exact Dg.kp h2 (fun k hk xZ=>by have:=(hq k (.inl hk)).1;have:=nofM k xZ;omega) (fun xZ=>by have:=(hq _ (.inr rfl)).1;have:=nofM _ xZ;omega)
 ·rcases aU hp with ⟨hn,zq⟩|⟨rfl,rfl⟩
  ·rcases aU hu with ⟨yS,yJ⟩|⟨rfl,rfl⟩
   ·exact h.lo n p u zq yJ
   ·omega
  ·rcases aU hu with ⟨yS,yJ⟩|⟨e,rfl⟩
   ·omega
   ·have:=(hq p.b (.inl (.inl rfl))).1
    have:=(hq p.gs (.inr rfl)).1
    omega
 ·rcases aU hp with ⟨hn,zq⟩|⟨rfl,rfl⟩
  ·rcases aU hu with ⟨yS,yJ⟩|⟨rfl,rfl⟩
   ·rcases aU hr with ⟨hl,yh⟩|⟨rfl,rfl⟩
    ·rcases aU hv with ⟨yE,zm⟩|⟨rfl,rfl⟩
     ·exact h.ap n p u l r v zq yJ yh zm hne b hb xA
     ·omega
    ·rcases aU hv with ⟨yE,zm⟩|⟨e,rfl⟩
     ·omega
     ·have:=old zq yJ b (.inl hb)
      have:=(hq b (.inl xA)).1
      omega
   ·omega
  ·rcases aU hu with ⟨yS,yJ⟩|⟨e,rfl⟩
   ·omega
   ·rcases aU hr with ⟨hl,yh⟩|⟨rfl,rfl⟩
    ·rcases aU hv with ⟨yE,zm⟩|⟨rfl,rfl⟩
     ·have:=old yh zm b (.inl xA)
      have:=(hq b (.inl hb)).1
      omega
     ·omega
    ·omega
 ·intro hb
  rcases aU hp with ⟨hn,zq⟩|⟨rfl,rfl⟩
  ·rcases aU hu with ⟨yS,yJ⟩|⟨rfl,rfl⟩
   ·rcases aU hr with ⟨hl,yh⟩|⟨rfl,rfl⟩
    ·rcases aU hv with ⟨yE,zm⟩|⟨rfl,rfl⟩
     ·exact h.gp n p u l r v zq yJ yh zm hb
     ·omega
    ·have:=old zq yJ _ (.inl hb)
     have:=(hq _ (.inr rfl)).1
     omega
   ·omega
  ·rcases aU hu with ⟨yS,yJ⟩|⟨e,rfl⟩
   ·omega
   ·rcases aU hr with ⟨hl,yh⟩|⟨rfl,rfl⟩
    ·rcases aU hv with ⟨yE,zm⟩|⟨rfl,rfl⟩
     ·have:=old yh zm _ (.inr rfl)
      have:=(hq _ (.inl hb)).1
      omega
     ·omega
    ·exact N5 hb
 ·have key: ∀k,foot M (mcC (.slice (aA g) (ks.length+1) cap) bv size taken) (mcR (ks++[q]) bytes) k->foot M (mcC tv bv size taken) (mcR ks bytes) k\/W.heap.size<=k:=h3
  rcases aU hp with ⟨hn,zq⟩|⟨rfl,rfl⟩
  ·rcases aU hu with ⟨yS,yJ⟩|⟨rfl,rfl⟩
   ·have yV:=h.th n p u zq yJ
    refine ⟨fun b hb xA=>?_,fun hb=>?_⟩
    ·rcases key b hb with e|e
     ·exact (h.mp n p u zq yJ).1 b e xA
     ·have:=(yV.ob.foot_lt xA).2
      omega
    ·rcases key _ hb with e|e
     ·exact (h.mp n p u zq yJ).2 e
     ·have:=yV.sl
      omega
   ·omega
  ·rcases aU hu with ⟨yS,yJ⟩|⟨e,rfl⟩
   ·omega
   ·refine ⟨fun b hb xA=>?_,fun hb=>?_⟩
    ·have h5:=hq b (.inl xA)
     rcases key b hb with e|e
     ·have:=nofM b e
      omega
     ·omega
    ·have h5:=hq _ (.inr rfl)
     rcases key _ hb with e|e
     ·have:=nofM _ e
      omega
     ·omega
theorem pO(cv cv' sv pv:qV)(t:TD)(v:Ins):(thC (thF cv sv pv t)).setIfInBounds 0 cv'=thC (thF cv' sv pv {t with code:=t.code++[v]}):=by
 rw [eg]
 apply eT
 intro k hk
 unfold upd thF
 by_cases h:k=0
 ·subst h
  simp
 ·rw [if_neg h]
  repeat' split
  all_goals first|rfl|omega
theorem MtX.code1{W X W2:qW}{n b gs sc g cap:Nat}{cv pv:qV}{t:TD}{v:Ins}(h:MtX W n b gs cv pv sc t)(hx:Kp (fun _=>False) W X)(xb:X.grownBy W2 cv.ownBlock)(hown:W2.ownsRow (b+1) 83 7 (.slice (aA g) (t.code.length+1) cap) (t.code.length+1) (t.code.flatMap insC++insC v))(xk:cv.ownBlock=some g\/g=X.heap.size)
  (yY: ¬tfoot b gs sc cv pv t gs):
  MtX (W2.setCell ⟨b,0,none⟩ (.slice (aA g) (t.code.length+1) cap)) n b gs (.slice (aA g) (t.code.length+1) cap) pv sc {t with code:=t.code++[v]}/\Kp (tfoot b gs sc cv pv t) W (W2.setCell ⟨b,0,none⟩ (.slice (aA g) (t.code.length+1) cap))/\
   ∀k,tfoot b gs sc (.slice (aA g) (t.code.length+1) cap) pv {t with code:=t.code++[v]} k->tfoot b gs sc cv pv t k\/W.heap.size<=k:=by
 have hf:fld (thC (thF cv (.slice (aA gs) t.sites.length sc) pv t)) 0=cv:=bh _ 0 Za
 obtain ⟨h1,h2,h3⟩:=h.ob.put (r:=⟨0,83,7,t.code.length,t.code.flatMap insC⟩) (by simp [thR]) (by simp [dE]) (W2:=W2) (v':= .slice (aA g) (t.code.length+1) cap) (n':=t.code.length+1) (xs':=t.code.flatMap insC++insC v)
  ((hx.mono (fun _ _ e=>e.elim)).trans ((Kp.of_grown xb).mono (fun k _ e=>by rw [hf];exact e.symm))) hown (fun k hk=>by
   rw [hf]
   obtain rfl:g=k:=by simpa [Value.ownBlock] using hk
   have:=hx.size
   rcases xk with e|e
   ·exact .inl e
   ·exact .inr Za)
 have er:(thR t).map (fun q=>if q.ix=0 then {q with n:=t.code.length+1,xs:=t.code.flatMap insC++insC v} else q)=thR {t with code:=t.code++[v]}:=by
  simp [thR]
 simp only at h1 h2 h3
 rw [pO _ _ _ _ _ v,er] at h1 h3
 exact ⟨⟨h1,h.sr.kp h2 h.sl yY,by have:=h2.size;have:=h.sl;omega,h.sb⟩,h2,h3⟩
end Go.Proofs.YtjmfoeajhiimnaaGreatDoor
