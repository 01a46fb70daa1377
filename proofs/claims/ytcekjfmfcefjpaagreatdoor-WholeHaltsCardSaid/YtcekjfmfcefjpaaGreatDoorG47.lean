/- Walks. No condition. -/
import Derived.Test.YtcekjfmfcefjpaaGreatDoorG46
set_option maxRecDepth 100000
set_option maxHeartbeats 0
set_option linter.all false
namespace Go.Proofs.YtcekjfmfcefjpaaGreatDoor
open Go.RowKit Go.Sort
def mSom(n:Nat)(fail:Bool):Nat->MSt->Option (MSt×Int)
 |0,s=>some (s,0)
 |k+1,s=>s.ts[n]?.bind fun t=>
  if t.end_≠0 then some (s,0)
  else if s.taken<0 then none
  else if 65536<=s.taken then some (s,16)
  else (mStep {s with taken:=s.taken+1} n fail).bind fun s'=>mSom n fail k s'
def mRw:Nat->Nat->Bool->MSt->Option (MSt×Bool×Int)
 |0,_,g,s=>some (s,g,0)
 |k+1,n,g,s=>s.ts[n]?.bind fun t=>
  (mSom n false 1 s).bind fun r=>if r.2≠0 then some (r.1,g||decide (t.end_=0),r.2) else mRw k (n+1) (g||decide (t.end_=0)) r.1
def mAl:Nat->MSt->Option (MSt×Int)
 |0,s=>some (s,0)
 |k+1,s=>(mRw s.ts.length 0 false s).bind fun r=>if r.2.2≠0 then some (r.1,r.2.2) else if r.2.1 then mAl k r.1 else some (r.1,0)
theorem qu{W:qW}{M:Nat}{F:Nat->Prop}{bs:List Nat}{s:MSt}(h:MacAt W M F bs s)(n b:Nat)(t:TD)(fail:Bool)(hb:bs[n]?=some b)(ht:s.ts[n]?=some t)(he:t.end_≠0):
  qC 7 #[pP M,iI n,.bool fail] W fun e w'=>(∃x,e= .returned x)/\MacD W M F bs s w':=by
 obtain ⟨cv,pv,gs,sc,hx,IF,CN,D0,yQ,xU⟩:=h.th hb ht
 have xg:=hx.ob.lt
 have q39:W.cell? (aB b 39)=some (iI t.end_):=hx.cell 39 Za
 have B9:(t.end_ !=0)=true:=by simpa using he
 generalize t.end_=en at*
 have AT:=Zh (fun W' (yF:Below W.heap.size W W')=>(h.below yF).at_call hb ht)
 have H:=Zh h
 clear xU h hx CN yQ
 go_enter Tryz.func7,Tryz.ntmps7
 go_wp2_with fail
 refine (AT.out _ ZU).mono ?_
 rintro e w1 ⟨rfl,rfl⟩
 go_wp2_with fail
 exact ⟨rfl,(dD rfl (zab _ _) rfl).choose,(dD rfl (zab _ _) rfl).choose_spec,⟨_,rfl⟩,H.out.same (ab (zaa _ _) _)⟩
theorem jp{W:qW}{M:Nat}{F:Nat->Prop}{bs:List Nat}{s s':MSt}(h:MacAt W M F bs s)(n:Nat)(fail:Bool)(hs:mStep s n fail=some s'):
  qC 7 #[pP M,iI n,.bool fail] W fun e w'=>(∃x,e= .returned x)/\MacD W M F bs s' w':=by
 have hl:=h.bl
 unfold mStep at hs
 cases ht:s.ts[n]? with
 |none=>rw [ht] at hs;cases hs
 |some t=>
  rw [ht] at hs
  have hn:=(List.getElem?_eq_some_iff.1 ht).1
  obtain ⟨b,hb⟩: ∃b,bs[n]?=some b:=⟨bs[n],zaC Za⟩
  simp only [zaZ] at hs
  by_cases he:t.end_≠0
  ·rw [if_pos he] at hs
   obtain rfl:=zae hs
   exact qu h n b t fail hb ht he
  ·rw [if_neg he] at hs
   by_cases hp:t.st.pc<0
   ·rw [if_pos hp] at hs
    cases hs
   ·rw [if_neg hp] at hs
    cases hi:t.code[t.st.pc.toNat]? with
    |none=>rw [hi] at hs;cases hs
    |some i=>
     rw [hi] at hs
     simp only [zaZ] at hs
     cases hv:enc i with
     |none=>rw [hv] at hs;simp at hs
     |some v=>
      rw [hv] at hs
      simp only [Option.isSome_some,if_true] at hs
      cases hm:meB i.op
      ·rw [hm] at hs
       simp only [zaY,if_false] at hs
       cases h1:stopT t i with
       |none=>rw [h1] at hs;cases hs
       |some t1=>
        rw [h1] at hs
        obtain rfl:=zae hs
        exact qt h n b t t1 i fail hb ht Za t.st.pc.toNat Za hi v hv hm h1
      ·rw [hm] at hs
       simp only [if_true] at hs
       exact qw h n b t i fail hb ht Za t.st.pc.toNat Za hi v hv hm s' hs
theorem MacAt.tick{W:qW}{M:Nat}{F:Nat->Prop}{bs:List Nat}{s:MSt}(h:MacAt W M F bs s)(v:Int):MacAt (W.setCell ⟨M,3,none⟩ (iI v)) M F bs {s with taken:=v}/\Kp (fun k=>k=M) W (W.setCell ⟨M,3,none⟩ (iI v)):=by
 have hk:Kp (fun k=>k=M) W (W.setCell ⟨M,3,none⟩ (iI v)):=Kp.set W _ _ _
 obtain ⟨tv,bv,ks,zv,hm,hf⟩:=h.at_
 have hs: ∀r∈mcR ks s.bytes,r.ix≠3:=by simp [mcR]
 have ho:=hm.ob.set 3 (iI v) hs
 have ec:(mcC tv bv s.size s.taken).setIfInBounds 3 (iI v)=mcC tv bv s.size v:=by simp [mcC]
 have Gr: ∀k,foot M (mcC tv bv s.size v) (mcR ks s.bytes) k↔foot M (mcC tv bv s.size s.taken) (mcR ks s.bytes) k:=fun k=>by
  rw [<-ec]
  exact io hs
 rw [ec] at ho
 have Mu:foot M (mcC tv bv s.size s.taken) (mcR ks s.bytes) M:= .inl rfl
 refine ⟨⟨⟨h.ok.th,h.ok.n1,h.ok.n8,h.ok.bl,h.ok.sm,h.ok.sz⟩,fun k wT=>by have:=h.lt k wT;have:=hk.size;omega,tv,bv,ks,zv,⟨hm.len,ho,fun n q t hq ht=>?_,hm.lo,hm.ap,hm.gp,fun n q t hq ht=>?_⟩,fun k wT=>hf k ?_⟩,hk⟩
 ·exact (hm.th n q t hq ht).kp hk (fun k wT e=>(hm.mp n q t hq ht).1 k (e ▸ Mu) wT) (fun e=>(hm.mp n q t hq ht).2 (e ▸ Mu))
 ·exact ⟨fun b hb=>(hm.mp n q t hq ht).1 b ((Gr b).1 hb),fun hb=>(hm.mp n q t hq ht).2 ((Gr _).1 hb)⟩
 ·rcases wT with wT|wT
  ·exact .inl ((Gr k).1 wT)
  ·exact .inr wT
theorem MacAt.cell3{W:qW}{M:Nat}{F:Nat->Prop}{bs:List Nat}{s:MSt}(h:MacAt W M F bs s):W.cell? (aB M 3)=some (iI s.taken)/\(∀i,W.frozen? (aB M i)=false)/\W.cell? (aB M 2)=some (iI s.size)/\F M:=by
 obtain ⟨tv,bv,ks,zv,hm,hf⟩:=h.at_
 exact ⟨hm.cells 3,ai hm.ob.out,hm.cells 2,hf M (.inl (.inl rfl))⟩
theorem MacAt.end39{W:qW}{M n b:Nat}{F:Nat->Prop}{bs:List Nat}{s:MSt}{t:TD}(h:MacAt W M F bs s)(hb:bs[n]?=some b)(ht:s.ts[n]?=some t):W.cell? (aB b 39)=some (iI t.end_):=by
 obtain ⟨cv,pv,gs,sc,hx, -⟩:=h.th hb ht
 exact hx.cell 39 Za
theorem fT{W:qW}{M:Nat}{F:Nat->Prop}{bs:List Nat}{s s':MSt}{e0:Int}(h:MacAt W M F bs s)(n k:Nat)(hk:k<=65536)(fail:Bool)(hs:mSom n fail k s=some (s',e0))(hn:n<bs.length):
  qC 57 #[pP M,iI n,iI k,.bool fail] W fun e w'=>e= .returned (iI e0)/\MacD W M F bs s' w':=by
 have hM:=h.M_lt
 have HF:=Zh h.lt
 have HS:=Zh hs
 have H:=Zh (h.same (zaa _ _))
 clear h hs
 go_enter Tryz.func57,Tryz.ntmps57
 go_wp2_with fail
 go_loopw [10] (fun v10 wr=> ∃(j:Nat) (sj:MSt),v10=iI j/\j<=k/\MacD W M F bs sj wr/\mSom n fail (k-j) sj=some (s',e0)) (fun v10 _=>k-(intOf v10).toNat)
 case atStart=>exact ⟨0,s,rfl,by omega,H.out,HS.out⟩
 case round=>
  obtain ⟨j,sj,rfl,hj,hm,xQ⟩:=hrel
  by_cases Ab:j<k
  ·have hl:=hm.mac.bl
   obtain ⟨t,ht⟩: ∃t,sj.ts[n]?=some t:=⟨sj.ts[n]'Za,zaC _⟩
   obtain ⟨b,hb⟩: ∃b,bs[n]?=some b:=⟨bs[n],zaC hn⟩
   obtain ⟨g,c,q0,hc,hg,xd⟩:=hm.mac.row
   have q1:=xd n b hb
   have q39:=hm.mac.end39 hb ht
   obtain ⟨q3,qf, -,Mz⟩:=hm.mac.cell3
   have En:(n:Int)<bs.length:=by omega
   have JN:(j:Int)<k:=by omega
   have BX:IntKind.i64.wrap ((j:Int)+1)=(j:Int)+1:=a7 Za Za
   rw [show k-j=(k-(j+1))+1 by omega] at xQ
   unfold mSom at xQ
   rw [ht] at xQ
   simp only [zaZ] at xQ
   clear xd hl
   by_cases he:t.end_≠0
   ·rw [if_pos he] at xQ
    have yN:=zae xQ
    injection yN with h1 h2
    have H1:=Zh h1
    have H2:=Zh h2
    clear h1 h2
    have B9:(t.end_ !=0)=true:=by simpa using he
    have HM:=Zh hm
    clear hm xQ he
    go_wp2_with fail
    go_ret
    exact ⟨by rw [<-H2.out];rfl,H1.out ▸ HM.out⟩
   ·rw [if_neg he] at xQ
    have B9:(t.end_ !=0)=false:=by simpa using he
    by_cases h0:sj.taken<0
    ·rw [if_pos h0] at xQ
     cases xQ
    ·rw [if_neg h0] at xQ
     by_cases h6:65536<=sj.taken
     ·rw [if_pos h6] at xQ
      have yN:=zae xQ
      injection yN with h1 h2
      have H1:=Zh h1
      have H2:=Zh h2
      clear h1 h2
      have HM:=Zh hm
      clear hm xQ he
      go_wp2_with fail
      go_ret
      exact ⟨by rw [<-H2.out];rfl,H1.out ▸ HM.out⟩
     ·rw [if_neg h6] at xQ
      cases yB:mStep {sj with taken:=sj.taken+1} n fail with
      |none=>rw [yB] at xQ;cases xQ
      |some s2=>
       rw [yB] at xQ
       simp only [zaZ] at xQ
       have u':IntKind.i64.wrap (sj.taken+1)=sj.taken+1:=a7 Za Za
       obtain ⟨E6,DC⟩:=hm.mac.tick (sj.taken+1)
       have CS:=Zh (jp E6 n fail yB)
       have HM:=Zh hm
       have MU:=Zh DC
       have Du:=Zh xQ
       have HFM:=Zh Mz
       clear hm xQ he E6 DC yB Mz
       go_wp2_with fail
       refine CS.out.mono ?_
       rintro e w1 ⟨⟨x,rfl⟩,hD⟩
       have HD:=Zh hD
       clear hD CS
       go_wp2_with fail
       refine ⟨⟨j+1,s2,by simp,by omega,?_,Du.out⟩,by simp [intOf];omega⟩
       have hz:=MU.out.size
       refine HM.out.next HF.out hM ⟨HD.out.mac.wide (fun i hi=>hi.imp id (fun h=>?_)) (dk HM.out.mac.lt HM.out.mac.M_lt ?_),(MU.out.mono (fun k _ e=>e ▸ HFM.out)).trans HD.out.kp,HD.out.row.trans (zaH _ _ _ _ (fun e=>by have:=congrArg Addr.off e;simp at this))⟩
       ·simp [World.setCell] at h
        exact h
       ·exact zal hz HD.out.kp.size
  ·have zM:k=j:=by omega
   subst zM
   rw [Nat.sub_self] at xQ
   unfold mSom at xQ
   have yN:=zae xQ
   injection yN with h1 h2
   have H1:=Zh h1
   have H2:=Zh h2
   clear h1 h2
   have HM:=Zh hm
   have ym: ¬(k:Int)<k:=by omega
   clear hm xQ
   go_wp2_with fail
   go_ret
   exact ⟨by rw [<-H2.out];rfl,H1.out ▸ HM.out⟩
theorem yfe{W:qW}{M:Nat}{F:Nat->Prop}{bs:List Nat}{s s':MSt}{e0:Int}(h:MacAt W M F bs s)(k:Nat)(hk:k<=65536)(hs:mAl k s=some (s',e0)):
  qC 58 #[pP M,iI k] W fun e w'=>e= .returned (iI e0)/\MacD W M F bs s' w':=by
 have hM:=h.M_lt
 have HF:=Zh h.lt
 have HS:=Zh hs
 have H:=Zh (h.same (zaa _ _))
 have h8:=h.ok.n8
 have zZ:=Zh h.bl
 have hb8:bs.length<=8:=by have:=h.bl;omega
 clear h hs
 go_enter Tryz.func58,Tryz.ntmps58
 go_wp2_with fail
 go_loopw [10] (fun v10 wr=> ∃(j:Nat) (sj:MSt),v10=iI j/\j<=k/\MacD W M F bs sj wr/\mAl (k-j) sj=some (s',e0)) (fun v10 _=>k-(intOf v10).toNat)
 case atStart=>exact ⟨0,s,rfl,by omega,H.out,HS.out⟩
 case round=>
  obtain ⟨j,sj,rfl,hj,hm,xQ⟩:=hrel
  by_cases Ab:j<k
  ·have JN:(j:Int)<k:=by omega
   have BX:IntKind.i64.wrap ((j:Int)+1)=(j:Int)+1:=a7 Za Za
   rw [show k-j=(k-(j+1))+1 by omega] at xQ
   unfold mAl at xQ
   cases hr:mRw sj.ts.length 0 false sj with
   |none=>rw [hr] at xQ;cases xQ
   |some r=>
    rw [hr] at xQ
    simp only [zaZ] at xQ
    have xg:=hm.mac.bl
    rw [<-xg] at hr
    obtain ⟨g,c,q0,hc,hg, -⟩:=hm.mac.row
    have HM:=Zh hm
    have HR:=Zh hr
    have Du:=Zh xQ
    clear hm hr xQ xg
    go_wp2_with fail
    have KH:=Zh q0
    clear q0
    generalize wr=wy at*
    go_loopw [17,5] (fun v17 v5 wz=> ∃(i:Nat) (gb:Bool) (si:MSt),v17=iI i/\v5= .bool gb/\i<=bs.length/\MacD W M F bs si wz/\wz.cell? (aB M 0)=some (.slice (aA g) bs.length c)/\mRw (bs.length-i) i gb si=some r) (fun v17 _ _=>bs.length-(intOf v17).toNat)
    case atStart=>exact ⟨0,false,sj,rfl,rfl,by omega,HM.out,KH.out,HR.out⟩
    case round=>
     obtain ⟨i,gb,si,rfl,rfl,hi,hm,yC,Ah⟩:=hrel
     by_cases BZ:i<bs.length
     ·have JT:(i:Int)<bs.length:=by omega
      have Br:IntKind.i64.wrap ((i:Int)+1)=(i:Int)+1:=a7 Za Za
      have xg:=hm.mac.bl
      obtain ⟨t,ht⟩: ∃t,si.ts[i]?=some t:=⟨si.ts[i]'Za,zaC _⟩
      obtain ⟨b,hb⟩: ∃b,bs[i]?=some b:=⟨bs[i],zaC BZ⟩
      have qrow:wr.cell? (aB g i)=some (pP b):=by
       obtain ⟨g',c',q0', -, -,hr⟩:=hm.mac.row
       have e:=zae (q0'.symm.trans yC)
       injection e with e1 e2 e3
       injection e1 with e1
       injection e1 with e1 e4 e5
       exact e1 ▸ hr i b hb
      have q39:=hm.mac.end39 hb ht
      rw [show bs.length-i=(bs.length-(i+1))+1 by omega] at Ah
      unfold mRw at Ah
      rw [ht] at Ah
      simp only [zaZ] at Ah
      cases Ih:mSom i false 1 si with
      |none=>rw [Ih] at Ah;cases Ah
      |some q=>
       rw [Ih] at Ah
       simp only [zaZ] at Ah
       obtain ⟨s2,e2⟩:=q
       have CS:=Zh (fT hm.mac i 1 Za false Ih BZ)
       have HM:=Zh hm
       have IR:=Zh Ah
       have HQ:=Zh yC
       generalize hen:t.end_=en at*
       clear hm Ah yC Ih xg
       cases gb
       ·have DT: ∀(g':Bool),(false||decide (en=0))=g'->e2=0->mRw (bs.length-(i+1)) (i+1) g' s2=some r:=fun g' hg he=>by
         have:=IR.out
         rw [if_neg (by simpa using he),hg] at this
         exact this
        have xw:e2≠0->r.1=s2/\r.2.2=e2:=fun he=>by
         have:=IR.out
         rw [if_pos (by simpa using he)] at this
         obtain rfl:=zae this
         exact ⟨rfl,rfl⟩
        have KJ:=Zh DT
        have za:=Zh xw
        clear DT xw
        go_wp2_with fail
        refine CS.out.mono ?_
        rintro e w1 ⟨rfl,hD⟩
        have HD:=Zh (HM.out.next HF.out hM hD)
        have KG:=Zh (hD.row.trans HQ.out)
        clear hD CS q39 qrow
        by_cases he:e2=0
        ·have B9:(e2 !=0)=false:=by simpa using he
         have hn:=KJ.out (en==0) (by simp [Bool.beq_eq_decide_eq]) he
         have HN:=Zh hn
         clear hn he
         go_wp2_with fail
         exact ⟨⟨i+1,(en==0),s2,by simp,rfl,by omega,HD.out,KG.out,HN.out⟩,by simp [intOf];omega⟩
        ·have B9:(e2 !=0)=true:=by simpa using he
         obtain ⟨h1,h2⟩:=za.out he
         have hs:=Du.out
         rw [h2,if_pos he,h1] at hs
         have zT:=Zh (zae hs)
         clear h1 h2 hs he
         go_wp2_with fail
         go_ret
         have e5:=zT.out
         injection e5 with e6 e7
         exact ⟨by rw [<-e7];rfl,e6 ▸ HD.out⟩
       ·have DT: ∀(g':Bool),(true||decide (en=0))=g'->e2=0->mRw (bs.length-(i+1)) (i+1) g' s2=some r:=fun g' hg he=>by
         have:=IR.out
         rw [if_neg (by simpa using he),hg] at this
         exact this
        have xw:e2≠0->r.1=s2/\r.2.2=e2:=fun he=>by
         have:=IR.out
         rw [if_pos (by simpa using he)] at this
         obtain rfl:=zae this
         exact ⟨rfl,rfl⟩
        have KJ:=Zh DT
        have za:=Zh xw
        clear DT xw
        go_wp2_with fail
        refine CS.out.mono ?_
        rintro e w1 ⟨rfl,hD⟩
        have HD:=Zh (HM.out.next HF.out hM hD)
        have KG:=Zh (hD.row.trans HQ.out)
        clear hD CS q39 qrow
        by_cases he:e2=0
        ·have B9:(e2 !=0)=false:=by simpa using he
         have hn:=KJ.out true Zi he
         have HN:=Zh hn
         clear hn he
         go_wp2_with fail
         exact ⟨⟨i+1,true,s2,by simp,rfl,by omega,HD.out,KG.out,HN.out⟩,by simp [intOf];omega⟩
        ·have B9:(e2 !=0)=true:=by simpa using he
         obtain ⟨h1,h2⟩:=za.out he
         have hs:=Du.out
         rw [h2,if_pos he,h1] at hs
         have zT:=Zh (zae hs)
         clear h1 h2 hs he
         go_wp2_with fail
         go_ret
         have e5:=zT.out
         injection e5 with e6 e7
         exact ⟨by rw [<-e7];rfl,e6 ▸ HD.out⟩
     ·have Gm:i=bs.length:=by omega
      have JT: ¬(i:Int)<bs.length:=by omega
      have Be:some (si,gb,(0:Int))=some r:=by
       rw [show bs.length-i=0 by omega] at Ah
       unfold mRw at Ah
       exact Ah
      have hs:=Du.out
      obtain rfl:=zae Be
      rw [if_neg Zi] at hs
      have HM:=Zh hm
      have zT:=Zh hs
      clear hm Ah yC Be hs Gm Du HR
      cases gb
      ·go_wp2_with fail
       go_ret
       have e5:=zT.out
       rw [if_neg Zi] at e5
       have e5:=zae e5
       injection e5 with e6 e7
       exact ⟨by rw [<-e7];rfl,e6 ▸ HM.out⟩
      ·go_wp2_with fail
       have e5:=zT.out
       rw [if_pos rfl] at e5
       exact ⟨⟨j+1,si,by simp,by omega,HM.out,e5⟩,by simp [intOf];omega⟩
  ·have zM:k=j:=by omega
   subst zM
   rw [Nat.sub_self] at xQ
   unfold mAl at xQ
   have yN:=zae xQ
   injection yN with h1 h2
   have H1:=Zh h1
   have H2:=Zh h2
   have HM:=Zh hm
   have ym: ¬(k:Int)<k:=by omega
   clear hm xQ h1 h2
   go_wp2_with fail
   go_ret
   exact ⟨by rw [<-H2.out];rfl,H1.out ▸ HM.out⟩
def mOne(s:MSt)(a b c:Int):Option (MSt×Int):=
 if a=1 then (if 0<=b/\b<s.ts.length/\0<=c/\c<=65536 then mSom b.toNat false c.toNat s else none)
 else if a=2 then (if 0<=b/\b<s.ts.length then mSom b.toNat true 1 s else none)
 else if a=3 then (if 0<=b/\b<=65536 then mAl b.toNat s else none)
 else none
theorem uN{W:qW}{M:Nat}{F:Nat->Prop}{bs:List Nat}{s s':MSt}{e0:Int}(h:MacAt W M F bs s)(k:Nat)(hk:k<=65536)(c:Int)(hs:mAl k s=some (s',e0)):
  qC 24 #[pP M,.agg #[iI 3,iI k,iI c]] W fun e w'=>e= .returned (iI e0)/\MacD W M F bs s' w':=by
 have CA:=Zh (fun W' (hb:Below W.heap.size W W')=>yfe (h.below hb) k hk hs)
 have HL:=Zh h.lt
 have hM:=h.M_lt
 have k0:(0:Int)<=k:=by omega
 have k1: ¬(k:Int)<0:=by omega
 have k2: ¬(65536:Int)<k:=by omega
 clear h hs
 go_enter Tryz.func24,Tryz.ntmps24
 go_wp2_with fail
 refine (CA.out _ ZU).mono ?_
 rintro e w1 ⟨rfl,hD⟩
 have HD:=Zh (hD.ahead HL.out hM ZU)
 clear hD CA
 go_wp2_with fail
 go_ret
 exact ⟨rfl,HD.out⟩
theorem uJ{W:qW}{M:Nat}{F:Nat->Prop}{bs:List Nat}{s s':MSt}{e0:Int}(h:MacAt W M F bs s)(n k:Nat)(hk:k<=65536)(hn:n<bs.length)(hs:mSom n false k s=some (s',e0)):
  qC 24 #[pP M,.agg #[iI 1,iI n,iI k]] W fun e w'=>e= .returned (iI e0)/\MacD W M F bs s' w':=by
 have CA:=Zh (fun W' (hb:Below W.heap.size W W')=>fT (h.below hb) n k hk false hs hn)
 have hl:=h.bl
 have AT:=Zh (fun W' (hb:Below W.heap.size W W')=>(h.below hb).at_call (n:=n) (zaC hn) (zaC (show n<s.ts.length by omega)))
 have HL:=Zh h.lt
 have hM:=h.M_lt
 have k0:(0:Int)<=k:=by omega
 have k1: ¬(k:Int)<0:=by omega
 have k2: ¬(65536:Int)<k:=by omega
 clear h hs hl
 go_enter Tryz.func24,Tryz.ntmps24
 go_wp2_with fail
 refine (AT.out _ ZU).mono ?_
 rintro e w1 ⟨rfl,rfl⟩
 go_wp2_with fail
 refine (CA.out _ ZU).mono ?_
 rintro e w1 ⟨rfl,hD⟩
 have HD:=Zh (hD.ahead HL.out hM ZU)
 clear hD CA
 go_wp2_with fail
 go_ret
 exact ⟨rfl,HD.out⟩
theorem uL{W:qW}{M:Nat}{F:Nat->Prop}{bs:List Nat}{s s':MSt}{e0:Int}(h:MacAt W M F bs s)(n:Nat)(c:Int)(hn:n<bs.length)(hs:mSom n true 1 s=some (s',e0)):
  qC 24 #[pP M,.agg #[iI 2,iI n,iI c]] W fun e w'=>e= .returned (iI e0)/\MacD W M F bs s' w':=by
 have CA:=Zh (fun W' (hb:Below W.heap.size W W')=>fT (h.below hb) n 1 Za true hs hn)
 have hl:=h.bl
 have AT:=Zh (fun W' (hb:Below W.heap.size W W')=>(h.below hb).at_call (n:=n) (zaC hn) (zaC (show n<s.ts.length by omega)))
 have HL:=Zh h.lt
 have hM:=h.M_lt
 clear h hs hl
 go_enter Tryz.func24,Tryz.ntmps24
 go_wp2_with fail
 refine (AT.out _ ZU).mono ?_
 rintro e w1 ⟨rfl,rfl⟩
 go_wp2_with fail
 refine (CA.out _ ZU).mono ?_
 rintro e w1 ⟨rfl,hD⟩
 have HD:=Zh (hD.ahead HL.out hM ZU)
 clear hD CA
 go_wp2_with fail
 go_ret
 exact ⟨rfl,HD.out⟩
theorem uK{W:qW}{M:Nat}{F:Nat->Prop}{bs:List Nat}{s s':MSt}{e0:Int}(h:MacAt W M F bs s)(a b c:Int)(hs:mOne s a b c=some (s',e0)):
  qC 24 #[pP M,.agg #[iI a,iI b,iI c]] W fun e w'=>e= .returned (iI e0)/\MacD W M F bs s' w':=by
 have hl:=h.bl
 unfold mOne at hs
 by_cases h1:a=1
 ·rw [if_pos h1] at hs
  by_cases h2:0<=b/\b<s.ts.length/\0<=c/\c<=65536
  ·rw [if_pos h2] at hs
   have:=uJ h b.toNat c.toNat Za Za hs
   rwa [<-h1,show ((b.toNat:Nat):Int)=b by omega,show ((c.toNat:Nat):Int)=c by omega] at this
  ·rw [if_neg h2] at hs
   cases hs
 ·rw [if_neg h1] at hs
  by_cases h3:a=2
  ·rw [if_pos h3] at hs
   by_cases h2:0<=b/\b<s.ts.length
   ·rw [if_pos h2] at hs
    have:=uL h b.toNat c Za hs
    rwa [<-h3,show ((b.toNat:Nat):Int)=b by omega] at this
   ·rw [if_neg h2] at hs
    cases hs
  ·rw [if_neg h3] at hs
   by_cases h4:a=3
   ·rw [if_pos h4] at hs
    by_cases h2:0<=b/\b<=65536
    ·rw [if_pos h2] at hs
     have:=uN h b.toNat Za c hs
     rwa [<-h4,show ((b.toNat:Nat):Int)=b by omega] at this
    ·rw [if_neg h2] at hs
     cases hs
   ·rw [if_neg h4] at hs
    cases hs
def mRun:List (Int×Int×Int)->Nat->MSt->Option (MSt×Int×Int)
 |[],n,s=>some (s,n,0)
 |x::l,n,s=>(mOne s x.1 x.2.1 x.2.2).bind fun r=>if r.2≠0 then some (r.1,n,r.2) else mRun l (n+1) r.1
def spC(x:Int×Int×Int):List qV:=[iI x.1,iI x.2.1,iI x.2.2]
theorem jM{W:qW}{M:Nat}{F:Nat->Prop}{bs:List Nat}{s s':MSt}{n0 e0:Int}(h:MacAt W M F bs s)(l:List (Int×Int×Int))(g c:Nat)(hl:l.length<=100000)(hg:g<W.heap.size)(D0: ¬F g)(hR:RowC W g (l.flatMap spC))(hs:mRun l 0 s=some (s',n0,e0)):
  qC 8 #[pP M,.slice (aA g) l.length c] W fun e w'=>e= .returned (.tuple #[iI n0,iI e0])/\MacD W M F bs s' w':=by
 have hM:=h.M_lt
 have HF:=Zh h.lt
 have HS:=Zh hs
 have H:=Zh (h.same (zaa _ _))
 have HR:=Zh hR
 clear h hs hR
 go_enter Tryz.func8,Tryz.ntmps8
 go_wp2_with fail
 go_loopw [13] (fun v13 wr=> ∃(j:Nat) (sj:MSt),v13=iI j/\j<=l.length/\MacD W M F bs sj wr/\mRun (l.drop j) j sj=some (s',n0,e0)) (fun v13 _=>l.length-(intOf v13).toNat)
 case atStart=>exact ⟨0,s,rfl,by omega,H.out,HS.out⟩
 case round=>
  obtain ⟨j,sj,rfl,hj,hm,xQ⟩:=hrel
  by_cases yL:j<l.length
  ·obtain ⟨x,hx⟩: ∃x,l[j]?=some x:=⟨l[j],zaC yL⟩
   have Gj:(j:Int)<l.length:=by omega
   have BX:IntKind.i64.wrap ((j:Int)+1)=(j:Int)+1:=a7 Za Za
   have cg: ∀i v,(spC x)[i]?=some v->wr.cell? ⟨g,j*3+i,none⟩=some v:=fun i v hv=>(hm.kp.cell hg D0).trans (HR.out _ _ (fx spC 3 (fun _=>rfl) l j x hx i v hv))
   have c0:wr.cell? ⟨g,j*3,none⟩=some (iI x.1):=cg 0 _ rfl
   have c1:wr.cell? ⟨g,j*3+1,none⟩=some (iI x.2.1):=cg 1 _ rfl
   have c2:wr.cell? ⟨g,j*3+2,none⟩=some (iI x.2.2):=cg 2 _ rfl
   rw [zaS yL,show l[j]=x from (List.getElem?_eq_some_iff.1 hx).2] at xQ
   unfold mRun at xQ
   cases ho:mOne sj x.1 x.2.1 x.2.2 with
   |none=>rw [ho] at xQ;cases xQ
   |some q=>
    rw [ho] at xQ
    obtain ⟨s2,e2⟩:=q
    simp only [zaZ] at xQ
    have CO:=Zh (fun W' (hb:Below wr.heap.size wr W')=>uK (hm.mac.below hb) x.1 x.2.1 x.2.2 ho)
    have HM:=Zh hm
    have Du:=Zh xQ
    clear hm xQ ho cg
    go_wp2_with fail
    refine (CO.out _ ZU).mono ?_
    rintro e w1 ⟨rfl,hD⟩
    have HD:=Zh (HM.out.next HF.out hM (hD.ahead HM.out.mac.lt HM.out.mac.M_lt ZU))
    clear hD CO c0 c1 c2
    by_cases he:e2=0
    ·have B9:(e2 !=0)=false:=by simpa using he
     have hs:=Du.out
     rw [if_neg (by simpa using he)] at hs
     have zT:=Zh hs
     clear hs he
     go_wp2_with fail
     exact ⟨⟨j+1,s2,by simp,by omega,HD.out,zT.out⟩,by simp [intOf];omega⟩
    ·have B9:(e2 !=0)=true:=by simpa using he
     have hs:=Du.out
     rw [if_pos (by simpa using he)] at hs
     have zT:=Zh (zae hs)
     clear hs he
     go_wp2_with fail
     (try simp only [Exit.inBlock,Exit.then]);refine zad (by simp [results,Tryz.results8,go_sem,↓IntWalk.iteOmega];try rfl) rfl ?_
     have e5:=zT.out
     injection e5 with e6 e7
     injection e7 with e8 e9
     exact ⟨by rw [<-e8,<-e9],e6 ▸ HD.out⟩
  ·have zM:j=l.length:=by omega
   subst zM
   rw [List.drop_length] at xQ
   unfold mRun at xQ
   have zT:=Zh (zae xQ)
   have HM:=Zh hm
   have ym: ¬(l.length:Int)<l.length:=by omega
   clear hm xQ
   go_wp2_with fail
   (try simp only [Exit.inBlock,Exit.then]);refine zad (by simp [results,Tryz.results8,go_sem,↓IntWalk.iteOmega];try rfl) rfl ?_
   have e5:=zT.out
   injection e5 with e6 e7
   injection e7 with e8 e9
   exact ⟨by rw [<-e8,<-e9],e6 ▸ HM.out⟩
theorem aS{α:Type}{l:List α}{n:Nat}{x y:α}(h:(l++[x])[n]?=some y):(n<l.length/\l[n]?=some y)\/(n=l.length/\y=x):=by
 rcases Nat.lt_trichotomy n l.length with hn|hn|hn
 ·rw [zah hn] at h
  exact .inl ⟨hn,h⟩
 ·subst hn
  rw [zai (zaq _)] at h
  simp at h
  exact .inr ⟨rfl,h.symm⟩
 ·rw [List.getElem?_eq_none Zk] at h
  cases h
theorem McX.push{W X W2:qW}{M B0 g cap:Nat}{tv bv:qV}{size taken:Int}{bytes:List Nat}{ts:List TD}{ks:List TK}{q:TK}{t:TD}(h:McX W M tv bv size taken bytes ts ks)
  (hm:MtX W ts.length q.b q.gs q.cv q.pv q.sc t) (hB: ∀k,mfoot M tv bv size taken bytes ts ks k->k<B0) (hq: ∀k,q.foot t k\/k=q.gs->B0<=k/\k<W.heap.size) (ND: ¬q.foot t q.gs)
  (hx:Kp (fun _=>False) W X) (wW:X.grownBy W2 tv.ownBlock) (hown:W2.ownsRow (M+1) 74 1 (.slice (aA g) (ks.length+1) cap) (ks.length+1) (ks.flatMap (fun q=>[pP q.b])++[pP q.b])) (xb:tv.ownBlock=some g\/g=X.heap.size):
  McX (W2.setCell ⟨M,0,none⟩ (.slice (aA g) (ks.length+1) cap)) M (.slice (aA g) (ks.length+1) cap) bv size taken bytes (ts++[t]) (ks++[q])/\
   Kp (foot M (mcC tv bv size taken) (mcR ks bytes)) W (W2.setCell ⟨M,0,none⟩ (.slice (aA g) (ks.length+1) cap))/\
   ∀k,foot M (mcC (.slice (aA g) (ks.length+1) cap) bv size taken) (mcR (ks++[q]) bytes) k->foot M (mcC tv bv size taken) (mcR ks bytes) k\/W.heap.size<=k:=by
 have hMB:M<B0:=hB M (.inl (.inl rfl))
 obtain ⟨h1,h2,h3⟩:=h.ob.put (r:=⟨0,74,1,ks.length,ks.flatMap (fun q=>[pP q.b])⟩) (by simp [mcR]) (by simp [mcC]) (W2:=W2) (v':= .slice (aA g) (ks.length+1) cap) (n':=ks.length+1) (xs':=ks.flatMap (fun q=>[pP q.b])++[pP q.b])
  ((hx.mono (fun _ _ e=>e.elim)).trans ((Kp.of_grown wW).mono (fun k _ e=>e.symm))) hown (fun k hk=>by
   obtain rfl:g=k:=by simpa [Value.ownBlock] using hk
   have:=hx.size
   rcases xb with e|e
   ·exact .inl e
   ·exact .inr Za)
 have er:(mcR ks bytes).map (fun p=>if p.ix=0 then {p with n:=ks.length+1,xs:=ks.flatMap (fun q=>[pP q.b])++[pP q.b]} else p)=mcR (ks++[q]) bytes:=by
  simp [mcR]
 have ec:(mcC tv bv size taken).setIfInBounds 0 (.slice (aA g) (ks.length+1) cap)=mcC (.slice (aA g) (ks.length+1) cap) bv size taken:=by simp [mcC]
 simp only at h1 h2 h3
 rw [er,ec] at h1 h3
 have Bo:=h.len
 have old: ∀{n:Nat} {p:TK} {u:TD},ks[n]?=some p->ts[n]?=some u-> ∀k,p.foot u k\/k=p.gs->k<B0:=fun {n p u} hp hu k hk=>hB k (.inr ⟨n,p,u,hp,hu,hk⟩)
 have nofM: ∀k,foot M (mcC tv bv size taken) (mcR ks bytes) k->k<B0:=fun k hk=>hB k (.inl hk)
 have BQ:MtX W ks.length q.b q.gs q.cv q.pv q.sc t:=by rw [Bo];exact hm
 refine ⟨⟨by simp [Bo],h1,fun n p u hp hu=>?_,fun n p u hp hu=>?_,fun n p u l r v hp hu hr hv hne b hb xr=>?_,fun n p u l r v hp hu hr hv=>?_,fun n p u hp hu=>?_⟩,h2,h3⟩
 ·rcases aS hp with ⟨hn,zh⟩|⟨rfl,rfl⟩
  ·rcases aS hu with ⟨yO,yD⟩|⟨rfl,rfl⟩
   ·exact (h.th n p u zh yD).kp h2 (fun k hk xT=>(h.mp n p u zh yD).1 k xT hk) ((h.mp n p u zh yD).2)
   ·omega
  ·rcases aS hu with ⟨yO,yD⟩|⟨e,rfl⟩
   ·omega
   ·exact BQ.kp h2 (fun k hk xT=>by have:=(hq k (.inl hk)).1;have:=nofM k xT;omega) (fun xT=>by have:=(hq _ (.inr rfl)).1;have:=nofM _ xT;omega)
 ·rcases aS hp with ⟨hn,zh⟩|⟨rfl,rfl⟩
  ·rcases aS hu with ⟨yO,yD⟩|⟨rfl,rfl⟩
   ·exact h.lo n p u zh yD
   ·omega
  ·rcases aS hu with ⟨yO,yD⟩|⟨e,rfl⟩
   ·omega
   ·have:=(hq p.b (.inl (.inl rfl))).1
    have:=(hq p.gs (.inr rfl)).1
    omega
 ·rcases aS hp with ⟨hn,zh⟩|⟨rfl,rfl⟩
  ·rcases aS hu with ⟨yO,yD⟩|⟨rfl,rfl⟩
   ·rcases aS hr with ⟨hl,yh⟩|⟨rfl,rfl⟩
    ·rcases aS hv with ⟨yy,zc⟩|⟨rfl,rfl⟩
     ·exact h.ap n p u l r v zh yD yh zc hne b hb xr
     ·omega
    ·rcases aS hv with ⟨yy,zc⟩|⟨e,rfl⟩
     ·omega
     ·have:=old zh yD b (.inl hb)
      have:=(hq b (.inl xr)).1
      omega
   ·omega
  ·rcases aS hu with ⟨yO,yD⟩|⟨e,rfl⟩
   ·omega
   ·rcases aS hr with ⟨hl,yh⟩|⟨rfl,rfl⟩
    ·rcases aS hv with ⟨yy,zc⟩|⟨rfl,rfl⟩
     ·have:=old yh zc b (.inl xr)
      have:=(hq b (.inl hb)).1
      omega
     ·omega
    ·omega
 ·intro hb
  rcases aS hp with ⟨hn,zh⟩|⟨rfl,rfl⟩
  ·rcases aS hu with ⟨yO,yD⟩|⟨rfl,rfl⟩
   ·rcases aS hr with ⟨hl,yh⟩|⟨rfl,rfl⟩
    ·rcases aS hv with ⟨yy,zc⟩|⟨rfl,rfl⟩
     ·exact h.gp n p u l r v zh yD yh zc hb
     ·omega
    ·have:=old zh yD _ (.inl hb)
     have:=(hq _ (.inr rfl)).1
     omega
   ·omega
  ·rcases aS hu with ⟨yO,yD⟩|⟨e,rfl⟩
   ·omega
   ·rcases aS hr with ⟨hl,yh⟩|⟨rfl,rfl⟩
    ·rcases aS hv with ⟨yy,zc⟩|⟨rfl,rfl⟩
     ·have:=old yh zc _ (.inr rfl)
      have:=(hq _ (.inl hb)).1
      omega
     ·omega
    ·exact ND hb
 ·have key: ∀k,foot M (mcC (.slice (aA g) (ks.length+1) cap) bv size taken) (mcR (ks++[q]) bytes) k->foot M (mcC tv bv size taken) (mcR ks bytes) k\/W.heap.size<=k:=h3
  rcases aS hp with ⟨hn,zh⟩|⟨rfl,rfl⟩
  ·rcases aS hu with ⟨yO,yD⟩|⟨rfl,rfl⟩
   ·have yb:=h.th n p u zh yD
    refine ⟨fun b hb xr=>?_,fun hb=>?_⟩
    ·rcases key b hb with e|e
     ·exact (h.mp n p u zh yD).1 b e xr
     ·have:=(yb.ob.foot_lt xr).2
      omega
    ·rcases key _ hb with e|e
     ·exact (h.mp n p u zh yD).2 e
     ·have:=yb.sl
      omega
   ·omega
  ·rcases aS hu with ⟨yO,yD⟩|⟨e,rfl⟩
   ·omega
   ·refine ⟨fun b hb xr=>?_,fun hb=>?_⟩
    ·have h5:=hq b (.inl xr)
     rcases key b hb with e|e
     ·have:=nofM b e
      omega
     ·omega
    ·have h5:=hq _ (.inr rfl)
     rcases key _ hb with e|e
     ·have:=nofM _ e
      omega
     ·omega
theorem py(cv cv' sv pv:qV)(t:TD)(v:Ins):(thC (thF cv sv pv t)).setIfInBounds 0 cv'=thC (thF cv' sv pv {t with code:=t.code++[v]}):=by
 rw [dZ]
 apply eM
 intro k hk
 unfold upd thF
 by_cases h:k=0
 ·subst h
  simp
 ·rw [if_neg h]
  repeat' split
  all_goals first|rfl|omega
theorem MtX.code1{W X W2:qW}{n b gs sc g cap:Nat}{cv pv:qV}{t:TD}{v:Ins}(h:MtX W n b gs cv pv sc t)(hx:Kp (fun _=>False) W X)(wW:X.grownBy W2 cv.ownBlock)(hown:W2.ownsRow (b+1) 85 7 (.slice (aA g) (t.code.length+1) cap) (t.code.length+1) (t.code.flatMap insC++insC v))(xb:cv.ownBlock=some g\/g=X.heap.size)
  (yQ: ¬tfoot b gs sc cv pv t gs):
  MtX (W2.setCell ⟨b,0,none⟩ (.slice (aA g) (t.code.length+1) cap)) n b gs (.slice (aA g) (t.code.length+1) cap) pv sc {t with code:=t.code++[v]}/\Kp (tfoot b gs sc cv pv t) W (W2.setCell ⟨b,0,none⟩ (.slice (aA g) (t.code.length+1) cap))/\
   ∀k,tfoot b gs sc (.slice (aA g) (t.code.length+1) cap) pv {t with code:=t.code++[v]} k->tfoot b gs sc cv pv t k\/W.heap.size<=k:=by
 have hf:fld (thC (thF cv (.slice (aA gs) t.sites.length sc) pv t)) 0=cv:=a9 _ 0 Za
 obtain ⟨h1,h2,h3⟩:=h.ob.put (r:=⟨0,85,7,t.code.length,t.code.flatMap insC⟩) (by simp [thR]) (by simp [dB]) (W2:=W2) (v':= .slice (aA g) (t.code.length+1) cap) (n':=t.code.length+1) (xs':=t.code.flatMap insC++insC v)
  ((hx.mono (fun _ _ e=>e.elim)).trans ((Kp.of_grown wW).mono (fun k _ e=>by rw [hf];exact e.symm))) hown (fun k hk=>by
   rw [hf]
   obtain rfl:g=k:=by simpa [Value.ownBlock] using hk
   have:=hx.size
   rcases xb with e|e
   ·exact .inl e
   ·exact .inr Za)
 have er:(thR t).map (fun q=>if q.ix=0 then {q with n:=t.code.length+1,xs:=t.code.flatMap insC++insC v} else q)=thR {t with code:=t.code++[v]}:=by
  simp [thR]
 simp only at h1 h2 h3
 rw [py _ _ _ _ _ v,er] at h1 h3
 exact ⟨⟨h1,h.sr.kp h2 h.sl yQ,by have:=h2.size;have:=h.sl;omega,h.sb⟩,h2,h3⟩
end Go.Proofs.YtcekjfmfcefjpaaGreatDoor
