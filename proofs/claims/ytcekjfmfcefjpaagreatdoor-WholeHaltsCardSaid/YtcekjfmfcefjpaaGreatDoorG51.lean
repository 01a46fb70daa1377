/- Walks. No condition. -/
import Derived.Test.YtcekjfmfcefjpaaGreatDoorG50
set_option maxRecDepth 100000
set_option maxHeartbeats 0
set_option linter.all false
namespace Go.Proofs.YtcekjfmfcefjpaaGreatDoor
open Go.RowKit Go.Sort
theorem yfd{a b:Bool}(h:(a&&b)=true):a=true:=by
 cases a
 ·cases h
 ·rfl
theorem yfc{a b:Bool}(h:(a&&b)=true):b=true:=by
 cases a
 ·cases h
 ·exact h
theorem ii{c th:Nat}(C:HlC c th){ms:Nat->Nat}{s:MSt}(h:HlI c th ms s){n:Nat}(hn:n<th)(h0:0<=s.taken)(h1:s.taken<65536)(k:Nat)(g:Bool):
  ∃s' ms' b,mRw (k+1) n g s=mRw k (n+1) (g||b) s'/\HlI c th ms' s'/\((b=false/\s'=s/\ms'=ms/\ ∃t,s.ts[n]?=some t/\t.end_=1)\/(b=true/\s'.taken=s.taken+1/\ms' n+1<=ms n/\ ∀k,k≠n->k<th->ms' k+ms' n+1<=ms k+ms n)):=by
 obtain ⟨s',ms',hS,hI,hr⟩:=ybV C h hn h0 h1
 obtain ⟨κ,hk,zP⟩:=h.at_ n hn
 generalize unT ((hlR c th).getD n ([],[])) κ=t at zP
 refine ⟨s',ms',decide (t.end_=0),?_,hI,?_⟩
 ·conv=>lhs;unfold mRw
  rw [zP,zaZ,hS,zaZ,if_neg (fun h=>h rfl)]
 ·rcases hr t zP with ⟨a,b,d⟩|⟨a,b⟩
  ·exact .inl ⟨zax Za,b,d,t,zP,a⟩
  ·exact .inr ⟨zaw a,b⟩
def smM(th:Nat)(ms:Nat->Nat):Nat:=if th=1 then ms 0 else ms 0+ms 1
theorem ybW{c th:Nat}(yb:th=1\/th=2)(C:HlC c th){ms:Nat->Nat}{s:MSt}(h:HlI c th ms s)(h0:0<=s.taken)(h1:s.taken+2<65536):
  ∃s' ms' g,mRw th 0 false s=some (s',g,0)/\HlI c th ms' s'/\((g=false/\s'=s/\ ∀t∈s.ts,t.end_=1)\/(g=true/\s.taken<=s'.taken/\s'.taken<=s.taken+2/\smM th ms'+1<=smM th ms)):=by
 rcases yb with rfl|rfl
 ·obtain ⟨s1,m1,b,e,I,hr⟩:=ii C h (n:=0) Za h0 Za 0 false
  refine ⟨s1,m1,b,by rw [e,Bool.false_or];rfl,I,?_⟩
  rcases hr with ⟨rfl,rfl,rfl,t,ht,he⟩|⟨rfl,hk,hm, -⟩
  ·refine .inl ⟨rfl,rfl,fun t' FJ=>?_⟩
   obtain ⟨i,hi⟩:=List.getElem?_of_mem FJ
   have wY:=(List.getElem?_eq_some_iff.1 hi).1
   have hl:=h.len
   obtain rfl:i=0:=by omega
   rw [ht] at hi
   rw [<-zae hi]
   exact he
  ·refine .inr ⟨rfl,by omega,by omega,?_⟩
   unfold smM
   rw [if_pos rfl,if_pos rfl]
   exact hm
 ·obtain ⟨s1,m1,b,e,I,hr⟩:=ii C h (n:=0) Za h0 Za 1 false
  have h2:0<=s1.taken/\s1.taken<65536/\s1.taken<=s.taken+1/\s.taken<=s1.taken:=by
   rcases hr with ⟨-,rfl, -⟩|⟨-,hk, -⟩<;>omega
  obtain ⟨s2,m2,b2,e2,I2,yx⟩:=ii C I (n:=1) Za h2.1 h2.2.1 0 (false||b)
  refine ⟨s2,m2,b||b2,by rw [e,e2,Bool.false_or];rfl,I2,?_⟩
  have hs: ∀ms,smM 2 ms=ms 0+ms 1:=fun ms=>by
   unfold smM
   rw [if_neg Zg]
  rw [hs,hs]
  rcases hr with ⟨rfl,rfl,rfl,t,ht,he⟩|⟨rfl,hk,hm,Jz⟩
  ·rcases yx with ⟨rfl,rfl,rfl,t2,C9,B9⟩|⟨rfl,xT,BQ,Er⟩
   ·refine .inl ⟨rfl,rfl,fun t' FJ=>?_⟩
    obtain ⟨i,hi⟩:=List.getElem?_of_mem FJ
    have wY:=(List.getElem?_eq_some_iff.1 hi).1
    have hl:=h.len
    by_cases xz:i=0
    ·subst xz
     rw [ht] at hi
     rw [<-zae hi]
     exact he
    ·obtain rfl:i=1:=by omega
     rw [C9] at hi
     rw [<-zae hi]
     exact B9
   ·have:=Er 0 Zg Zg
    exact .inr ⟨rfl,by omega,by omega,by omega⟩
  ·have h3:=Jz 1 Zg Zg
   rcases yx with ⟨rfl,rfl,rfl,t2,C9,B9⟩|⟨rfl,xT,BQ,Er⟩
   ·exact .inr ⟨rfl,by omega,by omega,by omega⟩
   ·have:=Er 0 Zg Zg
    exact .inr ⟨rfl,by omega,by omega,by omega⟩
theorem mh{c th:Nat}(yb:th=1\/th=2)(C:HlC c th): ∀(k:Nat) {ms:Nat->Nat} {s:MSt},HlI c th ms s->0<=s.taken->s.taken+2*smM th ms+2<65536->smM th ms<k->
  ∃s' ms',mAl k s=some (s',0)/\HlI c th ms' s'/\ ∀t∈s'.ts,t.end_=1
 |0,ms,s,_,_,_,hk=>absurd hk (Nat.not_lt_zero _)
 |k+1,ms,s,h,h0,h1,hk=>by
  obtain ⟨s1,m1,g,e,I,hr⟩:=ybW yb C h h0 Za
  unfold mAl
  rw [h.len,e,zaZ,if_neg (fun h=>h rfl)]
  rcases hr with ⟨rfl,rfl,he⟩|⟨rfl,a,b,d⟩
  ·exact ⟨s1,m1,rfl,I,he⟩
  ·show∃s' ms',mAl k s1=some (s',0)/\_
   exact mh yb C k I Za Za Za
theorem wM(s s':MSt)(k:Nat)(hk:k<=65536)(h:mAl k s=some (s',0)):mRun [(3,(k:Int),0)] 0 s=some (s',1,0):=by
 unfold mRun mOne
 have e1: ¬(3:Int)=1:=by decide
 have e2: ¬(3:Int)=2:=by decide
 have e3:(0:Int)<=k/\(k:Int)<=65536:=by omega
 simp only [if_neg e1,if_neg e2,if_true,if_pos e3,Int.toNat_natCast,h]
 rfl
theorem yb2{c th:Nat}(yb:th=1\/th=2)(C:HlC c th)(hl:(hlR c th).length=th)(hb: ∀n,n<th->hlBeg c th n (hlTab c th n)=true):
  Halts (hlR c th) th (fun s=>(∃ms,HlI c th ms s)/\s.taken=0) where
 beg:=⟨yb4 hl hb Za,rfl⟩
 step s n f h hn:=by
  obtain ⟨⟨ms,hI⟩,h0⟩:=h
  obtain ⟨s',ms',hS,hI',hk, -⟩:=mg C hI hn f
  exact ⟨s',hS,⟨ms',hI'⟩,by rw [hk,h0]⟩
 run s h:=by
  obtain ⟨⟨ms,hI⟩,h0⟩:=h
  have hs:smM th ms<=2000:=by
   unfold smM
   rcases yb with rfl|rfl
   ·have:=ik C hI (n:=0) Za
    rw [if_pos rfl]
    omega
   ·have:=ik C hI (n:=0) Za
    have:=ik C hI (n:=1) Za
    rw [if_neg Zg]
    omega
  obtain ⟨K,hK⟩: ∃K:Nat,K=30000:=⟨_,rfl⟩
  obtain ⟨s',ms',e,I,he⟩:=mh yb C K hI Za Za Za
  have hr:=wM s s' K Za e
  rw [show ((K:Nat):Int)=30000 by omega] at hr
  refine ⟨s',hr,by rw [I.size];decide,I.len,fun t ht=>⟨he t ht,?_⟩⟩
  obtain ⟨i,hi⟩:=List.getElem?_of_mem ht
  have wY:=(List.getElem?_eq_some_iff.1 hi).1
  have A8:=I.len
  obtain ⟨κ, -,zP⟩:=I.at_ i Za
  rw [hi] at zP
  rw [zae zP]
  exact zaB _
theorem cO{f:Nat->Bool}(h:(List.range 2).all f=true): ∀n,n<2->f n=true:=fun n hn=>List.all_eq_true.1 h n (List.mem_range.2 hn)
theorem yb3{c th:Nat}(hc:c=1\/c=2)(yb:th=1\/th=2)(hl:(hlR c th).length=th):HlC c th/\ ∀n,n<th->hlBeg c th n (hlTab c th n)=true:=by
 have hR: ∀n,n<th->(codeOf ((hlR c th).getD n ([],[]))).all regB=true:=fun n hn=>by
  have h:=cO (cO ybY (c-1) Za) (th-1) Za
  rw [show c-1+1=c by omega,show th-1+1=th by omega] at h
  refine List.all_eq_true.1 h _ ?_
  rw [zaU,zaC Za]
  exact List.getElem_mem _
 have hA: ∀n,n<th->(hlAll c th n (hlTab c th n)&&hlBeg c th n (hlTab c th n))=true:=fun n hn=>by
  rcases yb with rfl|rfl
  ·obtain rfl:n=0:=by omega
   rcases hc with rfl|rfl
   ·exact yca
   ·exact yb7
  ·rcases hc with rfl|rfl
   ·obtain rfl|rfl:n=0\/n=1:=by omega
    ·exact yb9
    ·exact yb8
   ·obtain rfl|rfl:n=0\/n=1:=by omega
    ·exact yb6
    ·exact yb5
 exact ⟨⟨fun n hn=>yfd (hA n hn),hR⟩,fun n hn=>yfc (hA n hn)⟩
theorem yb0:(List.range 2).all (fun c=>(List.range 2).all (fun th=>match lexAll (hlT (hlD (c+1)) (th+1)) with| .inr []=>false|_=>true))=true:=by kernel_rfl
theorem ybX{c th:Nat}(hc:c=1\/c=2)(yb:th=1\/th=2):
  Runs (hlT (hlD c) th) (hlP c th) (hlR c th) 16/\(hlR c th).length=th/\Halts (hlR c th) th (fun s=>(∃ms,HlI c th ms s)/\s.taken=0):=by
 have h1:=cO (cO ybZ (c-1) Za) (th-1) Za
 have h2:=cO (cO yb1 (c-1) Za) (th-1) Za
 have h3:=cO (cO yb0 (c-1) Za) (th-1) Za
 rw [show c-1+1=c by omega,show th-1+1=th by omega] at h1 h2 h3
 simp only [za0,zau] at h2
 obtain ⟨⟨⟨⟨a1,a2⟩,a3⟩,a4⟩,a5⟩:=h2
 refine ⟨⟨?_,?_,?_,a5,by rw [a3,a4],by omega,by omega,by decide,by decide,List.all_eq_true.1 a2⟩,a3,?_⟩
 ·unfold hlP
  split at h1
  ·rename_i p a b hp
   obtain ⟨rfl,rfl⟩:=of_decide_eq_true h1
   rw [hp]
  ·cases h1
 ·intro h
  rw [h] at h3
  cases h3
 ·unfold hlR
  obtain ⟨x,hx⟩:=Option.isSome_iff_exists.1 a1
  rw [hx]
  rfl
 ·obtain ⟨C,hb⟩:=yb3 hc yb a3
  exact yb2 yb C a3 hb
end Go.Proofs.YtcekjfmfcefjpaaGreatDoor
