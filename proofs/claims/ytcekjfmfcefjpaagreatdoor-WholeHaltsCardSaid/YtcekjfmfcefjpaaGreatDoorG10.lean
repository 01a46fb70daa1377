/- Walks. No condition. -/
import Derived.Handy
import Derived.Lib.SliceRun
import Derived.Deep.CutRange
import Derived.Deep.LoopGhost
import Derived.OwnWalk
import Derived.Maps.RangeWalk
import Derived.Lib.AppendZerosOnto
import Derived.Maps.Own
import Derived.Maps.Views
import Derived.Test.YtcekjfmfcefjpaaGreatDoorProg
import Derived.Test.YtcekjfmfcefjpaaGreatDoorG09
set_option maxRecDepth 100000
set_option maxHeartbeats 0
set_option linter.all false
namespace Go.Proofs.YtcekjfmfcefjpaaGreatDoor
open Go.RowKit Go.Sort
theorem yc7{α:Type}(g:Nat->Option α)(r:α)(m:Nat): ∀k,k<m->(∀j,j<k->g j=none)->g k=some r->(List.range m).findSome? g=some r:=by
 intro k hk h0 h1
 rw [List.findSome?_eq_some_iff]
 refine ⟨List.range k,k,(List.range (m-k)).tail.map (fun x=>k+x),?_,h1,fun x hx=>h0 x (List.mem_range.1 hx)⟩
 obtain ⟨d,rfl⟩: ∃d,m=k+(d+1):=⟨m-k-1,by omega⟩
 rw [List.range_add,(show k+(d+1)-k=d+1 by omega),List.range_succ_eq_map]
 simp
theorem ydO{w k:Nat}{r:Ins}(hk:k<32)(h0: ∀j,j<k->decOne ((j+1:Nat):Int) w=none)(h1:decOne ((k+1:Nat):Int) w=some r):decF w=some r:=
 yc7 (fun k=>decOne ((k+1:Nat):Int) w) r 32 k hk h0 h1
theorem ydN{w:Nat}(h0: ∀j,j<32->decOne ((j+1:Nat):Int) w=none):decF w=none:=by
 unfold decF
 rw [List.findSome?_eq_none_iff]
 exact fun x hx=>h0 x (List.mem_range.1 hx)
theorem ydI(w:Nat)(hw:w<4294967296)(W:qW):qC 15 #[.int .u32 w] W (Gives W (.tuple #[insV ((decF w).getD (Ins.zero 0)),iI (if (decF w).isSome then 0 else 2)])):=by
 have O:=Zh (fun op W=>uM op w hw W)
 have HIT:Hid (∀(k:Nat) (r:Ins),k<32->(∀j,j<k->decOne ((j+1:Nat):Int) w=none)->decOne ((k+1:Nat):Int) w=some r->decF w=some r):=Zh (fun k r h1 h2 h3=>ydO h1 h2 h3)
 have NON:=Zh (@ydN w)
 generalize hD:decF w=D at*
 clear hD
 generalize hV:insV (D.getD (Ins.zero 0))=V
 generalize hE:(if D.isSome then (0:Int) else 2)=E
 have HV:=Zh hV
 have HE:=Zh hE
 clear hV hE
 go_enter Tryz.func15,Tryz.ntmps15
 go_wp2_with fail
 have zR:InsAt (W.alloc (.cells #[iI 0,iI 0,iI 0,iI 0,iI 0,iI 0,iI 0] 85)) W.heap.size (Ins.zero 0):=fun k hk=>by
  match k,hk with
  |0,_|1,_|2,_|3,_|4,_|5,_|6,_=>simp [go_sem,Ins.get,Ins.zero]
 have Cp:=Zh zR
 clear zR
 generalize hZ:W.heap.size=Z at Cp ⊢
 go_loopw [4] (fun v4 wr=> ∃k:Nat,k<=32/\v4=iI ((k+1:Nat):Int)/\Below W.heap.size W wr/\Z<wr.heap.size/\InsAt wr Z (Ins.zero 0)/\ ∀j,j<k->decOne ((j+1:Nat):Int) w=none) (fun v4 _=>33-(intOf v4).toNat)
 case atStart=>exact ⟨0,by omega,rfl,by repeat (first|exact zaa _ _|refine aF ?_ _|refine ab ?_ _),by rw [<-hZ];simp,Cp.out,fun j hj=>by omega⟩
 case round=>
  obtain ⟨k,hk,rfl,hb,wY,hi,hn⟩:=hrel
  have HB:=Zh hb
  have HI:=Zh hi
  have HN:=Zh hn
  clear hb hi hn
  have Bu:((k+1:Nat):Int)=(k:Int)+1:=by omega
  by_cases xT:(k:Int)+1<=32
  ·go_wp2_with (first
    |(go_at_call 40;refine (O.out _ _).mono ?_;rintro e X ⟨⟨r0,r1,r2,r3,r4,r5,r6⟩,bo,rfl,Cb,hX⟩;have zw:=Zh (HI.out.below (w':=X) wY (by obtain ⟨p,rfl⟩:=hX;exact av _ _));have L7:=Zh (bQ HB.out (w':=X) (by obtain ⟨p,rfl⟩:=hX;exact av _ _));have L6:Z<X.heap.size:=(by obtain ⟨p,rfl⟩:=hX;simp [go_sem];omega);clear hX;have Hz:=Zh Cb;clear Cb;obtain ⟨x0,x0'⟩:=zw.out 0 Za;obtain ⟨x1,x1'⟩:=zw.out 1 Za;obtain ⟨x2,x2'⟩:=zw.out 2 Za;obtain ⟨x3,x3'⟩:=zw.out 3 Za;obtain ⟨x4,x4'⟩:=zw.out 4 Za;obtain ⟨x5,x5'⟩:=zw.out 5 Za;obtain ⟨x6,x6'⟩:=zw.out 6 Za))
   ·have e1:=Hz.out
    rw [if_pos ‹bo=true›] at e1
    have e2:=HIT.out k _ Za HN.out (by rw [Bu];exact e1)
    have v1:=HV.out
    have v2:=HE.out
    rw [e2] at v1 v2
    simp [insV] at v1 v2
    subst v1 v2
    generalize Aq:(((((((X.setCell ⟨Z,0,none⟩ (iI r0)).setCell ⟨Z,1,none⟩ (iI r1)).setCell ⟨Z,2,none⟩ (iI r2)).setCell ⟨Z,3,none⟩ (iI r3)).setCell ⟨Z,4,none⟩ (iI r4)).setCell ⟨Z,5,none⟩ (iI r5)).setCell ⟨Z,6,none⟩ (iI r6))=X7
    have yq:InsAt X7 Z ⟨r0,r1,r2,r3,r4,r5,r6⟩:=by rw [<-Aq];exact InsAt.set7 zw.out r0 r1 r2 r3 r4 r5 r6
    have E8:Z<X7.heap.size:=by rw [<-Aq];simp;omega
    have q0:X7.cell? ⟨Z,0,none⟩=some (iI r0):=(yq 0 Za).1
    have q1:X7.cell? ⟨Z,1,none⟩=some (iI r1):=(yq 1 Za).1
    have q2:X7.cell? ⟨Z,2,none⟩=some (iI r2):=(yq 2 Za).1
    have q3:X7.cell? ⟨Z,3,none⟩=some (iI r3):=(yq 3 Za).1
    have q4:X7.cell? ⟨Z,4,none⟩=some (iI r4):=(yq 4 Za).1
    have q5:X7.cell? ⟨Z,5,none⟩=some (iI r5):=(yq 5 Za).1
    have q6:X7.cell? ⟨Z,6,none⟩=some (iI r6):=(yq 6 Za).1
    have D':=Zh (show Below W.heap.size W X7 by rw [<-Aq];exact ax (ax (ax (ax (ax (ax (ax L7.out Zk _) Zk _) Zk _) Zk _) Zk _) Zk _) Zk _)
    clear Aq yq
    (try simp only [Exit.inBlock,Exit.then])
    refine zad (by simp [results,Tryz.results15,go_sem,E8,q0,q1,q2,q3,q4,q5,q6];try rfl) rfl ?_
    exact Gives.mk rfl (ab D'.out _)
   ·have e1:=Hz.out
    rw [if_neg (by simp [‹bo=false›])] at e1
    go_roundw
    case rel=>
     refine ⟨k+1,by omega,by go_num,ab L7.out _,by simp [go_sem];omega,zw.out.below L6 ZZ,fun j hj=>?_⟩
     rcases zaJ j k with h|h
     ·exact HN.out j h
     ·obtain rfl:k=j:=by omega
      rw [Bu]
      exact e1
    case measure=>simp [intOf];omega
  ·obtain ⟨x0,x0'⟩:=HI.out 0 Za
   obtain ⟨x1,x1'⟩:=HI.out 1 Za
   obtain ⟨x2,x2'⟩:=HI.out 2 Za
   obtain ⟨x3,x3'⟩:=HI.out 3 Za
   obtain ⟨x4,x4'⟩:=HI.out 4 Za
   obtain ⟨x5,x5'⟩:=HI.out 5 Za
   obtain ⟨x6,x6'⟩:=HI.out 6 Za
   have e2:=NON.out (fun j hj=>HN.out j Za)
   have v1:=HV.out
   have v2:=HE.out
   rw [e2] at v1 v2
   simp [insV,Ins.zero] at v1 v2
   subst v1 v2
   go_wp2_with fail
   generalize Aq:(((((((wr.setCell ⟨Z,0,none⟩ (iI 0)).setCell ⟨Z,1,none⟩ (iI 0)).setCell ⟨Z,2,none⟩ (iI 0)).setCell ⟨Z,3,none⟩ (iI 0)).setCell ⟨Z,4,none⟩ (iI 0)).setCell ⟨Z,5,none⟩ (iI 0)).setCell ⟨Z,6,none⟩ (iI 0))=X7
   have yq:InsAt X7 Z ⟨0,0,0,0,0,0,0⟩:=by rw [<-Aq];exact InsAt.set7 HI.out 0 0 0 0 0 0 0
   have E8:Z<X7.heap.size:=by rw [<-Aq];simp;omega
   have q0:X7.cell? ⟨Z,0,none⟩=some (iI 0):=(yq 0 Za).1
   have q1:X7.cell? ⟨Z,1,none⟩=some (iI 0):=(yq 1 Za).1
   have q2:X7.cell? ⟨Z,2,none⟩=some (iI 0):=(yq 2 Za).1
   have q3:X7.cell? ⟨Z,3,none⟩=some (iI 0):=(yq 3 Za).1
   have q4:X7.cell? ⟨Z,4,none⟩=some (iI 0):=(yq 4 Za).1
   have q5:X7.cell? ⟨Z,5,none⟩=some (iI 0):=(yq 5 Za).1
   have q6:X7.cell? ⟨Z,6,none⟩=some (iI 0):=(yq 6 Za).1
   have D':=Zh (show Below W.heap.size W X7 by rw [<-Aq];exact ax (ax (ax (ax (ax (ax (ax HB.out Zk _) Zk _) Zk _) Zk _) Zk _) Zk _) Zk _)
   clear Aq yq
   (try simp only [Exit.inBlock,Exit.then])
   refine zad (by simp [results,Tryz.results15,go_sem,E8,q0,q1,q2,q3,q4,q5,q6];try rfl) rfl ?_
   exact Gives.mk rfl D'.out
theorem bp{w:qW}{b o:Nat}{v:qV}(h:w.cell? ⟨b,o,none⟩=some v):b<w.heap.size:=by
 rcases zaJ b w.heap.size with hl|hl
 ·exact hl
 ·have:w.heap[b]?=none:=zaW hl
  simp [World.cell?,this] at h
inductive Onto (B:Nat) (w:qW):qW->Prop
 |refl:Onto B w w
 |set {w1:qW} (h:Onto B w w1) (k:Nat) (v:qV):Onto B w (w1.setCell ⟨B,k,none⟩ v)
 |more {w1:qW} (h:Onto B w w1) (p:Regrown):Onto B w (more w1 p)
 |alloc {w1:qW} (h:Onto B w w1) (o:Obj):Onto B w (w1.alloc o)
theorem Onto.trans{B:Nat}{a b c:qW}(h:Onto B a b)(k:Onto B b c):Onto B a c:=by
 induction k with
 |refl=>exact h
 |set _ k v ih=>exact ih.set k v
 |more _ p ih=>exact ih.more p
 |alloc _ o ih=>exact ih.alloc o
theorem Onto.size{B:Nat}{a b:qW}(h:Onto B a b):a.heap.size<=b.heap.size:=by
 induction h with
 |refl=>exact zaq _
 |set _ k v ih=>simpa using ih
 |more _ p ih=>rw [aZ];omega
 |alloc _ o ih=>simp;omega
theorem Onto.cell{B:Nat}{a b:qW}(h:Onto B a b){c k:Nat}(hc:c<a.heap.size)(hB:c≠B):b.cell? ⟨c,k,none⟩=a.cell? ⟨c,k,none⟩:=Z69_
theorem Onto.frozen{B:Nat}{a b:qW}(h:Onto B a b){c k:Nat}(hc:c<a.heap.size):b.frozen? ⟨c,k,none⟩=a.frozen? ⟨c,k,none⟩:=Z70_
theorem Onto.under{B:Nat}{w a b:qW}(h:Onto B a b)(hb:Below w.heap.size w a)(hB:w.heap.size<=B):Below w.heap.size w b:=by
 induction h with
 |refl=>exact hb
 |set _ k v ih=>exact ax ih hB v
 |more _ p ih=>exact aF ih p
 |alloc _ o ih=>exact ab ih o
theorem Onto.setCells{B:Nat}{a:qW}: ∀(vs:List qV) (o:Nat) (w:qW),Onto B a w->Onto B a (w.setCells B o vs)
 |[],_,_,h=>h
 |v::r,o,_,h=>Onto.setCells r (o+1) _ (h.set o v)
end Go.Proofs.YtcekjfmfcefjpaaGreatDoor
namespace Go.Proofs.YtcekjfmfcefjpaaGreatDoor
open Go.RowKit Go.Sort Go.Lib
theorem lm(x:Int)(w:qW):qC 220 #[iI x] w fun e w'=>e= .returned (.bool (decide (x<0)))/\w=w':=by
 go_enter Tryz.func220,Tryz.ntmps220
 go_wp2
 go_ret
 exact ⟨rfl,rfl⟩
def Fst(L:Nat->Int)(n:Nat)(r:Int):Prop:=(r= -1/\ ∀j,j<n->0<=L j)\/ ∃k:Nat,k<n/\r=k/\L k<0/\ ∀j,j<k->0<=L j
theorem ybG(L:Nat->Int)(n b cap:Nat)(hn:n<=100)(w:qW)(hc: ∀j,j<n->w.cell? (aB b j)=some (iI (L j))):
  qC 277 #[.slice (aA b) n cap,.func (.func 220) #[] #[]] w fun e w'=>(∃r,e= .returned (iI r)/\Fst L n r)/\w=w':=by
 have NE:=Zh (fun x W=>lm x W)
 have HC:=Zh hc
 clear hc
 go_enter Tryz.func277,Tryz.ntmps277
 go_wp2
 go_loop [8] (fun i=> ∃k:Nat,k<=n/\i=iI k/\ ∀j,j<k->0<=L j) (fun i=>n-(intOf i).toNat)
 case atStart=>exact ⟨0,by omega,rfl,fun j hj=>by omega⟩
 case round=>
  obtain ⟨k,hk,rfl,hl⟩:=hrel
  have HL:=Zh hl
  clear hl
  by_cases wY:(k:Int)<n
  ·have yp:=HC.out k Za
   by_cases h0:L k<0
   ·have hd:decide (L k<0)=true:=by simpa using h0
    have HR:=Zh h0
    generalize L k=x at yp h0 hd
    go_wp2_with (go_at_call 220;refine (NE.out _ _).mono ?_;rintro e w1 ⟨rfl,rfl⟩)
    go_ret
    exact ⟨⟨_,rfl,Or.inr ⟨k,by omega,rfl,HR.out,HL.out⟩⟩,rfl⟩
   ·have hd:decide (L k<0)=false:=by simpa using h0
    have HR:=Zh h0
    generalize L k=x at yp h0 hd
    go_wp2_with (go_at_call 220;refine (NE.out _ _).mono ?_;rintro e w1 ⟨rfl,rfl⟩)
    go_round
    case rel=>exact ⟨k+1,by omega,by go_num,fun j hj=>by
     rcases zaJ j k with h|h
     ·exact HL.out j h
     ·obtain rfl:j=k:=by omega
      have:=HR.out
      omega⟩
    case measure=>simp [intOf];omega
  ·obtain rfl:k=n:=by omega
   go_wp2
   go_ret
   exact ⟨⟨_,rfl,Or.inl ⟨rfl,HL.out⟩⟩,rfl⟩
def kept(L:Nat->Int)(n:Nat):List Int:=((List.range n).map L).filter (fun x=>decide (0<=x))
theorem dM(L:Nat->Int)(n:Nat):kept L (n+1)=if 0<=L n then kept L n++[L n] else kept L n:=by
 unfold kept
 rw [List.range_succ,List.map_append,List.filter_append]
 by_cases h:0<=L n<;>simp [h]
theorem dN(L:Nat->Int)(n:Nat):(kept L n).length<=n:=by
 unfold kept
 refine zal (List.length_filter_le _ _) Zi
theorem gY(L:Nat->Int)(n:Nat)(h: ∀j,j<n->0<=L j):kept L n=(List.range n).map L:=by
 unfold kept
 refine List.filter_eq_self.2 fun x hx=>?_
 obtain ⟨j,hj,rfl⟩:=List.mem_map.1 hx
 simpa using h j (List.mem_range.1 hj)
structure DelW(w wr:qW)(L:Nat->Int)(n b j:Nat):Prop where
 onto:Onto b w wr
 low: ∀t x,(kept L j)[t]?=some x->wr.cell? (aB b t)=some (iI x)
 high: ∀t,j<=t->t<n->wr.cell? (aB b t)=some (iI (L t))
 there: ∀t,t<n->(wr.cell? (aB b t)).isSome=true/\wr.frozen? (aB b t)=false
 less:(kept L j).length<j
theorem DelW.skip{w wr:qW}{L:Nat->Int}{n b j:Nat}(h:DelW w wr L n b j)(hx:L j<0):DelW w wr L n b (j+1):=by
 have e:kept L (j+1)=kept L j:=by rw [dM,if_neg Za]
 refine ⟨h.onto,?_,fun t h1 h2=>h.high t Za h2,h.there,?_⟩
 ·rw [e];exact h.low
 ·rw [e];have:=h.less;omega
theorem DelW.keep{w wr:qW}{L:Nat->Int}{n b j:Nat}(h:DelW w wr L n b j)(hj:j<n)(hx:0<=L j):DelW w (wr.setCell ⟨b,(kept L j).length,none⟩ (iI (L j))) L n b (j+1):=by
 have e:kept L (j+1)=kept L j++[L j]:=by rw [dM,if_pos hx]
 have hl:=h.less
 have hv:=h.there (kept L j).length Za
 obtain ⟨u,hu⟩:=Option.isSome_iff_exists.1 hv.1
 refine ⟨h.onto.set _ _,?_,?_,?_,?_⟩
 ·rw [e]
  intro t x ht
  by_cases zC:t<(kept L j).length
  ·rw [zah zC] at ht
   rw [zaH _ _ _ _ (fun e=>by have:=congrArg Addr.off e;simp at this;omega)]
   exact h.low t x ht
  ·rw [zai Za] at ht
   have C8:t=(kept L j).length:=by
    have:=(List.getElem?_eq_some_iff.1 ht).1
    simp at this
    omega
   subst C8
   simp at ht
   subst ht
   exact zaF _ _ _ hu
 ·intro t h1 h2
  rw [zaH _ _ _ _ (fun e=>by have:=congrArg Addr.off e;simp at this;omega)]
  exact h.high t Za h2
 ·intro t ht
  rw [zaG]
  refine ⟨?_,(h.there t ht).2⟩
  by_cases C8:t=(kept L j).length
  ·subst C8
   rw [zaF _ _ _ hu]
   rfl
  ·rw [zaH _ _ _ _ (fun e=>by have:=congrArg Addr.off e;simp at this;omega)]
   exact (h.there t ht).1
 ·rw [e]
  simp
  omega
theorem ou(W:qW):(zeroValue 3).run Tryz.prog W= .ok (iI 0) W:=by kernel_rfl
theorem ydH(L:Nat->Int)(n b cap:Nat)(hn:n<=100)(yu:n<=cap)(Dm:cap<=100)(w:qW)(hc: ∀j,j<n->w.cell? (aB b j)=some (iI (L j))/\w.frozen? (aB b j)=false):
  qC 219 #[.slice (aA b) n cap,.func (.func 220) #[] #[]] w fun e w'=>e= .returned (.slice (aA b) (kept L n).length cap)/\Onto b w w'/\ ∀t x,(kept L n)[t]?=some x->w'.cell? (aB b t)=some (iI x):=by
 have NE:=Zh (fun x W=>lm x W)
 have IX:=Zh (ybG L n b cap hn w (fun j hj=>(hc j hj).1))
 have HC:=Zh hc
 clear hc
 go_enter Tryz.func219,Tryz.ntmps219
 go_upto_region 2 with (go_at_call 277;refine (IX.out).mono ?_;rintro e w1 ⟨⟨r,rfl,hr⟩,rfl⟩)
 rcases hr with ⟨rfl,xp⟩|⟨k,hk,rfl,AN,Ef⟩
 ·have HK:=Zh (gY L n xp)
  clear xp
  go_wp2_with fail
  go_ret
  refine ⟨by rw [HK.out];simp,Onto.refl,fun t x ht=>?_⟩
  rw [HK.out] at ht
  have FG:t<n:=by
   have:=(List.getElem?_eq_some_iff.1 ht).1
   simpa using this
  rw [zaj,List.getElem?_range FG] at ht
  simp at ht
  subst ht
  exact (HC.out t FG).1
 ·have h0:DelW w w L n b (k+1):=by
   have e:kept L (k+1)=(List.range k).map L:=by rw [dM,if_neg Za,gY L k Ef]
   refine ⟨Onto.refl,?_,fun t _ h2=>(HC.out t h2).1,fun t ht=>⟨by rw [(HC.out t ht).1];rfl,(HC.out t ht).2⟩,by rw [e];simp⟩
   rw [e]
   intro t x ht
   have FG:t<k:=by
    have:=(List.getElem?_eq_some_iff.1 ht).1
    simpa using this
   rw [zaj,List.getElem?_range FG] at ht
   simp at ht
   subst ht
   exact (HC.out t Za).1
  have yd:(kept L (k+1)).length=k:=by rw [dM,if_neg Za,gY L k Ef];simp
  have H0:=Zh h0
  have As:=Zh yd
  clear h0 yd AN Ef
  have hne:((k:Int)== -1)=false:=by simp
  go_wp2_with fail
  go_loopw [5,6,7] (fun v5 v6 _ wr=> ∃j:Nat,j<=n/\v5=iI ((kept L j).length:Nat)/\v6=iI j/\DelW w wr L n b j) (fun _ v6 _ _=>n-(intOf v6).toNat)
  case atStart=>exact ⟨k+1,by omega,by rw [As.out],by go_num,H0.out⟩
  case round=>
   obtain ⟨j,hj,rfl,rfl,hd⟩:=hrel
   have Lz:=hd.less
   have HD:=Zh hd
   clear hd H0 As
   have JL:=dN L j
   by_cases wY:(j:Int)<n
   ·have LT:=HD.out.high j (zaq _) Za
    by_cases hx:L j<0
    ·have hq:decide (L j<0)=true:=by simpa using hx
     have HS:=Zh (HD.out.skip hx)
     have HE:Hid ((kept L (j+1)).length=(kept L j).length):=Zh (by rw [dM,if_neg Za])
     generalize L j=x at LT hx hq
     generalize (kept L j).length=i at*
     go_wp2_with (go_at_call 220;refine (NE.out _ _).mono ?_;rintro e w1 ⟨rfl,rfl⟩)
     go_roundw
     case rel=>exact ⟨j+1,by omega,by rw [HE.out],by go_num,HS.out⟩
     case measure=>simp [intOf];omega
    ·have hq:decide (L j<0)=false:=by simpa using hx
     have HS:=Zh (HD.out.keep Za Za)
     have HE:Hid ((kept L (j+1)).length=(kept L j).length+1):=Zh (by rw [dM,if_pos Za];simp)
     have Fj:=HD.out.there (kept L j).length Za
     obtain ⟨u,hu⟩:=Option.isSome_iff_exists.1 Fj.1
     have hfi:=Fj.2
     clear Fj
     generalize L j=x at LT hx hq HS
     generalize (kept L j).length=i at*
     go_wp2_with (go_at_call 220;refine (NE.out _ _).mono ?_;rintro e w1 ⟨rfl,rfl⟩)
     go_roundw
     case rel=>exact ⟨j+1,by omega,by rw [HE.out];go_num,by go_num,HS.out⟩
     case measure=>simp [intOf];omega
   ·obtain rfl:j=n:=by omega
    have Bl:=Zh (fun ty=>run_clear_slice (P:=Tryz.prog) wr 55 3 ty (iI 0) Tryz.underlying55 ou rfl rfl b (kept L j).length (j-(kept L j).length) (cap-(kept L j).length) Za (fun t ht=>(HD.out.there _ Za).1) (fun t ht=>(HD.out.there _ Za).2))
    have i':=Bl.out
    clear Bl
    generalize hi:(kept L j).length=i at*
    go_wp2_with fail
    go_ret
    refine ⟨rfl,Onto.setCells _ _ _ HD.out.onto,fun t x ht=>?_⟩
    have zC:t<i:=by
     have:=(List.getElem?_eq_some_iff.1 ht).1
     omega
    rw [World.cell?_setCells_out _ _ _ _ _ (fun _ _=>Or.inl zC)]
    exact HD.out.low t x ht
theorem ic:(Tryz.prog.info? 3).map (fun i=>(i.zero,i.size,i.bytes))=some (some (iI 0),1,8):=by kernel_rfl
theorem yci(w:qW):qC 159 #[.slice none 0 0,iI 0] w fun e w'=>e= .returned (.slice none 0 0)/\w=w':=by
 go_enter Tryz.func159,Tryz.ntmps159
 go_wp2
 go_ret
 exact ⟨rfl,rfl⟩
theorem ycj(n:Nat)(h0:0<n)(hn:n<=100)(w:qW):qC 159 #[.slice none 0 0,iI n] w fun e w'=> ∃b G,e= .returned (.slice (aA b) 0 G)/\(∃p:Regrown,w'=more w p)/\w'.ownsRow w.heap.size 3 1 (.slice (aA b) 0 G) 0 []/\n<=G:=by
 obtain ⟨i0,hi,xq,xm,xk⟩:=zan ic
 have Ii:=fun ty=>Lib.run_append_grow_zeros (P:=Tryz.prog) w 55 3 ty 3 i0 (iI 0) .i64 .i64 Tryz.underlying55 Tryz.underlying3 hi xq none 0 0 [] (by rw [xm];exact run_firstCells_none w.drew 1 0 0 0) n h0 Za Za Za (by rw [xk];omega) (by rw [xk];exact growslice_fits Za Za)
 rw [zag] at Ii
 have hG:=grownCap_ge w n 0 3
 have C4:=grownCap_le_maxLen w n 0 3 (by unfold maxLen;omega)
 generalize grownCap w n 0 3=G at Ii hG C4
 have HRZ:=Zh Ii
 have hGm2:G<=9223372036854775807:=C4
 clear Ii
 go_enter Tryz.func159,Tryz.ntmps159
 go_wp2_with (at_builtin;refine Lib.wpList_append_run _ rfl _ _ _ _ rfl _ _ rfl rfl _ _ (HRZ.out _) ?_)
 all_goals
  go_ret
  refine ⟨w.heap.size,G,rfl,bu (ag (ab (zaa _ _) _)),⟨rfl,.inr ⟨w.heap.size,G,_,rfl,zaq _,zab w _,zaB _,C4,?_,by simp⟩⟩,hG⟩
  simp [Builtin.zeroCells]
  omega
def NumsAt(w:qW)(b:Nat)(l:List Int):Prop:= ∀t x,l[t]?=some x->w.cell? (aB b t)=some (iI x)
theorem NumsAt.news{w:qW}{b:Nat}{l:List Int}(h:NumsAt w b l): ∀j u,(l.map (Value.int .i64))[j]?=some u->w.cell? ((⟨b,0,none⟩:Addr).add j)=some u:=by
 intro j u hu
 rw [zaj] at hu
 obtain ⟨x,hx,rfl⟩:=Option.map_eq_some_iff.1 hu
 rw [Addr.add_lit,zag]
 exact h j x hx
theorem NumsAt.below{w w':qW}{b:Nat}{l:List Int}(h:NumsAt w b l)(hb:Below w.heap.size w w'):NumsAt w' b l:=fun t x ht=>
 (hb.cell (p:=⟨b,t,none⟩) (bp (h t x ht))).trans (h t x ht)
theorem NumsAt.grown{w w':qW}{b g:Nat}{l:List Int}(h:NumsAt w b l)(hg:w.grownBy w' (some g))(hne:b≠g):NumsAt w' b l:=fun t x ht=>by
 have wY:=bp (h t x ht)
 have:=hg.block b wY (fun e=>hne (zae e))
 rw [<-h t x ht]
 simp [World.cell?,this]
theorem fF{a w w1:qW}{g:Nat}(hb:Below a.heap.size a w)(hg:w.grownBy w1 (some g))(hB:a.heap.size<=g):Below a.heap.size a w1:=
 hb.grown hg hb.size (fun k hk=>by cases hk;exact hB)
theorem yec(S b1 b2 c1 c2:Nat)(w:qW)(h0:w.cell? (aB S 0)=some (.slice (aA b1) 0 c1))(h1:w.cell? (aB S 1)=some (.slice (aA b2) 0 c2)):
  qC 115 #[.slice (aA S) 2 2] w fun e w'=>e= .returned (.slice none 0 0)/\w=w':=by
 have GZ:=Zh (fun W=>yci W)
 obtain ⟨i0,hi,xq,xm,xk⟩:=zan ic
 have LZ: ∀(W:qW) (ty:TypeId) (b c:Nat),(Builtin.append_ #[55,55] ty #[.slice none 0 0,.slice (aA b) 0 c]).run Tryz.prog W= .ok (.slice none 0 0) W:=fun W ty b c=>by
  have hf:=run_firstCells_some (P:=Tryz.prog) W i0.size 0 ⟨b,0,none⟩ 0 c [] Zi Zi
  simp [Builtin.append_,run_underlying Tryz.underlying55,run_underlying Tryz.underlying3,sizeOf,typeInfo,hi,Builtin.lenOf,hf]
 go_enter Tryz.func115,Tryz.ntmps115
 go_wp2
 refine zao 3 ?_;rw [zap]
 go_wp2;rw [zap]
 go_wp2;rw [zap]
 go_wp2_with (go_at_call 159;refine (GZ.out _).mono ?_;rintro e w1 ⟨rfl,rfl⟩)
 refine zao 3 ?_;rw [zap]
 go_wp2_with (at_builtin;refine Lib.wpList_append_run _ rfl _ _ _ _ rfl _ _ rfl rfl _ _ (LZ _ _ _ _) ?_);rw [zap]
 go_wp2_with (at_builtin;refine Lib.wpList_append_run _ rfl _ _ _ _ rfl _ _ rfl rfl _ _ (LZ _ _ _ _) ?_);rw [zap]
 go_wp2
 go_ret
 exact ⟨rfl,rfl⟩
theorem bJ{w w':qW}{c g k:Nat}{v:qV}(h:w.cell? (aB c k)=some v)(hg:w.grownBy w' (some g))(hne:c≠g):w'.cell? (aB c k)=some v:=by
 have:=hg.block c (bp h) (fun e=>hne (zae e))
 rw [<-h]
 simp [World.cell?,this]
theorem aP{w w':qW}{c k:Nat}{v:qV}(h:w.cell? (aB c k)=some v)(hb:Below w.heap.size w w'):w'.cell? (aB c k)=some v:=(hb.cell (p:=⟨c,k,none⟩) (bp h)).trans h
theorem uf{w:qW}{base g n cap:Nat}{l:List Int}{xs:List qV}(h:w.ownsRow base 3 1 (.slice (aA g) n cap) n xs)(hx:xs=l.map (Value.int .i64)):NumsAt w g l:=fun t x ht=>by
 have hl:=h.1
 rw [hx] at hl
 have FG:=(List.getElem?_eq_some_iff.1 ht).1
 simp at hl
 rw [h.cellAt t Za,hx,zaj,ht]
 rfl
theorem yed(S b1 b2 c1 c2:Nat)(l1 l2:List Int)(CG:l1.length<=3)(yy:l2.length<=3)(yi:0<l1.length+l2.length)(w:qW)(h0:w.cell? (aB S 0)=some (.slice (aA b1) l1.length c1))(h1:w.cell? (aB S 1)=some (.slice (aA b2) l2.length c2))(CB:NumsAt w b1 l1)(yO:NumsAt w b2 l2)(ye:b1<w.heap.size)(xr:b2<w.heap.size):
  qC 115 #[.slice (aA S) 2 2] w fun e w'=> ∃b G,e= .returned (.slice (aA b) (l1.length+l2.length) G)/\(∃p:Regrown,w'=more w p)/\NumsAt w' b (l1++l2)/\w.heap.size<=b/\l1.length+l2.length<=G/\G<=9223372036854775807:=by
 have GP:=Zh (fun (x:Int) (hx:x=((l1.length+l2.length:Nat):Int)) W=>(by subst hx;exact ycj (l1.length+l2.length) yi Za W:qC 159 #[.slice none 0 0,iI x] W fun e w'=> ∃b G,e= .returned (.slice (aA b) 0 G)/\(∃p:Regrown,w'=more W p)/\w'.ownsRow W.heap.size 3 1 (.slice (aA b) 0 G) 0 []/\l1.length+l2.length<=G))
 obtain ⟨i0,hi,xq,xm,xk⟩:=zan ic
 have HS:=bp h0
 have H1:=Zh h1
 have H0:=Zh h0
 have HN1:=Zh CB
 have Hp:=Zh yO
 have HI:=Zh hi
 have HZ:=Zh xm
 clear CB yO xq xk hi xm
 generalize zF:l1.length=n1 at*
 generalize zQ:l2.length=n2 at*
 replace zF:=Zh zF
 replace zQ:=Zh zQ
 go_enter Tryz.func115,Tryz.ntmps115
 go_wp2
 refine zao 3 ?_;rw [zap]
 go_wp2;rw [zap]
 go_wp2;rw [zap]
 go_wp2_with (go_at_call 159;refine (GP.out _ ?_ _).mono ?_;omega;rintro e w1 ⟨b,G,rfl,⟨p,rfl⟩,DS,hG⟩)
 have xg:=av w p
 generalize hW:more w p=W1 at DS xg ⊢
 have HW:=Zh hW
 clear hW
 have xX:w.heap.size<=b:=by
  rcases DS.2 with ⟨h,_⟩|⟨g',_,_,h,hg,_⟩
  ·simp at h
  ·simp only [Value.slice.injEq,zaA,Addr.mk.injEq,and_true,true_and] at h
   obtain ⟨rfl,_⟩:=h
   exact hg
 have C4:G<=9223372036854775807:=by
  rcases DS.2 with ⟨h,_⟩|⟨g',cap',_,h,hg,_,_,hm,_⟩
  ·simp at h
  ·simp only [Value.slice.injEq,zaA,Addr.mk.injEq,and_true,true_and] at h
   obtain ⟨_,rfl⟩:=h
   exact hm
 replace h0:=aP H0.out xg
 replace h1:=aP H1.out xg
 have N1:=Zh (HN1.out.below xg)
 have N2:=Zh (Hp.out.below xg)
 have yf:=Zh DS
 have zZ:=Zh xg
 clear DS xg
 refine zao 3 ?_;rw [zap]
 go_wp2_with (at_builtin;refine wpList_append_fits _ rfl _ _ 55 rfl w.heap.size 3 i0 1 Tryz.underlying55 HI.out HZ.out b 0 G [] rfl yf.out ⟨b1,0,none⟩ n1 c1 (l1.map (Value.int .i64)) rfl (by simp [zF.out]) N1.out.news (ints_oneCell .i64 l1) Za ?_;intro w2 own2 grow2;go_frame)
 simp only [zag,List.nil_append] at own2 ⊢
 have g1:=bJ h1 grow2 Za
 have N3:=Zh (N2.out.grown grow2 Za)
 have zV:=Zh own2
 have xA:=Zh (fF zZ.out grow2 xX)
 clear own2 h0 h1 yf N1 N2 H0 H1 GP
 rw [zap]
 go_wp2_with (at_builtin;refine wpList_append_fits _ rfl _ _ 55 rfl w.heap.size 3 i0 1 Tryz.underlying55 HI.out HZ.out b n1 G (l1.map (Value.int .i64)) rfl zV.out ⟨b2,0,none⟩ n2 c2 (l2.map (Value.int .i64)) rfl (by simp [zQ.out]) N3.out.news (ints_oneCell .i64 l2) Za ?_;intro w3 own3 grow3;go_frame)
 rw [zap]
 have HO3:=Zh own3
 have Af:=Zh (fF xA.out grow3 xX)
 clear own3 grow3
 go_wp2
 go_ret
 refine ⟨b,G,rfl,bu Af.out,uf HO3.out Zi,xX,hG,C4⟩
structure LOp where
 k:Int
 d:Int
 d2:Int
 a:Int
 b:Int
 c:Int
 n:Int
 op:Int
 sz:Int
 od:Int
 tgt:Int
 st:Int
 ln:Int
def LOp.cs(o:LOp):Array qV:=#[iI o.k,iI o.d,iI o.d2,iI o.a,iI o.b,iI o.c,.int .u64 o.n,iI o.op,iI o.sz,iI o.od,iI o.tgt,iI o.st,iI o.ln]
def lopV(o:LOp):qV:= .agg o.cs
def bR(x y z:Int)(k:Nat):Int:=if k=0 then x else if k=1 then y else z
def usesL(o:LOp):List Int:=kept (bR o.a o.b o.c) 3
def setsL(o:LOp):List Int:=kept (bR o.d o.d2 0) 2
theorem jc(L:Nat->Int)(n b:Nat)(hn:n<=3)(w:qW)(hc: ∀j,j<n->w.cell? (aB b j)=some (iI (L j))/\w.frozen? (aB b j)=false):
  qC 160 #[.slice (aA b) n n] w fun e w'=>e= .returned (.slice (aA b) (kept L n).length n)/\Onto b w w'/\NumsAt w' b (kept L n):=by
 have DE:=Zh (ydH L n b n Za Za Za w hc)
 clear hc
 go_enter Tryz.func160,Tryz.ntmps160
 go_wp2_with (go_at_call 219;refine (DE.out).mono ?_;rintro e w1 ⟨rfl,ho,hn⟩)
 go_ret
 exact ⟨rfl,ho,hn⟩
def GivesRow(w:qW)(l:List Int)(cap:Nat)(e:Ending)(w':qW):Prop:= ∃b,e= .returned (.slice (aA b) l.length cap)/\(∃p:Regrown,w'=more w p)/\NumsAt w' b l/\w.heap.size<=b/\b<w'.heap.size
theorem oV(o:LOp)(w:qW):qC 116 #[lopV o] w (GivesRow w (usesL o) 3):=by
 have TH:=Zh (fun b W hc=>jc (bR o.a o.b o.c) 3 b Za W hc)
 obtain ⟨k,d,d2,a,b,c,n,op,sz,od,tgt,st,ln⟩:=o
 unfold lopV LOp.cs
 unfold usesL
 simp only at*
 have hl:=dN (bR a b c) 3
 generalize hk:kept (bR a b c) 3=l at TH hl ⊢
 replace hk:=Zh hk
 go_enter Tryz.func116,Tryz.ntmps116
 go_wp2_with (go_at_call 160;refine (TH.out (w.heap.size+1) _ ?_).mono ?_)
 ·intro j hj
  rcases (show j=0\/j=1\/j=2 by omega) with rfl|rfl|rfl
  all_goals (unfold bR;simp [go_sem])
 ·rintro e w1 ⟨rfl,ho,hn⟩
  go_wp2
  go_ret
  refine ⟨w.heap.size+1,rfl,bu (ho.under (ab (ab (zaa _ _) _) _) Za),hn,by omega,?_⟩
  have:=ho.size
  simp at this
  omega
theorem rz(o:LOp)(w:qW):qC 117 #[lopV o] w (GivesRow w (setsL o) 2):=by
 have TH:=Zh (fun b W hc=>jc (bR o.d o.d2 0) 2 b Za W hc)
 obtain ⟨k,d,d2,a,b,c,n,op,sz,od,tgt,st,ln⟩:=o
 unfold lopV LOp.cs
 unfold setsL
 simp only at*
 have hl:=dN (bR d d2 0) 2
 generalize hk:kept (bR d d2 0) 2=l at TH hl ⊢
 replace hk:=Zh hk
 go_enter Tryz.func117,Tryz.ntmps117
 go_wp2_with (go_at_call 160;refine (TH.out (w.heap.size+1) _ ?_).mono ?_)
 ·intro j hj
  rcases (show j=0\/j=1 by omega) with rfl|rfl
  all_goals (unfold bR;simp [go_sem])
 ·rintro e w1 ⟨rfl,ho,hn⟩
  go_wp2
  go_ret
  refine ⟨w.heap.size+1,rfl,bu (ho.under (ab (ab (zaa _ _) _) _) Za),hn,by omega,?_⟩
  have:=ho.size
  simp at this
  omega
end Go.Proofs.YtcekjfmfcefjpaaGreatDoor
namespace Go.Proofs.YtcekjfmfcefjpaaGreatDoor
open Go.RowKit Go.Sort Go.Maps
def ptrV:Option Nat->qV
 |none=> .pointer none
 |some b=> .pointer (some ⟨b,0,none⟩)
def ptrD:Option Nat->DataW Unit
 |none=> .nil
 |some b=> .lit (.int .i64 b)
def ptrElem(v:qV):Option (DataW Unit×List MemPlace):=match v with
 | .pointer none=>some (.nil,[])
 | .pointer (some a)=>if a=⟨a.block,0,none⟩ then some (.lit (.int .i64 a.block),[]) else none
 |_=>none
theorem s9(o:Option Nat):ptrElem (ptrV o)=some (ptrD o,[]):=by cases o<;>simp [ptrElem,ptrV,ptrD]
theorem td{v:qV}{o:Option Nat}{ps:List MemPlace}(h:ptrElem v=some (ptrD o,ps)):v=ptrV o:=by
 unfold ptrElem at h
 split at h
 ·cases o with
  |none=>rfl
  |some b=>simp [ptrD] at h
 ·rename_i a
  split at h
  ·rename_i ha
   cases o with
   |none=>simp [ptrD] at h
   |some b=>
    simp [ptrD] at h
    have hb:a.block=b:=by omega
    rw [ha,hb]
    rfl
  ·cases h
 ·cases h
theorem lP:Keyed Tryz.prog 3:=int_keyed Tryz.underlying3
theorem oq(W:qW):(zeroValue 253).run Tryz.prog W= .ok (.pointer none) W:=by kernel_rfl
def PMap(w:qW)(B n:Nat)(bl:Int->Option Nat):Prop:=
 ∃D,w.ownsMap Tryz.prog 3 ptrElem B n D/\ ∀r,D.atKey (.int .i64 r) .nil=ptrD (bl r)
theorem tC(w:qW):PMap (w.alloc (.map #[] 0)) w.heap.size 0 (fun _=>none):=⟨_,World.ownsMap_made _ _ _ _,fun _=>rfl⟩
theorem PMap.keep{w w':qW}{B n:Nat}{bl:Int->Option Nat}(h:PMap w B n bl)(hk:w'.heap[B]?=w.heap[B]?):PMap w' B n bl:=by
 obtain ⟨D,⟨es,clock,hb,r⟩,hD⟩:=h
 exact ⟨D,⟨es,clock,hk.trans hb,r⟩,hD⟩
theorem PMap.lt{w:qW}{B n:Nat}{bl:Int->Option Nat}(h:PMap w B n bl):B<w.heap.size:=by
 obtain ⟨D,h,_⟩:=h
 exact h.lt
theorem PMap.below{w w':qW}{B n:Nat}{bl:Int->Option Nat}(h:PMap w B n bl)(hb:Below w.heap.size w w'):PMap w' B n bl:=h.keep (hb.block B h.lt)
theorem PMap.set{w:qW}{B n:Nat}{bl:Int->Option Nat}(h:PMap w B n bl){a:Addr}(ha:B≠a.block)(u:qV):PMap (w.setCell a u) B n bl:=by
 obtain ⟨D,h,hD⟩:=h
 exact ⟨D,h.setCell ha u,hD⟩
theorem PMap.mono{w:qW}{B n m:Nat}{bl:Int->Option Nat}(h:PMap w B n bl)(hm:n<=m):PMap w B m bl:=by
 obtain ⟨D,h,hD⟩:=h
 exact ⟨D,h.mono hm,hD⟩
theorem PMap.look{w:qW}{B n:Nat}{bl:Int->Option Nat}(h:PMap w B n bl)(r:Int)(hr:(Lit.int .i64 r).wf=true):(Instr.lookup 248 (.map (some B)) (.int .i64 r) false).run Tryz.prog w= .ok (ptrV (bl r)) w:=by
 obtain ⟨D,h,hD⟩:=h
 obtain ⟨v,ps,wU,hv⟩:=h.lookup lP Tryz.underlying248 (oq w) (zd:= .nil) (zp:=[]) rfl (keyOf_int_mk Tryz.underlying3 hr)
 rw [hD r] at hv
 rw [wU,td hv]
theorem PMap.store{w:qW}{B n:Nat}{bl:Int->Option Nat}(h:PMap w B n bl)(hn:n<maxLen)(r:Int)(hr:(Lit.int .i64 r).wf=true)(b:Nat):
  ∃w',(Instr.mapUpdate 248 (.map (some B)) (.int .i64 r) (ptrV (some b))).run Tryz.prog w= .ok () w'/\PMap w' B (n+1) (fun q=>if q=r then some b else bl q)/\w.grownBy w' (some B):=by
 obtain ⟨D,h,hD⟩:=h
 obtain ⟨w',wU,ho,hg⟩:=h.update lP Tryz.underlying248 hn (keyOf_int_mk Tryz.underlying3 hr) (s9 (some b))
 refine ⟨w',wU,⟨_,ho,fun q=>?_⟩,hg⟩
 by_cases hq:q=r
 ·subst hq
  simp only [if_true]
  exact Maps.atKey_put_same h.isMap (by trivial) _ _
 ·simp only [if_neg hq]
  rw [Maps.atKey_put_other (fun e=>hq (by simpa using e))]
  exact hD q
end Go.Proofs.YtcekjfmfcefjpaaGreatDoor
