/- Walks. No condition. -/
import Derived.Handy
import Derived.Lib.SliceRun
import Derived.Deep.CutRange
import Derived.Deep.LoopGhost
import Derived.OwnWalk
import Derived.Maps.RangeWalk
import Derived.Lib.AppendZerosOnto
import Derived.Maps.Own
import Derived.Maps.Views
import Derived.Test.YtjmfoeajhiimnaaGreatDoorProg
import Derived.Test.YtjmfoeajhiimnaaGreatDoorG08
set_option maxRecDepth 100000
set_option maxHeartbeats 0
set_option linter.all false
namespace Go.Proofs.YtjmfoeajhiimnaaGreatDoor
section
open Go.RowKit Go.Sort
theorem ydf{α:Type}(g:Nat->Option α)(r:α)(m:Nat): ∀k,k<m->(∀j,j<k->g j=none)->g k=some r->(List.range m).findSome? g=some r:=by
 intro k hk h0 h1
 rw [List.findSome?_eq_some_iff]
 refine ⟨List.range k,k,(List.range (m-k)).tail.map (fun x=>k+x),?_,h1,fun x hx=>h0 x (List.mem_range.1 hx)⟩
 obtain ⟨d,rfl⟩: ∃d,m=k+(d+1):=⟨m-k-1,by omega⟩
 rw [List.range_add,(show k+(d+1)-k=d+1 by omega),List.range_succ_eq_map]
 simp
theorem ydU{w k:Nat}{r:Ins}(hk:k<32)(h0: ∀j,j<k->decOne ((j+1:Nat):Int) w=none)(h1:decOne ((k+1:Nat):Int) w=some r):decF w=some r:=
 ydf (fun k=>decOne ((k+1:Nat):Int) w) r 32 k hk h0 h1
theorem ydT{w:Nat}(h0: ∀j,j<32->decOne ((j+1:Nat):Int) w=none):decF w=none:=by
 unfold decF
 rw [List.findSome?_eq_none_iff]
 exact fun x hx=>h0 x (List.mem_range.1 hx)
theorem ydO(w:Nat)(hw:w<4294967296)(W:qW):qC 16 #[.int .u32 w] W (Gives W (.tuple #[insV ((decF w).getD (Ins.zero 0)),iI (if (decF w).isSome then 0 else 2)])):=by
 have O:=Zh (fun op W=>vz op w hw W)
 have Qq:Hid (∀(k:Nat) (r:Ins),k<32->(∀j,j<k->decOne ((j+1:Nat):Int) w=none)->decOne ((k+1:Nat):Int) w=some r->decF w=some r):=Zh (fun k r h1 h2 h3=>ydU h1 h2 h3)
 have NON:=Zh (@ydT w)
 generalize hD:decF w=D at*
 clear hD
 generalize hV:insV (D.getD (Ins.zero 0))=V
 generalize hE:(if D.isSome then (0:Int) else 2)=E
 have HV:=Zh hV
 have HE:=Zh hE
 clear hV hE
 go_enter Tryz.func16,Tryz.ntmps16
 go_wp2_with fail
 have AD:InsAt (W.alloc (.cells #[iI 0,iI 0,iI 0,iI 0,iI 0,iI 0,iI 0] 83)) W.heap.size (Ins.zero 0):=fun k hk=>by
  match k,hk with
  |0,_|1,_|2,_|3,_|4,_|5,_|6,_=>simp [go_sem,Ins.get,Ins.zero]
 have Cu:=Zh AD
 clear AD
 generalize hZ:W.heap.size=Z at Cu ⊢
 go_loopw [4] (fun v4 wr=> ∃k:Nat,k<=32/\v4=iI ((k+1:Nat):Int)/\Below W.heap.size W wr/\Z<wr.heap.size/\InsAt wr Z (Ins.zero 0)/\ ∀j,j<k->decOne ((j+1:Nat):Int) w=none) (fun v4 _=>33-(intOf v4).toNat)
 case atStart=>exact ⟨0,by omega,rfl,by repeat (first|exact zaa _ _|refine aG ?_ _|refine ab ?_ _),by rw [<-hZ];simp,Cu.out,fun j hj=>by omega⟩
 case round=>
  obtain ⟨k,hk,rfl,hb,xe,hi,hn⟩:=hrel
  have HB:=Zh hb
  have HI:=Zh hi
  have HN:=Zh hn
  clear hb hi hn
  have Bx:((k+1:Nat):Int)=(k:Int)+1:=by omega
  by_cases xZ:(k:Int)+1<=32
  ·go_wp2_with (first
    |(go_at_call 32;refine (O.out _ _).mono ?_;rintro e X ⟨⟨r0,r1,r2,r3,r4,r5,r6⟩,bo,rfl,Ch,hX⟩;have zH:=Zh (HI.out.below (w':=X) xe (by obtain ⟨p,rfl⟩:=hX;exact au _ _));have Mq:=Zh (bR HB.out (w':=X) (by obtain ⟨p,rfl⟩:=hX;exact au _ _));have Mp:Z<X.heap.size:=(by obtain ⟨p,rfl⟩:=hX;simp [go_sem];omega);clear hX;have Il:=Zh Ch;clear Ch;obtain ⟨x0,x0'⟩:=zH.out 0 Za;obtain ⟨x1,x1'⟩:=zH.out 1 Za;obtain ⟨x2,x2'⟩:=zH.out 2 Za;obtain ⟨x3,x3'⟩:=zH.out 3 Za;obtain ⟨x4,x4'⟩:=zH.out 4 Za;obtain ⟨x5,x5'⟩:=zH.out 5 Za;obtain ⟨x6,x6'⟩:=zH.out 6 Za))
   ·have e1:=Il.out
    rw [if_pos ‹bo=true›] at e1
    have e2:=Qq.out k _ Za HN.out (by rw [Bx];exact e1)
    have v1:=HV.out
    have v2:=HE.out
    rw [e2] at v1 v2
    simp [insV] at v1 v2
    subst v1 v2
    generalize As:(((((((X.setCell ⟨Z,0,none⟩ (iI r0)).setCell ⟨Z,1,none⟩ (iI r1)).setCell ⟨Z,2,none⟩ (iI r2)).setCell ⟨Z,3,none⟩ (iI r3)).setCell ⟨Z,4,none⟩ (iI r4)).setCell ⟨Z,5,none⟩ (iI r5)).setCell ⟨Z,6,none⟩ (iI r6))=X7
    have yw:InsAt X7 Z ⟨r0,r1,r2,r3,r4,r5,r6⟩:=by rw [<-As];exact InsAt.set7 zH.out r0 r1 r2 r3 r4 r5 r6
    have Fj:Z<X7.heap.size:=by rw [<-As];simp;omega
    have q0:X7.cell? ⟨Z,0,none⟩=some (iI r0):=(yw 0 Za).1
    have q1:X7.cell? ⟨Z,1,none⟩=some (iI r1):=(yw 1 Za).1
    have q2:X7.cell? ⟨Z,2,none⟩=some (iI r2):=(yw 2 Za).1
    have q3:X7.cell? ⟨Z,3,none⟩=some (iI r3):=(yw 3 Za).1
    have q4:X7.cell? ⟨Z,4,none⟩=some (iI r4):=(yw 4 Za).1
    have q5:X7.cell? ⟨Z,5,none⟩=some (iI r5):=(yw 5 Za).1
    have q6:X7.cell? ⟨Z,6,none⟩=some (iI r6):=(yw 6 Za).1
    have Ec:=Zh (show Below W.heap.size W X7 by rw [<-As];exact ay (ay (ay (ay (ay (ay (ay Mq.out Zk _) Zk _) Zk _) Zk _) Zk _) Zk _) Zk _)
    clear As yw
    (try simp only [Exit.inBlock,Exit.then])
    refine zad (by simp [results,Tryz.results16,go_sem,Fj,q0,q1,q2,q3,q4,q5,q6];try rfl) rfl ?_
    exact Gives.mk rfl (ab Ec.out _)
   ·have e1:=Il.out
    rw [if_neg (by simp [‹bo=false›])] at e1
    go_roundw
    case rel=>
     refine ⟨k+1,by omega,by go_num,ab Mq.out _,by simp [go_sem];omega,zH.out.below Mp ZY,fun j hj=>?_⟩
     rcases zaJ j k with h|h
     ·exact HN.out j h
     ·obtain rfl:k=j:=by omega
      rw [Bx]
      exact e1
    case measure=>simp [intOf];omega
  ·obtain ⟨x0,x0'⟩:=HI.out 0 Za
   obtain ⟨x1,x1'⟩:=HI.out 1 Za
   obtain ⟨x2,x2'⟩:=HI.out 2 Za
   obtain ⟨x3,x3'⟩:=HI.out 3 Za
   obtain ⟨x4,x4'⟩:=HI.out 4 Za
   obtain ⟨x5,x5'⟩:=HI.out 5 Za
   obtain ⟨x6,x6'⟩:=HI.out 6 Za
   have e2:=NON.out (fun j hj=>HN.out j Za)
   have v1:=HV.out
   have v2:=HE.out
   rw [e2] at v1 v2
   simp [insV,Ins.zero] at v1 v2
   subst v1 v2
   go_wp2_with fail
   generalize As:(((((((wr.setCell ⟨Z,0,none⟩ (iI 0)).setCell ⟨Z,1,none⟩ (iI 0)).setCell ⟨Z,2,none⟩ (iI 0)).setCell ⟨Z,3,none⟩ (iI 0)).setCell ⟨Z,4,none⟩ (iI 0)).setCell ⟨Z,5,none⟩ (iI 0)).setCell ⟨Z,6,none⟩ (iI 0))=X7
   have yw:InsAt X7 Z ⟨0,0,0,0,0,0,0⟩:=by rw [<-As];exact InsAt.set7 HI.out 0 0 0 0 0 0 0
   have Fj:Z<X7.heap.size:=by rw [<-As];simp;omega
   have q0:X7.cell? ⟨Z,0,none⟩=some (iI 0):=(yw 0 Za).1
   have q1:X7.cell? ⟨Z,1,none⟩=some (iI 0):=(yw 1 Za).1
   have q2:X7.cell? ⟨Z,2,none⟩=some (iI 0):=(yw 2 Za).1
   have q3:X7.cell? ⟨Z,3,none⟩=some (iI 0):=(yw 3 Za).1
   have q4:X7.cell? ⟨Z,4,none⟩=some (iI 0):=(yw 4 Za).1
   have q5:X7.cell? ⟨Z,5,none⟩=some (iI 0):=(yw 5 Za).1
   have q6:X7.cell? ⟨Z,6,none⟩=some (iI 0):=(yw 6 Za).1
   have Ec:=Zh (show Below W.heap.size W X7 by rw [<-As];exact ay (ay (ay (ay (ay (ay (ay HB.out Zk _) Zk _) Zk _) Zk _) Zk _) Zk _) Zk _)
   clear As yw
   (try simp only [Exit.inBlock,Exit.then])
   refine zad (by simp [results,Tryz.results16,go_sem,Fj,q0,q1,q2,q3,q4,q5,q6];try rfl) rfl ?_
   exact Gives.mk rfl Ec.out
theorem bu{w:qW}{b o:Nat}{v:qV}(h:w.cell? ⟨b,o,none⟩=some v):b<w.heap.size:=by
 rcases zaJ b w.heap.size with hl|hl
 ·exact hl
 ·have:w.heap[b]?=none:=zaW hl
  simp [World.cell?,this] at h
inductive Onto (B:Nat) (w:qW):qW->Prop
 |refl:Onto B w w
 |set {w1:qW} (h:Onto B w w1) (k:Nat) (v:qV):Onto B w (w1.setCell ⟨B,k,none⟩ v)
 |more {w1:qW} (h:Onto B w w1) (p:Regrown):Onto B w (more w1 p)
 |alloc {w1:qW} (h:Onto B w w1) (o:Obj):Onto B w (w1.alloc o)
theorem Onto.trans{B:Nat}{a b c:qW}(h:Onto B a b)(k:Onto B b c):Onto B a c:=by
 induction k with
 |refl=>exact h
 |set _ k v ih=>exact ih.set k v
 |more _ p ih=>exact ih.more p
 |alloc _ o ih=>exact ih.alloc o
theorem Onto.size{B:Nat}{a b:qW}(h:Onto B a b):a.heap.size<=b.heap.size:=by
 induction h with
 |refl=>exact zaq _
 |set _ k v ih=>simpa using ih
 |more _ p ih=>rw [aZ];omega
 |alloc _ o ih=>simp;omega
theorem Onto.cell{B:Nat}{a b:qW}(h:Onto B a b){c k:Nat}(hc:c<a.heap.size)(hB:c≠B):b.cell? ⟨c,k,none⟩=a.cell? ⟨c,k,none⟩:=Z69_
theorem Onto.frozen{B:Nat}{a b:qW}(h:Onto B a b){c k:Nat}(hc:c<a.heap.size):b.frozen? ⟨c,k,none⟩=a.frozen? ⟨c,k,none⟩:=Z70_
theorem Onto.under{B:Nat}{w a b:qW}(h:Onto B a b)(hb:Below w.heap.size w a)(hB:w.heap.size<=B):Below w.heap.size w b:=by
 induction h with
 |refl=>exact hb
 |set _ k v ih=>exact ay ih hB v
 |more _ p ih=>exact aG ih p
 |alloc _ o ih=>exact ab ih o
theorem Onto.setCells{B:Nat}{a:qW}: ∀(vs:List qV) (o:Nat) (w:qW),Onto B a w->Onto B a (w.setCells B o vs)
 |[],_,_,h=>h
 |v::r,o,_,h=>Onto.setCells r (o+1) _ (h.set o v)
end
section
open Go.RowKit Go.Sort Go.Lib
theorem ly(x:Int)(w:qW):qC 213 #[iI x] w fun e w'=>e= .returned (.bool (decide (x<0)))/\w=w':=by
 go_enter Tryz.func213,Tryz.ntmps213
 go_wp2
 go_ret
 exact ⟨rfl,rfl⟩
def Fst(L:Nat->Int)(n:Nat)(r:Int):Prop:=(r= -1/\ ∀j,j<n->0<=L j)\/ ∃k:Nat,k<n/\r=k/\L k<0/\ ∀j,j<k->0<=L j
theorem yb9(L:Nat->Int)(n b cap:Nat)(hn:n<=100)(w:qW)(hc: ∀j,j<n->w.cell? (aB b j)=some (iI (L j))):
  qC 276 #[.slice (aA b) n cap,.func (.func 213) #[] #[]] w fun e w'=>(∃r,e= .returned (iI r)/\Fst L n r)/\w=w':=by
 have NE:=Zh (fun x W=>ly x W)
 have HC:=Zh hc
 clear hc
 go_enter Tryz.func276,Tryz.ntmps276
 go_wp2
 go_loop [8] (fun i=> ∃k:Nat,k<=n/\i=iI k/\ ∀j,j<k->0<=L j) (fun i=>n-(intOf i).toNat)
 case atStart=>exact ⟨0,by omega,rfl,fun j hj=>by omega⟩
 case round=>
  obtain ⟨k,hk,rfl,hl⟩:=hrel
  have HL:=Zh hl
  clear hl
  by_cases xe:(k:Int)<n
  ·have yv:=HC.out k Za
   by_cases h0:L k<0
   ·have hd:decide (L k<0)=true:=by simpa using h0
    have HR:=Zh h0
    generalize L k=x at yv h0 hd
    go_wp2_with (go_at_call 213;refine (NE.out _ _).mono ?_;rintro e w1 ⟨rfl,rfl⟩)
    go_ret
    exact ⟨⟨_,rfl,Or.inr ⟨k,by omega,rfl,HR.out,HL.out⟩⟩,rfl⟩
   ·have hd:decide (L k<0)=false:=by simpa using h0
    have HR:=Zh h0
    generalize L k=x at yv h0 hd
    go_wp2_with (go_at_call 213;refine (NE.out _ _).mono ?_;rintro e w1 ⟨rfl,rfl⟩)
    go_round
    case rel=>exact ⟨k+1,by omega,by go_num,fun j hj=>by
     rcases zaJ j k with h|h
     ·exact HL.out j h
     ·obtain rfl:j=k:=by omega
      have:=HR.out
      omega⟩
    case measure=>simp [intOf];omega
  ·obtain rfl:k=n:=by omega
   go_wp2
   go_ret
   exact ⟨⟨_,rfl,Or.inl ⟨rfl,HL.out⟩⟩,rfl⟩
def kept(L:Nat->Int)(n:Nat):List Int:=((List.range n).map L).filter (fun x=>decide (0<=x))
theorem dQ(L:Nat->Int)(n:Nat):kept L (n+1)=if 0<=L n then kept L n++[L n] else kept L n:=by
 unfold kept
 rw [List.range_succ,List.map_append,List.filter_append]
 by_cases h:0<=L n<;>simp [h]
theorem dR(L:Nat->Int)(n:Nat):(kept L n).length<=n:=by
 unfold kept
 refine zal (List.length_filter_le _ _) Zg
theorem ie(L:Nat->Int)(n:Nat)(h: ∀j,j<n->0<=L j):kept L n=(List.range n).map L:=by
 unfold kept
 refine List.filter_eq_self.2 fun x hx=>?_
 obtain ⟨j,hj,rfl⟩:=List.mem_map.1 hx
 simpa using h j (List.mem_range.1 hj)
structure DelW(w wr:qW)(L:Nat->Int)(n b j:Nat):Prop where
 onto:Onto b w wr
 low: ∀t x,(kept L j)[t]?=some x->wr.cell? (aB b t)=some (iI x)
 high: ∀t,j<=t->t<n->wr.cell? (aB b t)=some (iI (L t))
 there: ∀t,t<n->(wr.cell? (aB b t)).isSome=true/\wr.frozen? (aB b t)=false
 less:(kept L j).length<j
theorem DelW.skip{w wr:qW}{L:Nat->Int}{n b j:Nat}(h:DelW w wr L n b j)(hx:L j<0):DelW w wr L n b (j+1):=by
 have e:kept L (j+1)=kept L j:=by rw [dQ,if_neg Za]
 refine ⟨h.onto,?_,fun t h1 h2=>h.high t Za h2,h.there,?_⟩
 ·rw [e];exact h.low
 ·rw [e];have:=h.less;omega
theorem DelW.keep{w wr:qW}{L:Nat->Int}{n b j:Nat}(h:DelW w wr L n b j)(hj:j<n)(hx:0<=L j):DelW w (wr.setCell ⟨b,(kept L j).length,none⟩ (iI (L j))) L n b (j+1):=by
 have e:kept L (j+1)=kept L j++[L j]:=by rw [dQ,if_pos hx]
 have hl:=h.less
 have hv:=h.there (kept L j).length Za
 obtain ⟨u,hu⟩:=Option.isSome_iff_exists.1 hv.1
 refine ⟨h.onto.set _ _,?_,?_,?_,?_⟩
 ·rw [e]
  intro t x ht
  by_cases zJ:t<(kept L j).length
  ·rw [zah zJ] at ht
   rw [zaH _ _ _ _ (fun e=>by have:=congrArg Addr.off e;simp at this;omega)]
   exact h.low t x ht
  ·rw [zai Za] at ht
   have C8:t=(kept L j).length:=by
    have:=(List.getElem?_eq_some_iff.1 ht).1
    simp at this
    omega
   subst C8
   simp at ht
   subst ht
   exact zaF _ _ _ hu
 ·intro t h1 h2
  rw [zaH _ _ _ _ (fun e=>by have:=congrArg Addr.off e;simp at this;omega)]
  exact h.high t Za h2
 ·intro t ht
  rw [zaG]
  refine ⟨?_,(h.there t ht).2⟩
  by_cases C8:t=(kept L j).length
  ·subst C8
   rw [zaF _ _ _ hu]
   rfl
  ·rw [zaH _ _ _ _ (fun e=>by have:=congrArg Addr.off e;simp at this;omega)]
   exact (h.there t ht).1
 ·rw [e]
  simp
  omega
theorem oI(W:qW):(zeroValue 3).run Tryz.prog W= .ok (iI 0) W:=by kernel_rfl
theorem ydN(L:Nat->Int)(n b cap:Nat)(hn:n<=100)(yA:n<=cap)(Dn:cap<=100)(w:qW)(hc: ∀j,j<n->w.cell? (aB b j)=some (iI (L j))/\w.frozen? (aB b j)=false):
  qC 212 #[.slice (aA b) n cap,.func (.func 213) #[] #[]] w fun e w'=>e= .returned (.slice (aA b) (kept L n).length cap)/\Onto b w w'/\ ∀t x,(kept L n)[t]?=some x->w'.cell? (aB b t)=some (iI x):=by
 have NE:=Zh (fun x W=>ly x W)
 have IX:=Zh (yb9 L n b cap hn w (fun j hj=>(hc j hj).1))
 have HC:=Zh hc
 clear hc
 go_enter Tryz.func212,Tryz.ntmps212
 go_upto_region 2 with (go_at_call 276;refine (IX.out).mono ?_;rintro e w1 ⟨⟨r,rfl,hr⟩,rfl⟩)
 rcases hr with ⟨rfl,xw⟩|⟨k,hk,rfl,AU,Ej⟩
 ·have HK:=Zh (ie L n xw)
  clear xw
  go_wp2_with fail
  go_ret
  refine ⟨by rw [HK.out];simp,Onto.refl,fun t x ht=>?_⟩
  rw [HK.out] at ht
  have BM:t<n:=by
   have:=(List.getElem?_eq_some_iff.1 ht).1
   simpa using this
  rw [zaj,List.getElem?_range BM] at ht
  simp at ht
  subst ht
  exact (HC.out t BM).1
 ·have h0:DelW w w L n b (k+1):=by
   have e:kept L (k+1)=(List.range k).map L:=by rw [dQ,if_neg Za,ie L k Ej]
   refine ⟨Onto.refl,?_,fun t _ h2=>(HC.out t h2).1,fun t ht=>⟨by rw [(HC.out t ht).1];rfl,(HC.out t ht).2⟩,by rw [e];simp⟩
   rw [e]
   intro t x ht
   have BM:t<k:=by
    have:=(List.getElem?_eq_some_iff.1 ht).1
    simpa using this
   rw [zaj,List.getElem?_range BM] at ht
   simp at ht
   subst ht
   exact (HC.out t Za).1
  have ym:(kept L (k+1)).length=k:=by rw [dQ,if_neg Za,ie L k Ej];simp
  have H0:=Zh h0
  have AM:=Zh ym
  clear h0 ym AU Ej
  have hne:((k:Int)== -1)=false:=by simp
  go_wp2_with fail
  go_loopw [5,6,7] (fun v5 v6 _ wr=> ∃j:Nat,j<=n/\v5=iI ((kept L j).length:Nat)/\v6=iI j/\DelW w wr L n b j) (fun _ v6 _ _=>n-(intOf v6).toNat)
  case atStart=>exact ⟨k+1,by omega,by rw [AM.out],by go_num,H0.out⟩
  case round=>
   obtain ⟨j,hj,rfl,rfl,hd⟩:=hrel
   have LX:=hd.less
   have HD:=Zh hd
   clear hd H0 AM
   have JZ:=dR L j
   by_cases xe:(j:Int)<n
   ·have Mg:=HD.out.high j (zaq _) Za
    by_cases hx:L j<0
    ·have hq:decide (L j<0)=true:=by simpa using hx
     have HS:=Zh (HD.out.skip hx)
     have HE:Hid ((kept L (j+1)).length=(kept L j).length):=Zh (by rw [dQ,if_neg Za])
     generalize L j=x at Mg hx hq
     generalize (kept L j).length=i at*
     go_wp2_with (go_at_call 213;refine (NE.out _ _).mono ?_;rintro e w1 ⟨rfl,rfl⟩)
     go_roundw
     case rel=>exact ⟨j+1,by omega,by rw [HE.out],by go_num,HS.out⟩
     case measure=>simp [intOf];omega
    ·have hq:decide (L j<0)=false:=by simpa using hx
     have HS:=Zh (HD.out.keep Za Za)
     have HE:Hid ((kept L (j+1)).length=(kept L j).length+1):=Zh (by rw [dQ,if_pos Za];simp)
     have Do:=HD.out.there (kept L j).length Za
     obtain ⟨u,hu⟩:=Option.isSome_iff_exists.1 Do.1
     have Rd:=Do.2
     clear Do
     generalize L j=x at Mg hx hq HS
     generalize (kept L j).length=i at*
     go_wp2_with (go_at_call 213;refine (NE.out _ _).mono ?_;rintro e w1 ⟨rfl,rfl⟩)
     go_roundw
     case rel=>exact ⟨j+1,by omega,by rw [HE.out];go_num,by go_num,HS.out⟩
     case measure=>simp [intOf];omega
   ·obtain rfl:j=n:=by omega
    have Br:=Zh (fun ty=>run_clear_slice (P:=Tryz.prog) wr 46 3 ty (iI 0) Tryz.underlying46 oI rfl rfl b (kept L j).length (j-(kept L j).length) (cap-(kept L j).length) Za (fun t ht=>(HD.out.there _ Za).1) (fun t ht=>(HD.out.there _ Za).2))
    have i':=Br.out
    clear Br
    generalize hi:(kept L j).length=i at*
    go_wp2_with fail
    go_ret
    refine ⟨rfl,Onto.setCells _ _ _ HD.out.onto,fun t x ht=>?_⟩
    have zJ:t<i:=by
     have:=(List.getElem?_eq_some_iff.1 ht).1
     omega
    rw [World.cell?_setCells_out _ _ _ _ _ (fun _ _=>Or.inl zJ)]
    exact HD.out.low t x ht
theorem il:(Tryz.prog.info? 3).map (fun i=>(i.zero,i.size,i.bytes))=some (some (iI 0),1,8):=by kernel_rfl
theorem ycq(w:qW):qC 136 #[.slice none 0 0,iI 0] w fun e w'=>e= .returned (.slice none 0 0)/\w=w':=by
 go_enter Tryz.func136,Tryz.ntmps136
 go_wp2
 go_ret
 exact ⟨rfl,rfl⟩
theorem ycr(n:Nat)(h0:0<n)(hn:n<=100)(w:qW):qC 136 #[.slice none 0 0,iI n] w fun e w'=> ∃b G,e= .returned (.slice (aA b) 0 G)/\(∃p:Regrown,w'=more w p)/\w'.ownsRow w.heap.size 3 1 (.slice (aA b) 0 G) 0 []/\n<=G:=by
 obtain ⟨i0,hi,xx,xu,xq⟩:=zan il
 have Iy:=fun ty=>Lib.run_append_grow_zeros (P:=Tryz.prog) w 46 3 ty 3 i0 (iI 0) .i64 .i64 Tryz.underlying46 Tryz.underlying3 hi xx none 0 0 [] (by rw [xu];exact run_firstCells_none w.drew 1 0 0 0) n h0 Za Za Za (by rw [xq];omega) (by rw [xq];exact growslice_fits Za Za)
 rw [zag] at Iy
 have hG:=grownCap_ge w n 0 3
 have C6:=grownCap_le_maxLen w n 0 3 (by unfold maxLen;omega)
 generalize grownCap w n 0 3=G at Iy hG C6
 have PW:=Zh Iy
 have Ps:G<=9223372036854775807:=C6
 clear Iy
 go_enter Tryz.func136,Tryz.ntmps136
 go_wp2_with (at_builtin;refine Lib.wpList_append_run _ rfl _ _ _ _ rfl _ _ rfl rfl _ _ (PW.out _) ?_)
 all_goals
  go_ret
  refine ⟨w.heap.size,G,rfl,bC (ag (ab (zaa _ _) _)),⟨rfl,.inr ⟨w.heap.size,G,_,rfl,zaq _,zab w _,zaB _,C6,?_,by simp⟩⟩,hG⟩
  simp [Builtin.zeroCells]
  omega
def NumsAt(w:qW)(b:Nat)(l:List Int):Prop:= ∀t x,l[t]?=some x->w.cell? (aB b t)=some (iI x)
theorem NumsAt.news{w:qW}{b:Nat}{l:List Int}(h:NumsAt w b l): ∀j u,(l.map (Value.int .i64))[j]?=some u->w.cell? ((⟨b,0,none⟩:Addr).add j)=some u:=by
 intro j u hu
 rw [zaj] at hu
 obtain ⟨x,hx,rfl⟩:=Option.map_eq_some_iff.1 hu
 rw [Addr.add_lit,zag]
 exact h j x hx
theorem NumsAt.below{w w':qW}{b:Nat}{l:List Int}(h:NumsAt w b l)(hb:Below w.heap.size w w'):NumsAt w' b l:=fun t x ht=>
 (hb.cell (p:=⟨b,t,none⟩) (bu (h t x ht))).trans (h t x ht)
theorem NumsAt.grown{w w':qW}{b g:Nat}{l:List Int}(h:NumsAt w b l)(hg:w.grownBy w' (some g))(hne:b≠g):NumsAt w' b l:=fun t x ht=>by
 have xe:=bu (h t x ht)
 have:=hg.block b xe (fun e=>hne (zae e))
 rw [<-h t x ht]
 simp [World.cell?,this]
theorem fH{a w w1:qW}{g:Nat}(hb:Below a.heap.size a w)(hg:w.grownBy w1 (some g))(hB:a.heap.size<=g):Below a.heap.size a w1:=
 hb.grown hg hb.size (fun k hk=>by cases hk;exact hB)
theorem yev(S b1 b2 c1 c2:Nat)(w:qW)(h0:w.cell? (aB S 0)=some (.slice (aA b1) 0 c1))(h1:w.cell? (aB S 1)=some (.slice (aA b2) 0 c2)):
  qC 87 #[.slice (aA S) 2 2] w fun e w'=>e= .returned (.slice none 0 0)/\w=w':=by
 have GZ:=Zh (fun W=>ycq W)
 obtain ⟨i0,hi,xx,xu,xq⟩:=zan il
 have Mm: ∀(W:qW) (ty:TypeId) (b c:Nat),(Builtin.append_ #[46,46] ty #[.slice none 0 0,.slice (aA b) 0 c]).run Tryz.prog W= .ok (.slice none 0 0) W:=fun W ty b c=>by
  have hf:=run_firstCells_some (P:=Tryz.prog) W i0.size 0 ⟨b,0,none⟩ 0 c [] Zg Zg
  simp [Builtin.append_,run_underlying Tryz.underlying46,run_underlying Tryz.underlying3,sizeOf,typeInfo,hi,Builtin.lenOf,hf]
 go_enter Tryz.func87,Tryz.ntmps87
 go_wp2
 refine zao 3 ?_;rw [zap]
 go_wp2;rw [zap]
 go_wp2;rw [zap]
 go_wp2_with (go_at_call 136;refine (GZ.out _).mono ?_;rintro e w1 ⟨rfl,rfl⟩)
 refine zao 3 ?_;rw [zap]
 go_wp2_with (at_builtin;refine Lib.wpList_append_run _ rfl _ _ _ _ rfl _ _ rfl rfl _ _ (Mm _ _ _ _) ?_);rw [zap]
 go_wp2_with (at_builtin;refine Lib.wpList_append_run _ rfl _ _ _ _ rfl _ _ rfl rfl _ _ (Mm _ _ _ _) ?_);rw [zap]
 go_wp2
 go_ret
 exact ⟨rfl,rfl⟩
theorem bM{w w':qW}{c g k:Nat}{v:qV}(h:w.cell? (aB c k)=some v)(hg:w.grownBy w' (some g))(hne:c≠g):w'.cell? (aB c k)=some v:=by
 have:=hg.block c (bu h) (fun e=>hne (zae e))
 rw [<-h]
 simp [World.cell?,this]
theorem aQ{w w':qW}{c k:Nat}{v:qV}(h:w.cell? (aB c k)=some v)(hb:Below w.heap.size w w'):w'.cell? (aB c k)=some v:=(hb.cell (p:=⟨c,k,none⟩) (bu h)).trans h
theorem uQ{w:qW}{base g n cap:Nat}{l:List Int}{xs:List qV}(h:w.ownsRow base 3 1 (.slice (aA g) n cap) n xs)(hx:xs=l.map (Value.int .i64)):NumsAt w g l:=fun t x ht=>by
 have hl:=h.1
 rw [hx] at hl
 have BM:=(List.getElem?_eq_some_iff.1 ht).1
 simp at hl
 rw [h.cellAt t Za,hx,zaj,ht]
 rfl
theorem yew(S b1 b2 c1 c2:Nat)(l1 l2:List Int)(CJ:l1.length<=3)(yE:l2.length<=3)(yy:0<l1.length+l2.length)(w:qW)(h0:w.cell? (aB S 0)=some (.slice (aA b1) l1.length c1))(h1:w.cell? (aB S 1)=some (.slice (aA b2) l2.length c2))(BY:NumsAt w b1 l1)(yS:NumsAt w b2 l2)(yn:b1<w.heap.size)(xA:b2<w.heap.size):
  qC 87 #[.slice (aA S) 2 2] w fun e w'=> ∃b G,e= .returned (.slice (aA b) (l1.length+l2.length) G)/\(∃p:Regrown,w'=more w p)/\NumsAt w' b (l1++l2)/\w.heap.size<=b/\l1.length+l2.length<=G/\G<=9223372036854775807:=by
 have GP:=Zh (fun (x:Int) (hx:x=((l1.length+l2.length:Nat):Int)) W=>(by subst hx;exact ycr (l1.length+l2.length) yy Za W:qC 136 #[.slice none 0 0,iI x] W fun e w'=> ∃b G,e= .returned (.slice (aA b) 0 G)/\(∃p:Regrown,w'=more W p)/\w'.ownsRow W.heap.size 3 1 (.slice (aA b) 0 G) 0 []/\l1.length+l2.length<=G))
 obtain ⟨i0,hi,xx,xu,xq⟩:=zan il
 have HS:=bu h0
 have H1:=Zh h1
 have H0:=Zh h0
 have Qf:=Zh BY
 have Dw:=Zh yS
 have HI:=Zh hi
 have HZ:=Zh xu
 clear BY yS xx xq hi xu
 generalize zU:l1.length=n1 at*
 generalize Al:l2.length=n2 at*
 replace zU:=Zh zU
 replace Al:=Zh Al
 go_enter Tryz.func87,Tryz.ntmps87
 go_wp2
 refine zao 3 ?_;rw [zap]
 go_wp2;rw [zap]
 go_wp2;rw [zap]
 go_wp2_with (go_at_call 136;refine (GP.out _ ?_ _).mono ?_;omega;rintro e w1 ⟨b,G,rfl,⟨p,rfl⟩,DR,hG⟩)
 have xo:=au w p
 generalize hW:more w p=W1 at DR xo ⊢
 have HW:=Zh hW
 clear hW
 have yb:w.heap.size<=b:=by
  rcases DR.2 with ⟨h,_⟩|⟨g',_,_,h,hg,_⟩
  ·simp at h
  ·simp only [Value.slice.injEq,zaA,Addr.mk.injEq,and_true,true_and] at h
   obtain ⟨rfl,_⟩:=h
   exact hg
 have C6:G<=9223372036854775807:=by
  rcases DR.2 with ⟨h,_⟩|⟨g',cap',_,h,hg,_,_,hm,_⟩
  ·simp at h
  ·simp only [Value.slice.injEq,zaA,Addr.mk.injEq,and_true,true_and] at h
   obtain ⟨_,rfl⟩:=h
   exact hm
 replace h0:=aQ H0.out xo
 replace h1:=aQ H1.out xo
 have N1:=Zh (Qf.out.below xo)
 have N2:=Zh (Dw.out.below xo)
 have yg:=Zh DR
 have Ac:=Zh xo
 clear DR xo
 refine zao 3 ?_;rw [zap]
 go_wp2_with (at_builtin;refine wpList_append_fits _ rfl _ _ 46 rfl w.heap.size 3 i0 1 Tryz.underlying46 HI.out HZ.out b 0 G [] rfl yg.out ⟨b1,0,none⟩ n1 c1 (l1.map (Value.int .i64)) rfl (by simp [zU.out]) N1.out.news (ints_oneCell .i64 l1) Za ?_;intro w2 own2 grow2;go_frame)
 simp only [zag,List.nil_append] at own2 ⊢
 have g1:=bM h1 grow2 Za
 have N3:=Zh (N2.out.grown grow2 Za)
 have z8:=Zh own2
 have xV:=Zh (fH Ac.out grow2 yb)
 clear own2 h0 h1 yg N1 N2 H0 H1 GP
 rw [zap]
 go_wp2_with (at_builtin;refine wpList_append_fits _ rfl _ _ 46 rfl w.heap.size 3 i0 1 Tryz.underlying46 HI.out HZ.out b n1 G (l1.map (Value.int .i64)) rfl z8.out ⟨b2,0,none⟩ n2 c2 (l2.map (Value.int .i64)) rfl (by simp [Al.out]) N3.out.news (ints_oneCell .i64 l2) Za ?_;intro w3 own3 grow3;go_frame)
 rw [zap]
 have Qb:=Zh own3
 have Ay:=Zh (fH xV.out grow3 yb)
 clear own3 grow3
 go_wp2
 go_ret
 refine ⟨b,G,rfl,bC Ay.out,uQ Qb.out Zg,yb,hG,C6⟩
structure LOp where
 k:Int
 d:Int
 d2:Int
 a:Int
 b:Int
 c:Int
 n:Int
 op:Int
 sz:Int
 od:Int
 tgt:Int
 st:Int
 ln:Int
def LOp.cs(o:LOp):Array qV:=#[iI o.k,iI o.d,iI o.d2,iI o.a,iI o.b,iI o.c,.int .u64 o.n,iI o.op,iI o.sz,iI o.od,iI o.tgt,iI o.st,iI o.ln]
def lopV(o:LOp):qV:= .agg o.cs
def bS(x y z:Int)(k:Nat):Int:=if k=0 then x else if k=1 then y else z
def usesL(o:LOp):List Int:=kept (bS o.a o.b o.c) 3
def setsL(o:LOp):List Int:=kept (bS o.d o.d2 0) 2
theorem jj(L:Nat->Int)(n b:Nat)(hn:n<=3)(w:qW)(hc: ∀j,j<n->w.cell? (aB b j)=some (iI (L j))/\w.frozen? (aB b j)=false):
  qC 137 #[.slice (aA b) n n] w fun e w'=>e= .returned (.slice (aA b) (kept L n).length n)/\Onto b w w'/\NumsAt w' b (kept L n):=by
 have DE:=Zh (ydN L n b n Za Za Za w hc)
 clear hc
 go_enter Tryz.func137,Tryz.ntmps137
 go_wp2_with (go_at_call 212;refine (DE.out).mono ?_;rintro e w1 ⟨rfl,ho,hn⟩)
 go_ret
 exact ⟨rfl,ho,hn⟩
def GivesRow(w:qW)(l:List Int)(cap:Nat)(e:Ending)(w':qW):Prop:= ∃b,e= .returned (.slice (aA b) l.length cap)/\(∃p:Regrown,w'=more w p)/\NumsAt w' b l/\w.heap.size<=b/\b<w'.heap.size
theorem pj(o:LOp)(w:qW):qC 88 #[lopV o] w (GivesRow w (usesL o) 3):=by
 have TH:=Zh (fun b W hc=>jj (bS o.a o.b o.c) 3 b Za W hc)
 obtain ⟨k,d,d2,a,b,c,n,op,sz,od,tgt,st,ln⟩:=o
 unfold lopV LOp.cs
 unfold usesL
 simp only at*
 have hl:=dR (bS a b c) 3
 generalize hk:kept (bS a b c) 3=l at TH hl ⊢
 replace hk:=Zh hk
 go_enter Tryz.func88,Tryz.ntmps88
 go_wp2_with (go_at_call 137;refine (TH.out (w.heap.size+1) _ ?_).mono ?_)
 ·intro j hj
  rcases (show j=0\/j=1\/j=2 by omega) with rfl|rfl|rfl
  all_goals (unfold bS;simp [go_sem])
 ·rintro e w1 ⟨rfl,ho,hn⟩
  go_wp2
  go_ret
  refine ⟨w.heap.size+1,rfl,bC (ho.under (ab (ab (zaa _ _) _) _) Za),hn,by omega,?_⟩
  have:=ho.size
  simp at this
  omega
theorem rU(o:LOp)(w:qW):qC 89 #[lopV o] w (GivesRow w (setsL o) 2):=by
 have TH:=Zh (fun b W hc=>jj (bS o.d o.d2 0) 2 b Za W hc)
 obtain ⟨k,d,d2,a,b,c,n,op,sz,od,tgt,st,ln⟩:=o
 unfold lopV LOp.cs
 unfold setsL
 simp only at*
 have hl:=dR (bS d d2 0) 2
 generalize hk:kept (bS d d2 0) 2=l at TH hl ⊢
 replace hk:=Zh hk
 go_enter Tryz.func89,Tryz.ntmps89
 go_wp2_with (go_at_call 137;refine (TH.out (w.heap.size+1) _ ?_).mono ?_)
 ·intro j hj
  rcases (show j=0\/j=1 by omega) with rfl|rfl
  all_goals (unfold bS;simp [go_sem])
 ·rintro e w1 ⟨rfl,ho,hn⟩
  go_wp2
  go_ret
  refine ⟨w.heap.size+1,rfl,bC (ho.under (ab (ab (zaa _ _) _) _) Za),hn,by omega,?_⟩
  have:=ho.size
  simp at this
  omega
end
section
open Go.RowKit Go.Sort Go.Maps
def ptrV:Option Nat->qV
 |none=> .pointer none
 |some b=> .pointer (some ⟨b,0,none⟩)
def ptrD:Option Nat->DataW Unit
 |none=> .nil
 |some b=> .lit (.int .i64 b)
def ptrElem(v:qV):Option (DataW Unit×List MemPlace):=match v with
 | .pointer none=>some (.nil,[])
 | .pointer (some a)=>if a=⟨a.block,0,none⟩ then some (.lit (.int .i64 a.block),[]) else none
 |_=>none
theorem tQ(o:Option Nat):ptrElem (ptrV o)=some (ptrD o,[]):=by cases o<;>simp [ptrElem,ptrV,ptrD]
theorem tR{v:qV}{o:Option Nat}{ps:List MemPlace}(h:ptrElem v=some (ptrD o,ps)):v=ptrV o:=by
 unfold ptrElem at h
 split at h
 ·cases o with
  |none=>rfl
  |some b=>simp [ptrD] at h
 ·rename_i a
  split at h
  ·rename_i ha
   cases o with
   |none=>simp [ptrD] at h
   |some b=>
    simp [ptrD] at h
    have hb:a.block=b:=by omega
    rw [ha,hb]
    rfl
  ·cases h
 ·cases h
theorem lV:Keyed Tryz.prog 3:=int_keyed Tryz.underlying3
theorem oG(W:qW):(zeroValue 228).run Tryz.prog W= .ok (.pointer none) W:=by kernel_rfl
def PMap(w:qW)(B n:Nat)(bl:Int->Option Nat):Prop:=
 ∃D,w.ownsMap Tryz.prog 3 ptrElem B n D/\ ∀r,D.atKey (.int .i64 r) .nil=ptrD (bl r)
theorem uf(w:qW):PMap (w.alloc (.map #[] 0)) w.heap.size 0 (fun _=>none):=⟨_,World.ownsMap_made _ _ _ _,fun _=>rfl⟩
theorem PMap.keep{w w':qW}{B n:Nat}{bl:Int->Option Nat}(h:PMap w B n bl)(hk:w'.heap[B]?=w.heap[B]?):PMap w' B n bl:=by
 obtain ⟨D,⟨es,clock,hb,r⟩,hD⟩:=h
 exact ⟨D,⟨es,clock,hk.trans hb,r⟩,hD⟩
theorem PMap.lt{w:qW}{B n:Nat}{bl:Int->Option Nat}(h:PMap w B n bl):B<w.heap.size:=by
 obtain ⟨D,h,_⟩:=h
 exact h.lt
theorem PMap.below{w w':qW}{B n:Nat}{bl:Int->Option Nat}(h:PMap w B n bl)(hb:Below w.heap.size w w'):PMap w' B n bl:=h.keep (hb.block B h.lt)
theorem PMap.set{w:qW}{B n:Nat}{bl:Int->Option Nat}(h:PMap w B n bl){a:Addr}(ha:B≠a.block)(u:qV):PMap (w.setCell a u) B n bl:=by
 obtain ⟨D,h,hD⟩:=h
 exact ⟨D,h.setCell ha u,hD⟩
theorem PMap.mono{w:qW}{B n m:Nat}{bl:Int->Option Nat}(h:PMap w B n bl)(hm:n<=m):PMap w B m bl:=by
 obtain ⟨D,h,hD⟩:=h
 exact ⟨D,h.mono hm,hD⟩
theorem PMap.look{w:qW}{B n:Nat}{bl:Int->Option Nat}(h:PMap w B n bl)(r:Int)(hr:(Lit.int .i64 r).wf=true):(Instr.lookup 223 (.map (some B)) (.int .i64 r) false).run Tryz.prog w= .ok (ptrV (bl r)) w:=by
 obtain ⟨D,h,hD⟩:=h
 obtain ⟨v,ps,wY,hv⟩:=h.lookup lV Tryz.underlying223 (oG w) (zd:= .nil) (zp:=[]) rfl (keyOf_int_mk Tryz.underlying3 hr)
 rw [hD r] at hv
 rw [wY,tR hv]
theorem PMap.store{w:qW}{B n:Nat}{bl:Int->Option Nat}(h:PMap w B n bl)(hn:n<maxLen)(r:Int)(hr:(Lit.int .i64 r).wf=true)(b:Nat):
  ∃w',(Instr.mapUpdate 223 (.map (some B)) (.int .i64 r) (ptrV (some b))).run Tryz.prog w= .ok () w'/\PMap w' B (n+1) (fun q=>if q=r then some b else bl q)/\w.grownBy w' (some B):=by
 obtain ⟨D,h,hD⟩:=h
 obtain ⟨w',wY,ho,hg⟩:=h.update lV Tryz.underlying223 hn (keyOf_int_mk Tryz.underlying3 hr) (tQ (some b))
 refine ⟨w',wY,⟨_,ho,fun q=>?_⟩,hg⟩
 by_cases hq:q=r
 ·subst hq
  simp only [if_true]
  exact Maps.atKey_put_same h.isMap (by trivial) _ _
 ·simp only [if_neg hq]
  rw [Maps.atKey_put_other (fun e=>hq (by simpa using e))]
  exact hD q
end
section
open Go.RowKit Go.Sort
abbrev Iv:Type:=Int->Option (Int×Int)
def ev(R i:Int)(S:Iv)(r:Int):Iv:=if R<=r then S else fun q=>if q=r then (match S r with|none=>some (i,i)|some (f,_)=>some (f,i)) else S q
def evs(R i:Int)(S:Iv)(l:List Int):Iv:=l.foldl (ev R i) S
def regsL(o:LOp):List Int:=usesL o++setsL o
def ivsN(R:Int)(ops:Nat->LOp):Nat->Iv
 |0=>fun _=>none
 |k+1=>evs R k (ivsN R ops k) (regsL (ops k))
def OAt(w:qW)(X p:Nat)(o:LOp):Prop:=
 w.cell? (aB X p)=some (iI o.k)/\w.cell? ⟨X,p+1,none⟩=some (iI o.d)/\w.cell? ⟨X,p+2,none⟩=some (iI o.d2)/\w.cell? ⟨X,p+3,none⟩=some (iI o.a)/\w.cell? ⟨X,p+4,none⟩=some (iI o.b)
  /\w.cell? ⟨X,p+5,none⟩=some (iI o.c)/\w.cell? ⟨X,p+6,none⟩=some (.int .u64 o.n)/\w.cell? ⟨X,p+7,none⟩=some (iI o.op)/\w.cell? ⟨X,p+8,none⟩=some (iI o.sz)/\w.cell? ⟨X,p+9,none⟩=some (iI o.od)
  /\w.cell? ⟨X,p+10,none⟩=some (iI o.tgt)/\w.cell? ⟨X,p+11,none⟩=some (iI o.st)/\w.cell? ⟨X,p+12,none⟩=some (iI o.ln)
theorem OAt.below{w w':qW}{X p:Nat}{o:LOp}(h:OAt w X p o)(hb:Below w.heap.size w w'):OAt w' X p o:=by
 obtain ⟨c0,c1,c2,c3,c4,c5,c6,c7,c8,c9,c10,c11,c12⟩:=h
 exact ⟨aQ c0 hb,aQ c1 hb,aQ c2 hb,aQ c3 hb,aQ c4 hb,aQ c5 hb,aQ c6 hb,aQ c7 hb,aQ c8 hb,aQ c9 hb,aQ c10 hb,aQ c11 hb,aQ c12 hb⟩
structure IvB(w wr:qW)(B Y:Nat)(S:Iv)(bl:Int->Option Nat):Prop where
 none_: ∀r,bl r=none->S r=none
 some_: ∀r b,bl r=some b-> ∃f t,S r=some (f,t)/\w.heap.size<=b/\b≠B/\b≠Y/\wr.cell? (aB b 0)=some (iI r)/\wr.cell? (aB b 1)=some (iI f)/\wr.cell? (aB b 2)=some (iI t)/\wr.frozen? (aB b 2)=false
structure IvW(w wr:qW)(B Y n:Nat)(S:Iv):Prop where
 below:Below w.heap.size w wr
 hB:w.heap.size<=B
 ex: ∃bl,PMap wr B n bl/\IvB w wr B Y S bl
theorem IvW.next{w wr wy:qW}{B Y n:Nat}{S:Iv}(h:IvW w wr B Y n S)(hb:Below wr.heap.size wr wy):IvW w wy B Y n S:=by
 obtain ⟨bl,hp,hi⟩:=h.ex
 refine ⟨bR h.below hb,h.hB,bl,hp.below hb,hi.none_,fun r b hr=>?_⟩
 obtain ⟨f,t,e,h1,h2,hY,c0,c1,c2,z⟩:=hi.some_ r b hr
 refine ⟨f,t,e,h1,h2,hY,aQ c0 hb,aQ c1 hb,aQ c2 hb,?_⟩
 rw [hb.frozen (bu c2)]
 exact z
theorem IvW.apart{w wr wy:qW}{B Y Y' n:Nat}{S:Iv}(h:IvW w wr B Y n S)(hb:Below wr.heap.size wr wy)(hY:wr.heap.size<=Y'):IvW w wy B Y' n S:=by
 have h2:=h.next hb
 obtain ⟨bl,hp,hi⟩:=h.ex
 refine ⟨h2.below,h.hB,bl,hp.below hb,hi.none_,fun r b hr=>?_⟩
 obtain ⟨f,t,e,h1,h2,_,c0,c1,c2,z⟩:=hi.some_ r b hr
 have xe:=bu c0
 refine ⟨f,t,e,h1,h2,by omega,aQ c0 hb,aQ c1 hb,aQ c2 hb,?_⟩
 rw [hb.frozen (bu c2)]
 exact z
theorem IvW.plain{w wr:qW}{B Y n:Nat}{S:Iv}(h:IvW w wr B Y n S):IvW w wr B B n S:=by
 obtain ⟨bl,hp,hi⟩:=h.ex
 refine ⟨h.below,h.hB,bl,hp,hi.none_,fun r b hr=>?_⟩
 obtain ⟨f,t,e,h1,h2,_,c0,c1,c2,z⟩:=hi.some_ r b hr
 exact ⟨f,t,e,h1,h2,h2,c0,c1,c2,z⟩
theorem IvW.mono{w wr:qW}{B Y n m:Nat}{S:Iv}(h:IvW w wr B Y n S)(hm:n<=m):IvW w wr B Y m S:=by
 obtain ⟨bl,hp,hi⟩:=h.ex
 exact ⟨h.below,h.hB,bl,hp.mono hm,hi⟩
theorem du(R i:Int)(S:Iv)(r q:Int)(h: ¬R<=r):ev R i S r q=if q=r then (match S r with|none=>some (i,i)|some (f,_)=>some (f,i)) else S q:=by
 unfold ev
 rw [if_neg h]
theorem iw(R i:Int)(S:Iv)(r:Int)(h:R<=r):ev R i S r=S:=if_pos h
theorem IvW.touch{w wr:qW}{B Y n:Nat}{S:Iv}{bl:Int->Option Nat}(hb:Below w.heap.size w wr)(hB:w.heap.size<=B)(hp:PMap wr B n bl)(hi:IvB w wr B Y S bl){R i r:Int}(hr: ¬R<=r){b:Nat}(xo:bl r=some b):
  IvW w (wr.setCell ⟨b,2,none⟩ (iI i)) B Y n (ev R i S r):=by
 obtain ⟨f,t,e,h1,h2,hY,c0,c1,c2,z⟩:=hi.some_ r b xo
 refine ⟨ay hb h1 _,hB,bl,hp.set (fun e=>h2 e.symm) _,fun q hq=>?_,fun q b' hq=>?_⟩
 ·rw [du _ _ _ _ _ hr]
  have hne:q≠r:=fun e=>by rw [e,xo] at hq;cases hq
  simp only [if_neg hne]
  exact hi.none_ q hq
 ·obtain ⟨f',t',e',FD,BC,Kn,c0',c1',c2',z'⟩:=hi.some_ q b' hq
  rw [du _ _ _ _ _ hr]
  by_cases Ad:q=r
  ·subst Ad
   rw [xo] at hq
   obtain rfl:=zae hq
   refine ⟨f,i,by simp [e],h1,h2,hY,?_,?_,zaF _ _ _ c2,by rw [zaG];exact z⟩
   ·rw [zaH _ _ _ _ Zg];exact c0
   ·rw [zaH _ _ _ _ Zg];exact c1
  ·have yF:b≠b':=fun e2=>by
    subst e2
    rw [c0] at c0'
    simp at c0'
    exact Ad c0'.symm
   have Km: ∀k,(⟨b,2,none⟩:Addr)≠⟨b',k,none⟩:=fun k e2=>yF (congrArg Addr.block e2)
   refine ⟨f',t',by simp only [if_neg Ad];exact e',FD,BC,Kn,?_,?_,?_,by rw [zaG];exact z'⟩
   all_goals (rw [zaH _ _ _ _ (Km _)];assumption)
theorem IvB.fresh{w wr w2:qW}{B Y:Nat}{S:Iv}{bl:Int->Option Nat}(hw:w.heap.size<=wr.heap.size)(Hi:B<wr.heap.size)(Mo:Y<wr.heap.size)(hi:IvB w wr B Y S bl){R i r:Int}(hr: ¬R<=r)(xo:bl r=none)
  (hg:(wr.alloc (.cells #[iI r,iI i,iI i] 210)).grownBy w2 (some B)):
  IvB w w2 B Y (ev R i S r) (fun q=>if q=r then some wr.heap.size else bl q):=by
 have hS:=hi.none_ r xo
 have blk: ∀b,b<wr.heap.size+1->b≠B->w2.heap[b]?=(wr.alloc (.cells #[iI r,iI i,iI i] 210)).heap[b]?:=fun b h1 h2=>hg.block b (by simpa using h1) (fun e=>h2 (zae e))
 have cel: ∀b k,b<wr.heap.size+1->b≠B->w2.cell? (aB b k)=(wr.alloc (.cells #[iI r,iI i,iI i] 210)).cell? (aB b k):=fun b k h1 h2=>by simp [World.cell?,blk b h1 h2]
 have fro: ∀b k,b<wr.heap.size+1->b≠B->w2.frozen? (aB b k)=(wr.alloc (.cells #[iI r,iI i,iI i] 210)).frozen? (aB b k):=fun b k h1 h2=>by simp [World.frozen?,blk b h1 h2]
 refine ⟨fun q hq=>?_,fun q b hq=>?_⟩
 ·rw [du _ _ _ _ _ hr]
  by_cases Ad:q=r
  ·simp [Ad] at hq
  ·simp only [if_neg Ad] at hq ⊢
   exact hi.none_ q hq
 ·rw [du _ _ _ _ _ hr]
  by_cases Ad:q=r
  ·simp only [if_pos Ad] at hq ⊢
   obtain rfl:=zae hq
   subst Ad
   have hne:wr.heap.size≠B:=by omega
   refine ⟨i,i,by simp [hS],hw,hne,by omega,?_,?_,?_,?_⟩
   ·rw [cel _ _ Za hne,aV];simp
   ·rw [cel _ _ Za hne,aV];simp
   ·rw [cel _ _ Za hne,aV];simp
   ·rw [fro _ _ Za hne,d8];simp
  ·simp only [if_neg Ad] at hq ⊢
   obtain ⟨f',t',e',FD,BC,Kn,c0',c1',c2',z'⟩:=hi.some_ q b hq
   have xe:=bu c0'
   refine ⟨f',t',e',FD,BC,Kn,?_,?_,?_,?_⟩
   ·rw [cel _ _ Za BC,aV,if_pos xe];exact c0'
   ·rw [cel _ _ Za BC,aV,if_pos xe];exact c1'
   ·rw [cel _ _ Za BC,aV,if_pos xe];exact c2'
   ·rw [fro _ _ Za BC,d8,if_pos xe];exact z'
def outN(S:Iv):Nat->List (Int×Int×Int)
 |0=>[]
 |q+1=>outN S q++(match S (q:Int) with|none=>[]|some (f,t)=>[((q:Int),f,t)])
def ivC(x:Int×Int×Int):List qV:=[iI x.1,iI x.2.1,iI x.2.2]
theorem kU{S:Iv}{q:Nat}(h:S (q:Int)=none):outN S (q+1)=outN S q:=by
 show outN S q++_=_
 rw [h]
 simp
theorem kT{S:Iv}{q:Nat}{f t:Int}(h:S (q:Int)=some (f,t)):outN S (q+1)=outN S q++[((q:Int),f,t)]:=by
 show outN S q++_=_
 rw [h]
theorem gE(S:Iv): ∀q,(outN S q).length<=q
 |0=>zaq _
 |q+1=>by
  have h:=gE S q
  cases hs:S (q:Int) with
  |none=>rw [kU hs];omega
  |some p=>
   obtain ⟨f,t⟩:=p
   rw [kT hs]
   simp
   omega
theorem ydt(R i:Int)(S:Iv)(r:Int):ev R i (ev R i S r) r=ev R i S r:=by
 by_cases h:R<=r
 ·rw [iw _ _ _ _ h,iw _ _ _ _ h]
 ·funext q
  rw [du _ _ _ _ _ h,du _ _ _ _ _ h,du _ _ _ _ _ h]
  by_cases hq:q=r
  ·simp only [if_pos hq,if_true]
   cases S r<;>rfl
  ·simp only [if_neg hq]
theorem bL{w:qW}{c k b t:Nat}{v u:qV}(h:w.cell? (aB c k)=some v)(hne:c≠b):(w.setCell ⟨b,t,none⟩ u).cell? (aB c k)=some v:=by
 rw [zaH _ _ _ _ (fun e=>hne (congrArg Addr.block e).symm)]
 exact h
theorem OAt.set{w:qW}{X p b t:Nat}{o:LOp}{u:qV}(h:OAt w X p o)(hne:X≠b):OAt (w.setCell ⟨b,t,none⟩ u) X p o:=by
 obtain ⟨c0,c1,c2,c3,c4,c5,c6,c7,c8,c9,c10,c11,c12⟩:=h
 exact ⟨bL c0 hne,bL c1 hne,bL c2 hne,bL c3 hne,bL c4 hne,bL c5 hne,bL c6 hne,bL c7 hne,bL c8 hne,bL c9 hne,bL c10 hne,bL c11 hne,bL c12 hne⟩
theorem OAt.grown{w w':qW}{X p g:Nat}{o:LOp}(h:OAt w X p o)(hg:w.grownBy w' (some g))(hne:X≠g):OAt w' X p o:=by
 obtain ⟨c0,c1,c2,c3,c4,c5,c6,c7,c8,c9,c10,c11,c12⟩:=h
 exact ⟨bM c0 hg hne,bM c1 hg hne,bM c2 hg hne,bM c3 hg hne,bM c4 hg hne,bM c5 hg hne,bM c6 hg hne,bM c7 hg hne,bM c8 hg hne,bM c9 hg hne,bM c10 hg hne,bM c11 hg hne,bM c12 hg hne⟩
theorem NumsAt.set{w:qW}{c b t:Nat}{l:List Int}{u:qV}(h:NumsAt w c l)(hne:c≠b):NumsAt (w.setCell ⟨b,t,none⟩ u) c l:=fun q x hq=>bL (h q x hq) hne
theorem oR{w:qW}{ops:Array Oper}{rest:List Oper}{o:Oper}{a:Act}{Q:Exit->Act->qW->Prop}
  (hg:o.guard=none) (m x v:Operand) (yi:o.op=Op.mapUpdate 223 m x v) (B n:Nat) (bl:Int->Option Nat) (hm:a.eval m= .map (some B)) (hp:PMap w B n bl) (hn:n<maxLen) (r:Int) (hx:a.eval x=iI r) (hr:(Lit.int .i64 r).wf=true) (b:Nat) (hv:a.eval v=pP b)
  (hK: ∀w',PMap w' B (n+1) (fun q=>if q=r then some b else bl q)->w.grownBy w' (some B)->wpList Tryz.prog ops Q rest (a.put o.dst undef) w'):
  wpList Tryz.prog ops Q (o::rest) a w:=by
 refine wpList_plain hg fun K' Kw=>?_
 obtain ⟨w',wY,r1,r2⟩:=hp.store hn r hr b
 unfold Oper.wp
 simp [execOp,yi,hm,hx,hv,ptrV] at wY ⊢
 rw [wY]
 simp [Result.andThen]
 exact Kw _ _ (hK w' r1 r2)
end
end Go.Proofs.YtjmfoeajhiimnaaGreatDoor
