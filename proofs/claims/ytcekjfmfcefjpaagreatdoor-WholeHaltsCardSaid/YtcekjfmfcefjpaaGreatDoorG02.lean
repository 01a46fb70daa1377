/- Walks. No condition. -/
import Derived.Laws.StructEq
import Derived.Handy
import Derived.Lib.ConvBytes
import Derived.Laws.BitsAllLaws
import Derived.Test.YtcekjfmfcefjpaaGreatDoorProg
import Derived.Test.YtcekjfmfcefjpaaGreatDoorG01
set_option maxRecDepth 100000
set_option maxHeartbeats 0
set_option linter.all false
namespace Go.Proofs.YtcekjfmfcefjpaaGreatDoor
def shp(k:Nat):Nat×List Nat:=match k with
 |1=>(3531603968,[100,105,113])
 |2=>(4068474880,[100,105,113])
 |3=>(2332033024,[100,110,109])
 |4=>(3405774848,[100,110,109])
 |5=>(3942645760,[100,110,109])
 |6=>(2315255808,[100,110,109])
 |7=>(2852126720,[100,110,109])
 |8=>(3388997632,[100,110,109])
 |9=>(2600500224,[100,110,109])
 |10=>(2596282368,[100,110,109])
 |11=>(2596283392,[100,110,109])
 |12=>(2594113504,[100,107])
 |13=>(335544320,[98])
 |14=>(1409286144,[120,99])
 |15=>(3019898880,[100,120])
 |16=>(3036676096,[100,120])
 |17=>(960495616,[100,97,111,115])
 |18=>(956301312,[100,97,111,115])
 |19=>(148896768,[100,97,115])
 |20=>(144702464,[100,97,115])
 |21=>(140475392,[100,97,115])
 |22=>(140508160,[100,97,115])
 |23=>(134249472,[100,97,115,109])
 |24=>(134282240,[100,97,115,109])
 |25=>(3363766272,[100,97,101])
 |26=>(3363799040,[100,97,101])
 |27=>(3357540352,[100,97,101,109])
 |28=>(3357573120,[100,97,101,109])
 |29=>(3573756095,[102])
 |30=>(3573759839,[122])
 |31=>(3556769793,[105])
 |32=>(3558866944,[105])
 |_=>(0,[])
def baseN(op:Int):Nat:=if 0<=op then (shp op.toNat).1 else 0
def lets(op:Int):List Nat:=if 0<=op then (shp op.toNat).2 else []
def fls(op:Int):List Fl:=(lets op).filterMap fl
theorem fU: ∀k,32<k->shp k=(0,[]):=by
 intro k h
 unfold shp
 split<;>first|rfl|omega
theorem eu{op:Int}(h:lets op≠[]):1<=op/\op<=32:=by
 unfold lets at h
 split at h
 ·rename_i h0
  refine ⟨?_,?_⟩
  ·rcases Nat.eq_zero_or_pos op.toNat with e|e
   ·rw [e] at h
    exact absurd rfl h
   ·omega
  ·rcases zaJ 32 op.toNat with e|e
   ·rw [fU _ e] at h
    exact absurd rfl h
   ·omega
 ·exact absurd rfl h
def apartB(f g:Fl):Bool:=(decide (f.lo+f.n<=g.lo)||decide (g.lo+g.n<=f.lo))&&!(f.idx==g.idx)
def pairB:List Fl->Bool
 |[]=>true
 |f::l=>l.all (apartB f)&&pairB l
theorem kH: ∀l,pairB l=true->l.Pairwise dy
 |[],_=>List.Pairwise.nil
 |f::l,h=>by
  unfold pairB at h
  rw [za0] at h
  refine List.pairwise_cons.2 ⟨fun g hg=>?_,kH l h.2⟩
  have:=List.all_eq_true.1 h.1 g hg
  unfold apartB at this
  unfold dy
  simpa using this
theorem tZ:(List.range 33).all (fun k=>pairB (fls k))=true:=by decide+kernel
theorem yeL:(List.range 33).all (fun k=>decide (baseN k<4294967296))=true:=by decide+kernel
theorem mw(op:Int):(fls op).Pairwise dy:=by
 by_cases h:lets op=[]
 ·unfold fls
  rw [h]
  exact List.Pairwise.nil
 ·have:=eu h
  have h2:=List.all_eq_true.1 tZ op.toNat (List.mem_range.2 Za)
  have e:(op.toNat:Int)=op:=by omega
  rw [e] at h2
  exact kH _ h2
theorem my(op:Int): ∀f∈fls op,FlOk f:=by
 intro f hf
 unfold fls at hf
 obtain ⟨c,_,hc⟩:=List.mem_filterMap.1 hf
 exact aN c f hc
theorem nO(op:Int):baseN op<4294967296:=by
 by_cases h:0<=op/\op<=32
 ·have h2:=List.all_eq_true.1 yeL op.toNat (List.mem_range.2 Za)
  have e:(op.toNat:Int)=op:=by omega
  rw [e] at h2
  simpa using h2
 ·unfold baseN
  split
  ·rw [fU _ Za]
   omega
  ·omega
def restB(op:Int)(r:Ins):Bool:=r.op==op&&r.d==0&&r.n==0&&r.m==0&&r.e==0&&r.sz==0&&r.imm==0
theorem fZ(op:Int)(r:Ins):restB op r=true↔r=Ins.zero op:=by
 obtain ⟨a0,a1,a2,a3,a4,a5,a6⟩:=r
 unfold restB Ins.zero
 simp [and_assoc]
def enc(i:Ins):Option Nat:=if lets i.op=[] then none else match encL (fls i.op) (baseN i.op) i with
 |some (w,r)=>if restB i.op r=true then some w else none
 |none=>none
theorem m8(i:Ins)(w:Nat):enc i=some w↔lets i.op≠[]/\encL (fls i.op) (baseN i.op) i=some (w,Ins.zero i.op):=by
 unfold enc
 by_cases h:lets i.op=[]
 ·rw [if_pos h]
  simp [h]
 ·rw [if_neg h]
  cases he:encL (fls i.op) (baseN i.op) i with
  |none=>simp
  |some q=>
   obtain ⟨v,r⟩:=q
   simp only
   by_cases hr:restB i.op r=true
   ·rw [if_pos hr]
    have:=(fZ _ _).1 hr
    subst this
    simp [h]
   ·rw [if_neg hr]
    simp only [zaA,Prod.mk.injEq,reduceCtorEq,false_iff,not_and,ne_eq]
    intro _ _ e
    exact hr ((fZ _ _).2 e)
def decOne(op:Int)(w:Nat):Option Ins:=match decL w (baseN op) (fls op) (Ins.zero op) w with
 |some (out,b)=>if b=baseN op then some out else none
 |none=>none
theorem ydL(op:Int)(w:Nat)(i:Ins)(yj:lets op≠[]):decOne op w=some i↔i.op=op/\enc i=some w:=by
 have h:=ydK (fls op) (my op) (mw op) 0 op (baseN op) w i
 have e:decOne op w=some i↔ ∃b,decL w (baseN op) (fls op) (Ins.zero op) w=some (i,b)/\b=baseN op:=by
  unfold decOne
  cases hd:decL w (baseN op) (fls op) (Ins.zero op) w with
  |none=>simp
  |some q=>
   obtain ⟨out,b⟩:=q
   simp only
   by_cases hb:b=baseN op
   ·rw [if_pos hb]
    simp [hb]
   ·rw [if_neg hb]
    simp only [reduceCtorEq,zaA,Prod.mk.injEq,false_iff,not_exists,not_and]
    rintro b' ⟨_,rfl⟩
    exact hb
 rw [e,h,m8]
 constructor
 ·rintro ⟨rfl,h2⟩
  exact ⟨rfl,yj,h2⟩
 ·rintro ⟨rfl,_,h2⟩
  exact ⟨rfl,h2⟩
def decF(w:Nat):Option Ins:=(List.range 32).findSome? (fun k=>decOne ((k+1:Nat):Int) w)
theorem yaf: ∀k,k<32->lets ((k+1:Nat):Int)≠[]:=by decide
theorem ydJ{w:Nat}{i:Ins}(h:decF w=some i):enc i=some w:=by
 unfold decF at h
 obtain ⟨k,hk,h⟩:=List.exists_of_findSome?_eq_some h
 exact ((ydL _ w i (yaf k (List.mem_range.1 hk))).1 h).2
end Go.Proofs.YtcekjfmfcefjpaaGreatDoor
namespace Go.Proofs.YtcekjfmfcefjpaaGreatDoor
open Go.RowKit Go.Sort
def more(w:qW)(p:Regrown):qW:=grow (redrawn w p.d) p.os
def moreCell(w:qW)(p:Regrown)(a:Addr):Option qV:=(more w p).cell? a
def moreFrozen(w:qW)(p:Regrown)(a:Addr):Bool:=(more w p).frozen? a
theorem av(w:qW)(p:Regrown):Below w.heap.size w (more w p):=below_regrown w p.d p.os
theorem bu{w w':qW}(h:Below w.heap.size w w'): ∃p:Regrown,w'=more w p:=regrown_of_below h
@[go_sem] theorem aZ(w:qW)(p:Regrown):(more w p).heap.size=w.heap.size+p.os.size:=by simp [more,grow,redrawn]
@[go_sem] theorem dd(w:qW)(p:Regrown)(a:Addr):(more w p).cell? a=if a.block<w.heap.size then w.cell? a else moreCell w p a:=by
 split
 ·exact (av w p).cell ‹_›
 ·rfl
@[go_sem] theorem yfA(w:qW)(p:Regrown)(a:Addr):(more w p).frozen? a=if a.block<w.heap.size then w.frozen? a else moreFrozen w p a:=by
 split
 ·exact (av w p).frozen ‹_›
 ·rfl
def moreSet(w:qW)(p:Regrown)(a:Addr)(v:qV):qW:=(more w p).setCell a v
@[go_sem] theorem yfz(w:qW)(p:Regrown)(a:Addr)(v:qV):(more w p).setCell a v=if a.block<w.heap.size then more (w.setCell a v) p else moreSet w p a v:=by
 by_cases h:a.block<w.heap.size
 ·rw [if_pos h]
  unfold more grow redrawn World.setCell
  simp only
  congr 1
  apply Array.ext_getElem?
  intro k
  simp only [Array.getElem?_modify,Array.getElem?_append,Array.size_modify]
  by_cases hk:k<w.heap.size
  ·simp [hk]
  ·have: ¬a.block=k:=by omega
   simp [hk,this]
 ·rw [if_neg h];rfl
@[go_sem] theorem aR(w:qW)(c:Array qV)(t:TypeId)(n i:Nat):(w.alloc (.cells c t)).cell? ⟨n,i,none⟩=if n<w.heap.size then w.cell? ⟨n,i,none⟩ else if n=w.heap.size then c[i]? else none:=by
 by_cases h:n<w.heap.size
 ·rw [if_pos h,World.cell?_alloc_past _ _ _ h]
 ·rw [if_neg h]
  by_cases h2:n=w.heap.size
  ·rw [if_pos h2,World.cell?_alloc_at _ _ _ _ h2]
  ·rw [if_neg h2]
   have:(w.alloc (.cells c t)).heap[n]?=none:=zaW Zk
   simp [World.cell?,this]
@[go_sem] theorem dU(w:qW)(c:Array qV)(t:TypeId)(n i:Nat):(w.alloc (.cells c t)).frozen? ⟨n,i,none⟩=if n<w.heap.size then w.frozen? ⟨n,i,none⟩ else false:=by
 by_cases h:n<w.heap.size
 ·rw [if_pos h,World.frozen?_alloc_past _ _ _ h]
 ·rw [if_neg h]
  by_cases h2:n=w.heap.size
  ·exact World.frozen?_alloc_at _ _ _ _ h2
  ·have:(w.alloc (.cells c t)).heap[n]?=none:=zaW Zk
   simp [World.frozen?,this]
def allocSet(w:qW)(c:Array qV)(t:TypeId)(n i:Nat)(v:qV):qW:=(w.alloc (.cells c t)).setCell ⟨n,i,none⟩ v
@[go_sem] theorem yfB(w:qW)(c:Array qV)(t:TypeId)(n i:Nat)(v:qV):(w.alloc (.cells c t)).setCell ⟨n,i,none⟩ v=
  if n<w.heap.size then (w.setCell ⟨n,i,none⟩ v).alloc (.cells c t) else if n=w.heap.size then w.alloc (.cells (c.setIfInBounds i v) t) else allocSet w c t n i v:=by
 by_cases h:n<w.heap.size
 ·rw [if_pos h,World.setCell_alloc_past _ _ _ _ h]
 ·rw [if_neg h]
  by_cases h2:n=w.heap.size
  ·rw [if_pos h2,World.setCell_alloc_at _ _ _ _ _ h2]
  ·rw [if_neg h2];rfl
theorem we(w:qW)(p q:Regrown): ∃r,more (more w p) q=more w r:=bu (bQ (av w p) (av _ q))
def Gives(w:qW)(v:qV)(e:Ending)(w':qW):Prop:=e= .returned v/\ ∃p:Regrown,w'=more w p
theorem Gives.mk{w w':qW}{v:qV}{e:Ending}(h:e= .returned v)(hb:Below w.heap.size w w'):Gives w v e w':=⟨h,bu hb⟩
theorem Gives.below{w w':qW}{v:qV}{e:Ending}(h:Gives w v e w'):Below w.heap.size w w':=by
 obtain ⟨_,p,rfl⟩:=h
 exact av w p
theorem ycl{P:Program}{f:FuncId}{args:Array qV}{w:qW}{v:qV}(h:Calls P f args w fun e w'=>e= .returned v/\Drew w w'):Calls P f args w (Gives w v):=
 h.mono fun _ _ ⟨he,hd⟩=>Gives.mk he hd.below
theorem bO{P:Program}{f:FuncId}{args:Array qV}{w:qW}{v:qV}(h:Calls P f args w fun e w'=>e= .returned v/\w=w'):Calls P f args w (Gives w v):=
 h.mono fun _ _ ⟨he,hd⟩=>Gives.mk he (yeG hd)
theorem ab{a w:qW}(h:Below a.heap.size a w)(o:Obj):Below a.heap.size a (w.alloc o):=h.alloc h.size o
theorem aF{a w:qW}(h:Below a.heap.size a w)(p:Regrown):Below a.heap.size a (more w p):=bQ h (av w p)
theorem ag{a w:qW}(h:Below a.heap.size a w):Below a.heap.size a w.drew:=⟨h.os,h.tape,h.output,h.size,h.block⟩
theorem nM{a w:qW}(h:Below a.heap.size a w)(n:Nat):Below a.heap.size a (w.drewN n):=⟨h.os,h.tape,h.output,h.size,h.block⟩
theorem ax{a w:qW}(h:Below a.heap.size a w){p:Addr}(hp:a.heap.size<=p.block)(v:qV):Below a.heap.size a (w.setCell p v):=h.setCell hp v
section
variable{P:Program}{f:FuncId}{args:Array qV}{w:qW}{v:qV}
theorem ay{p:Regrown}(h:Calls P f args (more w p) (Gives (more w p) v)):Calls P f args (more w p) fun e w''=>e= .returned v/\ ∃r:Regrown,w''=more w r:=
 h.mono fun _ _ ⟨he,q,hq⟩=>⟨he,by rw [hq];exact we w p q⟩
end
theorem aD{P:Program}{id:Nat}{Q:Exit->Act->qW->Prop}{a:Act}{w:qW}{l:List Oper}(hm:P.follows .mixedOrders=true)(hB:Region.lexB .any l.toArray=true)
  (h:wpQuiet P l.toArray (fun w'=> ∃p:Regrown,w'=more w p) (fun a'=> ∀p:Regrown,Q .normal a' (more w p)) l a):(Code.region id l.toArray true).wp P Q a w:=by
 refine wp_region_quiet (C:=fun w'=> ∃p:Regrown,w'=more w p) hm hB ⟨⟨w.drawn+1,#[]⟩,by unfold more;rw [grow_empty];rfl⟩ ?_
 have e:(fun a'=> ∀p:Regrown,Q .normal a' (more w p))=(fun a'=> ∀w',(∃p:Regrown,w'=more w p)->Q .normal a' w'):=by
  funext a'
  exact propext ⟨fun h w' ⟨p,hp⟩=>by rw [hp];exact h p,fun h p=>h _ ⟨p,rfl⟩⟩
 rw [<-e]
 simpa using h
def strB(l:List Nat):qB:=⟨(l.map UInt8.ofNat).toArray⟩
theorem wD(w:qW):qC 175 #[iI 17] w (Gives w (.agg #[.int .u32 960495616,.string ⟨#[100,97,111,115]⟩])):=Z2
theorem wC(w:qW):qC 175 #[iI 18] w (Gives w (.agg #[.int .u32 956301312,.string ⟨#[100,97,111,115]⟩])):=Z2
theorem wB(w:qW):qC 175 #[iI 19] w (Gives w (.agg #[.int .u32 148896768,.string ⟨#[100,97,115]⟩])):=Z2
theorem wA(w:qW):qC 175 #[iI 20] w (Gives w (.agg #[.int .u32 144702464,.string ⟨#[100,97,115]⟩])):=Z2
theorem ww(w:qW):qC 175 #[iI 21] w (Gives w (.agg #[.int .u32 140475392,.string ⟨#[100,97,115]⟩])):=Z2
theorem wu(w:qW):qC 175 #[iI 22] w (Gives w (.agg #[.int .u32 140508160,.string ⟨#[100,97,115]⟩])):=Z2
theorem wt(w:qW):qC 175 #[iI 23] w (Gives w (.agg #[.int .u32 134249472,.string ⟨#[100,97,115,109]⟩])):=Z2
theorem wo(w:qW):qC 175 #[iI 24] w (Gives w (.agg #[.int .u32 134282240,.string ⟨#[100,97,115,109]⟩])):=Z2
theorem wn(w:qW):qC 175 #[iI 25] w (Gives w (.agg #[.int .u32 3363766272,.string ⟨#[100,97,101]⟩])):=Z2
theorem wm(w:qW):qC 175 #[iI 26] w (Gives w (.agg #[.int .u32 3363799040,.string ⟨#[100,97,101]⟩])):=Z2
theorem wk(w:qW):qC 175 #[iI 27] w (Gives w (.agg #[.int .u32 3357540352,.string ⟨#[100,97,101,109]⟩])):=Z2
theorem wj(w:qW):qC 175 #[iI 28] w (Gives w (.agg #[.int .u32 3357573120,.string ⟨#[100,97,101,109]⟩])):=Z2
theorem wi(op:Int)(h: ¬(1<=op/\op<=32))(w:qW):qC 175 #[iI op] w (Gives w (.agg #[.int .u32 0,.string ⟨#[]⟩])):=by
 have h17:(op==17)=false:=by simp;omega
 have h18:(op==18)=false:=by simp;omega
 have h19:(op==19)=false:=by simp;omega
 have MS:(op==20)=false:=by simp;omega
 have h21:(op==21)=false:=by simp;omega
 have h22:(op==22)=false:=by simp;omega
 have h23:(op==23)=false:=by simp;omega
 have h24:(op==24)=false:=by simp;omega
 have h25:(op==25)=false:=by simp;omega
 have h26:(op==26)=false:=by simp;omega
 have h27:(op==27)=false:=by simp;omega
 have h28:(op==28)=false:=by simp;omega
 clear h
 go_enter Tryz.func175,Tryz.ntmps175
 go_wp2
 go_returns
 exact Gives.mk rfl Zd
theorem yaU(w:qW):qC 125 #[iI 13] w (Gives w (.agg #[.int .u32 335544320,.string ⟨#[98]⟩])):=Z68_
theorem yaT(w:qW):qC 125 #[iI 14] w (Gives w (.agg #[.int .u32 1409286144,.string ⟨#[120,99]⟩])):=Z68_
theorem yaS(w:qW):qC 125 #[iI 15] w (Gives w (.agg #[.int .u32 3019898880,.string ⟨#[100,120]⟩])):=Z68_
theorem yaR(w:qW):qC 125 #[iI 16] w (Gives w (.agg #[.int .u32 3036676096,.string ⟨#[100,120]⟩])):=Z68_
theorem yaE(w:qW):qC 125 #[iI 29] w (Gives w (.agg #[.int .u32 3573756095,.string ⟨#[102]⟩])):=Z68_
theorem yaD(w:qW):qC 125 #[iI 30] w (Gives w (.agg #[.int .u32 3573759839,.string ⟨#[122]⟩])):=Z68_
theorem yaC(w:qW):qC 125 #[iI 31] w (Gives w (.agg #[.int .u32 3556769793,.string ⟨#[105]⟩])):=Z68_
theorem yaB(w:qW):qC 125 #[iI 32] w (Gives w (.agg #[.int .u32 3558866944,.string ⟨#[105]⟩])):=Z68_
theorem yaQ(w:qW):qC 125 #[iI 17] w (Gives w (.agg #[.int .u32 960495616,.string ⟨#[100,97,111,115]⟩])):=by
 go_enter Tryz.func125,Tryz.ntmps125
 go_wp2_with (first|(go_at_call 175;refine (wD _).mono ?_;rintro e w1 ⟨rfl,p1,rfl⟩))
 go_returns
 exact Gives.mk rfl Zd
theorem yaP(w:qW):qC 125 #[iI 18] w (Gives w (.agg #[.int .u32 956301312,.string ⟨#[100,97,111,115]⟩])):=by
 go_enter Tryz.func125,Tryz.ntmps125
 go_wp2_with (first|(go_at_call 175;refine (wC _).mono ?_;rintro e w1 ⟨rfl,p1,rfl⟩))
 go_returns
 exact Gives.mk rfl Zd
theorem yaO(w:qW):qC 125 #[iI 19] w (Gives w (.agg #[.int .u32 148896768,.string ⟨#[100,97,115]⟩])):=by
 go_enter Tryz.func125,Tryz.ntmps125
 go_wp2_with (first|(go_at_call 175;refine (wB _).mono ?_;rintro e w1 ⟨rfl,p1,rfl⟩))
 go_returns
 exact Gives.mk rfl Zd
theorem yaN(w:qW):qC 125 #[iI 20] w (Gives w (.agg #[.int .u32 144702464,.string ⟨#[100,97,115]⟩])):=by
 go_enter Tryz.func125,Tryz.ntmps125
 go_wp2_with (first|(go_at_call 175;refine (wA _).mono ?_;rintro e w1 ⟨rfl,p1,rfl⟩))
 go_returns
 exact Gives.mk rfl Zd
theorem yaM(w:qW):qC 125 #[iI 21] w (Gives w (.agg #[.int .u32 140475392,.string ⟨#[100,97,115]⟩])):=by
 go_enter Tryz.func125,Tryz.ntmps125
 go_wp2_with (first|(go_at_call 175;refine (ww _).mono ?_;rintro e w1 ⟨rfl,p1,rfl⟩))
 go_returns
 exact Gives.mk rfl Zd
theorem yaL(w:qW):qC 125 #[iI 22] w (Gives w (.agg #[.int .u32 140508160,.string ⟨#[100,97,115]⟩])):=by
 go_enter Tryz.func125,Tryz.ntmps125
 go_wp2_with (first|(go_at_call 175;refine (wu _).mono ?_;rintro e w1 ⟨rfl,p1,rfl⟩))
 go_returns
 exact Gives.mk rfl Zd
theorem yaK(w:qW):qC 125 #[iI 23] w (Gives w (.agg #[.int .u32 134249472,.string ⟨#[100,97,115,109]⟩])):=by
 go_enter Tryz.func125,Tryz.ntmps125
 go_wp2_with (first|(go_at_call 175;refine (wt _).mono ?_;rintro e w1 ⟨rfl,p1,rfl⟩))
 go_returns
 exact Gives.mk rfl Zd
theorem yaJ(w:qW):qC 125 #[iI 24] w (Gives w (.agg #[.int .u32 134282240,.string ⟨#[100,97,115,109]⟩])):=by
 go_enter Tryz.func125,Tryz.ntmps125
 go_wp2_with (first|(go_at_call 175;refine (wo _).mono ?_;rintro e w1 ⟨rfl,p1,rfl⟩))
 go_returns
 exact Gives.mk rfl Zd
theorem yaI(w:qW):qC 125 #[iI 25] w (Gives w (.agg #[.int .u32 3363766272,.string ⟨#[100,97,101]⟩])):=by
 go_enter Tryz.func125,Tryz.ntmps125
 go_wp2_with (first|(go_at_call 175;refine (wn _).mono ?_;rintro e w1 ⟨rfl,p1,rfl⟩))
 go_returns
 exact Gives.mk rfl Zd
theorem yaH(w:qW):qC 125 #[iI 26] w (Gives w (.agg #[.int .u32 3363799040,.string ⟨#[100,97,101]⟩])):=by
 go_enter Tryz.func125,Tryz.ntmps125
 go_wp2_with (first|(go_at_call 175;refine (wm _).mono ?_;rintro e w1 ⟨rfl,p1,rfl⟩))
 go_returns
 exact Gives.mk rfl Zd
theorem yaG(w:qW):qC 125 #[iI 27] w (Gives w (.agg #[.int .u32 3357540352,.string ⟨#[100,97,101,109]⟩])):=by
 go_enter Tryz.func125,Tryz.ntmps125
 go_wp2_with (first|(go_at_call 175;refine (wk _).mono ?_;rintro e w1 ⟨rfl,p1,rfl⟩))
 go_returns
 exact Gives.mk rfl Zd
theorem yaF(w:qW):qC 125 #[iI 28] w (Gives w (.agg #[.int .u32 3357573120,.string ⟨#[100,97,101,109]⟩])):=by
 go_enter Tryz.func125,Tryz.ntmps125
 go_wp2_with (first|(go_at_call 175;refine (wj _).mono ?_;rintro e w1 ⟨rfl,p1,rfl⟩))
 go_returns
 exact Gives.mk rfl Zd
theorem yaA(op:Int)(h: ¬(1<=op/\op<=32))(w:qW):qC 125 #[iI op] w (Gives w (.agg #[.int .u32 0,.string ⟨#[]⟩])):=by
 have h13:(op==13)=false:=by simp;omega
 have IL:(op==14)=false:=by simp;omega
 have G8:(op==15)=false:=by simp;omega
 have ER:(op==16)=false:=by simp;omega
 have h29:(op==29)=false:=by simp;omega
 have Ae:(op==30)=false:=by simp;omega
 have Fp:(op==31)=false:=by simp;omega
 have Fo:(op==32)=false:=by simp;omega
 have H:=Zh h
 clear h
 go_enter Tryz.func125,Tryz.ntmps125
 go_wp2_with (first|(go_at_call 175;refine (wi op H.out _).mono ?_;rintro e w1 ⟨rfl,p1,rfl⟩))
 go_returns
 exact Gives.mk rfl Zd
theorem vK(w:qW):qC 81 #[iI 1] w (Gives w (.agg #[.int .u32 3531603968,.string ⟨#[100,105,113]⟩])):=Z3
theorem vz(w:qW):qC 81 #[iI 2] w (Gives w (.agg #[.int .u32 4068474880,.string ⟨#[100,105,113]⟩])):=Z3
theorem vj(w:qW):qC 81 #[iI 3] w (Gives w (.agg #[.int .u32 2332033024,.string ⟨#[100,110,109]⟩])):=Z3
theorem vf(w:qW):qC 81 #[iI 4] w (Gives w (.agg #[.int .u32 3405774848,.string ⟨#[100,110,109]⟩])):=Z3
theorem ve(w:qW):qC 81 #[iI 5] w (Gives w (.agg #[.int .u32 3942645760,.string ⟨#[100,110,109]⟩])):=Z3
theorem vd(w:qW):qC 81 #[iI 6] w (Gives w (.agg #[.int .u32 2315255808,.string ⟨#[100,110,109]⟩])):=Z3
theorem u9(w:qW):qC 81 #[iI 7] w (Gives w (.agg #[.int .u32 2852126720,.string ⟨#[100,110,109]⟩])):=Z3
theorem u7(w:qW):qC 81 #[iI 8] w (Gives w (.agg #[.int .u32 3388997632,.string ⟨#[100,110,109]⟩])):=Z3
theorem u6(w:qW):qC 81 #[iI 9] w (Gives w (.agg #[.int .u32 2600500224,.string ⟨#[100,110,109]⟩])):=Z3
theorem vJ(w:qW):qC 81 #[iI 10] w (Gives w (.agg #[.int .u32 2596282368,.string ⟨#[100,110,109]⟩])):=Z3
theorem vI(w:qW):qC 81 #[iI 11] w (Gives w (.agg #[.int .u32 2596283392,.string ⟨#[100,110,109]⟩])):=Z3
theorem vH(w:qW):qC 81 #[iI 12] w (Gives w (.agg #[.int .u32 2594113504,.string ⟨#[100,107]⟩])):=Z3
theorem vG(w:qW):qC 81 #[iI 13] w (Gives w (.agg #[.int .u32 335544320,.string ⟨#[98]⟩])):=by
 go_enter Tryz.func81,Tryz.ntmps81
 go_wp2_with (first|(go_at_call 125;refine (yaU _).mono ?_;rintro e w1 ⟨rfl,p1,rfl⟩))
 go_returns
 exact Gives.mk rfl Zd
theorem vF(w:qW):qC 81 #[iI 14] w (Gives w (.agg #[.int .u32 1409286144,.string ⟨#[120,99]⟩])):=by
 go_enter Tryz.func81,Tryz.ntmps81
 go_wp2_with (first|(go_at_call 125;refine (yaT _).mono ?_;rintro e w1 ⟨rfl,p1,rfl⟩))
 go_returns
 exact Gives.mk rfl Zd
theorem vE(w:qW):qC 81 #[iI 15] w (Gives w (.agg #[.int .u32 3019898880,.string ⟨#[100,120]⟩])):=by
 go_enter Tryz.func81,Tryz.ntmps81
 go_wp2_with (first|(go_at_call 125;refine (yaS _).mono ?_;rintro e w1 ⟨rfl,p1,rfl⟩))
 go_returns
 exact Gives.mk rfl Zd
theorem vD(w:qW):qC 81 #[iI 16] w (Gives w (.agg #[.int .u32 3036676096,.string ⟨#[100,120]⟩])):=by
 go_enter Tryz.func81,Tryz.ntmps81
 go_wp2_with (first|(go_at_call 125;refine (yaR _).mono ?_;rintro e w1 ⟨rfl,p1,rfl⟩))
 go_returns
 exact Gives.mk rfl Zd
theorem vk(w:qW):qC 81 #[iI 29] w (Gives w (.agg #[.int .u32 3573756095,.string ⟨#[102]⟩])):=by
 go_enter Tryz.func81,Tryz.ntmps81
 go_wp2_with (first|(go_at_call 125;refine (yaE _).mono ?_;rintro e w1 ⟨rfl,p1,rfl⟩))
 go_returns
 exact Gives.mk rfl Zd
theorem vi(w:qW):qC 81 #[iI 30] w (Gives w (.agg #[.int .u32 3573759839,.string ⟨#[122]⟩])):=by
 go_enter Tryz.func81,Tryz.ntmps81
 go_wp2_with (first|(go_at_call 125;refine (yaD _).mono ?_;rintro e w1 ⟨rfl,p1,rfl⟩))
 go_returns
 exact Gives.mk rfl Zd
theorem vh(w:qW):qC 81 #[iI 31] w (Gives w (.agg #[.int .u32 3556769793,.string ⟨#[105]⟩])):=by
 go_enter Tryz.func81,Tryz.ntmps81
 go_wp2_with (first|(go_at_call 125;refine (yaC _).mono ?_;rintro e w1 ⟨rfl,p1,rfl⟩))
 go_returns
 exact Gives.mk rfl Zd
theorem vg(w:qW):qC 81 #[iI 32] w (Gives w (.agg #[.int .u32 3558866944,.string ⟨#[105]⟩])):=by
 go_enter Tryz.func81,Tryz.ntmps81
 go_wp2_with (first|(go_at_call 125;refine (yaB _).mono ?_;rintro e w1 ⟨rfl,p1,rfl⟩))
 go_returns
 exact Gives.mk rfl Zd
theorem vC(w:qW):qC 81 #[iI 17] w (Gives w (.agg #[.int .u32 960495616,.string ⟨#[100,97,111,115]⟩])):=by
 go_enter Tryz.func81,Tryz.ntmps81
 go_wp2_with (first|(go_at_call 125;refine (yaQ _).mono ?_;rintro e w1 ⟨rfl,p1,rfl⟩))
 go_returns
 exact Gives.mk rfl Zd
theorem vB(w:qW):qC 81 #[iI 18] w (Gives w (.agg #[.int .u32 956301312,.string ⟨#[100,97,111,115]⟩])):=by
 go_enter Tryz.func81,Tryz.ntmps81
 go_wp2_with (first|(go_at_call 125;refine (yaP _).mono ?_;rintro e w1 ⟨rfl,p1,rfl⟩))
 go_returns
 exact Gives.mk rfl Zd
theorem vA(w:qW):qC 81 #[iI 19] w (Gives w (.agg #[.int .u32 148896768,.string ⟨#[100,97,115]⟩])):=by
 go_enter Tryz.func81,Tryz.ntmps81
 go_wp2_with (first|(go_at_call 125;refine (yaO _).mono ?_;rintro e w1 ⟨rfl,p1,rfl⟩))
 go_returns
 exact Gives.mk rfl Zd
theorem vy(w:qW):qC 81 #[iI 20] w (Gives w (.agg #[.int .u32 144702464,.string ⟨#[100,97,115]⟩])):=by
 go_enter Tryz.func81,Tryz.ntmps81
 go_wp2_with (first|(go_at_call 125;refine (yaN _).mono ?_;rintro e w1 ⟨rfl,p1,rfl⟩))
 go_returns
 exact Gives.mk rfl Zd
theorem vx(w:qW):qC 81 #[iI 21] w (Gives w (.agg #[.int .u32 140475392,.string ⟨#[100,97,115]⟩])):=by
 go_enter Tryz.func81,Tryz.ntmps81
 go_wp2_with (first|(go_at_call 125;refine (yaM _).mono ?_;rintro e w1 ⟨rfl,p1,rfl⟩))
 go_returns
 exact Gives.mk rfl Zd
theorem vw(w:qW):qC 81 #[iI 22] w (Gives w (.agg #[.int .u32 140508160,.string ⟨#[100,97,115]⟩])):=by
 go_enter Tryz.func81,Tryz.ntmps81
 go_wp2_with (first|(go_at_call 125;refine (yaL _).mono ?_;rintro e w1 ⟨rfl,p1,rfl⟩))
 go_returns
 exact Gives.mk rfl Zd
theorem vu(w:qW):qC 81 #[iI 23] w (Gives w (.agg #[.int .u32 134249472,.string ⟨#[100,97,115,109]⟩])):=by
 go_enter Tryz.func81,Tryz.ntmps81
 go_wp2_with (first|(go_at_call 125;refine (yaK _).mono ?_;rintro e w1 ⟨rfl,p1,rfl⟩))
 go_returns
 exact Gives.mk rfl Zd
theorem vt(w:qW):qC 81 #[iI 24] w (Gives w (.agg #[.int .u32 134282240,.string ⟨#[100,97,115,109]⟩])):=by
 go_enter Tryz.func81,Tryz.ntmps81
 go_wp2_with (first|(go_at_call 125;refine (yaJ _).mono ?_;rintro e w1 ⟨rfl,p1,rfl⟩))
 go_returns
 exact Gives.mk rfl Zd
theorem vq(w:qW):qC 81 #[iI 25] w (Gives w (.agg #[.int .u32 3363766272,.string ⟨#[100,97,101]⟩])):=by
 go_enter Tryz.func81,Tryz.ntmps81
 go_wp2_with (first|(go_at_call 125;refine (yaI _).mono ?_;rintro e w1 ⟨rfl,p1,rfl⟩))
 go_returns
 exact Gives.mk rfl Zd
theorem vp(w:qW):qC 81 #[iI 26] w (Gives w (.agg #[.int .u32 3363799040,.string ⟨#[100,97,101]⟩])):=by
 go_enter Tryz.func81,Tryz.ntmps81
 go_wp2_with (first|(go_at_call 125;refine (yaH _).mono ?_;rintro e w1 ⟨rfl,p1,rfl⟩))
 go_returns
 exact Gives.mk rfl Zd
theorem vn(w:qW):qC 81 #[iI 27] w (Gives w (.agg #[.int .u32 3357540352,.string ⟨#[100,97,101,109]⟩])):=by
 go_enter Tryz.func81,Tryz.ntmps81
 go_wp2_with (first|(go_at_call 125;refine (yaG _).mono ?_;rintro e w1 ⟨rfl,p1,rfl⟩))
 go_returns
 exact Gives.mk rfl Zd
theorem vm(w:qW):qC 81 #[iI 28] w (Gives w (.agg #[.int .u32 3357573120,.string ⟨#[100,97,101,109]⟩])):=by
 go_enter Tryz.func81,Tryz.ntmps81
 go_wp2_with (first|(go_at_call 125;refine (yaF _).mono ?_;rintro e w1 ⟨rfl,p1,rfl⟩))
 go_returns
 exact Gives.mk rfl Zd
theorem uR(op:Int)(h: ¬(1<=op/\op<=32))(w:qW):qC 81 #[iI op] w (Gives w (.agg #[.int .u32 0,.string ⟨#[]⟩])):=by
 have h1:(op==1)=false:=by simp;omega
 have h2:(op==2)=false:=by simp;omega
 have h3:(op==3)=false:=by simp;omega
 have h4:(op==4)=false:=by simp;omega
 have h5:(op==5)=false:=by simp;omega
 have h6:(op==6)=false:=by simp;omega
 have h7:(op==7)=false:=by simp;omega
 have h8:(op==8)=false:=by simp;omega
 have h9:(op==9)=false:=by simp;omega
 have Ds:(op==10)=false:=by simp;omega
 have IM:(op==11)=false:=by simp;omega
 have h12:(op==12)=false:=by simp;omega
 have H:=Zh h
 clear h
 go_enter Tryz.func81,Tryz.ntmps81
 go_wp2_with (first|(go_at_call 125;refine (yaA op H.out _).mono ?_;rintro e w1 ⟨rfl,p1,rfl⟩))
 go_returns
 exact Gives.mk rfl Zd
theorem kU(op:Int)(w:qW):qC 81 #[iI op] w (Gives w (.agg #[.int .u32 (baseN op),.string (strB (lets op))])):=by
 by_cases h:1<=op/\op<=32
 ·obtain ⟨k,rfl⟩: ∃k:Nat,op=k:=⟨op.toNat,by omega⟩
  have hk:k<=32:=by omega
  have yd:1<=k:=by omega
  match k,hk,yd with
  |1,_,_=>exact vK w
  |2,_,_=>exact vz w
  |3,_,_=>exact vj w
  |4,_,_=>exact vf w
  |5,_,_=>exact ve w
  |6,_,_=>exact vd w
  |7,_,_=>exact u9 w
  |8,_,_=>exact u7 w
  |9,_,_=>exact u6 w
  |10,_,_=>exact vJ w
  |11,_,_=>exact vI w
  |12,_,_=>exact vH w
  |13,_,_=>exact vG w
  |14,_,_=>exact vF w
  |15,_,_=>exact vE w
  |16,_,_=>exact vD w
  |17,_,_=>exact vC w
  |18,_,_=>exact vB w
  |19,_,_=>exact vA w
  |20,_,_=>exact vy w
  |21,_,_=>exact vx w
  |22,_,_=>exact vw w
  |23,_,_=>exact vu w
  |24,_,_=>exact vt w
  |25,_,_=>exact vq w
  |26,_,_=>exact vp w
  |27,_,_=>exact vn w
  |28,_,_=>exact vm w
  |29,_,_=>exact vk w
  |30,_,_=>exact vi w
  |31,_,_=>exact vh w
  |32,_,_=>exact vg w
 ·have e:baseN op=0/\lets op=[]:=by
   by_cases h1:lets op=[]
   ·refine ⟨?_,h1⟩
    unfold baseN
    split
    ·rcases Nat.eq_zero_or_pos op.toNat with e|e
     ·rw [e];rfl
     ·rw [fU _ Za]
    ·rfl
   ·exact absurd (eu h1) h
  rw [e.1,e.2]
  exact uR op h w
theorem yeo(w:qW)(e:TypeId)(s:qB):Below w.heap.size w (Lib.bytesWorld w e s):=
 ⟨rfl,rfl,rfl,by rw [Lib.bytesWorld_size];omega,fun k hk=>Lib.bytesWorld_at_old w e s k hk⟩
theorem jk(ls:List Nat):(strB ls).size=ls.length:=by
 unfold strB
 simp [ByteArray.size]
theorem nw(w:qW)(B:Nat)(hB:w.heap.size=B)(ls:List Nat)(hl: ∀c∈ls,c<256): ∃(c:Nat) (wb:qW),(convert 9 22 (.string (strB ls))).run Tryz.prog w= .ok (.slice (some ⟨B,0,none⟩) ls.length c) wb/\
  Below w.heap.size w wb/\wb.heap.size=B+1/\ ∀(j x:Nat),ls[j]?=some x->wb.cell? ⟨B,j,none⟩=some (.int .u8 x):=by
 subst hB
 have h:=Lib.run_convert_string_bytes (P:=Tryz.prog) w 9 22 5 (strB ls) Tryz.underlying9 Tryz.underlying22 Tryz.underlying5
 rw [jk] at h
 refine ⟨_,_,h,yeo _ _ _,Lib.bytesWorld_size _ _ _,fun j x hx=>?_⟩
 obtain ⟨hj,zO⟩:=List.getElem?_eq_some_iff.mp hx
 rw [Lib.bytesWorld_cell _ _ _ j (by rw [jk];exact hj)]
 have wY:=hl x (zat hx)
 have e:(strB ls).data.toList.getD j 0=UInt8.ofNat x:=by
  unfold strB
  simp [List.getD,hx]
 rw [e]
 have:(UInt8.ofNat x).toNat=x:=by simp;omega
 rw [this]
end Go.Proofs.YtcekjfmfcefjpaaGreatDoor
namespace Go.Proofs.YtcekjfmfcefjpaaGreatDoor
theorem df(lo n j:Nat):((2^n-1)*2^lo).testBit j=(decide (lo<=j)&&decide (j<lo+n)):=by
 rw [<-Nat.shiftLeft_eq,Nat.testBit_shiftLeft,Nat.testBit_two_pow_sub_one]
 by_cases h:lo<=j
 ·simp [h]
  omega
 ·simp [h]
theorem eL(a lo j:Nat):(a*2^lo).testBit j=(decide (lo<=j)&&a.testBit (j-lo)):=by
 rw [<-Nat.shiftLeft_eq,Nat.testBit_shiftLeft]
theorem sJ(a lo n:Nat)(h:lo+n<=32):(a*2^lo%4294967296)&&&((2^n-1)*2^lo)=a%2^n*2^lo:=by
 apply Nat.eq_of_testBit_eq
 intro j
 rw [Nat.testBit_and,df,(show 4294967296=2^32 by rfl),Nat.testBit_mod_two_pow,eL,eL,Nat.testBit_mod_two_pow]
 by_cases h1:lo<=j
 ·by_cases h2:j<lo+n
  ·simp [h1,h2,(show j<32 by omega),(show j-lo<n by omega)]
  ·simp [h1,h2,(show¬j-lo<n by omega)]
 ·simp [h1]
theorem mv(w lo n:Nat):(w&&&((2^n-1)*2^lo))/2^lo=w/2^lo%2^n:=by
 apply Nat.eq_of_testBit_eq
 intro j
 rw [Nat.testBit_div_two_pow,Nat.testBit_and,df,fw]
 by_cases h1:j<n
 ·simp [h1,(show j+lo<lo+n by omega),Nat.add_comm]
 ·simp [h1,(show¬j+lo<lo+n by omega)]
theorem ut(w lo n v:Nat)(hw:w<4294967296)(hv:v<2^n)(h:lo+n<=32):(w&&&(4294967295-(2^n-1)*2^lo))|||(v*2^lo)=ovr w lo n v:=by
 have hm:(2^n-1)*2^lo<2^32:=by
  refine Nat.lt_pow_two_of_testBit _ fun j hj=>?_
  rw [df,zax (show¬j<lo+n by omega),Bool.and_false]
 apply Nat.eq_of_testBit_eq
 intro j
 rw [Nat.testBit_or,Nat.testBit_and,eL,fd _ _ _ _ _ hv,(show 4294967295-(2^n-1)*2^lo=2^32-((2^n-1)*2^lo+1) by omega),Nat.testBit_two_pow_sub_succ hm,df]
 by_cases h1:lo<=j
 ·by_cases h2:j<lo+n
  ·simp [h1,h2]
  ·have:v.testBit (j-lo)=false:=Nat.testBit_lt_two_pow (zar hv (zaQ Za Za))
   rw [this,if_neg Za]
   by_cases h3:j<32
   ·simp [h1,h2,h3]
   ·have:w.testBit j=false:=Nat.testBit_lt_two_pow (zar (show w<2^32 by omega) (zaQ Za Za))
    simp [this]
 ·rw [if_neg Za]
  by_cases h3:j<32
  ·simp [h1,h3]
  ·have:w.testBit j=false:=Nat.testBit_lt_two_pow (zar (show w<2^32 by omega) (zaQ Za Za))
   simp [h1,this]
theorem kJ{w lo n v:Nat}(hw:w<4294967296)(hv:v<2^n)(h:lo+n<=32):ovr w lo n v<4294967296:=by
 refine Nat.lt_pow_two_of_testBit (n:=32) _ fun j hj=>?_
 rw [fd _ _ _ _ _ hv,if_neg Za]
 exact Nat.testBit_lt_two_pow (zar (show w<2^32 by omega) (zaQ Za hj))
def mskN(f:Fl):Nat:=(2^f.n-1)*2^f.lo
theorem fg{f:Fl}(h:FlOk f):mskN f<4294967296:=by
 refine Nat.lt_pow_two_of_testBit (n:=32) _ fun j hj=>?_
 unfold mskN
 have:=h.hi
 rw [df,zax (show¬j<f.lo+f.n by omega),Bool.and_false]
theorem oW{f:Fl}(h:FlOk f){v:Nat}(hv:v<2^f.n):v*2^f.lo<4294967296:=by
 have h1:v*2^f.lo<2^f.n*2^f.lo:=Nat.mul_lt_mul_of_pos_right hv (Nat.two_pow_pos _)
 rw [<-Nat.pow_add] at h1
 exact zar h1 (show 2^(f.n+f.lo)<=2^32 from zaQ (n:=2) Za (by have:=h.hi;omega))
theorem kK{f:Fl}(h:FlOk f){w v:Nat}(hw:w<4294967296)(hv:v<2^f.n):
  bits .or .u32 (bits .andNot .u32 (w:Int) ((mskN f:Nat):Int)) ((v*2^f.lo:Nat):Int)=((ovr w f.lo f.n v:Nat):Int):=by
 rw [u32_andNot_nat _ _ hw (fg h),u32_or_nat _ _ (Nat.lt_of_le_of_lt Nat.and_le_left hw) (oW h hv)]
 unfold mskN
 rw [ut _ _ _ _ hw hv h.hi]
theorem uu{f:Fl}(h:FlOk f){w s:Nat}(hw:w<4294967296)(hs:s<4294967296):
  bits .or .u32 (bits .andNot .u32 (w:Int) ((mskN f:Nat):Int)) (bits .and .u32 (s:Int) ((mskN f:Nat):Int))=((ovr w f.lo f.n (s/2^f.lo%2^f.n):Nat):Int):=by
 have e:s&&&mskN f=s/2^f.lo%2^f.n*2^f.lo:=by
  have h1:=mv s f.lo f.n
  unfold mskN
  rw [<-h1]
  apply Nat.eq_of_testBit_eq
  intro j
  rw [eL,Nat.testBit_div_two_pow,Nat.testBit_and,Nat.testBit_and,df,df]
  by_cases h2:f.lo<=j
  ·simp [h2]
  ·simp [h2]
 rw [u32_and_nat _ _ hs (fg h),e,kK h hw (zaL _ (Nat.two_pow_pos _))]
theorem bU{f:Fl}(h:FlOk f)(a:Nat)(P:Int)(hP:P=((2^f.lo:Nat):Int)):bits .and .u32 ((a:Int)*P%4294967296) ((mskN f:Nat):Int)=((a%2^f.n*2^f.lo:Nat):Int):=by
 subst hP
 rw [<-Int.natCast_mul,(show ((a*2^f.lo:Nat):Int)%4294967296=((a*2^f.lo%4294967296:Nat):Int) by omega),u32_and_nat _ _ (zaL _ Za) (fg h)]
 unfold mskN
 rw [sJ _ _ _ h.hi]
theorem bF{f:Fl}(h:FlOk f)(w:Nat)(hw:w<4294967296)(P:Int)(hP:P=((2^f.lo:Nat):Int)):bits .and .u32 (w:Int) ((mskN f:Nat):Int)/P=((w/2^f.lo%2^f.n:Nat):Int):=by
 subst hP
 rw [u32_and_nat _ _ hw (fg h),<-Int.natCast_ediv]
 unfold mskN
 rw [mv]
theorem aM(a:Nat)(h:a<4294967296):bits .xor .u32 (a:Int) 0=(a:Int):=by
 have:=u32_xor_nat a 0 h Za
 rw [Nat.xor_zero] at this
 exact this
end Go.Proofs.YtcekjfmfcefjpaaGreatDoor
