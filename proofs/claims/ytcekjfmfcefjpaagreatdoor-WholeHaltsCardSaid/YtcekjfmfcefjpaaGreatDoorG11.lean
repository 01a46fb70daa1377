/- Walks. No condition. -/
import Derived.Deep.RegionWith
import Derived.Maps.OwnSet
import Derived.Test.YtcekjfmfcefjpaaGreatDoorG10
set_option maxRecDepth 100000
set_option maxHeartbeats 0
set_option linter.all false
namespace Go.Proofs.YtcekjfmfcefjpaaGreatDoor
open Go.RowKit Go.Sort
abbrev Iv:Type:=Int->Option (Int×Int)
def ev(R i:Int)(S:Iv)(r:Int):Iv:=if R<=r then S else fun q=>if q=r then (match S r with|none=>some (i,i)|some (f,_)=>some (f,i)) else S q
def evs(R i:Int)(S:Iv)(l:List Int):Iv:=l.foldl (ev R i) S
def regsL(o:LOp):List Int:=usesL o++setsL o
def ivsN(R:Int)(ops:Nat->LOp):Nat->Iv
 |0=>fun _=>none
 |k+1=>evs R k (ivsN R ops k) (regsL (ops k))
def OAt(w:qW)(X p:Nat)(o:LOp):Prop:=
 w.cell? (aB X p)=some (iI o.k)/\w.cell? ⟨X,p+1,none⟩=some (iI o.d)/\w.cell? ⟨X,p+2,none⟩=some (iI o.d2)/\w.cell? ⟨X,p+3,none⟩=some (iI o.a)/\w.cell? ⟨X,p+4,none⟩=some (iI o.b)
  /\w.cell? ⟨X,p+5,none⟩=some (iI o.c)/\w.cell? ⟨X,p+6,none⟩=some (.int .u64 o.n)/\w.cell? ⟨X,p+7,none⟩=some (iI o.op)/\w.cell? ⟨X,p+8,none⟩=some (iI o.sz)/\w.cell? ⟨X,p+9,none⟩=some (iI o.od)
  /\w.cell? ⟨X,p+10,none⟩=some (iI o.tgt)/\w.cell? ⟨X,p+11,none⟩=some (iI o.st)/\w.cell? ⟨X,p+12,none⟩=some (iI o.ln)
theorem OAt.below{w w':qW}{X p:Nat}{o:LOp}(h:OAt w X p o)(hb:Below w.heap.size w w'):OAt w' X p o:=by
 obtain ⟨c0,c1,c2,c3,c4,c5,c6,c7,c8,c9,c10,c11,c12⟩:=h
 exact ⟨aP c0 hb,aP c1 hb,aP c2 hb,aP c3 hb,aP c4 hb,aP c5 hb,aP c6 hb,aP c7 hb,aP c8 hb,aP c9 hb,aP c10 hb,aP c11 hb,aP c12 hb⟩
structure IvB(w wr:qW)(B Y:Nat)(S:Iv)(bl:Int->Option Nat):Prop where
 none_: ∀r,bl r=none->S r=none
 some_: ∀r b,bl r=some b-> ∃f t,S r=some (f,t)/\w.heap.size<=b/\b≠B/\b≠Y/\wr.cell? (aB b 0)=some (iI r)/\wr.cell? (aB b 1)=some (iI f)/\wr.cell? (aB b 2)=some (iI t)/\wr.frozen? (aB b 2)=false
structure IvW(w wr:qW)(B Y n:Nat)(S:Iv):Prop where
 below:Below w.heap.size w wr
 hB:w.heap.size<=B
 ex: ∃bl,PMap wr B n bl/\IvB w wr B Y S bl
theorem IvW.next{w wr wy:qW}{B Y n:Nat}{S:Iv}(h:IvW w wr B Y n S)(hb:Below wr.heap.size wr wy):IvW w wy B Y n S:=by
 obtain ⟨bl,hp,hi⟩:=h.ex
 refine ⟨bQ h.below hb,h.hB,bl,hp.below hb,hi.none_,fun r b hr=>?_⟩
 obtain ⟨f,t,e,h1,h2,hY,c0,c1,c2,z⟩:=hi.some_ r b hr
 refine ⟨f,t,e,h1,h2,hY,aP c0 hb,aP c1 hb,aP c2 hb,?_⟩
 rw [hb.frozen (bp c2)]
 exact z
theorem IvW.apart{w wr wy:qW}{B Y Y' n:Nat}{S:Iv}(h:IvW w wr B Y n S)(hb:Below wr.heap.size wr wy)(hY:wr.heap.size<=Y'):IvW w wy B Y' n S:=by
 have h2:=h.next hb
 obtain ⟨bl,hp,hi⟩:=h.ex
 refine ⟨h2.below,h.hB,bl,hp.below hb,hi.none_,fun r b hr=>?_⟩
 obtain ⟨f,t,e,h1,h2,_,c0,c1,c2,z⟩:=hi.some_ r b hr
 have wY:=bp c0
 refine ⟨f,t,e,h1,h2,by omega,aP c0 hb,aP c1 hb,aP c2 hb,?_⟩
 rw [hb.frozen (bp c2)]
 exact z
theorem IvW.plain{w wr:qW}{B Y n:Nat}{S:Iv}(h:IvW w wr B Y n S):IvW w wr B B n S:=by
 obtain ⟨bl,hp,hi⟩:=h.ex
 refine ⟨h.below,h.hB,bl,hp,hi.none_,fun r b hr=>?_⟩
 obtain ⟨f,t,e,h1,h2,_,c0,c1,c2,z⟩:=hi.some_ r b hr
 exact ⟨f,t,e,h1,h2,h2,c0,c1,c2,z⟩
theorem IvW.mono{w wr:qW}{B Y n m:Nat}{S:Iv}(h:IvW w wr B Y n S)(hm:n<=m):IvW w wr B Y m S:=by
 obtain ⟨bl,hp,hi⟩:=h.ex
 exact ⟨h.below,h.hB,bl,hp.mono hm,hi⟩
theorem dp(R i:Int)(S:Iv)(r q:Int)(h: ¬R<=r):ev R i S r q=if q=r then (match S r with|none=>some (i,i)|some (f,_)=>some (f,i)) else S q:=by
 unfold ev
 rw [if_neg h]
theorem ir(R i:Int)(S:Iv)(r:Int)(h:R<=r):ev R i S r=S:=if_pos h
theorem IvW.touch{w wr:qW}{B Y n:Nat}{S:Iv}{bl:Int->Option Nat}(hb:Below w.heap.size w wr)(hB:w.heap.size<=B)(hp:PMap wr B n bl)(hi:IvB w wr B Y S bl){R i r:Int}(hr: ¬R<=r){b:Nat}(xg:bl r=some b):
  IvW w (wr.setCell ⟨b,2,none⟩ (iI i)) B Y n (ev R i S r):=by
 obtain ⟨f,t,e,h1,h2,hY,c0,c1,c2,z⟩:=hi.some_ r b xg
 refine ⟨ax hb h1 _,hB,bl,hp.set (fun e=>h2 e.symm) _,fun q hq=>?_,fun q b' hq=>?_⟩
 ·rw [dp _ _ _ _ _ hr]
  have hne:q≠r:=fun e=>by rw [e,xg] at hq;cases hq
  simp only [if_neg hne]
  exact hi.none_ q hq
 ·obtain ⟨f',t',e',Kv,Bx,Kc,c0',c1',c2',z'⟩:=hi.some_ q b' hq
  rw [dp _ _ _ _ _ hr]
  by_cases z8:q=r
  ·subst z8
   rw [xg] at hq
   obtain rfl:=zae hq
   refine ⟨f,i,by simp [e],h1,h2,hY,?_,?_,zaF _ _ _ c2,by rw [zaG];exact z⟩
   ·rw [zaH _ _ _ _ Zi];exact c0
   ·rw [zaH _ _ _ _ Zi];exact c1
  ·have yz:b≠b':=fun e2=>by
    subst e2
    rw [c0] at c0'
    simp at c0'
    exact z8 c0'.symm
   have Kb: ∀k,(⟨b,2,none⟩:Addr)≠⟨b',k,none⟩:=fun k e2=>yz (congrArg Addr.block e2)
   refine ⟨f',t',by simp only [if_neg z8];exact e',Kv,Bx,Kc,?_,?_,?_,by rw [zaG];exact z'⟩
   all_goals (rw [zaH _ _ _ _ (Kb _)];assumption)
theorem IvB.fresh{w wr w2:qW}{B Y:Nat}{S:Iv}{bl:Int->Option Nat}(hw:w.heap.size<=wr.heap.size)(G6:B<wr.heap.size)(L5:Y<wr.heap.size)(hi:IvB w wr B Y S bl){R i r:Int}(hr: ¬R<=r)(xg:bl r=none)
  (hg:(wr.alloc (.cells #[iI r,iI i,iI i] 235)).grownBy w2 (some B)):
  IvB w w2 B Y (ev R i S r) (fun q=>if q=r then some wr.heap.size else bl q):=by
 have hS:=hi.none_ r xg
 have blk: ∀b,b<wr.heap.size+1->b≠B->w2.heap[b]?=(wr.alloc (.cells #[iI r,iI i,iI i] 235)).heap[b]?:=fun b h1 h2=>hg.block b (by simpa using h1) (fun e=>h2 (zae e))
 have cel: ∀b k,b<wr.heap.size+1->b≠B->w2.cell? (aB b k)=(wr.alloc (.cells #[iI r,iI i,iI i] 235)).cell? (aB b k):=fun b k h1 h2=>by simp [World.cell?,blk b h1 h2]
 have fro: ∀b k,b<wr.heap.size+1->b≠B->w2.frozen? (aB b k)=(wr.alloc (.cells #[iI r,iI i,iI i] 235)).frozen? (aB b k):=fun b k h1 h2=>by simp [World.frozen?,blk b h1 h2]
 refine ⟨fun q hq=>?_,fun q b hq=>?_⟩
 ·rw [dp _ _ _ _ _ hr]
  by_cases z8:q=r
  ·simp [z8] at hq
  ·simp only [if_neg z8] at hq ⊢
   exact hi.none_ q hq
 ·rw [dp _ _ _ _ _ hr]
  by_cases z8:q=r
  ·simp only [if_pos z8] at hq ⊢
   obtain rfl:=zae hq
   subst z8
   have hne:wr.heap.size≠B:=by omega
   refine ⟨i,i,by simp [hS],hw,hne,by omega,?_,?_,?_,?_⟩
   ·rw [cel _ _ Za hne,aR];simp
   ·rw [cel _ _ Za hne,aR];simp
   ·rw [cel _ _ Za hne,aR];simp
   ·rw [fro _ _ Za hne,dU];simp
  ·simp only [if_neg z8] at hq ⊢
   obtain ⟨f',t',e',Kv,Bx,Kc,c0',c1',c2',z'⟩:=hi.some_ q b hq
   have wY:=bp c0'
   refine ⟨f',t',e',Kv,Bx,Kc,?_,?_,?_,?_⟩
   ·rw [cel _ _ Za Bx,aR,if_pos wY];exact c0'
   ·rw [cel _ _ Za Bx,aR,if_pos wY];exact c1'
   ·rw [cel _ _ Za Bx,aR,if_pos wY];exact c2'
   ·rw [fro _ _ Za Bx,dU,if_pos wY];exact z'
def outN(S:Iv):Nat->List (Int×Int×Int)
 |0=>[]
 |q+1=>outN S q++(match S (q:Int) with|none=>[]|some (f,t)=>[((q:Int),f,t)])
def ivC(x:Int×Int×Int):List qV:=[iI x.1,iI x.2.1,iI x.2.2]
theorem kN{S:Iv}{q:Nat}(h:S (q:Int)=none):outN S (q+1)=outN S q:=by
 show outN S q++_=_
 rw [h]
 simp
theorem kM{S:Iv}{q:Nat}{f t:Int}(h:S (q:Int)=some (f,t)):outN S (q+1)=outN S q++[((q:Int),f,t)]:=by
 show outN S q++_=_
 rw [h]
theorem gz(S:Iv): ∀q,(outN S q).length<=q
 |0=>zaq _
 |q+1=>by
  have h:=gz S q
  cases hs:S (q:Int) with
  |none=>rw [kN hs];omega
  |some p=>
   obtain ⟨f,t⟩:=p
   rw [kM hs]
   simp
   omega
theorem ydl(R i:Int)(S:Iv)(r:Int):ev R i (ev R i S r) r=ev R i S r:=by
 by_cases h:R<=r
 ·rw [ir _ _ _ _ h,ir _ _ _ _ h]
 ·funext q
  rw [dp _ _ _ _ _ h,dp _ _ _ _ _ h,dp _ _ _ _ _ h]
  by_cases hq:q=r
  ·simp only [if_pos hq,if_true]
   cases S r<;>rfl
  ·simp only [if_neg hq]
theorem bI{w:qW}{c k b t:Nat}{v u:qV}(h:w.cell? (aB c k)=some v)(hne:c≠b):(w.setCell ⟨b,t,none⟩ u).cell? (aB c k)=some v:=by
 rw [zaH _ _ _ _ (fun e=>hne (congrArg Addr.block e).symm)]
 exact h
theorem OAt.set{w:qW}{X p b t:Nat}{o:LOp}{u:qV}(h:OAt w X p o)(hne:X≠b):OAt (w.setCell ⟨b,t,none⟩ u) X p o:=by
 obtain ⟨c0,c1,c2,c3,c4,c5,c6,c7,c8,c9,c10,c11,c12⟩:=h
 exact ⟨bI c0 hne,bI c1 hne,bI c2 hne,bI c3 hne,bI c4 hne,bI c5 hne,bI c6 hne,bI c7 hne,bI c8 hne,bI c9 hne,bI c10 hne,bI c11 hne,bI c12 hne⟩
theorem OAt.grown{w w':qW}{X p g:Nat}{o:LOp}(h:OAt w X p o)(hg:w.grownBy w' (some g))(hne:X≠g):OAt w' X p o:=by
 obtain ⟨c0,c1,c2,c3,c4,c5,c6,c7,c8,c9,c10,c11,c12⟩:=h
 exact ⟨bJ c0 hg hne,bJ c1 hg hne,bJ c2 hg hne,bJ c3 hg hne,bJ c4 hg hne,bJ c5 hg hne,bJ c6 hg hne,bJ c7 hg hne,bJ c8 hg hne,bJ c9 hg hne,bJ c10 hg hne,bJ c11 hg hne,bJ c12 hg hne⟩
theorem NumsAt.set{w:qW}{c b t:Nat}{l:List Int}{u:qV}(h:NumsAt w c l)(hne:c≠b):NumsAt (w.setCell ⟨b,t,none⟩ u) c l:=fun q x hq=>bI (h q x hq) hne
theorem oE{w:qW}{ops:Array Oper}{rest:List Oper}{o:Oper}{a:Act}{Q:Exit->Act->qW->Prop}
  (hg:o.guard=none) (m x v:Operand) (yj:o.op=Op.mapUpdate 248 m x v) (B n:Nat) (bl:Int->Option Nat) (hm:a.eval m= .map (some B)) (hp:PMap w B n bl) (hn:n<maxLen) (r:Int) (hx:a.eval x=iI r) (hr:(Lit.int .i64 r).wf=true) (b:Nat) (hv:a.eval v=pP b)
  (hK: ∀w',PMap w' B (n+1) (fun q=>if q=r then some b else bl q)->w.grownBy w' (some B)->wpList Tryz.prog ops Q rest (a.put o.dst undef) w'):
  wpList Tryz.prog ops Q (o::rest) a w:=by
 refine wpList_plain hg fun K' Kl=>?_
 obtain ⟨w',wU,r1,r2⟩:=hp.store hn r hr b
 unfold Oper.wp
 simp [execOp,yj,hm,hx,hv,ptrV] at wU ⊢
 rw [wU]
 simp [Result.andThen]
 exact Kl _ _ (hK w' r1 r2)
end Go.Proofs.YtcekjfmfcefjpaaGreatDoor
namespace Go.Proofs.YtcekjfmfcefjpaaGreatDoor
open Go.RowKit Go.Sort Go.Lib
def wfI(x:Int):Prop:=(Lit.int .i64 x).wf=true
def LOp.ok(o:LOp):Prop:=wfI o.a/\wfI o.b/\wfI o.c/\wfI o.d/\wfI o.d2/\wfI o.tgt
theorem jb{x y z:Int}(hx:wfI x)(hy:wfI y)(hz:wfI z)(k:Nat):wfI (bR x y z k):=by
 unfold bR
 split
 ·exact hx
 ·split
  ·exact hy
  ·exact hz
theorem lV{L:Nat->Int}(h: ∀k,wfI (L k))(n:Nat): ∀x∈kept L n,wfI x:=fun x hx=>by
 unfold kept at hx
 obtain ⟨j,_,rfl⟩:=List.mem_map.1 (List.mem_filter.1 hx).1
 exact h j
theorem sn{o:LOp}(h:o.ok): ∀x∈regsL o,wfI x:=fun x hx=>by
 obtain ⟨h1,h2,h3,h4,h5,_⟩:=h
 rcases List.mem_append.1 hx with hx|hx
 ·exact lV (fun k=>jb h1 h2 h3 k) _ x hx
 ·exact lV (fun k=>jb h4 h5 (by unfold wfI;decide) k) _ x hx
end Go.Proofs.YtcekjfmfcefjpaaGreatDoor
namespace Go.Proofs.YtcekjfmfcefjpaaGreatDoor
open Go.RowKit Go.Sort Go.Maps
def IMap(w:qW)(B n:Nat)(am:Int->Option Int):Prop:=
 ∃D:DataW Unit,w.ownsMap Tryz.prog 3 (plainElem Tryz.prog 3) B n D/\(∀r,Maps.has D (.int .i64 r)=(am r).isSome)/\ ∀r v,am r=some v->D.atKey (.int .i64 r) (.lit (.int .i64 0))= .lit (.int .i64 v)
theorem l9(w:qW):IMap (w.alloc (.map #[] 0)) w.heap.size 0 (fun _=>none):=⟨_,World.ownsMap_made _ _ _ _,fun _=>rfl,fun _ _ h=>by cases h⟩
theorem IMap.lt{w:qW}{B n:Nat}{am:Int->Option Int}(h:IMap w B n am):B<w.heap.size:=by
 obtain ⟨D,h,_⟩:=h
 exact h.lt
theorem IMap.keep{w w':qW}{B n:Nat}{am:Int->Option Int}(h:IMap w B n am)(hk:w'.heap[B]?=w.heap[B]?):IMap w' B n am:=by
 obtain ⟨D,⟨es,clock,hb,r⟩,hD⟩:=h
 exact ⟨D,⟨es,clock,hk.trans hb,r⟩,hD⟩
theorem IMap.below{w w':qW}{B n:Nat}{am:Int->Option Int}(h:IMap w B n am)(hb:Below w.heap.size w w'):IMap w' B n am:=h.keep (hb.block B h.lt)
theorem IMap.mono{w:qW}{B n m:Nat}{am:Int->Option Int}(h:IMap w B n am)(hm:n<=m):IMap w B m am:=by
 obtain ⟨D,h,hD⟩:=h
 exact ⟨D,h.mono hm,hD⟩
theorem IMap.look{w:qW}{B n:Nat}{am:Int->Option Int}(h:IMap w B n am)(r:Int)(hr:(Lit.int .i64 r).wf=true):
  ∃c:Int,(Instr.lookup 260 (.map (some B)) (.int .i64 r) true).run Tryz.prog w= .ok (.tuple #[.int .i64 c,.bool (am r).isSome]) w/\ ∀v,am r=some v->c=v:=by
 obtain ⟨D,h,hh,hD⟩:=h
 obtain ⟨v,ps,wU,hv⟩:=h.look_ok (int_keyed Tryz.underlying3) Tryz.underlying260 (z:= .int .i64 0) Zb (zd:= .lit (.int .i64 0)) (zp:=[]) (plainElem_int Tryz.underlying3 Zg) (keyOf_int_mk Tryz.underlying3 hr)
 obtain ⟨c,rfl,hc,_⟩:=plainElem_int_inv Tryz.underlying3 hv
 rw [hh r] at wU
 refine ⟨c,wU,fun v hv=>?_⟩
 have:=congrArg Prod.fst hc
 rw [show (D.atKey (.int .i64 r) (.lit (.int .i64 0)),ps).1=D.atKey (.int .i64 r) (.lit (.int .i64 0)) from rfl,hD r v hv] at this
 simp at this
 exact this.symm
theorem IMap.store{w:qW}{B n:Nat}{am:Int->Option Int}(h:IMap w B n am)(hn:n<maxLen)(r:Int)(hr:(Lit.int .i64 r).wf=true)(v:Int)(hv:(Lit.int .i64 v).wf=true):
  ∃w',(Instr.mapUpdate 260 (.map (some B)) (.int .i64 r) (.int .i64 v)).run Tryz.prog w= .ok () w'/\IMap w' B (n+1) (fun q=>if q=r then some v else am q)/\w.grownBy w' (some B):=by
 obtain ⟨D,h,hh,hD⟩:=h
 obtain ⟨w',wU,ho,hg⟩:=h.update (int_keyed Tryz.underlying3) Tryz.underlying260 hn (keyOf_int_mk Tryz.underlying3 hr) (plainElem_int Tryz.underlying3 hv)
 refine ⟨w',wU,⟨_,ho,fun q=>?_,fun q u hq=>?_⟩,hg⟩
 ·by_cases z8:q=r
  ·subst z8
   simp only [if_true,Option.isSome_some]
   exact Maps.has_put_same h.isMap (by trivial) _
  ·simp only [if_neg z8]
   rw [Maps.has_put_other (fun e=>z8 (by simpa using e))]
   exact hh q
 ·by_cases z8:q=r
  ·subst z8
   simp only [if_true] at hq
   obtain rfl:=zae hq
   exact Maps.atKey_put_same h.isMap (by trivial) _ _
  ·simp only [if_neg z8] at hq
   rw [Maps.atKey_put_other (fun e=>z8 (by simpa using e))]
   exact hD q u hq
theorem oF{w:qW}{ops:Array Oper}{rest:List Oper}{o:Oper}{a:Act}{Q:Exit->Act->qW->Prop}
  (hg:o.guard=none) (m x v:Operand) (yj:o.op=Op.mapUpdate 260 m x v) (B n:Nat) (am:Int->Option Int) (hm:a.eval m= .map (some B)) (hp:IMap w B n am) (hn:n<maxLen) (r:Int) (hx:a.eval x= .int .i64 r) (hr:(Lit.int .i64 r).wf=true) (u:Int) (hv:a.eval v= .int .i64 u) (hu:(Lit.int .i64 u).wf=true)
  (hK: ∀w',IMap w' B (n+1) (fun q=>if q=r then some u else am q)->w.grownBy w' (some B)->wpList Tryz.prog ops Q rest (a.put o.dst undef) w'):
  wpList Tryz.prog ops Q (o::rest) a w:=by
 refine wpList_plain hg fun K' Kl=>?_
 obtain ⟨w',wU,r1,r2⟩:=hp.store hn r hr u hu
 unfold Oper.wp
 simp [execOp,yj,hm,hx,hv]
 rw [wU]
 simp [Result.andThen]
 exact Kl _ _ (hK w' r1 r2)
end Go.Proofs.YtcekjfmfcefjpaaGreatDoor
namespace Go.Proofs.YtcekjfmfcefjpaaGreatDoor
open Go.RowKit Go.Sort Go.Lib
def cB(ops:Nat->LOp):Nat->Int->Option Int
 |0=>fun _=>none
 |k+1=>if (ops k).k=14 then fun q=>if q=(ops k).tgt then some (k:Int) else cB ops k q else cB ops k
def lpN(ops:Nat->LOp):Nat->List (Int×Int)
 |0=>[]
 |k+1=>lpN ops k++(if (ops k).k=15\/(ops k).k=16 then (match cB ops k (ops k).tgt with|some q=>[(q,(k:Int))]|none=>[]) else [])
theorem ye1(ops:Nat->LOp)(k:Nat):cB ops (k+1)=if (ops k).k=14 then fun q=>if q=(ops k).tgt then some (k:Int) else cB ops k q else cB ops k:=rfl
theorem lG(ops:Nat->LOp)(k:Nat):lpN ops (k+1)=lpN ops k++(if (ops k).k=15\/(ops k).k=16 then (match cB ops k (ops k).tgt with|some q=>[(q,(k:Int))]|none=>[]) else []):=rfl
def lpC(x:Int×Int):List qV:=[iI x.1,iI x.2]
theorem gW(ops:Nat->LOp): ∀k,(lpN ops k).length<=k
 |0=>zaq _
 |k+1=>by
  have h:=gW ops k
  show (lpN ops k++_).length<=_
  rw [zaO]
  split
  ·split<;>simp<;>omega
  ·simp;omega
theorem ybw:(Tryz.prog.info? 257).map (fun i=>(i.zero,i.size,i.bytes))=some (some (.agg #[iI 0,iI 0]),2,16):=by kernel_rfl
theorem l8{w w':qW}{B m base size n:Nat}{e:TypeId}{am:Int->Option Int}{v:qV}{xs:List qV}(h:IMap w B m am)(hown:w.ownsRow base e size v n xs)(hg:w.grownBy w' v.ownBlock)(hB:B<base):IMap w' B m am:=
 h.keep (hg.block B h.lt (fun e=>by have:=hown.lt B e.symm;omega))
theorem uj{w w':qW}{base e size n g:Nat}{v:qV}{xs:List qV}(h:w.ownsRow base e size v n xs)(hg:w.grownBy w' (some g))(hb:g<base):w'.ownsRow base e size v n xs:=by
 obtain ⟨h1,h2⟩:=h
 refine ⟨h1,?_⟩
 rcases h2 with h2|⟨b,cap,cur,e1,e2,e3,e4,e5,e6,e7⟩
 ·exact .inl h2
 ·refine .inr ⟨b,cap,cur,e1,e2,?_,e4,e5,e6,e7⟩
  rw [<-e3]
  exact hg.block b (Array.getElem?_eq_some_iff.1 e3).1 (fun e=>by have:=zae e;omega)
structure LpW(w wr:qW)(X off N:Nat)(ops:Nat->LOp)(k:Nat)(v:qV):Prop where
 below:Below w.heap.size w wr
 map:IMap wr w.heap.size k (cB ops k)
 own:wr.ownsRow (w.heap.size+1) 257 2 v (lpN ops k).length ((lpN ops k).flatMap lpC)
 ops_: ∀q,q<N->OAt wr X (off+q*13) (ops q)
theorem wS(A:Option Addr)(X off N cap:Nat)(ops:Nat->LOp)(hA:0<N->A=some ⟨X,off,none⟩)(hN:N<=61)(yu:N<=cap)(Dm:cap<=9223372036854775807)(BN: ∀k,k<N->wfI (ops k).tgt)(w:qW)(hO: ∀k,k<N->OAt w X (off+k*13) (ops k)):
  qC 118 #[.slice A N cap] w fun e w'=> ∃v,e= .returned v/\(∃p:Regrown,w'=more w p)/\w'.ownsRow (w.heap.size+1) 257 2 v (lpN ops N).length ((lpN ops N).flatMap lpC):=by
 have Lv:=@run_makeMap Tryz.prog
 have zK:=Zh BN
 have HO:=Zh hO
 obtain ⟨i0,hi,xq,xm,xk⟩:=zan ybw
 have H0:Hid (LpW w (w.alloc (.map #[] 0)) X off N ops 0 (.slice none 0 0)):=Zh
  ⟨ab (zaa _ _) _,l9 w,⟨rfl,.inl ⟨rfl,rfl⟩⟩,fun q hq=>(hO q hq).below (ab (zaa _ _) _)⟩
 clear hO BN
 go_enter Tryz.func118,Tryz.ntmps118
 go_wp2_with fail
 go_loopw [4,12] (fun v4 v12 wr=> ∃k:Nat,k<=N/\v12=iI k/\LpW w wr X off N ops k v4) (fun _ v12 _=>N-(intOf v12).toNat)
 case atStart=>exact ⟨0,by omega,rfl,H0.out⟩
 case round=>
  obtain ⟨k,hk,rfl,hW⟩:=hrel
  have HW:=Zh hW
  clear hW H0
  by_cases wY:(k:Int)<N
  ·obtain rfl:=hA Za
   have hXw:X<w.heap.size:=bp (HO.out k Za).1
   have G6:=HW.out.map.lt
   have hO:=HW.out.ops_ k Za
   unfold OAt at hO
   obtain ⟨c0,c1,c2,c3,c4,c5,c6,c7,c8,c9,c10,c11,c12⟩:=hO
   have Ig:=zK.out k Za
   have y7:wfI (k:Int):=WalkArith.wf_i64 Za
   have E1:=Zh (lG ops k)
   have E2:=Zh (ye1 ops k)
   have wX:=gW ops k
   obtain ⟨o,ho⟩: ∃o,o=ops k:=⟨_,rfl⟩
   rw [<-ho] at c0 c1 c2 c3 c4 c5 c6 c7 c8 c9 c10 c11 c12 Ig E1 E2
   clear ho
   obtain ⟨kd,d,d2,a,b,c,nn,op,sz,od,tgt,st,ln⟩:=o
   simp only at c0 c1 c2 c3 c4 c5 c6 c7 c8 c9 c10 c11 c12 Ig E1 E2
   by_cases IL:kd=14
   ·subst IL
    have e1:lpN ops (k+1)=lpN ops k:=by rw [E1.out];simp
    have e2:=E2.out
    rw [if_pos rfl] at e2
    replace E1:=Zh e1
    replace E2:=Zh e2
    clear e1 e2
    go_wp2_with (at_mapUpdate;refine oF rfl _ _ _ rfl w.heap.size k (cB ops k) rfl (HW.out.map.below (ab (zaa _ _) _)) (by unfold maxLen;omega) tgt rfl Ig (k:Int) rfl y7 ?_;intro w2 im2 grow2;go_frame)
    have xA:=Zh (fF (ab HW.out.below _) grow2 (zaq _))
    have xu:=Zh (fun q hq=>((HW.out.ops_ q hq).below (ab (zaa _ _) (.cells #[iI 14,iI d,iI d2,iI a,iI b,iI c,.int .u64 nn,iI op,iI sz,iI od,iI tgt,iI st,iI ln] 250))).grown grow2 Za)
    have yf:Hid (w2.ownsRow (w.heap.size+1) 257 2 u4 (lpN ops k).length ((lpN ops k).flatMap lpC)):=Zh (by
     refine uj (HW.out.own.alloc _) grow2 ?_
     omega)
    have Hv:=Zh im2
    clear im2 grow2
    go_wp2_with fail
    go_roundw
    case rel=>exact ⟨k+1,by omega,by go_num,xA.out,by rw [E2.out];exact Hv.out,by rw [E1.out];exact yf.out,xu.out⟩
    case measure=>simp [intOf];omega
   ·rw [if_neg IL] at E2
    have b14:(kd==14)=false:=by simpa using IL
    by_cases G8:kd=15\/kd=16
    ·rw [if_pos G8] at E1
     obtain ⟨cv,Bo,Fi⟩:=(HW.out.map.below (ab (zaa _ _) (.cells #[iI kd,iI d,iI d2,iI a,iI b,iI c,.int .u64 nn,iI op,iI sz,iI od,iI tgt,iI st,iI ln] 250))).look tgt Ig
     generalize cB ops k tgt=am at E1 Bo Fi
     cases am with
     |none=>
      simp only [Option.isSome_none] at Bo
      simp only [List.append_nil] at E1
      clear Fi
      rcases G8 with rfl|rfl
      all_goals
       go_wp2_with fail
       go_roundw
       case rel=>exact ⟨k+1,by omega,by go_num,ab HW.out.below _,by rw [E2.out];exact (HW.out.map.below (ab (zaa _ _) _)).mono Za,by rw [E1.out];exact HW.out.own.alloc _,fun q hq=>(HW.out.ops_ q hq).below (ab (zaa _ _) _)⟩
       case measure=>simp [intOf];omega
     |some qv=>
      simp only [Option.isSome_some] at Bo
      obtain rfl:=Fi qv rfl
      clear Fi
      have HE:Hid ((lpN ops (k+1)).length=(lpN ops k).length+1/\(lpN ops (k+1)).flatMap lpC=(lpN ops k).flatMap lpC++[iI cv,iI k]):=Zh (by
       rw [E1.out,List.flatMap_append]
       exact ⟨by simp,rfl⟩)
      have yf:=Zh HW.out.own
      generalize (lpN ops k).length=nq at*
      generalize (lpN ops k).flatMap lpC=cs at*
      have hwz:=HW.out.below.size
      rcases G8 with rfl|rfl
      ·go_wp2_with (at_builtin;refine wpList_append_own _ rfl _ _ 254 rfl (w.heap.size+1) 257 i0 (.agg #[iI 0,iI 0]) 2 16 Tryz.underlying254 hi xq xm xk rfl Zg _ _ _ rfl ((yf.out.alloc _).alloc _) ⟨wr.heap.size+1,0,none⟩ 1 1 [iI cv,iI k] rfl rfl ?a1x ?a2x ?a3x ?a4x ?a5x ?_)
       case a2x=>exact ⟨rfl,rfl⟩
       case a3x=>unfold maxLen;omega
       case a4x=>omega
       case a5x=>omega
       intro v' w' own grow BO
       have xA:=Zh (bW (ab (ab HW.out.below _) _) ((yf.out.alloc _).alloc _) grow Za)
       have Hv:=Zh (l8 ((HW.out.map.below (ab (ab (zaa _ _) _) _)).mono (show k<=k+1 by omega)) ((yf.out.alloc _).alloc _) grow Za)
       clear grow BO
       go_wp2_with fail
       go_roundw
       case rel=>exact ⟨k+1,by omega,by go_num,xA.out,by rw [E2.out];exact Hv.out,by rw [HE.out.1,HE.out.2];exact own,fun q hq=>(HO.out q hq).below xA.out⟩
       case measure=>simp [intOf];omega
      ·go_wp2_with (at_builtin;refine wpList_append_own _ rfl _ _ 254 rfl (w.heap.size+1) 257 i0 (.agg #[iI 0,iI 0]) 2 16 Tryz.underlying254 hi xq xm xk rfl Zg _ _ _ rfl ((yf.out.alloc _).alloc _) ⟨wr.heap.size+1,0,none⟩ 1 1 [iI cv,iI k] rfl rfl ?a1y ?a2y ?a3y ?a4y ?a5y ?_)
       case a2y=>exact ⟨rfl,rfl⟩
       case a3y=>unfold maxLen;omega
       case a4y=>omega
       case a5y=>omega
       intro v' w' own grow BO
       have xA:=Zh (bW (ab (ab HW.out.below _) _) ((yf.out.alloc _).alloc _) grow Za)
       have Hv:=Zh (l8 ((HW.out.map.below (ab (ab (zaa _ _) _) _)).mono (show k<=k+1 by omega)) ((yf.out.alloc _).alloc _) grow Za)
       clear grow BO
       go_wp2_with fail
       go_roundw
       case rel=>exact ⟨k+1,by omega,by go_num,xA.out,by rw [E2.out];exact Hv.out,by rw [HE.out.1,HE.out.2];exact own,fun q hq=>(HO.out q hq).below xA.out⟩
       case measure=>simp [intOf];omega
    ·rw [if_neg G8,List.append_nil] at E1
     have b15:(kd==15)=false:=by simp;omega
     have b16:(kd==16)=false:=by simp;omega
     go_wp2_with fail
     go_roundw
     case rel=>exact ⟨k+1,by omega,by go_num,ab HW.out.below _,by rw [E2.out];exact (HW.out.map.below (ab (zaa _ _) _)).mono Za,by rw [E1.out];exact HW.out.own.alloc _,fun q hq=>(HW.out.ops_ q hq).below (ab (zaa _ _) _)⟩
     case measure=>simp [intOf];omega
  ·obtain rfl:k=N:=by omega
   go_wp2_with fail
   go_ret
   exact ⟨_,rfl,bu HW.out.below,HW.out.own⟩
def bf(lf lt:Int)(x:Int×Int×Int):Bool:=decide (x.2.1<lf/\lf<=x.2.2/\x.2.2<lt)
def st1(lf lt:Int)(x:Int×Int×Int):Int×Int×Int:=if bf lf lt x then (x.1,x.2.1,lt) else x
def RowAt(w:qW)(g:Nat)(l:List (Int×Int×Int)):Prop:= ∀j x,l[j]?=some x->w.cell? ⟨g,j*3,none⟩=some (iI x.1)/\w.cell? ⟨g,j*3+1,none⟩=some (iI x.2.1)/\w.cell? ⟨g,j*3+2,none⟩=some (iI x.2.2)/\w.frozen? ⟨g,j*3+2,none⟩=false
theorem RowAt.below{w w':qW}{g:Nat}{l:List (Int×Int×Int)}(h:RowAt w g l)(hb:Below w.heap.size w w'):RowAt w' g l:=fun j x hj=>by
 obtain ⟨c0,c1,c2,z⟩:=h j x hj
 exact ⟨aP c0 hb,aP c1 hb,aP c2 hb,by rw [hb.frozen (bp c2)];exact z⟩
theorem take_set{l:List (Int×Int×Int)}{j:Nat}{x:Int×Int×Int}(h:l[j]?=some x)(f:Int×Int×Int->Int×Int×Int)(i:Nat):
  ((l.take (j+1)).map f++l.drop (j+1))[i]?=if i=j then some (f x) else ((l.take j).map f++l.drop j)[i]?:=by
 have hj:=(List.getElem?_eq_some_iff.1 h).1
 by_cases Ak:i=j
 ·subst Ak
  rw [if_pos rfl,zah Zk,zaj,List.getElem?_take_of_lt Za,h]
  rfl
 ·rw [if_neg Ak]
  rcases zaJ i j with wY|JX
  ·rw [zah Zk,zah Zk,zaj,zaj,List.getElem?_take_of_lt Za,List.getElem?_take_of_lt Za]
  ·rw [zai Zk,zai Zk,List.getElem?_drop,List.getElem?_drop]
   congr 1
   simp
   omega
theorem RowAt.step{w:qW}{g:Nat}{l:List (Int×Int×Int)}{j:Nat}{x:Int×Int×Int}{lf lt:Int}(hj:l[j]?=some x)(h:RowAt w g ((l.take j).map (st1 lf lt)++l.drop j))(hc:bf lf lt x=true):
  RowAt (w.setCell ⟨g,j*3+2,none⟩ (iI lt)) g ((l.take (j+1)).map (st1 lf lt)++l.drop (j+1)):=fun i y hi=>by
 have yL:=(List.getElem?_eq_some_iff.1 hj).1
 have Cs:((l.take j).map (st1 lf lt)++l.drop j)[j]?=some x:=by
  rw [zai Zk,List.getElem?_drop]
  simp
  rw [show j+(j-min j l.length)=j by omega]
  exact hj
 rw [take_set hj] at hi
 have AL: ∀k,k≠j*3+2->(w.setCell ⟨g,j*3+2,none⟩ (iI lt)).cell? (aB g k)=w.cell? (aB g k):=fun k hk=>
  zaH _ _ _ _ (fun e=>hk (congrArg Addr.off e).symm)
 by_cases Ak:i=j
 ·subst Ak
  rw [if_pos rfl] at hi
  obtain ⟨c0,c1,c2,z⟩:=h i x Cs
  have hy:y=(x.1,x.2.1,lt):=by
   have:=zae hi
   rw [<-this]
   unfold st1
   rw [if_pos hc]
  subst hy
  exact ⟨by rw [AL _ Za];exact c0,by rw [AL _ Za];exact c1,zaF _ _ _ c2,by rw [zaG];exact z⟩
 ·rw [if_neg Ak] at hi
  obtain ⟨c0,c1,c2,z⟩:=h i y hi
  exact ⟨by rw [AL _ Za];exact c0,by rw [AL _ Za];exact c1,by rw [AL _ Za];exact c2,by rw [zaG];exact z⟩
theorem RowAt.stay{w:qW}{g:Nat}{l:List (Int×Int×Int)}{j:Nat}{x:Int×Int×Int}{lf lt:Int}(hj:l[j]?=some x)(h:RowAt w g ((l.take j).map (st1 lf lt)++l.drop j))(hc:bf lf lt x=false):
  RowAt w g ((l.take (j+1)).map (st1 lf lt)++l.drop (j+1)):=fun i y hi=>by
 have yL:=(List.getElem?_eq_some_iff.1 hj).1
 rw [take_set hj] at hi
 by_cases Ak:i=j
 ·subst Ak
  rw [if_pos rfl] at hi
  have hy:y=x:=by
   have:=zae hi
   rw [<-this]
   unfold st1
   rw [if_neg (by rw [hc];decide)]
  subst hy
  refine h i y ?_
  rw [zai Zk,List.getElem?_drop]
  simp
  rw [show i+(i-min i l.length)=i by omega]
  exact hj
 ·rw [if_neg Ak] at hi
  exact h i y hi
theorem ye8(l:List (Int×Int×Int))(p:Int×Int×Int->Bool)(j:Nat)(x:Int×Int×Int)(h:l[j]?=some x):(l.take (j+1)).any p=((l.take j).any p||p x):=by
 rw [zaz,h,List.any_append]
 simp
theorem RowAt.onto_new{w:qW}{g:Nat}{l:List (Int×Int×Int)}(h:RowAt w g l)(o:Obj):RowAt (w.alloc o) g l:=h.below (ab (zaa _ _) o)
theorem RowAt.mo{w:qW}{g:Nat}{l:List (Int×Int×Int)}(h:RowAt w g l)(p:Regrown):RowAt (more w p) g l:=h.below (av w p)
theorem pE(A:Option Addr)(g cap:Nat)(l:List (Int×Int×Int))(lf lt:Int)(hA:0<l.length->A=aA g)(hl:l.length<=300)(yu:l.length<=cap)(Dm:cap<=9223372036854775807)(w:qW)(hg:0<l.length->g<w.heap.size)(hR:RowAt w g l):
  qC 119 #[.slice A l.length cap,.agg #[iI lf,iI lt]] w fun e w'=>e= .returned (.bool (l.any (bf lf lt)))/\Onto g w w'/\RowAt w' g (l.map (st1 lf lt)):=by
 obtain ⟨n,hn⟩: ∃n,n=l.length:=⟨_,rfl⟩
 rw [<-hn] at hA hl yu hg ⊢
 replace hn:=Zh hn
 have HR:=Zh hR
 clear hR
 go_enter Tryz.func119,Tryz.ntmps119
 go_wp2_with fail
 go_loopw [5,6,7,10] (fun v5 _ _ v10 wr=> ∃j:Nat,j<=n/\v10=iI j/\v5= .bool ((l.take j).any (bf lf lt))/\Onto g (w.alloc (.cells #[iI lf,iI lt] 257)) wr/\RowAt wr g ((l.take j).map (st1 lf lt)++l.drop j)) (fun _ _ _ v10 _=>n-(intOf v10).toNat)
 case atStart=>exact ⟨0,by omega,rfl,rfl,Onto.refl,by simpa using HR.out.onto_new _⟩
 case round=>
  obtain ⟨j,hj,rfl,rfl,ho,hr⟩:=hrel
  have HO:=Zh ho
  have HW:=Zh hr
  by_cases wY:(j:Int)<n
  ·obtain rfl:=hA Za
   have hgw:=hg Za
   obtain ⟨x,hx⟩: ∃x,l[j]?=some x:=⟨_,zaC (by have:=hn.out;omega)⟩
   have Cs:((l.take j).map (st1 lf lt)++l.drop j)[j]?=some x:=by
    have:=hn.out
    rw [zai Zk,List.getElem?_drop]
    simp
    rw [show j+(j-min j l.length)=j by omega]
    exact hx
   obtain ⟨c0,c1,c2,z⟩:=hr j x Cs
   have k0:wr.cell? (aB w.heap.size 0)=some (iI lf):=(ho.cell Zi Za).trans (by simp [aR])
   have k1:wr.cell? (aB w.heap.size 1)=some (iI lt):=(ho.cell Zi Za).trans (by simp [aR])
   have HX:=Zh hx
   have IZ:=Zh (ye8 l (bf lf lt) j x hx)
   have lw:w.heap.size<wr.heap.size:=bp k0
   have lg:g<wr.heap.size:=bp c0
   clear ho hr hx Cs
   obtain ⟨x0,xf,xt⟩:=x
   simp only at c0 c1 c2
   by_cases h1:xf<lf/\lf<=xt/\xt<lt
   ·have hc:bf lf lt (x0,xf,xt)=true:=by unfold bf;exact zaw h1
    have HS:=Zh (fun p=>((HW.out.step HX.out hc).mo p))
    rw [hc,Bool.or_true] at IZ
    obtain ⟨h1,h2,h3⟩:=h1
    go_upto_region 6 with fail
    refine aD Zb Zb ?_
    repeat (go_big_quiet_step (fail))
    refine zaE ?_
    intro p
    go_wp2_with fail
    go_roundw
    case rel=>exact ⟨j+1,by omega,by go_num,by rw [IZ.out],(HO.out.set _ _).more p,HS.out p⟩
    case measure=>simp [intOf];omega
   ·have hc:bf lf lt (x0,xf,xt)=false:=by unfold bf;exact zax h1
    have h4: ¬xf<lf\/(xf<lf/\ ¬lf<=xt)\/(xf<lf/\lf<=xt/\ ¬xt<lt):=by omega
    clear h1
    rcases h4 with h1|⟨h1,h2⟩|⟨h1,h2,h3⟩
    all_goals
     have HS:=Zh (fun p=>((HW.out.stay HX.out hc).mo p))
     rw [hc,Bool.or_false] at IZ
     go_upto_region 6 with fail
     refine aD Zb Zb ?_
     repeat (go_big_quiet_step (fail))
     refine zaE ?_
     intro p
     go_wp2_with fail
     go_roundw
     case rel=>exact ⟨j+1,by omega,by go_num,by rw [IZ.out],HO.out.more p,HS.out p⟩
     case measure=>simp [intOf];omega
  ·obtain rfl:j=n:=by omega
   go_wp2_with fail
   go_ret
   have e1:l.take j=l:=List.take_of_length_le (by have:=hn.out;omega)
   have e2:l.drop j=[]:=List.drop_of_length_le (by have:=hn.out;omega)
   rw [e1,e2,List.append_nil] at HW
   refine ⟨by rw [e1];rfl,?_,HW.out⟩
   exact Onto.trans (Onto.refl.alloc _) HO.out
abbrev Tri:Type:=Int×Int×Int
def pass(lps:List (Int×Int))(l:List Tri):List Tri:=lps.foldl (fun l x=>l.map (st1 x.1 x.2)) l
def anyM:List (Int×Int)->List Tri->Bool
 |[],_=>false
 |x::r,l=>l.any (bf x.1 x.2)||anyM r (l.map (st1 x.1 x.2))
inductive Stops (lps:List (Int×Int)):List Tri->List Tri->Prop
 |stop {l:List Tri} (h:anyM lps l=false):Stops lps l l
 |go {l r:List Tri} (h:anyM lps l=true) (k:Stops lps (pass lps l) r):Stops lps l r
theorem Stops.unique{lps:List (Int×Int)}{l r:List Tri}(h:Stops lps l r): ∀{r':List Tri},Stops lps l r'->r=r':=by
 induction h with
 |stop h=>
  intro r' h'
  cases h' with
  |stop _=>rfl
  |go h2 _=>rw [h] at h2;cases h2
 |go h _ ih=>
  intro r' h'
  cases h' with
  |stop h2=>rw [h] at h2;cases h2
  |go _ k=>exact ih k
theorem wK{lf lt:Int}{l:List Tri}(h:l.any (bf lf lt)=false):l.map (st1 lf lt)=l:=by
 induction l with
 |nil=>rfl
 |cons x r ih=>
  rw [List.any_cons,Bool.or_eq_false_iff] at h
  rw [List.map_cons,ih h.2]
  congr 1
  unfold st1
  rw [if_neg (by rw [h.1];decide)]
theorem gq: ∀{lps:List (Int×Int)} {l:List Tri},anyM lps l=false->pass lps l=l
 |[],_,_=>rfl
 |x::r,l,h=>by
  unfold anyM at h
  rw [Bool.or_eq_false_iff] at h
  have e:=wK h.1
  rw [e] at h
  show pass r (l.map (st1 x.1 x.2))=l
  rw [e]
  exact gq h.2
theorem tX(lps:List (Int×Int))(l:List Tri)(j:Nat)(x:Int×Int)(h:lps[j]?=some x):pass (lps.take (j+1)) l=(pass (lps.take j) l).map (st1 x.1 x.2):=by
 unfold pass
 rw [zaz,h,zaD]
 rfl
theorem nY: ∀(a b:List (Int×Int)) (l:List Tri),anyM (a++b) l=(anyM a l||anyM b (pass a l))
 |[],b,l=>by simp [anyM,pass]
 |x::r,b,l=>by
  show (l.any _||anyM (r++b) _)=_
  rw [nY r b]
  show _=((l.any _||anyM r _)||anyM b (pass r (l.map (st1 x.1 x.2))))
  rw [Bool.or_assoc]
theorem yfa(lps:List (Int×Int))(l:List Tri)(j:Nat)(x:Int×Int)(h:lps[j]?=some x):anyM (lps.take (j+1)) l=(anyM (lps.take j) l||(pass (lps.take j) l).any (bf x.1 x.2)):=by
 rw [zaz,h]
 simp only [Option.toList]
 rw [nY]
 simp [anyM]
theorem kz(lps:List (Int×Int))(l:List Tri):(pass lps l).length=l.length:=by
 unfold pass
 induction lps generalizing l with
 |nil=>rfl
 |cons x r ih=>rw [List.foldl_cons,ih];simp
def pot(l:List Tri):Nat:=(l.map fun x=>(1000-x.2.2).toNat).sum
theorem qS(lf lt:Int)(ht:lt<=1000)(l:List Tri):pot (l.map (st1 lf lt))<=pot l/\(l.any (bf lf lt)=true->pot (l.map (st1 lf lt))<pot l):=by
 induction l with
 |nil=>exact ⟨zaq _,fun h=>by simp at h⟩
 |cons x r ih=>
  obtain ⟨h1,h2⟩:=ih
  unfold pot at*
  simp only [List.map_cons,List.sum_cons,List.any_cons]
  cases hc:bf lf lt x with
  |true=>
   have h3:x.2.1<lf/\lf<=x.2.2/\x.2.2<lt:=by
    unfold bf at hc
    exact of_decide_eq_true hc
   have e:st1 lf lt x=(x.1,x.2.1,lt):=by unfold st1;rw [if_pos hc]
   rw [e]
   simp only
   refine ⟨by omega,fun _=>by omega⟩
  |false=>
   have e:st1 lf lt x=x:=by unfold st1;rw [if_neg (by rw [hc];decide)]
   rw [e]
   refine ⟨by omega,fun h=>?_⟩
   have:=h2 (by simpa using h)
   omega
theorem ky: ∀(lps:List (Int×Int)) (l:List Tri),(∀x∈lps,x.2<=1000)->pot (pass lps l)<=pot l/\(anyM lps l=true->pot (pass lps l)<pot l)
 |[],l,_=>⟨zaq _,fun h=>by cases h⟩
 |x::r,l,h=>by
  have h1:=qS x.1 x.2 (h x Zi) l
  have h2:=ky r (l.map (st1 x.1 x.2)) (fun y hy=>h y (by simp [hy]))
  show pot (pass r (l.map (st1 x.1 x.2)))<=_/\((l.any _||anyM r _)=true->pot (pass r (l.map (st1 x.1 x.2)))<_)
  refine ⟨zal h2.1 h1.1,fun hm=>?_⟩
  rw [zak] at hm
  rcases hm with hm|hm
  ·exact Nat.lt_of_le_of_lt h2.1 (h1.2 hm)
  ·exact zar (h2.2 hm) h1.1
theorem lH(ops:Nat->LOp): ∀k,∀x∈lpN ops k,x.2<=(k:Int)
 |0,x,hx=>by cases hx
 |k+1,x,hx=>by
  rw [lG] at hx
  rcases List.mem_append.1 hx with hx|hx
  ·have:=lH ops k x hx
   omega
  ·split at hx
   ·split at hx
    ·simp at hx
     subst hx
     simp only
     omega
    ·cases hx
   ·cases hx
end Go.Proofs.YtcekjfmfcefjpaaGreatDoor
