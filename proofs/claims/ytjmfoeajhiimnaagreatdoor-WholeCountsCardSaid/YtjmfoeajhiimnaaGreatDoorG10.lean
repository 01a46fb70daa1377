/- Walks. No condition. -/
import Derived.Deep.RegionWith
import Derived.Maps.OwnSet
import Derived.Test.YtjmfoeajhiimnaaGreatDoorG09
set_option maxRecDepth 100000
set_option maxHeartbeats 0
set_option linter.all false
namespace Go.Proofs.YtjmfoeajhiimnaaGreatDoor
section
open Go.RowKit Go.Sort Go.Lib
def wfI(x:Int):Prop:=(Lit.int .i64 x).wf=true
def LOp.ok(o:LOp):Prop:=wfI o.a/\wfI o.b/\wfI o.c/\wfI o.d/\wfI o.d2/\wfI o.tgt
theorem ji{x y z:Int}(hx:wfI x)(hy:wfI y)(hz:wfI z)(k:Nat):wfI (bS x y z k):=by
 unfold bS
 split
 ·exact hx
 ·split
  ·exact hy
  ·exact hz
theorem l7{L:Nat->Int}(h: ∀k,wfI (L k))(n:Nat): ∀x∈kept L n,wfI x:=fun x hx=>by
 unfold kept at hx
 obtain ⟨j,_,rfl⟩:=List.mem_map.1 (List.mem_filter.1 hx).1
 exact h j
theorem sU{o:LOp}(h:o.ok): ∀x∈regsL o,wfI x:=fun x hx=>by
 obtain ⟨h1,h2,h3,h4,h5,_⟩:=h
 rcases List.mem_append.1 hx with hx|hx
 ·exact l7 (fun k=>ji h1 h2 h3 k) _ x hx
 ·exact l7 (fun k=>ji h4 h5 (by unfold wfI;decide) k) _ x hx
end
section
open Go.RowKit Go.Sort Go.Maps
def IMap(w:qW)(B n:Nat)(am:Int->Option Int):Prop:=
 ∃D:DataW Unit,w.ownsMap Tryz.prog 3 (plainElem Tryz.prog 3) B n D/\(∀r,Maps.has D (.int .i64 r)=(am r).isSome)/\ ∀r v,am r=some v->D.atKey (.int .i64 r) (.lit (.int .i64 0))= .lit (.int .i64 v)
theorem mj(w:qW):IMap (w.alloc (.map #[] 0)) w.heap.size 0 (fun _=>none):=⟨_,World.ownsMap_made _ _ _ _,fun _=>rfl,fun _ _ h=>by cases h⟩
theorem IMap.lt{w:qW}{B n:Nat}{am:Int->Option Int}(h:IMap w B n am):B<w.heap.size:=by
 obtain ⟨D,h,_⟩:=h
 exact h.lt
theorem IMap.keep{w w':qW}{B n:Nat}{am:Int->Option Int}(h:IMap w B n am)(hk:w'.heap[B]?=w.heap[B]?):IMap w' B n am:=by
 obtain ⟨D,⟨es,clock,hb,r⟩,hD⟩:=h
 exact ⟨D,⟨es,clock,hk.trans hb,r⟩,hD⟩
theorem IMap.below{w w':qW}{B n:Nat}{am:Int->Option Int}(h:IMap w B n am)(hb:Below w.heap.size w w'):IMap w' B n am:=h.keep (hb.block B h.lt)
theorem IMap.mono{w:qW}{B n m:Nat}{am:Int->Option Int}(h:IMap w B n am)(hm:n<=m):IMap w B m am:=by
 obtain ⟨D,h,hD⟩:=h
 exact ⟨D,h.mono hm,hD⟩
theorem IMap.look{w:qW}{B n:Nat}{am:Int->Option Int}(h:IMap w B n am)(r:Int)(hr:(Lit.int .i64 r).wf=true):
  ∃c:Int,(Instr.lookup 235 (.map (some B)) (.int .i64 r) true).run Tryz.prog w= .ok (.tuple #[.int .i64 c,.bool (am r).isSome]) w/\ ∀v,am r=some v->c=v:=by
 obtain ⟨D,h,hh,hD⟩:=h
 obtain ⟨v,ps,wY,hv⟩:=h.look_ok (int_keyed Tryz.underlying3) Tryz.underlying235 (z:= .int .i64 0) Zb (zd:= .lit (.int .i64 0)) (zp:=[]) (plainElem_int Tryz.underlying3 Zd) (keyOf_int_mk Tryz.underlying3 hr)
 obtain ⟨c,rfl,hc,_⟩:=plainElem_int_inv Tryz.underlying3 hv
 rw [hh r] at wY
 refine ⟨c,wY,fun v hv=>?_⟩
 have:=congrArg Prod.fst hc
 rw [show (D.atKey (.int .i64 r) (.lit (.int .i64 0)),ps).1=D.atKey (.int .i64 r) (.lit (.int .i64 0)) from rfl,hD r v hv] at this
 simp at this
 exact this.symm
theorem IMap.store{w:qW}{B n:Nat}{am:Int->Option Int}(h:IMap w B n am)(hn:n<maxLen)(r:Int)(hr:(Lit.int .i64 r).wf=true)(v:Int)(hv:(Lit.int .i64 v).wf=true):
  ∃w',(Instr.mapUpdate 235 (.map (some B)) (.int .i64 r) (.int .i64 v)).run Tryz.prog w= .ok () w'/\IMap w' B (n+1) (fun q=>if q=r then some v else am q)/\w.grownBy w' (some B):=by
 obtain ⟨D,h,hh,hD⟩:=h
 obtain ⟨w',wY,ho,hg⟩:=h.update (int_keyed Tryz.underlying3) Tryz.underlying235 hn (keyOf_int_mk Tryz.underlying3 hr) (plainElem_int Tryz.underlying3 hv)
 refine ⟨w',wY,⟨_,ho,fun q=>?_,fun q u hq=>?_⟩,hg⟩
 ·by_cases Ad:q=r
  ·subst Ad
   simp only [if_true,Option.isSome_some]
   exact Maps.has_put_same h.isMap (by trivial) _
  ·simp only [if_neg Ad]
   rw [Maps.has_put_other (fun e=>Ad (by simpa using e))]
   exact hh q
 ·by_cases Ad:q=r
  ·subst Ad
   simp only [if_true] at hq
   obtain rfl:=zae hq
   exact Maps.atKey_put_same h.isMap (by trivial) _ _
  ·simp only [if_neg Ad] at hq
   rw [Maps.atKey_put_other (fun e=>Ad (by simpa using e))]
   exact hD q u hq
theorem oS{w:qW}{ops:Array Oper}{rest:List Oper}{o:Oper}{a:Act}{Q:Exit->Act->qW->Prop}
  (hg:o.guard=none) (m x v:Operand) (yi:o.op=Op.mapUpdate 235 m x v) (B n:Nat) (am:Int->Option Int) (hm:a.eval m= .map (some B)) (hp:IMap w B n am) (hn:n<maxLen) (r:Int) (hx:a.eval x= .int .i64 r) (hr:(Lit.int .i64 r).wf=true) (u:Int) (hv:a.eval v= .int .i64 u) (hu:(Lit.int .i64 u).wf=true)
  (hK: ∀w',IMap w' B (n+1) (fun q=>if q=r then some u else am q)->w.grownBy w' (some B)->wpList Tryz.prog ops Q rest (a.put o.dst undef) w'):
  wpList Tryz.prog ops Q (o::rest) a w:=by
 refine wpList_plain hg fun K' Kw=>?_
 obtain ⟨w',wY,r1,r2⟩:=hp.store hn r hr u hu
 unfold Oper.wp
 simp [execOp,yi,hm,hx,hv]
 rw [wY]
 simp [Result.andThen]
 exact Kw _ _ (hK w' r1 r2)
end
section
open Go.RowKit Go.Sort Go.Lib
def cE(ops:Nat->LOp):Nat->Int->Option Int
 |0=>fun _=>none
 |k+1=>if (ops k).k=14 then fun q=>if q=(ops k).tgt then some (k:Int) else cE ops k q else cE ops k
def lpN(ops:Nat->LOp):Nat->List (Int×Int)
 |0=>[]
 |k+1=>lpN ops k++(if (ops k).k=15\/(ops k).k=16 then (match cE ops k (ops k).tgt with|some q=>[(q,(k:Int))]|none=>[]) else [])
theorem yfk(ops:Nat->LOp)(k:Nat):cE ops (k+1)=if (ops k).k=14 then fun q=>if q=(ops k).tgt then some (k:Int) else cE ops k q else cE ops k:=rfl
theorem lM(ops:Nat->LOp)(k:Nat):lpN ops (k+1)=lpN ops k++(if (ops k).k=15\/(ops k).k=16 then (match cE ops k (ops k).tgt with|some q=>[(q,(k:Int))]|none=>[]) else []):=rfl
def lpC(x:Int×Int):List qV:=[iI x.1,iI x.2]
theorem ib(ops:Nat->LOp): ∀k,(lpN ops k).length<=k
 |0=>zaq _
 |k+1=>by
  have h:=ib ops k
  show (lpN ops k++_).length<=_
  rw [zaO]
  split
  ·split<;>simp<;>omega
  ·simp;omega
theorem ybZ:(Tryz.prog.info? 232).map (fun i=>(i.zero,i.size,i.bytes))=some (some (.agg #[iI 0,iI 0]),2,16):=by kernel_rfl
theorem mi{w w':qW}{B m base size n:Nat}{e:TypeId}{am:Int->Option Int}{v:qV}{xs:List qV}(h:IMap w B m am)(hown:w.ownsRow base e size v n xs)(hg:w.grownBy w' v.ownBlock)(hB:B<base):IMap w' B m am:=
 h.keep (hg.block B h.lt (fun e=>by have:=hown.lt B e.symm;omega))
theorem uS{w w':qW}{base e size n g:Nat}{v:qV}{xs:List qV}(h:w.ownsRow base e size v n xs)(hg:w.grownBy w' (some g))(hb:g<base):w'.ownsRow base e size v n xs:=by
 obtain ⟨h1,h2⟩:=h
 refine ⟨h1,?_⟩
 rcases h2 with h2|⟨b,cap,cur,e1,e2,e3,e4,e5,e6,e7⟩
 ·exact .inl h2
 ·refine .inr ⟨b,cap,cur,e1,e2,?_,e4,e5,e6,e7⟩
  rw [<-e3]
  exact hg.block b (Array.getElem?_eq_some_iff.1 e3).1 (fun e=>by have:=zae e;omega)
structure LpW(w wr:qW)(X off N:Nat)(ops:Nat->LOp)(k:Nat)(v:qV):Prop where
 below:Below w.heap.size w wr
 map:IMap wr w.heap.size k (cE ops k)
 own:wr.ownsRow (w.heap.size+1) 232 2 v (lpN ops k).length ((lpN ops k).flatMap lpC)
 ops_: ∀q,q<N->OAt wr X (off+q*13) (ops q)
theorem yaD(A:Option Addr)(X off N cap:Nat)(ops:Nat->LOp)(hA:0<N->A=some ⟨X,off,none⟩)(hN:N<=61)(yA:N<=cap)(Dn:cap<=9223372036854775807)(BV: ∀k,k<N->wfI (ops k).tgt)(w:qW)(hO: ∀k,k<N->OAt w X (off+k*13) (ops k)):
  qC 90 #[.slice A N cap] w fun e w'=> ∃v,e= .returned v/\(∃p:Regrown,w'=more w p)/\w'.ownsRow (w.heap.size+1) 232 2 v (lpN ops N).length ((lpN ops N).flatMap lpC):=by
 have LN:=@run_makeMap Tryz.prog
 have zN:=Zh BV
 have HO:=Zh hO
 obtain ⟨i0,hi,xx,xu,xq⟩:=zan ybZ
 have H0:Hid (LpW w (w.alloc (.map #[] 0)) X off N ops 0 (.slice none 0 0)):=Zh
  ⟨ab (zaa _ _) _,mj w,⟨rfl,.inl ⟨rfl,rfl⟩⟩,fun q hq=>(hO q hq).below (ab (zaa _ _) _)⟩
 clear hO BV
 go_enter Tryz.func90,Tryz.ntmps90
 go_wp2_with fail
 go_loopw [4,12] (fun v4 v12 wr=> ∃k:Nat,k<=N/\v12=iI k/\LpW w wr X off N ops k v4) (fun _ v12 _=>N-(intOf v12).toNat)
 case atStart=>exact ⟨0,by omega,rfl,H0.out⟩
 case round=>
  obtain ⟨k,hk,rfl,hW⟩:=hrel
  have HW:=Zh hW
  clear hW H0
  by_cases xe:(k:Int)<N
  ·obtain rfl:=hA Za
   have Pa:X<w.heap.size:=bu (HO.out k Za).1
   have Hi:=HW.out.map.lt
   have hO:=HW.out.ops_ k Za
   unfold OAt at hO
   obtain ⟨c0,c1,c2,c3,c4,c5,c6,c7,c8,c9,c10,c11,c12⟩:=hO
   have Iu:=zN.out k Za
   have ze:wfI (k:Int):=WalkArith.wf_i64 Za
   have E1:=Zh (lM ops k)
   have E2:=Zh (yfk ops k)
   have xd:=ib ops k
   obtain ⟨o,ho⟩: ∃o,o=ops k:=⟨_,rfl⟩
   rw [<-ho] at c0 c1 c2 c3 c4 c5 c6 c7 c8 c9 c10 c11 c12 Iu E1 E2
   clear ho
   obtain ⟨kd,d,d2,a,b,c,nn,op,sz,od,tgt,st,ln⟩:=o
   simp only at c0 c1 c2 c3 c4 c5 c6 c7 c8 c9 c10 c11 c12 Iu E1 E2
   by_cases BD:kd=14
   ·subst BD
    have e1:lpN ops (k+1)=lpN ops k:=by rw [E1.out];simp
    have e2:=E2.out
    rw [if_pos rfl] at e2
    replace E1:=Zh e1
    replace E2:=Zh e2
    clear e1 e2
    go_wp2_with (at_mapUpdate;refine oS rfl _ _ _ rfl w.heap.size k (cE ops k) rfl (HW.out.map.below (ab (zaa _ _) _)) (by unfold maxLen;omega) tgt rfl Iu (k:Int) rfl ze ?_;intro w2 im2 grow2;go_frame)
    have xV:=Zh (fH (ab HW.out.below _) grow2 (zaq _))
    have xB:=Zh (fun q hq=>((HW.out.ops_ q hq).below (ab (zaa _ _) (.cells #[iI 14,iI d,iI d2,iI a,iI b,iI c,.int .u64 nn,iI op,iI sz,iI od,iI tgt,iI st,iI ln] 225))).grown grow2 Za)
    have yg:Hid (w2.ownsRow (w.heap.size+1) 232 2 u4 (lpN ops k).length ((lpN ops k).flatMap lpC)):=Zh (by
     refine uS (HW.out.own.alloc _) grow2 ?_
     omega)
    have Ii:=Zh im2
    clear im2 grow2
    go_wp2_with fail
    go_roundw
    case rel=>exact ⟨k+1,by omega,by go_num,xV.out,by rw [E2.out];exact Ii.out,by rw [E1.out];exact yg.out,xB.out⟩
    case measure=>simp [intOf];omega
   ·rw [if_neg BD] at E2
    have b14:(kd==14)=false:=by simpa using BD
    by_cases Hk:kd=15\/kd=16
    ·rw [if_pos Hk] at E1
     obtain ⟨cv,Bu,Fv⟩:=(HW.out.map.below (ab (zaa _ _) (.cells #[iI kd,iI d,iI d2,iI a,iI b,iI c,.int .u64 nn,iI op,iI sz,iI od,iI tgt,iI st,iI ln] 225))).look tgt Iu
     generalize cE ops k tgt=am at E1 Bu Fv
     cases am with
     |none=>
      simp only [Option.isSome_none] at Bu
      simp only [List.append_nil] at E1
      clear Fv
      rcases Hk with rfl|rfl
      all_goals
       go_wp2_with fail
       go_roundw
       case rel=>exact ⟨k+1,by omega,by go_num,ab HW.out.below _,by rw [E2.out];exact (HW.out.map.below (ab (zaa _ _) _)).mono Za,by rw [E1.out];exact HW.out.own.alloc _,fun q hq=>(HW.out.ops_ q hq).below (ab (zaa _ _) _)⟩
       case measure=>simp [intOf];omega
     |some qv=>
      simp only [Option.isSome_some] at Bu
      obtain rfl:=Fv qv rfl
      clear Fv
      have HE:Hid ((lpN ops (k+1)).length=(lpN ops k).length+1/\(lpN ops (k+1)).flatMap lpC=(lpN ops k).flatMap lpC++[iI cv,iI k]):=Zh (by
       rw [E1.out,List.flatMap_append]
       exact ⟨by simp,rfl⟩)
      have yg:=Zh HW.out.own
      generalize (lpN ops k).length=nq at*
      generalize (lpN ops k).flatMap lpC=cs at*
      have QK:=HW.out.below.size
      rcases Hk with rfl|rfl
      ·go_wp2_with (at_builtin;refine wpList_append_own _ rfl _ _ 229 rfl (w.heap.size+1) 232 i0 (.agg #[iI 0,iI 0]) 2 16 Tryz.underlying229 hi xx xu xq rfl Zd _ _ _ rfl ((yg.out.alloc _).alloc _) ⟨wr.heap.size+1,0,none⟩ 1 1 [iI cv,iI k] rfl rfl ?a1x ?a2x ?a3x ?a4x ?a5x ?_)
       case a2x=>exact ⟨rfl,rfl⟩
       case a3x=>unfold maxLen;omega
       case a4x=>omega
       case a5x=>omega
       intro v' w' own grow BW
       have xV:=Zh (bX (ab (ab HW.out.below _) _) ((yg.out.alloc _).alloc _) grow Za)
       have Ii:=Zh (mi ((HW.out.map.below (ab (ab (zaa _ _) _) _)).mono (show k<=k+1 by omega)) ((yg.out.alloc _).alloc _) grow Za)
       clear grow BW
       go_wp2_with fail
       go_roundw
       case rel=>exact ⟨k+1,by omega,by go_num,xV.out,by rw [E2.out];exact Ii.out,by rw [HE.out.1,HE.out.2];exact own,fun q hq=>(HO.out q hq).below xV.out⟩
       case measure=>simp [intOf];omega
      ·go_wp2_with (at_builtin;refine wpList_append_own _ rfl _ _ 229 rfl (w.heap.size+1) 232 i0 (.agg #[iI 0,iI 0]) 2 16 Tryz.underlying229 hi xx xu xq rfl Zd _ _ _ rfl ((yg.out.alloc _).alloc _) ⟨wr.heap.size+1,0,none⟩ 1 1 [iI cv,iI k] rfl rfl ?a1y ?a2y ?a3y ?a4y ?a5y ?_)
       case a2y=>exact ⟨rfl,rfl⟩
       case a3y=>unfold maxLen;omega
       case a4y=>omega
       case a5y=>omega
       intro v' w' own grow BW
       have xV:=Zh (bX (ab (ab HW.out.below _) _) ((yg.out.alloc _).alloc _) grow Za)
       have Ii:=Zh (mi ((HW.out.map.below (ab (ab (zaa _ _) _) _)).mono (show k<=k+1 by omega)) ((yg.out.alloc _).alloc _) grow Za)
       clear grow BW
       go_wp2_with fail
       go_roundw
       case rel=>exact ⟨k+1,by omega,by go_num,xV.out,by rw [E2.out];exact Ii.out,by rw [HE.out.1,HE.out.2];exact own,fun q hq=>(HO.out q hq).below xV.out⟩
       case measure=>simp [intOf];omega
    ·rw [if_neg Hk,List.append_nil] at E1
     have b15:(kd==15)=false:=by simp;omega
     have b16:(kd==16)=false:=by simp;omega
     go_wp2_with fail
     go_roundw
     case rel=>exact ⟨k+1,by omega,by go_num,ab HW.out.below _,by rw [E2.out];exact (HW.out.map.below (ab (zaa _ _) _)).mono Za,by rw [E1.out];exact HW.out.own.alloc _,fun q hq=>(HW.out.ops_ q hq).below (ab (zaa _ _) _)⟩
     case measure=>simp [intOf];omega
  ·obtain rfl:k=N:=by omega
   go_wp2_with fail
   go_ret
   exact ⟨_,rfl,bC HW.out.below,HW.out.own⟩
def bp(lf lt:Int)(x:Int×Int×Int):Bool:=decide (x.2.1<lf/\lf<=x.2.2/\x.2.2<lt)
def st1(lf lt:Int)(x:Int×Int×Int):Int×Int×Int:=if bp lf lt x then (x.1,x.2.1,lt) else x
def RowAt(w:qW)(g:Nat)(l:List (Int×Int×Int)):Prop:= ∀j x,l[j]?=some x->w.cell? ⟨g,j*3,none⟩=some (iI x.1)/\w.cell? ⟨g,j*3+1,none⟩=some (iI x.2.1)/\w.cell? ⟨g,j*3+2,none⟩=some (iI x.2.2)/\w.frozen? ⟨g,j*3+2,none⟩=false
theorem RowAt.below{w w':qW}{g:Nat}{l:List (Int×Int×Int)}(h:RowAt w g l)(hb:Below w.heap.size w w'):RowAt w' g l:=fun j x hj=>by
 obtain ⟨c0,c1,c2,z⟩:=h j x hj
 exact ⟨aQ c0 hb,aQ c1 hb,aQ c2 hb,by rw [hb.frozen (bu c2)];exact z⟩
theorem take_set{l:List (Int×Int×Int)}{j:Nat}{x:Int×Int×Int}(h:l[j]?=some x)(f:Int×Int×Int->Int×Int×Int)(i:Nat):
  ((l.take (j+1)).map f++l.drop (j+1))[i]?=if i=j then some (f x) else ((l.take j).map f++l.drop j)[i]?:=by
 have hj:=(List.getElem?_eq_some_iff.1 h).1
 by_cases Ao:i=j
 ·subst Ao
  rw [if_pos rfl,zah Zk,zaj,List.getElem?_take_of_lt Za,h]
  rfl
 ·rw [if_neg Ao]
  rcases zaJ i j with xe|OC
  ·rw [zah Zk,zah Zk,zaj,zaj,List.getElem?_take_of_lt Za,List.getElem?_take_of_lt Za]
  ·rw [zai Zk,zai Zk,List.getElem?_drop,List.getElem?_drop]
   congr 1
   simp
   omega
theorem RowAt.step{w:qW}{g:Nat}{l:List (Int×Int×Int)}{j:Nat}{x:Int×Int×Int}{lf lt:Int}(hj:l[j]?=some x)(h:RowAt w g ((l.take j).map (st1 lf lt)++l.drop j))(hc:bp lf lt x=true):
  RowAt (w.setCell ⟨g,j*3+2,none⟩ (iI lt)) g ((l.take (j+1)).map (st1 lf lt)++l.drop (j+1)):=fun i y hi=>by
 have zh:=(List.getElem?_eq_some_iff.1 hj).1
 have Cx:((l.take j).map (st1 lf lt)++l.drop j)[j]?=some x:=by
  rw [zai Zk,List.getElem?_drop]
  simp
  rw [show j+(j-min j l.length)=j by omega]
  exact hj
 rw [take_set hj] at hi
 have BU: ∀k,k≠j*3+2->(w.setCell ⟨g,j*3+2,none⟩ (iI lt)).cell? (aB g k)=w.cell? (aB g k):=fun k hk=>
  zaH _ _ _ _ (fun e=>hk (congrArg Addr.off e).symm)
 by_cases Ao:i=j
 ·subst Ao
  rw [if_pos rfl] at hi
  obtain ⟨c0,c1,c2,z⟩:=h i x Cx
  have hy:y=(x.1,x.2.1,lt):=by
   have:=zae hi
   rw [<-this]
   unfold st1
   rw [if_pos hc]
  subst hy
  exact ⟨by rw [BU _ Za];exact c0,by rw [BU _ Za];exact c1,zaF _ _ _ c2,by rw [zaG];exact z⟩
 ·rw [if_neg Ao] at hi
  obtain ⟨c0,c1,c2,z⟩:=h i y hi
  exact ⟨by rw [BU _ Za];exact c0,by rw [BU _ Za];exact c1,by rw [BU _ Za];exact c2,by rw [zaG];exact z⟩
theorem RowAt.stay{w:qW}{g:Nat}{l:List (Int×Int×Int)}{j:Nat}{x:Int×Int×Int}{lf lt:Int}(hj:l[j]?=some x)(h:RowAt w g ((l.take j).map (st1 lf lt)++l.drop j))(hc:bp lf lt x=false):
  RowAt w g ((l.take (j+1)).map (st1 lf lt)++l.drop (j+1)):=fun i y hi=>by
 have zh:=(List.getElem?_eq_some_iff.1 hj).1
 rw [take_set hj] at hi
 by_cases Ao:i=j
 ·subst Ao
  rw [if_pos rfl] at hi
  have hy:y=x:=by
   have:=zae hi
   rw [<-this]
   unfold st1
   rw [if_neg (by rw [hc];decide)]
  subst hy
  refine h i y ?_
  rw [zai Zk,List.getElem?_drop]
  simp
  rw [show i+(i-min i l.length)=i by omega]
  exact hj
 ·rw [if_neg Ao] at hi
  exact h i y hi
theorem yfr(l:List (Int×Int×Int))(p:Int×Int×Int->Bool)(j:Nat)(x:Int×Int×Int)(h:l[j]?=some x):(l.take (j+1)).any p=((l.take j).any p||p x):=by
 rw [zaz,h,List.any_append]
 simp
theorem RowAt.onto_new{w:qW}{g:Nat}{l:List (Int×Int×Int)}(h:RowAt w g l)(o:Obj):RowAt (w.alloc o) g l:=h.below (ab (zaa _ _) o)
theorem RowAt.mo{w:qW}{g:Nat}{l:List (Int×Int×Int)}(h:RowAt w g l)(p:Regrown):RowAt (more w p) g l:=h.below (au w p)
theorem pV(A:Option Addr)(g cap:Nat)(l:List (Int×Int×Int))(lf lt:Int)(hA:0<l.length->A=aA g)(hl:l.length<=300)(yA:l.length<=cap)(Dn:cap<=9223372036854775807)(w:qW)(hg:0<l.length->g<w.heap.size)(hR:RowAt w g l):
  qC 91 #[.slice A l.length cap,.agg #[iI lf,iI lt]] w fun e w'=>e= .returned (.bool (l.any (bp lf lt)))/\Onto g w w'/\RowAt w' g (l.map (st1 lf lt)):=by
 obtain ⟨n,hn⟩: ∃n,n=l.length:=⟨_,rfl⟩
 rw [<-hn] at hA hl yA hg ⊢
 replace hn:=Zh hn
 have HR:=Zh hR
 clear hR
 go_enter Tryz.func91,Tryz.ntmps91
 go_wp2_with fail
 go_loopw [5,6,7,10] (fun v5 _ _ v10 wr=> ∃j:Nat,j<=n/\v10=iI j/\v5= .bool ((l.take j).any (bp lf lt))/\Onto g (w.alloc (.cells #[iI lf,iI lt] 232)) wr/\RowAt wr g ((l.take j).map (st1 lf lt)++l.drop j)) (fun _ _ _ v10 _=>n-(intOf v10).toNat)
 case atStart=>exact ⟨0,by omega,rfl,rfl,Onto.refl,by simpa using HR.out.onto_new _⟩
 case round=>
  obtain ⟨j,hj,rfl,rfl,ho,hr⟩:=hrel
  have HO:=Zh ho
  have HW:=Zh hr
  by_cases xe:(j:Int)<n
  ·obtain rfl:=hA Za
   have Ra:=hg Za
   obtain ⟨x,hx⟩: ∃x,l[j]?=some x:=⟨_,zaC (by have:=hn.out;omega)⟩
   have Cx:((l.take j).map (st1 lf lt)++l.drop j)[j]?=some x:=by
    have:=hn.out
    rw [zai Zk,List.getElem?_drop]
    simp
    rw [show j+(j-min j l.length)=j by omega]
    exact hx
   obtain ⟨c0,c1,c2,z⟩:=hr j x Cx
   have k0:wr.cell? (aB w.heap.size 0)=some (iI lf):=(ho.cell Zg Za).trans (by simp [aV])
   have k1:wr.cell? (aB w.heap.size 1)=some (iI lt):=(ho.cell Zg Za).trans (by simp [aV])
   have HX:=Zh hx
   have Jl:=Zh (yfr l (bp lf lt) j x hx)
   have lw:w.heap.size<wr.heap.size:=bu k0
   have lg:g<wr.heap.size:=bu c0
   clear ho hr hx Cx
   obtain ⟨x0,xf,xt⟩:=x
   simp only at c0 c1 c2
   by_cases h1:xf<lf/\lf<=xt/\xt<lt
   ·have hc:bp lf lt (x0,xf,xt)=true:=by unfold bp;exact zaw h1
    have HS:=Zh (fun p=>((HW.out.step HX.out hc).mo p))
    rw [hc,Bool.or_true] at Jl
    obtain ⟨h1,h2,h3⟩:=h1
    go_upto_region 6 with fail
    refine aE Zb Zb ?_
    repeat (go_big_quiet_step (fail))
    refine zaE ?_
    intro p
    go_wp2_with fail
    go_roundw
    case rel=>exact ⟨j+1,by omega,by go_num,by rw [Jl.out],(HO.out.set _ _).more p,HS.out p⟩
    case measure=>simp [intOf];omega
   ·have hc:bp lf lt (x0,xf,xt)=false:=by unfold bp;exact zax h1
    have h4: ¬xf<lf\/(xf<lf/\ ¬lf<=xt)\/(xf<lf/\lf<=xt/\ ¬xt<lt):=by omega
    clear h1
    rcases h4 with h1|⟨h1,h2⟩|⟨h1,h2,h3⟩
    all_goals
     have HS:=Zh (fun p=>((HW.out.stay HX.out hc).mo p))
     rw [hc,Bool.or_false] at Jl
     go_upto_region 6 with fail
     refine aE Zb Zb ?_
     repeat (go_big_quiet_step (fail))
     refine zaE ?_
     intro p
     go_wp2_with fail
     go_roundw
     case rel=>exact ⟨j+1,by omega,by go_num,by rw [Jl.out],HO.out.more p,HS.out p⟩
     case measure=>simp [intOf];omega
  ·obtain rfl:j=n:=by omega
   go_wp2_with fail
   go_ret
   have e1:l.take j=l:=List.take_of_length_le (by have:=hn.out;omega)
   have e2:l.drop j=[]:=List.drop_of_length_le (by have:=hn.out;omega)
   rw [e1,e2,List.append_nil] at HW
   refine ⟨by rw [e1];rfl,?_,HW.out⟩
   exact Onto.trans (Onto.refl.alloc _) HO.out
abbrev Tri:Type:=Int×Int×Int
def pass(lps:List (Int×Int))(l:List Tri):List Tri:=lps.foldl (fun l x=>l.map (st1 x.1 x.2)) l
def anyM:List (Int×Int)->List Tri->Bool
 |[],_=>false
 |x::r,l=>l.any (bp x.1 x.2)||anyM r (l.map (st1 x.1 x.2))
inductive Stops (lps:List (Int×Int)):List Tri->List Tri->Prop
 |stop {l:List Tri} (h:anyM lps l=false):Stops lps l l
 |go {l r:List Tri} (h:anyM lps l=true) (k:Stops lps (pass lps l) r):Stops lps l r
theorem Stops.unique{lps:List (Int×Int)}{l r:List Tri}(h:Stops lps l r): ∀{r':List Tri},Stops lps l r'->r=r':=by
 induction h with
 |stop h=>
  intro r' h'
  cases h' with
  |stop _=>rfl
  |go h2 _=>rw [h] at h2;cases h2
 |go h _ ih=>
  intro r' h'
  cases h' with
  |stop h2=>rw [h] at h2;cases h2
  |go _ k=>exact ih k
theorem yax{lf lt:Int}{l:List Tri}(h:l.any (bp lf lt)=false):l.map (st1 lf lt)=l:=by
 induction l with
 |nil=>rfl
 |cons x r ih=>
  rw [List.any_cons,Bool.or_eq_false_iff] at h
  rw [List.map_cons,ih h.2]
  congr 1
  unfold st1
  rw [if_neg (by rw [h.1];decide)]
theorem gz: ∀{lps:List (Int×Int)} {l:List Tri},anyM lps l=false->pass lps l=l
 |[],_,_=>rfl
 |x::r,l,h=>by
  unfold anyM at h
  rw [Bool.or_eq_false_iff] at h
  have e:=yax h.1
  rw [e] at h
  show pass r (l.map (st1 x.1 x.2))=l
  rw [e]
  exact gz h.2
theorem uF(lps:List (Int×Int))(l:List Tri)(j:Nat)(x:Int×Int)(h:lps[j]?=some x):pass (lps.take (j+1)) l=(pass (lps.take j) l).map (st1 x.1 x.2):=by
 unfold pass
 rw [zaz,h,zaD]
 rfl
theorem ow: ∀(a b:List (Int×Int)) (l:List Tri),anyM (a++b) l=(anyM a l||anyM b (pass a l))
 |[],b,l=>by simp [anyM,pass]
 |x::r,b,l=>by
  show (l.any _||anyM (r++b) _)=_
  rw [ow r b]
  show _=((l.any _||anyM r _)||anyM b (pass r (l.map (st1 x.1 x.2))))
  rw [Bool.or_assoc]
theorem yfs(lps:List (Int×Int))(l:List Tri)(j:Nat)(x:Int×Int)(h:lps[j]?=some x):anyM (lps.take (j+1)) l=(anyM (lps.take j) l||(pass (lps.take j) l).any (bp x.1 x.2)):=by
 rw [zaz,h]
 simp only [Option.toList]
 rw [ow]
 simp [anyM]
theorem kG(lps:List (Int×Int))(l:List Tri):(pass lps l).length=l.length:=by
 unfold pass
 induction lps generalizing l with
 |nil=>rfl
 |cons x r ih=>rw [List.foldl_cons,ih];simp
def pot(l:List Tri):Nat:=(l.map fun x=>(1000-x.2.2).toNat).sum
theorem ry(lf lt:Int)(ht:lt<=1000)(l:List Tri):pot (l.map (st1 lf lt))<=pot l/\(l.any (bp lf lt)=true->pot (l.map (st1 lf lt))<pot l):=by
 induction l with
 |nil=>exact ⟨zaq _,fun h=>by simp at h⟩
 |cons x r ih=>
  obtain ⟨h1,h2⟩:=ih
  unfold pot at*
  simp only [List.map_cons,List.sum_cons,List.any_cons]
  cases hc:bp lf lt x with
  |true=>
   have h3:x.2.1<lf/\lf<=x.2.2/\x.2.2<lt:=by
    unfold bp at hc
    exact of_decide_eq_true hc
   have e:st1 lf lt x=(x.1,x.2.1,lt):=by unfold st1;rw [if_pos hc]
   rw [e]
   simp only
   refine ⟨by omega,fun _=>by omega⟩
  |false=>
   have e:st1 lf lt x=x:=by unfold st1;rw [if_neg (by rw [hc];decide)]
   rw [e]
   refine ⟨by omega,fun h=>?_⟩
   have:=h2 (by simpa using h)
   omega
theorem kF: ∀(lps:List (Int×Int)) (l:List Tri),(∀x∈lps,x.2<=1000)->pot (pass lps l)<=pot l/\(anyM lps l=true->pot (pass lps l)<pot l)
 |[],l,_=>⟨zaq _,fun h=>by cases h⟩
 |x::r,l,h=>by
  have h1:=ry x.1 x.2 (h x Zg) l
  have h2:=kF r (l.map (st1 x.1 x.2)) (fun y hy=>h y (by simp [hy]))
  show pot (pass r (l.map (st1 x.1 x.2)))<=_/\((l.any _||anyM r _)=true->pot (pass r (l.map (st1 x.1 x.2)))<_)
  refine ⟨zal h2.1 h1.1,fun hm=>?_⟩
  rw [zak] at hm
  rcases hm with hm|hm
  ·exact Nat.lt_of_le_of_lt h2.1 (h1.2 hm)
  ·exact zar (h2.2 hm) h1.1
theorem lN(ops:Nat->LOp): ∀k,∀x∈lpN ops k,x.2<=(k:Int)
 |0,x,hx=>by cases hx
 |k+1,x,hx=>by
  rw [lM] at hx
  rcases List.mem_append.1 hx with hx|hx
  ·have:=lN ops k x hx
   omega
  ·split at hx
   ·split at hx
    ·simp at hx
     subst hx
     simp only
     omega
    ·cases hx
   ·cases hx
theorem mC: ∀(l:List Tri) (j:Nat) (x:Tri),l[j]?=some x->(l.flatMap ivC)[j*3]?=some (iI x.1)/\(l.flatMap ivC)[j*3+1]?=some (iI x.2.1)/\(l.flatMap ivC)[j*3+2]?=some (iI x.2.2)
 |[],j,x,h=>by simp at h
 |y::r,0,x,h=>by
  simp at h
  subst h
  exact ⟨rfl,rfl,rfl⟩
 |y::r,j+1,x,h=>by
  have ih:=mC r j x (by simpa using h)
  have e: ∀t,((y::r).flatMap ivC)[(j+1)*3+t]?=(r.flatMap ivC)[j*3+t]?:=fun t=>by
   rw [zaf,zai (by simp [ivC];omega)]
   congr 1
   simp [ivC]
   omega
  exact ⟨(e 0).trans ih.1,(e 1).trans ih.2.1,(e 2).trans ih.2.2⟩
theorem mD: ∀(l:List (Int×Int)) (j:Nat) (x:Int×Int),l[j]?=some x->(l.flatMap lpC)[j*2]?=some (iI x.1)/\(l.flatMap lpC)[j*2+1]?=some (iI x.2)
 |[],j,x,h=>by simp at h
 |y::r,0,x,h=>by
  simp at h
  subst h
  exact ⟨rfl,rfl⟩
 |y::r,j+1,x,h=>by
  have ih:=mD r j x (by simpa using h)
  have e: ∀t,((y::r).flatMap lpC)[(j+1)*2+t]?=(r.flatMap lpC)[j*2+t]?:=fun t=>by
   rw [zaf,zai (by simp [lpC];omega)]
   congr 1
   simp [lpC]
   omega
  exact ⟨(e 0).trans ih.1,(e 1).trans ih.2⟩
theorem u0{w:qW}{base size n cap g:Nat}{e:TypeId}{xs:List qV}(h:w.ownsRow base e size (.slice (aA g) n cap) n xs)(k:Nat):w.frozen? (aB g k)=false:=by
 rcases h.2 with ⟨h,_⟩|⟨g',cap',cur,h,_,hg,_⟩
 ·simp at h
 ·simp only [Value.slice.injEq,zaA,Addr.mk.injEq,and_true,true_and] at h
  obtain ⟨rfl,_⟩:=h
  simp [World.frozen?,hg]
def LoopsAt(w:qW)(g:Nat)(l:List (Int×Int)):Prop:= ∀j x,l[j]?=some x->w.cell? ⟨g,j*2,none⟩=some (iI x.1)/\w.cell? ⟨g,j*2+1,none⟩=some (iI x.2)
theorem uP{w:qW}{base:Nat}{v:qV}{l:List Tri}(h:w.ownsRow base 210 3 v l.length (l.flatMap ivC))(hb:base<=w.heap.size):
  ∃(A:Option Addr) (g cap:Nat),v= .slice A l.length cap/\(0<l.length->A=aA g/\g<w.heap.size)/\base<=g/\g<=w.heap.size/\l.length<=cap/\cap<=9223372036854775807/\RowAt w g l:=by
 rcases h.2 with ⟨h1,h2⟩|⟨g,cap,cur,h1,h2,h3,h4,h5,h6,h7⟩
 ·have e:l=[]:=List.length_eq_zero_iff.1 h2
  subst e
  exact ⟨none,base,0,h1,fun h=>by simp at h,zaq _,hb,by simp,by simp,fun j x hj=>by simp at hj⟩
 ·subst h1
  refine ⟨aA g,g,cap,rfl,fun _=>⟨rfl,(Array.getElem?_eq_some_iff.1 h3).1⟩,h2,Nat.le_of_lt (Array.getElem?_eq_some_iff.1 h3).1,h4,h5,fun j x hj=>?_⟩
  have zh:=(List.getElem?_eq_some_iff.1 hj).1
  obtain ⟨f0,f1,f2⟩:=mC l j x hj
  exact ⟨(h.cellAt (j*3) Za).trans f0,(h.cellAt (j*3+1) Za).trans f1,(h.cellAt (j*3+2) Za).trans f2,u0 h _⟩
theorem uR{w:qW}{base:Nat}{v:qV}{l:List (Int×Int)}(h:w.ownsRow base 232 2 v l.length (l.flatMap lpC)):
  ∃(A:Option Addr) (g cap:Nat),v= .slice A l.length cap/\(0<l.length->A=aA g/\g<w.heap.size)/\base<=g/\l.length<=cap/\cap<=9223372036854775807/\LoopsAt w g l:=by
 rcases h.2 with ⟨h1,h2⟩|⟨g,cap,cur,h1,h2,h3,h4,h5,h6,h7⟩
 ·have e:l=[]:=List.length_eq_zero_iff.1 h2
  subst e
  exact ⟨none,base,0,h1,fun h=>by simp at h,zaq _,by simp,by simp,fun j x hj=>by simp at hj⟩
 ·subst h1
  refine ⟨aA g,g,cap,rfl,fun _=>⟨rfl,(Array.getElem?_eq_some_iff.1 h3).1⟩,h2,h4,h5,fun j x hj=>?_⟩
  have zh:=(List.getElem?_eq_some_iff.1 hj).1
  obtain ⟨f0,f1⟩:=mD l j x hj
  exact ⟨(h.cellAt (j*2) Za).trans f0,(h.cellAt (j*2+1) Za).trans f1⟩
theorem LoopsAt.onto{w w':qW}{g B:Nat}{l:List (Int×Int)}(h:LoopsAt w g l)(ho:Onto B w w')(hne:g≠B):LoopsAt w' g l:=fun j x hj=>by
 obtain ⟨c0,c1⟩:=h j x hj
 exact ⟨(ho.cell (bu c0) hne).trans c0,(ho.cell (bu c1) hne).trans c1⟩
end
end Go.Proofs.YtjmfoeajhiimnaaGreatDoor
