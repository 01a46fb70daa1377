/- Walks. No condition. -/
import Derived.Laws.BytesArg
import Derived.Deep.Slices
import Derived.Deep.Fields
import Derived.ChangeSame
import Derived.Deep.WholeRow
import Derived.Test.YtjmfoeajhiimnaaGreatDoorG41
import Derived.Test.YtjmfoeajhiimnaaGreatDoorG42
set_option maxRecDepth 100000
set_option maxHeartbeats 0
set_option linter.all false
namespace Go.Proofs.YtjmfoeajhiimnaaGreatDoor
section
open Go.RowKit Go.Sort
def ctD(c:Nat):qB:=if c=1 then (⟨#[49]⟩:qB) else if c=2 then (⟨#[50]⟩:qB) else if c=3 then (⟨#[51]⟩:qB) else if c=8 then (⟨#[56]⟩:qB) else if c=16 then (⟨#[49,54]⟩:qB) else if c=32 then (⟨#[51,50]⟩:qB) else (⟨#[54,52]⟩:qB)
def ctX:qB:=(⟨#[118,97,114,32,120,32,97]⟩:qB)
def ctY:qB:=(⟨#[32,59,32]⟩:qB)
def ctA:qB:=(⟨#[116,104,114,101,97,100,32,123,32,108,101,116,32,105,32,61,32,48,32,59,32,119,104,105,108,101,32,40,32,105,32,60,32]⟩:qB)
def ctB:qB:=(⟨#[32,41,32,123,32,112,114,105,110,116,32,97,100,100,32,114,108,120,32,120,32,49,32,59,32,115,101,116,32,105,32,61,32,40,32,105,32,43,32,49,32,41,32,59,32,125,32,125,32]⟩:qB)
def ctT(d e:qB):Nat->qB
 |0=>(ctX++d)++ctY
 |i+1=>ctT d e i++((ctA++e)++ctB)
def ctTx(z k n:Nat):qB:=ctT (ctD (8*2^z)) (ctD k) n
def ctP(z k n:Nat):PrgD:=match pProg (ctTx z k n) with|some (p,_,_)=>p|none=>noPrg
def ctRs(z k n:Nat):List ThI:=(iProgB (ctP z k n)).getD []
def ctIb(a b:Ins):Bool:=decide (a.op=b.op/\a.d=b.d/\a.n=b.n/\a.m=b.m/\a.e=b.e/\a.sz=b.sz/\a.imm=b.imm)
def ctIl:List Ins->List Ins->Bool
 |[],[]=>true
 |a::l,b::m=>ctIb a b&&ctIl l m
 |_,_=>false
theorem nE: ∀{a b:List Ins},ctIl a b=true->a=b
 |[],[],_=>rfl
 |⟨a1,a2,a3,a4,a5,a6,a7⟩::l,⟨b1,b2,b3,b4,b5,b6,b7⟩::m,h=>by
  simp only [ctIl,ctIb,za0,zau] at h
  obtain ⟨⟨rfl,rfl,rfl,rfl,rfl,rfl,rfl⟩,h⟩:=h
  rw [nE h]
 |[],_::_,h=>by cases h
 |_::_,[],h=>by cases h
def ctTh(z k:Nat)(r:ThI):Bool:=rOk r&&ctIl (codeOf r) (ctCode ((codeOf r).getD 0 (Ins.zero 0)).imm k z)&&(ctCode ((codeOf r).getD 0 (Ins.zero 0)).imm k z).all (fun i=>(enc i).isSome)
def ctChk(z k n:Nat):Bool:=
 (match pProg (ctTx z k n) with|some (_,a,b)=>decide (a=0/\b=0)|none=>false)&&
 (match lexAll (ctTx z k n) with| .inr []=>false|_=>true)&&
 (iProgB (ctP z k n)).isSome&&decide ((ctRs z k n).length=n)&&decide ((ctP z k n).threads.length=n)&&decide ((mapV 0 (ctP z k n).vars).2=((2^z:Nat):Int))&&
 (ctRs z k n).all (ctTh z k)&&decide ((iStack ((2^z:Nat):Int) (n-1)+1024-65536).toNat=1040+1024*(n-1))
def ctN(f:Nat->Bool):Bool:=f 1&&f 2&&f 3
theorem yd5:ctN (fun k=>ctN (ctChk 0 k))=true:=by kernel_rfl
theorem yd4:ctN (fun k=>ctN (ctChk 1 k))=true:=by kernel_rfl
theorem yd3:ctN (fun k=>ctN (ctChk 2 k))=true:=by kernel_rfl
theorem yd2:ctN (fun k=>ctN (ctChk 3 k))=true:=by kernel_rfl
theorem cV{f:Nat->Bool}(h:ctN f=true){k:Nat}(h1:1<=k)(h3:k<=3):f k=true:=by
 simp only [ctN,za0] at h
 have:k=1\/k=2\/k=3:=by omega
 rcases this with rfl|rfl|rfl
 ·exact h.1.1
 ·exact h.1.2
 ·exact h.2
theorem yd1{z k n:Nat}(hz:z<=3)(hk:1<=k/\k<=3)(hn:1<=n/\n<=3):ctChk z k n=true:=by
 have:z=0\/z=1\/z=2\/z=3:=by omega
 rcases this with rfl|rfl|rfl|rfl
 ·exact cV (cV yd5 hk.1 hk.2) hn.1 hn.2
 ·exact cV (cV yd4 hk.1 hk.2) hn.1 hn.2
 ·exact cV (cV yd3 hk.1 hk.2) hn.1 hn.2
 ·exact cV (cV yd2 hk.1 hk.2) hn.1 hn.2
def ctR(z n:Nat):List Nat:=List.replicate (1040+1024*(n-1)-2^z) 0
theorem nA{z k n:Nat}(hz:z<=3)(hk:1<=k/\k<=3)(hn:1<=n/\n<=3):
  Runs (ctTx z k n) (ctP z k n) (ctRs z k n) (2^z:Nat)/\(ctRs z k n).length=n/\CtJ k z n (ctR z n) (mBeg (2^z:Nat) (ctRs z k n)):=by
 have h:=yd1 hz hk hn
 unfold ctChk at h
 simp only [za0,zau] at h
 obtain ⟨⟨⟨⟨⟨⟨⟨h1,h2⟩,h3⟩,h4⟩,h5⟩,h6⟩,h7⟩,h8⟩:=h
 have xq:=jc hz
 refine ⟨⟨?_,fun h=>?_,?_,h6,by rw [h4,h5],by omega,by omega,by omega,by omega,fun r hr=>?_⟩,h4,yd6 hk.2 hz rfl ?_ ?_ fun t x hx=>?_⟩
 ·unfold ctP
  split at h1
  ·rename_i p a b hp
   obtain ⟨rfl,rfl⟩:=of_decide_eq_true h1
   rw [hp]
  ·cases h1
 ·rw [h] at h2
  cases h2
 ·unfold ctRs
  obtain ⟨x,hx⟩:=Option.isSome_iff_exists.1 h3
  rw [hx]
  rfl
 ·have:=List.all_eq_true.1 h7 r hr
  simp only [ctTh,za0] at this
  exact this.1.1
 ·show List.replicate (iStack ((2^z:Nat):Int) ((ctRs z k n).length-1)+1024-65536).toNat 0=ctBy (2^z) 0++ctR z n
  rw [h4,h8]
  unfold ctBy ctR
  rw [<-List.replicate_succ,show 2^z-1+1=2^z by omega,List.replicate_append_replicate,show 2^z+(1040+1024*(n-1)-2^z)=1040+1024*(n-1) by omega]
 ·show ((ctRs z k n).map tdOf).length=n
  rw [List.length_map,h4]
 ·have FQ:((ctRs z k n).map tdOf)[t]?=some x:=hx
  rw [zaj] at FQ
  cases hr:(ctRs z k n)[t]? with
  |none=>rw [hr] at FQ;cases FQ
  |some r=>
   rw [hr] at FQ
   rw [<-zae FQ]
   have:=List.all_eq_true.1 h7 r (zat hr)
   simp only [ctTh,za0] at this
   obtain ⟨⟨-,a⟩,b⟩:=this
   have e:=nE a
   refine ⟨((codeOf r).getD 0 (Ins.zero 0)).imm,r.2,?_,fun i hi=>List.all_eq_true.1 b i hi⟩
   rw [<-e]
   rfl
def cvR(b:Int)(s:qB):Prop:= ∀(W:qW) (g:Nat),g=W.heap.size->(convert 44 9 (.slice (aA g) 1 1)).run Tryz.prog (W.alloc (.cells #[.int .u8 b] 5))= .ok (.string s) (W.alloc (.cells #[.int .u8 b] 5))
theorem dN(b:Int)(s:qB)(hs:strOfNums [b]=s):cvR b s:=fun W g hg=>by
 subst hg
 rw [run_convert_bytes_arg (P:=Tryz.prog) (W.alloc (.cells #[.int .u8 b] 5)) 44 5 Tryz.underlying44 Tryz.underlying5 W.heap.size 0 1 1 [b] rfl (fun i hi=>by
  obtain rfl:i=0:=by omega
  rw [aa (zab _ _)]
  rfl) 9 Tryz.underlying9,hs]
theorem ns(c:Int)(h:c=1\/c=2\/c=3\/c=8\/c=16\/c=32\/c=64)(w:qW):qC 6 #[iI c] w fun e w'=>e= .returned (.string (ctD c.toNat))/\Below w.heap.size w w':=by
 have h1:=dN 49 (⟨#[49]⟩:qB) rfl
 have h2:=dN 50 (⟨#[50]⟩:qB) rfl
 have h3:=dN 51 (⟨#[51]⟩:qB) rfl
 have h4:=dN 52 (⟨#[52]⟩:qB) rfl
 have h6:=dN 54 (⟨#[54]⟩:qB) rfl
 have h8:=dN 56 (⟨#[56]⟩:qB) rfl
 unfold cvR at h1 h2 h3 h4 h6 h8
 rcases h with rfl|rfl|rfl|rfl|rfl|rfl|rfl
 all_goals
  go_enter Tryz.func6,Tryz.ntmps6
  go_wp2_with fail
  refine zao 2 ?_
  rw [zap]
  go_wp2_with fail
  try
   rw [zap]
   go_wp2_with fail
  go_ret
  exact ⟨rfl,ZG⟩
structure FinC(n k z:Nat)(s:MSt):Prop where
 size:s.size=(2^z:Nat)
 len:s.ts.length=n
 bytes: ∃R,s.bytes=ctBy (2^z) (n*k)++R
 th: ∀(t:Nat) (x:TD),s.ts[t]?=some x->x.end_=1/\x.prints.length=k/\x.prints.Nodup/\ ∀v∈x.prints,v<n*k
 dj: ∀(t u:Nat) (x y:TD),t≠u->s.ts[t]?=some x->s.ts[u]?=some y-> ∀v∈x.prints,v∉y.prints
def SeenP(ts:List TD)(t j x:Nat):Prop:=(∃(u:Nat) (y:TD),u<t/\ts[u]?=some y/\x∈y.prints)\/ ∃y:TD,ts[t]?=some y/\x∈y.prints.take j
theorem rX{n k z:Nat}{s:MSt}(F:FinC n k z s){t j v:Nat}{y:TD}(hy:s.ts[t]?=some y)(hj:y.prints[j]?=some v): ¬SeenP s.ts t j v:=by
 have hv:v∈y.prints:=zat hj
 rintro (⟨u,x,hu,hx,hm⟩|⟨x,hx,hm⟩)
 ·exact F.dj t u y x Za hy hx v hv hm
 ·rw [hy] at hx
  obtain rfl:=zae hx
  obtain ⟨i,hi⟩:=List.getElem?_of_mem hm
  rw [List.getElem?_take] at hi
  split at hi
  ·rename_i xe
   have:=(F.th t y hy).2.2.1
   have zR:=(List.getElem?_eq_some_iff.1 hj).1
   have:=(List.getElem?_inj (by have:=(List.getElem?_eq_some_iff.1 hi).1;omega) this).1 (hi.trans hj.symm)
   omega
  ·cases hi
theorem rZ{ts:List TD}{t j v x:Nat}{y:TD}(hy:ts[t]?=some y)(hj:y.prints[j]?=some v)(h:SeenP ts t j x\/x=v):SeenP ts t (j+1) x:=by
 have zR:=List.getElem?_eq_some_iff.1 hj
 rcases h with (h|⟨w,hw,hm⟩)|rfl
 ·exact .inl h
 ·exact .inr ⟨w,hw,List.mem_of_mem_take (i:=j) (by rw [List.take_take,Nat.min_eq_left (Nat.le_succ j)];exact hm)⟩
 ·refine .inr ⟨y,hy,?_⟩
  rw [zaz,hj]
  simp
theorem rY{ts:List TD}{t k x:Nat}(h:SeenP ts t k x):SeenP ts (t+1) 0 x:=by
 rcases h with ⟨u,y,hu,hy,hm⟩|⟨y,hy,hm⟩
 ·exact .inl ⟨u,y,by omega,hy,hm⟩
 ·exact .inl ⟨t,y,by omega,hy,List.mem_of_mem_take hm⟩
structure Counts(rs:List ThI)(n k z:Nat)(Q:Nat->MSt->Prop):Prop where
 scr: ∀l,fewL l 0=true-> ∃s n0 e0,mRun l 0 (mBeg (2^z:Nat) rs)=some (s,n0,e0)/\Q 0 s
 one: ∀t s,t<n->Q t s-> ∃s',mRun [(1,(t:Int),21000)] 0 s=some (s',1,0)/\Q (t+1) s'
 fin: ∀s,Q n s->FinC n k z s
theorem yd0{z k n:Nat}(hz:z<=3)(hk:1<=k/\k<=3)(hn:1<=n/\n<=3):Counts (ctRs z k n) n k z (fun t s=>CtJ k z n (ctR z n) s/\0<=s.taken/\s.taken<=2400+21000*t/\ ∀u,u<t->EndS s u):=by
 obtain ⟨HR,hl,hJ⟩:=nA hz hk hn
 have hR:(ctR z n).length<=900000:=by
  unfold ctR
  rw [List.length_replicate]
  have:n-1<=2:=by omega
  generalize 2^z=q
  omega
 refine ⟨fun l hf=>?_,fun t s ht h=>?_,fun s h=>?_⟩
 ·obtain ⟨s,n0,e0,hM,h1,h2,h3⟩:=nB hR hn.2 l 0 0 hJ hf (Int.le_refl _) (Int.le_refl _) (Int.le_refl _)
  exact ⟨s,n0,e0,hM,h1,h2,by omega,fun u hu=>absurd hu (Nat.not_lt_zero _)⟩
 ·obtain ⟨h1,h2,h3,h4⟩:=h
  obtain ⟨s',hM,a,b,c,d,e⟩:=ydZ hR hn.2 h1 ht h2 Za
  refine ⟨s',hM,a,b,by omega,fun u hu=>?_⟩
  by_cases Is:u=t
  ·subst Is
   exact e
  ·exact d u Za (h4 u Za)
 ·obtain ⟨h1, -, -,h4⟩:=h
  obtain ⟨a,b,c,d,e⟩:=ydY h1 h4
  exact ⟨a,b,⟨_,c⟩,d,e⟩
end
section
open Go.ChangeShapes Go.WideShapes Go.ChangeAt Go.RowKit Go.Deep
def InS(w:qW)(v:qV)(l:List (Int×Int×Int)):Prop:=
 ∃a c,v= .slice a l.length c/\l.length<=c/\c<=9223372036854775807/\(∀x∈l, -9223372036854775808<=x.2.2/\ -9223372036854775808<=x.2.1)/\ ∀j x,l[j]?=some x-> ∃g o,a=some ⟨g,o,none⟩/\g<w.heap.size/\ ∀i v,(spC x)[i]?=some v->w.cell? ⟨g,o+j*3+i,none⟩=some v
theorem jt:Tryz.prog.cellsOf 43=3:=by kernel_rfl
theorem pB:Tryz.prog.cellsOf 3=1:=by kernel_rfl
section
variable{H:Type}{enc:TypeId×qV->H}{W:qW}
theorem qL{base:Nat}{sp:Nat->Bool}{hd:Bool}{fuel:Nat}{cs:List qV}{x:DataW H×List MemPlace}(h:DataW.trod enc Tryz.prog W base sp hd fuel 43 cs=some x):
  ∃o:Int×Int×Int,cs=spC o/\ -9223372036854775808<=o.2.2/\ -9223372036854775808<=o.2.1:=by
 obtain ⟨xs,n,_,_,hl,xd,Bv⟩:=DataW.trod_struct Tryz.underlying43 h
 rw [jt] at hl
 simp at Bv
 match xs,xd,cs,hl with
 |[y0,y1,y2],_,[v0,v1,v2],_=>
  have h0:=Bv 0 _ rfl
  have h1:=Bv 1 _ rfl
  have h2:=Bv 2 _ rfl
  simp [pB] at h0 h1 h2
  obtain ⟨k0,e0,_,w0⟩:=DataW.trod_int Tryz.underlying3 h0
  obtain ⟨k1,e1,_,w1⟩:=DataW.trod_int Tryz.underlying3 h1
  obtain ⟨k2,e2,_,w2⟩:=DataW.trod_int Tryz.underlying3 h2
  simp at e0 e1 e2
  subst e0 e1 e2
  exact ⟨⟨k0,k1,k2⟩,rfl,(ki w2).1,(ki w1).1⟩
theorem qI{r:Reach}{b0:Nat}{v:qV}{d:DataW H}{p:List MemPlace}(hv:Value.okWide Tryz.prog W r b0 22 v)(h:DataW.Trod enc Tryz.prog W 0 (fun _=>true) true 22 v d p): ∃l,InS W v l:=by
 obtain ⟨fuel,hf⟩:=h
 obtain ⟨a0,n0,c0,rfl⟩:=okWide_slice Tryz.underlying22 hv
 rcases DataW.trod_slice Tryz.underlying22 hf with h0|⟨a,len,cap,elems,rest,n,rfl,xG,hx,hb,hl,hm,xd,y8,_,_⟩
 ·have h1:=h0.1
  simp [Value.cells] at h1
  obtain ⟨rfl,rfl,rfl⟩:=h1
  exact ⟨[],none,0,rfl,zaq _,by omega,fun _ h=>absurd h zaN,fun j x hx=>by simp at hx⟩
 ·simp [Value.cells] at xG
  obtain ⟨rfl,rfl,rfl⟩:=xG
  have key: ∀i,∃o:Int×Int×Int,(-9223372036854775808<=o.2.2/\ -9223372036854775808<=o.2.1)/\(i<n0-> ∀j v,(spC o)[j]?=some v->W.cell? (a.add (i*3+j))=some v):=fun i=>by
   by_cases hi:i<n0
   ·have:=y8 i hi
    rw [zaC (by omega:i<elems.length)] at this
    obtain ⟨cs',h1,h2⟩:=Option.bind_eq_some_iff.1 this
    rw [jt] at h1
    obtain ⟨i',Fv⟩:=rR h1
    obtain ⟨o,rfl,xr⟩:=qL h2
    refine ⟨o,xr,fun _ j v hj=>?_⟩
    rw [<-Go.Deep.add_add]
    exact Fv j v hj
   ·exact ⟨(0,0,0),by decide,fun h=>absurd h hi⟩
  obtain ⟨f,hF⟩:=Classical.skolem.1 key
  refine ⟨(List.range n0).map f,some a,c0,by simp,by simpa using hl,by unfold maxLen at hm;exact hm,fun x hx=>?_,fun j x hx=>?_⟩
  ·obtain ⟨i, -,rfl⟩:=List.mem_map.1 hx
   exact (hF i).1
  ·have hj:j<n0:=by
    have:=(List.getElem?_eq_some_iff.1 hx).1
    simpa using this
   rw [zaj,List.getElem?_range hj] at hx
   obtain rfl:=zae hx
   have hc:=(hF j).2 hj
   have h0:=hc 0 _ rfl
   have ha:a=⟨a.block,a.off,none⟩:=by
    have:=(hF 0).2 Za 0 _ rfl
    rw [show a.add (0*3+0)=a from rfl] at this
    exact rQ this
   refine ⟨a.block,a.off,by rw [<-ha],?_,fun i v hv=>?_⟩
   ·have:=aF h0
    rw [ha] at this
    simp only [add_plain] at this
    exact this
   ·have:=hc i v hv
    rw [ha] at this
    simp only [add_plain] at this
    rw [Nat.add_assoc]
    exact this
end
end
section
open Go.RowKit Go.Sort
theorem InS.below{w W:qW}{v:qV}{l:List (Int×Int×Int)}(h:InS w v l)(hb:Below w.heap.size w W):InS W v l:=by
 obtain ⟨a,c,e,h1,h2,h3,h4⟩:=h
 exact ⟨a,c,e,h1,h2,h3,fun j x hx=>by
  obtain ⟨g,o,ea,hg,hc⟩:=h4 j x hx
  exact ⟨g,o,ea,zar hg hb.size,fun i v hv=>(hb.cell (p:=⟨g,_,none⟩) hg).trans (hc i v hv)⟩⟩
theorem mX(w:qW)(v:qV)(l:List (Int×Int×Int))(hv:InS w v l):qC 4 #[v] w fun e w'=>e= .returned (.bool (fewL l 0))/\Below w.heap.size w w':=by
 obtain ⟨a,c,rfl,IG,hc,hr,xm⟩:=hv
 have HC:=Zh xm
 have Q7:l.length<=9223372036854775807:=by omega
 obtain ⟨b,hb⟩: ∃b,fewL l 0=b:=⟨_,rfl⟩
 rw [hb]
 have Jk:=Zh hb
 clear xm hr hb
 go_enter Tryz.func4,Tryz.ntmps4
 go_wp2_with fail
 go_loopw [3,4] (fun v3 v4 wr=> ∃(i:Nat) (n:Int),i<=l.length/\v4=iI i/\v3=iI n/\0<=n/\n<=2401/\fewL (l.drop i) n=b/\Below w.heap.size w wr) (fun _ v4 _=>l.length-(intOf v4).toNat)
 case atStart=>exact ⟨0,0,by omega,rfl,rfl,by omega,by omega,Jk.out,zaa _ _⟩
 case round=>
  obtain ⟨i,n,hi,rfl,rfl,Q4,BY,hf,hB⟩:=hrel
  have HB:=Zh hB
  by_cases Dl:i<l.length
  ·obtain ⟨x,hx⟩: ∃x,l[i]?=some x:=⟨l[i],zaC Dl⟩
   have J6:(i:Int)<l.length:=by omega
   have Bm:IntKind.i64.wrap ((i:Int)+1)=(i:Int)+1:=aR Za Za
   rw [zaS Dl,show l[i]=x from (List.getElem?_eq_some_iff.1 hx).2] at hf
   unfold fewL at hf
   by_cases h8:n<=800
   ·rw [if_pos h8] at hf
    obtain ⟨g,o,rfl,hg,i'⟩:=HC.out i x hx
    have cx: ∀j v,(spC x)[j]?=some v->wr.cell? ⟨g,o+i*3+j,none⟩=some v:=fun j v hj=>(hB.cell (p:=⟨g,_,none⟩) hg).trans (i' j v hj)
    have c0:wr.cell? ⟨g,o+i*3,none⟩=some (iI x.1):=cx 0 _ rfl
    have c1:wr.cell? ⟨g,o+i*3+1,none⟩=some (iI x.2.1):=cx 1 _ rfl
    have c2:wr.cell? ⟨g,o+i*3+2,none⟩=some (iI x.2.2):=cx 2 _ rfl
    clear cx i' hx hB
    obtain ⟨k,a,d⟩:=x
    simp only at hf c0 c1 c2
    by_cases hA:800<a
    ·rw [if_pos (.inl hA)] at hf
     have HF:=Zh hf
     clear hf
     go_wp2_with fail
     go_ret
     exact ⟨by rw [<-HF.out];rfl,HB.out⟩
    ·by_cases hD:800<d
     ·rw [if_pos (.inr hD)] at hf
      have HF:=Zh hf
      clear hf
      go_wp2_with fail
      go_ret
      exact ⟨by rw [<-HF.out];rfl,HB.out⟩
     ·rw [if_neg Za] at hf
      have u':IntKind.i64.wrap (n+1)=n+1:=aR Za Za
      have hq: ∀q,costS (k,a,d)=q->fewL (l.drop (i+1)) (n+q)=b:=fun q e=>by rw [<-e];exact hf
      clear hf
      unfold costS at hq
      simp only at hq
      by_cases hd:0<d
      all_goals
       by_cases hk:k=3
       all_goals
        by_cases ha:0<a
        all_goals
         simp only [hd,hk,ha,true_and,and_true,false_and,and_false,if_true,if_false] at hq
         have HQ:=Zh (hq _ rfl)
         clear hq
         first|(subst hk;skip)|(have xZ:(k==3)=false:=by simpa using hk)
         have Fe:0<d->IntKind.i64.wrap (n+1+d)=n+1+d:=fun _=>aR Za Za
         have Fd:0<a->IntKind.i64.wrap (n+1+a)=n+1+a:=fun _=>aR Za Za
         have Ls:0<a->0<d->IntKind.i64.wrap (n+1+d+a)=n+1+d+a:=fun _ _=>aR Za Za
         try replace Fe:=Fe hd
         try replace Fd:=Fd ha
         try replace Ls:=Ls ha hd
         go_wp2_with fail
         refine ⟨⟨i+1,_,by omega,by simp,rfl,by omega,by omega,?_,HB.out⟩,by simp [intOf];omega⟩
         first|exact HQ.out|(have:=HQ.out;rwa [show∀p q r:Int,p+(q+r)=p+q+r from fun p q r=>by omega] at this)|(have:=HQ.out;simp only [Int.add_zero,<-Int.add_assoc] at this;exact this)
   ·rw [if_neg h8] at hf
    have HF:=Zh hf
    clear hf hx hB
    go_wp2_with fail
    go_ret
    exact ⟨by rw [<-HF.out];simp [h8],HB.out⟩
  ·have EE:i=l.length:=by omega
   have J6: ¬(i:Int)<l.length:=by omega
   rw [EE,List.drop_length] at hf
   unfold fewL at hf
   have HF:=Zh hf
   clear hf hB
   go_wp2_with fail
   go_ret
   exact ⟨by rw [<-HF.out];rfl,HB.out⟩
theorem ydg{n k z:Nat}{s:MSt}(F:FinC n k z s): ∃ys,(s.bytes.take s.size.toNat).flatMap aK= .int .u8 ((n*k:Nat):Int)::ys:=by
 obtain ⟨R,hR⟩:=F.bytes
 have hz:0<2^z:=Nat.pow_pos Za
 have hl:(ctBy (2^z) (n*k)).length=2^z:=by
  unfold ctBy
  simp
  omega
 rw [F.size,Int.toNat_natCast,hR,List.take_append_of_le_length Za,List.take_of_length_le Za]
 exact ⟨_,rfl⟩
theorem iZ: ∀l:List Nat,(l.flatMap aT).length=l.length
 |[]=>rfl
 |a::l=>by
  rw [zaf,zaO,iZ l,za2]
  show 1+_=_
  omega
theorem sY{V:qW}{X:Nat->Prop}{l:List Nat}{v:qV}{k:Nat}(h:RdV V X (l.flatMap aT) v)(hl:l.length=k)(hk:0<k): ∃g,v= .slice (aA g) k k/\g<V.heap.size/\ ∀j u,l[j]?=some u->V.cell? (aB g j)=some (.int .u64 (u:Nat)):=by
 have e:(l.flatMap aT).length=k:=(iZ l).trans hl
 obtain ⟨a,rfl,h⟩:=h
 rw [e] at h ⊢
 rcases h with ⟨-,h⟩|⟨g,rfl,hg, -,hR⟩
 ·omega
 ·exact ⟨g,rfl,hg,fun j u hu=>hR j _ (eH (fun n:Nat=>Value.int .u64 n) l j u hu)⟩
theorem nG(c:Nat):(ctD c).size<=2:=by
 unfold ctD
 repeat' split
 all_goals decide
theorem nD(d e:qB)(hd:d.size<=2)(he:e.size<=2): ∀i,(ctT d e i).size<=1000+i*1000
 |0=>by
  have hX:ctX.size=7:=by kernel_rfl
  have hY:ctY.size=3:=by kernel_rfl
  unfold ctT
  rw [ByteArray.size_append,ByteArray.size_append,hX,hY]
  omega
 |i+1=>by
  have h:=nD d e hd he i
  have hA:ctA.size=33:=by kernel_rfl
  have hB:ctB.size=49:=by kernel_rfl
  unfold ctT
  rw [ByteArray.size_append,ByteArray.size_append,ByteArray.size_append,hA,hB]
  omega
def snC:Array qV:=Array.replicate 20 (.bool false)
theorem rM:snC.size=20:=by
 unfold snC
 simp
theorem rN(y:Nat)(h:y<20):snC[y]?=some (.bool false):=by
 unfold snC
 simp [h]
theorem rJ(W:qW):(zeroValue 50).run Tryz.prog W= .ok (.agg snC) W:=by kernel_rfl
theorem rL:(Tryz.prog.info? 50).map (·.size)=some 20:=by kernel_rfl
theorem rK:snC.all (·.oneCell')=true:=by kernel_rfl
theorem oT{ops:Array Oper}{rest:List Oper}{op:Oper}{a:Act}{w:qW}{Q:Exit->Act->qW->Prop}(hgd:op.guard=none)(ho:op.op= .build 50 #[])
  (h:wpList Tryz.prog ops Q rest (a.put op.dst (.agg snC)) w):wpList Tryz.prog ops Q (op::rest) a w:=
 wpList_plain hgd fun K hK=>by
  have e: ∀W,(Instr.build 50 #[]).run Tryz.prog W= .ok (.agg snC) W:=fun W=>by kernel_rfl
  unfold Oper.wp execOp
  simp only [ho,List.map_toArray,List.map_nil,Sem.run_bind,Sem.run_pure,Result.andThen_ok,e]
  exact hK _ _ h
theorem oU{ops:Array Oper}{rest:List Oper}{op:Oper}{a:Act}{w:qW}{Q:Exit->Act->qW->Prop}(hgd:op.guard=none)(ho:op.op= .alloc 50)
  (h:wpList Tryz.prog ops Q rest (a.put op.dst (pP w.heap.size)) (w.alloc (.cells snC 50))):wpList Tryz.prog ops Q (op::rest) a w:=
 wpList_plain hgd fun K hK=>by
  unfold Oper.wp execOp
  simp only [ho,Instr.alloc,newVar,Sem.run_bind,Sem.run_pure,Result.andThen_ok,rJ]
  exact hK _ _ h
theorem oQ{ops:Array Oper}{rest:List Oper}{op:Oper}{a:Act}{w:qW}{Q:Exit->Act->qW->Prop}{b:Nat}(x y:Operand)(hgd:op.guard=none)(ho:op.op= .store 50 x y)(hx:a.eval x=pP b)(hb:b=w.heap.size)(hy:a.eval y= .agg snC)
  (h:wpList Tryz.prog ops Q rest (a.put op.dst undef) (w.alloc (.cells snC 50))):wpList Tryz.prog ops Q (op::rest) a (w.alloc (.cells snC 50)):=
 wpList_plain hgd fun K hK=>by
  subst hb
  have e:=run_storeAt_new (P:=Tryz.prog) w 50 snC snC (by rw [rM];exact rL) rfl rK
  unfold Oper.wp execOp
  simp only [ho,hx,hy,Sem.run_bind,Sem.run_pure,Result.andThen_ok,e]
  exact hK _ _ h
def SnA(X W:qW)(S:Nat)(ts:List TD)(t j:Nat):Prop:= ∃(f:Nat->Bool) (cs:Array qV),Kp (fun q=>q=S) X W/\W.heap[S]?=some (.cells cs 50 (0,0))/\(∀y,y<20->cs[y]?=some (.bool (f y)))/\ ∀y,f y=true->SeenP ts t j y
theorem SnA.set{X W:qW}{S t j u:Nat}{ts:List TD}{x:TD}(h:SnA X W S ts t j)(hx:ts[t]?=some x)(hu:x.prints[j]?=some u)(FC:u<20):SnA X (W.setCell ⟨S,u,none⟩ (.bool true)) S ts t (j+1):=by
 obtain ⟨f,cs,hk,hS,Ft,Bv⟩:=h
 refine ⟨fun y=>if y=u then true else f y,cs.setIfInBounds u (.bool true),hk.trans (Kp.set _ _ _ _),aJ hS _,fun y hy=>?_,fun y hy=>rZ hx hu ?_⟩
 ·have h1:=Ft y hy
  have h2:=Ft u FC
  rw [zaT]
  by_cases e:u=y
  ·rw [if_pos e,if_pos (Array.getElem?_eq_some_iff.1 h2).1]
   show _=some (Value.bool (if y=u then true else f y))
   rw [if_pos e.symm]
  ·rw [if_neg e,h1]
   show _=some (Value.bool (if y=u then true else f y))
   rw [if_neg (fun e':y=u=>e e'.symm)]
 ·have Lk:(if y=u then true else f y)=true:=hy
  by_cases e:y=u
  ·exact .inr e
  ·rw [if_neg e] at Lk
   exact .inl (Bv y Lk)
theorem SnA.next{X W:qW}{S t k:Nat}{ts:List TD}(h:SnA X W S ts t k):SnA X W S ts (t+1) 0:=by
 obtain ⟨f,cs,hk,hS,Ft,Bv⟩:=h
 exact ⟨f,cs,hk,hS,Ft,fun y h=>rY (Bv y h)⟩
theorem SnA.cell{n k z:Nat}{s:MSt}(F:FinC n k z s){X W:qW}{S t j u:Nat}{x:TD}(h:SnA X W S s.ts t j)(hx:s.ts[t]?=some x)(hu:x.prints[j]?=some u)(FC:u<20):W.cell? (aB S u)=some (.bool false)/\W.frozen? (aB S u)=false/\Kp (fun q=>q=S) X W:=by
 obtain ⟨f,cs,hk,hS,Ft,Bv⟩:=h
 have xW:f u=false:=by
  cases Fs:f u
  ·rfl
  ·exact absurd (Bv u Fs) (rX F hx hu)
 exact ⟨(aa hS u).trans ((Ft u FC).trans (by rw [xW])),ah hS u,hk⟩
theorem SnA.kp{X W:qW}{S t j:Nat}{ts:List TD}(h:SnA X W S ts t j):Kp (fun q=>q=S) X W:=h.choose_spec.choose_spec.1
theorem yeb(w:qW)(yo:SpT w)(x0 x1 x2:Nat)(b0:x0<256)(b1:x1<256)(b2:x2<256)(v:qV)(l:List (Int×Int×Int))(hv:InS w v l)(n k z:Nat)(hn:x0%3+1=n)(hk:x1%3+1=k)(hz:x2%4=z)(p:PrgD)(rs:List ThI)(sz:Int)(hsz:((2^z:Nat):Int)=sz)(H:Runs (ctT (ctD (8*2^z)) (ctD k) n) p rs sz)(AR:rs.length=n)(Q:Nat->MSt->Prop)(HQ:Counts rs n k z Q)(hf:fewL l 0=true):
  qC 3 #[.int .u8 x0,.int .u8 x1,.int .u8 x2,v] w fun e w'=>e= .returned (.bool true)/\Below w.heap.size w w':=by
 have FW:Hid (∀W,Below w.heap.size w W->qC 4 #[v] W fun e w'=>e= .returned (.bool true)/\Below W.heap.size W w'):=Zh (fun W hW=>by
  have:=mX W v l (hv.below hW)
  rwa [hf] at this)
 have xd:=mY hf
 have Dx:=Zh (fun W (hW:Below w.heap.size w W)=>lK _ p H.hp H.hne rs H.hr W (yo.below hW))
 have HH:=Zh H
 have DZ:Hid (∀W,qC 6 #[iI ((8*2^z:Nat):Int)] W fun e w'=>e= .returned (.string (ctD (8*2^z)))/\Below W.heap.size W w'):=Zh (fun W=>by
  have h4:z=0\/z=1\/z=2\/z=3:=by omega
  have:=ns ((8*2^z:Nat):Int) (by rcases h4 with rfl|rfl|rfl|rfl<;>decide) W
  rwa [Int.toNat_natCast] at this)
 have DK:Hid (∀W,qC 6 #[iI (k:Int)] W fun e w'=>e= .returned (.string (ctD k))/\Below W.heap.size W w'):=Zh (fun W=>by
  have:=ns (k:Int) Za W
  rwa [Int.toNat_natCast] at this)
 have PR:Hid (∃s n0 e0,mRun l 0 (mBeg sz rs)=some (s,n0,e0)/\Q 0 s):=Zh (by
  have:=HQ.scr l hf
  rwa [hsz] at this)
 have FG:=Zh HQ
 have HV:=Zh hv
 have yS:(x0:Int)%3+1=n:=by omega
 have xZ:(x1:Int)%3+1=k:=by omega
 have Oh:1<=n/\n<=3:=by omega
 have An:1<=k/\k<=3:=by omega
 have BE:Hid (p.threads.length=n):=Zh (H.hl.symm.trans AR)
 have PY:=Zh AR
 have Ly:=H.s0
 have yK:=H.s1
 obtain ⟨va,vc,rfl,IG,QN, -, -⟩:=hv
 obtain ⟨q0,yt⟩: ∃q0,n*k=q0:=⟨_,rfl⟩
 have QX:q0<=9:=by
  rw [<-yt]
  exact Nat.mul_le_mul Oh.2 An.2
 have Nk:=Zh yt
 have Q2:IntKind.i64.wrap ((n:Int)*(k:Int))=(q0:Int):=by
  rw [<-Int.natCast_mul,yt]
  exact aR Za Za
 clear yt
 have NR:IntKind.i64.wrap (8*2^((x2:Int)%4).toNat)=((8*2^z:Nat):Int):=by
  have h4:z=0\/z=1\/z=2\/z=3:=by omega
  rw [show ((x2:Int)%4).toNat=z by omega]
  rcases h4 with rfl|rfl|rfl|rfl<;>rfl
 clear H HQ hf hn hk AR hsz
 go_enter Tryz.func3,Tryz.ntmps3
 go_wp2_with fail
 refine (FW.out _ ZG).mono ?_
 rintro e w1 ⟨rfl,Av⟩
 have zl:=Zh Av
 clear Av
 go_wp2_with fail
 refine (DZ.out _).mono ?_
 rintro e w2 ⟨rfl,yr⟩
 have xV:=Zh (an zl.out yr zl.out.size)
 clear yr
 have dz:=nG (8*2^z)
 have dk:=nG k
 have PM:=Zh (fun i=>nD (ctD (8*2^z)) (ctD k) dz dk i)
 have y1: ¬9223372036854775807<7+(ctD (8*2^z)).size:=by omega
 have y2: ¬9223372036854775807<7+(ctD (8*2^z)).size+3:=by omega
 have y3: ¬9223372036854775807<33+(ctD k).size:=by omega
 have y4: ¬9223372036854775807<33+(ctD k).size+49:=by omega
 go_wp2_with fail
 go_loopw [11,12] (fun v11 v12 wr=> ∃i:Nat,i<=n/\v12=iI i/\v11= .string (ctT (ctD (8*2^z)) (ctD k) i)/\Below w.heap.size w wr) (fun _ v12 _=>n-(intOf v12).toNat)
 case atStart=>exact ⟨0,by omega,rfl,by kernel_rfl,xV.out⟩
 case round=>
  obtain ⟨i,hi,rfl,rfl,hB⟩:=hrel
  have HB:=Zh hB
  clear hB
  by_cases OA:i<n
  ·have GB:(i:Int)<n:=by omega
   have Bm:IntKind.i64.wrap ((i:Int)+1)=(i:Int)+1:=aR Za Za
   have NH:=PM.out i
   have y5: ¬9223372036854775807<(ctT (ctD (8*2^z)) (ctD k) i).size+(33+(ctD k).size+49):=by omega
   clear NH
   go_wp2_with fail
   refine (DK.out _).mono ?_
   rintro e w3 ⟨rfl,Ai⟩
   have Ay:=Zh (an HB.out Ai HB.out.size)
   clear Ai
   go_wp2_with fail
   exact ⟨⟨i+1,by omega,by simp,by kernel_rfl,Ay.out⟩,by simp [intOf];omega⟩
  ·have EE:i=n:=by omega
   have GB: ¬(i:Int)<n:=by omega
   rw [EE]
   rw [EE] at GB
   clear OA hi EE
   go_wp2_with fail
   refine (Dx.out _ HB.out).mono ?_
   rintro e w4 ⟨gT,gv,rfl,Bj,xy,Ag,DW,hT⟩
   rw [HH.out.hz,BE.out] at*
   obtain ⟨ga,gc,rfl, -, -, -, -⟩:=aC DW
   have FL:=Zh (an HB.out Bj HB.out.size)
   have HT:=Zh hT
   clear Bj hT DW Dx DZ DK
   go_upto_region 10 with fail
   refine aS (R:=fun X=>Below w4.heap.size w4 X/\X.heap[w4.heap.size]?=some (.cells #[.slice (aA gT) n n,.slice (aA (gT+1)) n n,.slice ga (mapV 0 p.vars).1.length gc,iI sz] 31 (0,0))/\X.heap[w4.heap.size+1]?=some (.cells #[iI 0,iI 0] 34 (0,0))) ⟨ab (ab (zaa _ _) _) _,(zac _ _ ZF).trans (zab _ _),aH (by simp only [ar])⟩ ?_
   rintro V ⟨Ar,Bf,GK⟩
   have i0:V.cell? (aB w4.heap.size 0)=some (.slice (aA gT) n n):=aa Bf 0
   have i1:V.cell? (aB w4.heap.size 1)=some (.slice (aA (gT+1)) n n):=aa Bf 1
   have i2:V.cell? (aB w4.heap.size 2)=some (.slice ga (mapV 0 p.vars).1.length gc):=aa Bf 2
   have i3:V.cell? (aB w4.heap.size 3)=some (iI sz):=aa Bf 3
   have Np:=Zh GK
   have yR:=Zh (an FL.out Ar FL.out.size)
   have NW:=Zh (lx V gT n (.slice ga (mapV 0 p.vars).1.length gc) sz rs Za Za PY.out Za Za (by have:=Ar.size;omega) (fun j r hj=>(HT.out j r hj).below Ar Za Za) HH.out.ok ⟨_,_,_,rfl⟩)
   clear Ar Bf GK xy Ag HT
   go_wp2_with fail
   go_at_call 8
   refine NW.out.mono ?_
   rintro e V2 ⟨M,F,bs,rfl,hM,hm,xA⟩
   have f1:V2.cell? ⟨w4.heap.size+1,1,none⟩=some (iI 0):=(xA.cell (p:=⟨w4.heap.size+1,1,none⟩) (ac Np.out)).trans (aa Np.out 1)
   obtain ⟨s0,n0,e0,wY,MH⟩:=PR.out
   have Ax:=Zh (an yR.out xA yR.out.size)
   have HFl:=Zh hm.lt
   have MR:=hm.M_lt
   have Pk:w.heap.size<=M:=by have:=yR.out.size;omega
   have RU:=Zh (fun X (hX:Below V2.heap.size V2 X)=>jT (hm.below hX) l va vc Za (fun j x hx=>by
    obtain ⟨a',c',e', -, -, -,xm⟩:=HV.out
    injection e' with e1 e2 e3
    obtain ⟨g,o,ea,hg,hc⟩:=xm j x hx
    refine ⟨g,o,e1.trans ea,?_,fun hF=>?_,fun i u hu=>?_⟩
    ·have:=Ax.out.size
     have:=hX.size
     omega
    ·have:=(HFl.out _ hF).1
     omega
    ·exact (hX.cell (p:=⟨g,_,none⟩) (by have:=Ax.out.size;show g<V2.heap.size;omega)).trans ((Ax.out.cell (p:=⟨g,_,none⟩) hg).trans (hc i u hu))) wY)
   have Nn:=Zh hm
   have Hw:=Zh MH
   clear hm xA NW i0 i1 i2 i3 wY MH
   go_wp2_with fail
   go_at_call 9
   refine (RU.out _ ZG).mono ?_
   rintro e V3 ⟨rfl,hD⟩
   have Ji:=Zh (hD.ahead HFl.out MR ZG)
   clear hD RU
   go_wp2_with fail
   go_loopw [17] (fun v17 wz=> ∃(t:Nat) (s:MSt),v17=iI t/\t<=n/\MacD V2 M F bs s wz/\Q t s) (fun v17 _=>n-(intOf v17).toNat)
   case atStart=>exact ⟨0,_,rfl,by omega,Ji.out,Hw.out⟩
   case round=>
    obtain ⟨t,s,rfl,ht,hD,hQ⟩:=hrel
    clear Ji
    by_cases BM:t<n
    ·obtain ⟨s',hr,MI⟩:=FG.out.one t s BM hQ
     have C9:(t:Int)<n:=by omega
     have FY:IntKind.i64.wrap ((t:Int)+1)=(t:Int)+1:=aR Za Za
     have F9:RowC (wr.alloc (.cells #[iI 1,iI t,iI 21000] 43)) wr.heap.size ([((1:Int),(t:Int),(21000:Int))].flatMap spC):=fun j u hu=>by
      rw [aa (zab _ _)]
      simpa [spC] using hu
     have RU:=Zh (jU (hD.mac.below (ab (zaa _ _) _)) [(1,(t:Int),21000)] wr.heap.size 1 Zg ZF (fun hF=>by have:=(hD.mac.lt _ hF).2;omega) F9 hr)
     have HD:=Zh hD
     have HQ':=Zh MI
     clear F9 hr hD hQ MI
     go_wp2_with fail
     go_at_call 9
     refine RU.out.mono ?_
     rintro e V4 ⟨rfl,M1⟩
     have QC:=Zh (HD.out.next HFl.out MR (M1.ahead HD.out.mac.lt HD.out.mac.M_lt (ab (zaa _ _) _)))
     clear M1 RU
     go_wp2_with fail
     exact ⟨⟨t+1,s',by simp,by omega,QC.out,HQ'.out⟩,by simp [intOf];omega⟩
    ·have Iw:t=n:=by omega
     have C9: ¬(t:Int)<n:=by omega
     rw [Iw] at hQ C9 ⊢
     have FN:=Zh (FG.out.fin s hQ)
     have HD:=Zh hD
     have Io:=Zh (aI Ax.out hD.kp (fun q hq=>by have:=(HFl.out q hq).1;omega))
     have F4:0<s.size:=by
      rw [FN.out.size]
      have:0<2^z:=Nat.pow_pos Za
      omega
     have PV:=Zh F4
     clear hD hQ ht BM Iw F4 f1
     go_wp2_with fail
     go_at_call 10
     refine (kS HD.out.mac PV.out (fun x hx=>by
      obtain ⟨i,hi⟩:=List.getElem?_of_mem hx
      have:=(FN.out.th i x hi).2.1
      omega)).mono ?_
     rintro e V6 ⟨v1,g2,c2,g3,c3,ps,rfl,G0,zm,Ag,Kb,yB,D7,Dd,y9,Fy,IZ⟩
     obtain ⟨ys,Li⟩:=ydg FN.out
     rw [Li,Nk.out] at zm
     obtain ⟨a1,rfl,hx⟩:=zm
     obtain ⟨g1,rfl,xy, -,zS⟩: ∃g,a1=aA g/\g<V6.heap.size/\True/\RowC V6 g (.int .u8 (q0:Int)::ys):=by
      rcases hx with ⟨-,h⟩|⟨g,h1,h2, -,h3⟩
      ·cases h
      ·exact ⟨g,h1,h2,trivial,h3⟩
     have q1:V6.cell? (aB g1 0)=some (.int .u8 (q0:Int)):=zS 0 _ rfl
     rw [FN.out.len] at*
     have Qy:Hid (∀t,t<n->V6.cell? (aB g3 t)=some (iI 1)):=Zh (fun t ht=>by
      obtain ⟨x,hx⟩: ∃x,s.ts[t]?=some x:=⟨_,zaC (by rw [FN.out.len];exact ht)⟩
      rw [Fy t (iI 1) (by simp [endsL,hx,(FN.out.th t x hx).1])])
     have P6:Hid (∀t,t<n-> ∃(x:TD) (g:Nat),s.ts[t]?=some x/\g<V6.heap.size/\V6.cell? (aB g2 t)=some (.slice (aA g) k k)/\ ∀j u,x.prints[j]?=some u->V6.cell? (aB g j)=some (.int .u64 (u:Nat))):=Zh (fun t ht=>by
      obtain ⟨x,hx⟩: ∃x,s.ts[t]?=some x:=⟨_,zaC (by rw [FN.out.len];exact ht)⟩
      obtain ⟨u,hu⟩: ∃u,ps[t]?=some u:=⟨_,zaC (by rw [Dd];exact ht)⟩
      obtain ⟨g,rfl,hg,hc⟩:=sY (IZ t x u hx hu) (FN.out.th t x hx).2.1 Za
      exact ⟨x,g,hx,hg,y9 t _ hu,hc⟩)
     have Lc:=Zh (an Io.out G0 Io.out.size)
     have hL:0<(Value.int .u8 (q0:Int)::ys).length:=by simp
     generalize (Value.int .u8 (q0:Int)::ys).length=L at*
     clear G0 hx zS y9 Fy IZ Dd Li HD
     go_upto_region 19 with fail
     refine aS (R:=fun X=>X.heap.size=V6.heap.size+1/\Below V6.heap.size V6 X/\X.heap[V6.heap.size]?=some (.cells #[.slice (aA g1) L L,.slice (aA g2) n c2,.slice (aA g3) n c3] 48 (0,0))) ⟨ar _ _,ab (zaa _ _) _,zab _ _⟩ ?_
     rintro X0 ⟨xx,yb,MN⟩
     go_upto_region 20 with (first|((with_reducible refine oT ?_ ?_ ?_);rfl;rfl;go_frame)|((with_reducible refine oU ?_ ?_ ?_);rfl;rfl;go_frame)|((with_reducible refine oQ (b:=X0.heap.size) _ _ ?_ rfl ?_ ?_ ?_ ?_);rfl;rfl;rfl;rfl;go_frame))
     refine aS (R:=fun X=>Below V6.heap.size V6 X/\X.heap[V6.heap.size]?=some (.cells #[.slice (aA g1) L L,.slice (aA g2) n c2,.slice (aA g3) n c3] 48 (0,0))/\ ∃cs,X.heap[V6.heap.size+1]?=some (.cells cs 50 (0,0))/\ ∀y,y<20->cs[y]?=some (.bool false)) ⟨an yb (ab (zaa _ _) _),(zac _ _ Za).trans MN,snC,aH xx.symm,rN⟩ ?_
     rintro X ⟨IR,hO,cs,hS,xG⟩
     rw [xx]
     have o0:X.cell? (aB V6.heap.size 0)=some (.slice (aA g1) L L):=aa hO 0
     have r1:X.cell? (aB g1 0)=some (.int .u8 (q0:Int)):=(IR.cell (p:=⟨g1,0,none⟩) xy).trans q1
     have HO:=Zh hO
     have Nu:=Zh IR
     have HX:=Zh (an Lc.out IR Lc.out.size)
     have HS:=Zh hS
     have QD:=Zh xG
     have HSl:=Zh (ac hS)
     have yG: ¬L=0:=by omega
     have yI:(0:Int)<(L:Int):=by omega
     have RC:((L:Int)==0)=false:=by simp;omega
     clear IR hO hS xG q1 xx yb MN
     go_wp2_with fail
     go_loopw [20] (fun v20 wz=> ∃t:Nat,v20=iI t/\t<=n/\SnA X wz (V6.heap.size+1) s.ts t 0) (fun v20 _=>n-(intOf v20).toNat)
     case atStart=>exact ⟨0,rfl,by omega,fun _=>false,cs,Kp.of_below (zaa _ _),HS.out,QD.out,fun y h=>by cases h⟩
     case round=>
      obtain ⟨t,rfl,ht,hn⟩:=hrel
      have HN:=Zh hn
      have hk:=hn.kp
      clear hn
      by_cases BM:t<n
      ·obtain ⟨x,g,hx,hg,hp,LG⟩:=P6.out t BM
       have C9:(t:Int)<n:=by omega
       have FY:IntKind.i64.wrap ((t:Int)+1)=(t:Int)+1:=aR Za Za
       have up: ∀(W:qW),Kp (fun q=>q=V6.heap.size+1) X W-> ∀(q i:Nat) u,q<V6.heap.size->V6.cell? (aB q i)=some u->W.cell? (aB q i)=some u:=fun W hk q i u hq hu=>by
        have:=Nu.out.size
        exact (hk.cell Za Za).trans ((Nu.out.cell (p:=⟨q,i,none⟩) hq).trans hu)
       have D9: ∀W,Kp (fun q=>q=V6.heap.size+1) X W->_:=fun W (hk:Kp (fun q=>q=V6.heap.size+1) X W)=>(hk.block V6.heap.size (ac HO.out) Za).trans HO.out
       have o1:wr.cell? (aB V6.heap.size 1)=some (.slice (aA g2) n c2):=aa (D9 _ hk) 1
       have o2:wr.cell? (aB V6.heap.size 2)=some (.slice (aA g3) n c3):=aa (D9 _ hk) 2
       have re:=up _ hk g3 t _ Kb.2 (Qy.out t BM)
       have rp:=up _ hk g2 t _ Ag.2 hp
       have P7:=Zh LG
       have FE:=Zh hx
       have HG:=Zh hg
       have HP:=Zh hp
       have Ct:=Zh D9
       have UP:=Zh up
       clear hk D9 up hp LG hx r1 o0 hg
       go_wp2_with fail
       clear o1 o2 re rp
       generalize wr=wy at*
       go_loopw [21] (fun v21 wz=> ∃j:Nat,v21=iI j/\j<=k/\SnA X wz (V6.heap.size+1) s.ts t j) (fun v21 _=>k-(intOf v21).toNat)
       case atStart=>exact ⟨0,rfl,by omega,HN.out⟩
       case round=>
        clear HN
        obtain ⟨j,rfl,hj,hn⟩:=hrel
        have HN:=Zh hn
        clear hn
        by_cases zQ:j<k
        ·obtain ⟨u,hu⟩: ∃u,x.prints[j]?=some u:=⟨_,zaC (by rw [(FN.out.th t x FE.out).2.1];exact zQ)⟩
         have ND:u<q0:=Nk.out ▸ (FN.out.th t x FE.out).2.2.2 u (zat hu)
         obtain ⟨su,sf,hk⟩:=HN.out.cell FN.out FE.out hu Za
         have o1:wr.cell? (aB V6.heap.size 1)=some (.slice (aA g2) n c2):=aa (Ct.out _ hk) 1
         have rp:=UP.out _ hk g2 t _ Ag.2 HP.out
         have ru:=UP.out _ hk g j _ HG.out (P7.out j u hu)
         have EC:(j:Int)<k:=by omega
         have Cb:IntKind.i64.wrap ((j:Int)+1)=(j:Int)+1:=aR Za Za
         have Rg:IntKind.u64.wrap (q0:Int)=(q0:Int):=by
          simp [IntKind.wrap,IntKind.bits,IntKind.signed]
          omega
         have Bb: ¬(q0:Int)<=(u:Int):=by omega
         have NF:(u:Int)<20:=by omega
         have NG:u<20:=by omega
         have Dw:=Zh (HN.out.set FE.out hu NG)
         clear hk hu ND
         go_wp2_with fail
         exact ⟨⟨j+1,by simp,by omega,Dw.out⟩,by simp [intOf];omega⟩
        ·have EC: ¬(j:Int)<k:=by omega
         have ED:j=k:=by omega
         have Dw:=Zh (ED ▸ HN.out:SnA X wr (V6.heap.size+1) s.ts t k).next
         clear ED
         go_wp2_with fail
         exact ⟨⟨t+1,by simp,by omega,Dw.out⟩,by simp [intOf];omega⟩
      ·have C9: ¬(t:Int)<n:=by omega
       have La:=Zh (aI HX.out hk (fun q e=>by have:=Lc.out.size;omega))
       clear hk
       go_wp2_with fail
       refine (iV _ (yo.below La.out)).mono ?_
       rintro e V9 ⟨rfl,E5⟩
       have Lb:=Zh (an La.out E5 La.out.size)
       clear E5
       go_wp2_with fail
       go_ret
       exact ⟨rfl,Lb.out⟩
theorem yea(w:qW)(yo:SpT w)(x0 x1 x2:Nat)(b0:x0<256)(b1:x1<256)(b2:x2<256)(v:qV)(l:List (Int×Int×Int))(hv:InS w v l):
  qC 3 #[.int .u8 x0,.int .u8 x1,.int .u8 x2,v] w fun e w'=>e= .returned (.bool true)/\Below w.heap.size w w':=by
 cases hf:fewL l 0
 ·have FW:Hid (∀W,Below w.heap.size w W->qC 4 #[v] W fun e w'=>e= .returned (.bool false)/\Below W.heap.size W w'):=Zh (fun W hW=>by
   have:=mX W v l (hv.below hW)
   rwa [hf] at this)
  obtain ⟨va,vc,rfl, -⟩:=hv
  clear hf
  go_enter Tryz.func3,Tryz.ntmps3
  go_wp2_with fail
  refine (FW.out _ ZG).mono ?_
  rintro e w1 ⟨rfl,Av⟩
  have zl:=Zh Av
  clear Av
  go_wp2_with fail
  refine (iV _ (yo.below zl.out)).mono ?_
  rintro e V9 ⟨rfl,E5⟩
  have Lb:=Zh (an zl.out E5 zl.out.size)
  clear E5
  go_wp2_with fail
  go_ret
  exact ⟨rfl,Lb.out⟩
 ·obtain ⟨HR,AR, -⟩:=nA (z:=x2%4) (k:=x1%3+1) (n:=x0%3+1) Za Za Za
  exact yeb w yo x0 x1 x2 b0 b1 b2 v l hv _ _ _ rfl rfl rfl _ _ _ rfl HR AR _ (yd0 Za Za Za) hf
end
end Go.Proofs.YtjmfoeajhiimnaaGreatDoor
