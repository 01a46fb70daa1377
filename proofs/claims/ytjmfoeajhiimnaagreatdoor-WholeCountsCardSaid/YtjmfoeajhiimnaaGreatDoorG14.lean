/- Walks. No condition. -/
import Derived.OrdersHeld
import Derived.Deep.RegionHeld3
import Derived.Test.YtjmfoeajhiimnaaGreatDoorG13
set_option maxRecDepth 100000
set_option maxHeartbeats 0
set_option linter.all false
namespace Go.Proofs.YtjmfoeajhiimnaaGreatDoor
open Go.RowKit Go.Sort
section
variable{w:qW}{k n i:Nat}{cs:Array qV}{t:TypeId}
@[go_sem] theorem aN(w:qW)(k:Nat)(cs:Array qV)(t:TypeId):(putB w k cs t).heap.size=w.heap.size:=by simp [putB]
theorem aM(w:qW)(k n:Nat)(cs:Array qV)(t:TypeId):(putB w k cs t).heap[n]?=if n=k then (if k<w.heap.size then some (.cells cs t (0,0)) else none) else w.heap[n]?:=by
 by_cases h:n=k
 ·subst h
  by_cases h2:n<w.heap.size<;>simp [putB,h2]
 ·simp [putB,h,zaT,show¬k=n from fun e=>h e.symm]
@[go_sem] theorem dc(w:qW)(k n i:Nat)(cs:Array qV)(t:TypeId):(putB w k cs t).cell? ⟨n,i,none⟩=if n=k then (if k<w.heap.size then cs[i]? else none) else w.cell? ⟨n,i,none⟩:=by
 unfold World.cell?
 rw [aM]
 by_cases h:n=k
 ·by_cases h2:k<w.heap.size<;>simp [h,h2]
 ·simp [h]
@[go_sem] theorem yfN(w:qW)(k n i:Nat)(cs:Array qV)(t:TypeId):(putB w k cs t).frozen? ⟨n,i,none⟩=if n=k then false else w.frozen? ⟨n,i,none⟩:=by
 unfold World.frozen?
 rw [aM]
 by_cases h:n=k
 ·by_cases h2:k<w.heap.size<;>simp [h,h2]
 ·simp [h]
@[go_sem] theorem yfL(w:qW)(k n i:Nat)(cs:Array qV)(t:TypeId)(v:qV):(putB w k cs t).setCell ⟨n,i,none⟩ v=if n=k then putB w k (cs.setIfInBounds i v) t else putB (w.setCell ⟨n,i,none⟩ v) k cs t:=by
 unfold putB World.setCell
 by_cases h:n=k
 ·subst h
  rw [if_pos rfl]
  simp only
  congr 1
  apply Array.ext_getElem?
  intro j
  rw [Array.getElem?_modify,zaT,zaT]
  by_cases hj:n=j
  ·subst hj
   by_cases h2:n<w.heap.size<;>simp [h2]
  ·simp [hj]
 ·rw [if_neg h]
  simp only
  congr 1
  apply Array.ext_getElem?
  intro j
  rw [Array.getElem?_modify,zaT,zaT,Array.getElem?_modify]
  by_cases hj:k=j
  ·subst hj
   by_cases h2:k<w.heap.size<;>simp [h2,h]
  ·by_cases h3:n=j<;>simp [hj,h3]
theorem ar(w:qW)(o:Obj):(w.alloc o).heap.size=w.heap.size+1:=by simp
theorem dx(w:qW):w.drew.heap.size=w.heap.size:=rfl
theorem Zz:(∀(w:qW) (o:Obj),(w.alloc o).heap.size=w.heap.size+1)/\(∀(w:qW) (k:Nat) (cs:Array qV) (t:TypeId),(putB w k cs t).heap.size=w.heap.size)/\(∀w:qW,w.drew.heap.size=w.heap.size)/\(∀(w:qW) (p:Regrown),(more w p).heap.size=w.heap.size+p.os.size):=⟨ar,aN,dx,aZ⟩
def allocB(w:qW)(k:Nat)(cs:Array qV)(t:TypeId)(o:Obj):qW:=(putB w k cs t).alloc o
@[go_sem] theorem yfQ(w:qW)(k:Nat)(cs:Array qV)(t:TypeId)(o:Obj):(putB w k cs t).alloc o=if k<w.heap.size then putB (w.alloc o) k cs t else allocB w k cs t o:=by
 by_cases h:k<w.heap.size
 ·rw [if_pos h]
  unfold putB World.alloc
  simp only
  congr 1
  apply Array.ext_getElem?
  intro j
  simp only [Array.getElem?_push,Array.size_setIfInBounds,zaT,Array.size_push]
  by_cases hj:k=j
  ·subst hj
   simp [h,show¬k=w.heap.size by omega,show k<w.heap.size+1 by omega]
  ·simp [hj]
 ·rw [if_neg h];rfl
def moreB(w:qW)(k:Nat)(cs:Array qV)(t:TypeId)(p:Regrown):qW:=more (putB w k cs t) p
@[go_sem] theorem yfM(w:qW)(k:Nat)(cs:Array qV)(t:TypeId)(p:Regrown):more (putB w k cs t) p=if k<w.heap.size then putB (more w p) k cs t else moreB w k cs t p:=by
 by_cases h:k<w.heap.size
 ·rw [if_pos h]
  unfold putB more grow redrawn
  simp only
  congr 1
  apply Array.ext_getElem?
  intro j
  simp only [Array.getElem?_append,Array.size_setIfInBounds,zaT,Array.size_append]
  by_cases hj:k=j
  ·subst hj
   simp [h,show k<w.heap.size+p.os.size by omega]
  ·simp [hj]
 ·rw [if_neg h];rfl
@[go_sem] theorem yfP(w:qW)(k:Nat)(cs:Array qV)(t:TypeId):(putB w k cs t).drew=putB w.drew k cs t:=rfl
@[go_sem] theorem yfO(w:qW)(k m:Nat)(cs:Array qV)(t:TypeId):(putB w k cs t).drewN m=putB (w.drewN m) k cs t:=rfl
theorem ch(w:qW)(p:Regrown)(n:Nat)(h:n<w.heap.size):(more w p).heap[n]?=w.heap[n]?:=(au w p).block n h
end
theorem Kp.putB{X:Nat->Prop}{a b:qW}(h:Kp X a b){k:Nat}(hk:k<a.heap.size->X k)(cs:Array qV)(t:TypeId):Kp X a (putB b k cs t):=
 ⟨h.os,h.tape,h.output,by rw [aN];exact h.size,fun i hi hx=>by
  rw [aM,if_neg (fun e=>hx (by subst e;exact hk hi))]
  exact h.block i hi hx⟩
theorem Kp.alloc{X:Nat->Prop}{a b:qW}(h:Kp X a b)(o:Obj):Kp X a (b.alloc o):=h.trans (Kp.al _ o)
theorem Kp.more{X:Nat->Prop}{a b:qW}(h:Kp X a b)(p:Regrown):Kp X a (more b p):=h.trans (Kp.mo _ p)
theorem Kp.drew{X:Nat->Prop}{a b:qW}(h:Kp X a b):Kp X a b.drew:=h.trans (Kp.dr _)
theorem Kp.own{P:Nat}{a b:qW}(h:Kp (·=P) a b){k:Nat}(hk:a.heap.size<=k)(cs:Array qV)(t:TypeId):Kp (·=P) a (Go.Proofs.YtjmfoeajhiimnaaGreatDoor.putB b k cs t):=h.putB (fun h=>by omega) cs t
theorem PAt.putB{w:qW}{P k:Nat}{s:PS}(h:PAt w P s)(hk:P<k)(cs:Array qV)(t:TypeId):PAt (putB w k cs t) P s:=h.keep ((Kp.refl _ _).putB (fun _=>hk) cs t)
theorem PAt.alloc{w:qW}{P:Nat}{s:PS}(h:PAt w P s)(o:Obj):PAt (w.alloc o) P s:=h.keep (Kp.al _ o)
theorem PAt.drew{w:qW}{P:Nat}{s:PS}(h:PAt w P s):PAt w.drew P s:=h.keep (Kp.dr _)
abbrev Fz(lo hi:Nat):Nat->Prop:=fun b=>lo<=b/\b<hi
theorem ExAt.turn{w w':qW}{P lo hi lo' Bg n:Nat}{e:Ex}{cs:List qV}(h:ExAt w (Fz lo hi) n e cs)(hk:Kp (·=P) w w')(hP:P<lo)(h1:lo'<=lo)(h2:hi<=Bg):ExAt w' (Fz lo' Bg) n e cs:=
 ExAt.keep hk.size (fun b hb hl=>⟨⟨by omega,by omega⟩,hk.block b hl Za⟩) n e cs h
theorem ExAt.lo{w:qW}{lo hi lo' n:Nat}{e:Ex}{cs:List qV}(h:ExAt w (Fz lo hi) n e cs)(h1:lo'<=lo):ExAt w (Fz lo' hi) n e cs:=ExAt.keep (zaq _) (fun b hb _=>⟨⟨by omega,hb.2⟩,rfl⟩) n e cs h
theorem At.alloc{P:Nat}{w W:qW}{s:PS}(h:At P w W s)(o:Obj):At P w (W.alloc o) s:=⟨h.kp.alloc o,h.pt.alloc o,h.lt⟩
theorem At.drew{P:Nat}{w W:qW}{s:PS}(h:At P w W s):At P w W.drew s:=⟨h.kp.drew,h.pt.drew,h.lt⟩
theorem At.own{P:Nat}{w W:qW}{s:PS}(h:At P w W s){k:Nat}(hk:w.heap.size<=k)(cs:Array qV)(t:TypeId):At P w (putB W k cs t) s:=⟨h.kp.own hk cs t,h.pt.putB (by have:=h.lt;omega) cs t,h.lt⟩
theorem Kp.peel{X:Nat->Prop}{W w2:qW}{k:Nat}{cs:Array qV}{t:TypeId}(h:Kp X (Go.Proofs.YtjmfoeajhiimnaaGreatDoor.putB W k cs t) w2)(hk:k<W.heap.size:=by (try simp only [ar,aN,dx]);omega)(hX: ¬X k:=by (try simp only [ar,aN,dx]);omega):w2=Go.Proofs.YtjmfoeajhiimnaaGreatDoor.putB w2 k cs t/\k<w2.heap.size/\Kp (fun b=>X b\/b=k) W w2:=by
 have h1:=h.block k (by rw [aN];exact hk) hX
 rw [aM,if_pos rfl,if_pos hk] at h1
 refine ⟨(bE h1).symm,ac h1,h.os,h.tape,h.output,by have:=h.size;rwa [aN] at this,fun i hi hx=>?_⟩
 have:=h.block i (by rw [aN];exact hi) (fun e=>hx (.inl e))
 rw [aM,if_neg (fun e=>hx (.inr e))] at this
 exact this
theorem Kp.peelA{X:Nat->Prop}{W w2:qW}{cs:Array qV}{t:TypeId}(h:Kp X (W.alloc (.cells cs t)) w2)(hX: ¬X W.heap.size:=by (try simp only [ar,aN,dx]);omega):w2=Go.Proofs.YtjmfoeajhiimnaaGreatDoor.putB w2 W.heap.size cs t/\W.heap.size<w2.heap.size/\Kp X W w2:=by
 have h1:=h.block W.heap.size Zg hX
 rw [zab] at h1
 have hs:=h.size
 simp at hs
 refine ⟨(bE h1).symm,ac h1,h.os,h.tape,h.output,by omega,fun i hi hx=>?_⟩
 have:=h.block i Zk hx
 rw [zac _ _ hi] at this
 exact this
theorem ExAt.own{w:qW}{lo hi n k:Nat}{e:Ex}{cs:List qV}(h:ExAt w (Fz lo hi) n e cs)(hk:k<lo\/hi<=k){c:Array qV}{t:TypeId}:ExAt (putB w k c t) (Fz lo hi) n e cs:=
 ExAt.keep (by rw [aN];exact zaq _) (fun b hb _=>⟨hb,by rw [aM,if_neg (by have:=hb.1;have:=hb.2;omega)]⟩) n e cs h
theorem ExAt.alloc{w:qW}{lo hi n:Nat}{e:Ex}{cs:List qV}(h:ExAt w (Fz lo hi) n e cs){o:Obj}:ExAt (w.alloc o) (Fz lo hi) n e cs:=
 ExAt.keep Zg (fun b hb hl=>⟨hb,zac _ _ hl⟩) n e cs h
theorem ExAt.drew{w:qW}{lo hi n:Nat}{e:Ex}{cs:List qV}(h:ExAt w (Fz lo hi) n e cs):ExAt w.drew (Fz lo hi) n e cs:=ExAt.keep (w:=w) (w':=w.drew) (zaq w.heap.size) (fun b hb hl=>⟨hb,rfl⟩) n e cs h
theorem ExAt.same{w w':qW}{P lo hi n:Nat}{e:Ex}{cs:List qV}(h:ExAt w (Fz lo hi) n e cs)(hk:Kp (·=P) w w')(hP:P<lo:=by (try simp only [ar,aN,dx]);omega):ExAt w' (Fz lo hi) n e cs:=h.turn hk hP (zaq _) (zaq _)
theorem ExAt.wide{w:qW}{lo hi lo' Bg n:Nat}{e:Ex}{cs:List qV}(h:ExAt w (Fz lo hi) n e cs)(h1:lo'<=lo)(h2:hi<=Bg):ExAt w (Fz lo' Bg) n e cs:=ExAt.keep (zaq _) (fun b hb _=>⟨⟨by omega,by omega⟩,rfl⟩) n e cs h
def ParX(P n:Nat)(w:qW)(r:Ex×PS)(e:Ending)(w':qW):Prop:=
 ∃pa pc ka kc,e= .returned (.agg #[iI r.1.kind,.int .u64 r.1.n,.string r.1.name,iI r.1.op,iI r.1.order,.string r.1.var,.slice pa r.1.parts.length pc,.slice ka r.1.kids.length kc])/\Kp (·=P) w w'/\PAt w' P r.2/\
  ExAt w' (Fz w.heap.size w'.heap.size) n r.1 [iI r.1.kind,.int .u64 r.1.n,.string r.1.name,iI r.1.op,iI r.1.order,.string r.1.var,.slice pa r.1.parts.length pc,.slice ka r.1.kids.length kc]
def HEx(P n:Nat)(pe:PE):Prop:= ∀(w:qW) (s:PS) (d:Int) (r:Ex×PS),PAt w P s->0<=d->d<=1000->pe d s=some r->qC 72 #[pP P,iI d] w (ParX P n w r)
theorem m9{w:qW}{lo hi k n:Nat}{x:Ex}{cs:List qV}(h:ExAt w (Fz lo hi) n x cs)(hk:w.heap[k]?=some (.cells cs.toArray 192 (0,0)))(h8:cs.length=8)(h1:lo<=k)(h2:k<hi):RwAt w (Fz lo hi) 8 (ExAt w (Fz lo hi) n) (.slice (aA k) 1 1) [x]:=
 RwAt.one hk ⟨h1,h2⟩ (by simpa using h8) (by simpa using h)
theorem ydq{w:qW}{ok:Nat->Prop}{k n:Nat}{x y:Ex}{cx cy:List qV}(h:ExAt w ok n x cx)(h':ExAt w ok n y cy)(hk:w.heap[k]?=some (.cells (cx++cy).toArray 192 (0,0)))(h8:cx.length=8)(Py:cy.length=8)(xr:ok k):RwAt w ok 8 (ExAt w ok n) (.slice (aA k) 2 2) [x,y]:=by
 refine ⟨_,2,by simp,by simp,by omega,fun _=>⟨k,0,rfl,xr,ac hk,fun i z hi=>?_⟩⟩
 match i,hi with
 |0,hi=>
  simp at hi
  subst hi
  refine ⟨cx,h8,h,fun j v hj=>?_⟩
  have hl:=(List.getElem?_eq_some_iff.1 hj).1
  rw [aa hk]
  simpa [zah hl] using hj
 |1,hi=>
  simp at hi
  subst hi
  refine ⟨cy,Py,h',fun j v hj=>?_⟩
  rw [aa hk]
  have:(cx++cy)[8+j]?=some v:=by rw [zai Za];simpa [h8] using hj
  simpa using this
theorem gA(k:Int)(hk:k≠0)(s:PS):pBad (pFail k s)=true:=by
 unfold pFail
 cases h:pBad s
 ·simp [pBad,hk]
 ·simp [h]
theorem vm(s:qB):0<=operator s/\operator s<=11:=by
 unfold operator look
 cases h:operW.find? (fun x=>eqB x.1 s) with
 |none=>simp
 |some x=>
  have hm:=List.mem_of_find?_eq_some h
  have: ∀y∈operW,0<=y.2/\y.2<=11:=by decide
  simpa using this x hm
theorem ydr:(Tryz.prog.info? 192).map (fun i=>(i.zero,i.size,i.bytes))=some (some (.agg #[iI 0,.int .u64 0,.string ⟨#[]⟩,iI 0,iI 0,.string ⟨#[]⟩,.slice none 0 0,.slice none 0 0]),8,112):=by kernel_rfl
theorem At.grow0{P:Nat}{w W W':qW}{s:PS}(h:At P w W s)(hg:W.grownBy W' none):At P w W' s/\Kp (·=P) W W':=by
 have hk:Kp (fun _=>False) W W':=(Kp.of_grown hg).mono (fun k _ e=>by cases e)
 exact ⟨⟨h.kp.next hk (fun _ _ e=>e.elim),h.pt.keep (hk.mono (fun _ _ e=>e.elim)),h.lt⟩,hk.mono (fun _ _ e=>e.elim)⟩
theorem cM{d:Int}(h0:0<=d)(h1:d<=1000):IntKind.i64.wrap (d+1)=d+1:=by
 rw [IntKind.wrap_i64]
 omega
theorem ax{w w':qW}{B n s:Nat}{e:TypeId}{v:qV}{xs:List qV}(h:w.ownsRow B e s v n xs)(hb: ∀g,v.ownBlock=some g->w'.heap[g]?=w.heap[g]?):w'.ownsRow B e s v n xs:=by
 refine ⟨h.1,?_⟩
 rcases h.2 with h1|⟨g,cap,cur,rfl,h2,h3,h4⟩
 ·exact .inl h1
 ·exact .inr ⟨g,cap,cur,rfl,h2,(hb g rfl).trans h3,h4⟩
theorem gB{w:qW}{B n s k:Nat}{e:TypeId}{v:qV}{xs:List qV}(h:w.ownsRow B e s v n xs)(hk:v.ownBlock≠some k){cs:Array qV}{t:TypeId}:(putB w k cs t).ownsRow B e s v n xs:=
 ax h fun g hg=>by rw [aM,if_neg (fun e=>hk (by rw [hg,e]))]
theorem gC{w:qW}{B n s:Nat}{e:TypeId}{v:qV}{xs:List qV}(h:w.ownsRow B e s v n xs):w.drew.ownsRow B e s v n xs:=h
theorem ai{X:Nat->Prop}{w w':qW}{B n s:Nat}{e:TypeId}{v:qV}{xs:List qV}(h:w.ownsRow B e s v n xs)(hk:Kp X w w')(hX: ∀g,v.ownBlock=some g-> ¬X g):w'.ownsRow B e s v n xs:=
 ax h fun g hg=>hk.block g (h.lt g hg).2 (hX g hg)
theorem own_lt{w:qW}{B n s:Nat}{e:TypeId}{v:qV}{xs:List qV}(h:w.ownsRow B e s v n xs)(g:Nat)(hg:v.ownBlock=some g):B<=g/\g<w.heap.size:=h.lt g hg
theorem ir{s:Nat}: ∀(css:List (List qV)),(∀c∈css,c.length=s)-> ∀(i:Nat) (c:List qV),css[i]?=some c-> ∀j,j<s->css.flatten[i*s+j]?=c[j]?
 |[],_,i,c,h,_,_=>by simp at h
 |x::r,hl,0,c,h,j,hj=>by
  have hx:x.length=s:=hl x Zg
  simp at h
  subst h
  simp [zah (show j<x.length by omega)]
 |x::r,hl,i+1,c,h,j,hj=>by
  have hx:x.length=s:=hl x Zg
  rw [List.flatten_cons,zai (by rw [hx,Nat.add_mul];omega),hx,show (i+1)*s+j-s=i*s+j by rw [Nat.add_mul];omega]
  exact ir r (fun c hc=>hl c (by simp [hc])) i c (by simpa using h) j hj
theorem dH{α:Type}{w:qW}{B n s:Nat}{e:TypeId}{v:qV}{css:List (List qV)}{xs:List α}{ok:Nat->Prop}{El:α->List qV->Prop}(h:w.ownsRow B e s v n css.flatten)(hl: ∀c∈css,c.length=s)(hn:css.length=n)(hx:xs.length=n)
  (hE: ∀(i:Nat) x c,xs[i]?=some x->css[i]?=some c->El x c) (xr: ∀g,v.ownBlock=some g->ok g):RwAt w ok s El v xs:=by
 rcases h.2 with ⟨rfl,h0⟩|⟨g,cap,cur,rfl,h2,h3,h4,h5,h6,h7⟩
 ·rw [h0] at hx
  rw [List.eq_nil_of_length_eq_zero hx]
  exact RwAt.nil _ _ _ _
 ·refine ⟨aA g,cap,by rw [hx],by omega,h5,fun _=>⟨g,0,rfl,xr g rfl,ac h3,fun i x hi=>?_⟩⟩
  have AD:i<n:=by rw [<-hx];exact (List.getElem?_eq_some_iff.1 hi).1
  have L3:i<css.length:=by omega
  have hc:css[i]?=some css[i]:=zaC L3
  have i':css[i].length=s:=hl _ (List.getElem_mem L3)
  refine ⟨css[i],i',hE i x _ hi hc,fun j u hj=>?_⟩
  have J2:j<s:=by rw [<-i'];exact (List.getElem?_eq_some_iff.1 hj).1
  rw [aa h3,zag]
  have hf:css.flatten[i*s+j]?=some u:=by rw [ir css hl i _ hc j J2];exact hj
  have xe:i*s+j<n*s:=by
   have:(i+1)*s<=n*s:=Nat.mul_le_mul_right _ Za
   rw [Nat.add_mul] at this
   omega
  rw [<-h7,List.getElem?_take,if_pos xe] at hf
  simpa using hf
theorem sP{α:Type}{w:qW}{B s:Nat}{e:TypeId}{v:qV}{cs:List qV}{x:α}{ok:Nat->Prop}{El:α->List qV->Prop}(h:w.ownsRow B e s v 1 cs)(hl:cs.length=s)(hE:El x cs)(xr: ∀g,v.ownBlock=some g->ok g):RwAt w ok s El v [x]:=by
 refine dH (css:=[cs]) (n:=1) (B:=B) (e:=e) (by simpa using h) (by simpa using hl) rfl rfl (fun i y c hy hc=>?_) xr
 obtain rfl:i=0:=by have:=(List.getElem?_eq_some_iff.1 hc).1;simpa using this
 simp at hy hc
 subst hy hc
 exact hE
theorem cT{g k:Nat}(h:(Value.slice none 0 0).ownBlock=some g\/g=k):k<=g:=by
 rcases h with h|h
 ·simp [Value.ownBlock] at h
 ·omega
theorem ExAt.grow{w w':qW}{P g lo hi n:Nat}{e:Ex}{cs:List qV}(h:ExAt w (Fz lo hi) n e cs)(hk:Kp (fun k=>k=P\/k=g) w w')(hP:P<lo:=by (try simp only [ar,aN,dx]);omega)(hg:g<lo\/hi<=g:=by (try simp only [ar,aN,dx]);omega):ExAt w' (Fz lo hi) n e cs:=
 ExAt.keep hk.size (fun b hb hl=>⟨hb,hk.block b hl (by have:=hb.1;have:=hb.2;omega)⟩) n e cs h
theorem cX{P:Nat}{w W W':qW}{s:PS}{p:Regrown}(h:At P w W s)(hw:W'=more W p):At P w W' s/\Kp (·=P) W W':=by
 subst hw
 exact ⟨h.mo p,Kp.mo _ _⟩
theorem fh{d:Int}{s:PS}(h:(pDeep d s).1=true):d<=64/\pBad s=false/\pDeep d s=(true,s):=by
 unfold pDeep at*
 simp only at*
 split at h
 ·rename_i hd
  rw [gA 5 Zd] at h
  simp at h
 ·rename_i hd
  rw [if_neg hd]
  have hb:pBad s=false:=by simpa using h
  exact ⟨by omega,hb,by rw [hb];rfl⟩
theorem cf{t:qB}{s:PS}(h:(pIs t s).1=true):pIs t s=(true,pNext s):=by
 unfold pIs at*
 split
 ·simp_all
 ·split<;>simp_all
theorem dX{P:Nat}{s:PS}(w:qW)(h:PAt w P s)(d:Int)(hd:(pDeep d s).1=true):qC 43 #[pP P,iI d] w fun e w'=>e= .returned (.bool true)/\w'=w:=by
 obtain ⟨h1,h2, -⟩:=fh hd
 have HC:=Zh (At.begin h)
 clear h hd
 go_enter Tryz.func43,Tryz.ntmps43
 go_wp2_with (first|(go_at_call 37;refine (bF _ HC.out.pt).mono ?_;rintro e w1 ⟨rfl,rfl⟩))
 go_ret
 exact ⟨rfl,rfl⟩
theorem vi(s:PS):rng (pOrder s).1:=by
 rcases kY s with ⟨-,h⟩|⟨-, -,h⟩|⟨-, -, -,h⟩|⟨-, -, -, -,h⟩|⟨-, -, -, -,h⟩
 all_goals
  rw [h.out]
  unfold rng
  simp
theorem ph{P n:Nat}{pe:PE}(HE:HEx P n pe){s:PS}(w:qW)(h:PAt w P s)(d:Int)(yZ:0<=d)(hd:d<=900)(r:Ex×PS)(hr:pValue pe d s=some r):
  qC 69 #[pP P,iI d] w fun e w'=> ∃v,e= .returned v/\Kp (·=P) w w'/\PAt w' P r.2/\RwAt w' (Fz w.heap.size w'.heap.size) 8 (ExAt w' (Fz w.heap.size w'.heap.size) n) v [r.1]:=by
 have HX:=Zh HE
 have HR:=Zh hr
 have HC:=Zh (At.begin h)
 clear h HE hr
 go_enter Tryz.func69,Tryz.ntmps69
 go_wp2_with (first|(go_at_call 26;refine (cZ _ HC.out.pt _).mono ?_;rintro e w1 ⟨rfl,hT,hP⟩;replace HC:=Zh (HC.out.next hT hP);clear hT hP)|(go_at_call 72;refine (HX.out _ _ _ _ HC.out.pt Za Za HR.out).mono ?_;rintro e w1 ⟨pa,pc,ka,kc,rfl,hT,hP,hx⟩;have HV:=Zh (hx.lo HC.out.kp.size);replace HC:=Zh (HC.out.next hT hP);clear hT hP;clear hx))
 go_ret
 have hs:=HC.out.kp.size
 exact ⟨_,rfl,HC.out.kp.alloc _,HC.out.pt.alloc _,m9 (ExAt.turn HV.out (Kp.al _ _) HC.out.lt (zaq _) Zg) (zab _ _) rfl hs Zg⟩
section
variable{P:Program}{ops:Array Oper}{Q:Exit->Act->qW->Prop}{md:Region.Mode}{S:Array Bool->qW->Prop}{T:qW->Prop}
def wpAnyG(P:Program)(md:Region.Mode)(ops:Array Oper)(Q:Exit->Act->qW->Prop)(S:Array Bool->qW->Prop):Nat->Array Bool->Act->qW->Prop
 |0,listed,a,w=>Region.ready md ops listed=[]/\Q .normal a w
 |fuel+1,listed,a,w=>
  (Region.ready md ops listed=[]->Q .normal a w)/\
  ∀i∈Region.ready md ops listed,wpOp P ops Q i (fun a' w'=>S (listed.setIfInBounds i true) w'/\wpAnyG P md ops Q S fuel (listed.setIfInBounds i true) a' w') a w
theorem iT: ∀(fuel:Nat) (listed:Array Bool) (a:Act) (w:qW),wpAnyG P md ops Q S fuel listed a w->wpAny P md ops Q fuel listed a w
 |0,_,_,_,h=>h
 |fuel+1,_,_,_,h=>⟨h.1,fun i hi=>wpOp_mono (fun a' w' h'=>iT fuel _ a' w' h'.2) (h.2 i hi)⟩
def Closed(md:Region.Mode)(ops:Array Oper)(listed:Array Bool):Prop:= ∀j o,ops[j]?=some o->listed.getD j false=true-> ∀e∈o.after,Region.binds md e=true->listed.getD e.on false=true
def closedB(md:Region.Mode)(ops:Array Oper)(listed:Array Bool):Bool:=ops.toList.zipIdx.all fun x=>!listed.getD x.2 false||x.1.after.all fun e=>!Region.binds md e||listed.getD e.on false
theorem iH{listed:Array Bool}(h:closedB md ops listed=true):Closed md ops listed:=by
 intro j o hj hl e he hb
 have h1:=List.all_eq_true.1 h (o,j) (by rw [List.mem_zipIdx_iff_getElem?];simpa using hj)
 simp only [hl,Bool.not_true,Bool.false_or,Array.all_eq_true_iff_forall_mem] at h1
 have:=h1 e he
 simpa [hb] using this
theorem rW{listed:Array Bool}{i j:Nat}(h:(listed.setIfInBounds i true).getD j false=true):listed.getD j false=true\/j=i:=by
 by_cases Ao:i=j
 ·exact .inr Ao.symm
 ·rw [getD_set_ne false Ao] at h
  exact .inl h
theorem Closed.set{listed:Array Bool}(h:Closed md ops listed){j:Nat}(hj:j∈Region.ready md ops listed):Closed md ops (listed.setIfInBounds j true):=by
 intro k o hk hl e he hb
 rcases rW hl with h1|h1
 ·exact getD_set_true (h k o hk h1 e he hb)
 ·subst h1
  obtain ⟨-,o',LK,xw⟩:=mem_ready.1 hj
  rw [hk] at LK
  cases LK
  exact getD_set_true (xw e he hb)
def pathB(md:Region.Mode)(ops:Array Oper):List Nat->Bool
 |i::k::r=>((ops[k]?).map (fun o=>o.after.any (fun e=>Region.binds md e&&e.on==i))).getD false&&pathB md ops (k::r)
 |_=>true
theorem kE{listed:Array Bool}(h:Closed md ops listed): ∀(r:List Nat) (i:Nat),pathB md ops (i::r)=true->listed.getD i false=false->listed.getD ((i::r).getLast Zg) false=false
 |[],i,_,hi=>by simpa using hi
 |k::r,i,hp,hi=>by
  simp only [pathB,za0] at hp
  rw [List.getLast_cons Zg]
  refine kE h r k hp.2 ?_
  cases hk:ops[k]? with
  |none=>simp [hk] at hp
  |some o=>
   simp only [hk,Option.map_some,Option.getD_some,Array.any_eq_true,za0,beq_iff_eq] at hp
   obtain ⟨⟨n,hn,hb,rfl⟩, -⟩:=hp
   have he:o.after[n]∈o.after:=Array.getElem_mem hn
   revert hb
   generalize o.after[n]=e at*
   intro hb
   cases hl:listed.getD k false
   ·rfl
   ·have:=h k o hk hl e he hb
    rw [this] at hi
    cases hi
theorem fQ{i:Nat}{oi:Oper}{v:qV}(hi:ops[i]?=some oi)(zK: ∀(j:Nat) (o:Oper) cs b,ops[j]?=some o->o.op≠ .select cs b)
  (hQ: ∀c a w,Q (.panic c) (a.put oi.dst v) w->Q (.panic c) a w) (hN: ∀listed w,S (listed.setIfInBounds i true) w↔S listed w)
  (hT: ∀listed w,Closed md ops listed->listed.getD i false=false->S listed w->T w):
  ∀(fuel:Nat) (listed:Array Bool) (a:Act) (w:qW),Closed md ops listed->
   (∀j oj,ops[j]?=some oj->j≠i->listed.getD j true=false->(∀e∈oj.after,Region.binds md e=true->e.on≠i)->oi.apart ops oj=true)->
   i∈Region.ready md ops listed->YieldsIf P ops T oi v a->S listed w->
   wpAnyG P md ops Q S fuel (listed.setIfInBounds i true) (a.put oi.dst v) w->wpAnyG P md ops Q S (fuel+1) listed a w:=by
 have Bb: ∀listed,i∈Region.ready md ops listed->listed.getD i false=false:=fun listed hr=>by
  have h0:=(mem_ready.1 hr).1
  rcases zaJ i listed.size with h'|h'
  ·simp [h'] at h0 ⊢
   exact h0
  ·simp [zaW h']
 intro fuel
 induction fuel with
 |zero=>
  intro listed a w hc _ hr hy hS H
  refine ⟨fun h=>(by rw [h] at hr;cases hr),fun j hj=>?_⟩
  by_cases zR:j=i
  ·subst zR;exact hy.wpOp hi (hT _ _ hc (Bb _ hr) hS) ⟨(hN _ _).2 hS,H⟩
  ·have:=ready_mono hj zR
   rw [H.1] at this
   cases this
 |succ fuel ih=>
  intro listed a w hc Ap hr hy hS H
  refine ⟨fun h=>(by rw [h] at hr;cases hr),fun j hj=>?_⟩
  by_cases zR:j=i
  ·subst zR;exact hy.wpOp hi (hT _ _ hc (Bb _ hr) hS) ⟨(hN _ _).2 hS,H⟩
  ·have h1:=H.2 j (ready_mono hj zR)
   obtain ⟨Ca,oj,CD,xw⟩:=mem_ready.1 hj
   have Ep: ∀e∈oj.after,Region.binds md e=true->e.on≠i:=fun e he hb AE=>by
    have h1:=xw e he hb
    have h0:=(mem_ready.1 hr).1
    rw [AE] at h1
    rcases zaJ i listed.size with h'|h'
    ·simp [h'] at h0 h1;rw [h0] at h1;cases h1
    ·simp [zaW h'] at h1
   have h2:=wpOp_putIf CD (Ap j oj CD zR Ca Ep) (fun cs b=>zK i oi cs b hi) (fun cs b=>zK j oj cs b CD) hQ hy h1
   have AZ: ∀k ok,ops[k]?=some ok->k≠i->(listed.setIfInBounds j true).getD k true=false->
     (∀e∈ok.after,Region.binds md e=true->e.on≠i)->oi.apart ops ok=true:=fun k ok hk II Bb xW=>by
    refine Ap k ok hk II ?_ xW
    by_cases zQ:j=k
    ·subst zQ;exact Ca
    ·rw [getD_set_ne true zQ] at Bb;exact Bb
   refine wpOp_mono (fun a' w' h3=>?_) h2
   have hs:S (listed.setIfInBounds j true) w':=(hN _ _).1 (by rw [Array.setIfInBounds_comm _ _ zR];exact h3.2.1)
   refine ⟨hs,ih (listed.setIfInBounds j true) a' w' (hc.set hj) AZ (ready_mono hr (Ne.symm zR)) h3.1 hs ?_⟩
   rw [Array.setIfInBounds_comm _ _ zR]
   exact h3.2.2
theorem fP{A B:qW->Prop}{L:Nat}(i:Nat){oi:Oper}{v:qV}{fuel:Nat}{listed:Array Bool}{a:Act}{w:qW}(path:List Nat)(hi:ops[i]?=some oi)
  (hs:Region.noSelect ops=true) (hf:Region.free md ops listed i=true) (hr:(Region.ready md ops listed).contains i=true)
  (hQ: ∀c a w,Q (.panic c) (a.put oi.dst v) w->Q (.panic c) a w) (hp:pathB md ops (i::path)=true) (hL:(i::path).getLast Zg=L) (hne:i≠L) (hc:closedB md ops listed=true)
  (hy:YieldsIf P ops (fun w=>A w/\B w) oi v a) (hS:A w/\(listed.getD L false=false->B w))
  (h:wpAnyG P md ops Q (fun l w=>A w/\(l.getD L false=false->B w)) fuel (listed.setIfInBounds i true) (a.put oi.dst v) w):wpAnyG P md ops Q (fun l w=>A w/\(l.getD L false=false->B w)) (fuel+1) listed a w:=
 fQ (T:=fun w=>A w/\B w) hi (Region.noSelect_spec hs) hQ (fun l w=>by rw [getD_set_ne false hne]) (fun l w i' hl hS=>⟨hS.1,hS.2 (by rw [<-hL];exact kE i' path i hp hl)⟩) fuel listed a w (iH hc) (Region.free_spec hi hf) (by simpa using hr) hy hS h
theorem bG{A B:qW->Prop}{L:Nat}(i:Nat){oi:Oper}{v:qV}{fuel:Nat}{listed:Array Bool}{a:Act}{w:qW}(hi:ops[i]?=some oi)
  (hs:Region.noSelect ops=true) (hf:Region.free md ops listed i=true) (hr:(Region.ready md ops listed).contains i=true)
  (hQ: ∀c a w,Q (.panic c) (a.put oi.dst v) w->Q (.panic c) a w) (hne:i≠L) (hc:closedB md ops listed=true)
  (hy:YieldsIf P ops A oi v a) (hS:A w/\(listed.getD L false=false->B w))
  (h:wpAnyG P md ops Q (fun l w=>A w/\(l.getD L false=false->B w)) fuel (listed.setIfInBounds i true) (a.put oi.dst v) w):wpAnyG P md ops Q (fun l w=>A w/\(l.getD L false=false->B w)) (fuel+1) listed a w:=
 fQ (T:=A) hi (Region.noSelect_spec hs) hQ (fun l w=>by rw [getD_set_ne false hne]) (fun l w i' hl hS=>hS.1) fuel listed a w (iH hc) (Region.free_spec hi hf) (by simpa using hr) hy hS h
theorem cY{A B:qW->Prop}{L:Nat}(i:Nat){oi:Oper}{v:qV}{fuel:Nat}{listed:Array Bool}{a:Act}{w:qW}(hi:ops[i]?=some oi)
  (hs:Region.noSelect ops=true) (hf:Region.free md ops listed i=true) (hr:(Region.ready md ops listed).contains i=true)
  (hQ: ∀c a w,Q (.panic c) (a.put oi.dst v) w->Q (.panic c) a w) (hne:i≠L) (hc:closedB md ops listed=true)
  (hy:YieldsIf P ops (fun _=>True) oi v a) (hS:A w/\(listed.getD L false=false->B w))
  (h:wpAnyG P md ops Q (fun l w=>A w/\(l.getD L false=false->B w)) fuel (listed.setIfInBounds i true) (a.put oi.dst v) w):wpAnyG P md ops Q (fun l w=>A w/\(l.getD L false=false->B w)) (fuel+1) listed a w:=
 fQ (T:=fun _=>True) hi (Region.noSelect_spec hs) hQ (fun l w=>by rw [getD_set_ne false hne]) (fun l w i' hl hS=>trivial) fuel listed a w (iH hc) (Region.free_spec hi hf) (by simpa using hr) hy hS h
theorem oV(i:Nat){oi:Oper}{fuel:Nat}{listed:Array Bool}{a:Act}{w:qW}(hi:ops[i]?=some oi)(hr:Region.ready md ops listed=[i])(hg:oi.guard=none)
  (h: ∀K:Act->qW->Prop,(∀a' w',S (listed.setIfInBounds i true) w'->wpAnyG P md ops Q S fuel (listed.setIfInBounds i true) a' w'->K a' w')->if Region.wanted oi (yielded ops a.tmps)=true then Oper.wp P oi a w K Q else False):wpAnyG P md ops Q S (fuel+1) listed a w:=by
 refine ⟨fun h0=>(by rw [hr] at h0;cases h0),fun j hj=>?_⟩
 rw [hr] at hj
 obtain rfl:j=i:=by simpa using hj
 have hw:Region.wanted oi (yielded ops a.tmps)=true:=by simp [Region.wanted,hg]
 have h1:=h (fun a' w'=>S (listed.setIfInBounds j true) w'/\wpAnyG P md ops Q S fuel (listed.setIfInBounds j true) a' w') (fun a' w' h1 h2=>⟨h1,h2⟩)
 rw [if_pos hw] at h1
 unfold wpOp
 simp only [hi,hw,if_true]
 exact .inl h1
theorem af{listed:Array Bool}{a:Act}{w:qW}(hr:Region.ready md ops listed=[])(h:Q .normal a w): ∀fuel,wpAnyG P md ops Q S fuel listed a w
 |0=>⟨hr,h⟩
 |_+1=>⟨fun _=>h,by rw [hr];simp⟩
theorem ae{id:Nat}{a:Act}{w:qW}{l:List Oper}(A B:qW->Prop)(L:Nat)(hm:P.follows .mixedOrders=true)
  (h:wpAnyG P .any l.toArray Q (fun l w=>A w/\(l.getD L false=false->B w)) l.toArray.size (Array.replicate l.toArray.size false) a w.drew):(Code.region id l.toArray true).wp P Q a w:=
 wp_region_any hm (iT _ _ _ _ h)
end
theorem aj{w:qW}{k o:Nat}{cs:Array qV}{t:TypeId}(h:k<w.heap.size):(w.drew.alloc (.cells cs t)).cell? ⟨k,o,none⟩=w.cell? ⟨k,o,none⟩:=by
 rw [aV,if_pos (show k<w.drew.heap.size from h)]
 rfl
theorem ydV{w:qW}{k o:Nat}{cs:Array qV}{t:TypeId}(h:k<w.heap.size):(w.drew.alloc (.cells cs t)).frozen? ⟨k,o,none⟩=w.frozen? ⟨k,o,none⟩:=by
 rw [d8,if_pos (show k<w.drew.heap.size from h)]
 rfl
structure Rw where
 ix:Nat
 e:TypeId
 sz:Nat
 n:Nat
 xs:List qV
def fld(cs:Array qV)(i:Nat):qV:=cs.getD i undef
def foot(M:Nat)(cs:Array qV)(rs:List Rw):Nat->Prop:=fun k=>k=M\/ ∃r∈rs,(fld cs r.ix).ownBlock=some k
structure Ob(M:Nat)(t:TypeId)(cs:Array qV)(rs:List Rw)(W:qW):Prop where
 out:W.heap[M]?=some (.cells cs t (0,0))
 own: ∀r∈rs,W.ownsRow (M+1) r.e r.sz (fld cs r.ix) r.n r.xs
 ix:rs.Pairwise (fun r q=>r.ix≠q.ix)
 apart: ∀r∈rs,∀q∈rs,r.ix≠q.ix-> ∀k,(fld cs r.ix).ownBlock=some k->(fld cs q.ix).ownBlock≠some k
section
variable{M:Nat}{t:TypeId}{cs:Array qV}{rs:List Rw}{W:qW}
theorem Ob.lt(h:Ob M t cs rs W):M<W.heap.size:=ac h.out
theorem Ob.foot_lt(h:Ob M t cs rs W){k:Nat}(hk:foot M cs rs k):M<=k/\k<W.heap.size:=by
 rcases hk with rfl|⟨r,hr,hk⟩
 ·exact ⟨zaq _,h.lt⟩
 ·have:=(h.own r hr).lt k hk
  omega
theorem Ob.kp{X:Nat->Prop}{W':qW}(h:Ob M t cs rs W)(hk:Kp X W W')(hX: ∀k,foot M cs rs k-> ¬X k):Ob M t cs rs W':=
 ⟨(hk.block M h.lt (hX M (.inl rfl))).trans h.out,fun r hr=>ai (h.own r hr) hk (fun g hg=>hX g (.inr ⟨r,hr,hg⟩)),h.ix,h.apart⟩
theorem Ob.below{W':qW}(h:Ob M t cs rs W)(hk:Below W.heap.size W W'):Ob M t cs rs W':=h.kp (X:=fun _=>False) (Kp.of_below hk) (fun _ _=>id)
theorem Ob.set(h:Ob M t cs rs W)(i:Nat)(v:qV)(hi: ∀r∈rs,r.ix≠i):Ob M t (cs.setIfInBounds i v) rs (W.setCell ⟨M,i,none⟩ v):=by
 have hf: ∀r∈rs,fld (cs.setIfInBounds i v) r.ix=fld cs r.ix:=fun r hr=>by
  have:=hi r hr
  unfold fld
  rw [zaI,zaI,zaT,if_neg (fun e=>this e.symm)]
 refine ⟨aJ h.out _,fun r hr=>?_,h.ix,fun r hr q hq=>?_⟩
 ·rw [hf r hr]
  exact ai (h.own r hr) (Kp.set W M i v) (fun g hg e=>by have:=((h.own r hr).lt g hg).1;omega)
 ·rw [hf r hr,hf q hq]
  exact h.apart r hr q hq
theorem iq{i:Nat}{v:qV}(hi: ∀r∈rs,r.ix≠i){k:Nat}:foot M (cs.setIfInBounds i v) rs k↔foot M cs rs k:=by
 have hf: ∀r∈rs,fld (cs.setIfInBounds i v) r.ix=fld cs r.ix:=fun r hr=>by
  have:=hi r hr
  unfold fld
  rw [zaI,zaI,zaT,if_neg (fun e=>this e.symm)]
 unfold foot
 constructor
 ·rintro (h|⟨r,hr,h⟩)
  ·exact .inl h
  ·exact .inr ⟨r,hr,by rwa [hf r hr] at h⟩
 ·rintro (h|⟨r,hr,h⟩)
  ·exact .inl h
  ·exact .inr ⟨r,hr,by rwa [hf r hr]⟩
theorem Ob.put{r:Rw}{v':qV}{n':Nat}{xs':List qV}{W2:qW}(h:Ob M t cs rs W)(hr:r∈rs)(Cc:r.ix<cs.size)(hk:Kp (fun k=>(fld cs r.ix).ownBlock=some k) W W2)(hown:W2.ownsRow (M+1) r.e r.sz v' n' xs')(hg: ∀k,v'.ownBlock=some k->(fld cs r.ix).ownBlock=some k\/W.heap.size<=k):
  Ob M t (cs.setIfInBounds r.ix v') (rs.map (fun q=>if q.ix=r.ix then {q with n:=n',xs:=xs'} else q)) (W2.setCell ⟨M,r.ix,none⟩ v')/\Kp (foot M cs rs) W (W2.setCell ⟨M,r.ix,none⟩ v')/\
   ∀k,foot M (cs.setIfInBounds r.ix v') (rs.map (fun q=>if q.ix=r.ix then {q with n:=n',xs:=xs'} else q)) k->foot M cs rs k\/W.heap.size<=k:=by
 have DY: ∀i,i=r.ix->fld (cs.setIfInBounds r.ix v') i=v':=fun i hq=>by
  unfold fld
  rw [hq,zaI,zaT,if_pos rfl,if_pos Cc]
  rfl
 have CU: ∀i,i≠r.ix->fld (cs.setIfInBounds r.ix v') i=fld cs i:=fun i hq=>by
  unfold fld
  rw [zaI,zaI,zaT,if_neg (fun e=>hq e.symm)]
 have AE: ∀q∈rs,q.ix=r.ix->q=r:=fun q hq e=>by
  obtain ⟨i,hi,rfl⟩:=zaP hq
  obtain ⟨j,hj,rfl⟩:=zaP hr
  rcases Nat.lt_trichotomy i j with hl|rfl|hl
  ·exact absurd e (List.pairwise_iff_getElem.1 h.ix i j hi hj hl)
  ·rfl
  ·exact absurd e.symm (List.pairwise_iff_getElem.1 h.ix j i hj hi hl)
 have hM:M<W.heap.size:=h.lt
 have N0: ∀k,(fld cs r.ix).ownBlock=some k->M<k:=fun k hk=>by have:=((h.own r hr).lt k hk).1;omega
 have zs:W2.heap[M]?=some (.cells cs t (0,0)):=(hk.block M hM (fun e=>by have:=N0 M e;omega)).trans h.out
 have NB: ∀k,v'.ownBlock=some k->M<k:=fun k hk=>by have:=(hown.lt k hk).1;omega
 have hold: ∀q∈rs,q.ix≠r.ix->W2.ownsRow (M+1) q.e q.sz (fld cs q.ix) q.n q.xs:=fun q hq hne=>ai (h.own q hq) hk (fun g xy Ag=>h.apart q hq r hr hne g xy Ag)
 refine ⟨⟨aJ zs _,?_,?_,?_⟩,?_,?_⟩
 ·intro q hq
  obtain ⟨q0,yt,rfl⟩:=List.mem_map.1 hq
  by_cases he:q0.ix=r.ix
  ·obtain rfl:=AE q0 yt he
   simp only [if_true]
   rw [DY _ rfl]
   exact ai hown (Kp.set W2 M q0.ix v') (fun g xy e=>by have:=NB g xy;omega)
  ·simp only [if_neg he]
   rw [CU _ he]
   exact ai (hold q0 yt he) (Kp.set W2 M r.ix v') (fun g xy e=>by have:=((h.own q0 yt).lt g xy).1;omega)
 ·rw [List.pairwise_map]
  refine h.ix.imp (fun {a b} G9=>?_)
  split<;>split<;>simpa using G9
 ·intro q hq q' Dc hne k wZ
  obtain ⟨q0,yt,rfl⟩:=List.mem_map.1 hq
  obtain ⟨q1,zU,rfl⟩:=List.mem_map.1 Dc
  by_cases he:q0.ix=r.ix
  ·by_cases Bn:q1.ix=r.ix
   ·simp only [he,Bn,if_true] at hne
    exact absurd rfl hne
   ·simp only [if_pos he,if_neg Bn] at wZ hne ⊢
    rw [CU _ Bn]
    rw [DY _ he] at wZ
    rcases hg k wZ with h1|h1
    ·exact h.apart r hr q1 zU (fun e=>Bn e.symm) k h1
    ·intro h2
     have:=((h.own q1 zU).lt k h2).2
     omega
  ·by_cases Bn:q1.ix=r.ix
   ·simp only [if_neg he,if_pos Bn] at wZ hne ⊢
    rw [DY _ Bn]
    rw [CU _ he] at wZ
    intro h2
    rcases hg k h2 with h1|h1
    ·exact h.apart r hr q0 yt (fun e=>he e.symm) k h1 wZ
    ·have:=((h.own q0 yt).lt k wZ).2
     omega
   ·simp only [if_neg he,if_neg Bn] at wZ hne ⊢
    rw [CU _ Bn]
    rw [CU _ he] at wZ
    exact h.apart q0 yt q1 zU hne k wZ
 ·exact (hk.mono (fun k _ e=> .inr ⟨r,hr,e⟩)).trans ((Kp.set W2 M r.ix v').mono (fun k _ e=> .inl e))
 ·rintro k (rfl|⟨q,hq,wZ⟩)
  ·exact .inl (.inl rfl)
  ·obtain ⟨q0,yt,rfl⟩:=List.mem_map.1 hq
   by_cases he:q0.ix=r.ix
   ·simp only [if_pos he] at wZ
    rw [DY _ he] at wZ
    rcases hg k wZ with h1|h1
    ·exact .inl (.inr ⟨r,hr,h1⟩)
    ·exact .inr h1
   ·simp only [if_neg he] at wZ
    rw [CU _ he] at wZ
    exact .inl (.inr ⟨q0,yt,wZ⟩)
theorem fi{w:qW}{B s n m:Nat}{e:TypeId}{a:Option Addr}{c:Nat}{xs:List qV}(h:w.ownsRow B e s (.slice a n c) n xs)(hm:m<=n):w.ownsRow B e s (.slice a m c) m (xs.take (m*s)):=by
 have hl:=h.1
 have Q5:m*s<=n*s:=Nat.mul_le_mul_right _ hm
 refine ⟨by rw [zaR];omega,?_⟩
 rcases h.2 with ⟨e1,e2⟩|⟨g,cap,cur,e1,h2,h3,h4,h5,h6,h7⟩
 ·left
  injection e1 with e1 e3 e4
  exact ⟨by rw [e1,e4,show m=0 by omega],by omega⟩
 ·right
  injection e1 with e1 e3 e4
  exact ⟨g,cap,cur,by rw [e1,e4],h2,h3,by omega,h5,h6,by rw [<-h7,List.take_take];congr 1;omega⟩
theorem aC{w:qW}{B s n:Nat}{e:TypeId}{v:qV}{xs:List qV}(h:w.ownsRow B e s v n xs): ∃a c,v= .slice a n c/\n<=c/\c<=9223372036854775807/\(a=none->n=0/\c=0)/\ ∀p,a=some p->p=⟨p.block,0,none⟩:=by
 rcases h.2 with ⟨rfl,rfl⟩|⟨g,cap,cur,rfl,h2,h3,h4,h5,h6,h7⟩
 ·exact ⟨none,0,rfl,zaq _,by omega,fun _=>⟨rfl,rfl⟩,fun p e=>by cases e⟩
 ·exact ⟨_,_,rfl,h4,h5,fun e=>by simp at e,fun p e=>by cases e;rfl⟩
end
theorem an{B C:Nat}{w W W':qW}(hB:Below B w W)(h:Below C W W')(hC:B<=C:=by omega):Below B w W':=
 hB.trans ⟨h.os,h.tape,h.output,h.size,fun k hk=>h.block k (zar hk hC)⟩
theorem aH{w:qW}{o:Obj}{k:Nat}(h:k=w.heap.size):(w.alloc o).heap[k]?=some o:=by subst h;exact zab _ _
theorem Kp.pl{X:Nat->Prop}{W w2:qW}{k:Nat}{cs:Array qV}{t:TypeId}(h:Kp X (Go.Proofs.YtjmfoeajhiimnaaGreatDoor.putB W k cs t) w2)(hk:k<W.heap.size:=by (try simp only [Zz]);omega)(hX: ¬X k:=by (try simp only [Zz]);omega):w2=Go.Proofs.YtjmfoeajhiimnaaGreatDoor.putB w2 k cs t/\k<w2.heap.size/\Kp (fun b=>X b\/b=k) W w2:=h.peel hk hX
theorem eO{B:Nat}{w W:qW}(h:Below B w W){k:Nat}(hk:B<=k)(cs:Array qV)(t:TypeId):Below B w (putB W k cs t):=
 ⟨h.os,h.tape,h.output,by rw [aN];exact h.size,fun i hi=>by rw [aM,if_neg Za];exact h.block i hi⟩
theorem fI{B:Nat}{w W:qW}(h:Below B w W):Below B w W.drew:=⟨h.os,h.tape,h.output,h.size,h.block⟩
theorem Kp.unmo{X:Nat->Prop}{W w2:qW}{p:Regrown}(h:Kp X (Go.Proofs.YtjmfoeajhiimnaaGreatDoor.more W p) w2):Kp X W w2:=(Kp.mo W p).trans h
theorem Kp.undr{X:Nat->Prop}{W w2:qW}(h:Kp X W.drew w2):Kp X W w2:=(Kp.dr W).trans h
def cellW(w:qW)(a:Addr):Option qV:=w.cell? a
def frzW(w:qW)(a:Addr):Bool:=w.frozen? a
def ownN(M:Nat)(v:qV):Nat:=v.ownBlock.getD M
theorem bn{M k:Nat}{v:qV}(h:v.ownBlock=some k):k=ownN M v:=by simp [ownN,h]
theorem eN{W:qW}{M:Nat}{t:TypeId}{cs:Array qV}(h:W.heap[M]?=some (.cells cs t (0,0))){w0:qW}(hb:Below w0.heap.size w0 W)(b i:Nat):
  W.cell? ⟨b,i,none⟩=if b<w0.heap.size then w0.cell? ⟨b,i,none⟩ else if b=M then cs[i]? else cellW W ⟨b,i,none⟩:=by
 split
 ·exact hb.cell (p:=⟨b,i,none⟩) ‹_›
 ·split
  ·rename_i e
   subst e
   exact aa h i
  ·rfl
theorem eF{W:qW}{M:Nat}{t:TypeId}{cs:Array qV}(h:W.heap[M]?=some (.cells cs t (0,0))){w0:qW}(hb:Below w0.heap.size w0 W)(b i:Nat):
  W.frozen? ⟨b,i,none⟩=if b<w0.heap.size then w0.frozen? ⟨b,i,none⟩ else if b=M then false else frzW W ⟨b,i,none⟩:=by
 split
 ·exact hb.frozen (p:=⟨b,i,none⟩) ‹_›
 ·split
  ·rename_i e
   subst e
   exact ah h i
  ·rfl
end Go.Proofs.YtjmfoeajhiimnaaGreatDoor
