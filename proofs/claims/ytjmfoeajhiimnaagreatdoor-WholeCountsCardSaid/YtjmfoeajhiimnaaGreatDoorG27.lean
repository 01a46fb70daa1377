/- Walks. No condition. -/
import Derived.Test.YtjmfoeajhiimnaaGreatDoorG26
set_option maxRecDepth 100000
set_option maxHeartbeats 0
set_option linter.all false
namespace Go.Proofs.YtjmfoeajhiimnaaGreatDoor
open Go.RowKit Go.Sort
theorem ydw{P:Nat}{s:PS}(w:qW)(h:PAt w P s)(hb:pBad s=false)(hl:s.toks.length<=1):
  qC 28 #[pP P] w fun e w'=>e= .returned (.agg #[iI s.line,iI 0])/\ ∃p,w'=more w p:=by
 obtain ⟨v,h1,h2⟩:=h.lies
 obtain ⟨a,c,h3, -⟩:=h2
 subst h3
 have hk:s.kind=0:=by simpa [pBad] using hb
 have hc:=aa h1
 have xe:=ac h1
 have HC:=Zh h
 rw [hk] at hc
 have c0:w.cell? (aB P 0)=some (.slice a s.toks.length c):=hc 0
 have c1:w.cell? (aB P 1)=some (iI s.line):=hc 1
 have c2:w.cell? (aB P 2)=some (iI 0):=hc 2
 clear h h1 hc
 go_enter Tryz.func28,Tryz.ntmps28
 go_wp2_with (go_at_call 37;refine (bF _ (HC.out.alloc _)).mono ?_;rintro e w1 ⟨rfl,u'⟩;subst u')
 (try simp only [Exit.inBlock,Exit.then]);refine zad (by simp [results,Tryz.results28,go_sem,↓IntWalk.iteOmega];try rfl) rfl ?_
 exact ⟨rfl,bC (ab (zaa _ _) _)⟩
def varC(v:VarD):List qV:=[.string v.name,iI (v.type:TyF (Ty 65)).kind,iI (v.type:TyF (Ty 65)).size,.bool false,.slice none 0 0,iI 0,.slice none 0 0]
theorem pf:(Tryz.prog.info? 100).map (fun i=>(i.zero,i.size,i.bytes))=some (some (.agg #[.string ⟨#[]⟩,iI 0,iI 0,.bool false,.slice none 0 0,iI 0,.slice none 0 0]),7,96):=by kernel_rfl
structure PgAt(P k6:Nat)(Wb W:qW)(s:PS)(v1 v2:qV)(vs:List VarD):Prop where
 kp:Kp (fun k=>k=P\/k=k6) Wb W
 pt:PAt W P s
 out:W.heap[k6]?=some (.cells #[v1,v2] 59 (0,0))
 own:W.ownsRow Wb.heap.size 100 7 v1 vs.length (vs.flatMap varC)
 sc: ∀v∈vs,∃k z,v.type=scTy k z/\rng k/\rng z
 lt:P<k6/\k6<Wb.heap.size
theorem PgAt.turn{P k6:Nat}{Wb W W':qW}{s s':PS}{v1 v2:qV}{vs:List VarD}(h:PgAt P k6 Wb W s v1 v2 vs)(hT:Kp (·=P) W W')(hP:PAt W' P s'):PgAt P k6 Wb W' s' v1 v2 vs:=
 ⟨h.kp.trans (hT.mono (fun _ _ e=> .inl e)),hP,(hT.block k6 (ac h.out) (by have:=h.lt;omega)).trans h.out,ai h.own hT (fun g hg e=>by have:=(h.own.lt g hg).1;have:=h.lt;omega),h.sc,h.lt⟩
theorem PgAt.drew{P k6:Nat}{Wb W:qW}{s:PS}{v1 v2:qV}{vs:List VarD}(h:PgAt P k6 Wb W s v1 v2 vs):PgAt P k6 Wb W.drew s v1 v2 vs:=
 ⟨h.kp.drew,h.pt.drew,h.out,h.own,h.sc,h.lt⟩
theorem PgAt.al{P k6:Nat}{Wb W:qW}{s:PS}{v1 v2:qV}{vs:List VarD}(h:PgAt P k6 Wb W s v1 v2 vs)(o:Obj):PgAt P k6 Wb (W.alloc o) s v1 v2 vs:=
 ⟨h.kp.alloc o,h.pt.alloc o,(zac _ _ (ac h.out)).trans h.out,h.own.alloc o,h.sc,h.lt⟩
theorem PgAt.grow_out{P k6:Nat}{Wb W W2:qW}{s:PS}{v1 v2:qV}{vs:List VarD}{ob:Obj}(h:PgAt P k6 Wb W s v1 v2 vs)(xb:(W.alloc ob).grownBy W2 v1.ownBlock):W2.heap[k6]?=some (.cells #[v1,v2] 59 (0,0)):=
 (xb.block k6 (by have:=ac h.out;simp;omega) (fun e=>by have:=(h.own.lt k6 e.symm).1;have:=h.lt;omega)).trans ((zac _ _ (ac h.out)).trans h.out)
theorem PgAt.grow_put{P k6 g cap:Nat}{Wb W W2:qW}{s:PS}{v1 v2:qV}{vs:List VarD}{x:VarD}{ob:Obj}(h:PgAt P k6 Wb W s v1 v2 vs)(xb:(W.alloc ob).grownBy W2 v1.ownBlock)
  (ho:W2.ownsRow Wb.heap.size 100 7 (.slice (aA g) (vs.length+1) cap) (vs.length+1) (vs.flatMap varC++varC x)) (hx: ∃k z,x.type=scTy k z/\rng k/\rng z):
  PgAt P k6 Wb (W2.setCell ⟨k6,0,none⟩ (.slice (aA g) (vs.length+1) cap)) s (.slice (aA g) (vs.length+1) cap) v2 (vs++[x]):=by
 have hl:=h.lt
 have hv: ∀i,v1.ownBlock=some i->Wb.heap.size<=i:=fun i e=>(h.own.lt i e).1
 have wZ:Kp (fun k=>some k=v1.ownBlock) (W.alloc ob) W2:=Kp.of_grown xb
 have zn:=Kp.set W2 k6 0 (.slice (aA g) (vs.length+1) cap)
 refine ⟨((h.kp.alloc ob).next wZ (fun i hi e=>by have:=hv i e.symm;omega)).next zn (fun i hi e=> .inr e),((h.pt.alloc ob).keep (wZ.mono (fun i hi e=>by have:=hv i e.symm;omega))).keep (zn.mono (fun i hi e=>by omega)),aJ (h.grow_out xb) _,?_,fun v hv=>?_,hl⟩
 ·have e1:(vs++[x]).flatMap varC=vs.flatMap varC++varC x:=by simp
  have e2:(vs++[x]).length=vs.length+1:=by simp
  rw [e1,e2]
  exact ai ho zn (fun i hi e=>by have:=(ho.lt i hi).1;omega)
 ·rcases List.mem_append.1 hv with h1|h1
  ·exact h.sc v h1
  ·simp only [List.mem_singleton] at h1
   subst h1
   exact hx
structure ThAt(B:Nat)(W:qW)(v1 v2:qV)(o:List (List Sm))(svs:List qV):Prop where
 own:W.ownsRow B 102 1 v2 o.length svs
 ne: ∀i,v1.ownBlock=some i->v2.ownBlock≠some i
 len:svs.length=o.length
 at_: ∀(i:Nat) th sv,o[i]?=some th->svs[i]?=some sv->RwAt W (fun b=>B<=b/\b<W.heap.size/\v1.ownBlock≠some b/\v2.ownBlock≠some b) 10 (SmAt W (fun b=>B<=b/\b<W.heap.size/\v1.ownBlock≠some b/\v2.ownBlock≠some b) 66) sv th
theorem ThAt.keep{B:Nat}{W W':qW}{v1 v2:qV}{o:List (List Sm)}{svs:List qV}{X:Nat->Prop}(h:ThAt B W v1 v2 o svs)(hk:Kp X W W')(hX: ∀i,X i->i<B):ThAt B W' v1 v2 o svs:=
 ⟨ai h.own hk (fun g hg e=>by have:=hX g e;have:=(h.own.lt g hg).1;omega),h.ne,h.len,fun i th sv h1 h2=>
  have hb: ∀b,(B<=b/\b<W.heap.size/\v1.ownBlock≠some b/\v2.ownBlock≠some b)->b<W.heap.size->(B<=b/\b<W'.heap.size/\v1.ownBlock≠some b/\v2.ownBlock≠some b)/\W'.heap[b]?=W.heap[b]?:=fun b hb hl=>⟨⟨hb.1,by have:=hk.size;omega,hb.2.2⟩,hk.block b hl (fun e=>by have:=hX b e;omega)⟩
  (h.at_ i th sv h1 h2).keep hk.size hb (fun x _ cs=>SmAt.keep hk.size hb 66 x cs)⟩
theorem ThAt.drew{B:Nat}{W:qW}{v1 v2:qV}{o:List (List Sm)}{svs:List qV}(h:ThAt B W v1 v2 o svs):ThAt B W.drew v1 v2 o svs:=
 h.keep (X:=fun _=>False) (Kp.dr _) (fun _ h=>h.elim)
theorem PgAt.grow2_out{P k6 B:Nat}{Wb W W2:qW}{s:PS}{v1 v2:qV}{vs:List VarD}{o:List (List Sm)}{svs:List qV}{ob:Obj}(h:PgAt P k6 Wb W s v1 v2 vs)(h2:ThAt Wb.heap.size W v1 v2 o svs)(xb:(W.alloc ob).grownBy W2 v2.ownBlock):W2.heap[k6]?=some (.cells #[v1,v2] 59 (0,0)):=
 (xb.block k6 (by have:=ac h.out;simp;omega) (fun e=>by have:=(h2.own.lt k6 e.symm).1;have:=h.lt;omega)).trans ((zac _ _ (ac h.out)).trans h.out)
theorem PgAt.grow2_put{P k6 g cap:Nat}{Wb W W2:qW}{s:PS}{v1 v2:qV}{vs:List VarD}{o:List (List Sm)}{svs:List qV}{ob:Obj}(h:PgAt P k6 Wb W s v1 v2 vs)(h2:ThAt Wb.heap.size W v1 v2 o svs)(xb:(W.alloc ob).grownBy W2 v2.ownBlock):
  PgAt P k6 Wb (W2.setCell ⟨k6,1,none⟩ (.slice (aA g) (o.length+1) cap)) s v1 (.slice (aA g) (o.length+1) cap) vs:=by
 have hl:=h.lt
 have hv: ∀i,v2.ownBlock=some i->Wb.heap.size<=i:=fun i e=>(h2.own.lt i e).1
 have wZ:Kp (fun k=>some k=v2.ownBlock) (W.alloc ob) W2:=Kp.of_grown xb
 have zn:=Kp.set W2 k6 1 (.slice (aA g) (o.length+1) cap)
 refine ⟨((h.kp.alloc ob).next wZ (fun i hi e=>by have:=hv i e.symm;omega)).next zn (fun i hi e=> .inr e),((h.pt.alloc ob).keep (wZ.mono (fun i hi e=>by have:=hv i e.symm;omega))).keep (zn.mono (fun i hi e=>by omega)),aJ (h.grow2_out (B:=0) h2 xb) _,?_,h.sc,hl⟩
 exact ai (ai (h.own.alloc ob) wZ (fun i hi e=>h2.ne i hi e.symm)) zn (fun i hi e=>by have:=(h.own.lt i hi).1;omega)
theorem ThAt.grow{P k6 g cap lo:Nat}{Wb W W2:qW}{s:PS}{v1 v2:qV}{vs:List VarD}{o:List (List Sm)}{svs:List qV}{ob:Obj}{th:List Sm}{sv:qV}(h:PgAt P k6 Wb W s v1 v2 vs)(h2:ThAt Wb.heap.size W v1 v2 o svs)(xb:(W.alloc ob).grownBy W2 v2.ownBlock)
  (ho:W2.ownsRow Wb.heap.size 102 1 (.slice (aA g) (o.length+1) cap) (o.length+1) (svs++[sv])) (hl:v2.ownBlock=some g\/g=(W.alloc ob).heap.size) (xD:Wb.heap.size<=lo) (zm: ∀i,v1.ownBlock=some i->i<lo) (Eh: ∀i,v2.ownBlock=some i->i<lo)
  (hs:SsAt 66 lo W.heap.size sv th W):ThAt Wb.heap.size (W2.setCell ⟨k6,1,none⟩ (.slice (aA g) (o.length+1) cap)) v1 (.slice (aA g) (o.length+1) cap) (o++[th]) (svs++[sv]):=by
 have xe:=h.lt
 have wZ:Kp (fun k=>some k=v2.ownBlock) (W.alloc ob) W2:=Kp.of_grown xb
 have zn:=Kp.set W2 k6 1 (.slice (aA g) (o.length+1) cap)
 have hz:W.heap.size+1<=(W2.setCell ⟨k6,1,none⟩ (.slice (aA g) (o.length+1) cap)).heap.size:=by
  have h1:=wZ.size
  have h2:=zn.size
  simp only [ar] at h1
  omega
 have hb: ∀b,b<W.heap.size->v2.ownBlock≠some b->b≠k6->(W2.setCell ⟨k6,1,none⟩ (.slice (aA g) (o.length+1) cap)).heap[b]?=W.heap[b]?/\b≠g:=fun b h1 h2 h3=>by
  refine ⟨(zn.block b (by have:=wZ.size;simp only [ar] at this;omega) h3).trans ((wZ.block b Zk (fun e=>h2 e.symm)).trans (zac _ _ h1)),fun e=>?_⟩
  subst e
  rcases hl with hl|hl
  ·exact h2 hl
  ·simp at hl
   omega
 have Jv: ∀i,v1.ownBlock=some i->i<W.heap.size:=fun i e=>(h.own.lt i e).2
 refine ⟨?_,fun i hi e=>?_,by simp [h2.len],fun i x sx hx DF=>?_⟩
 ·rw [show (o++[th]).length=o.length+1 by simp]
  exact ai ho zn (fun i hi e=>by have:=(ho.lt i hi).1;omega)
 ·simp [Value.ownBlock] at e
  subst e
  rcases hl with hl|hl
  ·exact h2.ne g hi hl
  ·have:=Jv g hi
   simp at hl
   omega
 ·rcases zaJ i o.length with hi|hi
  ·rw [zah hi] at hx
   rw [zah (by rw [h2.len];exact hi)] at DF
   have hk: ∀b,(Wb.heap.size<=b/\b<W.heap.size/\v1.ownBlock≠some b/\v2.ownBlock≠some b)->b<W.heap.size->(Wb.heap.size<=b/\b<(W2.setCell ⟨k6,1,none⟩ (.slice (aA g) (o.length+1) cap)).heap.size/\v1.ownBlock≠some b/\(Value.slice (aA g) (o.length+1) cap).ownBlock≠some b)/\_:=fun b yN B5=>
    ⟨⟨yN.1,by omega,yN.2.2.1,by have:=(hb b B5 yN.2.2.2 Za).2;simp [Value.ownBlock];omega⟩,(hb b B5 yN.2.2.2 Za).1⟩
   exact (h2.at_ i x sx hx DF).keep Za hk (fun x _ cs=>SmAt.keep Za hk 66 x cs)
  ·rw [zai hi] at hx
   rw [zai (by rw [h2.len];exact hi)] at DF
   have h0:i-o.length=0:=by
    have:=(List.getElem?_eq_some_iff.1 hx).1
    simp at this
    omega
   rw [h0] at hx
   rw [h2.len,h0] at DF
   simp at hx DF
   subst hx DF
   have hk: ∀b,Fz lo W.heap.size b->b<W.heap.size->(Wb.heap.size<=b/\b<(W2.setCell ⟨k6,1,none⟩ (.slice (aA g) (o.length+1) cap)).heap.size/\v1.ownBlock≠some b/\(Value.slice (aA g) (o.length+1) cap).ownBlock≠some b)/\_:=fun b yN B5=>by
    have h1:=yN.1
    have h3:v2.ownBlock≠some b:=fun e=>by have:=Eh b e;omega
    exact ⟨⟨by omega,by omega,fun e=>by have:=zm b e;omega,by have:=(hb b B5 h3 Za).2;simp [Value.ownBlock];omega⟩,(hb b B5 h3 Za).1⟩
   exact RwAt.keep hs Za hk (fun x _ cs=>SmAt.keep Za hk 66 x cs)
theorem mB: ∀l:List qV,l=(l.map (fun v=>[v])).flatten
 |[]=>rfl
 |x::l=>by
  rw [List.map_cons,List.flatten_cons,<-mB l]
  rfl
theorem rP:(Tryz.prog.info? 102).map (fun i=>(i.zero,i.size,i.bytes))=some (some (.slice none 0 0),1,24):=by kernel_rfl
theorem uJ{t:qB}{p:PrgD}(h:pProg t=some (p,0,0)): ∃l vs s1 ts s2,lexAll t= .inr l/\pVars ((pBegin l).toks.length+1) (pBegin l) []=some (vs,s1)/\
  pThreads (pBlock (pExpr 66) 66) (s1.toks.length+1) s1 []=some (ts,s2)/\pBad s2=false/\s2.toks.length<=1/\p=⟨vs,ts⟩:=by
 unfold pProg at h
 split at h
 ·rename_i f hf
  simp only [zaA,Prod.mk.injEq] at h
  obtain ⟨rfl,h1⟩:=h
  unfold lexAll at hf
  split at hf
  ·cases hf
   simp at h1
  ·split at hf
   ·cases hf
    simp at h1
   ·cases hf
 ·rename_i l hl
  simp only at h
  split at h
  ·cases h
  rename_i vs s1 hv
  split at h
  ·cases h
  rename_i ts s2 ht
  refine ⟨l,vs,s1,ts,s2,hl,hv,ht,?_⟩
  unfold pEnd at h
  cases hb:pBad s2
  ·by_cases yE:s2.toks.length>1
   ·simp [hb,yE,pFail] at h
   ·have hk:s2.kind=0:=by simpa [pBad] using hb
    simp [hb,yE,hk] at h
    exact ⟨rfl,by omega,h.symm⟩
  ·have hk:s2.kind≠0:=by simpa [pBad] using hb
   simp [hb] at h
   rw [if_neg hk] at h
   simp at h
   exact absurd h.2.2 hk
structure PrgAt(w:qW)(ok:Nat->Prop)(v1 v2:qV)(p:PrgD):Prop where
 vars:RwAt w ok 7 (fun v cs=>VarAt v cs) v1 p.vars
 threads:RwAt w ok 1 (fun th cs=> ∃v,cs=[v]/\RwAt w ok 10 (SmAt w ok 66) v th) v2 p.threads
theorem tV(t:qB)(p:PrgD)(hp:pProg t=some (p,0,0))(hne:lexAll t≠ .inr [])(w:qW)(yo:SpT w):
  qC 12 #[.string t] w fun e w'=> ∃v1 v2,e= .returned (.tuple #[.agg #[v1,v2],.agg #[iI 0,iI 0]])/\Below w.heap.size w w'/\PrgAt w' (fun b=>w.heap.size<=b/\b<w'.heap.size) v1 v2 p:=by
 obtain ⟨l,vs,s1,ts,s2,hl,hv,ht,hb,xd,rfl⟩:=uJ hp
 have HG:=Zh (fun W (hW:Below w.heap.size w W)=>ye2 t l hl (by rintro rfl;exact hne hl) W (yo.below hW))
 have HV:=Zh hv
 have KI:=Zh ht
 obtain ⟨i0,xF,xx,xu,xq⟩:=zan pf
 obtain ⟨j0,Dk,AN,Bs,Aj⟩:=zan rP
 clear hp hl hv ht hne
 go_enter Tryz.func12,Tryz.ntmps12
 go_wp2_with (go_at_call 22;refine (HG.out _ Zo).mono ?_;rintro e w1 ⟨P,rfl,hB,MJ,hP⟩;have yK:=hB.size;simp only [ar] at yK MJ;have Ph:=hP.lt;have HB:=Zh hB;have HP:=Zh hP;clear hB hP)
 obtain ⟨Wb,EV⟩: ∃Wb,Wb=(w1.alloc (.cells #[iI 0,iI 0] 34)).alloc (.cells #[.slice none 0 0,.slice none 0 0] 59):=⟨_,rfl⟩
 rw [<-EV]
 have ML:PgAt P (w1.heap.size+1) Wb Wb (pBegin l) (.slice none 0 0) (.slice none 0 0) []:=by
  rw [EV]
  exact ⟨Kp.refl _ _,(HP.out.alloc _).alloc _,by simpa using zab (w1.alloc (.cells #[iI 0,iI 0] 34)) (.cells #[.slice none 0 0,.slice none 0 0] 59),zaX _ _ _ _,by simp,by omega,by simp⟩
 have xZ:Wb.heap[w.heap.size]?=some (.cells #[.slice none 0 0,.slice none 0 0] 59 (0,0)):=by
  rw [EV,zac _ _ Zk,zac _ _ Za,HB.out.block _ Zk,zac _ _ Zg]
  exact zab _ _
 have An:Wb.heap[w.heap.size+1]?=some (.cells #[iI 0,iI 0] 34 (0,0)):=by
  rw [EV,zac _ _ Zk,zac _ _ Za,HB.out.block _ Zg]
  simpa using zab (w.alloc (.cells #[.slice none 0 0,.slice none 0 0] 59)) (.cells #[iI 0,iI 0] 34)
 have yF:Below w.heap.size w Wb:=by
  rw [EV]
  refine ab (ab ?_ _) _
  exact fG (ab (ab (zaa _ _) _) _) HB.out Zk
 have CY:Wb.heap.size=w1.heap.size+2:=by rw [EV];simp
 have HW:=Zh (⟨xZ,An,yF⟩:_/\_/\_)
 have P8:=Zh ML
 generalize CM:w1.heap.size+1=k6 at*
 have I1:w.heap.size+2<=P/\P<k6/\k6+1=Wb.heap.size:=⟨by omega,by omega,by omega⟩
 clear xZ An yF ML HB HP EV Ph MJ yK CY
 go_loopw [] (fun wr=> ∃(fuel:Nat) (s:PS) (o:List VarD) (v1:qV),pVars fuel s o=some (vs,s1)/\PgAt P k6 Wb wr s v1 (.slice none 0 0) o) (fun wr=>1000001-(match wr.cell? (aB k6 0) with|some v=>lenOf v|none=>0))
 case atStart=>exact ⟨_,_,[],_,HV.out,P8.out⟩
 case round=>
  obtain ⟨fuel,s,o,v1,wY,CB⟩:=hrel
  match fuel,wY with
  |0,wY=>exact absurd wY (by simp [pVars])
  |fuel+1,wY=>
   unfold pVars at wY
   have HC:=Zh CB
   have c0:=aa CB.out 0
   have hown:=CB.own
   clear CB
   cases hi:(pIs (⟨#[118,97,114]⟩:qB) s).1
   case false=>
    simp only [hi,zaY,if_false,zaA,Prod.mk.injEq] at wY
    obtain ⟨rfl,rfl⟩:=wY
    have HO:=Zh hown
    clear hown c0
    go_wp2_with (go_at_call 23;refine (dl _ HC.out.pt _).mono ?_;rintro e w1 ⟨rfl,hT,hP⟩;rw [kP hi] at hP;replace HC:=Zh (HC.out.turn hT hP);clear hT hP)
    have QG:=Zh (nW P 66)
    go_loopw [] (fun wr2=> ∃(fuel:Nat) (s:PS) (o2:List (List Sm)) (v2:qV) (svs:List qV),pThreads (pBlock (pExpr 66) 66) fuel s o2=some (ts,s2)/\PgAt P k6 Wb wr2 s v1 v2 o/\ThAt Wb.heap.size wr2 v1 v2 o2 svs) (fun wr2=>1000001-(match wr2.cell? (aB k6 1) with|some v=>lenOf v|none=>0))
    case atStart=>exact ⟨_,_,[],_,[],KI.out,HC.out,⟨zaX _ _ _ _,fun i _ e=>by simp [Value.ownBlock] at e,rfl,by simp⟩⟩
    case round=>
     obtain ⟨fuel,s,o2,v2,svs,wY,CB,yV⟩:=hrel
     match fuel,wY with
     |0,wY=>exact absurd wY (by simp [pThreads])
     |fuel+1,wY=>
      unfold pThreads at wY
      clear HC
      have HC:=Zh CB
      have zD:=Zh yV
      have c1:=aa CB.out 1
      have hown:=yV.own
      clear CB yV
      cases EF:(pIs (⟨#[116,104,114,101,97,100]⟩:qB) s).1
      case false=>
       simp only [EF,zaY,if_false,zaA,Prod.mk.injEq] at wY
       obtain ⟨rfl,rfl⟩:=wY
       go_wp2_with (go_at_call 23;refine (dl _ HC.out.pt _).mono ?_;rintro e w2 ⟨rfl,hT,hP⟩;rw [kP EF] at hP;replace zD:=Zh (zD.out.keep hT (fun i hi=>by have:=HC.out.lt;omega));replace HC:=Zh (HC.out.turn hT hP);clear hT hP)
       have xA:=(HC.out.kp.block w.heap.size Za Za).trans HW.out.1
       have Ai:=(HC.out.kp.block (w.heap.size+1) Za Za).trans HW.out.2.1
       obtain ⟨W,Pb⟩: ∃W,w2=putB (putB W w.heap.size #[.slice none 0 0,.slice none 0 0] 59) (w.heap.size+1) #[iI 0,iI 0] 34:=⟨w2,by rw [bE xA,bE Ai]⟩
       subst Pb
       have xq:=HC.out.kp.size
       have CM:=ac HC.out.out
       simp only [aN] at xq CM
       have q0:W.cell? (aB k6 0)=some v1:=by
        have:=aa HC.out.out 0
        simpa [dc,show¬k6=w.heap.size+1 by omega,show¬k6=w.heap.size by omega] using this
       have q1:W.cell? (aB k6 1)=some v2:=by
        have:=aa HC.out.out 1
        simpa [dc,show¬k6=w.heap.size+1 by omega,show¬k6=w.heap.size by omega] using this
       obtain ⟨ra,rn,rfl⟩: ∃a1 n1,v1= .slice a1 o.length n1:=by
        rcases HC.out.own.2 with ⟨rfl,h0⟩|⟨g,cap,cur,rfl, -⟩
        ·exact ⟨none,0,by rw [h0]⟩
        ·exact ⟨_,_,rfl⟩
       obtain ⟨rb,rm,rfl⟩: ∃a1 n1,v2= .slice a1 o2.length n1:=by
        rcases zD.out.own.2 with ⟨rfl,h0⟩|⟨g,cap,cur,rfl, -⟩
        ·exact ⟨none,0,by rw [h0]⟩
        ·exact ⟨_,_,rfl⟩
       clear xA Ai c1 hown
       go_wp2_with (first
        |(go_at_call 28;refine (ydw _ HC.out.pt hb xd).mono ?_;rintro e w3 ⟨rfl,p,rfl⟩))
       (try simp only [Exit.inBlock,Exit.then]);refine zad (by simp [results,Tryz.results12,go_sem,↓IntWalk.iteOmega];try rfl) rfl ?_
       have D9:=HC.out.own
       have I2:=zD.out
       have hS:=HC.out.sc
       have hK:=HC.out.kp
       have xZ:w.heap.size<W.heap.size:=by omega
       have hF: ∀b,b≠w.heap.size->b≠w.heap.size+1->b<W.heap.size->(putB (putB ((more W p).alloc (.cells #[iI s.line,iI 0] 34)) w.heap.size #[.slice ra o.length rn,.slice rb o2.length rm] 59) (w.heap.size+1) #[iI 0,iI 0] 34).heap[b]?=W.heap[b]?:=fun b h1 h2 h3=>by
        rw [aM,if_neg h2,aM,if_neg h1,zac _ _ ZR,ch _ _ _ h3]
       have I5: ∀b,b≠w.heap.size->b≠w.heap.size+1->(putB (putB W w.heap.size #[.slice none 0 0,.slice none 0 0] 59) (w.heap.size+1) #[iI 0,iI 0] 34).heap[b]?=W.heap[b]?:=fun b h1 h2=>by
        rw [aM,if_neg h2,aM,if_neg h1]
       have RF:(putB (putB ((more W p).alloc (.cells #[iI s.line,iI 0] 34)) w.heap.size #[.slice ra o.length rn,.slice rb o2.length rm] 59) (w.heap.size+1) #[iI 0,iI 0] 34).heap.size=W.heap.size+p.os.size+1:=by
        rw [aN,aN,ar]
        simp [go_sem]
       have Ky: ∀(F:qW),F=(putB (putB ((more W p).alloc (.cells #[iI s.line,iI 0] 34)) w.heap.size #[.slice ra o.length rn,.slice rb o2.length rm] 59) (w.heap.size+1) #[iI 0,iI 0] 34)->F.os=W.os/\F.tape=W.tape/\F.output=W.output:=fun F hF=>by
        subst hF
        exact ⟨(au W p).os,(au W p).tape,(au W p).output⟩
       have Pc:(putB (putB W w.heap.size #[.slice none 0 0,.slice none 0 0] 59) (w.heap.size+1) #[iI 0,iI 0] 34).heap.size=W.heap.size:=by rw [aN,aN]
       obtain ⟨JH,JG,JF⟩:=Ky _ rfl
       have IW:=HW.out.2.2
       generalize (putB (putB ((more W p).alloc (.cells #[iI s.line,iI 0] 34)) w.heap.size #[.slice ra o.length rn,.slice rb o2.length rm] 59) (w.heap.size+1) #[iI 0,iI 0] 34)=F at*
       have Ey:W.os=Wb.os/\W.tape=Wb.tape/\W.output=Wb.output:=⟨hK.os,hK.tape,hK.output⟩
       generalize (putB (putB W w.heap.size #[.slice none 0 0,.slice none 0 0] 59) (w.heap.size+1) #[iI 0,iI 0] 34)=W0 at*
       refine ⟨_,_,rfl,⟨JH.trans (Ey.1.trans IW.os),JG.trans (Ey.2.1.trans IW.tape),JF.trans (Ey.2.2.trans IW.output),by omega,fun k hk=>?_⟩,⟨?_,?_⟩⟩
       ·rw [hF k Za Za Za,<-I5 k Za Za,hK.block k Za Za]
        exact IW.block k hk
       ·have e:o.flatMap varC=(o.map varC).flatten:=by simp [List.flatMap]
        rw [e] at D9
        have hr:RwAt W0 (fun b=>Wb.heap.size<=b) 7 (fun v cs=>VarAt v cs) (.slice ra o.length rn) o:=by
         refine dH D9 (fun c hc=>?_) Zg rfl (fun i x c hx hc=>?_) (fun g hg=>(D9.lt g hg).1)
         ·obtain ⟨k, -,rfl⟩:=List.mem_map.1 hc
          rfl
         ·rw [zaj,hx] at hc
          cases hc
          obtain ⟨k,z,h1,h2,h3⟩:=hS x (zat hx)
          refine ⟨k,z,h1,h2,h3,?_⟩
          unfold varC
          rw [h1]
          rfl
        exact hr.keep Za (fun b hb hl=>⟨⟨by omega,by omega⟩,(hF b Za Za Za).trans (I5 b Za Za).symm⟩) (fun _ _ _ h=>h)
       ·have hO:=I2.own
        have e:=mB svs
        rw [e] at hO
        have xp: ∀b,(Wb.heap.size<=b/\b<W0.heap.size/\(Value.slice ra o.length rn).ownBlock≠some b/\(Value.slice rb o2.length rm).ownBlock≠some b)->b<W0.heap.size->(w.heap.size<=b/\b<F.heap.size)/\F.heap[b]?=W0.heap[b]?:=fun b hb hl=>⟨⟨by omega,by omega⟩,(hF b Za Za Za).trans (I5 b Za Za).symm⟩
        have hr:RwAt W0 (fun b=>Wb.heap.size<=b) 1 (fun th cs=> ∃v,cs=[v]/\RwAt F (fun b=>w.heap.size<=b/\b<F.heap.size) 10 (SmAt F (fun b=>w.heap.size<=b/\b<F.heap.size) 66) v th) (.slice rb o2.length rm) o2:=by
         refine dH hO (fun c hc=>?_) (by simp [I2.len]) rfl (fun i x c hx hc=>?_) (fun g hg=>(I2.own.lt g hg).1)
         ·obtain ⟨k, -,rfl⟩:=List.mem_map.1 hc
          rfl
         ·rw [zaj] at hc
          rcases C':svs[i]? with _|sv
          ·rw [C'] at hc
           cases hc
          rw [C'] at hc
          cases hc
          exact ⟨sv,rfl,(I2.at_ i x sv hx C').keep Za xp (fun x _ cs=>SmAt.keep Za xp 66 x cs)⟩
        exact hr.keep Za (fun b hb hl=>⟨⟨by omega,by omega⟩,(hF b Za Za Za).trans (I5 b Za Za).symm⟩) (fun _ _ _ h=>h)
      case true=>
       rw [cf EF] at wY
       simp only [if_true] at wY
       by_cases yA:1000000<=o2.length
       ·simp [yA] at wY
       simp only [yA,if_false] at wY
       rcases xo:pBlock (pExpr 66) 66 1 (pNext s) with _|⟨th,s3⟩
       ·simp [xo] at wY
       simp only [xo] at wY
       have yj:=Zh wY
       have Ac:=Zh xo
       clear wY xo
       obtain ⟨a1,n1,rfl⟩: ∃a1 n1,v2= .slice a1 o2.length n1:=by
        rcases hown.2 with ⟨rfl,h0⟩|⟨g,cap,cur,rfl, -⟩
        ·exact ⟨none,0,by rw [h0]⟩
        ·exact ⟨_,_,rfl⟩
       clear hown
       go_wp2_with (go_at_call 23;refine (dl _ HC.out.pt _).mono ?_;rintro e w2 ⟨rfl,hT,hP⟩;rw [cf EF] at hP;replace zD:=Zh (zD.out.keep hT (fun i hi=>by have:=HC.out.lt;omega));replace HC:=Zh (HC.out.turn hT hP);clear hT hP)
       have hA:True:=trivial
       have hB:w2.drew.cell? (aB k6 1)=some (.slice a1 o2.length n1):=aa HC.out.out 1
       replace HC:=Zh HC.out.drew
       replace zD:=Zh zD.out.drew
       refine ae (fun W=>True) (fun W=>W.cell? (aB k6 1)=some (.slice a1 o2.length n1)) 7 rfl ?_
       refine Zp 0 rfl (h:=Zl 1 [5,7] rfl (h:=Zp 2 rfl (h:=?_)));try simp only [Zq]
       refine Zs 3 rfl fun K hK=>?_
       go_simp
       go_at_call 27
       refine (QG.out _ _ _ _ HC.out.pt Za Za Ac.out).mono ?_
       rintro e w3 ⟨ba,bc,rfl,hT,hP,hS⟩
       have zm: ∀i,v1.ownBlock=some i->i<w2.heap.size:=fun i e=>(HC.out.own.lt i e).2
       have Eh: ∀i,(Value.slice a1 o2.length n1).ownBlock=some i->i<w2.heap.size:=fun i e=>(zD.out.own.lt i e).2
       have xD:=HC.out.kp.size
       replace zD:=Zh (zD.out.keep hT (fun i hi=>by have:=HC.out.lt;omega))
       replace HC:=Zh (HC.out.turn hT hP)
       clear hT hP hB
       have HS:=Zh hS
       clear hS
       have hB:w3.cell? (aB k6 1)=some (.slice a1 o2.length n1):=aa HC.out.out 1
       refine hK _ _ ⟨trivial,fun _=>hB⟩ ?_
       clear hK K
       refine Zs 4 rfl fun K hK=>?_
       go_simp
       refine hK _ _ ⟨trivial,fun _=>(aa (HC.out.al _).out 1)⟩ ?_
       clear hK K hB
       refine Zs 5 rfl fun K hK=>?_
       refine bf (.tmp 35) (.tmp 38) 57 102 j0 _ 1 24 Tryz.underlying57 Dk AN Bs Aj rfl Zd rfl rfl Wb.heap.size (.slice a1 o2.length n1) o2.length svs (zD.out.own.alloc _) w3.heap.size #[.slice ba th.length bc] 102 (0,0) (zab _ _) ZA ZA rfl ZD Za Za (HC.out.al _).kp.size ?_
       intro g2 cap2 w4 hown xb xk xE
       have zs:=HC.out.grow2_out (B:=0) zD.out xb
       have Hh:=HC.out.grow2_put (g:=g2) (cap:=cap2) zD.out xb
       have MB:=ThAt.grow (lo:=w2.heap.size) HC.out zD.out xb hown xk xD zm Eh HS.out
       clear HC hown xb xk zD HS
       have hB:w4.cell? (aB k6 1)=some (.slice a1 o2.length n1):=aa zs 1
       have f0:w4.frozen? (aB k6 1)=false:=ah zs 1
       refine hK _ _ ⟨trivial,fun _=>hB⟩ ?_
       clear hK K
       have HC:=Zh Hh
       have zD:=Zh MB
       clear Hh zs MB
       refine Zp 6 rfl (h:=?_);try simp only [Zq]
       refine Zs 7 rfl fun K hK=>?_
       go_simp
       refine hK _ _ ⟨trivial,fun hh=>Bool.noConfusion (hh.symm.trans (show _=true by kernel_rfl))⟩ ?_
       clear hK K
       refine af Zb ?_ _
       generalize w4.setCell ⟨k6,1,none⟩ (.slice (aA g2) (o2.length+1) cap2)=w5 at*
       go_wp2
       have hC:=HC.out
       refine ⟨⟨fuel,_,_,_,_,yj.out,hC,zD.out⟩,?_⟩
       rw [aa hC.out 1,c1]
       simp [lenOf]
       omega
   case true=>
    rw [cf hi] at wY
    simp only [if_true] at wY
    by_cases yA:1000000<=o.length
    ·simp [yA] at wY
    simp only [yA,if_false] at wY
    rcases It:pTyp 1 (pName (pNext s)).2 with _|⟨ty,s3⟩
    ·simp [It] at wY
    simp only [It] at wY
    have yj:=Zh wY
    have PK:=Zh It
    clear wY It
    obtain ⟨a1,n1,rfl⟩: ∃a1 n1,v1= .slice a1 o.length n1:=by
     rcases hown.2 with ⟨rfl,h0⟩|⟨g,cap,cur,rfl, -⟩
     ·exact ⟨none,0,by rw [h0]⟩
     ·exact ⟨_,_,rfl⟩
    clear hown
    go_wp2_with (go_at_call 23;refine (dl _ HC.out.pt _).mono ?_;rintro e w1 ⟨rfl,hT,hP⟩;rw [cf hi] at hP;replace HC:=Zh (HC.out.turn hT hP);clear hT hP)
    have hA:True:=trivial
    have hB:w1.drew.cell? (aB k6 0)=some (.slice a1 o.length n1):=aa HC.out.out 0
    replace HC:=Zh HC.out.drew
    refine ae (fun W=>True) (fun W=>W.cell? (aB k6 0)=some (.slice a1 o.length n1)) 10 rfl ?_
    refine Zp 0 rfl (h:=Zl 1 [8,10] rfl (h:=Zp 2 rfl (h:=Zp 4 rfl (h:=?_))));try simp only [Zq]
    refine Zs 3 rfl fun K hK=>?_
    go_simp
    go_at_call 24
    refine (fe _ HC.out.pt).mono ?_
    rintro e w2 ⟨rfl,hT,hP⟩
    replace HC:=Zh (HC.out.turn hT hP)
    clear hT hP hB
    have hB:w2.cell? (aB k6 0)=some (.slice a1 o.length n1):=aa HC.out.out 0
    refine hK _ _ ⟨trivial,fun _=>hB⟩ ?_
    clear hK K
    refine Zs 5 rfl fun K hK=>?_
    go_simp
    go_at_call 25
    refine (pu _ HC.out.pt _ _ PK.out).mono ?_
    rintro e w3 ⟨tk,tz,rfl,rfl,yh,yL,hT,hP⟩
    replace HC:=Zh (HC.out.turn hT hP)
    clear hT hP hB
    have hB:w3.cell? (aB k6 0)=some (.slice a1 o.length n1):=aa HC.out.out 0
    unfold scV
    refine hK _ _ ⟨trivial,fun _=>hB⟩ ?_
    clear hK K
    refine Zp 6 rfl (h:=?_);try simp only [Zq]
    refine Zs 7 rfl fun K hK=>?_
    go_simp
    refine hK _ _ ⟨trivial,fun _=>(aa (HC.out.al _).out 0)⟩ ?_
    clear hK K hB
    refine Zs 8 rfl fun K hK=>?_
    refine bf (.tmp 21) (.tmp 27) 56 100 i0 _ 7 96 Tryz.underlying56 xF xx xu xq rfl Zd rfl rfl Wb.heap.size (.slice a1 o.length n1) o.length (o.flatMap varC) (HC.out.al _).own w3.heap.size #[.string (pName (pNext s)).1,iI tk,iI tz,.bool false,.slice none 0 0,iI 0,.slice none 0 0] 100 (0,0) (zab _ _) ZA ZA rfl ZD Za Za (HC.out.al _).kp.size ?_
    intro g2 cap2 w4 hown xb xk xE
    have zs:=HC.out.grow_out xb
    have Hh:=HC.out.grow_put (x:=⟨(pName (pNext s)).1,scTy tk tz⟩) xb hown ⟨tk,tz,rfl,yh,yL⟩
    clear HC hown xb xk
    have hB:w4.cell? (aB k6 0)=some (.slice a1 o.length n1):=aa zs 0
    have f0:w4.frozen? (aB k6 0)=false:=ah zs 0
    refine hK _ _ ⟨trivial,fun _=>hB⟩ ?_
    clear hK K
    have HC:=Zh Hh
    clear Hh zs
    refine Zp 9 rfl (h:=?_);try simp only [Zq]
    refine Zs 10 rfl fun K hK=>?_
    go_simp
    refine hK _ _ ⟨trivial,fun hh=>Bool.noConfusion (hh.symm.trans (show _=true by kernel_rfl))⟩ ?_
    clear hK K
    refine af Zb ?_ _
    generalize w4.setCell ⟨k6,0,none⟩ (.slice (aA g2) (o.length+1) cap2)=w5 at*
    go_wp2_with (go_at_call 26;refine (cZ _ HC.out.pt _).mono ?_;rintro e w6 ⟨rfl,hT,hP⟩;replace HC:=Zh (HC.out.turn hT hP);clear hT hP)
    have hC:=HC.out
    refine ⟨⟨fuel,_,_,_,yj.out,hC⟩,?_⟩
    rw [aa hC.out 0,c0]
    simp [lenOf]
    omega
theorem eJ{s:qB}(h:eqB s (⟨#[]⟩:qB)=true):s=(⟨#[]⟩:qB):=by simpa [eqB] using h
theorem yaQ{α:Type}{l:List α}(h:l.isEmpty=true):l=[]:=List.isEmpty_iff.1 h
theorem yc6(x:Sm)(h:cForm x=true)(pa xa ta ua:Option Addr)(pc xc tc uc:Nat)(w:qW):qC 121 #[.agg #[iI x.kind,iI x.line,.string x.name,.string x.name2,iI x.order,.string x.var,.slice pa x.parts.length pc,.slice xa x.exprs.length xc,.slice ta x.thn.length tc,.slice ua x.els.length uc]] w (Gives w (.bool true)):=by
 unfold cForm cEmpty at h
 simp only [za0,zau,zak] at h
 obtain ⟨⟨⟨⟨⟨⟨⟨h1,h2⟩,hn⟩,yS⟩,hp⟩,hx⟩,ht⟩,hu⟩:=h
 obtain ⟨kind,line,name,name2,order,var,parts,exprs,thn,els⟩:=x
 simp only [Sm.kind,Sm.line,Sm.name,Sm.name2,Sm.order,Sm.var,Sm.parts,Sm.exprs,Sm.thn,Sm.els] at h1 h2 hn yS hp hx ht hu ⊢
 rcases (by omega:kind=1\/kind=2\/kind=3\/kind=4\/kind=5\/kind=6\/kind=7\/kind=8\/kind=9\/kind=10) with rfl|rfl|rfl|rfl|rfl|rfl|rfl|rfl|rfl|rfl
 all_goals
  simp at hn yS hp hx ht hu
  try (obtain ⟨hv,hp⟩:=hp)
  try (have IE:=eJ hn;subst IE)
  try (have JN:=eJ yS;subst JN)
  try (have FT:=eJ hv;subst FT)
  try subst hp
  try subst ht
  try subst hu
  try subst hx
  try rw [hx]
  try simp only [zaV]
 ·exact yc5 _ _ _ (⟨#[]⟩:qB) (⟨#[]⟩:qB) _ _ _ _ 0 _ _ 0 _ 0 _ w
 ·exact yc3 _ _ _ (⟨#[]⟩:qB) (⟨#[]⟩:qB) _ _ _ _ 0 _ _ 0 _ 0 _ w
 ·exact yc2 _ _ (⟨#[]⟩:qB) (⟨#[]⟩:qB) _ _ _ _ _ _ _ _ 0 _ 0 _ w
 ·exact yc1 _ _ (⟨#[]⟩:qB) (⟨#[]⟩:qB) _ _ _ _ _ _ _ _ 0 _ 0 _ w
 ·exact yc0 _ _ _ _ _ _ _ _ _ _ _ _ 0 _ 0 _ w
 ·exact ycZ _ _ (⟨#[]⟩:qB) (⟨#[]⟩:qB) _ _ _ _ _ _ _ _ 0 _ 0 _ w
 ·exact ycY _ _ (⟨#[]⟩:qB) (⟨#[]⟩:qB) (⟨#[]⟩:qB) _ _ _ _ 0 _ _ 0 _ 0 _ w
 ·exact ycX _ _ (⟨#[]⟩:qB) (⟨#[]⟩:qB) (⟨#[]⟩:qB) _ _ _ _ 0 _ _ _ _ _ _ w
 ·exact ycW _ _ (⟨#[]⟩:qB) (⟨#[]⟩:qB) (⟨#[]⟩:qB) _ _ _ _ 0 _ _ _ _ 0 _ w
 ·exact yc4 _ _ (⟨#[]⟩:qB) (⟨#[]⟩:qB) (⟨#[]⟩:qB) _ _ _ _ 0 _ _ 0 _ 0 _ w
theorem ycV(x:Ex)(h:cFormed x=true)(pa ka:Option Addr)(pc kc:Nat)(w:qW):qC 239 #[.agg #[iI x.kind,.int .u64 x.n,.string x.name,iI x.op,iI x.order,.string x.var,.slice pa x.parts.length pc,.slice ka x.kids.length kc]] w (Gives w (.bool true)):=by
 unfold cFormed cEmpty cKids at h
 simp only [za0,zau,zak,Bool.not_eq_true',decide_eq_false_iff_not] at h
 obtain ⟨⟨⟨⟨⟨⟨h1,h2⟩,hn⟩,hm⟩,ho⟩,hp⟩,hk⟩:=h
 obtain ⟨kind,n,name,op,order,var,parts,kids⟩:=x
 simp only [Ex.kind,Ex.n,Ex.name,Ex.op,Ex.order,Ex.var,Ex.parts,Ex.kids] at h1 h2 hn hm ho hp hk ⊢
 rcases (by omega:kind=1\/kind=2\/kind=3\/kind=4\/kind=5\/kind=6\/kind=7\/kind=8) with rfl|rfl|rfl|rfl|rfl|rfl|rfl|rfl
 all_goals
  simp at hn hm ho hp hk
  try (obtain ⟨hv,hp⟩:=hp)
  try (have Ok:=eJ hm;subst Ok)
  try (have FT:=eJ hv;subst FT)
  try subst hp
  try subst hn
  try subst hk
  try rw [hk]
  try simp only [zaV]
 ·subst ho
  exact ycU _ 0 _ (⟨#[]⟩:qB) (⟨#[]⟩:qB) _ _ 0 _ _ w
 ·subst ho
  exact ycT 0 0 _ _ (⟨#[]⟩:qB) _ _ 0 _ _ w
 ·exact ycS 0 _ _ (⟨#[]⟩:qB) (⟨#[]⟩:qB) _ _ 0 _ _ ho.1 ho.2 w
 all_goals subst ho
 ·exact ycR 0 0 _ (⟨#[]⟩:qB) _ _ _ _ _ _ w
 ·exact ycQ 0 0 _ (⟨#[]⟩:qB) _ _ _ _ _ _ w
 ·exact ycP 0 0 _ (⟨#[]⟩:qB) _ _ _ _ _ _ w
 ·exact ycO 0 0 _ (⟨#[]⟩:qB) _ _ _ _ _ _ w
 ·exact ycN 0 0 _ (⟨#[]⟩:qB) _ _ _ _ _ _ w
theorem ydb(k tk tz:Int)(h:cFits k (scTy tk tz)=true)(w:qW):qC 185 #[iI k,scV tk tz] w (Gives w (.bool true)):=by
 have hc:((k=3\/k=14)/\tk=1)\/((k=5\/k=6)/\tk=2/\tz=16)\/(¬k=3/\ ¬k=14/\ ¬k=5/\ ¬k=6/\tk=2/\tz<=8):=by
  have e1:tyKind (scTy tk tz)=tk:=rfl
  have e2:tySize (scTy tk tz)=tz:=rfl
  unfold cFits at h
  rw [e1,e2] at h
  repeat' split at h
  all_goals (simp at h;omega)
 clear h
 unfold scV
 rcases hc with ⟨rfl|rfl,rfl⟩|⟨rfl|rfl,rfl,rfl⟩|⟨h1,h2,h3,h4,rfl,h5⟩
 all_goals
  go_enter Tryz.func185,Tryz.ntmps185
  go_wp2
  go_ret
  exact Gives.mk rfl Z25_
def StAt(w:qW)(v:qV)(l:List qB):Prop:= ∃a c,v= .slice a l.length c/\(0<l.length-> ∃b o,a=some ⟨b,o,none⟩/\ ∀i s,l[i]?=some s->w.cell? ⟨b,o+i,none⟩=some (.string s))
def idxS(l:List qB)(s:qB):Int:=match l.findIdx? (fun t=>eqB t s) with
 |some i=>i
 |none=> -1
theorem ych{l:List qB}{s x:qB}{i:Nat}(hx:l[i]?=some x)(he:eqB x s=true)(xW: ∀j y,j<i->l[j]?=some y->eqB y s=false):idxS l s=i:=by
 have hl:=(List.getElem?_eq_some_iff.1 hx).1
 have:l.findIdx? (fun t=>eqB t s)=some i:=by
  rw [List.findIdx?_eq_some_iff_getElem]
  refine ⟨hl,by rw [(List.getElem?_eq_some_iff.1 hx).2];exact he,fun j hj=>by rw [xW j _ hj (zaC Za)];simp⟩
 unfold idxS
 rw [this]
theorem ycg{l:List qB}{s:qB}(xW: ∀(j:Nat) y,j<l.length->l[j]?=some y->eqB y s=false):idxS l s= -1:=by
 have:l.findIdx? (fun t=>eqB t s)=none:=by
  rw [List.findIdx?_eq_none_iff]
  intro x hx
  obtain ⟨j,hj,rfl⟩:=zaP hx
  exact xW j _ hj (zaC hj)
 unfold idxS
 rw [this]
theorem yb6(v:qV)(l:List qB)(s:qB)(hl:l.length<=1000000)(w:qW)(h:StAt w v l):qC 111 #[v,.string s] w fun e w'=>e= .returned (iI (idxS l s))/\w'=w:=by
 obtain ⟨a,c,rfl,hc⟩:=h
 have HC:=Zh hc
 clear hc
 go_enter Tryz.func111,Tryz.ntmps111
 go_wp2_with fail
 go_loopw [8] (fun v8 wr=>wr=w/\ ∃i:Nat,v8=iI i/\i<=l.length/\ ∀j y,j<i->l[j]?=some y->eqB y s=false) (fun v8 _=>l.length-(intOf v8).toNat)
 case atStart=>exact ⟨rfl,0,rfl,zaB _,fun j y hj=>by omega⟩
 case round=>
  obtain ⟨rfl,i,rfl,hi,xW⟩:=hrel
  have HN:=Zh xW
  clear xW
  rcases (by omega:i=l.length\/i<l.length) with h1|h1
  ·subst h1
   have HM:=Zh (ycg HN.out)
   go_wp2
   go_ret
   exact ⟨by rw [HM.out];rfl,rfl⟩
  ·obtain ⟨b,o,rfl,xG⟩:=HC.out Za
   obtain ⟨x,hx⟩: ∃x,l[i]?=some x:=⟨l[i],zaC h1⟩
   have xm:=xG i x hx
   have HX:=Zh hx
   clear hx xG
   have he:=(eqS s x)
   cases hq:eqB x s
   ·have Al:eqB s x=false:=by rw [eqB,decide_eq_false_iff_not] at hq ⊢;exact fun e=>hq e.symm
    rw [Al] at he
    have Dw:Hid (∀j y,j<i+1->l[j]?=some y->eqB y s=false):=Zh (fun j y hj hy=>by
     rcases zaJ j i with h2|h2
     ·exact HN.out j y h2 hy
     ·obtain rfl:j=i:=by omega
      rw [HX.out] at hy
      cases hy
      exact hq)
    go_wp2
    refine ⟨⟨trivial,i+1,by simp,by omega,Dw.out⟩,by simp [intOf];omega⟩
   ·have Al:eqB s x=true:=by rw [eqB,zau] at hq ⊢;exact hq.symm
    rw [Al] at he
    have HM:=Zh (ych HX.out hq HN.out)
    go_wp2
    go_ret
    exact ⟨by rw [HM.out];rfl,rfl⟩
theorem yci{l:List qB}{s:qB}:(decide (0<=idxS l s))=l.any (fun t=>eqB t s):=by
 unfold idxS
 rcases h:l.findIdx? (fun t=>eqB t s) with _|i
 ·rw [List.findIdx?_eq_none_iff] at h
  have:l.any (fun t=>eqB t s)=false:=by
   rw [List.any_eq_false]
   intro x hx
   simp [h x hx]
  rw [this]
  rfl
 ·rw [List.findIdx?_eq_some_iff_getElem] at h
  obtain ⟨hl,hx, -⟩:=h
  have:l.any (fun t=>eqB t s)=true:=List.any_eq_true.2 ⟨l[i],List.getElem_mem hl,hx⟩
  rw [this]
  simp
theorem yee(v:qV)(l:List qB)(s:qB)(hl:l.length<=1000000)(w:qW)(h:StAt w v l):qC 65 #[v,.string s] w fun e w'=>e= .returned (.bool (l.any (fun t=>eqB t s)))/\w'=w:=by
 have HI:=Zh (yb6 v l s hl w h)
 have HG:=Zh (yci (l:=l) (s:=s))
 clear h
 generalize idxS l s=k at*
 go_enter Tryz.func65,Tryz.ntmps65
 go_wp2_with (go_at_call 111;refine (HI.out).mono ?_;rintro e w1 ⟨rfl,u'⟩;replace u':=u'.symm;subst u')
 go_ret
 exact ⟨by rw [<-HG.out];rfl,rfl⟩
structure CkAt(C:Nat)(W:qW)(vv lv:qV)(loc:List qB)(lets line:Int):Prop where
 out:W.heap[C]?=some (.cells #[vv,lv,iI lets,iI line,iI 0,iI 0] 142 (0,0))
 own:W.ownsRow (C+1) 9 1 lv loc.length (loc.map Value.string)
theorem CkAt.below{C:Nat}{W W':qW}{vv lv:qV}{loc:List qB}{lets line:Int}(h:CkAt C W vv lv loc lets line)(hb:Below W.heap.size W W'):CkAt C W' vv lv loc lets line:=
 ⟨(hb.block C (ac h.out)).trans h.out,ax h.own (fun g hg=>hb.block g (h.own.lt g hg).2)⟩
theorem CkAt.st{C:Nat}{W:qW}{vv lv:qV}{loc:List qB}{lets line:Int}(h:CkAt C W vv lv loc lets line):StAt W lv loc:=by
 rcases h.own.2 with ⟨rfl,h0⟩|⟨g,cap,cur,rfl,h2,h3,h4,h5,h6,h7⟩
 ·exact ⟨none,0,by rw [h0],fun hp=>by omega⟩
 ·refine ⟨_,_,rfl,fun hp=>⟨g,0,rfl,fun i s hi=>?_⟩⟩
  have hj:(loc.map Value.string)[i]?=some (.string s):=by rw [zaj,hi];rfl
  rw [<-h7,List.getElem?_take] at hj
  rw [aa h3]
  split at hj
  ·simpa using hj
  ·cases hj
theorem ckbad{C:Nat}{vv lv:qV}{loc:List qB}{lets line:Int}(w:qW)(h:CkAt C w vv lv loc lets line):qC 51 #[pP C] w fun e w'=>e= .returned (.bool false)/\w'=w:=by
 have hc:=aa h.out
 clear h
 go_enter Tryz.func51,Tryz.ntmps51
 go_wp2
 go_ret
 exact ⟨rfl,rfl⟩
theorem ckneed{C:Nat}(k:Int)(w:qW):qC 120 #[pP C,.bool true,iI k] w fun e w'=>e= .returned (.tuple #[])/\w'=w:=by
 go_enter Tryz.func120,Tryz.ntmps120
 go_wp2
 go_end0
 exact ⟨rfl,rfl⟩
theorem ckthere{C:Nat}{vv lv:qV}{loc:List qB}{lets line:Int}(s:qB)(hl:loc.length<=1000000)(w:qW)(h:CkAt C w vv lv loc lets line):qC 123 #[pP C,.string s] w fun e w'=>e= .returned (.bool (cThere loc s))/\w'=w:=by
 have hc:=aa h.out
 have HS:=Zh (yee lv loc s hl w h.st)
 clear h
 go_enter Tryz.func123,Tryz.ntmps123
 go_wp2_with (go_at_call 65;refine (HS.out).mono ?_;rintro e w1 ⟨rfl,u'⟩;replace u':=u'.symm;subst u')
 go_ret
 exact ⟨rfl,rfl⟩
end Go.Proofs.YtjmfoeajhiimnaaGreatDoor
