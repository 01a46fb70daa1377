/- Walks. No condition. -/
import Derived.Test.YtcekjfmfcefjpaaGreatDoorG31
set_option maxRecDepth 100000
set_option maxHeartbeats 0
set_option linter.all false
namespace Go.Proofs.YtcekjfmfcefjpaaGreatDoor
open Go.RowKit Go.Sort
theorem ydo{P:Nat}{s:PS}(w:qW)(h:PAt w P s)(hb:pBad s=false)(hl:s.toks.length<=1):
  qC 36 #[pP P] w fun e w'=>e= .returned (.agg #[iI s.line,iI 0])/\ ∃p,w'=more w p:=by
 obtain ⟨v,h1,h2⟩:=h.lies
 obtain ⟨a,c,h3, -⟩:=h2
 subst h3
 have hk:s.kind=0:=by simpa [pBad] using hb
 have hc:=aa h1
 have wY:=ac h1
 have HC:=Zh h
 rw [hk] at hc
 have c0:w.cell? (aB P 0)=some (.slice a s.toks.length c):=hc 0
 have c1:w.cell? (aB P 1)=some (iI s.line):=hc 1
 have c2:w.cell? (aB P 2)=some (iI 0):=hc 2
 clear h h1 hc
 go_enter Tryz.func36,Tryz.ntmps36
 go_wp2_with (go_at_call 60;refine (bA _ (HC.out.alloc _)).mono ?_;rintro e w1 ⟨rfl,u'⟩;subst u')
 (try simp only [Exit.inBlock,Exit.then]);refine zad (by simp [results,Tryz.results36,go_sem,↓IntWalk.iteOmega];try rfl) rfl ?_
 exact ⟨rfl,bu (ab (zaa _ _) _)⟩
def varC(v:VarD):List qV:=[.string v.name,iI (v.type:TyF (Ty 65)).kind,iI (v.type:TyF (Ty 65)).size,.bool false,.slice none 0 0,iI 0,.slice none 0 0]
theorem oT:(Tryz.prog.info? 113).map (fun i=>(i.zero,i.size,i.bytes))=some (some (.agg #[.string ⟨#[]⟩,iI 0,iI 0,.bool false,.slice none 0 0,iI 0,.slice none 0 0]),7,96):=by kernel_rfl
structure PgAt(P k6:Nat)(Wb W:qW)(s:PS)(v1 v2:qV)(vs:List VarD):Prop where
 kp:Kp (fun k=>k=P\/k=k6) Wb W
 pt:PAt W P s
 out:W.heap[k6]?=some (.cells #[v1,v2] 64 (0,0))
 own:W.ownsRow Wb.heap.size 113 7 v1 vs.length (vs.flatMap varC)
 sc: ∀v∈vs,∃k z,v.type=scTy k z/\rng k/\rng z
 lt:P<k6/\k6<Wb.heap.size
theorem PgAt.turn{P k6:Nat}{Wb W W':qW}{s s':PS}{v1 v2:qV}{vs:List VarD}(h:PgAt P k6 Wb W s v1 v2 vs)(hT:Kp (·=P) W W')(hP:PAt W' P s'):PgAt P k6 Wb W' s' v1 v2 vs:=
 ⟨h.kp.trans (hT.mono (fun _ _ e=> .inl e)),hP,(hT.block k6 (ac h.out) (by have:=h.lt;omega)).trans h.out,ah h.own hT (fun g hg e=>by have:=(h.own.lt g hg).1;have:=h.lt;omega),h.sc,h.lt⟩
theorem PgAt.drew{P k6:Nat}{Wb W:qW}{s:PS}{v1 v2:qV}{vs:List VarD}(h:PgAt P k6 Wb W s v1 v2 vs):PgAt P k6 Wb W.drew s v1 v2 vs:=
 ⟨h.kp.drew,h.pt.drew,h.out,h.own,h.sc,h.lt⟩
theorem PgAt.al{P k6:Nat}{Wb W:qW}{s:PS}{v1 v2:qV}{vs:List VarD}(h:PgAt P k6 Wb W s v1 v2 vs)(o:Obj):PgAt P k6 Wb (W.alloc o) s v1 v2 vs:=
 ⟨h.kp.alloc o,h.pt.alloc o,(zac _ _ (ac h.out)).trans h.out,h.own.alloc o,h.sc,h.lt⟩
theorem PgAt.grow_out{P k6:Nat}{Wb W W2:qW}{s:PS}{v1 v2:qV}{vs:List VarD}{ob:Obj}(h:PgAt P k6 Wb W s v1 v2 vs)(wW:(W.alloc ob).grownBy W2 v1.ownBlock):W2.heap[k6]?=some (.cells #[v1,v2] 64 (0,0)):=
 (wW.block k6 (by have:=ac h.out;simp;omega) (fun e=>by have:=(h.own.lt k6 e.symm).1;have:=h.lt;omega)).trans ((zac _ _ (ac h.out)).trans h.out)
theorem PgAt.grow_put{P k6 g cap:Nat}{Wb W W2:qW}{s:PS}{v1 v2:qV}{vs:List VarD}{x:VarD}{ob:Obj}(h:PgAt P k6 Wb W s v1 v2 vs)(wW:(W.alloc ob).grownBy W2 v1.ownBlock)
  (ho:W2.ownsRow Wb.heap.size 113 7 (.slice (aA g) (vs.length+1) cap) (vs.length+1) (vs.flatMap varC++varC x)) (hx: ∃k z,x.type=scTy k z/\rng k/\rng z):
  PgAt P k6 Wb (W2.setCell ⟨k6,0,none⟩ (.slice (aA g) (vs.length+1) cap)) s (.slice (aA g) (vs.length+1) cap) v2 (vs++[x]):=by
 have hl:=h.lt
 have hv: ∀i,v1.ownBlock=some i->Wb.heap.size<=i:=fun i e=>(h.own.lt i e).1
 have wT:Kp (fun k=>some k=v1.ownBlock) (W.alloc ob) W2:=Kp.of_grown wW
 have ze:=Kp.set W2 k6 0 (.slice (aA g) (vs.length+1) cap)
 refine ⟨((h.kp.alloc ob).next wT (fun i hi e=>by have:=hv i e.symm;omega)).next ze (fun i hi e=> .inr e),((h.pt.alloc ob).keep (wT.mono (fun i hi e=>by have:=hv i e.symm;omega))).keep (ze.mono (fun i hi e=>by omega)),aJ (h.grow_out wW) _,?_,fun v hv=>?_,hl⟩
 ·have e1:(vs++[x]).flatMap varC=vs.flatMap varC++varC x:=by simp
  have e2:(vs++[x]).length=vs.length+1:=by simp
  rw [e1,e2]
  exact ah ho ze (fun i hi e=>by have:=(ho.lt i hi).1;omega)
 ·rcases List.mem_append.1 hv with h1|h1
  ·exact h.sc v h1
  ·simp only [List.mem_singleton] at h1
   subst h1
   exact hx
structure ThAt(B:Nat)(W:qW)(v1 v2:qV)(o:List (List Sm))(svs:List qV):Prop where
 own:W.ownsRow B 115 1 v2 o.length svs
 ne: ∀i,v1.ownBlock=some i->v2.ownBlock≠some i
 len:svs.length=o.length
 at_: ∀(i:Nat) th sv,o[i]?=some th->svs[i]?=some sv->RwAt W (fun b=>B<=b/\b<W.heap.size/\v1.ownBlock≠some b/\v2.ownBlock≠some b) 10 (SmAt W (fun b=>B<=b/\b<W.heap.size/\v1.ownBlock≠some b/\v2.ownBlock≠some b) 66) sv th
theorem ThAt.keep{B:Nat}{W W':qW}{v1 v2:qV}{o:List (List Sm)}{svs:List qV}{X:Nat->Prop}(h:ThAt B W v1 v2 o svs)(hk:Kp X W W')(hX: ∀i,X i->i<B):ThAt B W' v1 v2 o svs:=
 ⟨ah h.own hk (fun g hg e=>by have:=hX g e;have:=(h.own.lt g hg).1;omega),h.ne,h.len,fun i th sv h1 h2=>
  have hb: ∀b,(B<=b/\b<W.heap.size/\v1.ownBlock≠some b/\v2.ownBlock≠some b)->b<W.heap.size->(B<=b/\b<W'.heap.size/\v1.ownBlock≠some b/\v2.ownBlock≠some b)/\W'.heap[b]?=W.heap[b]?:=fun b hb hl=>⟨⟨hb.1,by have:=hk.size;omega,hb.2.2⟩,hk.block b hl (fun e=>by have:=hX b e;omega)⟩
  (h.at_ i th sv h1 h2).keep hk.size hb (fun x _ cs=>SmAt.keep hk.size hb 66 x cs)⟩
theorem ThAt.drew{B:Nat}{W:qW}{v1 v2:qV}{o:List (List Sm)}{svs:List qV}(h:ThAt B W v1 v2 o svs):ThAt B W.drew v1 v2 o svs:=
 h.keep (X:=fun _=>False) (Kp.dr _) (fun _ h=>h.elim)
theorem PgAt.grow2_out{P k6 B:Nat}{Wb W W2:qW}{s:PS}{v1 v2:qV}{vs:List VarD}{o:List (List Sm)}{svs:List qV}{ob:Obj}(h:PgAt P k6 Wb W s v1 v2 vs)(h2:ThAt Wb.heap.size W v1 v2 o svs)(wW:(W.alloc ob).grownBy W2 v2.ownBlock):W2.heap[k6]?=some (.cells #[v1,v2] 64 (0,0)):=
 (wW.block k6 (by have:=ac h.out;simp;omega) (fun e=>by have:=(h2.own.lt k6 e.symm).1;have:=h.lt;omega)).trans ((zac _ _ (ac h.out)).trans h.out)
theorem PgAt.grow2_put{P k6 g cap:Nat}{Wb W W2:qW}{s:PS}{v1 v2:qV}{vs:List VarD}{o:List (List Sm)}{svs:List qV}{ob:Obj}(h:PgAt P k6 Wb W s v1 v2 vs)(h2:ThAt Wb.heap.size W v1 v2 o svs)(wW:(W.alloc ob).grownBy W2 v2.ownBlock):
  PgAt P k6 Wb (W2.setCell ⟨k6,1,none⟩ (.slice (aA g) (o.length+1) cap)) s v1 (.slice (aA g) (o.length+1) cap) vs:=by
 have hl:=h.lt
 have hv: ∀i,v2.ownBlock=some i->Wb.heap.size<=i:=fun i e=>(h2.own.lt i e).1
 have wT:Kp (fun k=>some k=v2.ownBlock) (W.alloc ob) W2:=Kp.of_grown wW
 have ze:=Kp.set W2 k6 1 (.slice (aA g) (o.length+1) cap)
 refine ⟨((h.kp.alloc ob).next wT (fun i hi e=>by have:=hv i e.symm;omega)).next ze (fun i hi e=> .inr e),((h.pt.alloc ob).keep (wT.mono (fun i hi e=>by have:=hv i e.symm;omega))).keep (ze.mono (fun i hi e=>by omega)),aJ (h.grow2_out (B:=0) h2 wW) _,?_,h.sc,hl⟩
 exact ah (ah (h.own.alloc ob) wT (fun i hi e=>h2.ne i hi e.symm)) ze (fun i hi e=>by have:=(h.own.lt i hi).1;omega)
theorem ThAt.grow{P k6 g cap lo:Nat}{Wb W W2:qW}{s:PS}{v1 v2:qV}{vs:List VarD}{o:List (List Sm)}{svs:List qV}{ob:Obj}{th:List Sm}{sv:qV}(h:PgAt P k6 Wb W s v1 v2 vs)(h2:ThAt Wb.heap.size W v1 v2 o svs)(wW:(W.alloc ob).grownBy W2 v2.ownBlock)
  (ho:W2.ownsRow Wb.heap.size 115 1 (.slice (aA g) (o.length+1) cap) (o.length+1) (svs++[sv])) (hl:v2.ownBlock=some g\/g=(W.alloc ob).heap.size) (xx:Wb.heap.size<=lo) (zc: ∀i,v1.ownBlock=some i->i<lo) (Ed: ∀i,v2.ownBlock=some i->i<lo)
  (hs:SsAt 66 lo W.heap.size sv th W):ThAt Wb.heap.size (W2.setCell ⟨k6,1,none⟩ (.slice (aA g) (o.length+1) cap)) v1 (.slice (aA g) (o.length+1) cap) (o++[th]) (svs++[sv]):=by
 have wY:=h.lt
 have wT:Kp (fun k=>some k=v2.ownBlock) (W.alloc ob) W2:=Kp.of_grown wW
 have ze:=Kp.set W2 k6 1 (.slice (aA g) (o.length+1) cap)
 have hz:W.heap.size+1<=(W2.setCell ⟨k6,1,none⟩ (.slice (aA g) (o.length+1) cap)).heap.size:=by
  have h1:=wT.size
  have h2:=ze.size
  simp only [au] at h1
  omega
 have hb: ∀b,b<W.heap.size->v2.ownBlock≠some b->b≠k6->(W2.setCell ⟨k6,1,none⟩ (.slice (aA g) (o.length+1) cap)).heap[b]?=W.heap[b]?/\b≠g:=fun b h1 h2 h3=>by
  refine ⟨(ze.block b (by have:=wT.size;simp only [au] at this;omega) h3).trans ((wT.block b Zk (fun e=>h2 e.symm)).trans (zac _ _ h1)),fun e=>?_⟩
  subst e
  rcases hl with hl|hl
  ·exact h2 hl
  ·simp at hl
   omega
 have Ja: ∀i,v1.ownBlock=some i->i<W.heap.size:=fun i e=>(h.own.lt i e).2
 refine ⟨?_,fun i hi e=>?_,by simp [h2.len],fun i x sx hx DD=>?_⟩
 ·rw [show (o++[th]).length=o.length+1 by simp]
  exact ah ho ze (fun i hi e=>by have:=(ho.lt i hi).1;omega)
 ·simp [Value.ownBlock] at e
  subst e
  rcases hl with hl|hl
  ·exact h2.ne g hi hl
  ·have:=Ja g hi
   simp at hl
   omega
 ·rcases zaJ i o.length with hi|hi
  ·rw [zah hi] at hx
   rw [zah (by rw [h2.len];exact hi)] at DD
   have hk: ∀b,(Wb.heap.size<=b/\b<W.heap.size/\v1.ownBlock≠some b/\v2.ownBlock≠some b)->b<W.heap.size->(Wb.heap.size<=b/\b<(W2.setCell ⟨k6,1,none⟩ (.slice (aA g) (o.length+1) cap)).heap.size/\v1.ownBlock≠some b/\(Value.slice (aA g) (o.length+1) cap).ownBlock≠some b)/\_:=fun b yF Bp=>
    ⟨⟨yF.1,by omega,yF.2.2.1,by have:=(hb b Bp yF.2.2.2 Za).2;simp [Value.ownBlock];omega⟩,(hb b Bp yF.2.2.2 Za).1⟩
   exact (h2.at_ i x sx hx DD).keep Za hk (fun x _ cs=>SmAt.keep Za hk 66 x cs)
  ·rw [zai hi] at hx
   rw [zai (by rw [h2.len];exact hi)] at DD
   have h0:i-o.length=0:=by
    have:=(List.getElem?_eq_some_iff.1 hx).1
    simp at this
    omega
   rw [h0] at hx
   rw [h2.len,h0] at DD
   simp at hx DD
   subst hx DD
   have hk: ∀b,Fz lo W.heap.size b->b<W.heap.size->(Wb.heap.size<=b/\b<(W2.setCell ⟨k6,1,none⟩ (.slice (aA g) (o.length+1) cap)).heap.size/\v1.ownBlock≠some b/\(Value.slice (aA g) (o.length+1) cap).ownBlock≠some b)/\_:=fun b yF Bp=>by
    have h1:=yF.1
    have h3:v2.ownBlock≠some b:=fun e=>by have:=Ed b e;omega
    exact ⟨⟨by omega,by omega,fun e=>by have:=zc b e;omega,by have:=(hb b Bp h3 Za).2;simp [Value.ownBlock];omega⟩,(hb b Bp h3 Za).1⟩
   exact RwAt.keep hs Za hk (fun x _ cs=>SmAt.keep Za hk 66 x cs)
theorem mz: ∀l:List qV,l=(l.map (fun v=>[v])).flatten
 |[]=>rfl
 |x::l=>by
  rw [List.map_cons,List.flatten_cons,<-mz l]
  rfl
theorem ro:(Tryz.prog.info? 115).map (fun i=>(i.zero,i.size,i.bytes))=some (some (.slice none 0 0),1,24):=by kernel_rfl
theorem t5{t:qB}{p:PrgD}(h:pProg t=some (p,0,0)): ∃l vs s1 ts s2,lexAll t= .inr l/\pVars ((pBegin l).toks.length+1) (pBegin l) []=some (vs,s1)/\
  pThreads (pBlock (pExpr 66) 66) (s1.toks.length+1) s1 []=some (ts,s2)/\pBad s2=false/\s2.toks.length<=1/\p=⟨vs,ts⟩:=by
 unfold pProg at h
 split at h
 ·rename_i f hf
  simp only [zaA,Prod.mk.injEq] at h
  obtain ⟨rfl,h1⟩:=h
  unfold lexAll at hf
  split at hf
  ·cases hf
   simp at h1
  ·split at hf
   ·cases hf
    simp at h1
   ·cases hf
 ·rename_i l hl
  simp only at h
  split at h
  ·cases h
  rename_i vs s1 hv
  split at h
  ·cases h
  rename_i ts s2 ht
  refine ⟨l,vs,s1,ts,s2,hl,hv,ht,?_⟩
  unfold pEnd at h
  cases hb:pBad s2
  ·by_cases yy:s2.toks.length>1
   ·simp [hb,yy,pFail] at h
   ·have hk:s2.kind=0:=by simpa [pBad] using hb
    simp [hb,yy,hk] at h
    exact ⟨rfl,by omega,h.symm⟩
  ·have hk:s2.kind≠0:=by simpa [pBad] using hb
   simp [hb] at h
   rw [if_neg hk] at h
   simp at h
   exact absurd h.2.2 hk
structure PrgAt(w:qW)(ok:Nat->Prop)(v1 v2:qV)(p:PrgD):Prop where
 vars:RwAt w ok 7 (fun v cs=>VarAt v cs) v1 p.vars
 threads:RwAt w ok 1 (fun th cs=> ∃v,cs=[v]/\RwAt w ok 10 (SmAt w ok 66) v th) v2 p.threads
theorem tg(t:qB)(p:PrgD)(hp:pProg t=some (p,0,0))(hne:lexAll t≠ .inr [])(w:qW)(yT:SpT w):
  qC 11 #[.string t] w fun e w'=> ∃v1 v2,e= .returned (.tuple #[.agg #[v1,v2],.agg #[iI 0,iI 0]])/\Below w.heap.size w w'/\PrgAt w' (fun b=>w.heap.size<=b/\b<w'.heap.size) v1 v2 p:=by
 obtain ⟨l,vs,s1,ts,s2,hl,hv,ht,hb,wX,rfl⟩:=t5 hp
 have HG:=Zh (fun W (hW:Below w.heap.size w W)=>yeJ t l hl (by rintro rfl;exact hne hl) W (yT.below hW))
 have HV:=Zh hv
 have Kx:=Zh ht
 obtain ⟨i0,xz,xq,xm,xk⟩:=zan oT
 obtain ⟨j0,Dk,AH,Bm,Ag⟩:=zan ro
 clear hp hl hv ht hne
 go_enter Tryz.func11,Tryz.ntmps11
 go_wp2_with (go_at_call 30;refine (HG.out _ Zr).mono ?_;rintro e w1 ⟨P,rfl,hB,Mm,hP⟩;have yK:=hB.size;simp only [au] at yK Mm;have hPs:=hP.lt;have HB:=Zh hB;have HP:=Zh hP;clear hB hP)
 obtain ⟨Wb,EK⟩: ∃Wb,Wb=(w1.alloc (.cells #[iI 0,iI 0] 31)).alloc (.cells #[.slice none 0 0,.slice none 0 0] 64):=⟨_,rfl⟩
 rw [<-EK]
 have Mn:PgAt P (w1.heap.size+1) Wb Wb (pBegin l) (.slice none 0 0) (.slice none 0 0) []:=by
  rw [EK]
  exact ⟨Kp.refl _ _,(HP.out.alloc _).alloc _,by simpa using zab (w1.alloc (.cells #[iI 0,iI 0] 31)) (.cells #[.slice none 0 0,.slice none 0 0] 64),zaX _ _ _ _,by simp,by omega,by simp⟩
 have xT:Wb.heap[w.heap.size]?=some (.cells #[.slice none 0 0,.slice none 0 0] 64 (0,0)):=by
  rw [EK,zac _ _ Zk,zac _ _ Za,HB.out.block _ Zk,zac _ _ Zi]
  exact zab _ _
 have AQ:Wb.heap[w.heap.size+1]?=some (.cells #[iI 0,iI 0] 31 (0,0)):=by
  rw [EK,zac _ _ Zk,zac _ _ Za,HB.out.block _ Zi]
  simpa using zab (w.alloc (.cells #[.slice none 0 0,.slice none 0 0] 64)) (.cells #[iI 0,iI 0] 31)
 have yz:Below w.heap.size w Wb:=by
  rw [EK]
  refine ab (ab ?_ _) _
  exact fE (ab (ab (zaa _ _) _) _) HB.out Zk
 have CV:Wb.heap.size=w1.heap.size+2:=by rw [EK];simp
 have HW:=Zh (⟨xT,AQ,yz⟩:_/\_/\_)
 have HPG:=Zh Mn
 generalize CH:w1.heap.size+1=k6 at*
 have ID:w.heap.size+2<=P/\P<k6/\k6+1=Wb.heap.size:=⟨by omega,by omega,by omega⟩
 clear xT AQ yz Mn HB HP EK hPs Mm yK CV
 go_loopw [] (fun wr=> ∃(fuel:Nat) (s:PS) (o:List VarD) (v1:qV),pVars fuel s o=some (vs,s1)/\PgAt P k6 Wb wr s v1 (.slice none 0 0) o) (fun wr=>1000001-(match wr.cell? (aB k6 0) with|some v=>lenOf v|none=>0))
 case atStart=>exact ⟨_,_,[],_,HV.out,HPG.out⟩
 case round=>
  obtain ⟨fuel,s,o,v1,wU,Cw⟩:=hrel
  match fuel,wU with
  |0,wU=>exact absurd wU (by simp [pVars])
  |fuel+1,wU=>
   unfold pVars at wU
   have HC:=Zh Cw
   have c0:=aa Cw.out 0
   have hown:=Cw.own
   clear Cw
   cases hi:(pIs (⟨#[118,97,114]⟩:qB) s).1
   case false=>
    simp only [hi,zaY,if_false,zaA,Prod.mk.injEq] at wU
    obtain ⟨rfl,rfl⟩:=wU
    have HO:=Zh hown
    clear hown c0
    go_wp2_with (go_at_call 31;refine (di _ HC.out.pt _).mono ?_;rintro e w1 ⟨rfl,hT,hP⟩;rw [kI hi] at hP;replace HC:=Zh (HC.out.turn hT hP);clear hT hP)
    have HBK:=Zh (nL P 66)
    go_loopw [] (fun wr2=> ∃(fuel:Nat) (s:PS) (o2:List (List Sm)) (v2:qV) (svs:List qV),pThreads (pBlock (pExpr 66) 66) fuel s o2=some (ts,s2)/\PgAt P k6 Wb wr2 s v1 v2 o/\ThAt Wb.heap.size wr2 v1 v2 o2 svs) (fun wr2=>1000001-(match wr2.cell? (aB k6 1) with|some v=>lenOf v|none=>0))
    case atStart=>exact ⟨_,_,[],_,[],Kx.out,HC.out,⟨zaX _ _ _ _,fun i _ e=>by simp [Value.ownBlock] at e,rfl,by simp⟩⟩
    case round=>
     obtain ⟨fuel,s,o2,v2,svs,wU,Cw,yb⟩:=hrel
     match fuel,wU with
     |0,wU=>exact absurd wU (by simp [pThreads])
     |fuel+1,wU=>
      unfold pThreads at wU
      clear HC
      have HC:=Zh Cw
      have zq:=Zh yb
      have c1:=aa Cw.out 1
      have hown:=yb.own
      clear Cw yb
      cases Ez:(pIs (⟨#[116,104,114,101,97,100]⟩:qB) s).1
      case false=>
       simp only [Ez,zaY,if_false,zaA,Prod.mk.injEq] at wU
       obtain ⟨rfl,rfl⟩:=wU
       go_wp2_with (go_at_call 31;refine (di _ HC.out.pt _).mono ?_;rintro e w2 ⟨rfl,hT,hP⟩;rw [kI Ez] at hP;replace zq:=Zh (zq.out.keep hT (fun i hi=>by have:=HC.out.lt;omega));replace HC:=Zh (HC.out.turn hT hP);clear hT hP)
       have xr:=(HC.out.kp.block w.heap.size Za Za).trans HW.out.1
       have AY:=(HC.out.kp.block (w.heap.size+1) Za Za).trans HW.out.2.1
       obtain ⟨W,hWW⟩: ∃W,w2=putB (putB W w.heap.size #[.slice none 0 0,.slice none 0 0] 64) (w.heap.size+1) #[iI 0,iI 0] 31:=⟨w2,by rw [bz xr,bz AY]⟩
       subst hWW
       have xk:=HC.out.kp.size
       have CH:=ac HC.out.out
       simp only [aO] at xk CH
       have q0:W.cell? (aB k6 0)=some v1:=by
        have:=aa HC.out.out 0
        simpa [dc,show¬k6=w.heap.size+1 by omega,show¬k6=w.heap.size by omega] using this
       have q1:W.cell? (aB k6 1)=some v2:=by
        have:=aa HC.out.out 1
        simpa [dc,show¬k6=w.heap.size+1 by omega,show¬k6=w.heap.size by omega] using this
       obtain ⟨ra,rn,rfl⟩: ∃a1 n1,v1= .slice a1 o.length n1:=by
        rcases HC.out.own.2 with ⟨rfl,h0⟩|⟨g,cap,cur,rfl, -⟩
        ·exact ⟨none,0,by rw [h0]⟩
        ·exact ⟨_,_,rfl⟩
       obtain ⟨rb,rm,rfl⟩: ∃a1 n1,v2= .slice a1 o2.length n1:=by
        rcases zq.out.own.2 with ⟨rfl,h0⟩|⟨g,cap,cur,rfl, -⟩
        ·exact ⟨none,0,by rw [h0]⟩
        ·exact ⟨_,_,rfl⟩
       clear xr AY c1 hown
       go_wp2_with (first
        |(go_at_call 36;refine (ydo _ HC.out.pt hb wX).mono ?_;rintro e w3 ⟨rfl,p,rfl⟩))
       (try simp only [Exit.inBlock,Exit.then]);refine zad (by simp [results,Tryz.results11,go_sem,↓IntWalk.iteOmega];try rfl) rfl ?_
       have Ki:=HC.out.own
       have IE:=zq.out
       have hS:=HC.out.sc
       have hK:=HC.out.kp
       have xT:w.heap.size<W.heap.size:=by omega
       have hF: ∀b,b≠w.heap.size->b≠w.heap.size+1->b<W.heap.size->(putB (putB ((more W p).alloc (.cells #[iI s.line,iI 0] 31)) w.heap.size #[.slice ra o.length rn,.slice rb o2.length rm] 64) (w.heap.size+1) #[iI 0,iI 0] 31).heap[b]?=W.heap[b]?:=fun b h1 h2 h3=>by
        rw [aL,if_neg h2,aL,if_neg h1,zac _ _ ZR,cd _ _ _ h3]
       have IG: ∀b,b≠w.heap.size->b≠w.heap.size+1->(putB (putB W w.heap.size #[.slice none 0 0,.slice none 0 0] 64) (w.heap.size+1) #[iI 0,iI 0] 31).heap[b]?=W.heap[b]?:=fun b h1 h2=>by
        rw [aL,if_neg h2,aL,if_neg h1]
       have hFs:(putB (putB ((more W p).alloc (.cells #[iI s.line,iI 0] 31)) w.heap.size #[.slice ra o.length rn,.slice rb o2.length rm] 64) (w.heap.size+1) #[iI 0,iI 0] 31).heap.size=W.heap.size+p.os.size+1:=by
        rw [aO,aO,au]
        simp [go_sem]
       have Km: ∀(F:qW),F=(putB (putB ((more W p).alloc (.cells #[iI s.line,iI 0] 31)) w.heap.size #[.slice ra o.length rn,.slice rb o2.length rm] 64) (w.heap.size+1) #[iI 0,iI 0] 31)->F.os=W.os/\F.tape=W.tape/\F.output=W.output:=fun F hF=>by
        subst hF
        exact ⟨(av W p).os,(av W p).tape,(av W p).output⟩
       have hW0s:(putB (putB W w.heap.size #[.slice none 0 0,.slice none 0 0] 64) (w.heap.size+1) #[iI 0,iI 0] 31).heap.size=W.heap.size:=by rw [aO,aO]
       obtain ⟨Jp,Jo,Jn⟩:=Km _ rfl
       have IA:=HW.out.2.2
       generalize (putB (putB ((more W p).alloc (.cells #[iI s.line,iI 0] 31)) w.heap.size #[.slice ra o.length rn,.slice rb o2.length rm] 64) (w.heap.size+1) #[iI 0,iI 0] 31)=F at*
       have Ev:W.os=Wb.os/\W.tape=Wb.tape/\W.output=Wb.output:=⟨hK.os,hK.tape,hK.output⟩
       generalize (putB (putB W w.heap.size #[.slice none 0 0,.slice none 0 0] 64) (w.heap.size+1) #[iI 0,iI 0] 31)=W0 at*
       refine ⟨_,_,rfl,⟨Jp.trans (Ev.1.trans IA.os),Jo.trans (Ev.2.1.trans IA.tape),Jn.trans (Ev.2.2.trans IA.output),by omega,fun k hk=>?_⟩,⟨?_,?_⟩⟩
       ·rw [hF k Za Za Za,<-IG k Za Za,hK.block k Za Za]
        exact IA.block k hk
       ·have e:o.flatMap varC=(o.map varC).flatten:=by simp [List.flatMap]
        rw [e] at Ki
        have hr:RwAt W0 (fun b=>Wb.heap.size<=b) 7 (fun v cs=>VarAt v cs) (.slice ra o.length rn) o:=by
         refine dF Ki (fun c hc=>?_) Zi rfl (fun i x c hx hc=>?_) (fun g hg=>(Ki.lt g hg).1)
         ·obtain ⟨k, -,rfl⟩:=List.mem_map.1 hc
          rfl
         ·rw [zaj,hx] at hc
          cases hc
          obtain ⟨k,z,h1,h2,h3⟩:=hS x (zat hx)
          refine ⟨k,z,h1,h2,h3,?_⟩
          unfold varC
          rw [h1]
          rfl
        exact hr.keep Za (fun b hb hl=>⟨⟨by omega,by omega⟩,(hF b Za Za Za).trans (IG b Za Za).symm⟩) (fun _ _ _ h=>h)
       ·have hO:=IE.own
        have e:=mz svs
        rw [e] at hO
        have xh: ∀b,(Wb.heap.size<=b/\b<W0.heap.size/\(Value.slice ra o.length rn).ownBlock≠some b/\(Value.slice rb o2.length rm).ownBlock≠some b)->b<W0.heap.size->(w.heap.size<=b/\b<F.heap.size)/\F.heap[b]?=W0.heap[b]?:=fun b hb hl=>⟨⟨by omega,by omega⟩,(hF b Za Za Za).trans (IG b Za Za).symm⟩
        have hr:RwAt W0 (fun b=>Wb.heap.size<=b) 1 (fun th cs=> ∃v,cs=[v]/\RwAt F (fun b=>w.heap.size<=b/\b<F.heap.size) 10 (SmAt F (fun b=>w.heap.size<=b/\b<F.heap.size) 66) v th) (.slice rb o2.length rm) o2:=by
         refine dF hO (fun c hc=>?_) (by simp [IE.len]) rfl (fun i x c hx hc=>?_) (fun g hg=>(IE.own.lt g hg).1)
         ·obtain ⟨k, -,rfl⟩:=List.mem_map.1 hc
          rfl
         ·rw [zaj] at hc
          rcases C':svs[i]? with _|sv
          ·rw [C'] at hc
           cases hc
          rw [C'] at hc
          cases hc
          exact ⟨sv,rfl,(IE.at_ i x sv hx C').keep Za xh (fun x _ cs=>SmAt.keep Za xh 66 x cs)⟩
        exact hr.keep Za (fun b hb hl=>⟨⟨by omega,by omega⟩,(hF b Za Za Za).trans (IG b Za Za).symm⟩) (fun _ _ _ h=>h)
      case true=>
       rw [bM Ez] at wU
       simp only [if_true] at wU
       by_cases yu:1000000<=o2.length
       ·simp [yu] at wU
       simp only [yu,if_false] at wU
       rcases xg:pBlock (pExpr 66) 66 1 (pNext s) with _|⟨th,s3⟩
       ·simp [xg] at wU
       simp only [xg] at wU
       have xZ:=Zh wU
       have zZ:=Zh xg
       clear wU xg
       obtain ⟨a1,n1,rfl⟩: ∃a1 n1,v2= .slice a1 o2.length n1:=by
        rcases hown.2 with ⟨rfl,h0⟩|⟨g,cap,cur,rfl, -⟩
        ·exact ⟨none,0,by rw [h0]⟩
        ·exact ⟨_,_,rfl⟩
       clear hown
       go_wp2_with (go_at_call 31;refine (di _ HC.out.pt _).mono ?_;rintro e w2 ⟨rfl,hT,hP⟩;rw [bM Ez] at hP;replace zq:=Zh (zq.out.keep hT (fun i hi=>by have:=HC.out.lt;omega));replace HC:=Zh (HC.out.turn hT hP);clear hT hP)
       have hA:True:=trivial
       have hB:w2.drew.cell? (aB k6 1)=some (.slice a1 o2.length n1):=aa HC.out.out 1
       replace HC:=Zh HC.out.drew
       replace zq:=Zh zq.out.drew
       refine ae (fun W=>True) (fun W=>W.cell? (aB k6 1)=some (.slice a1 o2.length n1)) 7 rfl ?_
       refine Zp 0 rfl (h:=Zl 1 [5,7] rfl (h:=Zp 2 rfl (h:=?_)));try simp only [Zq]
       refine Zs 3 rfl fun K hK=>?_
       go_simp
       go_at_call 35
       refine (HBK.out _ _ _ _ HC.out.pt Za Za zZ.out).mono ?_
       rintro e w3 ⟨ba,bc,rfl,hT,hP,hS⟩
       have zc: ∀i,v1.ownBlock=some i->i<w2.heap.size:=fun i e=>(HC.out.own.lt i e).2
       have Ed: ∀i,(Value.slice a1 o2.length n1).ownBlock=some i->i<w2.heap.size:=fun i e=>(zq.out.own.lt i e).2
       have xx:=HC.out.kp.size
       replace zq:=Zh (zq.out.keep hT (fun i hi=>by have:=HC.out.lt;omega))
       replace HC:=Zh (HC.out.turn hT hP)
       clear hT hP hB
       have HS:=Zh hS
       clear hS
       have hB:w3.cell? (aB k6 1)=some (.slice a1 o2.length n1):=aa HC.out.out 1
       refine hK _ _ ⟨trivial,fun _=>hB⟩ ?_
       clear hK K
       refine Zs 4 rfl fun K hK=>?_
       go_simp
       refine hK _ _ ⟨trivial,fun _=>(aa (HC.out.al _).out 1)⟩ ?_
       clear hK K hB
       refine Zs 5 rfl fun K hK=>?_
       refine a8 (.tmp 35) (.tmp 38) 62 115 j0 _ 1 24 Tryz.underlying62 Dk AH Bm Ag rfl Zg rfl rfl Wb.heap.size (.slice a1 o2.length n1) o2.length svs (zq.out.own.alloc _) w3.heap.size #[.slice ba th.length bc] 115 (0,0) (zab _ _) ZB ZB rfl ZL Za Za (HC.out.al _).kp.size ?_
       intro g2 cap2 w4 hown wW xb xy
       have zi:=HC.out.grow2_out (B:=0) zq.out wW
       have G0:=HC.out.grow2_put (g:=g2) (cap:=cap2) zq.out wW
       have Mg:=ThAt.grow (lo:=w2.heap.size) HC.out zq.out wW hown xb xx zc Ed HS.out
       clear HC hown wW xb zq HS
       have hB:w4.cell? (aB k6 1)=some (.slice a1 o2.length n1):=aa zi 1
       have f0:w4.frozen? (aB k6 1)=false:=ai zi 1
       refine hK _ _ ⟨trivial,fun _=>hB⟩ ?_
       clear hK K
       have HC:=Zh G0
       have zq:=Zh Mg
       clear G0 zi Mg
       refine Zp 6 rfl (h:=?_);try simp only [Zq]
       refine Zs 7 rfl fun K hK=>?_
       go_simp
       refine hK _ _ ⟨trivial,fun hh=>Bool.noConfusion (hh.symm.trans (show _=true by kernel_rfl))⟩ ?_
       clear hK K
       refine af Zb ?_ _
       generalize w4.setCell ⟨k6,1,none⟩ (.slice (aA g2) (o2.length+1) cap2)=w5 at*
       go_wp2
       have hC:=HC.out
       refine ⟨⟨fuel,_,_,_,_,xZ.out,hC,zq.out⟩,?_⟩
       rw [aa hC.out 1,c1]
       simp [lenOf]
       omega
   case true=>
    rw [bM hi] at wU
    simp only [if_true] at wU
    by_cases yu:1000000<=o.length
    ·simp [yu] at wU
    simp only [yu,if_false] at wU
    rcases If:pTyp 1 (pName (pNext s)).2 with _|⟨ty,s3⟩
    ·simp [If] at wU
    simp only [If] at wU
    have xZ:=Zh wU
    have HTY:=Zh If
    clear wU If
    obtain ⟨a1,n1,rfl⟩: ∃a1 n1,v1= .slice a1 o.length n1:=by
     rcases hown.2 with ⟨rfl,h0⟩|⟨g,cap,cur,rfl, -⟩
     ·exact ⟨none,0,by rw [h0]⟩
     ·exact ⟨_,_,rfl⟩
    clear hown
    go_wp2_with (go_at_call 31;refine (di _ HC.out.pt _).mono ?_;rintro e w1 ⟨rfl,hT,hP⟩;rw [bM hi] at hP;replace HC:=Zh (HC.out.turn hT hP);clear hT hP)
    have hA:True:=trivial
    have hB:w1.drew.cell? (aB k6 0)=some (.slice a1 o.length n1):=aa HC.out.out 0
    replace HC:=Zh HC.out.drew
    refine ae (fun W=>True) (fun W=>W.cell? (aB k6 0)=some (.slice a1 o.length n1)) 10 rfl ?_
    refine Zp 0 rfl (h:=Zl 1 [8,10] rfl (h:=Zp 2 rfl (h:=Zp 4 rfl (h:=?_))));try simp only [Zq]
    refine Zs 3 rfl fun K hK=>?_
    go_simp
    go_at_call 32
    refine (eV _ HC.out.pt).mono ?_
    rintro e w2 ⟨rfl,hT,hP⟩
    replace HC:=Zh (HC.out.turn hT hP)
    clear hT hP hB
    have hB:w2.cell? (aB k6 0)=some (.slice a1 o.length n1):=aa HC.out.out 0
    refine hK _ _ ⟨trivial,fun _=>hB⟩ ?_
    clear hK K
    refine Zs 5 rfl fun K hK=>?_
    go_simp
    go_at_call 33
    refine (o4 _ HC.out.pt _ _ HTY.out).mono ?_
    rintro e w3 ⟨tk,tz,rfl,rfl,yh,yx,hT,hP⟩
    replace HC:=Zh (HC.out.turn hT hP)
    clear hT hP hB
    have hB:w3.cell? (aB k6 0)=some (.slice a1 o.length n1):=aa HC.out.out 0
    unfold scV
    refine hK _ _ ⟨trivial,fun _=>hB⟩ ?_
    clear hK K
    refine Zp 6 rfl (h:=?_);try simp only [Zq]
    refine Zs 7 rfl fun K hK=>?_
    go_simp
    refine hK _ _ ⟨trivial,fun _=>(aa (HC.out.al _).out 0)⟩ ?_
    clear hK K hB
    refine Zs 8 rfl fun K hK=>?_
    refine a8 (.tmp 21) (.tmp 27) 61 113 i0 _ 7 96 Tryz.underlying61 xz xq xm xk rfl Zg rfl rfl Wb.heap.size (.slice a1 o.length n1) o.length (o.flatMap varC) (HC.out.al _).own w3.heap.size #[.string (pName (pNext s)).1,iI tk,iI tz,.bool false,.slice none 0 0,iI 0,.slice none 0 0] 113 (0,0) (zab _ _) ZB ZB rfl ZL Za Za (HC.out.al _).kp.size ?_
    intro g2 cap2 w4 hown wW xb xy
    have zi:=HC.out.grow_out wW
    have G0:=HC.out.grow_put (x:=⟨(pName (pNext s)).1,scTy tk tz⟩) wW hown ⟨tk,tz,rfl,yh,yx⟩
    clear HC hown wW xb
    have hB:w4.cell? (aB k6 0)=some (.slice a1 o.length n1):=aa zi 0
    have f0:w4.frozen? (aB k6 0)=false:=ai zi 0
    refine hK _ _ ⟨trivial,fun _=>hB⟩ ?_
    clear hK K
    have HC:=Zh G0
    clear G0 zi
    refine Zp 9 rfl (h:=?_);try simp only [Zq]
    refine Zs 10 rfl fun K hK=>?_
    go_simp
    refine hK _ _ ⟨trivial,fun hh=>Bool.noConfusion (hh.symm.trans (show _=true by kernel_rfl))⟩ ?_
    clear hK K
    refine af Zb ?_ _
    generalize w4.setCell ⟨k6,0,none⟩ (.slice (aA g2) (o.length+1) cap2)=w5 at*
    go_wp2_with (go_at_call 34;refine (cY _ HC.out.pt _).mono ?_;rintro e w6 ⟨rfl,hT,hP⟩;replace HC:=Zh (HC.out.turn hT hP);clear hT hP)
    have hC:=HC.out
    refine ⟨⟨fuel,_,_,_,xZ.out,hC⟩,?_⟩
    rw [aa hC.out 0,c0]
    simp [lenOf]
    omega
theorem eD{s:qB}(h:eqB s (⟨#[]⟩:qB)=true):s=(⟨#[]⟩:qB):=by simpa [eqB] using h
theorem yam{α:Type}{l:List α}(h:l.isEmpty=true):l=[]:=List.isEmpty_iff.1 h
theorem ycY(x:Sm)(h:cForm x=true)(pa xa ta ua:Option Addr)(pc xc tc uc:Nat)(w:qW):qC 144 #[.agg #[iI x.kind,iI x.line,.string x.name,.string x.name2,iI x.order,.string x.var,.slice pa x.parts.length pc,.slice xa x.exprs.length xc,.slice ta x.thn.length tc,.slice ua x.els.length uc]] w (Gives w (.bool true)):=by
 unfold cForm cEmpty at h
 simp only [za0,zau,zak] at h
 obtain ⟨⟨⟨⟨⟨⟨⟨h1,h2⟩,hn⟩,yO⟩,hp⟩,hx⟩,ht⟩,hu⟩:=h
 obtain ⟨kind,line,name,name2,order,var,parts,exprs,thn,els⟩:=x
 simp only [Sm.kind,Sm.line,Sm.name,Sm.name2,Sm.order,Sm.var,Sm.parts,Sm.exprs,Sm.thn,Sm.els] at h1 h2 hn yO hp hx ht hu ⊢
 rcases (by omega:kind=1\/kind=2\/kind=3\/kind=4\/kind=5\/kind=6\/kind=7\/kind=8\/kind=9\/kind=10) with rfl|rfl|rfl|rfl|rfl|rfl|rfl|rfl|rfl|rfl
 all_goals
  simp at hn yO hp hx ht hu
  try (obtain ⟨hv,hp⟩:=hp)
  try (have Ls:=eD hn;subst Ls)
  try (have Jv:=eD yO;subst Jv)
  try (have FD:=eD hv;subst FD)
  try subst hp
  try subst ht
  try subst hu
  try subst hx
  try rw [hx]
  try simp only [zaV]
 ·exact ycX _ _ _ (⟨#[]⟩:qB) (⟨#[]⟩:qB) _ _ _ _ 0 _ _ 0 _ 0 _ w
 ·exact ycV _ _ _ (⟨#[]⟩:qB) (⟨#[]⟩:qB) _ _ _ _ 0 _ _ 0 _ 0 _ w
 ·exact ycU _ _ (⟨#[]⟩:qB) (⟨#[]⟩:qB) _ _ _ _ _ _ _ _ 0 _ 0 _ w
 ·exact ycT _ _ (⟨#[]⟩:qB) (⟨#[]⟩:qB) _ _ _ _ _ _ _ _ 0 _ 0 _ w
 ·exact ycS _ _ _ _ _ _ _ _ _ _ _ _ 0 _ 0 _ w
 ·exact ycR _ _ (⟨#[]⟩:qB) (⟨#[]⟩:qB) _ _ _ _ _ _ _ _ 0 _ 0 _ w
 ·exact ycQ _ _ (⟨#[]⟩:qB) (⟨#[]⟩:qB) (⟨#[]⟩:qB) _ _ _ _ 0 _ _ 0 _ 0 _ w
 ·exact ycP _ _ (⟨#[]⟩:qB) (⟨#[]⟩:qB) (⟨#[]⟩:qB) _ _ _ _ 0 _ _ _ _ _ _ w
 ·exact ycO _ _ (⟨#[]⟩:qB) (⟨#[]⟩:qB) (⟨#[]⟩:qB) _ _ _ _ 0 _ _ _ _ 0 _ w
 ·exact ycW _ _ (⟨#[]⟩:qB) (⟨#[]⟩:qB) (⟨#[]⟩:qB) _ _ _ _ 0 _ _ 0 _ 0 _ w
theorem ycN(x:Ex)(h:cFormed x=true)(pa ka:Option Addr)(pc kc:Nat)(w:qW):qC 240 #[.agg #[iI x.kind,.int .u64 x.n,.string x.name,iI x.op,iI x.order,.string x.var,.slice pa x.parts.length pc,.slice ka x.kids.length kc]] w (Gives w (.bool true)):=by
 unfold cFormed cEmpty cKids at h
 simp only [za0,zau,zak,Bool.not_eq_true',decide_eq_false_iff_not] at h
 obtain ⟨⟨⟨⟨⟨⟨h1,h2⟩,hn⟩,hm⟩,ho⟩,hp⟩,hk⟩:=h
 obtain ⟨kind,n,name,op,order,var,parts,kids⟩:=x
 simp only [Ex.kind,Ex.n,Ex.name,Ex.op,Ex.order,Ex.var,Ex.parts,Ex.kids] at h1 h2 hn hm ho hp hk ⊢
 rcases (by omega:kind=1\/kind=2\/kind=3\/kind=4\/kind=5\/kind=6\/kind=7\/kind=8) with rfl|rfl|rfl|rfl|rfl|rfl|rfl|rfl
 all_goals
  simp at hn hm ho hp hk
  try (obtain ⟨hv,hp⟩:=hp)
  try (have Jz:=eD hm;subst Jz)
  try (have FD:=eD hv;subst FD)
  try subst hp
  try subst hn
  try subst hk
  try rw [hk]
  try simp only [zaV]
 ·subst ho
  exact ycM _ 0 _ (⟨#[]⟩:qB) (⟨#[]⟩:qB) _ _ 0 _ _ w
 ·subst ho
  exact ycL 0 0 _ _ (⟨#[]⟩:qB) _ _ 0 _ _ w
 ·exact ycK 0 _ _ (⟨#[]⟩:qB) (⟨#[]⟩:qB) _ _ 0 _ _ ho.1 ho.2 w
 all_goals subst ho
 ·exact ycJ 0 0 _ (⟨#[]⟩:qB) _ _ _ _ _ _ w
 ·exact ycI 0 0 _ (⟨#[]⟩:qB) _ _ _ _ _ _ w
 ·exact ycH 0 0 _ (⟨#[]⟩:qB) _ _ _ _ _ _ w
 ·exact ycG 0 0 _ (⟨#[]⟩:qB) _ _ _ _ _ _ w
 ·exact ycF 0 0 _ (⟨#[]⟩:qB) _ _ _ _ _ _ w
end Go.Proofs.YtcekjfmfcefjpaaGreatDoor
