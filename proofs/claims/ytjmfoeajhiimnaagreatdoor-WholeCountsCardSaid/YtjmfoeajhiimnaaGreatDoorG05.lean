/- Walks. No condition. -/
import Derived.StillTail
import Derived.Deep.RegionHeld3
import Derived.Deep.CutRange
import Derived.Deep.MidRow
import Derived.Test.YtjmfoeajhiimnaaGreatDoorG04
set_option maxRecDepth 100000
set_option maxHeartbeats 0
set_option linter.all false
namespace Go.Proofs.YtjmfoeajhiimnaaGreatDoor
section
section
variable{P:Program}{ops:Array Oper}{md:Region.Mode}{C:qW->Prop}
def anyLQ(P:Program)(md:Region.Mode)(ops:Array Oper)(C:qW->Prop)(n:Nat)(L:Array Bool->Act->Prop):Nat->Array Bool->Act->Prop
 |0,listed,a=>L listed a
 |f+1,listed,a=>
  Region.ready md ops listed≠[]/\ ∀i∈Region.ready md ops listed,i<n/\qOp P ops C i (anyLQ P md ops C n L f (listed.setIfInBounds i true)) a
theorem ou{n g:Nat}{L:Array Bool->Act->Prop}{Q':Exit->Act->qW->Prop}(hL: ∀listed a w,C w->L listed a->wpAny P md ops Q' g listed a w):
  ∀(f:Nat) (listed:Array Bool) (a:Act) (w:qW),C w->anyLQ P md ops C n L f listed a->wpAny P md ops Q' (f+g) listed a w
 |0,_,_,_,hw,h=>by rw [zag];exact hL _ _ _ hw h
 |f+1,_,_,_,hw,h=>by
  rw [show f+1+g=(f+g)+1 by omega]
  exact ⟨fun h0=>absurd h0 h.1,fun i hi=>wpOp_of_qOp hw (fun a' w' Az h'=>ou hL f _ a' w' Az h') (h.2 i hi).2⟩
theorem yft{n i:Nat}{oi:Oper}{v:qV}{L:Array Bool->Act->Prop}(hi:ops[i]?=some oi)(zK: ∀(j:Nat) (o:Oper) cs b,ops[j]?=some o->o.op≠ .select cs b)
  (hs:Region.sinkB md ops n=true) (hc:Region.chainB md ops n=true) (hn:n<ops.size) (AD:i<n)
  (GQ: ∀listed a,L listed a-> ∀j∈Region.ready md ops listed,n<=j):
  ∀(f:Nat) (listed:Array Bool) (a:Act),HeadInv md ops n listed->
   (∀j oj,ops[j]?=some oj->j≠i->listed.getD j true=false->(∀e∈oj.after,Region.binds md e=true->e.on≠i)->oi.apart ops oj=true)->
   i∈Region.ready md ops listed->YieldsIn P ops C oi v a->
   anyLQ P md ops C n L f (listed.setIfInBounds i true) (a.put oi.dst v)->anyLQ P md ops C n L (f+1) listed a:=by
 intro f
 induction f with
 |zero=>
  intro listed a inv _ hr hy H
  have Bb:=(mem_ready.1 hr).1
  refine ⟨fun h=>(by rw [h] at hr;cases hr),fun j hj=>?_⟩
  have Af:j<n:=by
   rcases zaJ j n with h|h
   ·exact h
   ·exact absurd hj (tail_waits hs hc hn inv _ i rfl AD Bb j h)
  refine ⟨Af,?_⟩
  by_cases zR:j=i
  ·subst zR;exact hy.qOp hi H
  ·have:=GQ _ _ H j (ready_mono hj zR)
   omega
 |succ f ih=>
  intro listed a inv Ap hr hy H
  have Bb:=(mem_ready.1 hr).1
  refine ⟨fun h=>(by rw [h] at hr;cases hr),fun j hj=>?_⟩
  have Af:j<n:=by
   rcases zaJ j n with h|h
   ·exact h
   ·exact absurd hj (tail_waits hs hc hn inv _ i rfl AD Bb j h)
  refine ⟨Af,?_⟩
  by_cases zR:j=i
  ·subst zR;exact hy.qOp hi H
  ·have h1:=(H.2 j (ready_mono hj zR)).2
   obtain ⟨Ca,oj,CD,xw⟩:=mem_ready.1 hj
   have Ep: ∀e∈oj.after,Region.binds md e=true->e.on≠i:=fun e he hb AE=>by
    have h1:=xw e he hb
    rw [AE,getD_both Bb] at h1
    cases h1
   have h2:=qOp_put CD (Ap j oj CD zR Ca Ep) (fun cs b=>zK i oi cs b hi) (fun cs b=>zK j oj cs b CD) hy h1
   have AZ: ∀k ok,ops[k]?=some ok->k≠i->(listed.setIfInBounds j true).getD k true=false->
     (∀e∈ok.after,Region.binds md e=true->e.on≠i)->oi.apart ops ok=true:=fun k ok hk II Bb xW=>by
    refine Ap k ok hk II ?_ xW
    by_cases zQ:j=k
    ·subst zQ;exact Ca
    ·rw [getD_set_ne true zQ] at Bb;exact Bb
   refine qOp_mono (fun a' h3=>ih (listed.setIfInBounds j true) a' (inv.set hj Af) AZ (ready_mono hr (Ne.symm zR)) h3.1 ?_) h2
   rw [Array.setIfInBounds_comm _ _ zR]
   exact h3.2
theorem oy{n g:Nat}{Lq:Act->Prop}(zK:Region.noSelect ops=true)(hs:Region.sinkB md ops n=true)(hc:Region.chainB md ops n=true)(hn:n<ops.size):
  ∀(l:List Oper) (k:Nat) (listed:Array Bool) (a:Act),(∀j,j<l.length->l[j]?=ops[k+j]?)->k+l.length=n->HeadInv md ops n listed->
  Region.lexHead md ops g l.length k listed=true->wpQuiet P ops C Lq l a->
  anyLQ P md ops C n (fun listed' a'=>Region.seqB md ops g n listed'=true/\Lq a') l.length listed a
 |[],k,listed,a,_,hk,_,hB,h=>by
  have:k=n:=by simpa using hk
  subst this
  exact ⟨by simpa [Region.lexHead] using hB,h⟩
 |o::l,k,listed,a,hl,hk,inv,hB,h=>by
  have h0:ops[k]?=some o:=by simpa using (hl 0 Zg).symm
  simp only [za2,Region.lexHead,za0] at hB
  obtain ⟨⟨hr,hf⟩,I6⟩:=hB
  have Dj:k<n:=by simp only [za2] at hk;omega
  have Db:k∈Region.ready md ops listed:=by simpa using hr
  have xz:qOp P ops C k (wpQuiet P ops C Lq l) a:=by unfold qOp;simp only [h0];exact h
  obtain ⟨v,hy,hK⟩:=yieldsIn_of_qOp h0 xz
  exact yft h0 (Region.noSelect_spec zK) hs hc hn Dj (fun listed' a' hL=>seqB_ready hL.1) l.length listed a inv (Region.free_spec h0 hf) Db hy
   (oy zK hs hc hn l (k+1) _ _ (fun j hj=>by have:=hl (j+1) Zk;simpa [Nat.add_assoc,Nat.add_comm 1 j] using this) (by simp only [za2] at hk;omega) (inv.set Db Dj) I6 hK)
theorem sV{id:Nat}{Q:Exit->Act->qW->Prop}{a:Act}{w:qW}{l:List Oper}(n:Nat)(hm:P.follows .mixedOrders=true)(hB:Region.lexTailB .any l.toArray n=true)
  (hC:C {w with drawn:=w.drawn+1})
  (h:wpQuiet P l.toArray C (fun a'=> ∀w',C w'->wpList P l.toArray Q (l.drop n) a' w') (l.take n) a):(Code.region id l.toArray true).wp P Q a w:=by
 simp only [Region.lexTailB,za0,zau] at hB
 obtain ⟨⟨⟨⟨zK,hn⟩,hs⟩,hc⟩,JX⟩:=hB
 have IE:n<l.length:=by simpa using hn
 have zJ:(l.take n).length=n:=by simp;omega
 have IL:(l.drop n).length=l.toArray.size-n:=by simp
 have inv0:HeadInv .any l.toArray n (Array.replicate l.toArray.size false):=
  ⟨by simp,fun j oj _ hl=>(by rw [getD_replicate_false] at hl;cases hl),fun t _ ht=>getD_in (by simpa using ht) (getD_replicate_false _ _)⟩
 have H:=oy (md:= .any) (g:=l.toArray.size-n) zK hs hc hn (l.take n) 0 _ a (fun j hj=>by
  have J2:j<n:=by rw [zJ] at hj;exact hj
  simp [J2]) (by simpa using zJ) inv0 (by rw [zJ];exact JX) h
 refine wp_region_any hm ?_
 have:=ou (Q':=Q) (g:=l.toArray.size-n) (fun listed a' w' Az hL=>by
  have:=wpAny_of_seq (md:= .any) (Q':=Q) (l.drop n) n listed a' w' (fun j=>by simp [List.getElem?_drop]) (by rw [IL];exact hL.1) (hL.2 w' Az)
  rwa [IL] at this) _ _ _ _ hC H
 rw [zJ,show n+(l.toArray.size-n)=l.toArray.size by omega] at this
 exact this
end
open Go.RowKit Go.Sort
theorem fO{P:Program}{id:Nat}{Q:Exit->Act->qW->Prop}{a:Act}{w:qW}{l:List Oper}(n:Nat)(hm:P.follows .mixedOrders=true)(hB:Region.lexTailB .any l.toArray n=true)
  (h:wpQuiet P l.toArray (fun w'=> ∃p:Regrown,w'=more w p) (fun a'=> ∀p:Regrown,wpList P l.toArray Q (l.drop n) a' (more w p)) (l.take n) a):(Code.region id l.toArray true).wp P Q a w:=by
 refine sV (C:=fun w'=> ∃p:Regrown,w'=more w p) n hm hB ⟨⟨w.drawn+1,#[]⟩,by unfold more;rw [grow_empty];rfl⟩ ?_
 have e:(fun a'=> ∀p:Regrown,wpList P l.toArray Q (l.drop n) a' (more w p))=(fun a'=> ∀w',(∃p:Regrown,w'=more w p)->wpList P l.toArray Q (l.drop n) a' w'):=by
  funext a'
  exact propext ⟨fun h w' ⟨p,hp⟩=>by rw [hp];exact h p,fun h p=>h _ ⟨p,rfl⟩⟩
 rw [<-e]
 exact h
end
section
open Go.RowKit Go.Sort
theorem fU(i:Ins)(hi:i.rng)(w:qW):qC 153 #[insV i] w (Gives w (.bool (enc i).isSome)):=by
 have E:=Zh (fun W=>nb i hi W)
 generalize ((((enc i).getD 0:Nat)):Int)=V at E
 generalize (enc i).isSome=b at E ⊢
 obtain ⟨op,d,n,m,e,sz,imm⟩:=i
 unfold insV
 clear hi
 simp only at*
 cases b
 all_goals
  simp at E
  go_enter Tryz.func153,Tryz.ntmps153
  go_wp2_with (first|(go_at_call 57;refine (E.out _).mono ?_;rintro e w1 ⟨rfl,p,rfl⟩))
  go_ret
  exact Gives.mk rfl Z0
theorem jA(w:qW)(s:St)(t:TypeId):ao (w.alloc (.cells (stC s.f) t)) w.heap.size s:=fun k hk=>by
 refine ⟨?_,?_⟩
 ·rw [aV,if_neg Za,if_pos rfl,ep,if_pos hk]
 ·rw [d8,if_neg Za]
def IAt(w:qW)(B:Nat)(i:Ins):Prop:=w.cell? (aB B 0)=some (iI i.op)/\w.cell? (aB B 1)=some (iI i.d)/\w.cell? (aB B 2)=some (iI i.n)/\w.cell? (aB B 3)=some (iI i.m)/\w.cell? (aB B 4)=some (iI i.e)/\w.cell? (aB B 5)=some (iI i.sz)/\w.cell? (aB B 6)=some (iI i.imm)
theorem IAt.below{w w':qW}{B:Nat}{i:Ins}(h:IAt w B i)(hb:Below w.heap.size w w'):IAt w' B i:=by
 have hl:B<w.heap.size:=aF h.1
 obtain ⟨h0,h1,h2,h3,h4,h5,h6⟩:=h
 exact ⟨(hb.cell (p:=⟨B,0,none⟩) hl).trans h0,(hb.cell (p:=⟨B,1,none⟩) hl).trans h1,(hb.cell (p:=⟨B,2,none⟩) hl).trans h2,(hb.cell (p:=⟨B,3,none⟩) hl).trans h3,(hb.cell (p:=⟨B,4,none⟩) hl).trans h4,(hb.cell (p:=⟨B,5,none⟩) hl).trans h5,(hb.cell (p:=⟨B,6,none⟩) hl).trans h6⟩
def aD(w:qW)(B:Nat)(x:Bool)(a l:Int)(ex acq rel:Bool)(d0 d1:Int):Prop:=
 (w.cell? (aB B 0)=some (.bool x)/\w.cell? (aB B 1)=some (iI a)/\w.cell? (aB B 2)=some (iI l)/\w.cell? (aB B 3)=some (.bool ex)/\w.cell? (aB B 4)=some (.bool acq)/\w.cell? (aB B 5)=some (.bool rel)
  /\w.cell? (aB B 6)=some (.int .u64 d0)/\w.cell? (aB B 7)=some (.int .u64 d1))/\(w.frozen? (aB B 0)=false/\w.frozen? (aB B 1)=false/\w.frozen? (aB B 2)=false/\w.frozen? (aB B 3)=false
  /\w.frozen? (aB B 4)=false/\w.frozen? (aB B 5)=false/\w.frozen? (aB B 6)=false/\w.frozen? (aB B 7)=false)
def accV(w:Bool)(a l:Int)(ex acq rel:Bool)(d0 d1:Int):qV:= .agg #[.bool w,iI a,iI l,.bool ex,.bool acq,.bool rel,.int .u64 d0,.int .u64 d1]
def acqB(op:Int):Bool:=(op==19||op==22)||op==26
def relB(op:Int):Bool:=(op==20||op==24)||op==28
def bq(s:St)(i:Ins):Int:=if wrB i.op then (if paB i.op then (getX s i.d:Nat) else bits .and .u64 (getX s i.d:Nat) (mask (8*lenI i):Nat)) else 0
def bw(s:St)(i:Ins):Int:=if wrB i.op&&paB i.op then (getX s i.e:Nat) else 0
theorem dg{i:Ins}(hf:Facts i):1<=lenI i/\lenI i<=16:=by
 unfold lenI
 have:=hf.sz
 split
 ·omega
 ·have h:i.sz=0\/i.sz=1\/i.sz=2\/i.sz=3:=by omega
  rcases h with h|h|h|h<;>rw [h]<;>simp
theorem yfo(s:St)(i:Ins)(hi:i.rng)(h:(enc i).isSome=false\/meB i.op=false)(w:qW):qC 100 #[stV s,insV i] w (Gives w (.tuple #[accV false 0 0 false false false 0 0,.bool false])):=by
 have SO:=Zh (fun W=>fU i hi W)
 have ME:=Zh (fun W=>gI i.op W)
 generalize (enc i).isSome=b at*
 generalize meB i.op=m1 at*
 obtain ⟨op,d,n,m,e,sz,imm⟩:=i
 unfold insV stV accV at*
 generalize s.f=f
 clear hi
 simp only at*
 rcases h with rfl|rfl
 ·go_enter Tryz.func100,Tryz.ntmps100
  go_wp2_with (first
   |(go_at_call 153;refine (SO.out _).mono ?_;rintro e w1 ⟨rfl,p,rfl⟩)
   |(go_at_call 154;refine (ME.out _).mono ?_;rintro e w1 ⟨rfl,rfl⟩))
  go_returns
  exact Gives.mk rfl Z0
 ·cases b
  all_goals
   go_enter Tryz.func100,Tryz.ntmps100
   go_wp2_with (first
    |(go_at_call 153;refine (SO.out _).mono ?_;rintro e w1 ⟨rfl,p,rfl⟩)
    |(go_at_call 154;refine (ME.out _).mono ?_;rintro e w1 ⟨rfl,rfl⟩))
   go_returns
   exact Gives.mk rfl Z0
theorem ek{w:qW}{B:Nat}{s:St}(h:ao w B s){b k:Nat}{v:qV}(hb:B≠b):ao (w.setCell ⟨b,k,none⟩ v) B s:=fun j hj=>by
 refine ⟨?_,?_⟩
 ·rw [zaH _ _ _ _ (fun e=>hb (congrArg Addr.block e).symm)]
  exact (h j hj).1
 ·rw [zaG]
  exact (h j hj).2
theorem aW{w:qW}{B:Nat}{s:St}(h:ao w B s)(p:Regrown):ao (more w p) B s:=h.below (au w p)
theorem yck(w:qW)(i:Ins)(t:TypeId):IAt (w.alloc (.cells #[iI i.op,iI i.d,iI i.n,iI i.m,iI i.e,iI i.sz,iI i.imm] t)) w.heap.size i:=by
 unfold IAt
 simp [aV]
theorem yfB(w:qW)(x:Bool)(a l:Int)(ex acq rel:Bool)(d0 d1:Int)(t:TypeId):aD (w.alloc (.cells #[.bool x,iI a,iI l,.bool ex,.bool acq,.bool rel,.int .u64 d0,.int .u64 d1] t)) w.heap.size x a l ex acq rel d0 d1:=by
 unfold aD
 simp [aV,d8]
theorem ip(w:qW)(i:Ins)(t:TypeId)(B:Nat)(hB:w.heap.size=B):IAt (w.alloc (.cells #[iI i.op,iI i.d,iI i.n,iI i.m,iI i.e,iI i.sz,iI i.imm] t)) B i:=hB ▸ yck w i t
theorem fK(w:qW)(x:Bool)(a l:Int)(ex acq rel:Bool)(d0 d1:Int)(t:TypeId)(B:Nat)(hB:w.heap.size=B):aD (w.alloc (.cells #[.bool x,iI a,iI l,.bool ex,.bool acq,.bool rel,.int .u64 d0,.int .u64 d1] t)) B x a l ex acq rel d0 d1:=hB ▸ yfB w x a l ex acq rel d0 d1 t
theorem aD.below{w w':qW}{B:Nat}{x:Bool}{a l:Int}{ex acq rel:Bool}{d0 d1:Int}(h:aD w B x a l ex acq rel d0 d1)(hb:Below w.heap.size w w'):aD w' B x a l ex acq rel d0 d1:=by
 have hl:B<w.heap.size:=aF h.1.1
 unfold aD at*
 have hc:=fun k=>hb.cell (p:=⟨B,k,none⟩) hl
 have hf:=fun k=>hb.frozen (p:=⟨B,k,none⟩) hl
 simp only [hc,hf]
 exact h
theorem fL{w:qW}{B:Nat}{x:Bool}{a l:Int}{ex acq rel:Bool}{d0 d1:Int}(h:aD w B x a l ex acq rel d0 d1)(p:Regrown):aD (more w p) B x a l ex acq rel d0 d1:=h.below (au w p)
theorem gu{P:Program}{fn:Func}{tmps:Array qV}{w:qW}{T:TypeId}{c t B:Nat}{v:qV}(hr:fn.results=#[.cell c T,.tmp t])(hp:tmps.getD c undef=pP B)
  (hl:(loadVar T ⟨B,0,none⟩).run P w= .ok v w):(results fn tmps).run P w= .ok (.tuple #[v,tmps.getD t undef]) w:=by
 unfold results
 rw [hr]
 have Ge:(tmps[c]?).getD undef=pP B:=by simpa [zaI] using hp
 simp [Ge,asAddr,hl]
theorem aD.set4{w:qW}{B:Nat}{x:Bool}{a l:Int}{ex acq rel:Bool}{d0 d1:Int}(h:aD w B x a l ex acq rel d0 d1)(q:Bool):aD (w.setCell ⟨B,4,none⟩ (.bool q)) B x a l ex q rel d0 d1:=by
 obtain ⟨⟨c0,c1,c2,c3,c4,c5,c6,c7⟩,z0,z1,z2,z3,z4,z5,z6,z7⟩:=h
 unfold aD
 refine ⟨⟨?_,?_,?_,?_,zaF _ _ _ c4,?_,?_,?_⟩,?_,?_,?_,?_,?_,?_,?_,?_⟩
 all_goals first|(rw [zaG];assumption)|(rw [zaH _ _ _ _ Zg];assumption)
theorem aD.set5{w:qW}{B:Nat}{x:Bool}{a l:Int}{ex acq rel:Bool}{d0 d1:Int}(h:aD w B x a l ex acq rel d0 d1)(q:Bool):aD (w.setCell ⟨B,5,none⟩ (.bool q)) B x a l ex acq q d0 d1:=by
 obtain ⟨⟨c0,c1,c2,c3,c4,c5,c6,c7⟩,z0,z1,z2,z3,z4,z5,z6,z7⟩:=h
 unfold aD
 refine ⟨⟨?_,?_,?_,?_,?_,zaF _ _ _ c5,?_,?_⟩,?_,?_,?_,?_,?_,?_,?_,?_⟩
 all_goals first|(rw [zaG];assumption)|(rw [zaH _ _ _ _ Zg];assumption)
theorem aD.far{w:qW}{B:Nat}{x:Bool}{a l:Int}{ex acq rel:Bool}{d0 d1:Int}(h:aD w B x a l ex acq rel d0 d1){b k:Nat}{v:qV}(hb:B≠b):aD (w.setCell ⟨b,k,none⟩ v) B x a l ex acq rel d0 d1:=by
 have hc: ∀j,(w.setCell ⟨b,k,none⟩ v).cell? (aB B j)=w.cell? (aB B j):=fun j=>zaH _ _ _ _ (fun e=>hb (congrArg Addr.block e).symm)
 have hf: ∀j,(w.setCell ⟨b,k,none⟩ v).frozen? (aB B j)=w.frozen? (aB B j):=fun j=>zaG _ _ _ _
 unfold aD at*
 simp only [hc,hf]
 exact h
theorem IAt.far{w:qW}{B:Nat}{i:Ins}(h:IAt w B i){b k:Nat}{v:qV}(hb:B≠b):IAt (w.setCell ⟨b,k,none⟩ v) B i:=by
 have hc: ∀j,(w.setCell ⟨b,k,none⟩ v).cell? (aB B j)=w.cell? (aB B j):=fun j=>zaH _ _ _ _ (fun e=>hb (congrArg Addr.block e).symm)
 unfold IAt at*
 simp only [hc]
 exact h
theorem aD.there{w:qW}{B:Nat}{x:Bool}{a l:Int}{ex acq rel:Bool}{d0 d1:Int}(h:aD w B x a l ex acq rel d0 d1):w.there B 0 8:=fun j hj=>by
 obtain ⟨⟨c0,c1,c2,c3,c4,c5,c6,c7⟩,z0,z1,z2,z3,z4,z5,z6,z7⟩:=h
 have h8:j=0\/j=1\/j=2\/j=3\/j=4\/j=5\/j=6\/j=7:=by omega
 rcases h8 with rfl|rfl|rfl|rfl|rfl|rfl|rfl|rfl<;>simp [*]
structure AskW(w wx:qW)(s:St)(i:Ins)(b:Nat)(x:Bool)(a l:Int)(ex acq rel:Bool)(d0 d1:Int):Prop where
 st:ao wx w.heap.size s
 ins:IAt wx (w.heap.size+1) i
 res:aD wx (w.heap.size+1+1) false 0 0 false false false 0 0
 acc:aD wx b x a l ex acq rel d0 d1
 lo:w.heap.size+3<=b
 below:Below w.heap.size w wx
theorem AskW.set4{w wx:qW}{s:St}{i:Ins}{b:Nat}{x:Bool}{a l:Int}{ex acq rel:Bool}{d0 d1:Int}(h:AskW w wx s i b x a l ex acq rel d0 d1)(q:Bool):AskW w (wx.setCell ⟨b,4,none⟩ (.bool q)) s i b x a l ex q rel d0 d1:=by
 have:=h.lo
 exact ⟨ek h.st Za,h.ins.far Za,h.res.far Za,h.acc.set4 q,h.lo,ay h.below (by simp only [];omega) _⟩
theorem AskW.set5{w wx:qW}{s:St}{i:Ins}{b:Nat}{x:Bool}{a l:Int}{ex acq rel:Bool}{d0 d1:Int}(h:AskW w wx s i b x a l ex acq rel d0 d1)(q:Bool):AskW w (wx.setCell ⟨b,5,none⟩ (.bool q)) s i b x a l ex acq q d0 d1:=by
 have:=h.lo
 exact ⟨ek h.st Za,h.ins.far Za,h.res.far Za,h.acc.set5 q,h.lo,ay h.below (by simp only [];omega) _⟩
theorem oq{w wx:qW}{s:St}{i:Ins}{b:Nat}{x:Bool}{a l:Int}{ex acq rel:Bool}{d0 d1 op:Int}(h:AskW w wx s i b x a l ex acq rel d0 d1)(hq:op=19\/op=22\/op=26):AskW w (wx.setCell ⟨b,4,none⟩ (.bool true)) s i b x a l ex (op==19||op==22||op==26) rel d0 d1:=by
 rw [show (op==19||op==22||op==26)=true by simp;omega]
 exact h.set4 true
theorem ot{w wx:qW}{s:St}{i:Ins}{b:Nat}{x:Bool}{a l:Int}{ex acq rel:Bool}{d0 d1 op:Int}(h:AskW w wx s i b x a l ex acq rel d0 d1)(hq: ¬(op=19\/op=22\/op=26)):AskW w (wx.setCell ⟨b,4,none⟩ (.bool false)) s i b x a l ex (op==19||op==22||op==26) rel d0 d1:=by
 rw [show (op==19||op==22||op==26)=false by simp;omega]
 exact h.set4 false
theorem om{w wx:qW}{s:St}{i:Ins}{b:Nat}{x:Bool}{a l:Int}{ex acq rel:Bool}{d0 d1 op:Int}(h:AskW w wx s i b x a l ex acq rel d0 d1)(hq:op=20\/op=24\/op=28):AskW w (wx.setCell ⟨b,5,none⟩ (.bool true)) s i b x a l ex acq (op==20||op==24||op==28) d0 d1:=by
 rw [show (op==20||op==24||op==28)=true by simp;omega]
 exact h.set5 true
theorem oo{w wx:qW}{s:St}{i:Ins}{b:Nat}{x:Bool}{a l:Int}{ex acq rel:Bool}{d0 d1 op:Int}(h:AskW w wx s i b x a l ex acq rel d0 d1)(hq: ¬(op=20\/op=24\/op=28)):AskW w (wx.setCell ⟨b,5,none⟩ (.bool false)) s i b x a l ex acq (op==20||op==24||op==28) d0 d1:=by
 rw [show (op==20||op==24||op==28)=false by simp;omega]
 exact h.set5 false
theorem oh{Y:qW}{r:Nat}{q:Bool}{tmps:Array qV}{v0 v1 v2 v3 v4 v5 v6 v7:qV}(hY:Y.there r 0 8)(h4:tmps.getD 4 undef=pP r)(h5:tmps.getD 5 undef= .bool q):
  (results Tryz.f100 tmps).run Tryz.prog ((((((((Y.setCell ⟨r,0,none⟩ v0).setCell ⟨r,1,none⟩ v1).setCell ⟨r,2,none⟩ v2).setCell ⟨r,3,none⟩ v3).setCell ⟨r,4,none⟩ v4).setCell ⟨r,5,none⟩ v5).setCell ⟨r,6,none⟩ v6).setCell ⟨r,7,none⟩ v7)= .ok (.tuple #[.agg #[v0,v1,v2,v3,v4,v5,v6,v7],.bool q]) ((((((((Y.setCell ⟨r,0,none⟩ v0).setCell ⟨r,1,none⟩ v1).setCell ⟨r,2,none⟩ v2).setCell ⟨r,3,none⟩ v3).setCell ⟨r,4,none⟩ v4).setCell ⟨r,5,none⟩ v5).setCell ⟨r,6,none⟩ v6).setCell ⟨r,7,none⟩ v7):=by
 have hr:(World.setCells Y r 0 [v0,v1,v2,v3,v4,v5,v6,v7]).rangeAt r 0 [v0,v1,v2,v3,v4,v5,v6,v7]:=World.rangeAt_setCells_same Y r 0 [v0,v1,v2,v3,v4,v5,v6,v7] hY
 have hl:=run_loadVar_mid (P:=Tryz.prog) (World.setCells Y r 0 [v0,v1,v2,v3,v4,v5,v6,v7]) r 0 173 [v0,v1,v2,v3,v4,v5,v6,v7] _ hr Tryz.underlying173 rfl Zb
 have:=gu (fn:=Tryz.f100) (t:=5) (show Tryz.f100.results=#[.cell 4 173,.tmp 5] from rfl) h4 hl
 rw [h5] at this
 exact this
theorem nY{a Y:qW}{r:Nat}{v0 v1 v2 v3 v4 v5 v6 v7:qV}(h:Below a.heap.size a Y)(hr:a.heap.size<=r):Below a.heap.size a ((((((((Y.setCell ⟨r,0,none⟩ v0).setCell ⟨r,1,none⟩ v1).setCell ⟨r,2,none⟩ v2).setCell ⟨r,3,none⟩ v3).setCell ⟨r,4,none⟩ v4).setCell ⟨r,5,none⟩ v5).setCell ⟨r,6,none⟩ v6).setCell ⟨r,7,none⟩ v7):=
 ay (ay (ay (ay (ay (ay (ay (ay h hr v0) hr v1) hr v2) hr v3) hr v4) hr v5) hr v6) hr v7
theorem aD.set6{w:qW}{B:Nat}{x:Bool}{a l:Int}{ex acq rel:Bool}{d0 d1:Int}(h:aD w B x a l ex acq rel d0 d1)(q:Int):aD (w.setCell ⟨B,6,none⟩ (.int .u64 q)) B x a l ex acq rel q d1:=by
 obtain ⟨⟨c0,c1,c2,c3,c4,c5,c6,c7⟩,z0,z1,z2,z3,z4,z5,z6,z7⟩:=h
 unfold aD
 refine ⟨⟨?_,?_,?_,?_,?_,?_,zaF _ _ _ c6,?_⟩,?_,?_,?_,?_,?_,?_,?_,?_⟩
 all_goals first|(rw [zaG];assumption)|(rw [zaH _ _ _ _ Zg];assumption)
theorem AskW.set6{w wx:qW}{s:St}{i:Ins}{b:Nat}{x:Bool}{a l:Int}{ex acq rel:Bool}{d0 d1:Int}(h:AskW w wx s i b x a l ex acq rel d0 d1)(q:Int):AskW w (wx.setCell ⟨b,6,none⟩ (.int .u64 q)) s i b x a l ex acq rel q d1:=by
 have:=h.lo
 exact ⟨ek h.st Za,h.ins.far Za,h.res.far Za,h.acc.set6 q,h.lo,ay h.below (by simp only [];omega) _⟩
theorem aD.set7{w:qW}{B:Nat}{x:Bool}{a l:Int}{ex acq rel:Bool}{d0 d1:Int}(h:aD w B x a l ex acq rel d0 d1)(q:Int):aD (w.setCell ⟨B,7,none⟩ (.int .u64 q)) B x a l ex acq rel d0 q:=by
 obtain ⟨⟨c0,c1,c2,c3,c4,c5,c6,c7⟩,z0,z1,z2,z3,z4,z5,z6,z7⟩:=h
 unfold aD
 refine ⟨⟨?_,?_,?_,?_,?_,?_,?_,zaF _ _ _ c7⟩,?_,?_,?_,?_,?_,?_,?_,?_⟩
 all_goals first|(rw [zaG];assumption)|(rw [zaH _ _ _ _ Zg];assumption)
theorem AskW.set7{w wx:qW}{s:St}{i:Ins}{b:Nat}{x:Bool}{a l:Int}{ex acq rel:Bool}{d0 d1:Int}(h:AskW w wx s i b x a l ex acq rel d0 d1)(q:Int):AskW w (wx.setCell ⟨b,7,none⟩ (.int .u64 q)) s i b x a l ex acq rel d0 q:=by
 have:=h.lo
 exact ⟨ek h.st Za,h.ins.far Za,h.res.far Za,h.acc.set7 q,h.lo,ay h.below (by simp only [];omega) _⟩
theorem AskW.more{w wx:qW}{s:St}{i:Ins}{b:Nat}{x:Bool}{a l:Int}{ex acq rel:Bool}{d0 d1:Int}(h:AskW w wx s i b x a l ex acq rel d0 d1)(p:Regrown):AskW w (more wx p) s i b x a l ex acq rel d0 d1:=
 ⟨aW h.st p,h.ins.below (au _ _),fL h.res p,fL h.acc p,h.lo,aG h.below p⟩
theorem yfn(s:St)(i:Ins)(hi:i.rng)(hs:s.ok)(v:Nat)(h:enc i=some v)(hm:meB i.op=true)(hp:paB i.op=false)(w:qW):qC 100 #[stV s,insV i] w
  (Gives w (.tuple #[accV (wrB i.op) (spanA s i) (lenI i) (exB i.op) (acqB i.op) (relB i.op) (bq s i) (bw s i),.bool true])):=by
 have hf:=dv h
 have SO:=Zh (fun W=>fU i hi W)
 rw [h] at SO
 have ME:=Zh (fun W=>bP (gI i.op W))
 rw [hm] at ME
 have WR:=Zh (fun W=>bP (d9 i.op W))
 have EX:=Zh (fun W=>bP (eI i.op W))
 have PA:=Zh (fun W=>bP (dK i.op W))
 have S0:=Zh (jA w s 78)
 have HS:=Zh (fun (W:qW) (h:Below (w.alloc (.cells (stC s.f) 78)).heap.size (w.alloc (.cells (stC s.f) 78)) W)=>ao.below S0.out h)
 have WH:=Zh (fun W h=>ed s i hf hs w.heap.size W h)
 have G:=Zh (fun n hn W h=>fA s n hn w.heap.size W h)
 have hl:=dg hf
 have MK:=Zh (fun W=>bP (dY (8*lenI i) Za Za W))
 have hd:=hf.d
 have he:=hf.e
 have e0:=Zh (bq.eq_1 s i)
 have e1:=Zh (bw.eq_1 s i)
 have gd:=bY hs i.d
 have ge:=bY hs i.e
 generalize bq s i=A0 at e0 ⊢
 generalize bw s i=A1 at e1 ⊢
 unfold acqB relB
 generalize wrB i.op=w1 at*
 generalize paB i.op=p1 at*
 subst hp
 generalize exB i.op=x1 at*
 generalize spanA s i=SA at*
 generalize lenI i=L at*
 clear hi hs h hm hf S0
 obtain ⟨op,d,n,m,e,sz,imm⟩:=i
 unfold insV stV spV accV at*
 generalize mask (8*L)=mk at*
 simp only at*
 cases w1
 ·have q0:=e0.out
  have q1:=e1.out
  simp at q0 q1
  subst q0 q1
  clear e0 e1
  have K1:=Zh (fun (W:qW) (h:Below ((w.alloc (.cells (stC s.f) 78)).alloc (.cells #[iI op,iI d,iI n,iI m,iI e,iI sz,iI imm] 83)).heap.size ((w.alloc (.cells (stC s.f) 78)).alloc (.cells #[iI op,iI d,iI n,iI m,iI e,iI sz,iI imm] 83)) W)=>IAt.below (ip (w.alloc (.cells (stC s.f) 78)) ⟨op,d,n,m,e,sz,imm⟩ 83 (w.heap.size+1) Zg) h)
  have K2:=Zh (fun (W:qW) (h:Below (((w.alloc (.cells (stC s.f) 78)).alloc (.cells #[iI op,iI d,iI n,iI m,iI e,iI sz,iI imm] 83)).alloc (.cells #[.bool false,iI 0,iI 0,.bool false,.bool false,.bool false,.int .u64 0,.int .u64 0] 173)).heap.size (((w.alloc (.cells (stC s.f) 78)).alloc (.cells #[iI op,iI d,iI n,iI m,iI e,iI sz,iI imm] 83)).alloc (.cells #[.bool false,iI 0,iI 0,.bool false,.bool false,.bool false,.int .u64 0,.int .u64 0] 173)) W)=>aD.below (fK ((w.alloc (.cells (stC s.f) 78)).alloc (.cells #[iI op,iI d,iI n,iI m,iI e,iI sz,iI imm] 83)) false 0 0 false false false 0 0 173 (w.heap.size+1+1) Zg) h)
  go_enter Tryz.func100,Tryz.ntmps100
  go_upto_region 3 with (first
   |(go_at_call 153;refine (SO.out _).mono ?_;rintro e w1 ⟨rfl,p,rfl⟩)
   |(go_at_call 154;refine (ME.out _).mono ?_;rintro e w1 ⟨rfl,p2,rfl⟩))
  go_cut [6] from 17 to 25 (fun t6 wx=> ∃b,t6=pP b/\AskW w wx s ⟨op,d,n,m,e,sz,imm⟩ b false SA L x1 false false 0 0)
  case first=>
   go_region_held3 (fun W=>W.cell? ⟨w.heap.size+1,0,none⟩=some (iI op)/\W.cell? ⟨w.heap.size+1,1,none⟩=some (iI d)/\W.cell? ⟨w.heap.size+1,2,none⟩=some (iI n)/\W.cell? ⟨w.heap.size+1,3,none⟩=some (iI m)/\W.cell? ⟨w.heap.size+1,4,none⟩=some (iI e)/\W.cell? ⟨w.heap.size+1,5,none⟩=some (iI sz)/\W.cell? ⟨w.heap.size+1,6,none⟩=some (iI imm)) (first|(simp [go_sem,↓IntWalk.iteOmega];done)|(simp [go_sem,↓IntWalk.iteOmega];omega)) (first
    |(go_at_call 155;refine (WR.out _).mono ?_;rintro e w1 ⟨rfl,p3,rfl⟩)
    |(go_at_call 157;refine (EX.out _).mono ?_;rintro e w1 ⟨rfl,p3,rfl⟩)
    |(go_at_call 156;refine (WH.out _ (HS.out _ Z0)).mono ?_;rintro e w1 ⟨rfl,p3,rfl⟩))
   all_goals
    go_wp2_with fail
    go_meet
    refine ⟨_,rfl,HS.out _ Z0,K1.out _ Z0,K2.out _ Z0,?_,by omega,Z0⟩
    repeat refine fL ?_ _
    exact fK _ _ _ _ _ _ _ _ _ _ _ (by first|rfl|simp [go_sem])
  case rest=>
   clear HS K1 K2 WH SO ME WR EX
   obtain ⟨b,rfl,hA⟩:=hcut
   go_upto_region 4 with fail
   go_cut [] from 26 to 38 (fun wx=>AskW w wx s ⟨op,d,n,m,e,sz,imm⟩ b false SA L x1 (op==19||op==22||op==26) false 0 0)
   case first=>
    have zk:=Zh hA.st
    have h2:=hA.ins
    have h4:=hA.acc
    have h3:=hA.res
    have h5:=hA.lo
    have l1:b<_:=aF hA.acc.1.1
    have l2:w.heap.size+1+1<_:=aF hA.res.1.1
    have l3:w.heap.size+1<_:=aF hA.ins.1
    have l4:w.heap.size<_:=hA.st.lt
    unfold IAt at h2
    unfold aD at h3 h4
    obtain ⟨i0,i1,i2,i3,i4,i5,i6⟩:=h2
    obtain ⟨⟨r0,r1,r2,r3,r4,r5,r6,r7⟩,s0,s1,s2,s3,s4,s5,s6,s7⟩:=h3
    obtain ⟨⟨c0,c1,c2,c3,c4,c5,c6,c7⟩,z0,z1,z2,z3,z4,z5,z6,z7⟩:=h4
    have n1: ¬b=w.heap.size+1+1:=by omega
    have n2: ¬w.heap.size+1+1=b:=by omega
    have n3: ¬b=w.heap.size+1:=by omega
    have n4: ¬w.heap.size+1=b:=by omega
    have HA:=Zh hA
    clear hA
    go_wp2_with fail
    all_goals
     try subst_vars
     go_meet
     first
      |(refine oq HA.out ?_;omega)
      |(refine ot HA.out ?_;omega)
      |exact HA.out.set4 _
   case rest=>
    clear hA
    have hA:=hcut
    clear hcut
    go_upto_region 5 with fail
    go_cut [] from 39 to 53 (fun wx=>AskW w wx s ⟨op,d,n,m,e,sz,imm⟩ b false SA L x1 (op==19||op==22||op==26) (op==20||op==24||op==28) 0 0)
    case first=>
     have zk:=Zh hA.st
     have h2:=hA.ins
     have h4:=hA.acc
     have h3:=hA.res
     have h5:=hA.lo
     have l1:b<_:=aF hA.acc.1.1
     have l2:w.heap.size+1+1<_:=aF hA.res.1.1
     have l3:w.heap.size+1<_:=aF hA.ins.1
     have l4:w.heap.size<_:=hA.st.lt
     unfold IAt at h2
     unfold aD at h3 h4
     obtain ⟨i0,i1,i2,i3,i4,i5,i6⟩:=h2
     obtain ⟨⟨r0,r1,r2,r3,r4,r5,r6,r7⟩,s0,s1,s2,s3,s4,s5,s6,s7⟩:=h3
     obtain ⟨⟨c0,c1,c2,c3,c4,c5,c6,c7⟩,z0,z1,z2,z3,z4,z5,z6,z7⟩:=h4
     have n1: ¬b=w.heap.size+1+1:=by omega
     have n2: ¬w.heap.size+1+1=b:=by omega
     have n3: ¬b=w.heap.size+1:=by omega
     have n4: ¬w.heap.size+1=b:=by omega
     have HA:=Zh hA
     clear hA
     go_wp2_with fail
     all_goals
      try subst_vars
      go_meet
      first
       |(refine om HA.out ?_;omega)
       |(refine oo HA.out ?_;omega)
       |exact HA.out.set5 _
    case rest=>
     clear hA
     have hA:=hcut
     clear hcut
     have zk:=Zh hA.st
     have h2:=hA.ins
     have h4:=hA.acc
     have h3:=hA.res
     have h5:=hA.lo
     have l1:b<_:=aF hA.acc.1.1
     have l2:w.heap.size+1+1<_:=aF hA.res.1.1
     have l3:w.heap.size+1<_:=aF hA.ins.1
     have l4:w.heap.size<_:=hA.st.lt
     unfold IAt at h2
     unfold aD at h3 h4
     obtain ⟨i0,i1,i2,i3,i4,i5,i6⟩:=h2
     obtain ⟨⟨r0,r1,r2,r3,r4,r5,r6,r7⟩,s0,s1,s2,s3,s4,s5,s6,s7⟩:=h3
     obtain ⟨⟨c0,c1,c2,c3,c4,c5,c6,c7⟩,z0,z1,z2,z3,z4,z5,z6,z7⟩:=h4
     have n1: ¬b=w.heap.size+1+1:=by omega
     have n2: ¬w.heap.size+1+1=b:=by omega
     have n3: ¬b=w.heap.size+1:=by omega
     have n4: ¬w.heap.size+1=b:=by omega
     have HA:=Zh hA
     clear hA
     go_wp2_with fail
     all_goals
      refine zad (v:=?va) ?hres rfl ?post
      case hres=>
       refine oh (q:=true) ?ca ?cb ?cc
       case ca=>exact HA.out.res.there
       case cb=>rfl
       case cc=>rfl
      case post=>exact Gives.mk rfl (nY HA.out.below Za)
 ·have q0:=e0.out
  have q1:=e1.out
  simp at q0 q1
  subst q1
  clear e0 e1
  have K1:=Zh (fun (W:qW) (h:Below ((w.alloc (.cells (stC s.f) 78)).alloc (.cells #[iI op,iI d,iI n,iI m,iI e,iI sz,iI imm] 83)).heap.size ((w.alloc (.cells (stC s.f) 78)).alloc (.cells #[iI op,iI d,iI n,iI m,iI e,iI sz,iI imm] 83)) W)=>IAt.below (ip (w.alloc (.cells (stC s.f) 78)) ⟨op,d,n,m,e,sz,imm⟩ 83 (w.heap.size+1) Zg) h)
  have K2:=Zh (fun (W:qW) (h:Below (((w.alloc (.cells (stC s.f) 78)).alloc (.cells #[iI op,iI d,iI n,iI m,iI e,iI sz,iI imm] 83)).alloc (.cells #[.bool false,iI 0,iI 0,.bool false,.bool false,.bool false,.int .u64 0,.int .u64 0] 173)).heap.size (((w.alloc (.cells (stC s.f) 78)).alloc (.cells #[iI op,iI d,iI n,iI m,iI e,iI sz,iI imm] 83)).alloc (.cells #[.bool false,iI 0,iI 0,.bool false,.bool false,.bool false,.int .u64 0,.int .u64 0] 173)) W)=>aD.below (fK ((w.alloc (.cells (stC s.f) 78)).alloc (.cells #[iI op,iI d,iI n,iI m,iI e,iI sz,iI imm] 83)) false 0 0 false false false 0 0 173 (w.heap.size+1+1) Zg) h)
  go_enter Tryz.func100,Tryz.ntmps100
  go_upto_region 3 with (first
   |(go_at_call 153;refine (SO.out _).mono ?_;rintro e w1 ⟨rfl,p,rfl⟩)
   |(go_at_call 154;refine (ME.out _).mono ?_;rintro e w1 ⟨rfl,p2,rfl⟩))
  go_cut [6] from 17 to 25 (fun t6 wx=> ∃b,t6=pP b/\AskW w wx s ⟨op,d,n,m,e,sz,imm⟩ b true SA L x1 false false 0 0)
  case first=>
   go_region_held3 (fun W=>W.cell? ⟨w.heap.size+1,0,none⟩=some (iI op)/\W.cell? ⟨w.heap.size+1,1,none⟩=some (iI d)/\W.cell? ⟨w.heap.size+1,2,none⟩=some (iI n)/\W.cell? ⟨w.heap.size+1,3,none⟩=some (iI m)/\W.cell? ⟨w.heap.size+1,4,none⟩=some (iI e)/\W.cell? ⟨w.heap.size+1,5,none⟩=some (iI sz)/\W.cell? ⟨w.heap.size+1,6,none⟩=some (iI imm)) (first|(simp [go_sem,↓IntWalk.iteOmega];done)|(simp [go_sem,↓IntWalk.iteOmega];omega)) (first
    |(go_at_call 155;refine (WR.out _).mono ?_;rintro e w1 ⟨rfl,p3,rfl⟩)
    |(go_at_call 157;refine (EX.out _).mono ?_;rintro e w1 ⟨rfl,p3,rfl⟩)
    |(go_at_call 156;refine (WH.out _ (HS.out _ Z0)).mono ?_;rintro e w1 ⟨rfl,p3,rfl⟩))
   all_goals
    go_wp2_with fail
    go_meet
    refine ⟨_,rfl,HS.out _ Z0,K1.out _ Z0,K2.out _ Z0,?_,by omega,Z0⟩
    repeat refine fL ?_ _
    exact fK _ _ _ _ _ _ _ _ _ _ _ (by first|rfl|simp [go_sem])
  case rest=>
   clear HS K1 K2 WH SO ME WR EX
   obtain ⟨b,rfl,hA⟩:=hcut
   go_upto_region 4 with fail
   go_cut [] from 26 to 38 (fun wx=>AskW w wx s ⟨op,d,n,m,e,sz,imm⟩ b true SA L x1 (op==19||op==22||op==26) false 0 0)
   case first=>
    have zk:=Zh hA.st
    have h2:=hA.ins
    have h4:=hA.acc
    have h3:=hA.res
    have h5:=hA.lo
    have l1:b<_:=aF hA.acc.1.1
    have l2:w.heap.size+1+1<_:=aF hA.res.1.1
    have l3:w.heap.size+1<_:=aF hA.ins.1
    have l4:w.heap.size<_:=hA.st.lt
    unfold IAt at h2
    unfold aD at h3 h4
    obtain ⟨i0,i1,i2,i3,i4,i5,i6⟩:=h2
    obtain ⟨⟨r0,r1,r2,r3,r4,r5,r6,r7⟩,s0,s1,s2,s3,s4,s5,s6,s7⟩:=h3
    obtain ⟨⟨c0,c1,c2,c3,c4,c5,c6,c7⟩,z0,z1,z2,z3,z4,z5,z6,z7⟩:=h4
    have n1: ¬b=w.heap.size+1+1:=by omega
    have n2: ¬w.heap.size+1+1=b:=by omega
    have n3: ¬b=w.heap.size+1:=by omega
    have n4: ¬w.heap.size+1=b:=by omega
    have HA:=Zh hA
    clear hA
    go_wp2_with fail
    all_goals
     try subst_vars
     go_meet
     first
      |(refine oq HA.out ?_;omega)
      |(refine ot HA.out ?_;omega)
      |exact HA.out.set4 _
   case rest=>
    clear hA
    have hA:=hcut
    clear hcut
    go_upto_region 5 with fail
    go_cut [] from 39 to 53 (fun wx=>AskW w wx s ⟨op,d,n,m,e,sz,imm⟩ b true SA L x1 (op==19||op==22||op==26) (op==20||op==24||op==28) 0 0)
    case first=>
     have zk:=Zh hA.st
     have h2:=hA.ins
     have h4:=hA.acc
     have h3:=hA.res
     have h5:=hA.lo
     have l1:b<_:=aF hA.acc.1.1
     have l2:w.heap.size+1+1<_:=aF hA.res.1.1
     have l3:w.heap.size+1<_:=aF hA.ins.1
     have l4:w.heap.size<_:=hA.st.lt
     unfold IAt at h2
     unfold aD at h3 h4
     obtain ⟨i0,i1,i2,i3,i4,i5,i6⟩:=h2
     obtain ⟨⟨r0,r1,r2,r3,r4,r5,r6,r7⟩,s0,s1,s2,s3,s4,s5,s6,s7⟩:=h3
     obtain ⟨⟨c0,c1,c2,c3,c4,c5,c6,c7⟩,z0,z1,z2,z3,z4,z5,z6,z7⟩:=h4
     have n1: ¬b=w.heap.size+1+1:=by omega
     have n2: ¬w.heap.size+1+1=b:=by omega
     have n3: ¬b=w.heap.size+1:=by omega
     have n4: ¬w.heap.size+1=b:=by omega
     have HA:=Zh hA
     clear hA
     go_wp2_with fail
     all_goals
      try subst_vars
      go_meet
      first
       |(refine om HA.out ?_;omega)
       |(refine oo HA.out ?_;omega)
       |exact HA.out.set5 _
    case rest=>
     clear hA
     have hA:=hcut
     clear hcut
     have zk:=Zh hA.st
     have h2:=hA.ins
     have h4:=hA.acc
     have h3:=hA.res
     have h5:=hA.lo
     have l1:b<_:=aF hA.acc.1.1
     have l2:w.heap.size+1+1<_:=aF hA.res.1.1
     have l3:w.heap.size+1<_:=aF hA.ins.1
     have l4:w.heap.size<_:=hA.st.lt
     unfold IAt at h2
     unfold aD at h3 h4
     obtain ⟨i0,i1,i2,i3,i4,i5,i6⟩:=h2
     obtain ⟨⟨r0,r1,r2,r3,r4,r5,r6,r7⟩,s0,s1,s2,s3,s4,s5,s6,s7⟩:=h3
     obtain ⟨⟨c0,c1,c2,c3,c4,c5,c6,c7⟩,z0,z1,z2,z3,z4,z5,z6,z7⟩:=h4
     have n1: ¬b=w.heap.size+1+1:=by omega
     have n2: ¬w.heap.size+1+1=b:=by omega
     have n3: ¬b=w.heap.size+1:=by omega
     have n4: ¬w.heap.size+1=b:=by omega
     have HA:=Zh hA
     clear hA
     go_upto_region 8 with (first
      |(go_at_call 158;refine (G.out _ Za _ (by repeat (first|with_reducible exact zk.out|with_reducible refine aW ?_ _|with_reducible refine ek ?_ Za))).mono ?_;rintro e w9 ⟨rfl,p9,rfl⟩)
      |(go_at_call 159;refine (PA.out _).mono ?_;rintro e w9 ⟨rfl,p8,rfl⟩))
     have hA:=(HA.out.set6 ((getX s d:Nat):Int)).more p9
     generalize (more (wc.setCell {block:=b,off:=6} (Value.int IntKind.u64 ((getX s d:Nat):Int))) p9)=wd at hA ⊢
     clear zk HA i0 i1 i2 i3 i4 i5 i6 r0 r1 r2 r3 r4 r5 r6 r7 s0 s1 s2 s3 s4 s5 s6 s7 c0 c1 c2 c3 c4 c5 c6 c7 z0 z1 z2 z3 z4 z5 z6 z7 l1 l2 l3 l4 n1 n2 n3 n4 h5
     have zk:=Zh hA.st
     have h2:=hA.ins
     have h4:=hA.acc
     have h3:=hA.res
     have h5:=hA.lo
     have l1:b<_:=aF hA.acc.1.1
     have l2:w.heap.size+1+1<_:=aF hA.res.1.1
     have l3:w.heap.size+1<_:=aF hA.ins.1
     have l4:w.heap.size<_:=hA.st.lt
     unfold IAt at h2
     unfold aD at h3 h4
     obtain ⟨i0,i1,i2,i3,i4,i5,i6⟩:=h2
     obtain ⟨⟨r0,r1,r2,r3,r4,r5,r6,r7⟩,s0,s1,s2,s3,s4,s5,s6,s7⟩:=h3
     obtain ⟨⟨c0,c1,c2,c3,c4,c5,c6,c7⟩,z0,z1,z2,z3,z4,z5,z6,z7⟩:=h4
     have n1: ¬b=w.heap.size+1+1:=by omega
     have n2: ¬w.heap.size+1+1=b:=by omega
     have n3: ¬b=w.heap.size+1:=by omega
     have n4: ¬w.heap.size+1=b:=by omega
     have HA:=Zh hA
     clear hA
     go_upto_region 10 with (go_at_call 159;refine (PA.out _).mono ?_;rintro e w9 ⟨rfl,p8,rfl⟩)
     have hA:=HA.out.more p8
     generalize (more wd p8)=wd at hA ⊢
     clear zk HA i0 i1 i2 i3 i4 i5 i6 r0 r1 r2 r3 r4 r5 r6 r7 s0 s1 s2 s3 s4 s5 s6 s7 c0 c1 c2 c3 c4 c5 c6 c7 z0 z1 z2 z3 z4 z5 z6 z7 l1 l2 l3 l4 n1 n2 n3 n4 h5
     have zk:=Zh hA.st
     have h2:=hA.ins
     have h4:=hA.acc
     have h3:=hA.res
     have h5:=hA.lo
     have l1:b<_:=aF hA.acc.1.1
     have l2:w.heap.size+1+1<_:=aF hA.res.1.1
     have l3:w.heap.size+1<_:=aF hA.ins.1
     have l4:w.heap.size<_:=hA.st.lt
     unfold IAt at h2
     unfold aD at h3 h4
     obtain ⟨i0,i1,i2,i3,i4,i5,i6⟩:=h2
     obtain ⟨⟨r0,r1,r2,r3,r4,r5,r6,r7⟩,s0,s1,s2,s3,s4,s5,s6,s7⟩:=h3
     obtain ⟨⟨c0,c1,c2,c3,c4,c5,c6,c7⟩,z0,z1,z2,z3,z4,z5,z6,z7⟩:=h4
     have n1: ¬b=w.heap.size+1+1:=by omega
     have n2: ¬w.heap.size+1+1=b:=by omega
     have n3: ¬b=w.heap.size+1:=by omega
     have n4: ¬w.heap.size+1=b:=by omega
     have HA:=Zh hA
     clear hA
     refine fO 11 Zb Zb ?_
     simp only [List.take_succ_cons,List.take_zero,List.drop_succ_cons,List.drop_zero]
     repeat (go_big_quiet_step (first|(go_at_call 160;exact az (MK.out _))))
     refine zaE ?_
     intro p10
     go_upto_region 11 with fail
     have hA:=(HA.out.set6 (bits .and .u64 ((getX s d:Nat):Int) (mk:Nat))).more p10
     generalize (more (wd.setCell {block:=b,off:=6} (Value.int IntKind.u64 (bits .and .u64 ((getX s d:Nat):Int) (mk:Nat)))) p10)=wd at hA ⊢
     clear zk HA i0 i1 i2 i3 i4 i5 i6 r0 r1 r2 r3 r4 r5 r6 r7 s0 s1 s2 s3 s4 s5 s6 s7 c0 c1 c2 c3 c4 c5 c6 c7 z0 z1 z2 z3 z4 z5 z6 z7 l1 l2 l3 l4 n1 n2 n3 n4 h5
     have zk:=Zh hA.st
     have h2:=hA.ins
     have h4:=hA.acc
     have h3:=hA.res
     have h5:=hA.lo
     have l1:b<_:=aF hA.acc.1.1
     have l2:w.heap.size+1+1<_:=aF hA.res.1.1
     have l3:w.heap.size+1<_:=aF hA.ins.1
     have l4:w.heap.size<_:=hA.st.lt
     unfold IAt at h2
     unfold aD at h3 h4
     obtain ⟨i0,i1,i2,i3,i4,i5,i6⟩:=h2
     obtain ⟨⟨r0,r1,r2,r3,r4,r5,r6,r7⟩,s0,s1,s2,s3,s4,s5,s6,s7⟩:=h3
     obtain ⟨⟨c0,c1,c2,c3,c4,c5,c6,c7⟩,z0,z1,z2,z3,z4,z5,z6,z7⟩:=h4
     have n1: ¬b=w.heap.size+1+1:=by omega
     have n2: ¬w.heap.size+1+1=b:=by omega
     have n3: ¬b=w.heap.size+1:=by omega
     have n4: ¬w.heap.size+1=b:=by omega
     have HA:=Zh hA
     clear hA
     rw [<-q0] at HA c6
     go_wp2_with fail
     all_goals
      refine zad (v:=?vb) ?hres rfl ?post
      case hres=>
       refine oh (q:=true) ?ca ?cb ?cc
       case ca=>exact HA.out.res.there
       case cb=>rfl
       case cc=>rfl
      case post=>exact Gives.mk rfl (nY HA.out.below Za)
end
end Go.Proofs.YtjmfoeajhiimnaaGreatDoor
