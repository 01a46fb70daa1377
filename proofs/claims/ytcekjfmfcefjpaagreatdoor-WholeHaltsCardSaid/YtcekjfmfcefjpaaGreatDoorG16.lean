/- Walks. No condition. -/
import Derived.OrdersHeld
import Derived.Deep.RegionHeld3
import Derived.Test.YtcekjfmfcefjpaaGreatDoorG12
import Derived.Test.YtcekjfmfcefjpaaGreatDoorG15
set_option maxRecDepth 100000
set_option maxHeartbeats 0
set_option linter.all false
namespace Go.Proofs.YtcekjfmfcefjpaaGreatDoor
open Go.RowKit Go.Sort
section
variable{P:Program}{ops:Array Oper}{Q:Exit->Act->qW->Prop}{md:Region.Mode}{S:Array Bool->qW->Prop}{T:qW->Prop}
def wpAnyG(P:Program)(md:Region.Mode)(ops:Array Oper)(Q:Exit->Act->qW->Prop)(S:Array Bool->qW->Prop):Nat->Array Bool->Act->qW->Prop
 |0,listed,a,w=>Region.ready md ops listed=[]/\Q .normal a w
 |fuel+1,listed,a,w=>
  (Region.ready md ops listed=[]->Q .normal a w)/\
  ∀i∈Region.ready md ops listed,wpOp P ops Q i (fun a' w'=>S (listed.setIfInBounds i true) w'/\wpAnyG P md ops Q S fuel (listed.setIfInBounds i true) a' w') a w
theorem iN: ∀(fuel:Nat) (listed:Array Bool) (a:Act) (w:qW),wpAnyG P md ops Q S fuel listed a w->wpAny P md ops Q fuel listed a w
 |0,_,_,_,h=>h
 |fuel+1,_,_,_,h=>⟨h.1,fun i hi=>wpOp_mono (fun a' w' h'=>iN fuel _ a' w' h'.2) (h.2 i hi)⟩
def Closed(md:Region.Mode)(ops:Array Oper)(listed:Array Bool):Prop:= ∀j o,ops[j]?=some o->listed.getD j false=true-> ∀e∈o.after,Region.binds md e=true->listed.getD e.on false=true
def closedB(md:Region.Mode)(ops:Array Oper)(listed:Array Bool):Bool:=ops.toList.zipIdx.all fun x=>!listed.getD x.2 false||x.1.after.all fun e=>!Region.binds md e||listed.getD e.on false
theorem iC{listed:Array Bool}(h:closedB md ops listed=true):Closed md ops listed:=by
 intro j o hj hl e he hb
 have h1:=List.all_eq_true.1 h (o,j) (by rw [List.mem_zipIdx_iff_getElem?];simpa using hj)
 simp only [hl,Bool.not_true,Bool.false_or,Array.all_eq_true_iff_forall_mem] at h1
 have:=h1 e he
 simpa [hb] using this
theorem rC{listed:Array Bool}{i j:Nat}(h:(listed.setIfInBounds i true).getD j false=true):listed.getD j false=true\/j=i:=by
 by_cases Ak:i=j
 ·exact .inr Ak.symm
 ·rw [getD_set_ne false Ak] at h
  exact .inl h
theorem Closed.set{listed:Array Bool}(h:Closed md ops listed){j:Nat}(hj:j∈Region.ready md ops listed):Closed md ops (listed.setIfInBounds j true):=by
 intro k o hk hl e he hb
 rcases rC hl with h1|h1
 ·exact getD_set_true (h k o hk h1 e he hb)
 ·subst h1
  obtain ⟨-,o',Lp,xp⟩:=mem_ready.1 hj
  rw [hk] at Lp
  cases Lp
  exact getD_set_true (xp e he hb)
def pathB(md:Region.Mode)(ops:Array Oper):List Nat->Bool
 |i::k::r=>((ops[k]?).map (fun o=>o.after.any (fun e=>Region.binds md e&&e.on==i))).getD false&&pathB md ops (k::r)
 |_=>true
theorem kw{listed:Array Bool}(h:Closed md ops listed): ∀(r:List Nat) (i:Nat),pathB md ops (i::r)=true->listed.getD i false=false->listed.getD ((i::r).getLast Zi) false=false
 |[],i,_,hi=>by simpa using hi
 |k::r,i,hp,hi=>by
  simp only [pathB,za0] at hp
  rw [List.getLast_cons Zi]
  refine kw h r k hp.2 ?_
  cases hk:ops[k]? with
  |none=>simp [hk] at hp
  |some o=>
   simp only [hk,Option.map_some,Option.getD_some,Array.any_eq_true,za0,beq_iff_eq] at hp
   obtain ⟨⟨n,hn,hb,rfl⟩, -⟩:=hp
   have he:o.after[n]∈o.after:=Array.getElem_mem hn
   revert hb
   generalize o.after[n]=e at*
   intro hb
   cases hl:listed.getD k false
   ·rfl
   ·have:=h k o hk hl e he hb
    rw [this] at hi
    cases hi
theorem fO{i:Nat}{oi:Oper}{v:qV}(hi:ops[i]?=some oi)(zD: ∀(j:Nat) (o:Oper) cs b,ops[j]?=some o->o.op≠ .select cs b)
  (hQ: ∀c a w,Q (.panic c) (a.put oi.dst v) w->Q (.panic c) a w) (hN: ∀listed w,S (listed.setIfInBounds i true) w↔S listed w)
  (hT: ∀listed w,Closed md ops listed->listed.getD i false=false->S listed w->T w):
  ∀(fuel:Nat) (listed:Array Bool) (a:Act) (w:qW),Closed md ops listed->
   (∀j oj,ops[j]?=some oj->j≠i->listed.getD j true=false->(∀e∈oj.after,Region.binds md e=true->e.on≠i)->oi.apart ops oj=true)->
   i∈Region.ready md ops listed->YieldsIf P ops T oi v a->S listed w->
   wpAnyG P md ops Q S fuel (listed.setIfInBounds i true) (a.put oi.dst v) w->wpAnyG P md ops Q S (fuel+1) listed a w:=by
 have Bd: ∀listed,i∈Region.ready md ops listed->listed.getD i false=false:=fun listed hr=>by
  have h0:=(mem_ready.1 hr).1
  rcases zaJ i listed.size with h'|h'
  ·simp [h'] at h0 ⊢
   exact h0
  ·simp [zaW h']
 intro fuel
 induction fuel with
 |zero=>
  intro listed a w hc _ hr hy hS H
  refine ⟨fun h=>(by rw [h] at hr;cases hr),fun j hj=>?_⟩
  by_cases Ac:j=i
  ·subst Ac;exact hy.wpOp hi (hT _ _ hc (Bd _ hr) hS) ⟨(hN _ _).2 hS,H⟩
  ·have:=ready_mono hj Ac
   rw [H.1] at this
   cases this
 |succ fuel ih=>
  intro listed a w hc An hr hy hS H
  refine ⟨fun h=>(by rw [h] at hr;cases hr),fun j hj=>?_⟩
  by_cases Ac:j=i
  ·subst Ac;exact hy.wpOp hi (hT _ _ hc (Bd _ hr) hS) ⟨(hN _ _).2 hS,H⟩
  ·have h1:=H.2 j (ready_mono hj Ac)
   obtain ⟨BW,oj,Cy,xp⟩:=mem_ready.1 hj
   have Ek: ∀e∈oj.after,Region.binds md e=true->e.on≠i:=fun e he hb Ay=>by
    have h1:=xp e he hb
    have h0:=(mem_ready.1 hr).1
    rw [Ay] at h1
    rcases zaJ i listed.size with h'|h'
    ·simp [h'] at h0 h1;rw [h0] at h1;cases h1
    ·simp [zaW h'] at h1
   have h2:=wpOp_putIf Cy (An j oj Cy Ac BW Ek) (fun cs b=>zD i oi cs b hi) (fun cs b=>zD j oj cs b Cy) hQ hy h1
   have AS: ∀k ok,ops[k]?=some ok->k≠i->(listed.setIfInBounds j true).getD k true=false->
     (∀e∈ok.after,Region.binds md e=true->e.on≠i)->oi.apart ops ok=true:=fun k ok hk Io Bd xV=>by
    refine An k ok hk Io ?_ xV
    by_cases Ab:j=k
    ·subst Ab;exact BW
    ·rw [getD_set_ne true Ab] at Bd;exact Bd
   refine wpOp_mono (fun a' w' h3=>?_) h2
   have hs:S (listed.setIfInBounds j true) w':=(hN _ _).1 (by rw [Array.setIfInBounds_comm _ _ Ac];exact h3.2.1)
   refine ⟨hs,ih (listed.setIfInBounds j true) a' w' (hc.set hj) AS (ready_mono hr (Ne.symm Ac)) h3.1 hs ?_⟩
   rw [Array.setIfInBounds_comm _ _ Ac]
   exact h3.2.2
theorem fN{A B:qW->Prop}{L:Nat}(i:Nat){oi:Oper}{v:qV}{fuel:Nat}{listed:Array Bool}{a:Act}{w:qW}(path:List Nat)(hi:ops[i]?=some oi)
  (hs:Region.noSelect ops=true) (hf:Region.free md ops listed i=true) (hr:(Region.ready md ops listed).contains i=true)
  (hQ: ∀c a w,Q (.panic c) (a.put oi.dst v) w->Q (.panic c) a w) (hp:pathB md ops (i::path)=true) (hL:(i::path).getLast Zi=L) (hne:i≠L) (hc:closedB md ops listed=true)
  (hy:YieldsIf P ops (fun w=>A w/\B w) oi v a) (hS:A w/\(listed.getD L false=false->B w))
  (h:wpAnyG P md ops Q (fun l w=>A w/\(l.getD L false=false->B w)) fuel (listed.setIfInBounds i true) (a.put oi.dst v) w):wpAnyG P md ops Q (fun l w=>A w/\(l.getD L false=false->B w)) (fuel+1) listed a w:=
 fO (T:=fun w=>A w/\B w) hi (Region.noSelect_spec hs) hQ (fun l w=>by rw [getD_set_ne false hne]) (fun l w i' hl hS=>⟨hS.1,hS.2 (by rw [<-hL];exact kw i' path i hp hl)⟩) fuel listed a w (iC hc) (Region.free_spec hi hf) (by simpa using hr) hy hS h
theorem bD{A B:qW->Prop}{L:Nat}(i:Nat){oi:Oper}{v:qV}{fuel:Nat}{listed:Array Bool}{a:Act}{w:qW}(hi:ops[i]?=some oi)
  (hs:Region.noSelect ops=true) (hf:Region.free md ops listed i=true) (hr:(Region.ready md ops listed).contains i=true)
  (hQ: ∀c a w,Q (.panic c) (a.put oi.dst v) w->Q (.panic c) a w) (hne:i≠L) (hc:closedB md ops listed=true)
  (hy:YieldsIf P ops A oi v a) (hS:A w/\(listed.getD L false=false->B w))
  (h:wpAnyG P md ops Q (fun l w=>A w/\(l.getD L false=false->B w)) fuel (listed.setIfInBounds i true) (a.put oi.dst v) w):wpAnyG P md ops Q (fun l w=>A w/\(l.getD L false=false->B w)) (fuel+1) listed a w:=
 fO (T:=A) hi (Region.noSelect_spec hs) hQ (fun l w=>by rw [getD_set_ne false hne]) (fun l w i' hl hS=>hS.1) fuel listed a w (iC hc) (Region.free_spec hi hf) (by simpa using hr) hy hS h
theorem cX{A B:qW->Prop}{L:Nat}(i:Nat){oi:Oper}{v:qV}{fuel:Nat}{listed:Array Bool}{a:Act}{w:qW}(hi:ops[i]?=some oi)
  (hs:Region.noSelect ops=true) (hf:Region.free md ops listed i=true) (hr:(Region.ready md ops listed).contains i=true)
  (hQ: ∀c a w,Q (.panic c) (a.put oi.dst v) w->Q (.panic c) a w) (hne:i≠L) (hc:closedB md ops listed=true)
  (hy:YieldsIf P ops (fun _=>True) oi v a) (hS:A w/\(listed.getD L false=false->B w))
  (h:wpAnyG P md ops Q (fun l w=>A w/\(l.getD L false=false->B w)) fuel (listed.setIfInBounds i true) (a.put oi.dst v) w):wpAnyG P md ops Q (fun l w=>A w/\(l.getD L false=false->B w)) (fuel+1) listed a w:=
 fO (T:=fun _=>True) hi (Region.noSelect_spec hs) hQ (fun l w=>by rw [getD_set_ne false hne]) (fun l w i' hl hS=>trivial) fuel listed a w (iC hc) (Region.free_spec hi hf) (by simpa using hr) hy hS h
theorem oG(i:Nat){oi:Oper}{fuel:Nat}{listed:Array Bool}{a:Act}{w:qW}(hi:ops[i]?=some oi)(hr:Region.ready md ops listed=[i])(hg:oi.guard=none)
  (h: ∀K:Act->qW->Prop,(∀a' w',S (listed.setIfInBounds i true) w'->wpAnyG P md ops Q S fuel (listed.setIfInBounds i true) a' w'->K a' w')->if Region.wanted oi (yielded ops a.tmps)=true then Oper.wp P oi a w K Q else False):wpAnyG P md ops Q S (fuel+1) listed a w:=by
 refine ⟨fun h0=>(by rw [hr] at h0;cases h0),fun j hj=>?_⟩
 rw [hr] at hj
 obtain rfl:j=i:=by simpa using hj
 have hw:Region.wanted oi (yielded ops a.tmps)=true:=by simp [Region.wanted,hg]
 have h1:=h (fun a' w'=>S (listed.setIfInBounds j true) w'/\wpAnyG P md ops Q S fuel (listed.setIfInBounds j true) a' w') (fun a' w' h1 h2=>⟨h1,h2⟩)
 rw [if_pos hw] at h1
 unfold wpOp
 simp only [hi,hw,if_true]
 exact .inl h1
theorem af{listed:Array Bool}{a:Act}{w:qW}(hr:Region.ready md ops listed=[])(h:Q .normal a w): ∀fuel,wpAnyG P md ops Q S fuel listed a w
 |0=>⟨hr,h⟩
 |_+1=>⟨fun _=>h,by rw [hr];simp⟩
theorem ae{id:Nat}{a:Act}{w:qW}{l:List Oper}(A B:qW->Prop)(L:Nat)(hm:P.follows .mixedOrders=true)
  (h:wpAnyG P .any l.toArray Q (fun l w=>A w/\(l.getD L false=false->B w)) l.toArray.size (Array.replicate l.toArray.size false) a w.drew):(Code.region id l.toArray true).wp P Q a w:=
 wp_region_any hm (iN _ _ _ _ h)
end
theorem an{w:qW}{k o:Nat}{cs:Array qV}{t:TypeId}(h:k<w.heap.size):(w.drew.alloc (.cells cs t)).cell? ⟨k,o,none⟩=w.cell? ⟨k,o,none⟩:=by
 rw [aR,if_pos (show k<w.drew.heap.size from h)]
 rfl
theorem ydP{w:qW}{k o:Nat}{cs:Array qV}{t:TypeId}(h:k<w.heap.size):(w.drew.alloc (.cells cs t)).frozen? ⟨k,o,none⟩=w.frozen? ⟨k,o,none⟩:=by
 rw [dU,if_pos (show k<w.drew.heap.size from h)]
 rfl
structure Rw where
 ix:Nat
 e:TypeId
 sz:Nat
 n:Nat
 xs:List qV
def fld(cs:Array qV)(i:Nat):qV:=cs.getD i undef
def foot(M:Nat)(cs:Array qV)(rs:List Rw):Nat->Prop:=fun k=>k=M\/ ∃r∈rs,(fld cs r.ix).ownBlock=some k
structure Ob(M:Nat)(t:TypeId)(cs:Array qV)(rs:List Rw)(W:qW):Prop where
 out:W.heap[M]?=some (.cells cs t (0,0))
 own: ∀r∈rs,W.ownsRow (M+1) r.e r.sz (fld cs r.ix) r.n r.xs
 ix:rs.Pairwise (fun r q=>r.ix≠q.ix)
 apart: ∀r∈rs,∀q∈rs,r.ix≠q.ix-> ∀k,(fld cs r.ix).ownBlock=some k->(fld cs q.ix).ownBlock≠some k
section
variable{M:Nat}{t:TypeId}{cs:Array qV}{rs:List Rw}{W:qW}
theorem Ob.lt(h:Ob M t cs rs W):M<W.heap.size:=ac h.out
theorem Ob.foot_lt(h:Ob M t cs rs W){k:Nat}(hk:foot M cs rs k):M<=k/\k<W.heap.size:=by
 rcases hk with rfl|⟨r,hr,hk⟩
 ·exact ⟨zaq _,h.lt⟩
 ·have:=(h.own r hr).lt k hk
  omega
theorem Ob.kp{X:Nat->Prop}{W':qW}(h:Ob M t cs rs W)(hk:Kp X W W')(hX: ∀k,foot M cs rs k-> ¬X k):Ob M t cs rs W':=
 ⟨(hk.block M h.lt (hX M (.inl rfl))).trans h.out,fun r hr=>ah (h.own r hr) hk (fun g hg=>hX g (.inr ⟨r,hr,hg⟩)),h.ix,h.apart⟩
theorem Ob.below{W':qW}(h:Ob M t cs rs W)(hk:Below W.heap.size W W'):Ob M t cs rs W':=h.kp (X:=fun _=>False) (Kp.of_below hk) (fun _ _=>id)
theorem Ob.set(h:Ob M t cs rs W)(i:Nat)(v:qV)(hi: ∀r∈rs,r.ix≠i):Ob M t (cs.setIfInBounds i v) rs (W.setCell ⟨M,i,none⟩ v):=by
 have hf: ∀r∈rs,fld (cs.setIfInBounds i v) r.ix=fld cs r.ix:=fun r hr=>by
  have:=hi r hr
  unfold fld
  rw [zaI,zaI,zaT,if_neg (fun e=>this e.symm)]
 refine ⟨aJ h.out _,fun r hr=>?_,h.ix,fun r hr q hq=>?_⟩
 ·rw [hf r hr]
  exact ah (h.own r hr) (Kp.set W M i v) (fun g hg e=>by have:=((h.own r hr).lt g hg).1;omega)
 ·rw [hf r hr,hf q hq]
  exact h.apart r hr q hq
theorem io{i:Nat}{v:qV}(hi: ∀r∈rs,r.ix≠i){k:Nat}:foot M (cs.setIfInBounds i v) rs k↔foot M cs rs k:=by
 have hf: ∀r∈rs,fld (cs.setIfInBounds i v) r.ix=fld cs r.ix:=fun r hr=>by
  have:=hi r hr
  unfold fld
  rw [zaI,zaI,zaT,if_neg (fun e=>this e.symm)]
 unfold foot
 constructor
 ·rintro (h|⟨r,hr,h⟩)
  ·exact .inl h
  ·exact .inr ⟨r,hr,by rwa [hf r hr] at h⟩
 ·rintro (h|⟨r,hr,h⟩)
  ·exact .inl h
  ·exact .inr ⟨r,hr,by rwa [hf r hr]⟩
theorem Ob.put{r:Rw}{v':qV}{n':Nat}{xs':List qV}{W2:qW}(h:Ob M t cs rs W)(hr:r∈rs)(BY:r.ix<cs.size)(hk:Kp (fun k=>(fld cs r.ix).ownBlock=some k) W W2)(hown:W2.ownsRow (M+1) r.e r.sz v' n' xs')(hg: ∀k,v'.ownBlock=some k->(fld cs r.ix).ownBlock=some k\/W.heap.size<=k):
  Ob M t (cs.setIfInBounds r.ix v') (rs.map (fun q=>if q.ix=r.ix then {q with n:=n',xs:=xs'} else q)) (W2.setCell ⟨M,r.ix,none⟩ v')/\Kp (foot M cs rs) W (W2.setCell ⟨M,r.ix,none⟩ v')/\
   ∀k,foot M (cs.setIfInBounds r.ix v') (rs.map (fun q=>if q.ix=r.ix then {q with n:=n',xs:=xs'} else q)) k->foot M cs rs k\/W.heap.size<=k:=by
 have D4: ∀i,i=r.ix->fld (cs.setIfInBounds r.ix v') i=v':=fun i hq=>by
  unfold fld
  rw [hq,zaI,zaT,if_pos rfl,if_pos BY]
  rfl
 have CM: ∀i,i≠r.ix->fld (cs.setIfInBounds r.ix v') i=fld cs i:=fun i hq=>by
  unfold fld
  rw [zaI,zaI,zaT,if_neg (fun e=>hq e.symm)]
 have Ay: ∀q∈rs,q.ix=r.ix->q=r:=fun q hq e=>by
  obtain ⟨i,hi,rfl⟩:=zaP hq
  obtain ⟨j,hj,rfl⟩:=zaP hr
  rcases Nat.lt_trichotomy i j with hl|rfl|hl
  ·exact absurd e (List.pairwise_iff_getElem.1 h.ix i j hi hj hl)
  ·rfl
  ·exact absurd e.symm (List.pairwise_iff_getElem.1 h.ix j i hj hi hl)
 have hM:M<W.heap.size:=h.lt
 have NB: ∀k,(fld cs r.ix).ownBlock=some k->M<k:=fun k hk=>by have:=((h.own r hr).lt k hk).1;omega
 have zi:W2.heap[M]?=some (.cells cs t (0,0)):=(hk.block M hM (fun e=>by have:=NB M e;omega)).trans h.out
 have Ng: ∀k,v'.ownBlock=some k->M<k:=fun k hk=>by have:=(hown.lt k hk).1;omega
 have Jq: ∀q∈rs,q.ix≠r.ix->W2.ownsRow (M+1) q.e q.sz (fld cs q.ix) q.n q.xs:=fun q hq hne=>ah (h.own q hq) hk (fun g xn Am=>h.apart q hq r hr hne g xn Am)
 refine ⟨⟨aJ zi _,?_,?_,?_⟩,?_,?_⟩
 ·intro q hq
  obtain ⟨q0,yC,rfl⟩:=List.mem_map.1 hq
  by_cases he:q0.ix=r.ix
  ·obtain rfl:=Ay q0 yC he
   simp only [if_true]
   rw [D4 _ rfl]
   exact ah hown (Kp.set W2 M q0.ix v') (fun g xn e=>by have:=Ng g xn;omega)
  ·simp only [if_neg he]
   rw [CM _ he]
   exact ah (Jq q0 yC he) (Kp.set W2 M r.ix v') (fun g xn e=>by have:=((h.own q0 yC).lt g xn).1;omega)
 ·rw [List.pairwise_map]
  refine h.ix.imp (fun {a b} GN=>?_)
  split<;>split<;>simpa using GN
 ·intro q hq q' De hne k wT
  obtain ⟨q0,yC,rfl⟩:=List.mem_map.1 hq
  obtain ⟨q1,zF,rfl⟩:=List.mem_map.1 De
  by_cases he:q0.ix=r.ix
  ·by_cases Ca:q1.ix=r.ix
   ·simp only [he,Ca,if_true] at hne
    exact absurd rfl hne
   ·simp only [if_pos he,if_neg Ca] at wT hne ⊢
    rw [CM _ Ca]
    rw [D4 _ he] at wT
    rcases hg k wT with h1|h1
    ·exact h.apart r hr q1 zF (fun e=>Ca e.symm) k h1
    ·intro h2
     have:=((h.own q1 zF).lt k h2).2
     omega
  ·by_cases Ca:q1.ix=r.ix
   ·simp only [if_neg he,if_pos Ca] at wT hne ⊢
    rw [D4 _ Ca]
    rw [CM _ he] at wT
    intro h2
    rcases hg k h2 with h1|h1
    ·exact h.apart r hr q0 yC (fun e=>he e.symm) k h1 wT
    ·have:=((h.own q0 yC).lt k wT).2
     omega
   ·simp only [if_neg he,if_neg Ca] at wT hne ⊢
    rw [CM _ Ca]
    rw [CM _ he] at wT
    exact h.apart q0 yC q1 zF hne k wT
 ·exact (hk.mono (fun k _ e=> .inr ⟨r,hr,e⟩)).trans ((Kp.set W2 M r.ix v').mono (fun k _ e=> .inl e))
 ·rintro k (rfl|⟨q,hq,wT⟩)
  ·exact .inl (.inl rfl)
  ·obtain ⟨q0,yC,rfl⟩:=List.mem_map.1 hq
   by_cases he:q0.ix=r.ix
   ·simp only [if_pos he] at wT
    rw [D4 _ he] at wT
    rcases hg k wT with h1|h1
    ·exact .inl (.inr ⟨r,hr,h1⟩)
    ·exact .inr h1
   ·simp only [if_neg he] at wT
    rw [CM _ he] at wT
    exact .inl (.inr ⟨q0,yC,wT⟩)
theorem eZ{w:qW}{B s n m:Nat}{e:TypeId}{a:Option Addr}{c:Nat}{xs:List qV}(h:w.ownsRow B e s (.slice a n c) n xs)(hm:m<=n):w.ownsRow B e s (.slice a m c) m (xs.take (m*s)):=by
 have hl:=h.1
 have Lt:m*s<=n*s:=Nat.mul_le_mul_right _ hm
 refine ⟨by rw [zaR];omega,?_⟩
 rcases h.2 with ⟨e1,e2⟩|⟨g,cap,cur,e1,h2,h3,h4,h5,h6,h7⟩
 ·left
  injection e1 with e1 e3 e4
  exact ⟨by rw [e1,e4,show m=0 by omega],by omega⟩
 ·right
  injection e1 with e1 e3 e4
  exact ⟨g,cap,cur,by rw [e1,e4],h2,h3,by omega,h5,h6,by rw [<-h7,List.take_take];congr 1;omega⟩
theorem az{w:qW}{B s n:Nat}{e:TypeId}{v:qV}{xs:List qV}(h:w.ownsRow B e s v n xs): ∃a c,v= .slice a n c/\n<=c/\c<=9223372036854775807/\(a=none->n=0/\c=0)/\ ∀p,a=some p->p=⟨p.block,0,none⟩:=by
 rcases h.2 with ⟨rfl,rfl⟩|⟨g,cap,cur,rfl,h2,h3,h4,h5,h6,h7⟩
 ·exact ⟨none,0,rfl,zaq _,by omega,fun _=>⟨rfl,rfl⟩,fun p e=>by cases e⟩
 ·exact ⟨_,_,rfl,h4,h5,fun e=>by simp at e,fun p e=>by cases e;rfl⟩
end
theorem ar{B C:Nat}{w W W':qW}(hB:Below B w W)(h:Below C W W')(hC:B<=C:=by omega):Below B w W':=
 hB.trans ⟨h.os,h.tape,h.output,h.size,fun k hk=>h.block k (zar hk hC)⟩
theorem aI{w:qW}{o:Obj}{k:Nat}(h:k=w.heap.size):(w.alloc o).heap[k]?=some o:=by subst h;exact zab _ _
theorem Kp.pl{X:Nat->Prop}{W w2:qW}{k:Nat}{cs:Array qV}{t:TypeId}(h:Kp X (Go.Proofs.YtcekjfmfcefjpaaGreatDoor.putB W k cs t) w2)(hk:k<W.heap.size:=by (try simp only [Zz]);omega)(hX: ¬X k:=by (try simp only [Zz]);omega):w2=Go.Proofs.YtcekjfmfcefjpaaGreatDoor.putB w2 k cs t/\k<w2.heap.size/\Kp (fun b=>X b\/b=k) W w2:=h.peel hk hX
theorem eH{B:Nat}{w W:qW}(h:Below B w W){k:Nat}(hk:B<=k)(cs:Array qV)(t:TypeId):Below B w (putB W k cs t):=
 ⟨h.os,h.tape,h.output,by rw [aO];exact h.size,fun i hi=>by rw [aL,if_neg Za];exact h.block i hi⟩
theorem fG{B:Nat}{w W:qW}(h:Below B w W):Below B w W.drew:=⟨h.os,h.tape,h.output,h.size,h.block⟩
theorem Kp.unmo{X:Nat->Prop}{W w2:qW}{p:Regrown}(h:Kp X (Go.Proofs.YtcekjfmfcefjpaaGreatDoor.more W p) w2):Kp X W w2:=(Kp.mo W p).trans h
theorem Kp.undr{X:Nat->Prop}{W w2:qW}(h:Kp X W.drew w2):Kp X W w2:=(Kp.dr W).trans h
def cellW(w:qW)(a:Addr):Option qV:=w.cell? a
def frzW(w:qW)(a:Addr):Bool:=w.frozen? a
def ownN(M:Nat)(v:qV):Nat:=v.ownBlock.getD M
theorem be{M k:Nat}{v:qV}(h:v.ownBlock=some k):k=ownN M v:=by simp [ownN,h]
theorem eG{W:qW}{M:Nat}{t:TypeId}{cs:Array qV}(h:W.heap[M]?=some (.cells cs t (0,0))){w0:qW}(hb:Below w0.heap.size w0 W)(b i:Nat):
  W.cell? ⟨b,i,none⟩=if b<w0.heap.size then w0.cell? ⟨b,i,none⟩ else if b=M then cs[i]? else cellW W ⟨b,i,none⟩:=by
 split
 ·exact hb.cell (p:=⟨b,i,none⟩) ‹_›
 ·split
  ·rename_i e
   subst e
   exact aa h i
  ·rfl
theorem ez{W:qW}{M:Nat}{t:TypeId}{cs:Array qV}(h:W.heap[M]?=some (.cells cs t (0,0))){w0:qW}(hb:Below w0.heap.size w0 W)(b i:Nat):
  W.frozen? ⟨b,i,none⟩=if b<w0.heap.size then w0.frozen? ⟨b,i,none⟩ else if b=M then false else frzW W ⟨b,i,none⟩:=by
 split
 ·exact hb.frozen (p:=⟨b,i,none⟩) ‹_›
 ·split
  ·rename_i e
   subst e
   exact ai h i
  ·rfl
def opC(o:OpD):List qV:=[iI o.kind,iI o.dst,iI o.dst2,iI o.a,iI o.b,iI o.c,.int .u64 o.n,iI o.op,iI o.size,iI o.order,iI o.to,iI o.site,iI o.line]
def locC(l:qB×Int):List qV:=[.string l.1,iI l.2]
structure LFin(s:LS):Prop where
 ops:s.ops.length<=16384
 regs:s.regs<=20000
 labels:s.labels<=20000
 sites:s.sites.length<=20000
theorem LLe.fin{s t:LS}(h:LLe s t)(k:LFin t):LFin s:=⟨zal h.ops k.ops,Int.le_trans h.regs k.regs,Int.le_trans h.labels k.labels,zal h.sites k.sites⟩
def mkC(vv wv ov sv lv:qV)(s:LS):Array qV:=#[vv,wv,ov,iI s.regs,iI s.labels,sv,iI s.line,lv]
def mkR(s:LS)(xs:List qV):List Rw:=[⟨2,250,13,s.ops.length,s.ops.flatMap opC⟩,⟨5,395,5,s.sites.length,xs⟩,⟨7,339,2,s.locals.length,s.locals.flatMap locC⟩]
structure MkN(s:LS):Prop where
 fin:LFin s
 regs:0<=s.regs
 labels:0<=s.labels
 locals:s.locals.length<=s.regs
 line:rng s.line
structure Mk(w0:qW)(M a b c:Nat)(vv wv:qV)(W:qW)(s:LS):Prop where
 ob: ∃ov sv lv xs,Ob M 231 (mkC vv wv ov sv lv s) (mkR s xs) W/\ownN M ov=a/\ownN M sv=b/\ownN M lv=c
 bl:Below w0.heap.size w0 W
 le:w0.heap.size<=M
 nums:MkN s
section
variable{w0 W W':qW}{M a b c:Nat}{vv wv:qV}{s:LS}
theorem de{ov sv lv:qV}{xs:List qV}{k:Nat}:foot M (mkC vv wv ov sv lv s) (mkR s xs) k↔k=M\/ov.ownBlock=some k\/sv.ownBlock=some k\/lv.ownBlock=some k:=by
 simp [foot,mkR,mkC,fld]
theorem gy{ov:qV}(h: ∀k,ov.ownBlock=some k->M<=k/\k<W.heap.size)(hM:M<W.heap.size):M<=ownN M ov/\ownN M ov<W.heap.size:=by
 unfold ownN
 rcases he:ov.ownBlock with _|k
 ·exact ⟨zaq _,hM⟩
 ·exact h k he
theorem Mk.bd(h:Mk w0 M a b c vv wv W s):w0.heap.size<=M/\M<W.heap.size/\M<=a/\a<W.heap.size/\M<=b/\b<W.heap.size/\M<=c/\c<W.heap.size:=by
 obtain ⟨ov,sv,lv,xs,ho,rfl,rfl,rfl⟩:=h.ob
 have h1:=fun k hk=>ho.foot_lt (k:=k) (de.2 (.inr (.inl hk)))
 have h2:=fun k hk=>ho.foot_lt (k:=k) (de.2 (.inr (.inr (.inl hk))))
 have h3:=fun k hk=>ho.foot_lt (k:=k) (de.2 (.inr (.inr (.inr hk))))
 have g1:=gy h1 ho.lt
 have g2:=gy h2 ho.lt
 have g3:=gy h3 ho.lt
 exact ⟨h.le,ho.lt,g1.1,g1.2,g2.1,g2.2,g3.1,g3.2⟩
theorem Mk.rules(h:Mk w0 M a b c vv wv W s): ∃ov sv lv,(∀b i,W.cell? (aB b i)=if b<w0.heap.size then w0.cell? (aB b i) else if b=M then (#[vv,wv,ov,iI s.regs,iI s.labels,sv,iI s.line,lv]:Array qV)[i]? else cellW W ⟨b,i,none⟩)/\
  (∀b i,W.frozen? (aB b i)=if b<w0.heap.size then w0.frozen? (aB b i) else if b=M then false else frzW W ⟨b,i,none⟩):=by
 obtain ⟨ov,sv,lv,xs,ho, -⟩:=h.ob
 exact ⟨ov,sv,lv,eG ho.out h.bl,ez ho.out h.bl⟩
theorem Mk.kp{X:Nat->Prop}(h:Mk w0 M a b c vv wv W s)(hk:Kp X W W')(hb:Below w0.heap.size w0 W')(hX: ¬X M/\ ¬X a/\ ¬X b/\ ¬X c):Mk w0 M a b c vv wv W' s:=by
 obtain ⟨ov,sv,lv,xs,ho,rfl,rfl,rfl⟩:=h.ob
 refine ⟨⟨ov,sv,lv,xs,ho.kp hk (fun k hf=>?_),rfl,rfl,rfl⟩,hb,h.le,h.nums⟩
 rcases de.1 hf with rfl|e|e|e
 ·exact hX.1
 ·rw [be (M:=M) e];exact hX.2.1
 ·rw [be (M:=M) e];exact hX.2.2.1
 ·rw [be (M:=M) e];exact hX.2.2.2
theorem Mk.below(h:Mk w0 M a b c vv wv W s)(hb:Below W.heap.size W W'):Mk w0 M a b c vv wv W' s:=
 h.kp (X:=fun _=>False) (Kp.of_below hb) (ar h.bl hb h.bl.size) ⟨id,id,id,id⟩
theorem Mk.alloc(h:Mk w0 M a b c vv wv W s)(o:Obj):Mk w0 M a b c vv wv (W.alloc o) s:=h.below (ab (zaa _ _) o)
theorem Mk.drew(h:Mk w0 M a b c vv wv W s):Mk w0 M a b c vv wv W.drew s:=h.below (ag (zaa _ _))
theorem Mk.mo(h:Mk w0 M a b c vv wv W s)(p:Regrown):Mk w0 M a b c vv wv (more W p) s:=h.below (av _ _)
theorem Mk.own(h:Mk w0 M a b c vv wv W s){k:Nat}(hk:M<k/\k≠a/\k≠b/\k≠c)(cs:Array qV)(t:TypeId):Mk w0 M a b c vv wv (putB W k cs t) s:=by
 have hl:=h.le
 refine h.kp (X:=fun i=>i=k) (Kp.putB (X:=fun i=>i=k) (Kp.refl _ W) (fun _=>rfl) cs t) ⟨h.bl.os,h.bl.tape,h.bl.output,by rw [aO];exact h.bl.size,fun i hi=>?_⟩ Za
 rw [aL,if_neg Za]
 exact h.bl.block i hi
def MkD(w0:qW)(M a b c:Nat)(vv wv:qV)(w:qW)(s':LS)(r:qV)(e:Ending)(w':qW):Prop:=
 e= .returned r/\ ∃a' b' c',Mk w0 M a' b' c' vv wv w' s'/\Kp (fun k=>k=M\/k=a\/k=b\/k=c) w w'/\(a'=a\/w.heap.size<=a')/\(b'=b\/w.heap.size<=b')/\(c'=c\/w.heap.size<=c')
theorem Mk.setI(h:Mk w0 M a b c vv wv W s)(i:Nat)(v:qV){s':LS}(hi:i=3\/i=4\/i=6)(hs: ∀ov sv lv,(mkC vv wv ov sv lv s).setIfInBounds i v=mkC vv wv ov sv lv s')(hr: ∀xs,mkR s xs=mkR s' xs)(hn:MkN s'):Mk w0 M a b c vv wv (W.setCell ⟨M,i,none⟩ v) s':=by
 obtain ⟨ov,sv,lv,xs,ho,rfl,rfl,rfl⟩:=h.ob
 refine ⟨⟨ov,sv,lv,xs,?_,rfl,rfl,rfl⟩,h.bl.setCell h.le _,h.le,hn⟩
 rw [<-hs,<-hr]
 exact ho.set i v (by simp [mkR];omega)
theorem Mk.setD(h:Mk w0 M a b c vv wv W s){i:Nat}{v:qV}{s':LS}(h2:Mk w0 M a b c vv wv (W.setCell ⟨M,i,none⟩ v) s'){r:qV}:MkD w0 M a b c vv wv W s' r (.returned r) (W.setCell ⟨M,i,none⟩ v):=
 ⟨rfl,a,b,c,h2,(Kp.set W M i v).mono (fun k _ e=> .inl e),.inl rfl,.inl rfl,.inl rfl⟩
theorem MkN.fresh(h:MkN s)(hf:LFin (lFresh s)):MkN (lFresh s):=⟨hf,by have:=h.regs;simp [lFresh];omega,h.labels,by have:=h.locals;simp [lFresh];omega,h.line⟩
theorem MkN.label(h:MkN s)(hf:LFin (lLabel s)):MkN (lLabel s):=⟨hf,h.regs,by have:=h.labels;simp [lLabel];omega,h.locals,h.line⟩
theorem MkN.setl(h:MkN s)(l:Int)(hl:rng l):MkN {s with line:=l}:=⟨⟨h.fin.ops,h.fin.regs,h.fin.labels,h.fin.sites⟩,h.regs,h.labels,h.locals,hl⟩
theorem MkN.add(h:MkN s)(o:OpD)(hf:LFin (lAdd o s)):MkN (lAdd o s):=⟨hf,h.regs,h.labels,h.locals,h.line⟩
theorem MkN.site(h:MkN s)(k o:Int)(v:qB)(p:List PartD)(hf:LFin (lSite k o v p s).2):MkN (lSite k o v p s).2:=⟨hf,h.regs,h.labels,h.locals,h.line⟩
theorem Mk.fresh(h:Mk w0 M a b c vv wv W s)(hf:LFin (lFresh s)):Mk w0 M a b c vv wv (W.setCell ⟨M,3,none⟩ (iI (s.regs+1))) (lFresh s):=
 h.setI 3 _ (.inl rfl) (fun _ _ _=>rfl) (fun _=>rfl) (h.nums.fresh hf)
theorem Mk.label(h:Mk w0 M a b c vv wv W s)(hf:LFin (lLabel s)):Mk w0 M a b c vv wv (W.setCell ⟨M,4,none⟩ (iI (s.labels+1))) (lLabel s):=
 h.setI 4 _ (.inr (.inl rfl)) (fun _ _ _=>rfl) (fun _=>rfl) (h.nums.label hf)
theorem Mk.setl(h:Mk w0 M a b c vv wv W s)(l:Int)(hl:rng l):Mk w0 M a b c vv wv (W.setCell ⟨M,6,none⟩ (iI l)) {s with line:=l}:=
 h.setI 6 _ (.inr (.inr rfl)) (fun _ _ _=>rfl) (fun _=>rfl) (h.nums.setl l hl)
theorem eA(w:qW)(h:Mk w0 M a b c vv wv w s)(hf:LFin (lFresh s)):qC 202 #[pP M] w (MkD w0 M a b c vv wv w (lFresh s) (iI s.regs)):=by
 obtain ⟨ov,sv,lv,i',pi⟩:=h.rules
 have j':=h.bd
 have hn:=h.nums.regs
 have yO:=h.nums.fin.regs
 have HM:=Zh h
 clear h
 go_enter Tryz.func202,Tryz.ntmps202
 go_wp2
 go_ret
 have:=HM.out.setD (HM.out.fresh hf) (r:=iI s.regs)
 simpa using this
theorem fq(w:qW)(h:Mk w0 M a b c vv wv w s)(hf:LFin (lLabel s)):qC 263 #[pP M] w (MkD w0 M a b c vv wv w (lLabel s) (iI (s.labels+1))):=by
 obtain ⟨ov,sv,lv,i',pi⟩:=h.rules
 have j':=h.bd
 have hn:=h.nums.labels
 have yO:=h.nums.fin.labels
 have HM:=Zh h
 clear h
 go_enter Tryz.func263,Tryz.ntmps263
 go_wp2
 go_ret
 exact HM.out.setD (HM.out.label hf)
theorem cn(k:Int)(w:qW):qC 208 #[iI k] w (Gives w (.agg #[iI k,iI (-1),iI (-1),iI (-1),iI (-1),iI (-1),.int .u64 0,iI 0,iI 0,iI 0,iI 0,iI 0,iI 0])):=by
 go_enter Tryz.func208,Tryz.ntmps208
 go_wp2
 (try simp only [Exit.inBlock,Exit.then]);refine zad (by simp [results,Tryz.results208,go_sem,↓IntWalk.iteOmega];try rfl) rfl ?_
 exact Gives.mk rfl Zr
end
section
variable{P:Program}{md:Region.Mode}{ops:Array Oper}{Q:Exit->Act->qW->Prop}{S:Array Bool->qW->Prop}{A B:qW->Prop}{L:Nat}{oi:Oper}{v:qV}{fuel:Nat}{listed:Array Bool}{a:Act}{w:qW}
theorem Zq:(∀(a:Act) (d:Nat) (v:qV),a.put (some d) v={a with tmps:=a.tmps.setIfInBounds d v})/\(∀(a:Act) (v:qV),a.put none v=a)/\
  (∀{α:Type} (l:List α) (i:Nat) (h:i<l.toArray.size),l.toArray[i]=l[i]'(by simpa using h))/\(∀{α:Type} (a:α) (l:List α) (h:0<(a::l).length),(a::l)[0]'h=a)/\
  (∀{α:Type} (a:α) (l:List α) (i:Nat) (h:i+1<(a::l).length),(a::l)[i+1]'h=l[i]'(by simpa using h))/\(∀{α:Type} (l:List α) (i:Nat) (a:α),l.toArray.setIfInBounds i a=(l.set i a).toArray)/\
  (∀{α:Type} (x a:α) (l:List α),(x::l).set 0 a=a::l)/\(∀{α:Type} (x a:α) (l:List α) (i:Nat),(x::l).set (i+1) a=x::l.set i a):=
 ⟨fun _ _ _=>rfl,fun _ _=>rfl,fun _ _ _=>by simp,fun _ _ _=>rfl,fun _ _ _ _=>rfl,fun _ _ _=>by simp,fun _ _ _=>rfl,fun _ _ _ _=>rfl⟩
theorem Zw{P:Prop}(h:P:=by first|with_reducible exact ⟨hA,fun _=>hB⟩|exact ⟨(by intro i;first|(simp only [drewC,dd,aR,dc,aO,iy,au,aZ,i',↓IntWalk.iteOmega];done)|(simp [go_sem,i',↓IntWalk.iteOmega];done)),fun _=>trivial⟩|exact ⟨(by first|((try refine ⟨?_,?_⟩)<;>(intro i;simp only [drewC,dd,aR,dc,aO,iy,au,aZ,↓IntWalk.iteOmega];done))|exact hA|(simp [go_sem,↓IntWalk.iteOmega];done)|(refine ⟨?_,?_⟩<;>simp [go_sem,↓IntWalk.iteOmega])),fun _=>(by first|trivial|exact hB|simp [go_sem,↓IntWalk.iteOmega])⟩|exact ⟨hA,fun _=>hB⟩):P:=h
theorem Zy{P:Prop}(h:P:=by refine Or.inl ⟨by rfl,?_⟩;intro W hW;(try simp only [Zq]);(try dsimp only at hW);(try go_split_ands);go_simp;(try with_reducible rfl)):P:=h
theorem Zp(i:Nat)(hi:ops[i]?=some oi)(hs:Region.noSelect ops=true:=by kernel_rfl)(hf:Region.free md ops listed i=true:=by kernel_rfl)(hr:(Region.ready md ops listed).contains i=true:=by kernel_rfl)
  (hQ: ∀c a w,Q (.panic c) (a.put oi.dst v) w->Q (.panic c) a w:=by exact fun _ _ _ h=>h) (hne:i≠L:=by decide) (hc:closedB md ops listed=true:=by kernel_rfl)
  (hy:YieldsIf P ops (fun _=>True) oi v a:=by exact Zy) (hS:A w/\(listed.getD L false=false->B w):=by exact Zw)
  (h:wpAnyG P md ops Q (fun l w=>A w/\(l.getD L false=false->B w)) fuel (listed.setIfInBounds i true) (a.put oi.dst v) w):
  wpAnyG P md ops Q (fun l w=>A w/\(l.getD L false=false->B w)) (fuel+1) listed a w:=cX i hi hs hf hr hQ hne hc hy hS h
theorem Zn(i:Nat)(hi:ops[i]?=some oi)(hs:Region.noSelect ops=true:=by kernel_rfl)(hf:Region.free md ops listed i=true:=by kernel_rfl)(hr:(Region.ready md ops listed).contains i=true:=by kernel_rfl)
  (hQ: ∀c a w,Q (.panic c) (a.put oi.dst undef) w->Q (.panic c) a w:=by exact fun _ _ _ h=>h) (hne:i≠L:=by decide) (hc:closedB md ops listed=true:=by kernel_rfl)
  (hy:YieldsIf P ops (fun _=>True) oi undef a:=by exact Or.inr ⟨by rfl,rfl⟩) (hS:A w/\(listed.getD L false=false->B w):=by exact Zw)
  (h:wpAnyG P md ops Q (fun l w=>A w/\(l.getD L false=false->B w)) fuel (listed.setIfInBounds i true) (a.put oi.dst undef) w):
  wpAnyG P md ops Q (fun l w=>A w/\(l.getD L false=false->B w)) (fuel+1) listed a w:=cX i hi hs hf hr hQ hne hc hy hS h
theorem Zt(i:Nat)(hi:ops[i]?=some oi)(hs:Region.noSelect ops=true:=by kernel_rfl)(hf:Region.free md ops listed i=true:=by kernel_rfl)(hr:(Region.ready md ops listed).contains i=true:=by kernel_rfl)
  (hQ: ∀c a w,Q (.panic c) (a.put oi.dst v) w->Q (.panic c) a w:=by exact fun _ _ _ h=>h) (hne:i≠L:=by decide) (hc:closedB md ops listed=true:=by kernel_rfl)
  (hy:YieldsIf P ops A oi v a:=by exact Zy) (hS:A w/\(listed.getD L false=false->B w):=by exact Zw)
  (h:wpAnyG P md ops Q (fun l w=>A w/\(l.getD L false=false->B w)) fuel (listed.setIfInBounds i true) (a.put oi.dst v) w):
  wpAnyG P md ops Q (fun l w=>A w/\(l.getD L false=false->B w)) (fuel+1) listed a w:=bD i hi hs hf hr hQ hne hc hy hS h
theorem Zl(i:Nat)(path:List Nat)(hi:ops[i]?=some oi)(hs:Region.noSelect ops=true:=by kernel_rfl)(hf:Region.free md ops listed i=true:=by kernel_rfl)(hr:(Region.ready md ops listed).contains i=true:=by kernel_rfl)
  (hQ: ∀c a w,Q (.panic c) (a.put oi.dst v) w->Q (.panic c) a w:=by exact fun _ _ _ h=>h) (hp:pathB md ops (i::path)=true:=by kernel_rfl) (hL:(i::path).getLast Zi=L:=by decide) (hne:i≠L:=by decide) (hc:closedB md ops listed=true:=by kernel_rfl)
  (hy:YieldsIf P ops (fun w=>A w/\B w) oi v a:=by exact Zy) (hS:A w/\(listed.getD L false=false->B w):=by exact Zw)
  (h:wpAnyG P md ops Q (fun l w=>A w/\(l.getD L false=false->B w)) fuel (listed.setIfInBounds i true) (a.put oi.dst v) w):
  wpAnyG P md ops Q (fun l w=>A w/\(l.getD L false=false->B w)) (fuel+1) listed a w:=fN i path hi hs hf hr hQ hp hL hne hc hy hS h
theorem Zs(i:Nat)(hi:ops[i]?=some oi)
  (h: ∀K:Act->qW->Prop,(∀a' w',S (listed.setIfInBounds i true) w'->wpAnyG P md ops Q S fuel (listed.setIfInBounds i true) a' w'->K a' w')->if Region.wanted oi (yielded ops a.tmps)=true then Oper.wp P oi a w K Q else False)
  (hr:Region.ready md ops listed=[i]:=by kernel_rfl) (hg:oi.guard=none:=by rfl):
  wpAnyG P md ops Q S (fuel+1) listed a w:=oG i hi hr hg h
end
end Go.Proofs.YtcekjfmfcefjpaaGreatDoor
