/- Walks. No condition. -/
import Derived.Deep.MidRow
import Derived.Test.YtcekjfmfcefjpaaGreatDoorG42
set_option maxRecDepth 100000
set_option maxHeartbeats 0
set_option linter.all false
namespace Go.Proofs.YtcekjfmfcefjpaaGreatDoor
open Go.RowKit Go.Sort
section
variable{P:Program}{ops:Array Oper}{Q:Exit->Act->qW->Prop}{md:Region.Mode}
structure TwoNew(w:qW)(bi bj:Nat)(oi oj:Obj)(w':qW):Prop where
 bel:Below w.heap.size w w'
 size:w'.heap.size=w.heap.size+2
 ne:bi≠bj
 i1:w.heap.size<=bi/\bi<w'.heap.size
 j1:w.heap.size<=bj/\bj<w'.heap.size
 hi:w'.heap[bi]?=some oi
 hj:w'.heap[bj]?=some oj
theorem sS(a:Act)(x y:Nat)(u v:qV)(h:x≠y):(a.put (some x) u).put (some y) v=(a.put (some y) v).put (some x) u:=by
 unfold Act.put
 simp only
 rw [Array.setIfInBounds_comm _ _ h]
theorem eI{op:Oper}{a:Act}{w:qW}{K:Act->qW->Prop}{T:TypeId}{cs:Array qV}(ho:op.op= .alloc T)(hz: ∀w,(zeroValue T).run P w= .ok (.agg cs) w)
  (h:K (a.put op.dst (pP w.heap.size)) (w.alloc (.cells cs T))):op.wp P a w K Q:=by
 unfold Oper.wp execOp
 simp only [ho,Instr.alloc,newVar,Sem.run_bind,Sem.run_pure,Result.andThen_ok,hz]
 exact h
theorem iO{A B:qW->Prop}{L:Nat}(i j:Nat){oi oj:Oper}{Ti Tj:TypeId}{ci cj:Array qV}{xi xj:Nat}{fuel:Nat}{listed:Array Bool}{a:Act}{w:qW}
  (hi:ops[i]?=some oi) (hj:ops[j]?=some oj) (Ln:oi.op= .alloc Ti) (Cy:oj.op= .alloc Tj) (ED:oi.guard=none) (LF:oj.guard=none) (LR:oi.dst=some xi) (LQ:oj.dst=some xj) (hx:xi≠xj)
  (hr:Region.ready md ops listed=[i,j]) (Ah:Region.ready md ops (listed.setIfInBounds i true)=[j]) (Lg:Region.ready md ops (listed.setIfInBounds j true)=[i]) (Ak:i≠j)
  (KX: ∀w,(zeroValue Ti).run P w= .ok (.agg ci) w) (KW: ∀w,(zeroValue Tj).run P w= .ok (.agg cj) w)
  (hA: ∀w',Below w.heap.size w w'->A w') (hB: ∀w',Below w.heap.size w w'->B w')
  (h: ∀bi bj w',TwoNew w bi bj (.cells ci Ti) (.cells cj Tj) w'->wpAnyG P md ops Q (fun l w=>A w/\(l.getD L false=false->B w)) fuel ((listed.setIfInBounds i true).setIfInBounds j true) ((a.put (some xi) (pP bi)).put (some xj) (pP bj)) w'):
  wpAnyG P md ops Q (fun l w=>A w/\(l.getD L false=false->B w)) (fuel+2) listed a w:=by
 have b1: ∀o,Below w.heap.size w (w.alloc o):=fun o=>ab (zaa _ _) o
 have b2: ∀o p,Below w.heap.size w ((w.alloc o).alloc p):=fun o p=>ab (b1 o) p
 have gi:Region.wanted oi (yielded ops a.tmps)=true:=by simp [Region.wanted,ED]
 have gj:Region.wanted oj (yielded ops a.tmps)=true:=by simp [Region.wanted,LF]
 have sz: ∀o p,((w.alloc o).alloc p).heap.size=w.heap.size+2:=fun o p=>by simp only [au]
 have sp: ∀l w',Below w.heap.size w w'->A w'/\(l->B w'):=fun l w' hb=>⟨hA w' hb,fun _=>hB w' hb⟩
 refine ⟨fun h0=>(by rw [hr] at h0;cases h0),fun k hk=>?_⟩
 rw [hr] at hk
 simp only [zaM,zaN,or_false] at hk
 rcases hk with rfl|rfl
 ·unfold wpOp
  simp only [hi,gi,if_true]
  refine .inl (eI Ln KX ⟨sp _ _ (b1 _),fun h0=>(by rw [Ah] at h0;cases h0),fun m hm=>?_⟩)
  rw [Ah] at hm
  obtain rfl:m=j:=by simpa using hm
  unfold wpOp
  have gj2: ∀b:Act,Region.wanted oj (yielded ops b.tmps)=true:=fun b=>by simp [Region.wanted,LF]
  simp only [hj,gj2,if_true]
  refine .inl (eI Cy KW ⟨sp _ _ (b2 _ _),?_⟩)
  rw [LR,LQ]
  exact h _ _ _ ⟨b2 _ _,sz _ _,by simp only [au];omega,by rw [sz];omega,by rw [sz];simp only [au];omega,(zac _ _ ZM).trans (zab _ _),zab _ _⟩
 ·unfold wpOp
  simp only [hj,gj,if_true]
  refine .inl (eI Cy KW ⟨sp _ _ (b1 _),fun h0=>(by rw [Lg] at h0;cases h0),fun m hm=>?_⟩)
  rw [Lg] at hm
  obtain rfl:m=i:=by simpa using hm
  unfold wpOp
  have gi2: ∀b:Act,Region.wanted oi (yielded ops b.tmps)=true:=fun b=>by simp [Region.wanted,ED]
  simp only [hi,gi2,if_true]
  refine .inl (eI Ln KX ⟨sp _ _ (b2 _ _),?_⟩)
  rw [LR,LQ,sS _ _ _ _ _ (fun e=>hx e.symm),Array.setIfInBounds_comm _ _ (fun e=>Ak e.symm)]
  exact h _ _ _ ⟨b2 _ _,sz _ _,by simp only [au];omega,by rw [sz];simp only [au];omega,by rw [sz];omega,zab _ _,(zac _ _ ZM).trans (zab _ _)⟩
end
def setL(cs:Array qV):Nat->List qV->Array qV
 |_,[]=>cs
 |o,v::vs=>setL (cs.setIfInBounds o v) (o+1) vs
theorem jH(b:Nat): ∀(vs:List qV) (o:Nat) (w:qW),Kp (fun k=>k=b) w (w.setCells b o vs)
 |[],o,w=>Kp.refl _ _
 |v::vs,o,w=>(Kp.set w b o v).trans (jH b vs (o+1) _)
theorem jJ(b:Nat)(t:TypeId): ∀(vs:List qV) (o:Nat) (w:qW) (cs:Array qV),w.heap[b]?=some (.cells cs t (0,0))->(w.setCells b o vs).heap[b]?=some (.cells (setL cs o vs) t (0,0))
 |[],o,w,cs,h=>h
 |v::vs,o,w,cs,h=>jJ b t vs (o+1) _ _ (aJ h v)
theorem bw{c:Bool}{X E:Prop}(h:c=true)(k:X):if c=true then X else E:=by
 rw [if_pos h]
 exact k
theorem jG(b:Nat): ∀(vs:List qV) (o:Nat) (w:qW),(w.setCells b o vs).heap.size=w.heap.size
 |[],o,w=>rfl
 |v::vs,o,w=>by
  rw [World.setCells,jG b vs (o+1)]
  simp [World.setCell]
theorem cD{P:Program}{op:Oper}{a:Act}{w:qW}{K:Act->qW->Prop}{Q:Exit->Act->qW->Prop}(ty:TypeId)(x y:Operand)(ho:op.op= .store ty x y)
  (b o:Nat) (cells:Array qV) (hx:a.eval x= .pointer (some ⟨b,o,none⟩)) (hy:a.eval y= .agg cells) {cs:Array qV} {T:TypeId} (hb:w.heap[b]?=some (.cells cs T (0,0)))
  (hl:o+cells.size<=cs.size) (hi:(P.info? ty).map (·.size)=some cells.size) (h1:cells.all (·.oneCell')=true)
  (h: ∀w',w'.heap[b]?=some (.cells (setL cs o cells.toList) T (0,0))->Kp (fun k=>k=b) w w'->w'.heap.size=w.heap.size->K (a.put op.dst undef) w'):op.wp P a w K Q:=
 wp_store_mid ty x y ho b o cells hx hy (fun j hj=>⟨by rw [aa hb,zav Za];rfl,ai hb _⟩) hi h1 (h _ (jJ b T _ o w cs hb) (jH b _ o w) (jG b _ o w))
theorem rO{P:Program}(w:qW)(b o:Nat)(ty:TypeId)(v:qV)(hv:v.cells=#[v])(h1:v.oneCell'=true)(hc:(w.cell? (aB b o)).isSome=true)(hf:w.frozen? (aB b o)=false)(hi:(P.info? ty).map (·.size)=some 1):
  (Instr.storeAt ty (.pointer (some ⟨b,o,none⟩)) v).run P w= .ok () (w.setCell ⟨b,o,none⟩ v):=by
 have:=run_storeCells_cells (P:=P) b o [v] 0 w (fun j hj=>by
  have:j=0:=by simpa using hj
  subst this
  simpa using hc) (fun j hj=>by
  have:j=0:=by simpa using hj
  subst this
  simpa using hf) (fun u hu=>by
  have:u=v:=by simpa using hu
  rw [this]
  exact h1)
 cases hq:P.info? ty with
 |none=>simp [hq] at hi
 |some i=>
  have hs:i.size=1:=by simpa [hq] using hi
  simp only [Nat.add_zero] at this
  simp [Instr.storeAt,Instr.sureAddr,storeVar,sizeOf,typeInfo,hq,hv,hs,this,World.setCells]
theorem dz{P:Program}{op:Oper}{a:Act}{w:qW}{K:Act->qW->Prop}{Q:Exit->Act->qW->Prop}(ty:TypeId)(x y:Operand)(ho:op.op= .store ty x y)
  (b o:Nat) (v:qV) (hx:a.eval x= .pointer (some ⟨b,o,none⟩)) (hy:a.eval y=v) {cs:Array qV} {T:TypeId} (hb:w.heap[b]?=some (.cells cs T (0,0)))
  (hl:o<cs.size) (hv:v.cells=#[v]) (h1:v.oneCell'=true) (hi:(P.info? ty).map (·.size)=some 1)
  (h: ∀w',w'.heap[b]?=some (.cells (cs.setIfInBounds o v) T (0,0))->Kp (fun k=>k=b) w w'->w'.heap.size=w.heap.size->K (a.put op.dst undef) w'):op.wp P a w K Q:=by
 unfold Oper.wp execOp
 simp only [ho,hx,hy,Sem.run_bind,Sem.run_pure,Result.andThen_ok,rO w b o ty v hv h1 (by rw [aa hb,zav hl];rfl) (ai hb _) hi]
 exact h _ (aJ hb v) (Kp.set w b o v) (by simp [World.setCell])
variable{W:qW}{n b gs sc:Nat}{cv pv:qV}{t:TD}
abbrev tfoot(b gs sc:Nat)(cv pv:qV)(t:TD):Nat->Prop:=foot b (thC (thF cv (.slice (aA gs) t.sites.length sc) pv t)) (thR t)
structure MtD(W:qW)(n b gs sc:Nat)(cv pv:qV)(t t':TD)(W':qW):Prop where
 th: ∃pv',MtX W' n b gs cv pv' sc t'/\ ∀k,tfoot b gs sc cv pv' t' k->tfoot b gs sc cv pv t k\/W.heap.size<=k
 kp:Kp (tfoot b gs sc cv pv t) W W'
theorem eN{k:Nat}{t':TD}{cv pv:qV}(hc:t'.code=t.code)(hp:t'.prints=t.prints)(hs:t'.sites=t.sites)(h:tfoot b gs sc cv pv t' k):tfoot b gs sc cv pv t k:=by
 have hr:thR t'=thR t:=by simp [thR,hc,hp]
 rcases h with h|⟨r,yh,h⟩
 ·exact .inl h
 ·rw [hr] at yh
  refine .inr ⟨r,yh,?_⟩
  have hx:r.ix=0\/r.ix=38:=by
   simp only [thR,zaM,zaN,or_false] at yh
   rcases yh with rfl|rfl
   ·exact .inl rfl
   ·exact .inr rfl
  rcases hx with e|e
  ·rw [e,a9 _ 0 Za] at h ⊢
   exact h
  ·rw [e,a9 _ 38 Za] at h ⊢
   exact h
theorem MtD.same{W':qW}{t':TD}(hm:MtX W' n b gs cv pv sc t')(hk:Kp (fun k=>k=b) W W')(hc:t'.code=t.code)(hp:t'.prints=t.prints)(hs:t'.sites=t.sites):MtD W n b gs sc cv pv t t' W':=
 ⟨⟨pv,hm,fun k wT=> .inl (eN hc hp hs wT)⟩,hk.mono (fun k _ e=> .inl e)⟩
theorem pL(h:MtX W n b gs cv pv sc t)(hg:gs≠b)(i:Ins)(h1:i.op=32):qC 20 #[pP b,insV i] W fun e w'=>e= .returned (.tuple #[])/\MtX w' n b gs cv pv sc {t with end_:=2}/\Kp (fun k=>k=b) W w':=by
 obtain ⟨op,d,m,k,e,sz,imm⟩:=i
 simp only at h1
 subst h1
 unfold insV
 simp only
 have hb:=h.ob.lt
 have q39:W.cell? (aB b 39)=some (iI t.end_):=h.cell 39 Za
 have qf:=ai h.ob.out
 obtain ⟨hm,hk⟩:=h.setEnd hg 2
 have HM:=Zh hm
 have HK:=Zh hk
 clear h hm hk
 go_enter Tryz.func20,Tryz.ntmps20
 go_wp2_with fail
 go_end0
 exact ⟨rfl,HM.out.kp (X:=fun _=>False) ((Kp.refl _ _).alloc _) (fun _ _=>id) id,HK.out.alloc _⟩
theorem pM(h:MtX W n b gs cv pv sc t)(yQ: ¬tfoot b gs sc cv pv t gs)(i:Ins)(t1:TD)(h1:stopT t i=some t1):qC 20 #[pP b,insV i] W fun e w'=>e= .returned (.tuple #[])/\MtD W n b gs sc cv pv t t1 w':=by
 have CJ:gs≠b:=fun e=>yQ (.inl e)
 unfold stopT at h1
 by_cases Fo:i.op=32
 ·rw [if_pos Fo] at h1
  obtain rfl:=zae h1
  exact (pL h CJ i Fo).mono fun e w' ⟨e1,e2,e3⟩=>⟨e1,.same e2 e3 rfl rfl rfl⟩
 ·rw [if_neg Fo] at h1
  by_cases Fp:i.op=31
  ·rw [if_pos Fp] at h1
   by_cases h0:i.imm=0
   ·rw [if_pos h0] at h1
    obtain rfl:=zae h1
    exact (pK h CJ i Fp h0).mono fun e w' ⟨e1,e2,e3⟩=>⟨e1,.same e2 e3 rfl rfl rfl⟩
   ·rw [if_neg h0] at h1
    by_cases h2:1<=i.imm/\i.imm<=31/\t.prints.length<=1000000
    ·rw [if_pos h2] at h1
     obtain rfl:=zae h1
     exact (pJ h yQ i Fp h2.1 h2.2.1 h2.2.2).mono fun e w' ⟨e1,pv',e2,e3,e4⟩=>⟨e1,⟨pv',e2,e4⟩,e3⟩
    ·rw [if_neg h2] at h1
     cases h1
  ·rw [if_neg Fp] at h1
   obtain rfl:=zae h1
   exact (jl h i Fp Fo).mono fun e w' ⟨e1,e2⟩=>⟨e1,.same (h.kp (Kp.of_below (X:=fun _=>False) e2) (fun _ _=>id) id) (Kp.of_below e2) rfl rfl rfl⟩
theorem pu(cv sv pv:qV)(t:TD)(s:St)(k:Nat)(hk:k<40):thF cv sv pv {t with st:=s} k=if 2<=k/\k<38 then s.f (k-2) else thF cv sv pv t k:=by
 unfold thF
 by_cases h0:k=0
 ·subst h0
  simp
 ·by_cases h1:k=1
  ·subst h1
   simp
  ·rw [if_neg h0,if_neg h1,if_neg h0,if_neg h1]
   by_cases h2:k<38
   ·rw [if_pos h2,if_pos ⟨by omega,h2⟩]
   ·rw [if_neg h2,if_neg (show¬(2<=k/\k<38) by omega),if_neg h2]
theorem jI(b:Nat)(t:TypeId): ∀(vs:List qV) (o:Nat) (w:qW) (cs:Array qV),w.heap[b]?=some (.cells cs t (0,0))-> ∃cs',(w.setCells b o vs).heap[b]?=some (.cells cs' t (0,0))/\ ∀k:Nat,cs'[k]?=if k<cs.size then (if o<=k then (match vs[k-o]? with|some v=>some v|none=>cs[k]?) else cs[k]?) else none
 |[],o,w,cs,h=>⟨cs,h,fun k=>by
   by_cases hk:k<cs.size
   ·simp [hk]
   ·simp [hk,zaW (Nat.le_of_not_lt hk)]⟩
 |v::vs,o,w,cs,h=>by
  obtain ⟨cs',h1,h2⟩:=jI b t vs (o+1) (w.setCell ⟨b,o,none⟩ v) (cs.setIfInBounds o v) (aJ h v)
  refine ⟨cs',h1,fun k=>?_⟩
  rw [h2 k,Array.size_setIfInBounds]
  by_cases hk:k<cs.size
  ·rw [if_pos hk,if_pos hk,zaT]
   by_cases ho:o=k
   ·subst ho
    rw [if_pos rfl,if_neg Za,if_pos (zaq _),if_pos hk,Nat.sub_self]
    rfl
   ·rw [if_neg ho]
    by_cases hl:o<=k
    ·rw [if_pos (show o+1<=k by omega),if_pos hl,show k-o=(k-(o+1))+1 by omega,List.getElem?_cons_succ]
    ·rw [if_neg (show¬o+1<=k by omega),if_neg hl]
  ·rw [if_neg hk,if_neg hk]
theorem MtX.setSt(h:MtX W n b gs cv pv sc t)(hg:gs≠b)(s:St):MtX (W.setCells b 2 (stL s)) n b gs cv pv sc {t with st:=s}/\Kp (fun k=>k=b) W (W.setCells b 2 (stL s)):=by
  have hk:Kp (fun k=>k=b) W (W.setCells b 2 (stL s)):=by
    have: ∀(vs:List qV) (o:Nat) (w:qW),Kp (fun k=>k=b) w (w.setCells b o vs):=by
      intro vs
      induction vs with
      |nil=>exact fun o w=>Kp.refl _ _
      |cons v vs ih=>exact fun o w=>(Kp.set w b o v).trans (ih _ _)
    exact this _ _ _
  have D4: ∀r∈thR t,fld (thC (thF cv (.slice (aA gs) t.sites.length sc) pv {t with st:=s})) r.ix=fld (thC (thF cv (.slice (aA gs) t.sites.length sc) pv t)) r.ix:=fun r hr=>by
    simp only [thR,zaM,zaN,or_false] at hr
    rcases hr with rfl|rfl
    · rw [a9 _ 0 Za,a9 _ 0 Za]
      rfl
    · rw [a9 _ 38 Za,a9 _ 38 Za]
      rfl
  refine ⟨⟨⟨?_,fun r hr=>?_,h.ob.ix,fun r hr q hq=>?_⟩,h.sr.kp hk h.sl hg,by have:=hk.size;have:=h.sl;omega,h.sb⟩,hk⟩
  · obtain ⟨cs',h1,h2⟩:=jI b 82 (stL s) 2 W _ h.ob.out
    have e:cs'=thC (thF cv (.slice (aA gs) t.sites.length sc) pv {t with st:=s}):=by
     apply Array.ext_getElem?
     intro k
     by_cases A9:k<40
     · simp only [h2 k,dB,cL,A9,if_true]
       rw [pu cv _ pv t s k A9]
       by_cases IK:2<=k
       · rw [if_pos IK]
         by_cases MO:k<38
         · rw [if_pos ⟨IK,MO⟩]
           have:(stL s)[k-2]?=some (s.f (k-2)):=by
             unfold stL
             rw [zaj,List.getElem?_range Za]
             rfl
           rw [this]
         · rw [if_neg (fun h=>MO h.2)]
           have:(stL s)[k-2]?=none:=by
             unfold stL
             rw [List.getElem?_eq_none]
             simp
             omega
           rw [this]
       · rw [if_neg IK,if_neg (fun h=>IK h.1)]
     · simp only [h2 k,dB,cL,A9,if_false]
    rw [e] at h1
    exact h1
  · rw [D4 r hr]
    exact ah (h.ob.own r hr) hk (fun g hg e=>by have:=((h.ob.own r hr).lt g hg).1;omega)
  · rw [D4 r hr,D4 q hq]
    exact h.ob.apart r hr q hq
theorem ie:(Tryz.prog.info? 85).map (·.size)=some 7:=by kernel_rfl
theorem ybv:(Tryz.prog.info? 44).map (·.size)=some 3:=by kernel_rfl
theorem dj:(Tryz.prog.info? 46).map (·.size)=some 15:=by kernel_rfl
def siteV(n:Nat)(s:Int×Int):qV:= .agg (siteC n s).toArray
section
variable{ops:Array Oper}{S:qW->Prop}{op:Oper}{a:Act}
theorem dh(hw:Region.wanted op (yielded ops a.tmps)=true)(x:Operand)(ho:op.op= .load 85 x)(b o:Nat)(hx:a.eval x= .pointer (some ⟨b,o,none⟩))(i:Ins)(hS: ∀w,S w->w.rangeAt b o (insC i)):YieldsIf Tryz.prog ops S op (insV i) a:=
 yieldsIf_load_mid hw 85 x ho b o hx (insC i) _ hS Tryz.underlying85 rfl ie
theorem lO(hw:Region.wanted op (yielded ops a.tmps)=true)(x:Operand)(ho:op.op= .load 44 x)(b o:Nat)(hx:a.eval x= .pointer (some ⟨b,o,none⟩))(n:Nat)(i:Int×Int)(hS: ∀w,S w->w.rangeAt b o (siteC n i)):YieldsIf Tryz.prog ops S op (siteV n i) a:=
 yieldsIf_load_mid hw 44 x ho b o hx (siteC n i) _ hS Tryz.underlying44 rfl ybv
theorem fp(hw:Region.wanted op (yielded ops a.tmps)=true)(x:Operand)(ho:op.op= .load 79 x)(b o:Nat)(hx:a.eval x= .pointer (some ⟨b,o,none⟩))(s:St)(hS: ∀w,S w->w.rangeAt b o (stL s)):YieldsIf Tryz.prog ops S op (stV s) a:=
 yieldsIf_load_mid hw 79 x ho b o hx (stL s) _ hS Tryz.underlying79 rfl (by simpa [stL] using dO)
end
theorem jR{w:qW}{g:Nat}{xs:List qV}(h:RowC w g xs)(o:Nat)(cs:List qV)(hx: ∀j v,cs[j]?=some v->xs[o+j]?=some v):w.rangeAt g o cs:=fun j v hv=>h (o+j) v (hx j v hv)
theorem fx{α:Type}(f:α->List qV)(m:Nat)(hf: ∀x,(f x).length=m): ∀(l:List α) (k:Nat) (x:α),l[k]?=some x-> ∀j v,(f x)[j]?=some v->(l.flatMap f)[k*m+j]?=some v
 |[],k,x,h=>by simp at h
 |y::l,0,x,h=>fun j v hv=>by
  simp at h
  subst h
  have hj:=(List.getElem?_eq_some_iff.1 hv).1
  simp only [zaf,Nat.zero_mul,zag]
  rw [zah hj]
  exact hv
 |y::l,k+1,x,h=>fun j v hv=>by
  simp only [zaf]
  rw [zai (by rw [hf,Nat.add_mul];omega),hf,show (k+1)*m+j-m=k*m+j by rw [Nat.add_mul];omega]
  exact fx f m hf l k x (by simpa using h) j v hv
theorem MtX.range_st{W:qW}{n b gs sc:Nat}{cv pv:qV}{t:TD}(h:MtX W n b gs cv pv sc t):W.rangeAt b 2 (stL t.st):=fun j v hv=>by
 have hj:j<36:=by
  have:=(List.getElem?_eq_some_iff.1 hv).1
  simpa [stL] using this
 unfold stL at hv
 rw [zaj,List.getElem?_range hj] at hv
 obtain rfl:t.st.f j=v:=by simpa using hv
 rw [Nat.add_comm]
 exact h.st j hj
theorem MtX.there_st{W:qW}{n b gs sc:Nat}{cv pv:qV}{t:TD}(h:MtX W n b gs cv pv sc t):W.there b 2 36:=fun j hj=>by
 refine ⟨?_,ai h.ob.out _⟩
 rw [Nat.add_comm,h.st j hj]
 rfl
theorem MtX.range_ins{W:qW}{n b gs sc gc c:Nat}{pv:qV}{t:TD}(h:MtX W n b gs (.slice (aA gc) t.code.length c) pv sc t){k:Nat}{i:Ins}(hi:t.code[k]?=some i):W.rangeAt gc (k*7) (insC i):=by
 obtain ⟨a,c',e, -,ho⟩:=h.code
 injection e with e1 e2 e3
 subst e1 e3
 exact jR (bS ho) _ _ (fun j v hv=>fx insC 7 (fun _=>rfl) _ k i hi j v hv)
theorem MtX.range_site{W:qW}{n b gs sc:Nat}{cv pv:qV}{t:TD}(h:MtX W n b gs cv pv sc t){k:Nat}{i:Int×Int}(hi:t.sites[k]?=some i):W.rangeAt gs (k*3) (siteC n i):=
 jR h.sr _ _ (fun j v hv=>fx (siteC n) 3 (fun _=>rfl) _ k i hi j v hv)
def bH:Array qV:=#[.bool false,.bool false,iI 0,iI 0,.bool false,.bool false,.bool false,.int .u64 0,.int .u64 0,.bool false,.int .u64 0,.int .u64 0,iI 0,iI 0,iI 0]
def didS(n:Nat)(s:Int×Int):Array qV:=#[.bool false,.bool false,iI 0,iI 0,.bool false,.bool false,.bool false,.int .u64 0,.int .u64 0,.bool false,.int .u64 0,.int .u64 0,iI n,iI s.1,iI s.2]
def ew:Array qV:=#[iI 0,iI 0,iI 0,iI 0,iI 0,iI 0,iI 0]
theorem iK(W:qW):(zeroValue 46).run Tryz.prog W= .ok (.agg bH) W:=by kernel_rfl
theorem iJ(W:qW):(zeroValue 85).run Tryz.prog W= .ok (.agg ew) W:=by kernel_rfl
structure StA(W:qW)(bi bd:Nat)(i:Ins)(d:Array qV)(V:qW):Prop where
 h6:V.heap[W.heap.size]?=some (.cells bH 46 (0,0))
 hi:V.heap[bi]?=some (.cells (insC i).toArray 85 (0,0))
 hd:V.heap[bd]?=some (.cells d 46 (0,0))
 i6:W.heap.size<bi
 d6:W.heap.size<bd
 ne:bi≠bd
section
variable{W V V':qW}{bi bd:Nat}{i:Ins}{d d':Array qV}
theorem StA.kp{X:Nat->Prop}(h:StA W bi bd i d V)(hk:Kp X V V')(h1: ¬X W.heap.size)(h2: ¬X bi)(h3: ¬X bd):StA W bi bd i d V':=
 ⟨(hk.block _ (ac h.h6) h1).trans h.h6,(hk.block _ (ac h.hi) h2).trans h.hi,(hk.block _ (ac h.hd) h3).trans h.hd,h.i6,h.d6,h.ne⟩
theorem StA.below(h:StA W bi bd i d V)(hk:Below V.heap.size V V'):StA W bi bd i d V':=h.kp (Kp.of_below (X:=fun _=>False) hk) id id id
theorem StA.put(h:StA W bi bd i d V)(hk:Kp (fun k=>k=bd) V V')(hd:V'.heap[bd]?=some (.cells d' 46 (0,0))):StA W bi bd i d' V':=
 ⟨(hk.block _ (ac h.h6) (by have:=h.d6;omega)).trans h.h6,(hk.block _ (ac h.hi) h.ne).trans h.hi,hd,h.i6,h.d6,h.ne⟩
theorem StA.rng(h:StA W bi bd i d V):V.rangeAt bi 0 (insC i):=fun j v hv=>by
 rw [aa h.hi]
 simpa using hv
end
theorem Kp.rng{X:Nat->Prop}{V V':qW}(hk:Kp X V V'){b o:Nat}{cs:List qV}(h:V.rangeAt b o cs)(hb:b<V.heap.size)(hX: ¬X b):V'.rangeAt b o cs:=fun j v hv=>(hk.cell (o:=o+j) hb hX).trans (h j v hv)
theorem l6:(Tryz.prog.info? 42).map (·.size)=some 8:=by kernel_rfl
theorem ey:(Tryz.prog.info? 4).map (·.size)=some 1:=by kernel_rfl
def accC(w:Bool)(a l:Int)(ex acq rel:Bool)(d0 d1:Int):Array qV:=#[.bool w,iI a,iI l,.bool ex,.bool acq,.bool rel,.int .u64 d0,.int .u64 d1]
def didA(any w:Bool)(a l:Int)(ex acq rel:Bool)(d0 d1:Int)(done:Bool)(g0 g1:Nat)(n:Nat)(s:Int×Int):Array qV:=#[.bool any,.bool w,iI a,iI l,.bool ex,.bool acq,.bool rel,.int .u64 d0,.int .u64 d1,.bool done,.int .u64 g0,.int .u64 g1,iI n,iI s.1,iI s.2]
section
variable(any w w':Bool)(a l a' l':Int)(ex acq rel ex' acq' rel':Bool)(d0 d1 d0' d1':Int)(done:Bool)(g0 g1:Nat)(n:Nat)(s:Int×Int)
theorem nr:setL (didA any w a l ex acq rel d0 d1 done g0 g1 n s) 1 (accC w' a' l' ex' acq' rel' d0' d1').toList=didA any w' a' l' ex' acq' rel' d0' d1' done g0 g1 n s:=by
 simp [setL,didA,accC]
theorem nl(x:Bool):(didA any w a l ex acq rel d0 d1 done g0 g1 n s).setIfInBounds 0 (.bool x)=didA x w a l ex acq rel d0 d1 done g0 g1 n s:=by simp [didA]
theorem fB(x:Bool):(didA any w a l ex acq rel d0 d1 done g0 g1 n s).setIfInBounds 9 (.bool x)=didA any w a l ex acq rel d0 d1 x g0 g1 n s:=by simp [didA]
theorem ydE(x y:Nat):setL (didA any w a l ex acq rel d0 d1 done g0 g1 n s) 10 [.int .u64 x,.int .u64 y]=didA any w a l ex acq rel d0 d1 done x y n s:=by
 simp [setL,didA]
theorem nk:setL bH 0 (didS n s).toList=didA false false 0 0 false false false 0 0 false 0 0 n s:=by
 simp [setL,bH,didS,didA]
theorem nj:setL bH 0 (didA any w a l ex acq rel d0 d1 done g0 g1 n s).toList=didA any w a l ex acq rel d0 d1 done g0 g1 n s:=by
 simp [setL,bH,didA]
theorem lZ(i:Ins):setL ew 0 (insC i).toArray.toList=(insC i).toArray:=by
 simp [setL,ew,insC]
end
theorem ns(any w:Bool)(a l:Int)(ex acq rel:Bool)(d0 d1:Int)(done:Bool)(g0 g1:Nat)(n:Nat)(s:Int×Int):(didA any w a l ex acq rel d0 d1 done g0 g1 n s).all (·.oneCell')=true:=by
 simp [didA,Value.oneCell']
theorem dD{tmps:Array qV}{w:qW}{b6:Nat}{d:Array qV}(h8:tmps.getD 6 undef=pP b6)(hb:w.heap[b6]?=some (.cells d 46 (0,0)))(hd:d.size=15):
  ∃v,(results Tryz.f7 tmps).run Tryz.prog w= .ok v w:=by
 have hl:=run_loadVar_mid (P:=Tryz.prog) w b6 0 46 d.toList _ (fun j v hv=>by rw [aa hb];simpa using hv) Tryz.underlying46 rfl (by simpa [hd] using dj)
 exact ⟨_,f8 (fn:=Tryz.f7) (t:=7) (show Tryz.f7.results=#[.cell 6 46,.tmp 7] from rfl) h8 hl⟩
theorem da{s:St}(h: ∀k,s.x k<2^64)(n:Int){v:Nat}(hv:v<2^64): ∀k,(setX s n v).x k<2^64:=fun k=>by
 unfold setX
 split
 ·exact h k
 ·show (if (k:Int)=n then v else s.x k)<_
  split
  ·exact hv
  ·exact h k
theorem eT(s:St)(n:Int)(v:Nat):(setX s n v).wa=s.wa/\(setX s n v).wl=s.wl:=by
 unfold setX
 split<;>exact ⟨rfl,rfl⟩
theorem jx(s:St)(i:Ins):rngI (spanA s i):=by
 unfold spanA atN rngI
 split<;>omega
theorem lN{i:Ins}(hf:Facts i):rngI (lenI i):=by
 have:=dg hf
 unfold rngI
 omega
theorem sd(x:Int):rngI (wrap64 x):=by
 unfold rngI wrap64
 omega
theorem li(s:St)(i:Ins)(hf:Facts i)(hs:s.ok)(g0 g1:Nat)(fits:Bool)(h0:g0<2^64)(h1:g1<2^64):(nextS s i g0 g1 fits).ok:=by
 have hn:=kY s i hf hs
 have key:(∀k,(bodyS s i g0 g1 fits).x k<2^64)/\rngI (bodyS s i g0 g1 fits).wa/\rngI (bodyS s i g0 g1 fits).wl:=by
  have hm:g0&&&mask (8*lenI i)<2^64:=Nat.lt_of_le_of_lt Nat.and_le_left h0
  unfold bodyS accS
  have z:rngI 0:=by unfold rngI;omega
  split
  ·exact ⟨hs.1,z,z⟩
  ·split
   ·split
    ·split
     ·exact ⟨da hs.1 _ (by split<;>omega),z,z⟩
     ·exact ⟨hs.1,hs.2.2.1,hs.2.2.2⟩
    ·split
     ·exact ⟨da (da hs.1 _ h0) _ h1,jx s i,lN hf⟩
     ·split
      ·exact ⟨da hs.1 _ hm,jx s i,lN hf⟩
      ·rw [(eT s i.d _).1,(eT s i.d _).2]
       exact ⟨da hs.1 _ hm,hs.2.2.1,hs.2.2.2⟩
   ·split
    ·rw [(eT _ i.d _).1,(eT _ i.d _).2]
     have h2:(numI s i).toNat<2^64:=by omega
     split
     ·exact ⟨da (s:={s with z:=numI s i==0,c:=decide (getX s i.m<=getX s i.n)}) hs.1 _ h2,hs.2.2.1,hs.2.2.2⟩
     ·exact ⟨da hs.1 _ h2,hs.2.2.1,hs.2.2.2⟩
    ·exact ⟨hs.1,hs.2.2.1,hs.2.2.2⟩
 exact ⟨key.1,sd _,key.2.1,key.2.2⟩
end Go.Proofs.YtcekjfmfcefjpaaGreatDoor
