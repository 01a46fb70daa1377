/- Walks. No condition. -/
import Derived.Test.YtjmfoeajhiimnaaGreatDoorG35
set_option maxRecDepth 100000
set_option maxHeartbeats 0
set_option linter.all false
namespace Go.Proofs.YtjmfoeajhiimnaaGreatDoor
open Go.RowKit Go.Sort
variable{W:qW}{n b gs sc:Nat}{cv pv:qV}{t:TD}
abbrev tfoot(b gs sc:Nat)(cv pv:qV)(t:TD):Nat->Prop:=foot b (thC (thF cv (.slice (aA gs) t.sites.length sc) pv t)) (thR t)
structure MtD(W:qW)(n b gs sc:Nat)(cv pv:qV)(t t':TD)(W':qW):Prop where
 th: ∃pv',MtX W' n b gs cv pv' sc t'/\ ∀k,tfoot b gs sc cv pv' t' k->tfoot b gs sc cv pv t k\/W.heap.size<=k
 kp:Kp (tfoot b gs sc cv pv t) W W'
theorem eU{k:Nat}{t':TD}{cv pv:qV}(hc:t'.code=t.code)(hp:t'.prints=t.prints)(hs:t'.sites=t.sites)(h:tfoot b gs sc cv pv t' k):tfoot b gs sc cv pv t k:=by
 have hr:thR t'=thR t:=by simp [thR,hc,hp]
 rcases h with h|⟨r,yh,h⟩
 ·exact .inl h
 ·rw [hr] at yh
  refine .inr ⟨r,yh,?_⟩
  have hx:r.ix=0\/r.ix=38:=by
   simp only [thR,zaM,zaN,or_false] at yh
   rcases yh with rfl|rfl
   ·exact .inl rfl
   ·exact .inr rfl
  rcases hx with e|e
  ·rw [e,bh _ 0 Za] at h ⊢
   exact h
  ·rw [e,bh _ 38 Za] at h ⊢
   exact h
theorem MtD.same{W':qW}{t':TD}(hm:MtX W' n b gs cv pv sc t')(hk:Kp (fun k=>k=b) W W')(hc:t'.code=t.code)(hp:t'.prints=t.prints)(hs:t'.sites=t.sites):MtD W n b gs sc cv pv t t' W':=
 ⟨⟨pv,hm,fun k wZ=> .inl (eU hc hp hs wZ)⟩,hk.mono (fun k _ e=> .inl e)⟩
theorem qc(h:MtX W n b gs cv pv sc t)(hg:gs≠b)(i:Ins)(h1:i.op=32):qC 102 #[pP b,insV i] W fun e w'=>e= .returned (.tuple #[])/\MtX w' n b gs cv pv sc {t with end_:=2}/\Kp (fun k=>k=b) W w':=by
 obtain ⟨op,d,m,k,e,sz,imm⟩:=i
 simp only at h1
 subst h1
 unfold insV
 simp only
 have hb:=h.ob.lt
 have q39:W.cell? (aB b 39)=some (iI t.end_):=h.cell 39 Za
 have qf:=ah h.ob.out
 obtain ⟨hm,hk⟩:=h.setEnd hg 2
 have HM:=Zh hm
 have HK:=Zh hk
 clear h hm hk
 go_enter Tryz.func102,Tryz.ntmps102
 go_wp2_with fail
 go_end0
 exact ⟨rfl,HM.out.kp (X:=fun _=>False) ((Kp.refl _ _).alloc _) (fun _ _=>id) id,HK.out.alloc _⟩
theorem qd(h:MtX W n b gs cv pv sc t)(yY: ¬tfoot b gs sc cv pv t gs)(i:Ins)(t1:TD)(h1:stopT t i=some t1):qC 102 #[pP b,insV i] W fun e w'=>e= .returned (.tuple #[])/\MtD W n b gs sc cv pv t t1 w':=by
 have CN:gs≠b:=fun e=>yY (.inl e)
 unfold stopT at h1
 by_cases FB:i.op=32
 ·rw [if_pos FB] at h1
  obtain rfl:=zae h1
  exact (qc h CN i FB).mono fun e w' ⟨e1,e2,e3⟩=>⟨e1,.same e2 e3 rfl rfl rfl⟩
 ·rw [if_neg FB] at h1
  by_cases BB:i.op=31
  ·rw [if_pos BB] at h1
   by_cases h0:i.imm=0
   ·rw [if_pos h0] at h1
    obtain rfl:=zae h1
    exact (p6 h CN i BB h0).mono fun e w' ⟨e1,e2,e3⟩=>⟨e1,.same e2 e3 rfl rfl rfl⟩
   ·rw [if_neg h0] at h1
    by_cases h2:1<=i.imm/\i.imm<=31/\t.prints.length<=1000000
    ·rw [if_pos h2] at h1
     obtain rfl:=zae h1
     exact (pZ h yY i BB h2.1 h2.2.1 h2.2.2).mono fun e w' ⟨e1,pv',e2,e3,e4⟩=>⟨e1,⟨pv',e2,e4⟩,e3⟩
    ·rw [if_neg h2] at h1
     cases h1
  ·rw [if_neg BB] at h1
   obtain rfl:=zae h1
   exact (ju h i BB FB).mono fun e w' ⟨e1,e2⟩=>⟨e1,.same (h.kp (Kp.of_below (X:=fun _=>False) e2) (fun _ _=>id) id) (Kp.of_below e2) rfl rfl rfl⟩
theorem pL(cv sv pv:qV)(t:TD)(s:St)(k:Nat)(hk:k<40):thF cv sv pv {t with st:=s} k=if 2<=k/\k<38 then s.f (k-2) else thF cv sv pv t k:=by
 unfold thF
 by_cases h0:k=0
 ·subst h0
  simp
 ·by_cases h1:k=1
  ·subst h1
   simp
  ·rw [if_neg h0,if_neg h1,if_neg h0,if_neg h1]
   by_cases h2:k<38
   ·rw [if_pos h2,if_pos ⟨by omega,h2⟩]
   ·rw [if_neg h2,if_neg (show¬(2<=k/\k<38) by omega),if_neg h2]
theorem jP(b:Nat)(t:TypeId): ∀(vs:List qV) (o:Nat) (w:qW) (cs:Array qV),w.heap[b]?=some (.cells cs t (0,0))-> ∃cs',(w.setCells b o vs).heap[b]?=some (.cells cs' t (0,0))/\ ∀k:Nat,cs'[k]?=if k<cs.size then (if o<=k then (match vs[k-o]? with|some v=>some v|none=>cs[k]?) else cs[k]?) else none
 |[],o,w,cs,h=>⟨cs,h,fun k=>by
   by_cases hk:k<cs.size
   ·simp [hk]
   ·simp [hk,zaW (Nat.le_of_not_lt hk)]⟩
 |v::vs,o,w,cs,h=>by
  obtain ⟨cs',h1,h2⟩:=jP b t vs (o+1) (w.setCell ⟨b,o,none⟩ v) (cs.setIfInBounds o v) (aJ h v)
  refine ⟨cs',h1,fun k=>?_⟩
  rw [h2 k,Array.size_setIfInBounds]
  by_cases hk:k<cs.size
  ·rw [if_pos hk,if_pos hk,zaT]
   by_cases ho:o=k
   ·subst ho
    rw [if_pos rfl,if_neg Za,if_pos (zaq _),if_pos hk,Nat.sub_self]
    rfl
   ·rw [if_neg ho]
    by_cases hl:o<=k
    ·rw [if_pos (show o+1<=k by omega),if_pos hl,show k-o=(k-(o+1))+1 by omega,List.getElem?_cons_succ]
    ·rw [if_neg (show¬o+1<=k by omega),if_neg hl]
  ·rw [if_neg hk,if_neg hk]
theorem MtX.setSt(h:MtX W n b gs cv pv sc t)(hg:gs≠b)(s:St):MtX (W.setCells b 2 (stL s)) n b gs cv pv sc {t with st:=s}/\Kp (fun k=>k=b) W (W.setCells b 2 (stL s)):=by
  have hk:Kp (fun k=>k=b) W (W.setCells b 2 (stL s)):=by
    have: ∀(vs:List qV) (o:Nat) (w:qW),Kp (fun k=>k=b) w (w.setCells b o vs):=by
      intro vs
      induction vs with
      |nil=>exact fun o w=>Kp.refl _ _
      |cons v vs ih=>exact fun o w=>(Kp.set w b o v).trans (ih _ _)
    exact this _ _ _
  have DY: ∀r∈thR t,fld (thC (thF cv (.slice (aA gs) t.sites.length sc) pv {t with st:=s})) r.ix=fld (thC (thF cv (.slice (aA gs) t.sites.length sc) pv t)) r.ix:=fun r hr=>by
    simp only [thR,zaM,zaN,or_false] at hr
    rcases hr with rfl|rfl
    · rw [bh _ 0 Za,bh _ 0 Za]
      rfl
    · rw [bh _ 38 Za,bh _ 38 Za]
      rfl
  refine ⟨⟨⟨?_,fun r hr=>?_,h.ob.ix,fun r hr q hq=>?_⟩,h.sr.kp hk h.sl hg,by have:=hk.size;have:=h.sl;omega,h.sb⟩,hk⟩
  · obtain ⟨cs',h1,h2⟩:=jP b 80 (stL s) 2 W _ h.ob.out
    have e:cs'=thC (thF cv (.slice (aA gs) t.sites.length sc) pv {t with st:=s}):=by
     apply Array.ext_getElem?
     intro k
     by_cases Be:k<40
     · simp only [h2 k,dE,cN,Be,if_true]
       rw [pL cv _ pv t s k Be]
       by_cases I9:2<=k
       · rw [if_pos I9]
         by_cases Na:k<38
         · rw [if_pos ⟨I9,Na⟩]
           have:(stL s)[k-2]?=some (s.f (k-2)):=by
             unfold stL
             rw [zaj,List.getElem?_range Za]
             rfl
           rw [this]
         · rw [if_neg (fun h=>Na h.2)]
           have:(stL s)[k-2]?=none:=by
             unfold stL
             rw [List.getElem?_eq_none]
             simp
             omega
           rw [this]
       · rw [if_neg I9,if_neg (fun h=>I9 h.1)]
     · simp only [h2 k,dE,cN,Be,if_false]
    rw [e] at h1
    exact h1
  · rw [DY r hr]
    exact ai (h.ob.own r hr) hk (fun g hg e=>by have:=((h.ob.own r hr).lt g hg).1;omega)
  · rw [DY r hr,DY q hq]
    exact h.ob.apart r hr q hq
theorem io:(Tryz.prog.info? 83).map (·.size)=some 7:=by kernel_rfl
theorem ybY:(Tryz.prog.info? 74).map (·.size)=some 3:=by kernel_rfl
theorem dm:(Tryz.prog.info? 175).map (·.size)=some 15:=by kernel_rfl
def siteV(n:Nat)(s:Int×Int):qV:= .agg (siteC n s).toArray
section
variable{ops:Array Oper}{S:qW->Prop}{op:Oper}{a:Act}
theorem dh(hw:Region.wanted op (yielded ops a.tmps)=true)(x:Operand)(ho:op.op= .load 83 x)(b o:Nat)(hx:a.eval x= .pointer (some ⟨b,o,none⟩))(i:Ins)(hS: ∀w,S w->w.rangeAt b o (insC i)):YieldsIf Tryz.prog ops S op (insV i) a:=
 yieldsIf_load_mid hw 83 x ho b o hx (insC i) _ hS Tryz.underlying83 rfl io
theorem lU(hw:Region.wanted op (yielded ops a.tmps)=true)(x:Operand)(ho:op.op= .load 74 x)(b o:Nat)(hx:a.eval x= .pointer (some ⟨b,o,none⟩))(n:Nat)(i:Int×Int)(hS: ∀w,S w->w.rangeAt b o (siteC n i)):YieldsIf Tryz.prog ops S op (siteV n i) a:=
 yieldsIf_load_mid hw 74 x ho b o hx (siteC n i) _ hS Tryz.underlying74 rfl ybY
theorem fx(hw:Region.wanted op (yielded ops a.tmps)=true)(x:Operand)(ho:op.op= .load 78 x)(b o:Nat)(hx:a.eval x= .pointer (some ⟨b,o,none⟩))(s:St)(hS: ∀w,S w->w.rangeAt b o (stL s)):YieldsIf Tryz.prog ops S op (stV s) a:=
 yieldsIf_load_mid hw 78 x ho b o hx (stL s) _ hS Tryz.underlying78 rfl (by simpa [stL] using dS)
end
theorem jY{w:qW}{g:Nat}{xs:List qV}(h:RowC w g xs)(o:Nat)(cs:List qV)(hx: ∀j v,cs[j]?=some v->xs[o+j]?=some v):w.rangeAt g o cs:=fun j v hv=>h (o+j) v (hx j v hv)
theorem fz{α:Type}(f:α->List qV)(m:Nat)(hf: ∀x,(f x).length=m): ∀(l:List α) (k:Nat) (x:α),l[k]?=some x-> ∀j v,(f x)[j]?=some v->(l.flatMap f)[k*m+j]?=some v
 |[],k,x,h=>by simp at h
 |y::l,0,x,h=>fun j v hv=>by
  simp at h
  subst h
  have hj:=(List.getElem?_eq_some_iff.1 hv).1
  simp only [zaf,Nat.zero_mul,zag]
  rw [zah hj]
  exact hv
 |y::l,k+1,x,h=>fun j v hv=>by
  simp only [zaf]
  rw [zai (by rw [hf,Nat.add_mul];omega),hf,show (k+1)*m+j-m=k*m+j by rw [Nat.add_mul];omega]
  exact fz f m hf l k x (by simpa using h) j v hv
theorem MtX.range_st{W:qW}{n b gs sc:Nat}{cv pv:qV}{t:TD}(h:MtX W n b gs cv pv sc t):W.rangeAt b 2 (stL t.st):=fun j v hv=>by
 have hj:j<36:=by
  have:=(List.getElem?_eq_some_iff.1 hv).1
  simpa [stL] using this
 unfold stL at hv
 rw [zaj,List.getElem?_range hj] at hv
 obtain rfl:t.st.f j=v:=by simpa using hv
 rw [Nat.add_comm]
 exact h.st j hj
theorem MtX.there_st{W:qW}{n b gs sc:Nat}{cv pv:qV}{t:TD}(h:MtX W n b gs cv pv sc t):W.there b 2 36:=fun j hj=>by
 refine ⟨?_,ah h.ob.out _⟩
 rw [Nat.add_comm,h.st j hj]
 rfl
theorem MtX.range_ins{W:qW}{n b gs sc gc c:Nat}{pv:qV}{t:TD}(h:MtX W n b gs (.slice (aA gc) t.code.length c) pv sc t){k:Nat}{i:Ins}(hi:t.code[k]?=some i):W.rangeAt gc (k*7) (insC i):=by
 obtain ⟨a,c',e, -,ho⟩:=h.code
 injection e with e1 e2 e3
 subst e1 e3
 exact jY (bT ho) _ _ (fun j v hv=>fz insC 7 (fun _=>rfl) _ k i hi j v hv)
theorem MtX.range_site{W:qW}{n b gs sc:Nat}{cv pv:qV}{t:TD}(h:MtX W n b gs cv pv sc t){k:Nat}{i:Int×Int}(hi:t.sites[k]?=some i):W.rangeAt gs (k*3) (siteC n i):=
 jY h.sr _ _ (fun j v hv=>fz (siteC n) 3 (fun _=>rfl) _ k i hi j v hv)
def bK:Array qV:=#[.bool false,.bool false,iI 0,iI 0,.bool false,.bool false,.bool false,.int .u64 0,.int .u64 0,.bool false,.int .u64 0,.int .u64 0,iI 0,iI 0,iI 0]
def didS(n:Nat)(s:Int×Int):Array qV:=#[.bool false,.bool false,iI 0,iI 0,.bool false,.bool false,.bool false,.int .u64 0,.int .u64 0,.bool false,.int .u64 0,.int .u64 0,iI n,iI s.1,iI s.2]
def eD:Array qV:=#[iI 0,iI 0,iI 0,iI 0,iI 0,iI 0,iI 0]
theorem iP(W:qW):(zeroValue 175).run Tryz.prog W= .ok (.agg bK) W:=by kernel_rfl
theorem iO(W:qW):(zeroValue 83).run Tryz.prog W= .ok (.agg eD) W:=by kernel_rfl
structure StA(W:qW)(bi bd:Nat)(i:Ins)(d:Array qV)(V:qW):Prop where
 h6:V.heap[W.heap.size]?=some (.cells bK 175 (0,0))
 hi:V.heap[bi]?=some (.cells (insC i).toArray 83 (0,0))
 hd:V.heap[bd]?=some (.cells d 175 (0,0))
 i6:W.heap.size<bi
 d6:W.heap.size<bd
 ne:bi≠bd
section
variable{W V V':qW}{bi bd:Nat}{i:Ins}{d d':Array qV}
theorem StA.kp{X:Nat->Prop}(h:StA W bi bd i d V)(hk:Kp X V V')(h1: ¬X W.heap.size)(h2: ¬X bi)(h3: ¬X bd):StA W bi bd i d V':=
 ⟨(hk.block _ (ac h.h6) h1).trans h.h6,(hk.block _ (ac h.hi) h2).trans h.hi,(hk.block _ (ac h.hd) h3).trans h.hd,h.i6,h.d6,h.ne⟩
theorem StA.below(h:StA W bi bd i d V)(hk:Below V.heap.size V V'):StA W bi bd i d V':=h.kp (Kp.of_below (X:=fun _=>False) hk) id id id
theorem StA.put(h:StA W bi bd i d V)(hk:Kp (fun k=>k=bd) V V')(hd:V'.heap[bd]?=some (.cells d' 175 (0,0))):StA W bi bd i d' V':=
 ⟨(hk.block _ (ac h.h6) (by have:=h.d6;omega)).trans h.h6,(hk.block _ (ac h.hi) h.ne).trans h.hi,hd,h.i6,h.d6,h.ne⟩
theorem StA.rng(h:StA W bi bd i d V):V.rangeAt bi 0 (insC i):=fun j v hv=>by
 rw [aa h.hi]
 simpa using hv
end
theorem Kp.rng{X:Nat->Prop}{V V':qW}(hk:Kp X V V'){b o:Nat}{cs:List qV}(h:V.rangeAt b o cs)(hb:b<V.heap.size)(hX: ¬X b):V'.rangeAt b o cs:=fun j v hv=>(hk.cell (o:=o+j) hb hX).trans (h j v hv)
theorem mg:(Tryz.prog.info? 173).map (·.size)=some 8:=by kernel_rfl
theorem eE:(Tryz.prog.info? 4).map (·.size)=some 1:=by kernel_rfl
def accC(w:Bool)(a l:Int)(ex acq rel:Bool)(d0 d1:Int):Array qV:=#[.bool w,iI a,iI l,.bool ex,.bool acq,.bool rel,.int .u64 d0,.int .u64 d1]
def didA(any w:Bool)(a l:Int)(ex acq rel:Bool)(d0 d1:Int)(done:Bool)(g0 g1:Nat)(n:Nat)(s:Int×Int):Array qV:=#[.bool any,.bool w,iI a,iI l,.bool ex,.bool acq,.bool rel,.int .u64 d0,.int .u64 d1,.bool done,.int .u64 g0,.int .u64 g1,iI n,iI s.1,iI s.2]
section
variable(any w w':Bool)(a l a' l':Int)(ex acq rel ex' acq' rel':Bool)(d0 d1 d0' d1':Int)(done:Bool)(g0 g1:Nat)(n:Nat)(s:Int×Int)
theorem nw:setL (didA any w a l ex acq rel d0 d1 done g0 g1 n s) 1 (accC w' a' l' ex' acq' rel' d0' d1').toList=didA any w' a' l' ex' acq' rel' d0' d1' done g0 g1 n s:=by
 simp [setL,didA,accC]
theorem nv(x:Bool):(didA any w a l ex acq rel d0 d1 done g0 g1 n s).setIfInBounds 0 (.bool x)=didA x w a l ex acq rel d0 d1 done g0 g1 n s:=by simp [didA]
theorem fD(x:Bool):(didA any w a l ex acq rel d0 d1 done g0 g1 n s).setIfInBounds 9 (.bool x)=didA any w a l ex acq rel d0 d1 x g0 g1 n s:=by simp [didA]
theorem ydK(x y:Nat):setL (didA any w a l ex acq rel d0 d1 done g0 g1 n s) 10 [.int .u64 x,.int .u64 y]=didA any w a l ex acq rel d0 d1 done x y n s:=by
 simp [setL,didA]
theorem nu:setL bK 0 (didS n s).toList=didA false false 0 0 false false false 0 0 false 0 0 n s:=by
 simp [setL,bK,didS,didA]
theorem nt:setL bK 0 (didA any w a l ex acq rel d0 d1 done g0 g1 n s).toList=didA any w a l ex acq rel d0 d1 done g0 g1 n s:=by
 simp [setL,bK,didA]
theorem mc(i:Ins):setL eD 0 (insC i).toArray.toList=(insC i).toArray:=by
 simp [setL,eD,insC]
end
theorem ny(any w:Bool)(a l:Int)(ex acq rel:Bool)(d0 d1:Int)(done:Bool)(g0 g1:Nat)(n:Nat)(s:Int×Int):(didA any w a l ex acq rel d0 d1 done g0 g1 n s).all (·.oneCell')=true:=by
 simp [didA,Value.oneCell']
theorem dG{tmps:Array qV}{w:qW}{b6:Nat}{d:Array qV}(h8:tmps.getD 6 undef=pP b6)(hb:w.heap[b6]?=some (.cells d 175 (0,0)))(hd:d.size=15):
  ∃v,(results Tryz.f63 tmps).run Tryz.prog w= .ok v w:=by
 have hl:=run_loadVar_mid (P:=Tryz.prog) w b6 0 175 d.toList _ (fun j v hv=>by rw [aa hb];simpa using hv) Tryz.underlying175 rfl (by simpa [hd] using dm)
 exact ⟨_,gu (fn:=Tryz.f63) (t:=7) (show Tryz.f63.results=#[.cell 6 175,.tmp 7] from rfl) h8 hl⟩
theorem da{s:St}(h: ∀k,s.x k<2^64)(n:Int){v:Nat}(hv:v<2^64): ∀k,(setX s n v).x k<2^64:=fun k=>by
 unfold setX
 split
 ·exact h k
 ·show (if (k:Int)=n then v else s.x k)<_
  split
  ·exact hv
  ·exact h k
theorem fb(s:St)(n:Int)(v:Nat):(setX s n v).wa=s.wa/\(setX s n v).wl=s.wl:=by
 unfold setX
 split<;>exact ⟨rfl,rfl⟩
theorem jB(s:St)(i:Ins):rngI (spanA s i):=by
 unfold spanA atN rngI
 split<;>omega
theorem lT{i:Ins}(hf:Facts i):rngI (lenI i):=by
 have:=dg hf
 unfold rngI
 omega
theorem sQ(x:Int):rngI (wrap64 x):=by
 unfold rngI wrap64
 omega
theorem lu(s:St)(i:Ins)(hf:Facts i)(hs:s.ok)(g0 g1:Nat)(fits:Bool)(h0:g0<2^64)(h1:g1<2^64):(nextS s i g0 g1 fits).ok:=by
 have hn:=lm s i hf hs
 have key:(∀k,(bodyS s i g0 g1 fits).x k<2^64)/\rngI (bodyS s i g0 g1 fits).wa/\rngI (bodyS s i g0 g1 fits).wl:=by
  have hm:g0&&&mask (8*lenI i)<2^64:=Nat.lt_of_le_of_lt Nat.and_le_left h0
  unfold bodyS accS
  have z:rngI 0:=by unfold rngI;omega
  split
  ·exact ⟨hs.1,z,z⟩
  ·split
   ·split
    ·split
     ·exact ⟨da hs.1 _ (by split<;>omega),z,z⟩
     ·exact ⟨hs.1,hs.2.2.1,hs.2.2.2⟩
    ·split
     ·exact ⟨da (da hs.1 _ h0) _ h1,jB s i,lT hf⟩
     ·split
      ·exact ⟨da hs.1 _ hm,jB s i,lT hf⟩
      ·rw [(fb s i.d _).1,(fb s i.d _).2]
       exact ⟨da hs.1 _ hm,hs.2.2.1,hs.2.2.2⟩
   ·split
    ·rw [(fb _ i.d _).1,(fb _ i.d _).2]
     have h2:(numI s i).toNat<2^64:=by omega
     split
     ·exact ⟨da (s:={s with z:=numI s i==0,c:=decide (getX s i.m<=getX s i.n)}) hs.1 _ h2,hs.2.2.1,hs.2.2.2⟩
     ·exact ⟨da hs.1 _ h2,hs.2.2.1,hs.2.2.2⟩
    ·exact ⟨hs.1,hs.2.2.1,hs.2.2.2⟩
 exact ⟨key.1,sQ _,key.2.1,key.2.2⟩
theorem qe{t t1:TD}{i:Ins}(h:stopT t i=some t1):t1.st=t.st:=by
 unfold stopT at h
 repeat' split at h
 all_goals first|(obtain rfl:=zae h;rfl)|cases h
theorem qg{t t1:TD}{i:Ins}(h:stopT t i=some t1)(ho:t.ok):t1.ok:=by
 unfold stopT at h
 repeat' split at h
 all_goals first|(obtain rfl:=zae h;exact ⟨ho.st,ho.code,ho.clen,ho.sl,ho.np⟩)|cases h
theorem qJ{W:qW}{M:Nat}{F:Nat->Prop}{bs:List Nat}{s:MSt}(h:MacAt W M F bs s)(n b:Nat)(t t1:TD)(i:Ins)(fail:Bool)(hb:bs[n]?=some b)(ht:s.ts[n]?=some t)(he:t.end_=0)(p:Nat)(hp:t.st.pc=p)(hi:t.code[p]?=some i)(v:Nat)(hv:enc i=some v)(hm:meB i.op=false)(h1:stopT t i=some t1):
  qC 63 #[pP M,iI n,.bool fail] W fun e w'=>(∃x,e= .returned x)/\MacD W M F bs {s with ts:=s.ts.set n {t1 with st:=nextS t.st i 0 0 false}} w':=by
 obtain ⟨cv,pv,gs,sc,hx,I3,CV,DX,yY,x'⟩:=h.th hb ht
 have zF:=h.ok.th t (zat ht)
 have hM:=h.M_lt
 have xo:=hx.ob.lt
 obtain ⟨ca,cc,rfl,xh,Ke⟩:=hx.code
 obtain ⟨gc,rfl⟩:=cz Ke (by have:=(List.getElem?_eq_some_iff.1 hi).1;omega)
 have AA:=(List.getElem?_eq_some_iff.1 hi).1
 obtain ⟨st,xz⟩: ∃st,t.sites[p]?=some st:=⟨t.sites[p]'(by rw [zF.sl];exact AA),zaC _⟩
 have DI:=(List.getElem?_eq_some_iff.1 xz).1
 have q39:W.cell? (aB b 39)=some (iI 0):=he ▸ hx.cell 39 Za
 have AT:=Zh (fun W' (yN:Below W.heap.size W W')=>(h.below yN).at_call hb ht)
 have IN:=Zh (fun W' (yN:Below W.heap.size W W')=>mh (hx.kp (Kp.of_below (X:=fun _=>False) yN) (fun _ _=>id) id))
 have HX:=Zh hx
 have H:=Zh h
 have KH:=Zh x'
 clear x' h hx
 go_enter Tryz.func63,Tryz.ntmps63
 go_wp2_with fail
 refine (AT.out _ ZG).mono ?_
 rintro e w1 ⟨rfl,rfl⟩
 go_wp2_with fail
 refine (IN.out _ ZG).mono ?_
 rintro e w1 ⟨rfl,rfl⟩
 have AD:(decide (0<=t.st.pc)&&decide (t.st.pc<(t.code.length:Int)))=true:=by
  rw [hp]
  simp
  omega
 rw [AD]
 go_wp2_with fail
 refine aS (R:=fun X=>Below W.heap.size W X/\X.heap[W.heap.size]?=some (.cells bK 175 (0,0))) ⟨ag (ab (zaa _ _) _),zab _ _⟩ ?_
 rintro V ⟨yD,h6⟩
 have zI:=HX.out.kp (Kp.of_below (X:=fun _=>False) yD) (fun _ _=>id) id
 have zC: ∀X,Below V.heap.size V X->X.cell? (aB b 0)=some (.slice (aA gc) t.code.length cc)/\X.cell? (aB b 33)=some (iI (p:Int))/\X.cell? (aB b 1)=some (.slice (aA gs) t.sites.length sc)/\X.rangeAt gc (p*7) (insC i)/\X.rangeAt gs (p*3) (siteC n st):=fun X hX=>by
  have BG:=zI.kp (Kp.of_below (X:=fun _=>False) hX) (fun _ _=>id) id
  exact ⟨BG.cell 0 Za,(BG.st 31 Za).trans (by rw [bt,hp]),BG.cell 1 Za,BG.range_ins hi,BG.range_site xz⟩
 have hA:=zC _ (ag (zaa _ V))
 have HA:=Zh zC
 clear zC
 have hB:True:=trivial
 have Gc:(p:Int)<t.code.length:=by omega
 have JA:(p:Int)<t.sites.length:=by omega
 have HV:=Zh zI
 have HB:=Zh yD
 clear zI yD
 refine ae (fun X=>X.cell? (aB b 0)=some (.slice (aA gc) t.code.length cc)/\X.cell? (aB b 33)=some (iI (p:Int))/\X.cell? (aB b 1)=some (.slice (aA gs) t.sites.length sc)/\X.rangeAt gc (p*7) (insC i)/\X.rangeAt gs (p*3) (siteC n st)) (fun W=>True) 26 rfl ?_
 refine Zp 0 rfl (h:=Zp 1 rfl (h:=Zp 2 rfl (h:=Zt 3 rfl (h:=Zp 4 rfl (h:=Zp 5 rfl (h:=Zp 6 rfl (h:=Zp 7 rfl (h:=Zt 8 rfl (h:=Zp 9 rfl (h:=?_))))))))));try simp only [Zq]
 refine bG 10 (v:=insV i) rfl Zb Zb Zb (fun _ _ _ h=>h) Zd Zb (dh rfl (.tmp 42) rfl gc (p*7) ?_ i ?_) ⟨hA,fun _=>hB⟩ ?_
 ·simp [Act.eval]
 ·intro w hw;exact hw.2.2.2.1
 try simp only [Zq]
 refine Zp 11 rfl (h:=Zp 12 rfl (h:=Zp 13 rfl (h:=Zt 14 rfl (h:=Zp 15 rfl (h:=Zp 16 rfl (h:=Zp 17 rfl (h:=Zp 18 rfl (h:=Zt 19 rfl (h:=Zp 20 rfl (h:=?_))))))))));try simp only [Zq]
 refine bG 21 (v:=siteV n st) rfl Zb Zb Zb (fun _ _ _ h=>h) Zd Zb (lU rfl (.tmp 53) rfl gs (p*3) ?_ n st ?_) ⟨hA,fun _=>hB⟩ ?_
 ·simp [Act.eval]
 ·intro w hw;exact hw.2.2.2.2
 try simp only [Zq]
 refine cY 22 (v:= .agg (didS n st)) rfl Zb Zb Zb (fun _ _ _ h=>h) Zd Zb (Or.inl ⟨by rfl,fun W _=>?_⟩) ⟨hA,fun _=>hB⟩ ?_
 ·kernel_rfl
 try simp only [Zq]
 refine iU 23 24 (xi:=9) (xj:=10) rfl rfl rfl rfl rfl rfl rfl rfl Zd Zb Zb Zb Zd iO iP (fun w' Az=>HA.out w' (an (ag (zaa _ V)) Az (zaq _))) (fun _ _=>trivial) ?_
 intro bi bd V2 hT
 have T:=Zh hT
 clear hT hA
 have b2:Below V.heap.size V V2:=an (ag (zaa _ V)) T.out.bel (zaq _)
 have hA:=HA.out V2 b2
 have x1:V.heap.size<=bi:=T.out.i1.1
 have x2:V.heap.size<=bd:=T.out.j1.1
 have x3:bi≠bd:=T.out.ne
 have x4:bi<V2.heap.size:=T.out.i1.2
 have x5:bd<V2.heap.size:=T.out.j1.2
 try simp only [Zq]
 refine Zs 25 rfl fun K hK=>?_
 refine bD rfl (cG 83 (.tmp 9) (.tmp 43) rfl bi 0 (insC i).toArray rfl rfl (T:=83) T.out.hi (by simp [eD,insC]) io (by simp [insC,Value.oneCell']) ?_)
 intro V3 g3 k3 z3
 rw [mc] at g3
 have b3:Below V.heap.size V V3:=aI b2 k3 (fun k e=>by omega)
 refine hK _ _ ⟨HA.out V3 b3,fun _=>trivial⟩ ?_
 clear hK K hA
 have hA:=HA.out V3 b3
 have g3d:V3.heap[bd]?=some (.cells bK 175 (0,0)):=(k3.block bd x5 (fun e=>x3 e.symm)).trans T.out.hj
 refine Zs 26 rfl fun K hK=>?_
 refine bD rfl (cG 175 (.tmp 10) (.tmp 55) rfl bd 0 (didS n st) rfl rfl g3d (by simp [bK,didS]) dm (by simp [didS,Value.oneCell']) ?_)
 intro V4 g4 k4 z4
 rw [nu] at g4
 have b4:Below V.heap.size V V4:=aI b3 k4 (fun k e=>by omega)
 refine hK _ _ ⟨HA.out V4 b4,fun _=>trivial⟩ ?_
 clear hK K hA
 refine af Zb ?_ _
 have b6lt:W.heap.size<V.heap.size:=ac h6
 have HS:Hid (StA W bi bd i (didA false false 0 0 false false false 0 0 false 0 0 n st) V4):=Zh ⟨(b4.block _ b6lt).trans h6,(k4.block bi Za (fun e=>x3 e)).trans g3,g4,by omega,by omega,x3⟩
 have Bj:=Zh (an HB.out b4 HB.out.size)
 clear g3 g4 k3 k4 b2 b3 b4 HA HB HV T g3d h6 x4 x5 z3 z4 hB
 have zI:=HX.out.kp (Kp.of_below (X:=fun _=>False) Bj.out) (fun _ _=>id) id
 have zC: ∀X,Below V4.heap.size V4 X->X.rangeAt b 2 (stL t.st)/\X.rangeAt bi 0 (insC i):=fun X hX=>⟨(zI.kp (Kp.of_below (X:=fun _=>False) hX) (fun _ _=>id) id).range_st,(HS.out.below hX).rng⟩
 have HA:=Zh zC
 have hA:=zC _ (ag (zaa _ V4))
 have hB:True:=trivial
 have HV:=Zh zI
 have ASK:=Zh (fun W'=>yfo t.st i (zF.code i (zat hi)) (Or.inr hm) W')
 clear zC zI
 go_wp2_with fail
 refine ae (fun X=>X.rangeAt b 2 (stL t.st)/\X.rangeAt bi 0 (insC i)) (fun W=>True) 12 rfl ?_
 refine Zp 0 rfl (h:=Zp 1 rfl (h:=Zp 2 rfl (h:=?_)));try simp only [Zq]
 refine bG 3 (v:=stV t.st) rfl Zb Zb Zb (fun _ _ _ h=>h) Zd Zb (fx rfl (.tmp 59) rfl b 2 ?_ t.st ?_) ⟨hA,fun _=>hB⟩ ?_
 ·rfl
 ·intro w hw;exact hw.1
 try simp only [Zq]
 refine bG 4 (v:=insV i) rfl Zb Zb Zb (fun _ _ _ h=>h) Zd Zb (dh rfl (.tmp 9) rfl bi 0 ?_ i ?_) ⟨hA,fun _=>hB⟩ ?_
 ·rfl
 ·intro w hw;exact hw.2
 try simp only [Zq]
 refine Zs 5 rfl fun K hK=>?_
 go_simp
 go_at_call 100
 refine (ASK.out _).mono ?_
 rintro e w5 ⟨rfl,q5,rfl⟩
 obtain ⟨V5,EY⟩: ∃V5,V5=more V4.drew q5:=⟨_,rfl⟩
 rw [<-EY]
 have b5:Below V4.heap.size V4 V5:=by rw [EY];exact an (ag (zaa _ V4)) (au _ _) (zaq _)
 clear EY
 refine hK _ _ ⟨HA.out V5 b5,fun _=>trivial⟩ ?_
 clear hK K hA
 have hA:=HA.out V5 b5
 have Ck:=HS.out.below b5
 have x6:bd<V5.heap.size:=ac Ck.hd
 have x7:b<V5.heap.size:=zar HV.out.ob.lt b5.size
 have x8:b<bd:=by omega
 have x9:bi<V5.heap.size:=ac Ck.hi
 refine Zp 6 rfl (h:=Zp 7 rfl (h:=Zp 8 rfl (h:=Zp 9 rfl (h:=?_))));try simp only [Zq]
 refine Zs 10 rfl fun K hK=>?_
 refine bD rfl (cG 173 (.tmp 65) (.tmp 63) rfl bd 1 (accC false 0 0 false false false 0 0) rfl rfl Ck.hd (by simp [accC,didA]) mg (by simp [accC,Value.oneCell']) ?_)
 intro V6 g6 k6 z6
 rw [nw] at g6
 refine hK _ _ ⟨⟨k6.rng hA.1 x7 Za,k6.rng hA.2 x9 x3⟩,fun _=>trivial⟩ ?_
 clear hK K
 have E6:=hA
 clear hA
 have hA:V6.rangeAt b 2 (stL t.st)/\V6.rangeAt bi 0 (insC i):=⟨k6.rng E6.1 x7 Za,k6.rng E6.2 x9 x3⟩
 have Cj:StA W bi bd i (didA false false 0 0 false false false 0 0 false 0 0 n st) V6:=Ck.put k6 g6
 refine Zp 11 rfl (h:=?_);try simp only [Zq]
 refine Zs 12 rfl fun K hK=>?_
 refine bD rfl (dC 4 (.tmp 66) (.tmp 64) rfl bd 0 (.bool false) rfl rfl Cj.hd (by simp [didA]) rfl rfl eE ?_)
 intro V7 g7 k7 z7
 rw [nv] at g7
 refine hK _ _ ⟨⟨k7.rng hA.1 Za Za,k7.rng hA.2 Za x3⟩,fun _=>trivial⟩ ?_
 clear hK K
 have E0:StA W bi bd i (didA false false 0 0 false false false 0 0 false 0 0 n st) V7:=Cj.put k7 g7
 refine af Zb ?_ _
 have kk:Kp (fun k=>k=bd) V4 V7:=((Kp.of_below b5).trans k6).trans k7
 have zI:=HV.out.kp kk (fun k hk e=>by have:=(HX.out.ob.foot_lt hk).2;omega) (by have:=HX.out.sl;omega)
 have AJ:=Zh E0
 have w7:W.heap.size<V7.heap.size:=ac E0.h6
 have Hn:=Zh zI
 have FJ:Hid (Below W.heap.size W V7):=Zh (aI Bj.out kk (fun k e=>by omega))
 clear hA E6 HS HV HA Bj g6 g7 k6 k7 kk b5 Ck Cj E0 zI x6 x7 x9 z6 z7 ASK
 have q0:V7.cell? (aB bd 0)=some (.bool false):=aa AJ.out.hd 0
 have i0:V7.cell? (aB bi 0)=some (iI i.op):=aa AJ.out.hi 0
 have i1:V7.cell? (aB bi 1)=some (iI i.d):=aa AJ.out.hi 1
 have i2:V7.cell? (aB bi 2)=some (iI i.n):=aa AJ.out.hi 2
 have i3:V7.cell? (aB bi 3)=some (iI i.m):=aa AJ.out.hi 3
 have i4:V7.cell? (aB bi 4)=some (iI i.e):=aa AJ.out.hi 4
 have i5:V7.cell? (aB bi 5)=some (iI i.sz):=aa AJ.out.hi 5
 have i6:V7.cell? (aB bi 6)=some (iI i.imm):=aa AJ.out.hi 6
 go_wp2_with fail
 go_at_call 102
 refine (qd Hn.out yY i t1 h1).mono ?_
 rintro e V8 ⟨rfl,hD⟩
 obtain ⟨⟨pv',Lm,L6⟩,Ae⟩:=hD
 have Hc:=AJ.out.kp Ae (fun e=>by have:=(HX.out.ob.foot_lt e).2;omega) (fun e=>by have:=(HX.out.ob.foot_lt e).2;omega) (fun e=>by have:=(HX.out.ob.foot_lt e).2;omega)
 have AI:=Zh Hc
 have Hm:=Zh Lm
 have Qw:=Zh L6
 have Ih:Hid (Kp (tfoot b gs sc (.slice (aA gc) t.code.length cc) pv t) W V8):=Zh ((Kp.of_below FJ.out).trans Ae)
 clear q0 i0 i1 i2 i3 i4 i5 i6 Hc Lm L6 Ae AJ Hn
 have Jy:t1.st=t.st:=qe h1
 have q0:V8.cell? (aB bd 0)=some (.bool false):=aa AI.out.hd 0
 go_wp2_with fail
 have zC: ∀X,Below V8.heap.size V8 X->X.rangeAt bi 0 (insC i)/\X.cell? (aB bd 10)=some (.int .u64 (0:Nat))/\X.cell? (aB bd 11)=some (.int .u64 (0:Nat))/\X.cell? (aB bd 9)=some (.bool false):=fun X hX=>⟨(AI.out.below hX).rng,aa (AI.out.below hX).hd 10,aa (AI.out.below hX).hd 11,aa (AI.out.below hX).hd 9⟩
 have E4: ∀X,Below V8.heap.size V8 X->X.rangeAt b 2 (stL t.st):=fun X hX=>Jy ▸ (Hm.out.kp (Kp.of_below (X:=fun _=>False) hX) (fun _ _=>id) id).range_st
 have HA:=Zh zC
 have HBf:=Zh E4
 have hA:=zC _ (ag (zaa _ V8))
 have hB:=E4 _ (ag (zaa _ V8))
 have NX:=Zh (fun W'=>lr t.st i (zF.code i (zat hi)) zF.st 0 0 Za false v hv (zF.np i (zat hi)) W')
 clear zC E4 q0
 refine ae (fun X=>X.rangeAt bi 0 (insC i)/\X.cell? (aB bd 10)=some (.int .u64 (0:Nat))/\X.cell? (aB bd 11)=some (.int .u64 (0:Nat))/\X.cell? (aB bd 9)=some (.bool false)) (fun X=>X.rangeAt b 2 (stL t.st)) 16 rfl ?_
 refine Zp 0 rfl (h:=Zp 1 rfl (h:=Zp 2 rfl (h:=Zp 3 rfl (h:=?_))));try simp only [Zq]
 refine fP 4 (v:=stV t.st) [10,11,12,16] rfl Zb Zb Zb (fun _ _ _ h=>h) Zb Zd Zd Zb (fx rfl (.tmp 131) rfl b 2 ?_ t.st ?_) ⟨hA,fun _=>hB⟩ ?_
 ·rfl
 ·intro w hw;exact hw.2
 try simp only [Zq]
 refine bG 5 (v:=insV i) rfl Zb Zb Zb (fun _ _ _ h=>h) Zd Zb (dh rfl (.tmp 9) rfl bi 0 ?_ i ?_) ⟨hA,fun _=>hB⟩ ?_
 ·rfl
 ·intro w hw;exact hw.1
 try simp only [Zq]
 refine Zp 6 rfl (h:=Zt 7 rfl (h:=Zp 8 rfl (h:=Zt 9 rfl (h:=?_))));try simp only [Zq]
 refine Zs 10 rfl fun K hK=>?_
 go_simp
 refine (NX.out _).mono ?_
 rintro e w9 ⟨rfl,q9,rfl⟩
 obtain ⟨V9,EW⟩: ∃V9,V9=more V8.drew q9:=⟨_,rfl⟩
 rw [<-EW]
 have b9:Below V8.heap.size V8 V9:=by rw [EW];exact an (ag (zaa _ V8)) (au _ _) (zaq _)
 clear EW
 refine hK _ _ ⟨HA.out V9 b9,fun _=>HBf.out V9 b9⟩ ?_
 clear hK K hA hB
 have hA:=HA.out V9 b9
 have hB:=HBf.out V9 b9
 have BH:=Hm.out.kp (Kp.of_below (X:=fun _=>False) b9) (fun _ _=>id) id
 have Hb:=AI.out.below b9
 have CN:gs≠b:=fun e=>yY (e ▸ .inl rfl)
 obtain ⟨BI,yX⟩:=BH.setSt CN (nextS t.st i 0 0 false)
 have yC:=Hb.kp yX Za Za Za
 have E7:=Zh BI
 have xI:=Zh yC
 have Ho:=Zh BH.there_st
 have Kv:=Zh (Ih.out.next ((Kp.of_below (X:=fun k=>k=b) b9).trans yX) (fun k _ e=>e ▸ .inl rfl))
 clear BH Hb BI yC yX b9 NX
 refine Zp 11 rfl (h:=Zp 12 rfl (h:=Zp 13 rfl (h:=Zp 14 rfl (h:=Zp 15 rfl (h:=?_)))));try simp only [Zq]
 refine Zs 16 rfl fun K hK=>?_
 refine bD rfl (wp_store_mid 78 (.tmp 142) (.tmp 139) rfl b 2 (stC (nextS t.st i 0 0 false).f) rfl rfl (by rw [cO];exact Ho.out) (by rw [cO];exact dS) (fT _) ?_)
 rw [show (stC (nextS t.st i 0 0 false).f).toList=stL (nextS t.st i 0 0 false) from rfl]
 generalize EZ:V9.setCells b 2 (stL (nextS t.st i 0 0 false))=V10 at*
 refine hK _ _ ⟨⟨xI.out.rng,aa xI.out.hd 10,aa xI.out.hd 11,aa xI.out.hd 9⟩,fun hh=>Bool.noConfusion (hh.symm.trans (show _=true by kernel_rfl))⟩ ?_
 clear hK K hA hB EZ Ho HA HBf
 refine af Zb ?_ _
 generalize stV (nextS t.st i 0 0 false)=Z
 go_upto_region 22 with fail
 try simp only [Zq]
 refine wp_region_lit ?_
 refine wpList_load_mid rfl 175 (.tmp 10) rfl bd 0 rfl (didA false false 0 0 false false false 0 0 false 0 0 n st).toList _ (fun j v hv=>by rw [aa xI.out.hd];simpa using hv) Tryz.underlying175 rfl dm ?_
 go_frame
 refine wpList_plain rfl ?_
 intro K hK
 refine cG 175 (.tmp 6) (.tmp 143) rfl W.heap.size 0 (didA false false 0 0 false false false 0 0 false 0 0 n st) rfl rfl xI.out.h6 (by simp [bK,didA]) dm (ny ..) ?_
 intro V11 g11 k11 z11
 rw [nt] at g11
 refine hK _ _ ?_
 clear hK K
 have G11:=Zh g11
 have K11:=Zh k11
 clear g11 k11 z11
 have GO:(didA false false 0 0 false false false 0 0 false 0 0 n st).size=15:=rfl
 generalize didA false false 0 0 false false false 0 0 false 0 0 n st=D at*
 go_frame
 go_wp2_with fail
 refine ⟨rfl,(dG rfl G11.out GO).choose,(dG rfl G11.out GO).choose_spec,⟨_,rfl⟩,?_⟩
 have yd:=HX.out.sl
 have hf: ∀k,tfoot b gs sc (.slice (aA gc) t.code.length cc) pv' {t1 with st:=nextS t.st i 0 0 false} k->tfoot b gs sc (.slice (aA gc) t.code.length cc) pv t k\/W.heap.size<k:=fun k hk=>by
  rcases Qw.out k (eU (t:=t1) (t':={t1 with st:=nextS t.st i 0 0 false}) rfl rfl rfl hk) with e|e
  ·exact .inl e
  ·exact .inr Za
 have Jr:=E7.out.kp K11.out (fun k hk e=>by
  subst e
  rcases hf _ hk with e|e
  ·have:=(HX.out.ob.foot_lt e).2
   omega
  ·omega) Za
 exact KH.out _ V11 pv' {qg h1 zF with st:=lu t.st i (dv hv) zF.st 0 0 false Za Za} Jr (fun k hk=>(hf k hk).imp id Za) (Kv.out.next K11.out (fun k hk e=>by omega))
theorem fg{l:List Nat}(h:Small l)(j m:Nat):Small (partL l j m):=fun k=>by
 unfold partL
 rw [zaU,List.getElem?_take]
 split
 ·rw [List.getElem?_drop,<-zaU]
  exact h (j+k)
 ·simp
theorem kM{l:List Nat}(j m k:Nat)(hk:k<m):(partL l j m).getD k 0=l.getD (j+k) 0:=by
 unfold partL
 rw [zaU,List.getElem?_take,if_pos hk,List.getElem?_drop,<-zaU]
theorem ey{l:List Nat}(j m:Nat)(h:j+m<=l.length):(partL l j m).length=m:=by
 unfold partL
 rw [zaR,List.length_drop]
 omega
theorem pI{l:List Nat}{a m:Int}(h:thereM l a m=true)(ha:a<=1099511627776)(h1:1<=m)(h2:m<=16)(hl:l.length<=1000000): ∃j k:Nat,a=(j:Int)+65536/\m=k/\j+k<=l.length:=by
 unfold thereM at h
 simp only [za0,zau] at h
 obtain ⟨h3,h4⟩:=h
 have s1:sndB a m=true:=by unfold sndB;rw [zau];omega
 have s2:sndB 65536 (l.length:Int)=true:=by unfold sndB;rw [zau];omega
 unfold withinB loI hiI at h4
 rw [s1,s2] at h4
 simp only [if_true,zak,beq_iff_eq,za0] at h4
 unfold bLo bHi at h4
 refine ⟨(a-65536).toNat,m.toNat,by omega,by omega,?_⟩
 rcases h4 with h4|⟨h4,h5⟩
 ·omega
 ·split at h4
  ·omega
  ·split at h5<;>omega
theorem rE(s:St)(i:Ins):spanA s i<=1099511627776:=by
 unfold spanA
 split<;>omega
theorem MacAt.bytes{W:qW}{M:Nat}{F:Nat->Prop}{bs:List Nat}{s:MSt}(h:MacAt W M F bs s)(hl:0<s.bytes.length): ∃g c,W.cell? (aB M 1)=some (.slice (aA g) s.bytes.length c)/\s.bytes.length<=c/\c<=9223372036854775807/\g<W.heap.size/\ ∀k,k<s.bytes.length->W.cell? (aB g k)=some (.int .u8 (s.bytes.getD k 0:Nat)):=by
 obtain ⟨tv,bv,ks,zG,hm,hf⟩:=h.at_
 have q1:=hm.cells 1
 obtain ⟨ba,c,rfl,hc,ho⟩:=hm.mem
 obtain ⟨g,rfl⟩:=cz ho hl
 refine ⟨g,c,q1,hc,?_,(ho.lt g rfl).2,fun k hk=>bT ho k _ ?_⟩
 ·obtain ⟨_,oc2,e2,Eo,En, -⟩:=aC ho
  injection e2 with e2 e3 e4
  omega
 ·rw [zaU,zaC hk]
  exact eH (fun x:Nat=>Value.int .u8 x) s.bytes k _ (zaC hk)
theorem ybW:(Tryz.prog.info? 171).map (·.size)=some 2:=by kernel_rfl
theorem sX{W:qW}{M:Nat}{F:Nat->Prop}{bs:List Nat}{s:MSt}(h:MacAt W M F bs s)(j m:Nat)(Bd:1<=m)(Dg:m<=16)(Gy:j+m<=s.bytes.length):qC 103 #[pP M,.agg #[iI ((j:Int)+65536),iI m]] W fun e w'=>e= .returned (.agg #[.int .u64 (rd0 s.bytes j m:Nat),.int .u64 (rd1 s.bytes j m:Nat)])/\Below W.heap.size W w':=by
 have hM:=h.M_lt
 have xo:=h.ok.bl
 have F0:=h.ok.sm
 obtain ⟨g,c,q1,hc,Dn,hg,xm⟩:=h.bytes Za
 clear h
 go_enter Tryz.func103,Tryz.ntmps103
 go_wp2_with fail
 refine aS (R:=fun X=>Below W.heap.size W X/\X.heap[W.heap.size]?=some (.cells #[iI ((j:Int)+65536),iI m] 67 (0,0))/\X.heap[W.heap.size+1]?=some (.cells #[.int .u64 0,.int .u64 0] 171 (0,0))) ⟨ab (ab (zaa _ _) _) _,(zac _ _ ZF).trans (zab _ _),aH (by simp only [ar])⟩ ?_
 rintro V ⟨yD,hs,hr⟩
 have qs:=aa hs
 have Cb:IntKind.i64.wrap (j:Int)=(j:Int):=aR Za Za
 have GA:(j:Int)+65536-65536=(j:Int):=by omega
 have IJ:(j:Int)<=s.bytes.length:=by omega
 have J1:j<=s.bytes.length:=by omega
 have yB:s.bytes.length<=c:=hc
 have D7:(j:Int)<=c:=by omega
 have Kf:(m:Int)<=(c:Int)-j:=by omega
 have OX:m<=c-j:=by omega
 have OW: ¬c=j:=by omega
 have yR:=Zh yD
 have HC:=Zh xm
 have HS:=Zh F0
 have hA:V.drew.cell? (aB W.heap.size 0)=some (iI ((j:Int)+65536))/\V.drew.cell? (aB W.heap.size 1)=some (iI m)/\V.drew.cell? (aB M 1)=some (.slice (aA g) s.bytes.length c):=⟨qs 0,qs 1,(yD.cell (p:=⟨M,1,none⟩) hM).trans q1⟩
 have hB:True:=trivial
 clear yD xm F0
 refine ae (fun X=>X.cell? (aB W.heap.size 0)=some (iI ((j:Int)+65536))/\X.cell? (aB W.heap.size 1)=some (iI m)/\X.cell? (aB M 1)=some (.slice (aA g) s.bytes.length c)) (fun W=>True) 11 rfl ?_
 refine Zp 0 rfl (h:=Zp 1 rfl (h:=Zp 2 rfl (h:=Zt 3 rfl (h:=Zp 4 rfl (h:=Zt 5 rfl (h:=Zp 6 rfl (h:=Zp 7 rfl (h:=Zp 8 rfl (h:=Zt 9 rfl (h:=Zp 10 rfl (h:=?_)))))))))));try simp only [Zq]
 refine Zs 11 rfl fun K hK=>?_
 go_simp
 refine hK _ _ ⟨hA,fun _=>trivial⟩ ?_
 clear hK K hA hB qs q1 Cb GA IJ J1 yB D7 Kf
 refine af Zb ?_ _
 go_wp2_with fail
 have hA:True:=trivial
 have hB:True:=trivial
 obtain ⟨k1,wZ⟩: ∃k1,k1=min m 8:=⟨_,rfl⟩
 have n1:min (m:Int) 8=(k1:Int):=by omega
 have n2:(k1:Int)<=((c-j:Nat):Int):=by omega
 have n3:k1<=c-j:=by omega
 have n5:(k1:Int)<=(m:Int):=by omega
 have n6:k1<=m:=by omega
 have Aa:=Zh wZ
 clear wZ
 refine ae (fun X=>True) (fun W=>True) 13 rfl ?_
 refine Zp 0 rfl (h:=Zp 1 rfl (h:=Zp 2 rfl (h:=Zp 3 rfl (h:=Zp 4 rfl (h:=Zp 6 rfl (h:=Zp 7 rfl (h:=Zp 8 rfl (h:=Zp 9 rfl (h:=Zp 10 rfl (h:=?_))))))))));try simp only [Zq]
 generalize BS:(if c-j=k1 then (some ⟨g,j,none⟩:Option Addr) else some ⟨g,j+k1,none⟩)=pa
 obtain ⟨off,rfl,JJ⟩: ∃off,pa=some ⟨g,off,none⟩/\(k1<m->off=j+k1):=by
  by_cases e:c-j=k1
  ·rw [if_pos e] at BS
   exact ⟨j,BS.symm,fun h=>by omega⟩
  ·rw [if_neg e] at BS
   exact ⟨_,BS.symm,fun _=>rfl⟩
 clear BS
 have xm: ∀k,k<s.bytes.length->V.cell? (aB g k)=some (.int .u8 (s.bytes.getD k 0:Nat)):=fun k hk=>(yR.out.cell (p:=⟨g,k,none⟩) hg).trans (HC.out k hk)
 have HV:=Zh xm
 clear xm
 refine Zs 5 rfl fun K hK=>?_
 go_simp
 go_at_call 162
 have wZ:=Aa.out
 have N1:=lp g j (c-j) (partL s.bytes j k1) (fg HS.out _ _) (by rw [ey j k1 Za];omega) Za (by rw [ey j k1 Za];omega) V.drew.drew (fun k hk=>by
  rw [ey j k1 Za] at hk
  refine (HV.out (j+k) Za).trans ?_
  unfold byteC
  rw [kM j _ k hk])
 rw [ey j k1 Za] at N1
 refine N1.mono ?_
 rintro e w1 ⟨rfl,rfl⟩
 refine hK _ _ ⟨trivial,fun _=>trivial⟩ ?_
 clear hK K N1 wZ
 refine Zs 11 rfl fun K hK=>?_
 go_simp
 go_at_call 162
 have wZ:=Aa.out
 have yE:(partL s.bytes (j+8) (m-8)).length=m-k1:=by
  by_cases e:m<=8
  ·rw [show m-8=0 by omega]
   simp [partL]
   omega
  ·rw [ey (j+8) (m-8) Za]
   omega
 have N2:=lp g off (c-j-k1) (partL s.bytes (j+8) (m-8)) (fg HS.out _ _) (by rw [yE];omega) Za (by rw [yE];omega) V.drew.drew (fun k hk=>by
  rw [yE] at hk
  have h1:=JJ Za
  subst h1
  refine (HV.out (j+k1+k) Za).trans ?_
  unfold byteC
  rw [kM (j+8) _ k Za,show j+k1+k=j+8+k by omega])
 rw [yE] at N2
 refine N2.mono ?_
 rintro e w1 ⟨rfl,rfl⟩
 refine hK _ _ ⟨trivial,fun _=>trivial⟩ ?_
 clear hK K N2 yE wZ
 rw [show numK (partL s.bytes j k1) 8=rd0 s.bytes j m from by rw [Aa.out];rfl,show numK (partL s.bytes (j+8) (m-8)) 8=rd1 s.bytes j m from rfl]
 generalize Da:rd0 s.bytes j m=r0
 generalize yh:rd1 s.bytes j m=r1
 have Hv:=Zh Da
 have Cq:=Zh yh
 clear Da yh
 refine Zp 12 rfl (h:=?_);try simp only [Zq]
 refine Zs 13 rfl fun K hK=>?_
 refine bD rfl (cG 171 (.tmp 4) (.tmp 29) rfl (W.heap.size+1) 0 #[.int .u64 (r0:Nat),.int .u64 (r1:Nat)] rfl rfl (w:=V.drew.drew) (T:=171) hr Zg ybW ZD ?_)
 intro Z hZ MV _
 refine hK _ _ ⟨trivial,fun _=>trivial⟩ ?_
 refine af Zb ?_ _
 clear hK K
 have z0:Z.cell? ⟨W.heap.size+1,0,none⟩=some (.int .u64 (r0:Nat)):=(aa hZ 0).trans rfl
 have z1:Z.cell? ⟨W.heap.size+1,1,none⟩=some (.int .u64 (r1:Nat)):=(aa hZ 1).trans rfl
 have O3:=Zh (aI yR.out ((Kp.dr (X:=fun b=>b=W.heap.size+1) V).trans ((Kp.dr _).trans MV)) (fun b e=>by omega))
 clear hr hs hZ MV yR HC HS HV
 go_wp2_with fail
 (try simp only [Exit.inBlock,Exit.then]);refine zad (by simp [results,Tryz.results103,go_sem,↓IntWalk.iteOmega,z0,z1];try rfl) rfl ?_
 exact ⟨by rw [Hv.out,Cq.out],O3.out⟩
end Go.Proofs.YtjmfoeajhiimnaaGreatDoor
