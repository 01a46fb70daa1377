/- Walks. No condition. -/
import Derived.Laws.CopyOwn
import Derived.Deep.MidRow
import Derived.Test.YtjmfoeajhiimnaaGreatDoorG34
set_option maxRecDepth 100000
set_option maxHeartbeats 0
set_option linter.all false
namespace Go.Proofs.YtjmfoeajhiimnaaGreatDoor
open Go.RowKit Go.Sort
variable{W:qW}{M:Nat}{tv bv:qV}{size taken:Int}{bytes:List Nat}{ts:List TD}{ks:List TK}
theorem McX.mem(h:McX W M tv bv size taken bytes ts ks): ∃a c,bv= .slice a bytes.length c/\bytes.length<=c/\W.ownsRow (M+1) 5 1 (.slice a bytes.length c) bytes.length (bytes.flatMap aK):=by
 have ho:W.ownsRow (M+1) 5 1 bv bytes.length (bytes.flatMap aK):=h.ob.own ⟨1,5,1,bytes.length,bytes.flatMap aK⟩ (by simp [mcR])
 obtain ⟨a,c,rfl,h1, -, -, -⟩:=aC ho
 exact ⟨a,c,rfl,h1,ho⟩
theorem pH(h:McX W M tv bv size taken bytes ts ks)(a l:Int):qC 101 #[pP M,.agg #[iI a,iI l]] W fun e w'=>e= .returned (.bool (decide (65536<=a)&&withinB a l 65536 bytes.length))/\Below W.heap.size W w':=by
 have hM:=h.ob.lt
 have q1:=h.cells 1
 obtain ⟨ba,c,rfl,hc, -⟩:=h.mem
 have q1:W.cell? (aB M 1)=some (.slice ba bytes.length c):=q1
 have CW:=Zh (fun W=>o8 a l 65536 bytes.length W)
 clear h
 go_enter Tryz.func101,Tryz.ntmps101
 obtain ⟨V,hV⟩: ∃V,V=W.alloc (.cells #[iI a,iI l] 67):=⟨_,rfl⟩
 have yD:Below W.heap.size W V:=by rw [hV];exact ab (zaa _ _) _
 have Kq:V.heap.size=W.heap.size+1:=by rw [hV];simp only [ar]
 have q0: ∀i,V.cell? (aB W.heap.size i)=(#[iI a,iI l]:Array qV)[i]?:=by rw [hV];exact aa (zab _ _)
 have hA:V.drew.cell? (aB W.heap.size 0)=some (iI a)/\V.drew.cell? (aB W.heap.size 1)=some (iI l)/\V.drew.cell? (aB M 1)=some (.slice ba bytes.length c):=⟨q0 0,q0 1,(yD.cell (p:=⟨M,1,none⟩) hM).trans q1⟩
 have hB:True:=trivial
 by_cases h1:65536<=a
 ·go_wp2_with fail
  rw [<-hV]
  refine ae (fun X=>X.cell? (aB W.heap.size 0)=some (iI a)/\X.cell? (aB W.heap.size 1)=some (iI l)/\X.cell? (aB M 1)=some (.slice ba bytes.length c)) (fun W=>True) 13 rfl ?_
  refine Zp 0 rfl (h:=Zt 1 rfl (h:=Zp 2 rfl (h:=?_)));try simp only [Zq]
  refine Zp 3 rfl (h:=Zt 4 rfl (h:=Zp 5 rfl (h:=?_)));try simp only [Zq]
  refine Zp 6 rfl (h:=Zp 7 rfl (h:=Zt 8 rfl (h:=?_)));try simp only [Zq]
  refine Zp 9 rfl (h:=Zp 10 rfl (h:=?_));try simp only [Zq]
  refine eQ 11 rfl Zb (by rfl) (fun K hK=>?_)
  go_simp
  go_at_call 161
  refine (CW.out _).mono ?_
  rintro e w1 ⟨rfl,Av⟩
  have yr:Below V.heap.size V w1:=by rw [hV];exact ⟨Av.os,Av.tape,Av.output,Av.size,Av.block⟩
  have ye:w1.cell? (aB W.heap.size 0)=some (iI a)/\w1.cell? (aB W.heap.size 1)=some (iI l)/\w1.cell? (aB M 1)=some (.slice ba bytes.length c):=⟨(yr.cell (p:=⟨W.heap.size,0,none⟩) (by show W.heap.size<_;omega)).trans hA.1,(yr.cell (p:=⟨W.heap.size,1,none⟩) (by show W.heap.size<_;omega)).trans hA.2.1,(yr.cell (p:=⟨M,1,none⟩) (by show M<_;omega)).trans hA.2.2⟩
  refine hK _ _ ⟨ye,fun _=>trivial⟩ ?_
  clear hK K hA
  have hA:=ye
  refine Zp 12 rfl (h:=?_);try simp only [Zq]
  refine Zs 13 rfl fun K hK=>?_
  go_simp
  refine hK _ _ ⟨hA,fun _=>trivial⟩ ?_
  clear hK K
  refine af Zb ?_ _
  go_wp2_with fail
  go_ret
  exact ⟨by simp [h1],an yD yr Za⟩
 ·have h3:a<65536:=by omega
  have h4:decide (65536<=a)=false:=by simpa using h3
  go_wp2_with fail
  rw [<-hV]
  refine ae (fun X=>X.cell? (aB W.heap.size 0)=some (iI a)/\X.cell? (aB W.heap.size 1)=some (iI l)/\X.cell? (aB M 1)=some (.slice ba bytes.length c)) (fun W=>True) 13 rfl ?_
  refine Zp 0 rfl (h:=Zt 1 rfl (h:=Zp 2 rfl (h:=?_)));try simp only [Zq]
  refine Zp 3 rfl (h:=Zn 4 rfl (h:=?_));try simp only [Zq]
  refine Zn 5 rfl (h:=Zn 6 rfl (h:=?_));try simp only [Zq]
  refine Zn 7 rfl (h:=Zn 8 rfl (h:=?_));try simp only [Zq]
  refine Zn 9 rfl (h:=Zn 10 rfl (h:=?_));try simp only [Zq]
  refine Zn 11 rfl (h:=Zp 12 rfl (h:=?_));try simp only [Zq]
  refine Zs 13 rfl fun K hK=>?_
  go_simp
  refine hK _ _ ⟨by rw [<-hV];exact hA,fun _=>trivial⟩ ?_
  clear hK K
  refine af Zb ?_ _
  go_wp2_with fail
  go_ret
  exact ⟨by simp;omega,by rw [<-hV];exact fI yD⟩
variable{W:qW}{n b gs sc:Nat}{cv pv:qV}{t:TD}
theorem eT{f g:Nat->qV}(h: ∀k,k<40->f k=g k):thC f=thC g:=by
 unfold thC
 congr 1
 apply List.map_congr_left
 intro k hk
 exact h k (List.mem_range.1 hk)
theorem pN(cv sv pv:qV)(t:TD)(e:Int):thC (upd (thF cv sv pv t) 39 (iI e))=thC (thF cv sv pv {t with end_:=e}):=by
 apply eT
 intro k hk
 unfold upd thF
 by_cases h:k=39
 ·subst h
  simp
 ·rw [if_neg h]
  repeat' split
  all_goals first|rfl|omega
theorem MtX.setEnd(h:MtX W n b gs cv pv sc t)(hg:gs≠b)(e:Int):MtX (W.setCell ⟨b,39,none⟩ (iI e)) n b gs cv pv sc {t with end_:=e}/\Kp (fun k=>k=b) W (W.setCell ⟨b,39,none⟩ (iI e)):=by
 have hk:Kp (fun k=>k=b) W (W.setCell ⟨b,39,none⟩ (iI e)):=Kp.set W _ _ _
 have ho:=h.ob.set 39 (iI e) (by simp [thR])
 rw [eg,pN] at ho
 exact ⟨⟨ho,h.sr.kp hk h.sl hg,by have:=hk.size;have:=h.sl;omega,h.sb⟩,hk⟩
theorem ju(h:MtX W n b gs cv pv sc t)(i:Ins)(h1:i.op≠31)(h2:i.op≠32):qC 102 #[pP b,insV i] W fun e w'=>e= .returned (.tuple #[])/\Below W.heap.size W w':=by
 obtain ⟨op,d,m,k,e,sz,imm⟩:=i
 simp only at h1 h2
 unfold insV
 simp only
 have h3:(op==31)=false:=by simpa using h1
 have h4:(op==32)=false:=by simpa using h2
 go_enter Tryz.func102,Tryz.ntmps102
 go_wp2_with fail
 go_end0
 exact ⟨rfl,ab (zaa _ _) _⟩
theorem p6(h:MtX W n b gs cv pv sc t)(hg:gs≠b)(i:Ins)(h1:i.op=31)(h2:i.imm=0):qC 102 #[pP b,insV i] W fun e w'=>e= .returned (.tuple #[])/\MtX w' n b gs cv pv sc {t with end_:=1}/\Kp (fun k=>k=b) W w':=by
 obtain ⟨op,d,m,k,e,sz,imm⟩:=i
 simp only at h1 h2
 subst h1 h2
 unfold insV
 simp only
 have hb:=h.ob.lt
 have q39:W.cell? (aB b 39)=some (iI t.end_):=h.cell 39 Za
 have qf:=ah h.ob.out
 obtain ⟨hm,hk⟩:=h.setEnd hg 1
 have HM:=Zh hm
 have HK:=Zh hk
 clear h hm hk
 go_enter Tryz.func102,Tryz.ntmps102
 go_wp2_with fail
 go_end0
 exact ⟨rfl,HM.out.kp (X:=fun _=>False) ((Kp.refl _ _).alloc _) (fun _ _=>id) id,HK.out.alloc _⟩
variable{W:qW}{n b gs sc:Nat}{cv pv:qV}{t:TD}
theorem bh(f:Nat->qV)(k:Nat)(hk:k<40):fld (thC f) k=f k:=by
 unfold fld
 rw [zaI,cN,if_pos hk]
 rfl
theorem pM(cv sv pv pv':qV)(t:TD)(v:Nat):(thC (thF cv sv pv t)).setIfInBounds 38 pv'=thC (thF cv sv pv' {t with prints:=t.prints++[v]}):=by
 rw [eg]
 apply eT
 intro k hk
 unfold upd thF
 by_cases h:k=38
 ·subst h
  simp
 ·rw [if_neg h]
  repeat' split
  all_goals first|rfl|omega
theorem MtX.app{X W2:qW}{g cap v:Nat}(h:MtX W n b gs cv pv sc t)(hx:Kp (fun _=>False) W X)(xb:X.grownBy W2 pv.ownBlock)(hown:W2.ownsRow (b+1) 52 1 (.slice (aA g) (t.prints.length+1) cap) (t.prints.length+1) (t.prints.flatMap aT++aT v))(xk:pv.ownBlock=some g\/g=X.heap.size)
  (yY: ¬foot b (thC (thF cv (.slice (aA gs) t.sites.length sc) pv t)) (thR t) gs):
  MtX (W2.setCell ⟨b,38,none⟩ (.slice (aA g) (t.prints.length+1) cap)) n b gs cv (.slice (aA g) (t.prints.length+1) cap) sc {t with prints:=t.prints++[v]}/\Kp (foot b (thC (thF cv (.slice (aA gs) t.sites.length sc) pv t)) (thR t)) W (W2.setCell ⟨b,38,none⟩ (.slice (aA g) (t.prints.length+1) cap))/\
   ∀k,foot b (thC (thF cv (.slice (aA gs) t.sites.length sc) (.slice (aA g) (t.prints.length+1) cap) {t with prints:=t.prints++[v]})) (thR {t with prints:=t.prints++[v]}) k->foot b (thC (thF cv (.slice (aA gs) t.sites.length sc) pv t)) (thR t) k\/W.heap.size<=k:=by
 have hf:fld (thC (thF cv (.slice (aA gs) t.sites.length sc) pv t)) 38=pv:=bh _ 38 Za
 obtain ⟨h1,h2,h3⟩:=h.ob.put (r:=⟨38,52,1,t.prints.length,t.prints.flatMap aT⟩) (by simp [thR]) (by simp [dE]) (W2:=W2) (v':= .slice (aA g) (t.prints.length+1) cap) (n':=t.prints.length+1) (xs':=t.prints.flatMap aT++aT v)
  ((hx.mono (fun _ _ e=>e.elim)).trans ((Kp.of_grown xb).mono (fun k _ e=>by rw [hf];exact e.symm))) hown (fun k hk=>by
   rw [hf]
   obtain rfl:g=k:=by simpa [Value.ownBlock] using hk
   have:=hx.size
   rcases xk with e|e
   ·exact .inl e
   ·exact .inr Za)
 have er:(thR t).map (fun q=>if q.ix=38 then {q with n:=t.prints.length+1,xs:=t.prints.flatMap aT++aT v} else q)=thR {t with prints:=t.prints++[v]}:=by
  simp [thR]
 simp only at h1 h2 h3
 rw [pM _ _ _ _ _ v,er] at h1 h3
 exact ⟨⟨h1,h.sr.kp h2 h.sl yY,by have:=h2.size;have:=h.sl;omega,h.sb⟩,h2,h3⟩
theorem ja:(Tryz.prog.info? 52).map (fun i=>(i.zero,i.size,i.bytes))=some (some (.int .u64 0),1,8):=by kernel_rfl
theorem pZ(h:MtX W n b gs cv pv sc t)(yY: ¬foot b (thC (thF cv (.slice (aA gs) t.sites.length sc) pv t)) (thR t) gs)(i:Ins)(h1:i.op=31)(h2:1<=i.imm)(h3:i.imm<=31)(xd:t.prints.length<=1000000):qC 102 #[pP b,insV i] W fun e w'=>e= .returned (.tuple #[])/\ ∃pv',MtX w' n b gs cv pv' sc {t with prints:=t.prints++[t.st.x (i.imm.toNat-1)]}/\Kp (foot b (thC (thF cv (.slice (aA gs) t.sites.length sc) pv t)) (thR t)) W w'/\
   ∀k,foot b (thC (thF cv (.slice (aA gs) t.sites.length sc) pv' {t with prints:=t.prints++[t.st.x (i.imm.toNat-1)]})) (thR {t with prints:=t.prints++[t.st.x (i.imm.toNat-1)]}) k->foot b (thC (thF cv (.slice (aA gs) t.sites.length sc) pv t)) (thR t) k\/W.heap.size<=k:=by
 obtain ⟨op,d,m,k,e,sz,imm⟩:=i
 simp only at h1 h2 h3
 subst h1
 obtain ⟨j,rfl⟩: ∃j:Nat,imm=(j:Int)+1:=⟨(imm-1).toNat,by omega⟩
 simp only [show ((j:Int)+1).toNat-1=j by omega]
 unfold insV
 simp only
 obtain ⟨i0,xF,xx,xu,xq⟩:=zan ja
 have Cb:IntKind.i64.wrap (j:Int)=(j:Int):=aR Za Za
 have GA:j<31:=by omega
 have IJ:(j:Int)<31:=by omega
 have H:=Zh h
 have A6:=h.ob.lt
 have Gh:W.ownsRow (b+1) 52 1 pv t.prints.length (t.prints.flatMap aT):=by
  have:=h.ob.own ⟨38,52,1,t.prints.length,t.prints.flatMap aT⟩ (by simp [thR])
  simp only [bh _ 38 (by omega:38<40)] at this
  exact this
 have CG:pv.ownBlock≠some W.heap.size:=fun e=>by have:=(Gh.lt _ e).2;omega
 clear h Gh
 go_enter Tryz.func102,Tryz.ntmps102
 go_wp2_with fail
 refine aS (R:=fun X=>Below W.heap.size W X/\X.cell? (aB W.heap.size 6)=some (iI ((j:Int)+1))/\W.heap.size<X.heap.size) ⟨ab (zaa _ _) _,(aa (zab _ _) 6).trans rfl,by simp only [ar];omega⟩ ?_
 rintro V ⟨yD,q6,Kq⟩
 have hm:=H.out.kp (Kp.of_below (X:=fun _=>False) yD) (fun _ _=>id) id
 have q38:V.cell? (aB b 38)=some pv:=hm.cell 38 Za
 have qx:V.cell? ⟨b,j+2,none⟩=some (.int .u64 (t.st.x j)):=by rw [hm.st j Za,f_x t.st Za]
 have qx2:V.cell? ⟨b,2+j,none⟩=some (.int .u64 (t.st.x j)):=by rw [Nat.add_comm];exact qx
 have qf:=ah hm.ob.out
 have yi:V.ownsRow (b+1) 52 1 pv t.prints.length (t.prints.flatMap aT):=by
  have:=hm.ob.own ⟨38,52,1,t.prints.length,t.prints.flatMap aT⟩ (by simp [thR])
  simp only [bh _ 38 (by omega:38<40)] at this
  exact this
 have HM:=Zh hm
 have xB:=Zh yi
 have yR:=Zh yD
 have Ar:b<V.heap.size:=by omega
 clear hm yi yD
 have hA:V.drew.cell? (aB W.heap.size 6)=some (iI ((j:Int)+1))/\V.drew.cell? ⟨b,2+j,none⟩=some (.int .u64 (t.st.x j)):=⟨q6,qx2⟩
 have hB:V.drew.cell? (aB b 38)=some pv:=q38
 refine ae (fun X=>X.cell? (aB W.heap.size 6)=some (iI ((j:Int)+1))/\X.cell? ⟨b,2+j,none⟩=some (.int .u64 (t.st.x j))) (fun X=>X.cell? (aB b 38)=some pv) 18 rfl ?_
 refine Zp 0 rfl (h:=Zp 1 rfl (h:=Zp 2 rfl (h:=Zp 3 rfl (h:=Zl 4 [15,18] rfl (h:=Zp 5 rfl (h:=Zp 6 rfl (h:=Zt 7 rfl (h:=Zp 8 rfl (h:=Zp 9 rfl (h:=Zp 10 rfl (h:=Zp 11 rfl (h:=Zp 12 rfl (h:=Zt 13 rfl (h:=?_))))))))))))));try simp only [Zq]
 refine Zs 14 rfl fun K hK=>?_
 go_simp
 refine hK _ _ ⟨⟨(aj Kq).trans q6,(aj Ar).trans qx2⟩,fun _=>(aj Ar).trans q38⟩ ?_
 refine Zs 15 rfl fun K hK=>?_
 refine bf (.tmp 36) (.tmp 46) 51 52 i0 _ 1 8 Tryz.underlying51 xF xx xu xq rfl Zd rfl rfl (b+1) pv t.prints.length (t.prints.flatMap aT) (ax xB.out (fun g hg=>zac _ _ (xB.out.lt g hg).2)) V.heap.size #[.int .u64 (t.st.x j)] 52 (0,0) (zab _ _) ZA ZA rfl ZD Za Za Zc ?_
 intro g2 cap2 w2 hown xb xk xE
 obtain ⟨d1,d2,d3⟩:=HM.out.app (v:=t.st.x j) ((Kp.dr V).trans (Kp.al _ _)) xb hown xk yY
 have D1:=Zh d1
 have D2:=Zh d2
 have D3:=Zh d3
 clear d1 d2 d3
 have wZ:Kp (fun k=>pv.ownBlock=some k) (V.drew.alloc _) w2:=(Kp.of_grown xb).mono (fun k _ e=>e.symm)
 have z6:w2.cell? (aB W.heap.size 6)=some (iI ((j:Int)+1)):=((wZ.cell Zc (fun e=>CG e)).trans (aj Kq)).trans q6
 have zx:w2.cell? ⟨b,2+j,none⟩=some (.int .u64 (t.st.x j)):=((wZ.cell Zc (fun e=>by have:=(xB.out.lt _ e).1;omega)).trans (aj Ar)).trans qx2
 have z38:w2.cell? (aB b 38)=some pv:=((wZ.cell Zc (fun e=>by have:=(xB.out.lt _ e).1;omega)).trans (aj Ar)).trans q38
 have zf: ∀i,w2.frozen? (aB b i)=false:=ah ((wZ.block b Zc (fun e=>by have:=(xB.out.lt _ e).1;omega)).trans ((zac _ _ Ar).trans HM.out.ob.out))
 clear hown xb xk wZ
 refine hK _ _ ⟨⟨z6,zx⟩,fun _=>z38⟩ ?_
 clear hK K hA hB
 have hA:w2.cell? (aB W.heap.size 6)=some (iI ((j:Int)+1))/\w2.cell? ⟨b,2+j,none⟩=some (.int .u64 (t.st.x j)):=⟨z6,zx⟩
 have hB:w2.cell? (aB b 38)=some pv:=z38
 refine Zp 16 rfl (h:=Zp 17 rfl (h:=?_));try simp only [Zq]
 refine Zs 18 rfl fun K hK=>?_
 go_simp
 refine hK _ _ ⟨⟨(zaH _ _ _ _ (fun e=>by have:=congrArg Addr.block e;simp only at this;omega)).trans z6,(zaH _ _ _ _ (fun e=>by have:=congrArg Addr.off e;simp only at this;omega)).trans zx⟩,fun hh=>Bool.noConfusion (hh.symm.trans (show _=true by kernel_rfl))⟩ ?_
 refine af Zb ?_ _
 go_wp2_with fail
 go_end0
 refine ⟨rfl,_,D1.out,((Kp.of_below (X:=_) yR.out)).trans D2.out,fun k hk=>?_⟩
 rcases D3.out k hk with e|e
 ·exact .inl e
 ·exact .inr Za
variable{W:qW}{M:Nat}{tv bv:qV}{size taken:Int}{bytes:List Nat}{ts:List TD}{ks:List TK}
theorem aX{α:Type}{l:List α}{n m:Nat}{x y:α}(h:(l.set n x)[m]?=some y):(m=n/\y=x)\/(m≠n/\l[m]?=some y):=by
 by_cases e:m=n
 ·subst e
  rw [List.getElem?_set] at h
  simp at h
  exact .inl ⟨rfl,h.2.symm⟩
 ·rw [List.getElem?_set_ne (fun h=>e h.symm)] at h
  exact .inr ⟨e,h⟩
theorem kw(ks:List TK): ∀(n:Nat) (q q':TK),ks[n]?=some q->q'.b=q.b->(ks.set n q').flatMap (fun q=>[Value.pointer (aA q.b)])=ks.flatMap (fun q=>[Value.pointer (aA q.b)]):=by
 induction ks with
 |nil=>intro n q q' h;simp at h
 |cons k ks ih=>
  intro n q q' h e
  cases n with
  |zero=>
   simp at h
   subst h
   simp [e]
  |succ n=>
   simp at h
   simp only [List.set_cons_succ,zaf]
   rw [ih n q q' h e]
theorem McX.turn(h:McX W M tv bv size taken bytes ts ks){n:Nat}{q:TK}{t t':TD}{pv':qV}{W':qW}(hq:ks[n]?=some q)(ht:ts[n]?=some t)(hm:MtX W' n q.b q.gs q.cv pv' q.sc t')(hk:Kp (q.foot t) W W')(hr: ∀b,({q with pv:=pv'}:TK).foot t' b->q.foot t b\/W.heap.size<=b):
  McX W' M tv bv size taken bytes (ts.set n t') (ks.set n {q with pv:=pv'}):=by
 have hR:mcR (ks.set n {q with pv:=pv'}) bytes=mcR ks bytes:=by
  unfold mcR
  rw [kw ks n q {q with pv:=pv'} hq rfl,List.length_set]
 have Kt: ∀b,foot M (mcC tv bv size taken) (mcR ks bytes) b->b<W.heap.size:=fun b hb=>(h.ob.foot_lt hb).2
 have xe: ∀(m:Nat) (p:TK) (u:TD),ks[m]?=some p->ts[m]?=some u-> ∀b,p.foot u b->b<W.heap.size:=fun m p u hp hu b hb=>((h.th m p u hp hu).ob.foot_lt hb).2
 refine ⟨by simp [h.len],?_,?_,?_,?_,?_,?_⟩
 ·rw [hR]
  exact h.ob.kp hk (fun k hf hx=>(h.mp n q t hq ht).1 k hf hx)
 ·intro m p u hp hu
  rcases aX hp with ⟨rfl,rfl⟩|⟨hne,hp⟩
  ·rcases aX hu with ⟨-,rfl⟩|⟨hne, -⟩
   ·exact hm
   ·exact absurd rfl hne
  ·rcases aX hu with ⟨rfl, -⟩|⟨-,hu⟩
   ·exact absurd rfl hne
   ·exact (h.th m p u hp hu).kp hk (fun k hf hx=>h.ap m p u n q t hp hu hq ht hne k hf hx) (h.gp n q t m p u hq ht hp hu)
 ·intro m p u hp hu
  rcases aX hp with ⟨rfl,rfl⟩|⟨hne,hp⟩
  ·exact h.lo m q t hq ht
  ·rcases aX hu with ⟨rfl, -⟩|⟨-,hu⟩
   ·exact absurd rfl hne
   ·exact h.lo m p u hp hu
 ·intro m p u l r v hp hu Db hv hne b hb xA
  rcases aX hp with ⟨e1,e2⟩|⟨Fo,zq⟩
  ·rcases aX hu with ⟨-,e3⟩|⟨hc, -⟩
   ·rcases aX Db with ⟨e, -⟩|⟨-,yh⟩
    ·exact hne (e1.trans e.symm)
    ·rcases aX hv with ⟨e, -⟩|⟨-,zm⟩
     ·exact hne (e1.trans e.symm)
     ·rw [e2,e3] at hb
      rcases hr b hb with e|e
      ·exact h.ap n q t l r v hq ht yh zm (e1 ▸ hne) b e xA
      ·have:=xe l r v yh zm b xA
       omega
   ·exact hc e1
  ·rcases aX hu with ⟨e, -⟩|⟨-,yJ⟩
   ·exact Fo e
   ·rcases aX Db with ⟨e1,e2⟩|⟨zV,yh⟩
    ·rcases aX hv with ⟨-,e3⟩|⟨hc, -⟩
     ·rw [e2,e3] at xA
      rcases hr b xA with e|e
      ·exact h.ap m p u n q t zq yJ hq ht Fo b hb e
      ·have:=xe m p u zq yJ b hb
       omega
     ·exact hc e1
    ·rcases aX hv with ⟨e, -⟩|⟨-,zm⟩
     ·exact zV e
     ·exact h.ap m p u l r v zq yJ yh zm hne b hb xA
 ·intro m p u l r v hp hu Db hv hb
  have yY:r.gs=r.gs:=rfl
  obtain ⟨r0,v0,Da,Jw,Kc⟩: ∃r0 v0,ks[l]?=some r0/\ts[l]?=some v0/\r.gs=r0.gs:=by
   rcases aX Db with ⟨rfl,rfl⟩|⟨zV,Db⟩
   ·exact ⟨q,t,hq,ht,rfl⟩
   ·rcases aX hv with ⟨e, -⟩|⟨-,hv⟩
    ·exact absurd e zV
    ·exact ⟨r,v,Db,hv,rfl⟩
  rw [Kc] at hb
  rcases aX hp with ⟨rfl,rfl⟩|⟨Fo,hp⟩
  ·rcases aX hu with ⟨-,rfl⟩|⟨hc, -⟩
   ·rcases hr _ hb with e|e
    ·exact h.gp m q t l r0 v0 hq ht Da Jw e
    ·have:=(h.th l r0 v0 Da Jw).sl
     omega
   ·exact hc rfl
  ·rcases aX hu with ⟨e, -⟩|⟨-,hu⟩
   ·exact Fo e
   ·exact h.gp m p u l r0 v0 hp hu Da Jw hb
 ·intro m p u hp hu
  rw [hR]
  rcases aX hp with ⟨rfl,rfl⟩|⟨Fo,hp⟩
  ·rcases aX hu with ⟨-,rfl⟩|⟨hc, -⟩
   ·refine ⟨fun b hb xA=>?_,(h.mp m q t hq ht).2⟩
    rcases hr b xA with e|e
    ·exact (h.mp m q t hq ht).1 b hb e
    ·have:=Kt b hb
     omega
   ·exact absurd rfl hc
  ·rcases aX hu with ⟨e, -⟩|⟨-,hu⟩
   ·exact absurd e Fo
   ·exact h.mp m p u hp hu
structure MSt where
 size:Int
 taken:Int
 bytes:List Nat
 ts:List TD
def thereM(l:List Nat)(a m:Int):Bool:=decide (65536<=a)&&withinB a m 65536 l.length
def partL(l:List Nat)(j m:Nat):List Nat:=(l.drop j).take m
def rd0(l:List Nat)(j m:Nat):Nat:=numK (partL l j (min m 8)) 8
def rd1(l:List Nat)(j m:Nat):Nat:=numK (partL l (j+8) (m-8)) 8
def putBy(l:List Nat)(j x m:Nat):List Nat:=splice l j ((List.range m).map (byteN x))
def wrM(l:List Nat)(j m d0 d1:Nat):List Nat:=putBy (putBy l j d0 (min m 8)) (j+8) d1 (m-8)
def clrW(a m:Int)(t:TD):TD:=if meetsB t.st.wa t.st.wl a m then {t with st:={t.st with wa:=0,wl:=0}} else t
def othM(n:Nat)(a m:Int)(k:Nat)(ts:List TD):List TD:=ts.mapIdx (fun i t=>if i<k/\i≠n then clrW a m t else t)
def stopT(t:TD)(i:Ins):Option TD:=
 if i.op=32 then some {t with end_:=2}
 else if i.op=31 then (if i.imm=0 then some {t with end_:=1} else if 1<=i.imm/\i.imm<=31/\t.prints.length<=1000000 then some {t with prints:=t.prints++[t.st.x (i.imm.toNat-1)]} else none)
 else some t
def memM(s:MSt)(n:Nat)(t:TD)(i:Ins)(fail:Bool):Option MSt:=
 let a:=spanA t.st i
 let m:=lenI i
 let j:=(a-65536).toNat
 if thereM s.bytes a m then
  if wrB i.op then
   let done:=!exB i.op||(!fail&&(t.st.wa==a&&t.st.wl==m))
   if done then some {s with bytes:=wrM s.bytes j m.toNat (bq t.st i).toNat (bw t.st i).toNat,ts:=(othM n a m s.ts.length s.ts).set n {t with st:=nextS t.st i 0 0 true}}
   else some {s with ts:=s.ts.set n {t with st:=nextS t.st i 0 0 false}}
  else some {s with ts:=s.ts.set n {t with st:=nextS t.st i (rd0 s.bytes j m.toNat) (rd1 s.bytes j m.toNat) true}}
 else none
def mStep(s:MSt)(n:Nat)(fail:Bool):Option MSt:=
 s.ts[n]?.bind fun t=>
 if t.end_≠0 then some s
 else if t.st.pc<0 then none
 else t.code[t.st.pc.toNat]?.bind fun i=>
  if (enc i).isSome then
   if meB i.op then memM s n t i fail
   else (stopT t i).map fun t1=>{s with ts:=s.ts.set n {t1 with st:=nextS t.st i 0 0 false}}
  else none
structure TD.ok(t:TD):Prop where
 st:t.st.ok
 code: ∀i∈t.code,i.rng
 clen:t.code.length<=100000
 sl:t.sites.length=t.code.length
 np: ∀i∈t.code,paB i.op=false
structure MSt.ok(s:MSt):Prop where
 th: ∀t∈s.ts,t.ok
 n1:1<=s.ts.length
 n8:s.ts.length<=8
 bl:s.bytes.length<=1000000
 sm:Small s.bytes
 sz:0<=s.size/\s.size<=s.bytes.length
def mfoot(M:Nat)(tv bv:qV)(size taken:Int)(bytes:List Nat)(ts:List TD)(ks:List TK)(k:Nat):Prop:=
 foot M (mcC tv bv size taken) (mcR ks bytes) k\/ ∃(n:Nat) (q:TK) (t:TD),ks[n]?=some q/\ts[n]?=some t/\(q.foot t k\/k=q.gs)
structure MacAt(W:qW)(M:Nat)(F:Nat->Prop)(bs:List Nat)(s:MSt):Prop where
 ok:s.ok
 lt: ∀k,F k->M<=k/\k<W.heap.size
 at_: ∃tv bv ks,ks.map TK.b=bs/\McX W M tv bv s.size s.taken s.bytes s.ts ks/\ ∀k,mfoot M tv bv s.size s.taken s.bytes s.ts ks k->F k
def grw(F:Nat->Prop)(W W':qW)(k:Nat):Prop:=F k\/(W.heap.size<=k/\k<W'.heap.size)
theorem MacAt.kp{X:Nat->Prop}{W W':qW}{M:Nat}{F:Nat->Prop}{bs:List Nat}{s:MSt}(h:MacAt W M F bs s)(hk:Kp X W W')(hX: ∀k,F k-> ¬X k):MacAt W' M F bs s:=by
 obtain ⟨tv,bv,ks,hb,hm,hf⟩:=h.at_
 refine ⟨h.ok,fun k wZ=>⟨(h.lt k wZ).1,zar (h.lt k wZ).2 hk.size⟩,tv,bv,ks,hb,⟨hm.len,hm.ob.kp hk (fun k wZ=>hX k (hf k (.inl wZ))),fun n q t hq ht=>(hm.th n q t hq ht).kp hk (fun k wZ=>hX k (hf k (.inr ⟨n,q,t,hq,ht,.inl wZ⟩))) (hX _ (hf _ (.inr ⟨n,q,t,hq,ht,.inr rfl⟩))),hm.lo,hm.ap,hm.gp,hm.mp⟩,hf⟩
theorem MacAt.below{W W':qW}{M:Nat}{F:Nat->Prop}{bs:List Nat}{s:MSt}(h:MacAt W M F bs s)(hk:Below W.heap.size W W'):MacAt W' M F bs s:=h.kp (Kp.of_below (X:=fun _=>False) hk) (fun _ _=>id)
theorem MacAt.wide{W:qW}{M:Nat}{F G:Nat->Prop}{bs:List Nat}{s:MSt}(h:MacAt W M F bs s)(hg: ∀k,F k->G k)(hl: ∀k,G k->M<=k/\k<W.heap.size):MacAt W M G bs s:=by
 obtain ⟨tv,bv,ks,hb,hm,hf⟩:=h.at_
 exact ⟨h.ok,hl,tv,bv,ks,hb,hm,fun k hk=>hg k (hf k hk)⟩
structure MacD(W:qW)(M:Nat)(F:Nat->Prop)(bs:List Nat)(s':MSt)(W':qW):Prop where
 mac:MacAt W' M (grw F W W') bs s'
 kp:Kp F W W'
 row:W'.cell? (aB M 0)=W.cell? (aB M 0)
theorem dp{W W':qW}{M:Nat}{F:Nat->Prop}(h: ∀k,F k->M<=k/\k<W.heap.size)(hM:M<W.heap.size)(hs:W.heap.size<=W'.heap.size): ∀k,grw F W W' k->M<=k/\k<W'.heap.size:=fun k hk=>by
 rcases hk with hk|⟨h1,h2⟩
 ·have:=h k hk
  omega
 ·omega
theorem MacAt.M_lt{W:qW}{M:Nat}{F:Nat->Prop}{bs:List Nat}{s:MSt}(h:MacAt W M F bs s):M<W.heap.size:=by
 obtain ⟨tv,bv,ks,hb,hm,hf⟩:=h.at_
 exact hm.ob.lt
theorem MacAt.same{W W':qW}{M:Nat}{F:Nat->Prop}{bs:List Nat}{s:MSt}(h:MacAt W M F bs s)(hk:Below W.heap.size W W'):MacD W M F bs s W':=
 ⟨(h.below hk).wide (fun k hk=> .inl hk) (dp h.lt h.M_lt hk.size),Kp.of_below hk,hk.cell (p:=⟨M,0,none⟩) h.M_lt⟩
theorem MacD.next{W W1 W2:qW}{M:Nat}{F:Nat->Prop}{bs:List Nat}{s1 s2:MSt}(h0: ∀k,F k->M<=k/\k<W.heap.size)(hM:M<W.heap.size)(h:MacD W M F bs s1 W1)(k:MacD W1 M (grw F W W1) bs s2 W2):MacD W M F bs s2 W2:=by
 refine ⟨k.mac.wide (fun i hi=>?_) (dp h0 hM (zal h.kp.size k.kp.size)),h.kp.next k.kp (fun i hi hg=>?_),k.row.trans h.row⟩
 ·have:=h.kp.size
  have:=k.kp.size
  rcases hi with (hi|⟨h1,h2⟩)|⟨h1,h2⟩
  ·exact .inl hi
  ·exact .inr ⟨h1,by omega⟩
  ·exact .inr ⟨by omega,h2⟩
 ·rcases hg with hg|⟨h1,h2⟩
  ·exact hg
  ·omega
theorem MacD.more{W W1 W2:qW}{M:Nat}{F:Nat->Prop}{bs:List Nat}{s1:MSt}(h:MacD W M F bs s1 W1)(hk:Below W1.heap.size W1 W2):MacD W M F bs s1 W2:=
 ⟨(h.mac.below hk).wide (fun k wZ=>by
   rcases wZ with h1|⟨h1,h2⟩
   ·exact .inl h1
   ·exact .inr ⟨h1,zar h2 hk.size⟩) (fun k wZ=>by
   have hs:=hk.size
   have hz:=h.kp.size
   rcases wZ with h1|⟨h1,h2⟩
   ·have:=h.mac.lt k (.inl h1)
    omega
   ·have:=h.mac.M_lt
    by_cases hl:k<W1.heap.size
    ·have:=h.mac.lt k (.inr ⟨h1,hl⟩)
     omega
    ·omega),h.kp.next (Kp.of_below (X:=fun _=>False) hk) (fun _ _=>False.elim),(hk.cell (p:=⟨M,0,none⟩) h.mac.M_lt).trans h.row⟩
theorem MacD.ahead{W W1 W2:qW}{M:Nat}{F:Nat->Prop}{bs:List Nat}{s1:MSt}(h0: ∀k,F k->M<=k/\k<W.heap.size)(hM:M<W.heap.size)(hk:Below W.heap.size W W1)(h:MacD W1 M F bs s1 W2):MacD W M F bs s1 W2:=
 ⟨h.mac.wide (fun k wZ=>by
   rcases wZ with h1|⟨h1,h2⟩
   ·exact .inl h1
   ·have:=hk.size
    exact .inr ⟨by omega,h2⟩) (dp h0 hM (zal hk.size h.kp.size)),(Kp.of_below (X:=F) hk).trans h.kp,h.row.trans (hk.cell (p:=⟨M,0,none⟩) hM)⟩
theorem MacAt.th{W:qW}{M n b:Nat}{F:Nat->Prop}{bs:List Nat}{s:MSt}{t:TD}(h:MacAt W M F bs s)(hb:bs[n]?=some b)(ht:s.ts[n]?=some t):
  ∃cv pv gs sc,MtX W n b gs cv pv sc t/\M<b/\(∀k,foot b (thC (thF cv (.slice (aA gs) t.sites.length sc) pv t)) (thR t) k->F k)/\F gs/\ ¬foot b (thC (thF cv (.slice (aA gs) t.sites.length sc) pv t)) (thR t) gs/\
   ∀t' W' pv',t'.ok->MtX W' n b gs cv pv' sc t'->(∀k,foot b (thC (thF cv (.slice (aA gs) t'.sites.length sc) pv' t')) (thR t') k->foot b (thC (thF cv (.slice (aA gs) t.sites.length sc) pv t)) (thR t) k\/W.heap.size<=k)->
    Kp (foot b (thC (thF cv (.slice (aA gs) t.sites.length sc) pv t)) (thR t)) W W'->MacD W M F bs {s with ts:=s.ts.set n t'} W':=by
 obtain ⟨tv,bv,ks,zG,hm,hf⟩:=h.at_
 have hk:(ks.map TK.b)[n]?=some b:=by rw [zG];exact hb
 rw [zaj] at hk
 obtain ⟨q,hq,rfl⟩: ∃q,ks[n]?=some q/\q.b=b:=by
  cases hq:ks[n]? with
  |none=>rw [hq] at hk;simp at hk
  |some q=>rw [hq] at hk;exact ⟨q,rfl,by simpa using hk⟩
 refine ⟨q.cv,q.pv,q.gs,q.sc,hm.th n q t hq ht,(hm.lo n q t hq ht).1,fun k hk=>hf k (.inr ⟨n,q,t,hq,ht,.inl hk⟩),hf _ (.inr ⟨n,q,t,hq,ht,.inr rfl⟩),hm.gp n q t n q t hq ht hq ht,fun t' W' pv' JI hx hr xp=>?_⟩
 have Oy:Kp F W W':=xp.mono (fun k _ hk=>hf k (.inr ⟨n,q,t,hq,ht,.inl hk⟩))
 have hM:=hm.ob.lt
 have hn:=(List.getElem?_eq_some_iff.1 hq).1
 refine ⟨⟨⟨fun u hu=>?_,by simpa using h.ok.n1,by simpa using h.ok.n8,h.ok.bl,h.ok.sm,h.ok.sz⟩,dp h.lt hM xp.size,tv,bv,ks.set n {q with pv:=pv'},?_,hm.turn hq ht hx xp hr,fun k wZ=>?_⟩,Oy,xp.cell hM ((hm.mp n q t hq ht).1 M (.inl rfl))⟩
 ·rcases List.mem_or_eq_of_mem_set hu with h1|h1
  ·exact h.ok.th u h1
  ·exact h1 ▸ JI
 ·rw [<-zG]
  apply List.ext_getElem?
  intro i
  rw [zaj,zaj,List.getElem?_set]
  split
  ·rename_i e
   subst e
   rw [hq]
   rfl
  ·rfl
 ·have hR:mcR (ks.set n {q with pv:=pv'}) s.bytes=mcR ks s.bytes:=by
   unfold mcR
   rw [kw ks n q {q with pv:=pv'} hq rfl,List.length_set]
  rcases wZ with wZ|⟨m,p,u,hp,hu,wZ⟩
  ·rw [hR] at wZ
   exact .inl (hf k (.inl wZ))
  ·rcases aX hp with ⟨rfl,rfl⟩|⟨hne,zq⟩
   ·rcases aX hu with ⟨-,rfl⟩|⟨hc, -⟩
    ·rcases wZ with wZ|wZ
     ·rcases hr k wZ with e|e
      ·exact .inl (hf k (.inr ⟨m,q,t,hq,ht,.inl e⟩))
      ·exact .inr ⟨e,(hx.ob.foot_lt wZ).2⟩
     ·exact .inl (hf k (.inr ⟨m,q,t,hq,ht,.inr wZ⟩))
    ·exact absurd rfl hc
   ·rcases aX hu with ⟨e, -⟩|⟨-,yJ⟩
    ·exact absurd e hne
    ·exact .inl (hf k (.inr ⟨m,p,u,zq,yJ,wZ⟩))
theorem MacAt.at_call{W:qW}{M n b:Nat}{F:Nat->Prop}{bs:List Nat}{s:MSt}{t:TD}(h:MacAt W M F bs s)(hb:bs[n]?=some b)(ht:s.ts[n]?=some t):qC 33 #[pP M,iI n] W fun e w'=>e= .returned (pP b)/\w'=W:=by
 obtain ⟨tv,bv,ks,zG,hm,hf⟩:=h.at_
 have hk:(ks.map TK.b)[n]?=some b:=by rw [zG];exact hb
 rw [zaj] at hk
 obtain ⟨q,hq,rfl⟩: ∃q,ks[n]?=some q/\q.b=b:=by
  cases hq:ks[n]? with
  |none=>rw [hq] at hk;simp at hk
  |some q=>rw [hq] at hk;exact ⟨q,rfl,by simpa using hk⟩
 exact yfa hm n q hq
section
variable{P:Program}{ops:Array Oper}{Q:Exit->Act->qW->Prop}{md:Region.Mode}
structure TwoNew(w:qW)(bi bj:Nat)(oi oj:Obj)(w':qW):Prop where
 bel:Below w.heap.size w w'
 size:w'.heap.size=w.heap.size+2
 ne:bi≠bj
 i1:w.heap.size<=bi/\bi<w'.heap.size
 j1:w.heap.size<=bj/\bj<w'.heap.size
 hi:w'.heap[bi]?=some oi
 hj:w'.heap[bj]?=some oj
theorem tI(a:Act)(x y:Nat)(u v:qV)(h:x≠y):(a.put (some x) u).put (some y) v=(a.put (some y) v).put (some x) u:=by
 unfold Act.put
 simp only
 rw [Array.setIfInBounds_comm _ _ h]
theorem eP{op:Oper}{a:Act}{w:qW}{K:Act->qW->Prop}{T:TypeId}{cs:Array qV}(ho:op.op= .alloc T)(hz: ∀w,(zeroValue T).run P w= .ok (.agg cs) w)
  (h:K (a.put op.dst (pP w.heap.size)) (w.alloc (.cells cs T))):op.wp P a w K Q:=by
 unfold Oper.wp execOp
 simp only [ho,Instr.alloc,newVar,Sem.run_bind,Sem.run_pure,Result.andThen_ok,hz]
 exact h
theorem iU{A B:qW->Prop}{L:Nat}(i j:Nat){oi oj:Oper}{Ti Tj:TypeId}{ci cj:Array qV}{xi xj:Nat}{fuel:Nat}{listed:Array Bool}{a:Act}{w:qW}
  (hi:ops[i]?=some oi) (hj:ops[j]?=some oj) (LI:oi.op= .alloc Ti) (CD:oj.op= .alloc Tj) (EJ:oi.guard=none) (L4:oj.guard=none) (Me:oi.dst=some xi) (Md:oj.dst=some xj) (hx:xi≠xj)
  (hr:Region.ready md ops listed=[i,j]) (Ak:Region.ready md ops (listed.setIfInBounds i true)=[j]) (LA:Region.ready md ops (listed.setIfInBounds j true)=[i]) (Ao:i≠j)
  (Lf: ∀w,(zeroValue Ti).run P w= .ok (.agg ci) w) (Le: ∀w,(zeroValue Tj).run P w= .ok (.agg cj) w)
  (hA: ∀w',Below w.heap.size w w'->A w') (hB: ∀w',Below w.heap.size w w'->B w')
  (h: ∀bi bj w',TwoNew w bi bj (.cells ci Ti) (.cells cj Tj) w'->wpAnyG P md ops Q (fun l w=>A w/\(l.getD L false=false->B w)) fuel ((listed.setIfInBounds i true).setIfInBounds j true) ((a.put (some xi) (pP bi)).put (some xj) (pP bj)) w'):
  wpAnyG P md ops Q (fun l w=>A w/\(l.getD L false=false->B w)) (fuel+2) listed a w:=by
 have b1: ∀o,Below w.heap.size w (w.alloc o):=fun o=>ab (zaa _ _) o
 have b2: ∀o p,Below w.heap.size w ((w.alloc o).alloc p):=fun o p=>ab (b1 o) p
 have gi:Region.wanted oi (yielded ops a.tmps)=true:=by simp [Region.wanted,EJ]
 have gj:Region.wanted oj (yielded ops a.tmps)=true:=by simp [Region.wanted,L4]
 have sz: ∀o p,((w.alloc o).alloc p).heap.size=w.heap.size+2:=fun o p=>by simp only [ar]
 have sp: ∀l w',Below w.heap.size w w'->A w'/\(l->B w'):=fun l w' hb=>⟨hA w' hb,fun _=>hB w' hb⟩
 refine ⟨fun h0=>(by rw [hr] at h0;cases h0),fun k hk=>?_⟩
 rw [hr] at hk
 simp only [zaM,zaN,or_false] at hk
 rcases hk with rfl|rfl
 ·unfold wpOp
  simp only [hi,gi,if_true]
  refine .inl (eP LI Lf ⟨sp _ _ (b1 _),fun h0=>(by rw [Ak] at h0;cases h0),fun m hm=>?_⟩)
  rw [Ak] at hm
  obtain rfl:m=j:=by simpa using hm
  unfold wpOp
  have gj2: ∀b:Act,Region.wanted oj (yielded ops b.tmps)=true:=fun b=>by simp [Region.wanted,L4]
  simp only [hj,gj2,if_true]
  refine .inl (eP CD Le ⟨sp _ _ (b2 _ _),?_⟩)
  rw [Me,Md]
  exact h _ _ _ ⟨b2 _ _,sz _ _,by simp only [ar];omega,by rw [sz];omega,by rw [sz];simp only [ar];omega,(zac _ _ ZF).trans (zab _ _),zab _ _⟩
 ·unfold wpOp
  simp only [hj,gj,if_true]
  refine .inl (eP CD Le ⟨sp _ _ (b1 _),fun h0=>(by rw [LA] at h0;cases h0),fun m hm=>?_⟩)
  rw [LA] at hm
  obtain rfl:m=i:=by simpa using hm
  unfold wpOp
  have gi2: ∀b:Act,Region.wanted oi (yielded ops b.tmps)=true:=fun b=>by simp [Region.wanted,EJ]
  simp only [hi,gi2,if_true]
  refine .inl (eP LI Lf ⟨sp _ _ (b2 _ _),?_⟩)
  rw [Me,Md,tI _ _ _ _ _ (fun e=>hx e.symm),Array.setIfInBounds_comm _ _ (fun e=>Ao e.symm)]
  exact h _ _ _ ⟨b2 _ _,sz _ _,by simp only [ar];omega,by rw [sz];simp only [ar];omega,by rw [sz];omega,zab _ _,(zac _ _ ZF).trans (zab _ _)⟩
end
def setL(cs:Array qV):Nat->List qV->Array qV
 |_,[]=>cs
 |o,v::vs=>setL (cs.setIfInBounds o v) (o+1) vs
theorem jO(b:Nat): ∀(vs:List qV) (o:Nat) (w:qW),Kp (fun k=>k=b) w (w.setCells b o vs)
 |[],o,w=>Kp.refl _ _
 |v::vs,o,w=>(Kp.set w b o v).trans (jO b vs (o+1) _)
theorem jQ(b:Nat)(t:TypeId): ∀(vs:List qV) (o:Nat) (w:qW) (cs:Array qV),w.heap[b]?=some (.cells cs t (0,0))->(w.setCells b o vs).heap[b]?=some (.cells (setL cs o vs) t (0,0))
 |[],o,w,cs,h=>h
 |v::vs,o,w,cs,h=>jQ b t vs (o+1) _ _ (aJ h v)
theorem bD{c:Bool}{X E:Prop}(h:c=true)(k:X):if c=true then X else E:=by
 rw [if_pos h]
 exact k
theorem jN(b:Nat): ∀(vs:List qV) (o:Nat) (w:qW),(w.setCells b o vs).heap.size=w.heap.size
 |[],o,w=>rfl
 |v::vs,o,w=>by
  rw [World.setCells,jN b vs (o+1)]
  simp [World.setCell]
theorem cG{P:Program}{op:Oper}{a:Act}{w:qW}{K:Act->qW->Prop}{Q:Exit->Act->qW->Prop}(ty:TypeId)(x y:Operand)(ho:op.op= .store ty x y)
  (b o:Nat) (cells:Array qV) (hx:a.eval x= .pointer (some ⟨b,o,none⟩)) (hy:a.eval y= .agg cells) {cs:Array qV} {T:TypeId} (hb:w.heap[b]?=some (.cells cs T (0,0)))
  (hl:o+cells.size<=cs.size) (hi:(P.info? ty).map (·.size)=some cells.size) (h1:cells.all (·.oneCell')=true)
  (h: ∀w',w'.heap[b]?=some (.cells (setL cs o cells.toList) T (0,0))->Kp (fun k=>k=b) w w'->w'.heap.size=w.heap.size->K (a.put op.dst undef) w'):op.wp P a w K Q:=
 wp_store_mid ty x y ho b o cells hx hy (fun j hj=>⟨by rw [aa hb,zav Za];rfl,ah hb _⟩) hi h1 (h _ (jQ b T _ o w cs hb) (jO b _ o w) (jN b _ o w))
theorem sC{P:Program}(w:qW)(b o:Nat)(ty:TypeId)(v:qV)(hv:v.cells=#[v])(h1:v.oneCell'=true)(hc:(w.cell? (aB b o)).isSome=true)(hf:w.frozen? (aB b o)=false)(hi:(P.info? ty).map (·.size)=some 1):
  (Instr.storeAt ty (.pointer (some ⟨b,o,none⟩)) v).run P w= .ok () (w.setCell ⟨b,o,none⟩ v):=by
 have:=run_storeCells_cells (P:=P) b o [v] 0 w (fun j hj=>by
  have:j=0:=by simpa using hj
  subst this
  simpa using hc) (fun j hj=>by
  have:j=0:=by simpa using hj
  subst this
  simpa using hf) (fun u hu=>by
  have:u=v:=by simpa using hu
  rw [this]
  exact h1)
 cases hq:P.info? ty with
 |none=>simp [hq] at hi
 |some i=>
  have hs:i.size=1:=by simpa [hq] using hi
  simp only [Nat.add_zero] at this
  simp [Instr.storeAt,Instr.sureAddr,storeVar,sizeOf,typeInfo,hq,hv,hs,this,World.setCells]
theorem dC{P:Program}{op:Oper}{a:Act}{w:qW}{K:Act->qW->Prop}{Q:Exit->Act->qW->Prop}(ty:TypeId)(x y:Operand)(ho:op.op= .store ty x y)
  (b o:Nat) (v:qV) (hx:a.eval x= .pointer (some ⟨b,o,none⟩)) (hy:a.eval y=v) {cs:Array qV} {T:TypeId} (hb:w.heap[b]?=some (.cells cs T (0,0)))
  (hl:o<cs.size) (hv:v.cells=#[v]) (h1:v.oneCell'=true) (hi:(P.info? ty).map (·.size)=some 1)
  (h: ∀w',w'.heap[b]?=some (.cells (cs.setIfInBounds o v) T (0,0))->Kp (fun k=>k=b) w w'->w'.heap.size=w.heap.size->K (a.put op.dst undef) w'):op.wp P a w K Q:=by
 unfold Oper.wp execOp
 simp only [ho,hx,hy,Sem.run_bind,Sem.run_pure,Result.andThen_ok,sC w b o ty v hv h1 (by rw [aa hb,zav hl];rfl) (ah hb _) hi]
 exact h _ (aJ hb v) (Kp.set w b o v) (by simp [World.setCell])
end Go.Proofs.YtjmfoeajhiimnaaGreatDoor
