/- Walks. No condition. -/
import Derived.Laws.CopyOwn
import Derived.Test.YtcekjfmfcefjpaaGreatDoorG41
set_option maxRecDepth 100000
set_option maxHeartbeats 0
set_option linter.all false
namespace Go.Proofs.YtcekjfmfcefjpaaGreatDoor
open Go.RowKit Go.Sort
variable{W:qW}{M:Nat}{tv bv:qV}{size taken:Int}{bytes:List Nat}{ts:List TD}{ks:List TK}
theorem fy{α:Type}(f:α->qV): ∀(l:List α) (n:Nat) (x:α),l[n]?=some x->(l.flatMap (fun q=>[f q]))[n]?=some (f x)
 |[],n,x,h=>by simp at h
 |y::l,0,x,h=>by simp at h;simp [h]
 |y::l,n+1,x,h=>by
  simp only [zaf]
  rw [zai Zi]
  simpa using fy f l n x (by simpa using h)
theorem McX.row(h:McX W M tv bv size taken bytes ts ks)(hk:0<ks.length): ∃g c,tv= .slice (aA g) ks.length c/\ks.length<=c/\g<W.heap.size/\ ∀(n:Nat) (q:TK),ks[n]?=some q->W.cell? (aB g n)=some (pP q.b):=by
 have ho:=h.ob.own ⟨0,74,1,ks.length,ks.flatMap (fun q=>[pP q.b])⟩ (by simp [mcR])
 simp only [fld,mcC] at ho
 have ho:W.ownsRow (M+1) 74 1 tv ks.length (ks.flatMap (fun q=>[pP q.b])):=ho
 obtain ⟨a,c,rfl,h1, -, -, -⟩:=az ho
 obtain ⟨g,rfl⟩:=cr ho hk
 exact ⟨g,c,rfl,h1,(ho.lt g rfl).2,fun n q hq=>bS ho n _ (fy (fun q:TK=>pP q.b) ks n q hq)⟩
theorem McX.cells(h:McX W M tv bv size taken bytes ts ks): ∀i,W.cell? (aB M i)=(mcC tv bv size taken)[i]?:=aa h.ob.out
theorem yeR(h:McX W M tv bv size taken bytes ts ks)(n:Nat)(q:TK)(hq:ks[n]?=some q):qC 16 #[pP M,iI n] W fun e w'=>e= .returned (pP q.b)/\w'=W:=by
 have hn:=(List.getElem?_eq_some_iff.1 hq).1
 obtain ⟨g,c,rfl,hc,hg,xd⟩:=h.row Za
 have q0:=h.cells
 unfold mcC at q0
 have q1:=xd n q hq
 have yO:(n:Int)<ks.length:=by omega
 clear h xd hq
 go_enter Tryz.func16,Tryz.ntmps16
 go_wp2_with fail
 go_ret
 exact ⟨rfl,rfl⟩
variable{n b gs sc:Nat}{cv pv:qV}{t:TD}
theorem MtX.cell(h:MtX W n b gs cv pv sc t)(k:Nat)(hk:k<40):W.cell? (aB b k)=some (thF cv (.slice (aA gs) t.sites.length sc) pv t k):=by
 rw [aa h.ob.out k,cL,if_pos hk]
theorem MtX.st(h:MtX W n b gs cv pv sc t)(k:Nat)(hk:k<36):W.cell? ⟨b,k+2,none⟩=some (t.st.f k):=by
 rw [h.cell (k+2) Za,pq _ _ _ _ hk]
theorem MtX.code(h:MtX W n b gs cv pv sc t): ∃a c,cv= .slice a t.code.length c/\t.code.length<=c/\W.ownsRow (b+1) 85 7 (.slice a t.code.length c) t.code.length (t.code.flatMap insC):=by
 have ho:W.ownsRow (b+1) 85 7 cv t.code.length (t.code.flatMap insC):=h.ob.own ⟨0,85,7,t.code.length,t.code.flatMap insC⟩ (by simp [thR])
 obtain ⟨a,c,rfl,h1, -, -, -⟩:=az ho
 exact ⟨a,c,rfl,h1,ho⟩
theorem l7(h:MtX W n b gs cv pv sc t):qC 17 #[pP b] W fun e w'=>e= .returned (.bool (decide (0<=t.st.pc)&&decide (t.st.pc<t.code.length)))/\w'=W.drew:=by
 have q33:W.cell? (aB b 33)=some (iI t.st.pc):=h.st 31 Za
 obtain ⟨a,c,rfl,hc, -⟩:=h.code
 have q0:W.cell? (aB b 0)=some (.slice a t.code.length c):=h.cell 0 Za
 clear h
 go_enter Tryz.func17,Tryz.ntmps17
 have hA:W.drew.cell? (aB b 33)=some (iI t.st.pc)/\W.drew.cell? (aB b 0)=some (.slice a t.code.length c):=⟨q33,q0⟩
 have hB:True:=trivial
 by_cases h1:0<=t.st.pc
 ·have h2:decide (0<=t.st.pc)=true:=by simpa using h1
  go_wp2_with fail
  refine ae (fun W=>W.cell? (aB b 33)=some (iI t.st.pc)/\W.cell? (aB b 0)=some (.slice a t.code.length c)) (fun W=>True) 19 rfl ?_
  refine Zp 0 rfl (h:=Zp 1 rfl (h:=Zp 2 rfl (h:=?_)));try simp only [Zq]
  refine Zp 3 rfl (h:=Zt 4 rfl (h:=Zp 5 rfl (h:=?_)));try simp only [Zq]
  refine Zp 6 rfl (h:=Zp 7 rfl (h:=Zp 8 rfl (h:=?_)));try simp only [Zq]
  refine Zp 9 rfl (h:=Zp 10 rfl (h:=Zt 11 rfl (h:=?_)));try simp only [Zq]
  refine Zp 12 rfl (h:=Zp 13 rfl (h:=Zp 14 rfl (h:=?_)));try simp only [Zq]
  refine Zt 15 rfl (h:=Zp 16 rfl (h:=Zp 17 rfl (h:=?_)));try simp only [Zq]
  refine Zp 18 rfl (h:=?_);try simp only [Zq]
  refine Zs 19 rfl fun K hK=>?_
  go_simp
  refine hK _ _ ⟨hA,fun _=>trivial⟩ ?_
  clear hK K
  refine af Zb ?_ _
  go_wp2_with fail
  go_ret
  exact ⟨by simp [h1],rfl⟩
 ·have h2:decide (0<=t.st.pc)=false:=by simpa using h1
  have h3:t.st.pc<0:=by omega
  go_wp2_with fail
  refine ae (fun W=>W.cell? (aB b 33)=some (iI t.st.pc)/\W.cell? (aB b 0)=some (.slice a t.code.length c)) (fun W=>True) 19 rfl ?_
  refine Zp 0 rfl (h:=Zp 1 rfl (h:=Zp 2 rfl (h:=?_)));try simp only [Zq]
  refine Zp 3 rfl (h:=Zt 4 rfl (h:=Zp 5 rfl (h:=?_)));try simp only [Zq]
  refine Zp 6 rfl (h:=Zn 7 rfl (h:=?_));try simp only [Zq]
  refine Zn 8 rfl (h:=Zn 9 rfl (h:=?_));try simp only [Zq]
  refine Zn 10 rfl (h:=Zn 11 rfl (h:=?_));try simp only [Zq]
  refine Zn 12 rfl (h:=Zn 13 rfl (h:=?_));try simp only [Zq]
  refine Zn 14 rfl (h:=Zn 15 rfl (h:=?_));try simp only [Zq]
  refine Zn 16 rfl (h:=Zn 17 rfl (h:=Zp 18 rfl (h:=?_)));try simp only [Zq]
  refine Zs 19 rfl fun K hK=>?_
  go_simp
  refine hK _ _ ⟨hA,fun _=>trivial⟩ ?_
  clear hK K
  refine af Zb ?_ _
  go_wp2_with fail
  go_ret
  exact ⟨by simp [h1];omega,rfl⟩
variable{W:qW}{M:Nat}{tv bv:qV}{size taken:Int}{bytes:List Nat}{ts:List TD}{ks:List TK}
theorem McX.mem(h:McX W M tv bv size taken bytes ts ks): ∃a c,bv= .slice a bytes.length c/\bytes.length<=c/\W.ownsRow (M+1) 5 1 (.slice a bytes.length c) bytes.length (bytes.flatMap aK):=by
 have ho:W.ownsRow (M+1) 5 1 bv bytes.length (bytes.flatMap aK):=h.ob.own ⟨1,5,1,bytes.length,bytes.flatMap aK⟩ (by simp [mcR])
 obtain ⟨a,c,rfl,h1, -, -, -⟩:=az ho
 exact ⟨a,c,rfl,h1,ho⟩
theorem pk(h:McX W M tv bv size taken bytes ts ks)(a l:Int):qC 19 #[pP M,.agg #[iI a,iI l]] W fun e w'=>e= .returned (.bool (decide (65536<=a)&&withinB a l 65536 bytes.length))/\Below W.heap.size W w':=by
 have hM:=h.ob.lt
 have q1:=h.cells 1
 obtain ⟨ba,c,rfl,hc, -⟩:=h.mem
 have q1:W.cell? (aB M 1)=some (.slice ba bytes.length c):=q1
 have CW:=Zh (fun W=>oP a l 65536 bytes.length W)
 clear h
 go_enter Tryz.func19,Tryz.ntmps19
 obtain ⟨V,hV⟩: ∃V,V=W.alloc (.cells #[iI a,iI l] 38):=⟨_,rfl⟩
 have yw:Below W.heap.size W V:=by rw [hV];exact ab (zaa _ _) _
 have Ke:V.heap.size=W.heap.size+1:=by rw [hV];simp only [au]
 have q0: ∀i,V.cell? (aB W.heap.size i)=(#[iI a,iI l]:Array qV)[i]?:=by rw [hV];exact aa (zab _ _)
 have hA:V.drew.cell? (aB W.heap.size 0)=some (iI a)/\V.drew.cell? (aB W.heap.size 1)=some (iI l)/\V.drew.cell? (aB M 1)=some (.slice ba bytes.length c):=⟨q0 0,q0 1,(yw.cell (p:=⟨M,1,none⟩) hM).trans q1⟩
 have hB:True:=trivial
 by_cases h1:65536<=a
 ·go_wp2_with fail
  rw [<-hV]
  refine ae (fun X=>X.cell? (aB W.heap.size 0)=some (iI a)/\X.cell? (aB W.heap.size 1)=some (iI l)/\X.cell? (aB M 1)=some (.slice ba bytes.length c)) (fun W=>True) 13 rfl ?_
  refine Zp 0 rfl (h:=Zt 1 rfl (h:=Zp 2 rfl (h:=?_)));try simp only [Zq]
  refine Zp 3 rfl (h:=Zt 4 rfl (h:=Zp 5 rfl (h:=?_)));try simp only [Zq]
  refine Zp 6 rfl (h:=Zp 7 rfl (h:=Zt 8 rfl (h:=?_)));try simp only [Zq]
  refine Zp 9 rfl (h:=Zp 10 rfl (h:=?_));try simp only [Zq]
  refine eJ 11 rfl Zb (by rfl) (fun K hK=>?_)
  go_simp
  go_at_call 49
  refine (CW.out _).mono ?_
  rintro e w1 ⟨rfl,Ci⟩
  have yn:Below V.heap.size V w1:=by rw [hV];exact ⟨Ci.os,Ci.tape,Ci.output,Ci.size,Ci.block⟩
  have ya:w1.cell? (aB W.heap.size 0)=some (iI a)/\w1.cell? (aB W.heap.size 1)=some (iI l)/\w1.cell? (aB M 1)=some (.slice ba bytes.length c):=⟨(yn.cell (p:=⟨W.heap.size,0,none⟩) (by show W.heap.size<_;omega)).trans hA.1,(yn.cell (p:=⟨W.heap.size,1,none⟩) (by show W.heap.size<_;omega)).trans hA.2.1,(yn.cell (p:=⟨M,1,none⟩) (by show M<_;omega)).trans hA.2.2⟩
  refine hK _ _ ⟨ya,fun _=>trivial⟩ ?_
  clear hK K hA
  have hA:=ya
  refine Zp 12 rfl (h:=?_);try simp only [Zq]
  refine Zs 13 rfl fun K hK=>?_
  go_simp
  refine hK _ _ ⟨hA,fun _=>trivial⟩ ?_
  clear hK K
  refine af Zb ?_ _
  go_wp2_with fail
  go_ret
  exact ⟨by simp [h1],ar yw yn Za⟩
 ·have h3:a<65536:=by omega
  have h4:decide (65536<=a)=false:=by simpa using h3
  go_wp2_with fail
  rw [<-hV]
  refine ae (fun X=>X.cell? (aB W.heap.size 0)=some (iI a)/\X.cell? (aB W.heap.size 1)=some (iI l)/\X.cell? (aB M 1)=some (.slice ba bytes.length c)) (fun W=>True) 13 rfl ?_
  refine Zp 0 rfl (h:=Zt 1 rfl (h:=Zp 2 rfl (h:=?_)));try simp only [Zq]
  refine Zp 3 rfl (h:=Zn 4 rfl (h:=?_));try simp only [Zq]
  refine Zn 5 rfl (h:=Zn 6 rfl (h:=?_));try simp only [Zq]
  refine Zn 7 rfl (h:=Zn 8 rfl (h:=?_));try simp only [Zq]
  refine Zn 9 rfl (h:=Zn 10 rfl (h:=?_));try simp only [Zq]
  refine Zn 11 rfl (h:=Zp 12 rfl (h:=?_));try simp only [Zq]
  refine Zs 13 rfl fun K hK=>?_
  go_simp
  refine hK _ _ ⟨by rw [<-hV];exact hA,fun _=>trivial⟩ ?_
  clear hK K
  refine af Zb ?_ _
  go_wp2_with fail
  go_ret
  exact ⟨by simp;omega,by rw [<-hV];exact fG yw⟩
variable{W:qW}{n b gs sc:Nat}{cv pv:qV}{t:TD}
theorem eM{f g:Nat->qV}(h: ∀k,k<40->f k=g k):thC f=thC g:=by
 unfold thC
 congr 1
 apply List.map_congr_left
 intro k hk
 exact h k (List.mem_range.1 hk)
theorem px(cv sv pv:qV)(t:TD)(e:Int):thC (upd (thF cv sv pv t) 39 (iI e))=thC (thF cv sv pv {t with end_:=e}):=by
 apply eM
 intro k hk
 unfold upd thF
 by_cases h:k=39
 ·subst h
  simp
 ·rw [if_neg h]
  repeat' split
  all_goals first|rfl|omega
theorem MtX.setEnd(h:MtX W n b gs cv pv sc t)(hg:gs≠b)(e:Int):MtX (W.setCell ⟨b,39,none⟩ (iI e)) n b gs cv pv sc {t with end_:=e}/\Kp (fun k=>k=b) W (W.setCell ⟨b,39,none⟩ (iI e)):=by
 have hk:Kp (fun k=>k=b) W (W.setCell ⟨b,39,none⟩ (iI e)):=Kp.set W _ _ _
 have ho:=h.ob.set 39 (iI e) (by simp [thR])
 rw [dZ,px] at ho
 exact ⟨⟨ho,h.sr.kp hk h.sl hg,by have:=hk.size;have:=h.sl;omega,h.sb⟩,hk⟩
theorem jl(h:MtX W n b gs cv pv sc t)(i:Ins)(h1:i.op≠31)(h2:i.op≠32):qC 20 #[pP b,insV i] W fun e w'=>e= .returned (.tuple #[])/\Below W.heap.size W w':=by
 obtain ⟨op,d,m,k,e,sz,imm⟩:=i
 simp only at h1 h2
 unfold insV
 simp only
 have h3:(op==31)=false:=by simpa using h1
 have h4:(op==32)=false:=by simpa using h2
 go_enter Tryz.func20,Tryz.ntmps20
 go_wp2_with fail
 go_end0
 exact ⟨rfl,ab (zaa _ _) _⟩
theorem pK(h:MtX W n b gs cv pv sc t)(hg:gs≠b)(i:Ins)(h1:i.op=31)(h2:i.imm=0):qC 20 #[pP b,insV i] W fun e w'=>e= .returned (.tuple #[])/\MtX w' n b gs cv pv sc {t with end_:=1}/\Kp (fun k=>k=b) W w':=by
 obtain ⟨op,d,m,k,e,sz,imm⟩:=i
 simp only at h1 h2
 subst h1 h2
 unfold insV
 simp only
 have hb:=h.ob.lt
 have q39:W.cell? (aB b 39)=some (iI t.end_):=h.cell 39 Za
 have qf:=ai h.ob.out
 obtain ⟨hm,hk⟩:=h.setEnd hg 1
 have HM:=Zh hm
 have HK:=Zh hk
 clear h hm hk
 go_enter Tryz.func20,Tryz.ntmps20
 go_wp2_with fail
 go_end0
 exact ⟨rfl,HM.out.kp (X:=fun _=>False) ((Kp.refl _ _).alloc _) (fun _ _=>id) id,HK.out.alloc _⟩
variable{W:qW}{n b gs sc:Nat}{cv pv:qV}{t:TD}
theorem a9(f:Nat->qV)(k:Nat)(hk:k<40):fld (thC f) k=f k:=by
 unfold fld
 rw [zaI,cL,if_pos hk]
 rfl
theorem pw(cv sv pv pv':qV)(t:TD)(v:Nat):(thC (thF cv sv pv t)).setIfInBounds 38 pv'=thC (thF cv sv pv' {t with prints:=t.prints++[v]}):=by
 rw [dZ]
 apply eM
 intro k hk
 unfold upd thF
 by_cases h:k=38
 ·subst h
  simp
 ·rw [if_neg h]
  repeat' split
  all_goals first|rfl|omega
theorem MtX.app{X W2:qW}{g cap v:Nat}(h:MtX W n b gs cv pv sc t)(hx:Kp (fun _=>False) W X)(wW:X.grownBy W2 pv.ownBlock)(hown:W2.ownsRow (b+1) 39 1 (.slice (aA g) (t.prints.length+1) cap) (t.prints.length+1) (t.prints.flatMap aX++aX v))(xb:pv.ownBlock=some g\/g=X.heap.size)
  (yQ: ¬foot b (thC (thF cv (.slice (aA gs) t.sites.length sc) pv t)) (thR t) gs):
  MtX (W2.setCell ⟨b,38,none⟩ (.slice (aA g) (t.prints.length+1) cap)) n b gs cv (.slice (aA g) (t.prints.length+1) cap) sc {t with prints:=t.prints++[v]}/\Kp (foot b (thC (thF cv (.slice (aA gs) t.sites.length sc) pv t)) (thR t)) W (W2.setCell ⟨b,38,none⟩ (.slice (aA g) (t.prints.length+1) cap))/\
   ∀k,foot b (thC (thF cv (.slice (aA gs) t.sites.length sc) (.slice (aA g) (t.prints.length+1) cap) {t with prints:=t.prints++[v]})) (thR {t with prints:=t.prints++[v]}) k->foot b (thC (thF cv (.slice (aA gs) t.sites.length sc) pv t)) (thR t) k\/W.heap.size<=k:=by
 have hf:fld (thC (thF cv (.slice (aA gs) t.sites.length sc) pv t)) 38=pv:=a9 _ 38 Za
 obtain ⟨h1,h2,h3⟩:=h.ob.put (r:=⟨38,39,1,t.prints.length,t.prints.flatMap aX⟩) (by simp [thR]) (by simp [dB]) (W2:=W2) (v':= .slice (aA g) (t.prints.length+1) cap) (n':=t.prints.length+1) (xs':=t.prints.flatMap aX++aX v)
  ((hx.mono (fun _ _ e=>e.elim)).trans ((Kp.of_grown wW).mono (fun k _ e=>by rw [hf];exact e.symm))) hown (fun k hk=>by
   rw [hf]
   obtain rfl:g=k:=by simpa [Value.ownBlock] using hk
   have:=hx.size
   rcases xb with e|e
   ·exact .inl e
   ·exact .inr Za)
 have er:(thR t).map (fun q=>if q.ix=38 then {q with n:=t.prints.length+1,xs:=t.prints.flatMap aX++aX v} else q)=thR {t with prints:=t.prints++[v]}:=by
  simp [thR]
 simp only at h1 h2 h3
 rw [pw _ _ _ _ _ v,er] at h1 h3
 exact ⟨⟨h1,h.sr.kp h2 h.sl yQ,by have:=h2.size;have:=h.sl;omega,h.sb⟩,h2,h3⟩
theorem iV:(Tryz.prog.info? 39).map (fun i=>(i.zero,i.size,i.bytes))=some (some (.int .u64 0),1,8):=by kernel_rfl
theorem pJ(h:MtX W n b gs cv pv sc t)(yQ: ¬foot b (thC (thF cv (.slice (aA gs) t.sites.length sc) pv t)) (thR t) gs)(i:Ins)(h1:i.op=31)(h2:1<=i.imm)(h3:i.imm<=31)(wX:t.prints.length<=1000000):qC 20 #[pP b,insV i] W fun e w'=>e= .returned (.tuple #[])/\ ∃pv',MtX w' n b gs cv pv' sc {t with prints:=t.prints++[t.st.x (i.imm.toNat-1)]}/\Kp (foot b (thC (thF cv (.slice (aA gs) t.sites.length sc) pv t)) (thR t)) W w'/\
   ∀k,foot b (thC (thF cv (.slice (aA gs) t.sites.length sc) pv' {t with prints:=t.prints++[t.st.x (i.imm.toNat-1)]})) (thR {t with prints:=t.prints++[t.st.x (i.imm.toNat-1)]}) k->foot b (thC (thF cv (.slice (aA gs) t.sites.length sc) pv t)) (thR t) k\/W.heap.size<=k:=by
 obtain ⟨op,d,m,k,e,sz,imm⟩:=i
 simp only at h1 h2 h3
 subst h1
 obtain ⟨j,rfl⟩: ∃j:Nat,imm=(j:Int)+1:=⟨(imm-1).toNat,by omega⟩
 simp only [show ((j:Int)+1).toNat-1=j by omega]
 unfold insV
 simp only
 obtain ⟨i0,xz,xq,xm,xk⟩:=zan iV
 have BX:IntKind.i64.wrap (j:Int)=(j:Int):=a7 Za Za
 have Fc:j<31:=by omega
 have Fb:(j:Int)<31:=by omega
 have H:=Zh h
 have AX:=h.ob.lt
 have FY:W.ownsRow (b+1) 39 1 pv t.prints.length (t.prints.flatMap aX):=by
  have:=h.ob.own ⟨38,39,1,t.prints.length,t.prints.flatMap aX⟩ (by simp [thR])
  simp only [a9 _ 38 (by omega:38<40)] at this
  exact this
 have Cz:pv.ownBlock≠some W.heap.size:=fun e=>by have:=(FY.lt _ e).2;omega
 clear h FY
 go_enter Tryz.func20,Tryz.ntmps20
 go_wp2_with fail
 refine aT (R:=fun X=>Below W.heap.size W X/\X.cell? (aB W.heap.size 6)=some (iI ((j:Int)+1))/\W.heap.size<X.heap.size) ⟨ab (zaa _ _) _,(aa (zab _ _) 6).trans rfl,by simp only [au];omega⟩ ?_
 rintro V ⟨yw,q6,Ke⟩
 have hm:=H.out.kp (Kp.of_below (X:=fun _=>False) yw) (fun _ _=>id) id
 have q38:V.cell? (aB b 38)=some pv:=hm.cell 38 Za
 have qx:V.cell? ⟨b,j+2,none⟩=some (.int .u64 (t.st.x j)):=by rw [hm.st j Za,f_x t.st Za]
 have qx2:V.cell? ⟨b,2+j,none⟩=some (.int .u64 (t.st.x j)):=by rw [Nat.add_comm];exact qx
 have qf:=ai hm.ob.out
 have yj:V.ownsRow (b+1) 39 1 pv t.prints.length (t.prints.flatMap aX):=by
  have:=hm.ob.own ⟨38,39,1,t.prints.length,t.prints.flatMap aX⟩ (by simp [thR])
  simp only [a9 _ 38 (by omega:38<40)] at this
  exact this
 have HM:=Zh hm
 have xu:=Zh yj
 have yJ:=Zh yw
 have Ap:b<V.heap.size:=by omega
 clear hm yj yw
 have hA:V.drew.cell? (aB W.heap.size 6)=some (iI ((j:Int)+1))/\V.drew.cell? ⟨b,2+j,none⟩=some (.int .u64 (t.st.x j)):=⟨q6,qx2⟩
 have hB:V.drew.cell? (aB b 38)=some pv:=q38
 refine ae (fun X=>X.cell? (aB W.heap.size 6)=some (iI ((j:Int)+1))/\X.cell? ⟨b,2+j,none⟩=some (.int .u64 (t.st.x j))) (fun X=>X.cell? (aB b 38)=some pv) 18 rfl ?_
 refine Zp 0 rfl (h:=Zp 1 rfl (h:=Zp 2 rfl (h:=Zp 3 rfl (h:=Zl 4 [15,18] rfl (h:=Zp 5 rfl (h:=Zp 6 rfl (h:=Zt 7 rfl (h:=Zp 8 rfl (h:=Zp 9 rfl (h:=Zp 10 rfl (h:=Zp 11 rfl (h:=Zp 12 rfl (h:=Zt 13 rfl (h:=?_))))))))))))));try simp only [Zq]
 refine Zs 14 rfl fun K hK=>?_
 go_simp
 refine hK _ _ ⟨⟨(an Ke).trans q6,(an Ap).trans qx2⟩,fun _=>(an Ap).trans q38⟩ ?_
 refine Zs 15 rfl fun K hK=>?_
 refine a8 (.tmp 36) (.tmp 46) 80 39 i0 _ 1 8 Tryz.underlying80 xz xq xm xk rfl Zg rfl rfl (b+1) pv t.prints.length (t.prints.flatMap aX) (aw xu.out (fun g hg=>zac _ _ (xu.out.lt g hg).2)) V.heap.size #[.int .u64 (t.st.x j)] 39 (0,0) (zab _ _) ZB ZB rfl ZL Za Za Zc ?_
 intro g2 cap2 w2 hown wW xb xy
 obtain ⟨d1,d2,d3⟩:=HM.out.app (v:=t.st.x j) ((Kp.dr V).trans (Kp.al _ _)) wW hown xb yQ
 have D1:=Zh d1
 have D2:=Zh d2
 have D3:=Zh d3
 clear d1 d2 d3
 have wT:Kp (fun k=>pv.ownBlock=some k) (V.drew.alloc _) w2:=(Kp.of_grown wW).mono (fun k _ e=>e.symm)
 have z6:w2.cell? (aB W.heap.size 6)=some (iI ((j:Int)+1)):=((wT.cell Zc (fun e=>Cz e)).trans (an Ke)).trans q6
 have zx:w2.cell? ⟨b,2+j,none⟩=some (.int .u64 (t.st.x j)):=((wT.cell Zc (fun e=>by have:=(xu.out.lt _ e).1;omega)).trans (an Ap)).trans qx2
 have z38:w2.cell? (aB b 38)=some pv:=((wT.cell Zc (fun e=>by have:=(xu.out.lt _ e).1;omega)).trans (an Ap)).trans q38
 have zf: ∀i,w2.frozen? (aB b i)=false:=ai ((wT.block b Zc (fun e=>by have:=(xu.out.lt _ e).1;omega)).trans ((zac _ _ Ap).trans HM.out.ob.out))
 clear hown wW xb wT
 refine hK _ _ ⟨⟨z6,zx⟩,fun _=>z38⟩ ?_
 clear hK K hA hB
 have hA:w2.cell? (aB W.heap.size 6)=some (iI ((j:Int)+1))/\w2.cell? ⟨b,2+j,none⟩=some (.int .u64 (t.st.x j)):=⟨z6,zx⟩
 have hB:w2.cell? (aB b 38)=some pv:=z38
 refine Zp 16 rfl (h:=Zp 17 rfl (h:=?_));try simp only [Zq]
 refine Zs 18 rfl fun K hK=>?_
 go_simp
 refine hK _ _ ⟨⟨(zaH _ _ _ _ (fun e=>by have:=congrArg Addr.block e;simp only at this;omega)).trans z6,(zaH _ _ _ _ (fun e=>by have:=congrArg Addr.off e;simp only at this;omega)).trans zx⟩,fun hh=>Bool.noConfusion (hh.symm.trans (show _=true by kernel_rfl))⟩ ?_
 refine af Zb ?_ _
 go_wp2_with fail
 go_end0
 refine ⟨rfl,_,D1.out,((Kp.of_below (X:=_) yJ.out)).trans D2.out,fun k hk=>?_⟩
 rcases D3.out k hk with e|e
 ·exact .inl e
 ·exact .inr Za
variable{W:qW}{M:Nat}{tv bv:qV}{size taken:Int}{bytes:List Nat}{ts:List TD}{ks:List TK}
theorem aV{α:Type}{l:List α}{n m:Nat}{x y:α}(h:(l.set n x)[m]?=some y):(m=n/\y=x)\/(m≠n/\l[m]?=some y):=by
 by_cases e:m=n
 ·subst e
  rw [List.getElem?_set] at h
  simp at h
  exact .inl ⟨rfl,h.2.symm⟩
 ·rw [List.getElem?_set_ne (fun h=>e h.symm)] at h
  exact .inr ⟨e,h⟩
theorem ki(ks:List TK): ∀(n:Nat) (q q':TK),ks[n]?=some q->q'.b=q.b->(ks.set n q').flatMap (fun q=>[Value.pointer (aA q.b)])=ks.flatMap (fun q=>[Value.pointer (aA q.b)]):=by
 induction ks with
 |nil=>intro n q q' h;simp at h
 |cons k ks ih=>
  intro n q q' h e
  cases n with
  |zero=>
   simp at h
   subst h
   simp [e]
  |succ n=>
   simp at h
   simp only [List.set_cons_succ,zaf]
   rw [ih n q q' h e]
theorem McX.turn(h:McX W M tv bv size taken bytes ts ks){n:Nat}{q:TK}{t t':TD}{pv':qV}{W':qW}(hq:ks[n]?=some q)(ht:ts[n]?=some t)(hm:MtX W' n q.b q.gs q.cv pv' q.sc t')(hk:Kp (q.foot t) W W')(hr: ∀b,({q with pv:=pv'}:TK).foot t' b->q.foot t b\/W.heap.size<=b):
  McX W' M tv bv size taken bytes (ts.set n t') (ks.set n {q with pv:=pv'}):=by
 have hR:mcR (ks.set n {q with pv:=pv'}) bytes=mcR ks bytes:=by
  unfold mcR
  rw [ki ks n q {q with pv:=pv'} hq rfl,List.length_set]
 have Kj: ∀b,foot M (mcC tv bv size taken) (mcR ks bytes) b->b<W.heap.size:=fun b hb=>(h.ob.foot_lt hb).2
 have wY: ∀(m:Nat) (p:TK) (u:TD),ks[m]?=some p->ts[m]?=some u-> ∀b,p.foot u b->b<W.heap.size:=fun m p u hp hu b hb=>((h.th m p u hp hu).ob.foot_lt hb).2
 refine ⟨by simp [h.len],?_,?_,?_,?_,?_,?_⟩
 ·rw [hR]
  exact h.ob.kp hk (fun k hf hx=>(h.mp n q t hq ht).1 k hf hx)
 ·intro m p u hp hu
  rcases aV hp with ⟨rfl,rfl⟩|⟨hne,hp⟩
  ·rcases aV hu with ⟨-,rfl⟩|⟨hne, -⟩
   ·exact hm
   ·exact absurd rfl hne
  ·rcases aV hu with ⟨rfl, -⟩|⟨-,hu⟩
   ·exact absurd rfl hne
   ·exact (h.th m p u hp hu).kp hk (fun k hf hx=>h.ap m p u n q t hp hu hq ht hne k hf hx) (h.gp n q t m p u hq ht hp hu)
 ·intro m p u hp hu
  rcases aV hp with ⟨rfl,rfl⟩|⟨hne,hp⟩
  ·exact h.lo m q t hq ht
  ·rcases aV hu with ⟨rfl, -⟩|⟨-,hu⟩
   ·exact absurd rfl hne
   ·exact h.lo m p u hp hu
 ·intro m p u l r v hp hu Dd hv hne b hb xr
  rcases aV hp with ⟨e1,e2⟩|⟨E',zh⟩
  ·rcases aV hu with ⟨-,e3⟩|⟨hc, -⟩
   ·rcases aV Dd with ⟨e, -⟩|⟨-,yh⟩
    ·exact hne (e1.trans e.symm)
    ·rcases aV hv with ⟨e, -⟩|⟨-,zc⟩
     ·exact hne (e1.trans e.symm)
     ·rw [e2,e3] at hb
      rcases hr b hb with e|e
      ·exact h.ap n q t l r v hq ht yh zc (e1 ▸ hne) b e xr
      ·have:=wY l r v yh zc b xr
       omega
   ·exact hc e1
  ·rcases aV hu with ⟨e, -⟩|⟨-,yD⟩
   ·exact E' e
   ·rcases aV Dd with ⟨e1,e2⟩|⟨A8,yh⟩
    ·rcases aV hv with ⟨-,e3⟩|⟨hc, -⟩
     ·rw [e2,e3] at xr
      rcases hr b xr with e|e
      ·exact h.ap m p u n q t zh yD hq ht E' b hb e
      ·have:=wY m p u zh yD b hb
       omega
     ·exact hc e1
    ·rcases aV hv with ⟨e, -⟩|⟨-,zc⟩
     ·exact A8 e
     ·exact h.ap m p u l r v zh yD yh zc hne b hb xr
 ·intro m p u l r v hp hu Dd hv hb
  have yQ:r.gs=r.gs:=rfl
  obtain ⟨r0,v0,Dc,Jb,JY⟩: ∃r0 v0,ks[l]?=some r0/\ts[l]?=some v0/\r.gs=r0.gs:=by
   rcases aV Dd with ⟨rfl,rfl⟩|⟨A8,Dd⟩
   ·exact ⟨q,t,hq,ht,rfl⟩
   ·rcases aV hv with ⟨e, -⟩|⟨-,hv⟩
    ·exact absurd e A8
    ·exact ⟨r,v,Dd,hv,rfl⟩
  rw [JY] at hb
  rcases aV hp with ⟨rfl,rfl⟩|⟨E',hp⟩
  ·rcases aV hu with ⟨-,rfl⟩|⟨hc, -⟩
   ·rcases hr _ hb with e|e
    ·exact h.gp m q t l r0 v0 hq ht Dc Jb e
    ·have:=(h.th l r0 v0 Dc Jb).sl
     omega
   ·exact hc rfl
  ·rcases aV hu with ⟨e, -⟩|⟨-,hu⟩
   ·exact E' e
   ·exact h.gp m p u l r0 v0 hp hu Dc Jb hb
 ·intro m p u hp hu
  rw [hR]
  rcases aV hp with ⟨rfl,rfl⟩|⟨E',hp⟩
  ·rcases aV hu with ⟨-,rfl⟩|⟨hc, -⟩
   ·refine ⟨fun b hb xr=>?_,(h.mp m q t hq ht).2⟩
    rcases hr b xr with e|e
    ·exact (h.mp m q t hq ht).1 b hb e
    ·have:=Kj b hb
     omega
   ·exact absurd rfl hc
  ·rcases aV hu with ⟨e, -⟩|⟨-,hu⟩
   ·exact absurd e E'
   ·exact h.mp m p u hp hu
structure MSt where
 size:Int
 taken:Int
 bytes:List Nat
 ts:List TD
def thereM(l:List Nat)(a m:Int):Bool:=decide (65536<=a)&&withinB a m 65536 l.length
def partL(l:List Nat)(j m:Nat):List Nat:=(l.drop j).take m
def rd0(l:List Nat)(j m:Nat):Nat:=numK (partL l j (min m 8)) 8
def rd1(l:List Nat)(j m:Nat):Nat:=numK (partL l (j+8) (m-8)) 8
def putBy(l:List Nat)(j x m:Nat):List Nat:=splice l j ((List.range m).map (byteN x))
def wrM(l:List Nat)(j m d0 d1:Nat):List Nat:=putBy (putBy l j d0 (min m 8)) (j+8) d1 (m-8)
def clrW(a m:Int)(t:TD):TD:=if meetsB t.st.wa t.st.wl a m then {t with st:={t.st with wa:=0,wl:=0}} else t
def othM(n:Nat)(a m:Int)(k:Nat)(ts:List TD):List TD:=ts.mapIdx (fun i t=>if i<k/\i≠n then clrW a m t else t)
def stopT(t:TD)(i:Ins):Option TD:=
 if i.op=32 then some {t with end_:=2}
 else if i.op=31 then (if i.imm=0 then some {t with end_:=1} else if 1<=i.imm/\i.imm<=31/\t.prints.length<=1000000 then some {t with prints:=t.prints++[t.st.x (i.imm.toNat-1)]} else none)
 else some t
def memM(s:MSt)(n:Nat)(t:TD)(i:Ins)(fail:Bool):Option MSt:=
 let a:=spanA t.st i
 let m:=lenI i
 let j:=(a-65536).toNat
 if thereM s.bytes a m then
  if wrB i.op then
   let done:=!exB i.op||(!fail&&(t.st.wa==a&&t.st.wl==m))
   if done then some {s with bytes:=wrM s.bytes j m.toNat (bC t.st i).toNat (bB t.st i).toNat,ts:=(othM n a m s.ts.length s.ts).set n {t with st:=nextS t.st i 0 0 true}}
   else some {s with ts:=s.ts.set n {t with st:=nextS t.st i 0 0 false}}
  else some {s with ts:=s.ts.set n {t with st:=nextS t.st i (rd0 s.bytes j m.toNat) (rd1 s.bytes j m.toNat) true}}
 else none
def mStep(s:MSt)(n:Nat)(fail:Bool):Option MSt:=
 s.ts[n]?.bind fun t=>
 if t.end_≠0 then some s
 else if t.st.pc<0 then none
 else t.code[t.st.pc.toNat]?.bind fun i=>
  if (enc i).isSome then
   if meB i.op then memM s n t i fail
   else (stopT t i).map fun t1=>{s with ts:=s.ts.set n {t1 with st:=nextS t.st i 0 0 false}}
  else none
structure TD.ok(t:TD):Prop where
 st:t.st.ok
 code: ∀i∈t.code,i.rng
 clen:t.code.length<=100000
 sl:t.sites.length=t.code.length
 np: ∀i∈t.code,paB i.op=false
structure MSt.ok(s:MSt):Prop where
 th: ∀t∈s.ts,t.ok
 n1:1<=s.ts.length
 n8:s.ts.length<=8
 bl:s.bytes.length<=1000000
 sm:Small s.bytes
 sz:0<=s.size/\s.size<=s.bytes.length
def mfoot(M:Nat)(tv bv:qV)(size taken:Int)(bytes:List Nat)(ts:List TD)(ks:List TK)(k:Nat):Prop:=
 foot M (mcC tv bv size taken) (mcR ks bytes) k\/ ∃(n:Nat) (q:TK) (t:TD),ks[n]?=some q/\ts[n]?=some t/\(q.foot t k\/k=q.gs)
structure MacAt(W:qW)(M:Nat)(F:Nat->Prop)(bs:List Nat)(s:MSt):Prop where
 ok:s.ok
 lt: ∀k,F k->M<=k/\k<W.heap.size
 at_: ∃tv bv ks,ks.map TK.b=bs/\McX W M tv bv s.size s.taken s.bytes s.ts ks/\ ∀k,mfoot M tv bv s.size s.taken s.bytes s.ts ks k->F k
def grw(F:Nat->Prop)(W W':qW)(k:Nat):Prop:=F k\/(W.heap.size<=k/\k<W'.heap.size)
theorem MacAt.kp{X:Nat->Prop}{W W':qW}{M:Nat}{F:Nat->Prop}{bs:List Nat}{s:MSt}(h:MacAt W M F bs s)(hk:Kp X W W')(hX: ∀k,F k-> ¬X k):MacAt W' M F bs s:=by
 obtain ⟨tv,bv,ks,hb,hm,hf⟩:=h.at_
 refine ⟨h.ok,fun k wT=>⟨(h.lt k wT).1,zar (h.lt k wT).2 hk.size⟩,tv,bv,ks,hb,⟨hm.len,hm.ob.kp hk (fun k wT=>hX k (hf k (.inl wT))),fun n q t hq ht=>(hm.th n q t hq ht).kp hk (fun k wT=>hX k (hf k (.inr ⟨n,q,t,hq,ht,.inl wT⟩))) (hX _ (hf _ (.inr ⟨n,q,t,hq,ht,.inr rfl⟩))),hm.lo,hm.ap,hm.gp,hm.mp⟩,hf⟩
theorem MacAt.below{W W':qW}{M:Nat}{F:Nat->Prop}{bs:List Nat}{s:MSt}(h:MacAt W M F bs s)(hk:Below W.heap.size W W'):MacAt W' M F bs s:=h.kp (Kp.of_below (X:=fun _=>False) hk) (fun _ _=>id)
theorem MacAt.wide{W:qW}{M:Nat}{F G:Nat->Prop}{bs:List Nat}{s:MSt}(h:MacAt W M F bs s)(hg: ∀k,F k->G k)(hl: ∀k,G k->M<=k/\k<W.heap.size):MacAt W M G bs s:=by
 obtain ⟨tv,bv,ks,hb,hm,hf⟩:=h.at_
 exact ⟨h.ok,hl,tv,bv,ks,hb,hm,fun k hk=>hg k (hf k hk)⟩
structure MacD(W:qW)(M:Nat)(F:Nat->Prop)(bs:List Nat)(s':MSt)(W':qW):Prop where
 mac:MacAt W' M (grw F W W') bs s'
 kp:Kp F W W'
 row:W'.cell? (aB M 0)=W.cell? (aB M 0)
theorem dk{W W':qW}{M:Nat}{F:Nat->Prop}(h: ∀k,F k->M<=k/\k<W.heap.size)(hM:M<W.heap.size)(hs:W.heap.size<=W'.heap.size): ∀k,grw F W W' k->M<=k/\k<W'.heap.size:=fun k hk=>by
 rcases hk with hk|⟨h1,h2⟩
 ·have:=h k hk
  omega
 ·omega
theorem MacAt.M_lt{W:qW}{M:Nat}{F:Nat->Prop}{bs:List Nat}{s:MSt}(h:MacAt W M F bs s):M<W.heap.size:=by
 obtain ⟨tv,bv,ks,hb,hm,hf⟩:=h.at_
 exact hm.ob.lt
theorem MacAt.same{W W':qW}{M:Nat}{F:Nat->Prop}{bs:List Nat}{s:MSt}(h:MacAt W M F bs s)(hk:Below W.heap.size W W'):MacD W M F bs s W':=
 ⟨(h.below hk).wide (fun k hk=> .inl hk) (dk h.lt h.M_lt hk.size),Kp.of_below hk,hk.cell (p:=⟨M,0,none⟩) h.M_lt⟩
theorem MacD.next{W W1 W2:qW}{M:Nat}{F:Nat->Prop}{bs:List Nat}{s1 s2:MSt}(h0: ∀k,F k->M<=k/\k<W.heap.size)(hM:M<W.heap.size)(h:MacD W M F bs s1 W1)(k:MacD W1 M (grw F W W1) bs s2 W2):MacD W M F bs s2 W2:=by
 refine ⟨k.mac.wide (fun i hi=>?_) (dk h0 hM (zal h.kp.size k.kp.size)),h.kp.next k.kp (fun i hi hg=>?_),k.row.trans h.row⟩
 ·have:=h.kp.size
  have:=k.kp.size
  rcases hi with (hi|⟨h1,h2⟩)|⟨h1,h2⟩
  ·exact .inl hi
  ·exact .inr ⟨h1,by omega⟩
  ·exact .inr ⟨by omega,h2⟩
 ·rcases hg with hg|⟨h1,h2⟩
  ·exact hg
  ·omega
theorem MacD.more{W W1 W2:qW}{M:Nat}{F:Nat->Prop}{bs:List Nat}{s1:MSt}(h:MacD W M F bs s1 W1)(hk:Below W1.heap.size W1 W2):MacD W M F bs s1 W2:=
 ⟨(h.mac.below hk).wide (fun k wT=>by
   rcases wT with h1|⟨h1,h2⟩
   ·exact .inl h1
   ·exact .inr ⟨h1,zar h2 hk.size⟩) (fun k wT=>by
   have hs:=hk.size
   have hz:=h.kp.size
   rcases wT with h1|⟨h1,h2⟩
   ·have:=h.mac.lt k (.inl h1)
    omega
   ·have:=h.mac.M_lt
    by_cases hl:k<W1.heap.size
    ·have:=h.mac.lt k (.inr ⟨h1,hl⟩)
     omega
    ·omega),h.kp.next (Kp.of_below (X:=fun _=>False) hk) (fun _ _=>False.elim),(hk.cell (p:=⟨M,0,none⟩) h.mac.M_lt).trans h.row⟩
theorem MacD.ahead{W W1 W2:qW}{M:Nat}{F:Nat->Prop}{bs:List Nat}{s1:MSt}(h0: ∀k,F k->M<=k/\k<W.heap.size)(hM:M<W.heap.size)(hk:Below W.heap.size W W1)(h:MacD W1 M F bs s1 W2):MacD W M F bs s1 W2:=
 ⟨h.mac.wide (fun k wT=>by
   rcases wT with h1|⟨h1,h2⟩
   ·exact .inl h1
   ·have:=hk.size
    exact .inr ⟨by omega,h2⟩) (dk h0 hM (zal hk.size h.kp.size)),(Kp.of_below (X:=F) hk).trans h.kp,h.row.trans (hk.cell (p:=⟨M,0,none⟩) hM)⟩
theorem MacAt.th{W:qW}{M n b:Nat}{F:Nat->Prop}{bs:List Nat}{s:MSt}{t:TD}(h:MacAt W M F bs s)(hb:bs[n]?=some b)(ht:s.ts[n]?=some t):
  ∃cv pv gs sc,MtX W n b gs cv pv sc t/\M<b/\(∀k,foot b (thC (thF cv (.slice (aA gs) t.sites.length sc) pv t)) (thR t) k->F k)/\F gs/\ ¬foot b (thC (thF cv (.slice (aA gs) t.sites.length sc) pv t)) (thR t) gs/\
   ∀t' W' pv',t'.ok->MtX W' n b gs cv pv' sc t'->(∀k,foot b (thC (thF cv (.slice (aA gs) t'.sites.length sc) pv' t')) (thR t') k->foot b (thC (thF cv (.slice (aA gs) t.sites.length sc) pv t)) (thR t) k\/W.heap.size<=k)->
    Kp (foot b (thC (thF cv (.slice (aA gs) t.sites.length sc) pv t)) (thR t)) W W'->MacD W M F bs {s with ts:=s.ts.set n t'} W':=by
 obtain ⟨tv,bv,ks,zv,hm,hf⟩:=h.at_
 have hk:(ks.map TK.b)[n]?=some b:=by rw [zv];exact hb
 rw [zaj] at hk
 obtain ⟨q,hq,rfl⟩: ∃q,ks[n]?=some q/\q.b=b:=by
  cases hq:ks[n]? with
  |none=>rw [hq] at hk;simp at hk
  |some q=>rw [hq] at hk;exact ⟨q,rfl,by simpa using hk⟩
 refine ⟨q.cv,q.pv,q.gs,q.sc,hm.th n q t hq ht,(hm.lo n q t hq ht).1,fun k hk=>hf k (.inr ⟨n,q,t,hq,ht,.inl hk⟩),hf _ (.inr ⟨n,q,t,hq,ht,.inr rfl⟩),hm.gp n q t n q t hq ht hq ht,fun t' W' pv' Jr hx hr xh=>?_⟩
 have N6:Kp F W W':=xh.mono (fun k _ hk=>hf k (.inr ⟨n,q,t,hq,ht,.inl hk⟩))
 have hM:=hm.ob.lt
 have hn:=(List.getElem?_eq_some_iff.1 hq).1
 refine ⟨⟨⟨fun u hu=>?_,by simpa using h.ok.n1,by simpa using h.ok.n8,h.ok.bl,h.ok.sm,h.ok.sz⟩,dk h.lt hM xh.size,tv,bv,ks.set n {q with pv:=pv'},?_,hm.turn hq ht hx xh hr,fun k wT=>?_⟩,N6,xh.cell hM ((hm.mp n q t hq ht).1 M (.inl rfl))⟩
 ·rcases List.mem_or_eq_of_mem_set hu with h1|h1
  ·exact h.ok.th u h1
  ·exact h1 ▸ Jr
 ·rw [<-zv]
  apply List.ext_getElem?
  intro i
  rw [zaj,zaj,List.getElem?_set]
  split
  ·rename_i e
   subst e
   rw [hq]
   rfl
  ·rfl
 ·have hR:mcR (ks.set n {q with pv:=pv'}) s.bytes=mcR ks s.bytes:=by
   unfold mcR
   rw [ki ks n q {q with pv:=pv'} hq rfl,List.length_set]
  rcases wT with wT|⟨m,p,u,hp,hu,wT⟩
  ·rw [hR] at wT
   exact .inl (hf k (.inl wT))
  ·rcases aV hp with ⟨rfl,rfl⟩|⟨hne,zh⟩
   ·rcases aV hu with ⟨-,rfl⟩|⟨hc, -⟩
    ·rcases wT with wT|wT
     ·rcases hr k wT with e|e
      ·exact .inl (hf k (.inr ⟨m,q,t,hq,ht,.inl e⟩))
      ·exact .inr ⟨e,(hx.ob.foot_lt wT).2⟩
     ·exact .inl (hf k (.inr ⟨m,q,t,hq,ht,.inr wT⟩))
    ·exact absurd rfl hc
   ·rcases aV hu with ⟨e, -⟩|⟨-,yD⟩
    ·exact absurd e hne
    ·exact .inl (hf k (.inr ⟨m,p,u,zh,yD,wT⟩))
theorem MacAt.at_call{W:qW}{M n b:Nat}{F:Nat->Prop}{bs:List Nat}{s:MSt}{t:TD}(h:MacAt W M F bs s)(hb:bs[n]?=some b)(ht:s.ts[n]?=some t):qC 16 #[pP M,iI n] W fun e w'=>e= .returned (pP b)/\w'=W:=by
 obtain ⟨tv,bv,ks,zv,hm,hf⟩:=h.at_
 have hk:(ks.map TK.b)[n]?=some b:=by rw [zv];exact hb
 rw [zaj] at hk
 obtain ⟨q,hq,rfl⟩: ∃q,ks[n]?=some q/\q.b=b:=by
  cases hq:ks[n]? with
  |none=>rw [hq] at hk;simp at hk
  |some q=>rw [hq] at hk;exact ⟨q,rfl,by simpa using hk⟩
 exact yeR hm n q hq
end Go.Proofs.YtcekjfmfcefjpaaGreatDoor
