/- Walks. No condition. -/
import Derived.Deep.OwnRows
import Derived.Laws.OwnMore
import Derived.Test.YtjmfoeajhiimnaaGreatDoorG21
set_option maxRecDepth 100000
set_option maxHeartbeats 0
set_option linter.all false
namespace Go.Proofs.YtjmfoeajhiimnaaGreatDoor
section
open Go.RowKit Go.Sort
def pOk(r:List Int×List (Int×Int)):Bool:=decide (r.1.length<=12)&&r.1.all (fun x=>decide (0<=x)&&decide (x<=100000))&&decide (r.2.length<2000)
def aStepB(x:Tri)(s:List Int×Pool):Option (List Int×Pool):=
 if x.1<0\/s.1.length<=x.1.toNat then none else
 let r:=pDrain s.2.used.length x.2.1 s.2.free s.2.used
 if !pOk r||decide (2000<=s.2.next) then none else
 match pTake x.2.2 {s.2 with free:=isort ltD 0 r.1,used:=r.2} with
 |(some p,f)=>some (s.1.set x.1.toNat p,f)
 |(none,_)=>none
def aAll:List Tri->List Int×Pool->Option (List Int×Pool)
 |[],s=>some s
 |x::l,s=>match aStepB x s with
  |none=>none
  |some s1=>aAll l s1
def aAssignB(l:List Tri)(regs:Nat):Option (List Int):=(aAll (isort ltV (0,0,0) l) (List.replicate regs 0,⟨[],[],0,7⟩)).map Prod.fst
theorem uK{r:List Int×List (Int×Int)}(h:pOk r=true):r.1.length<=12/\(∀x∈r.1,0<=x/\x<=100000)/\r.2.length<2000:=by
 simp only [pOk,za0,zau,List.all_eq_true] at h
 exact ⟨h.1.1,h.1.2,h.2⟩
theorem oC{x:Tri}{s s1:List Int×Pool}(h:aStepB x s=some s1):0<=x.1/\x.1.toNat<s.1.length/\pOk (pDrain s.2.used.length x.2.1 s.2.free s.2.used)=true/\s.2.next<2000/\
  ∃p f,pTake x.2.2 {s.2 with free:=isort ltD 0 (pDrain s.2.used.length x.2.1 s.2.free s.2.used).1,used:=(pDrain s.2.used.length x.2.1 s.2.free s.2.used).2}=(some p,f)/\s1=(s.1.set x.1.toNat p,f):=by
 unfold aStepB at h
 split at h
 ·cases h
 ·rename_i h1
  simp only at h
  split at h
  ·cases h
  ·rename_i h2
   simp only [zak,Bool.not_eq_true',zau,not_or,Bool.not_eq_false] at h2
   split at h
   ·rename_i p f hp
    exact ⟨by omega,by omega,h2.1,by omega,p,f,hp,(zae h).symm⟩
   ·cases h
structure AsW(w wr:qW)(Mf Ms K0 g1 c1 n0:Nat)(N:Int)(F1 F2:Nat->Prop)(q:List Int)(P:Pool)(row:List Tri):Prop where
 fast:Po w Mf F1 wr P
 slow:Po w Ms F2 wr ⟨[],[],0,N⟩
 out:wr.ownsRow w.heap.size 3 1 (.slice (aA K0) n0 n0) n0 (q.flatMap numC)
 row:wr.ownsRow w.heap.size 210 3 (.slice (aA g1) row.length c1) row.length (row.flatMap tvC)
 bl:Below w.heap.size w wr
 s1: ¬F1 K0
 s2: ¬F1 g1
 s3: ¬F2 K0
 s4: ¬F2 g1
 s5: ∀k,F1 k-> ¬F2 k
 s6:K0≠g1
section
variable{w wr w1:qW}{Mf Ms K0 g1 c1 n0:Nat}{N:Int}{F1 F2:Nat->Prop}{q:List Int}{P:Pool}{row:List Tri}
theorem bW{X:Nat->Prop}{W W':qW}{B s n c g:Nat}{e:TypeId}{xs:List qV}(h:W.ownsRow B e s (.slice (aA g) n c) n xs)(hk:Kp X W W')(hg: ¬X g):W'.ownsRow B e s (.slice (aA g) n c) n xs:=
 ai h hk (fun k wZ e=>hg (by
  have:g=k:=by simpa [Value.ownBlock] using wZ
  exact this ▸ e))
theorem AsW.below(h:AsW w wr Mf Ms K0 g1 c1 n0 N F1 F2 q P row)(hb:Below wr.heap.size wr w1):AsW w w1 Mf Ms K0 g1 c1 n0 N F1 F2 q P row:=
 ⟨h.fast.below hb,h.slow.below hb,bW h.out (Kp.of_below (X:=fun _=>False) hb) id,bW h.row (Kp.of_below (X:=fun _=>False) hb) id,an h.bl hb h.bl.size,h.s1,h.s2,h.s3,h.s4,h.s5,h.s6⟩
theorem AsW.fastD{P':Pool}{r:qV}{e:Ending}(h:AsW w wr Mf Ms K0 g1 c1 n0 N F1 F2 q P row)(hD:PoD w Mf F1 wr P' r e w1): ∃F',AsW w w1 Mf Ms K0 g1 c1 n0 N F' F2 q P' row/\Kp F1 wr w1/\Rq F1 F' wr.heap.size:=by
 obtain ⟨-,F',k1,k2,k3⟩:=hD
 have l0:=(h.out.lt K0 rfl).2
 have l1:=(h.row.lt g1 rfl).2
 refine ⟨F',⟨k1,h.slow.kp k2 (aI h.bl k2 (fun k hk=>(h.fast.inb hk).1)) (fun k hk e=>h.s5 k e hk),bW h.out k2 h.s1,bW h.row k2 h.s2,aI h.bl k2 (fun k hk=>(h.fast.inb hk).1),fun e=>(k3.r _ e).elim h.s1 (fun e=>by omega),fun e=>(k3.r _ e).elim h.s2 (fun e=>by omega),h.s3,h.s4,fun k hk e=>(k3.r k hk).elim (fun e2=>h.s5 k e2 e) (fun e2=>by have:=(h.slow.inb e).2;omega),h.s6⟩,k2,k3⟩
theorem AsW.slowD{r:qV}{e:Ending}(h:AsW w wr Mf Ms K0 g1 c1 n0 N F1 F2 q P row)(hD:PoD w Ms F2 wr ⟨[],[],0,N⟩ r e w1): ∃F',AsW w w1 Mf Ms K0 g1 c1 n0 N F1 F' q P row/\Kp F2 wr w1:=by
 obtain ⟨-,F',k1,k2,k3⟩:=hD
 have l0:=(h.out.lt K0 rfl).2
 have l1:=(h.row.lt g1 rfl).2
 refine ⟨F',⟨h.fast.kp k2 (aI h.bl k2 (fun k hk=>(h.slow.inb hk).1)) (fun k hk e=>h.s5 k hk e),k1,bW h.out k2 h.s3,bW h.row k2 h.s4,aI h.bl k2 (fun k hk=>(h.slow.inb hk).1),h.s1,h.s2,fun e=>(k3.r _ e).elim h.s3 (fun e=>by omega),fun e=>(k3.r _ e).elim h.s4 (fun e=>by omega),fun k hk e=>(k3.r k e).elim (fun e2=>h.s5 k hk e2) (fun e2=>by have:=(h.fast.inb hk).2;omega),h.s6⟩,k2⟩
theorem AsW.set(h:AsW w wr Mf Ms K0 g1 c1 n0 N F1 F2 q P row)(i:Nat)(hi:i<n0)(hq:q.length=n0)(x:Int):AsW w (wr.setCell ⟨K0,i,none⟩ (iI x)) Mf Ms K0 g1 c1 n0 N F1 F2 (q.set i x) P row:=by
 have hk:Kp (fun k=>k=K0) wr (wr.setCell ⟨K0,i,none⟩ (iI x)):=Kp.set wr K0 i (iI x)
 have hb:=aI h.bl hk (fun k e=>e ▸ (h.out.lt K0 rfl).1)
 have ho:=bH h.out i Za (iI x)
 rw [gG q i Za x] at ho
 exact ⟨h.fast.kp hk hb (fun k hk e=>h.s1 (e ▸ hk)),h.slow.kp hk hb (fun k hk e=>h.s3 (e ▸ hk)),ho,bW h.row hk (fun e=>h.s6 e.symm),hb,h.s1,h.s2,h.s3,h.s4,h.s5,h.s6⟩
end
theorem ydH{α:Type}{l:List α}{j:Nat}{x:α}(h:l[j]?=some x):l.drop j=x::l.drop (j+1):=by
 obtain ⟨hj,rfl⟩:=List.getElem?_eq_some_iff.1 h
 exact zaS hj
def AsD(w:qW)(pl:List Int)(e:Ending)(w':qW):Prop:= ∃g c,e= .returned (.tuple #[.slice (aA g) pl.length c,iI 0])/\Below w.heap.size w w'/\w'.ownsRow w.heap.size 3 1 (.slice (aA g) pl.length c) pl.length (pl.flatMap numC)
theorem oD: ∀(l:List Tri) (s t:List Int×Pool),aAll l s=some t->t.1.length=s.1.length:=by
 intro l
 induction l with
 |nil=>
  intro s t h
  rw [<-zae h]
 |cons x l ih=>
  intro s t h
  unfold aAll at h
  split at h
  ·cases h
  ·rename_i s1 hs
   obtain ⟨-, -, -, -,p,f, -,rfl⟩:=oC hs
   rw [ih _ _ h]
   simp
theorem kA(w:qW)(N:Int)(h0:0<=N/\N<=2000)(W:qW)(hb:Below w.heap.size w W):Po w W.heap.size (fun k=>k=W.heap.size) (W.alloc (.cells #[.slice none 0 0,.slice none 0 0,iI 0,iI N] 219)) ⟨[],[],0,N⟩:=by
 have hs:=hb.size
 refine ⟨.slice none 0 0,.slice none 0 0,⟨zab _ _,?_,?_,?_⟩,fun k=>?_,ab hb _,hs,⟨by simp,by simp,by simp,h0⟩⟩
 ·intro r hr
  simp only [poR,zaM,zaN,or_false] at hr
  rcases hr with rfl|rfl<;>exact zaX _ _ _ _
 ·simp [poR]
 ·intro r hr q hq hne k hk
  simp only [poR,zaM,zaN,or_false] at hr
  rcases hr with rfl|rfl<;>cases hk
 ·unfold foot
  constructor
  ·exact fun e=> .inl e
  ·rintro (e|⟨r,hr,hk⟩)
   ·exact e
   ·simp only [poR,zaM,zaN,or_false] at hr
    rcases hr with rfl|rfl<;>cases hk
theorem uX{w:qW}{B:Nat}(n:Nat)(hB:B<=w.heap.size)(hn:n<=9223372036854775807):(w.alloc (.cells (madeCells #[iI 0] n) 3)).ownsRow B 3 1 (.slice (aA w.heap.size) n n) n ((List.replicate n (0:Int)).flatMap numC):=by
 have he:(List.replicate n (0:Int)).flatMap numC=List.replicate n (iI 0):=by
  induction n with
  |zero=>rfl
  |succ n ih=>rw [List.replicate_succ,zaf,ih Za,List.replicate_succ];rfl
 rw [he]
 refine ⟨by simp,.inr ⟨w.heap.size,n,_,rfl,hB,zab _ _,zaq _,hn,by rw [size_madeCells,Nat.mul_one],?_⟩⟩
 rw [toList_madeCells_one]
 simp
theorem yfl(w:qW)(g c:Nat)(l:List Tri)(h0:0<l.length)(hl:l.length<=20)(hg:g<w.heap.size)(hR:RowC w g (l.flatMap tvC))(hc:l.length<=c)(yB:c<=9223372036854775807)(regs:Nat)(NY:regs<=2000)(pl:List Int)(h:aAssignB l regs=some pl):
  qC 54 #[.slice (aA g) l.length c,iI regs,iI 7] w (AsD w pl):=by
 obtain ⟨i1,Bm,AN,Bs,Aj⟩:=zan ij
 unfold aAssignB at h
 rw [za1] at h
 obtain ⟨⟨plx,Pf⟩,xw,rfl⟩:=h
 have xd:=oD _ _ _ xw
 simp only [List.length_replicate] at xd
 simp only
 rw [show (AsD w plx)=(AsD w plx) from rfl]
 have Cw:=Zh xw
 have CL:=Zh (yeo w g c l h0 Za hg hR hc yB)
 have DH:(isort ltV (0,0,0) l).length=l.length:=ig _ _ _ _ _
 generalize Lu:isort ltV (0,0,0) l=sr at*
 have KN:=Zh Lu
 clear xw hR Lu
 go_enter Tryz.func54,Tryz.ntmps54
 go_wp2_with fail
 go_at_call 80
 refine CL.out.mono ?_
 rintro e w1 ⟨g1,c1,rfl,yn,Bc⟩
 have zl:=Zh yn
 have C2:=Zh (rq w1 w.heap.size g1 c1 l Bc hl)
 rw [KN.out] at C2
 have xy:=Bc.lt g1 rfl
 clear yn Bc CL
 go_wp2_with fail
 go_at_call 81
 refine C2.out.mono ?_
 rintro e w2 ⟨rfl,xZ,AB⟩
 have xA:Below w.heap.size w w2:=aI zl.out xZ (fun k e=>e ▸ xy.1)
 have yH:=xA.size
 have Ag:=AB.lt g1 rfl
 clear xZ C2
 have z8:=Zh AB
 have xV:=Zh xA
 clear AB xA
 go_wp2_with (refine wpList_make_row _ rfl (.tmp 24) (.tmp 24) 46 rfl 3 i1 _ Tryz.underlying46 Bm AN Bs rfl .i64 .i64 regs rfl rfl (by rw [Aj];omega) Za ?_)
 have A9:AsW w (((w2.alloc (.cells (madeCells #[iI 0] regs) 3)).alloc (.cells #[.slice none 0 0,.slice none 0 0,iI 0,iI 7] 219)).alloc (.cells #[.slice none 0 0,.slice none 0 0,iI 0,iI l.length] 219)) (w2.heap.size+1) (w2.heap.size+2) w2.heap.size g1 c1 regs l.length (fun k=>k=w2.heap.size+1) (fun k=>k=w2.heap.size+2) (List.replicate regs 0) ⟨[],[],0,7⟩ sr:=by
  have e1:(w2.alloc (.cells (madeCells #[iI 0] regs) 3)).heap.size=w2.heap.size+1:=by simp [go_sem]
  have e2:((w2.alloc (.cells (madeCells #[iI 0] regs) 3)).alloc (.cells #[.slice none 0 0,.slice none 0 0,iI 0,iI 7] 219)).heap.size=w2.heap.size+2:=by simp [go_sem]
  have b0:=xV.out.alloc yH (.cells (madeCells #[iI 0] regs) 3)
  have p1:=kA w 7 Za _ b0
  have b1:=b0.alloc (by rw [e1];omega) (.cells #[.slice none 0 0,.slice none 0 0,iI 0,iI 7] 219)
  have p2:=kA w l.length Za _ b1
  have b2:=b1.alloc (by rw [e2];omega) (.cells #[.slice none 0 0,.slice none 0 0,iI 0,iI l.length] 219)
  rw [e1] at p1
  rw [e2] at p2
  have o1:=uX (w:=w2) (B:=w.heap.size) regs yH Za
  have Gu:Kp (fun _=>False) w2 (((w2.alloc (.cells (madeCells #[iI 0] regs) 3)).alloc (.cells #[.slice none 0 0,.slice none 0 0,iI 0,iI 7] 219)).alloc (.cells #[.slice none 0 0,.slice none 0 0,iI 0,iI l.length] 219)):=(((Kp.refl _ _).alloc _).alloc _).alloc _
  have yL:=z8.out
  rw [<-DH] at yL
  have hr:=bW yL Gu id
  exact ⟨p1.below (ab (zaa _ _) _),p2,bW o1 (((Kp.refl (fun _=>False) _).alloc _).alloc _) id,hr,b2,by omega,by omega,by omega,by omega,fun k e e2=>by omega,by omega⟩
 have Jn:=Zh A9
 clear A9 z8 xV zl
 go_loopw [36] (fun v36 wr=> ∃(j:Nat) (q:List Int) (P:Pool) (F1 F2:Nat->Prop),v36=iI j/\j<=l.length/\q.length=regs/\Hid (AsW w wr (w2.heap.size+1) (w2.heap.size+2) w2.heap.size g1 c1 regs l.length F1 F2 q P sr)/\Hid (aAll (sr.drop j) (q,P)=some (plx,Pf))) (fun v36 _=>l.length-(intOf v36).toNat)
 case atStart=>exact ⟨0,_,_,_,_,rfl,zaB _,by simp,Jn,Cw⟩
 case round=>
  obtain ⟨j,q,P,F1,F2,rfl,hj,hq,HA,HL⟩:=hrel
  by_cases zh:j<l.length
  ·obtain ⟨x,hx⟩: ∃x,sr[j]?=some x:=⟨sr[j],zaC Za⟩
   have xz:=HL.out
   rw [ydH hx] at xz
   unfold aAll at xz
   split at xz
   ·cases xz
   rename_i s1 yK
   obtain ⟨x0,x1,x2,x3,pp,f,hT,rfl⟩:=oC yK
   obtain ⟨k1,k2,k3⟩:=uK x2
   simp only at x1 hT
   obtain ⟨rg,F6⟩: ∃rg:Nat,x.1=rg:=⟨x.1.toNat,by omega⟩
   have AR:rg<regs:=by omega
   have hd:sr.getD j (0,0,0)=x:=by rw [zaU,hx];rfl
   obtain ⟨c0,c1',c2'⟩:=dD HA.out.row (i:=j) Za
   rw [hd] at c0 c1' c2'
   rw [F6] at c0
   have xb:=(HA.out.row.lt g1 rfl).2
   have zk:=Zh xz
   have HT:=Zh hT
   generalize Mb:pDrain P.used.length x.2.1 P.free P.used=R at*
   have QA:=Zh Mb
   clear hx xz yK hT hd Mb HL x2
   go_wp2_with fail
   have HAx:=Zh (HA.out.below (ab (zaa wr.heap.size wr) (.cells #[iI rg,iI x.2.1,iI x.2.2] 210)))
   have Gu:(wr.alloc (.cells #[iI rg,iI x.2.1,iI x.2.2] 210)).heap[wr.heap.size]?=some (.cells #[iI rg,iI x.2.1,iI x.2.2] 210 (0,0)):=zab _ _
   have Hg: ¬F1 wr.heap.size:=fun e=>by have:=(HA.out.fast.inb e).2;omega
   have Eb: ¬F2 wr.heap.size:=fun e=>by have:=(HA.out.slow.inb e).2;omega
   have J8:wr.heap.size<(wr.alloc (.cells #[iI rg,iI x.2.1,iI x.2.2] 210)).heap.size:=by simp [go_sem]
   generalize (wr.alloc (.cells #[iI rg,iI x.2.1,iI x.2.2] 210))=Wa at HAx Gu J8 ⊢
   go_at_call 85
   refine (nN Wa HAx.out.fast x.2.1 R QA.out k1 k2).mono ?_
   intro e wb hD
   obtain rfl:=hD.1
   obtain ⟨F1',M6,zG,NZ⟩:=HAx.out.fastD hD
   have Di:=(zG.block wr.heap.size J8 Hg).trans Gu
   have Kz: ¬F1' wr.heap.size:=fun e=>(NZ.r _ e).elim Hg (fun e=>by omega)
   have qk: ∀i,wb.cell? (aB wr.heap.size i)=(#[iI rg,iI x.2.1,iI x.2.2]:Array qV)[i]?:=aa Di
   have HAb:=Zh M6
   have CN:=ac Di
   clear hD M6 zG Gu J8 c0 c1' c2' HAx
   go_wp2_with fail
   go_at_call 85
   refine (nN wb HAb.out.slow x.2.1 ([],[]) rfl Zg Zg).mono ?_
   intro e wc hD
   obtain rfl:=hD.1
   obtain ⟨F2',M5,LY⟩:=HAb.out.slowD hD
   have Dh:=(LY.block wr.heap.size CN Eb).trans Di
   have qk: ∀i,wc.cell? (aB wr.heap.size i)=(#[iI rg,iI x.2.1,iI x.2.2]:Array qV)[i]?:=aa Dh
   have HAc:=Zh M5
   have Fr:=ac Dh
   clear hD M5 LY Di CN HAb
   go_wp2_with fail
   go_at_call 86
   refine (pT wc HAc.out.fast x.2.2 pp f HT.out k3 x3).mono ?_
   intro e wd hD
   obtain rfl:=hD.1
   obtain ⟨F3,I7,zP, -⟩:=HAc.out.fastD hD
   have Gt:=(zP.block wr.heap.size Fr Kz).trans Dh
   have qk: ∀i,wd.cell? (aB wr.heap.size i)=(#[iI rg,iI x.2.1,iI x.2.2]:Array qV)[i]?:=aa Gt
   have yf:=cS I7.out (i:=rg) Za
   have Q0:=cJ I7.out
   have HAd:=Zh I7
   clear hD I7 zP Dh Gt Fr HAc
   go_wp2_with fail
   refine ⟨⟨j+1,q.set rg pp,f,F3,F2',by go_num,by omega,by simp;exact hq,Zh ?_,Zh ?_⟩,by simp [intOf];omega⟩
   ·exact HAd.out.set rg Za hq pp
   ·have:=zk.out
    rw [F6] at this
    simp only [Int.toNat_natCast] at this
    exact this
  ·obtain rfl:j=l.length:=by omega
   have hL:=HL.out
   rw [<-DH,List.drop_length] at hL
   simp only [aAll,zaA,Prod.mk.injEq] at hL
   obtain ⟨rfl,rfl⟩:=hL
   have DI:wr.cell? ⟨w2.heap.size+1+1,2,none⟩=some (iI 0):=by
    obtain ⟨sfv,suv,DF⟩:=HA.out.slow
    exact (aa DF.ob.out 2).trans rfl
   go_wp2_with fail
   have hA:wr.drew.cell? ⟨w2.heap.size+1+1,2,none⟩=some (iI 0):=DI
   have hB:True:=trivial
   refine ae (fun W=>W.cell? ⟨w2.heap.size+1+1,2,none⟩=some (iI 0)) (fun W=>True) 6 rfl ?_
   refine Zp 0 rfl (h:=Zp 1 rfl (h:=Zp 2 rfl (h:=Zp 3 rfl (h:=Zt 4 rfl (h:=?_)))));try simp only [Zq]
   refine Zs 5 rfl fun K hK=>?_
   go_simp
   refine hK _ _ ⟨hA,fun _=>trivial⟩ ?_
   clear hK K
   refine Zs 6 rfl fun K hK=>?_
   go_simp
   refine hK _ _ ⟨hA,fun _=>trivial⟩ ?_
   clear hK K
   refine af Zb ?_ _
   go_wp2_with fail
   refine zad (by simp [results,Tryz.results54,go_sem];try rfl) rfl ?_
   have h9:=HA.out.below (ag (zaa wr.heap.size wr))
   refine ⟨w2.heap.size,regs,?_,h9.bl,?_⟩
   ·simp only [xd]
   ·have:=h9.out
    rw [<-xd] at this ⊢
    exact this
def EThD(v:qW)(r:List Ins×List Int×List Int)(e:Ending)(w':qW):Prop:=
 ∃g1 c1 g2 c2 g3 c3,e= .returned (.tuple #[.slice (aA g1) r.1.length c1,.slice (aA g2) r.2.1.length c2,.slice (aA g3) r.2.2.length c3,iI 0])/\Below v.heap.size v w'/\
  (RowC w' g1 (r.1.flatMap insC)/\r.1.length<=c1/\v.heap.size<=g1/\g1<w'.heap.size)/\(RowC w' g2 (r.2.1.flatMap numC)/\r.2.1.length<=c2/\v.heap.size<=g2/\g2<w'.heap.size)/\(RowC w' g3 (r.2.2.flatMap numC)/\r.2.2.length<=c3/\v.heap.size<=g3/\g3<w'.heap.size)
theorem ydu(v:qW)(ops:List OpD)(g c:Nat)(hc:ops.length<=c)(yB:c<=9223372036854775807)(hg:g<v.heap.size)(hO:RowC v g (ops.flatMap opC))(pl:List Int)(pg pc:Nat)(hP:PlB v (.slice (aA pg) pl.length pc) pl pg pc)(priv:Nat)(Ga:priv<18446744073709551616)(xr:eOk ops pl priv=true)(r:List Ins×List Int×List Int)(hr:eThread ops pl priv=some r):
  qC 56 #[.slice (aA g) ops.length c,.slice (aA pg) pl.length pc,.int .u64 priv] v (EThD v r):=by
 simp only [eOk,za0] at xr
 obtain ⟨xw,Aq⟩:=xr
 have LN:=@run_makeMap Tryz.prog
 have HM:=Zh (EmA.begin (ydx v (.slice (aA pg) pl.length pc) _ (fun _=>Iff.rfl)))
 have JZ:(eCst 28 priv ⟨[],[],[],0,[],[],0⟩).line=0:=(ELe.cst 28 priv ⟨[],[],[],0,[],[],0⟩).line.symm
 have zX:EFin (eCst 28 priv ⟨[],[],[],0,[],[],0⟩):=((ELn.all ops _ xw).trans (ELe.add (nI 31) _).n).fin Aq (by rw [JZ];exact ⟨by decide,by decide⟩)
 have HR:=Zh hr
 have FG:=Zh hP
 have Ef:=Zh Aq
 have Cw:=Zh xw
 have HO:=Zh hO
 clear hr hP Aq xw hO
 go_enter Tryz.func56,Tryz.ntmps56
 go_wp2_with fail
 generalize ((v.alloc (.map #[] 0)).alloc (.cells #[.slice (aA pg) pl.length pc,.slice none 0 0,.slice none 0 0,.slice none 0 0,iI 0,.map (some v.heap.size),.slice none 0 0,iI 0] 238))=w at HM ⊢
 (go_at_call 92;refine (iG _ ((EmA.bel HM.out Z7):EmA _ _ _ _ w _ _ _).em 28 priv Ga zX).mono ?_;intro e w1 hD;obtain rfl:=hD.1;obtain ⟨F2,hM,Cl,Fx⟩:=EmA.nextb HM.out Z7 hD;clear hD;(try clear i');(try clear pi);(try clear j');obtain ⟨ov,sv,lv,bv,B,i',pi,oa,oc,rfl⟩:=hM.em.rules;have j':=hM.em.bd;replace HM:=Zh hM;clear hM;have HK:=Zh Cl;clear Cl)
 go_wp2_with fail
 have FF:Hid (rng (eCst 28 priv ⟨[],[],[],0,[],[],0⟩).line):=Zh zX.line
 have Aw:Hid (eFine (eAdd (nI 31) (ops.foldl (fun s o=>eStep pl o s) (eCst 28 priv ⟨[],[],[],0,[],[],0⟩)))=true):=Ef
 have AK:Hid (eThread ops pl priv=some r):=HR
 unfold eThread at AK
 generalize eCst 28 priv ⟨[],[],[],0,[],[],0⟩=s1 at*
 clear i' pi Fx HK JZ zX Ef HR
 go_loopw [26] (fun v26 wr=> ∃(j:Nat) (F1:Nat->Prop),v26=iI j/\j<=ops.length/\Hid (EmA v (v.heap.size+1) _ (.slice (aA pg) pl.length pc) w wr F1 ((ops.take j).foldl (fun s o=>eStep pl o s) s1))) (fun v26 _=>ops.length-(intOf v26).toNat)
 case atStart=>exact ⟨0,_,rfl,zaB _,HM⟩
 case round=>
  obtain ⟨j,F1,rfl,hj,HM⟩:=hrel
  have j':=HM.out.em.bd
  by_cases zh:j<ops.length
  ·obtain ⟨y,hy⟩: ∃y,ops[j]?=some y:=⟨ops[j],zaC zh⟩
   have xh: ∀k u,k<13->(opC y)[k]?=some u->wr.cell? ⟨g,j*13+k,none⟩=some u:=fun k u hk hu=>(HM.out.em.bl.cell (p:=⟨g,j*13+k,none⟩) hg).trans (HO.out (j*13+k) u (by rw [bJ (f:=opC) (z:=13) (fun _=>rfl) hy k hk];exact hu))
   have c0:=xh 0 _ Za rfl
   have c1:=xh 1 _ Za rfl
   have c2:=xh 2 _ Za rfl
   have c3:=xh 3 _ Za rfl
   have c4:=xh 4 _ Za rfl
   have c5:=xh 5 _ Za rfl
   have c6:=xh 6 _ Za rfl
   have c7:=xh 7 _ Za rfl
   have c8:=xh 8 _ Za rfl
   have c9:=xh 9 _ Za rfl
   have c10:=xh 10 _ Za rfl
   have c11:=xh 11 _ Za rfl
   have c12:=xh 12 _ Za rfl
   rw [Nat.add_zero] at c0
   have Jp:opOk pl y=true:=List.all_eq_true.1 Cw.out y (zat hy)
   have ya:EFin (eStep pl y ((ops.take j).foldl (fun s o=>eStep pl o s) s1)):=by
    have e:ops=ops.take (j+1)++ops.drop (j+1):=(List.take_append_drop _ _).symm
    have h1:=Aw.out
    have h2:=Cw.out
    rw [e,zaD,dw hy,zaD] at h1
    rw [e,List.all_append,za0] at h2
    exact ((ELn.all _ _ h2.2).trans (ELe.add _ _).n).fin h1 (jw Jp _)
   have HY:=Zh hy
   have PC:=Zh Jp
   clear xh hy Jp
   generalize yK:(ops.take j).foldl (fun s o=>eStep pl o s) s1=sj at*
   have FF:=Zh yK
   clear yK
   go_wp2_with (go_at_call 93;refine (qQ FG.out _ ((EmA.bel HM.out Z7):EmA _ _ _ _ w _ _ _).em y PC.out ya).mono ?_;intro e w1 hD;obtain rfl:=hD.1;obtain ⟨F2,hM,Cl,Fx⟩:=EmA.nextb HM.out Z7 hD;clear hD;(try clear i');(try clear pi);(try clear j');obtain ⟨ov,sv,lv,bv,B,i',pi,oa,oc,rfl⟩:=hM.em.rules;have j':=hM.em.bd;replace HM:=Zh hM;clear hM;have HK:=Zh Cl;clear Cl)
   refine ⟨⟨j+1,F2,by go_num,zh,?_⟩,by simp [intOf];omega⟩
   rw [dw HY.out,zaD,FF.out]
   exact HM
  ·obtain rfl:j=ops.length:=by omega
   rw [List.take_length] at HM
   have AR:rng (ops.foldl (fun s o=>eStep pl o s) s1).line:=by
    rcases List.eq_nil_or_concat ops with h0|⟨l,y,h0⟩
    ·rw [h0];exact FF.out
    ·rw [h0,List.concat_eq_append,zaD]
     exact jw (List.all_eq_true.1 Cw.out y (by rw [h0];simp)) _
   have yM:EFin (eAdd (nI 31) (ops.foldl (fun s o=>eStep pl o s) s1)):=(ELn.refl _).fin Aw.out AR
   generalize ops.foldl (fun s o=>eStep pl o s) s1=s2 at*
   have e31:nI 31=⟨31,0,0,0,0,0,0⟩:=rfl
   rw [e31] at Aw AK yM
   go_wp2_with fail
   (go_at_call 94;refine (cd _ ((EmA.bel HM.out Z7):EmA _ _ _ _ w _ _ _).em ⟨31,0,0,0,0,0,0⟩ yM).mono ?_;intro e w1 hD;obtain rfl:=hD.1;obtain ⟨F2,hM,Cl,Fx⟩:=EmA.nextb HM.out Z7 hD;clear hD;(try clear i');(try clear pi);(try clear j');obtain ⟨ov,sv,lv,bv,B,i',pi,oa,oc,rfl⟩:=hM.em.rules;have j':=hM.em.bd;replace HM:=Zh hM;clear hM;have HK:=Zh Cl;clear Cl)
   clear i' pi Fx HK AR e31
   have Oe:0<(eAdd ⟨31,0,0,0,0,0,0⟩ s2).out.length:=by simp [eAdd,eAt]
   have JK:0<(eAdd ⟨31,0,0,0,0,0,0⟩ s2).sites.length:=by simp [eAdd,eAt]
   have Od:0<(eAdd ⟨31,0,0,0,0,0,0⟩ s2).lines.length:=by simp [eAdd,eAt]
   generalize eAdd ⟨31,0,0,0,0,0,0⟩ s2=s3 at*
   have xY:=Aw.out
   simp only [eFine,za0,zau,List.all_eq_true] at xY
   obtain ⟨⟨⟨⟨⟨⟨⟨b1,b2⟩,b3⟩,b4⟩,b5⟩,b6⟩,b7⟩,b8⟩:=xY
   have yL:=AK.out
   split at yL
   ·cases yL
   rename_i JC
   simp only [ne_eq,Decidable.not_not] at JC
   obtain ⟨Re,DG⟩:=ydC _ _ _ _ JC
   have Ht:=Zh (zae yL)
   rw [ydD] at Ht
   clear yL JC AK Aw FF hj zh
   obtain ⟨ov,sv,lv,bv,B,hx⟩:=HM.out.em
   obtain ⟨oa,oc,rfl,ol,ocm,onl,oat⟩:=aC (hx.ob.own ⟨1,83,7,s3.out.length,s3.out.flatMap insC⟩ (by simp [emR]))
   obtain ⟨ba,bc,rfl,bll,bcm,bnl,bat⟩:=aC (hx.ob.own ⟨6,243,2,s3.brs.length,s3.brs.flatMap brC⟩ (by simp [emR]))
   obtain ⟨og,rfl⟩: ∃og,oa=aA og:=by
    cases oa with
    |none=>have h9:s3.out.length=0:=(onl rfl).1;omega
    |some p=>exact ⟨p.block,by rw [oat p rfl]⟩
   clear onl oat
   obtain ⟨sa,sc,rfl,sl,scm,snl,sat⟩:=aC (hx.ob.own ⟨2,3,1,s3.sites.length,s3.sites.flatMap numC⟩ (.tail _ (.head _)))
   obtain ⟨sg,rfl⟩: ∃sg,sa=aA sg:=by
    cases sa with
    |none=>have h9:s3.sites.length=0:=(snl rfl).1;omega
    |some p=>exact ⟨p.block,by rw [sat p rfl]⟩
   clear snl sat
   obtain ⟨la,lc,rfl,ll,lcm,lnl,lat⟩:=aC (hx.ob.own ⟨3,3,1,s3.lines.length,s3.lines.flatMap numC⟩ (.tail _ (.tail _ (.head _))))
   obtain ⟨lg,rfl⟩: ∃lg,la=aA lg:=by
    cases la with
    |none=>have h9:s3.lines.length=0:=(lnl rfl).1;omega
    |some p=>exact ⟨p.block,by rw [lat p rfl]⟩
   clear lnl lat
   have q1: ∀j,w1.cell? ⟨v.heap.size+1,j,none⟩=(#[.slice (aA pg) pl.length pc,.slice (aA og) s3.out.length oc,.slice (aA sg) s3.sites.length sc,.slice (aA lg) s3.lines.length lc,iI s3.line,.map (some B),.slice ba s3.brs.length bc,iI s3.e]:Array qV)[j]?:=aa hx.ob.out
   have HX:=Zh hx
   clear hx
   have Nv:Hid (0<s3.brs.length-> ∃bg,ba=aA bg):=Zh (fun h0=>by
    cases ba with
    |none=>have h9:s3.brs.length=0:=(bnl rfl).1;omega
    |some p=>exact ⟨p.block,by rw [bat p rfl]⟩)
   clear bnl bat
   have B7:=Zh b7
   have B8:=Zh b8
   have PP:=Zh DG
   clear b7 b8 DG
   go_wp2_with fail
   clear q1
   go_loopw [42] (fun v42 wr=> ∃j:Nat,v42=iI j/\j<=s3.brs.length/\Hid (EmX v (v.heap.size+1) F2 (.slice (aA pg) pl.length pc) (.slice (aA og) s3.out.length oc) (.slice (aA sg) s3.sites.length sc) (.slice (aA lg) s3.lines.length lc) (.slice ba s3.brs.length bc) B wr {s3 with out:=(s3.brs.take j).foldl (ePat s3.labels) s3.out})) (fun v42 _=>s3.brs.length-(intOf v42).toNat)
   case atStart=>exact ⟨0,rfl,zaB _,HX⟩
   case round=>
    obtain ⟨j,rfl,hj,HX⟩:=hrel
    have xd:=ydB s3.labels (s3.brs.take j) s3.out
    have j':=HX.out.bd
    have q1: ∀j,wr.cell? ⟨v.heap.size+1,j,none⟩=(#[.slice (aA pg) pl.length pc,.slice (aA og) s3.out.length oc,.slice (aA sg) s3.sites.length sc,.slice (aA lg) s3.lines.length lc,iI s3.line,.map (some B),.slice ba s3.brs.length bc,iI s3.e]:Array qV)[j]?:=aa HX.out.ob.out
    by_cases zh:j<s3.brs.length
    ·obtain ⟨bg,rfl⟩:=Nv.out Za
     obtain ⟨y,hy⟩: ∃y,s3.brs[j]?=some y:=⟨s3.brs[j],zaC zh⟩
     have Bt:=HX.out.ob.own ⟨6,243,2,s3.brs.length,s3.brs.flatMap brC⟩ (.tail _ (.tail _ (.tail _ (.head _))))
     have xh: ∀k u,k<2->(brC y)[k]?=some u->wr.cell? ⟨bg,j*2+k,none⟩=some u:=fun k u hk hu=>by
      have:=Bt.cells (g:=bg) rfl (j*2+k) u (by rw [bJ (f:=brC) (z:=2) (fun _=>rfl) hy k hk];exact hu)
      rw [bN] at this
      exact this
     have c0:=xh 0 _ Za rfl
     have c1:=xh 1 _ Za rfl
     rw [Nat.add_zero] at c0
     have AG:=Bt.lt bg rfl
     clear xh Bt q1
     go_wp2_with fail
     refine aS (R:=fun W=>EmX v (v.heap.size+1) F2 (.slice (aA pg) pl.length pc) (.slice (aA og) s3.out.length oc) (.slice (aA sg) s3.sites.length sc) (.slice (aA lg) s3.lines.length lc) (.slice (aA bg) s3.brs.length bc) B W {s3 with out:=(s3.brs.take j).foldl (ePat s3.labels) s3.out}/\W.heap[wr.heap.size]?=some (.cells #[iI y.1,iI y.2] 243 (0,0))/\wr.heap.size<W.heap.size) ⟨HX.out.below (ab (zaa _ _) _),zab _ _,by simp [go_sem]⟩ ?_
     clear c0 c1
     rintro W ⟨hX,hK,yc⟩
     have Jq:=zat hy
     obtain ⟨⟨y1,y2⟩,y3⟩:=B7.out y Jq
     have F0:=PP.out y Jq
     obtain ⟨tt,C8⟩:=Option.isSome_iff_exists.1 F0
     have Fg:=B8.out _ (ydE C8)
     simp only at Fg
     have Fc:=bU y3
     obtain ⟨yk,Lj⟩: ∃yk:Nat,y.1=yk:=⟨y.1.toNat,by omega⟩
     have FO:yk<s3.out.length:=by omega
     have hoB:=hX.ob.own ⟨1,83,7,{s3 with out:=(s3.brs.take j).foldl (ePat s3.labels) s3.out}.out.length,{s3 with out:=(s3.brs.take j).foldl (ePat s3.labels) s3.out}.out.flatMap insC⟩ (.head _)
     have QZ:=hoB.lt og rfl
     have DU:wr.heap.size≠og:=fun e=>by
      have:=(HX.out.ob.own ⟨1,83,7,{s3 with out:=(s3.brs.take j).foldl (ePat s3.labels) s3.out}.out.length,{s3 with out:=(s3.brs.take j).foldl (ePat s3.labels) s3.out}.out.flatMap insC⟩ (.head _)).lt og rfl
      omega
     have qim:W.cell? ⟨og,yk*7+6,none⟩=some (iI (({s3 with out:=(s3.brs.take j).foldl (ePat s3.labels) s3.out}.out.getD yk (nI 0)).imm)):=by
      have h9:{s3 with out:=(s3.brs.take j).foldl (ePat s3.labels) s3.out}.out[yk]?=some ({s3 with out:=(s3.brs.take j).foldl (ePat s3.labels) s3.out}.out.getD yk (nI 0)):=by
       rw [zaU,zaC (by rw [xd];exact FO)]
       rfl
      have:=hoB.cells (g:=og) rfl (yk*7+6) _ (by rw [bJ (f:=insC) (z:=7) (fun _=>rfl) h9 6 Za];rfl)
      rw [bN] at this
      exact this
     have qif: ∀i,W.frozen? (aB og i)=false:=by
      rcases hoB.2 with ⟨e1, -⟩|⟨g1,cap,cur,e1,h2,h3,h4,h5,h6,h7⟩
      ·cases e1
      ·injection e1 with e1
       obtain rfl:og=g1:=by simpa using e1
       exact ah h3
     obtain ⟨cc,Bu,xh⟩:=(hX.map.keep (show W.drew.heap[B]?=W.heap[B]? from rfl)).look y.2 (by simp [Lit.wf,IntKind.min,IntKind.max,IntKind.signed,IntKind.bits];exact Fc)
     simp only [C8,Option.isSome_some] at Bu
     obtain rfl:cc=tt:=xh tt C8
     have qm: ∀j,W.cell? ⟨v.heap.size+1,j,none⟩=(#[.slice (aA pg) pl.length pc,.slice (aA og) s3.out.length oc,.slice (aA sg) s3.sites.length sc,.slice (aA lg) s3.lines.length lc,iI s3.line,.map (some B),.slice (aA bg) s3.brs.length bc,iI s3.e]:Array qV)[j]?:=aa hX.ob.out
     have qk: ∀j,W.cell? (aB wr.heap.size j)=(#[iI y.1,iI y.2]:Array qV)[j]?:=aa hK
     have O6:=hX.bd
     replace HX:=Zh hX
     have HY:=Zh hy
     have KI:=Zh C8
     clear hX hK hoB F0 C8 xh Jq hy y3 Nv
     have wZ:=qk 1
     have ym:=qk 0
     have Oj:=qm 5
     have Bd:=qm 1
     refine ae (fun W=>W.cell? ⟨v.heap.size+1,5,none⟩=some (.map (some B))/\W.cell? (aB wr.heap.size 1)=some (iI y.2)) (fun W=>True) 6 rfl ?_
     have hA:W.drew.cell? ⟨v.heap.size+1,5,none⟩=some (.map (some B))/\W.drew.cell? (aB wr.heap.size 1)=some (iI y.2):=⟨Oj,wZ⟩
     have hB:True:=trivial
     refine Zp 0 rfl (h:=Zp 1 rfl (h:=Zp 2 rfl (h:=Zt 3 rfl (h:=Zp 4 rfl (h:=Zt 5 rfl (h:=?_))))));try simp only [Zq]
     refine Zs 6 rfl fun K hK=>?_
     go_simp
     refine hK _ _ ⟨hA,fun _=>trivial⟩ ?_
     clear hK K
     refine Zp 7 rfl (h:=Zp 8 rfl (h:=Zp 9 rfl (h:=?_)));try simp only [Zq]
     refine Zs 10 rfl fun K hK=>?_
     go_simp
     refine hK _ _ ⟨hA,fun _=>trivial⟩ ?_
     clear hK K
     refine Zs 11 rfl fun K hK=>?_
     go_simp
     refine hK _ _ ⟨hA,fun _=>trivial⟩ ?_
     clear hK K
     refine af Zb ?_ _
     go_wp2_with fail
     rw [Lj] at ym
     clear hA hB
     refine ae (fun W=>W.cell? ⟨v.heap.size+1,1,none⟩=some (.slice (aA og) s3.out.length oc)/\W.cell? (aB wr.heap.size 0)=some (iI yk)) (fun W=>True) 12 rfl ?_
     have hA:W.drew.drew.cell? ⟨v.heap.size+1,1,none⟩=some (.slice (aA og) s3.out.length oc)/\W.drew.drew.cell? (aB wr.heap.size 0)=some (iI yk):=⟨Bd,ym⟩
     have hB:True:=trivial
     refine Zp 0 rfl (h:=Zp 1 rfl (h:=Zp 2 rfl (h:=Zt 3 rfl (h:=Zp 4 rfl (h:=Zt 5 rfl (h:=Zp 6 rfl (h:=Zp 7 rfl (h:=Zt 8 rfl (h:=Zp 9 rfl (h:=Zp 10 rfl (h:=Zp 11 rfl (h:=?_))))))))))));try simp only [Zq]
     refine Zs 12 rfl fun K hK=>?_
     go_simp
     refine hK _ _ ⟨⟨(zaH _ _ _ _ (fun e=>by have:=congrArg Addr.block e;simp only at this;omega)).trans Bd,(zaH _ _ _ _ (fun e=>by have:=congrArg Addr.block e;simp only at this;omega)).trans ym⟩,fun _=>trivial⟩ ?_
     clear hK K
     refine af Zb ?_ _
     go_wp2_with fail
     refine ⟨⟨j+1,by go_num,by omega,Zh ?_⟩,by simp [intOf];omega⟩
     rw [dw HY.out,zaD]
     have hd:=HX.out.below (ag (ag (zaa W.heap.size W)))
     refine EmX.patch xd hd Za (by rw [List.foldl_cons,List.foldl_nil,nk]) ?_
     simp only [List.foldl_cons,List.foldl_nil]
     generalize (s3.brs.take j).foldl (ePat s3.labels) s3.out=LL at xd ⊢
     unfold ePat
     rw [KI.out,Lj,Int.toNat_natCast]
     exact dt (z:=7) (fun _=>rfl) (nI 0) _ yk 6 _ _ (by rw [xd];exact FO) Za rfl
    ·obtain rfl:j=s3.brs.length:=by omega
     rw [List.take_length] at HX xd
     have hm:=q1
     clear q1
     go_wp2_with fail
     have Bd:=hm 1
     have Dg:=hm 2
     have LT:=hm 3
     clear hm
     refine ae (fun W=>W.cell? ⟨v.heap.size+1,1,none⟩=some (.slice (aA og) s3.out.length oc)/\W.cell? ⟨v.heap.size+1,2,none⟩=some (.slice (aA sg) s3.sites.length sc)/\W.cell? ⟨v.heap.size+1,3,none⟩=some (.slice (aA lg) s3.lines.length lc)) (fun W=>True) 12 rfl ?_
     have hA:wr.drew.cell? ⟨v.heap.size+1,1,none⟩=some (.slice (aA og) s3.out.length oc)/\wr.drew.cell? ⟨v.heap.size+1,2,none⟩=some (.slice (aA sg) s3.sites.length sc)/\wr.drew.cell? ⟨v.heap.size+1,3,none⟩=some (.slice (aA lg) s3.lines.length lc):=⟨Bd,Dg,LT⟩
     have hB:True:=trivial
     refine Zp 0 rfl (h:=Zp 1 rfl (h:=Zp 2 rfl (h:=Zt 3 rfl (h:=Zp 4 rfl (h:=Zp 5 rfl (h:=Zp 6 rfl (h:=Zt 7 rfl (h:=Zp 8 rfl (h:=Zp 9 rfl (h:=Zp 10 rfl (h:=Zt 11 rfl (h:=?_))))))))))));try simp only [Zq]
     refine Zs 12 rfl fun K hK=>?_
     go_simp
     refine hK _ _ ⟨hA,fun _=>trivial⟩ ?_
     clear hK K
     refine Zs 13 rfl fun K hK=>?_
     go_simp
     refine hK _ _ ⟨hA,fun _=>trivial⟩ ?_
     clear hK K
     refine Zs 14 rfl fun K hK=>?_
     go_simp
     refine hK _ _ ⟨hA,fun _=>trivial⟩ ?_
     clear hK K
     refine Zs 15 rfl fun K hK=>?_
     go_simp
     refine hK _ _ ⟨hA,fun _=>trivial⟩ ?_
     clear hK K
     refine af Zb ?_ _
     go_wp2_with fail
     refine zad (by simp [results,Tryz.results56,go_sem];try rfl) rfl ?_
     rw [<-Ht.out]
     have hx:=HX.out.below (ag (zaa wr.heap.size wr))
     have xo:=hx.bl
     have o1:=hx.ob.own _ (.head _)
     have o2:=hx.ob.own _ (.tail _ (.head _))
     have o3:=hx.ob.own _ (.tail _ (.tail _ (.head _)))
     have l1:=o1.lt og rfl
     have l2:=o2.lt sg rfl
     have l3:=o3.lt lg rfl
     refine ⟨og,oc,sg,sc,lg,lc,?_,xo,⟨fun k u hu=>?_,?_,by omega,l1.2⟩,⟨fun k u hu=>?_,sl,by omega,l2.2⟩,⟨fun k u hu=>?_,ll,by omega,l3.2⟩⟩
     ·simp only [xd]
     ·have:=o1.cells (g:=og) rfl k u hu
      rw [bN] at this
      exact this
     ·simp only [xd]
      exact ol
     ·have:=o2.cells (g:=sg) rfl k u hu
      rw [bN] at this
      exact this
     ·have:=o3.cells (g:=lg) rfl k u hu
      rw [bN] at this
      exact this
end
section
open Go.RowKit
def OpD.lop(o:OpD):LOp:=⟨o.kind,o.dst,o.dst2,o.a,o.b,o.c,o.n,o.op,o.size,o.order,o.tO,o.site,o.line⟩
def opsFn(l:List OpD):Nat->LOp:=fun k=>(l.getD k default).lop
def passes(lps:List (Int×Int)):Nat->List Tri->Option (List Tri)
 |0,_=>none
 |n+1,l=>if anyM lps l then passes lps n (pass lps l) else some l
def liveF(ops:List OpD)(regs:Int):Option (List Tri):=passes (lpN (opsFn ops) ops.length) 1000 (outN (ivsN regs (opsFn ops) ops.length) regs.toNat)
def mapV(at_:Int):List VarD->List GlD×Int
 |[]=>([],at_)
 |v::l=>
  let z:=tySize v.type
  let a:=(at_+z-1)/z*z
  let r:=mapV (a+z) l
  (⟨v.name,65536+a,z⟩::r.1,r.2)
def varsOk:List qB->List VarD->Bool
 |_,[]=>true
 |seen,v::m=>nameB v.name&&!keyw v.name&&!seen.any (fun s=>eqB s v.name)&&decide (SoundF 66 v.type=0)&&varsOk (seen++[v.name]) m
def cProg(p:PrgD):Bool:=
 decide (p.vars.length<=32)&&decide (1<=p.threads.length)&&decide (p.threads.length<=8)&&varsOk [] p.vars&&decide ((mapV 0 p.vars).2<=65536)&&
  p.threads.all (fun t=>(cBlock (fun y s=>cStmt p.vars 66 y 1 s) t ([],0)).isSome)
def iStack(size:Int)(n:Nat):Int:=65536+(size+15)/16*16+n*1024
def iEnc:List Ins->Option (List Nat)
 |[]=>some []
 |i::l=>match enc i,iEnc l with
  |some w,some r=>some (w::r)
  |_,_=>none
end
section
open Go.RowKit Go.Sort
theorem vp{w:qW}{g:Nat}{ops:List OpD}(h:RowC w g (ops.flatMap opC))(k:Nat)(hk:k<ops.length):OAt w g (0+k*13) (opsFn ops k):=by
 have hy:ops[k]?=some (ops.getD k default):=by rw [zaU,zaC hk];rfl
 have xh: ∀m u,m<13->(opC (ops.getD k default))[m]?=some u->w.cell? ⟨g,k*13+m,none⟩=some u:=fun m u hm hu=>h (k*13+m) u (by rw [bJ (f:=opC) (z:=13) (fun _=>rfl) hy m hm];exact hu)
 rw [zag]
 exact ⟨xh 0 _ Za rfl,xh 1 _ Za rfl,xh 2 _ Za rfl,xh 3 _ Za rfl,xh 4 _ Za rfl,xh 5 _ Za rfl,xh 6 _ Za rfl,xh 7 _ Za rfl,xh 8 _ Za rfl,xh 9 _ Za rfl,xh 10 _ Za rfl,xh 11 _ Za rfl,xh 12 _ Za rfl⟩
theorem uE{lps:List (Int×Int)}: ∀(n:Nat) {l r:List Tri},passes lps n l=some r->Stops lps l r:=by
 intro n
 induction n with
 |zero=>intro l r h;cases h
 |succ n ih=>
  intro l r h
  unfold passes at h
  cases hm:anyM lps l with
  |true=>
   rw [hm] at h
   exact .go hm (ih h)
  |false=>
   rw [hm] at h
   simp only [zaY,if_false,zaA] at h
   exact h ▸ .stop hm
theorem jz(w:qW)(ta:Option Addr)(L tc:Nat)(sv gv:qV)(size:Int)(n:Nat)(hn:n<L)(JM:n<8)(h0:0<=size)(h1:size<=65536)(hL:L<=100):qC 14 #[.agg #[.slice ta L tc,sv,gv,iI size],iI n] w (Gives w (.agg #[iI (iStack size n),iI 1024])):=by
 have hv:iStack size n=65536+(size+15)/16*16+n*1024:=rfl
 rw [hv]
 clear hv
 have OP:(size+16-1).tdiv 16=(size+15)/16:=by
  rw [Int.tdiv_eq_ediv_of_nonneg Za]
  congr 1
  omega
 have OO:(size+15).tdiv 16=(size+15)/16:=Int.tdiv_eq_ediv_of_nonneg Za
 have yt:0<=(size+15)/16:=by omega
 have zU:(size+15)/16<=5000:=by omega
 generalize (size+15)/16=d at*
 go_enter Tryz.func14,Tryz.ntmps14
 go_wp2_with fail
 (try simp only [Exit.inBlock,Exit.then]);refine zad (by simp [results,Tryz.results14,go_sem,↓IntWalk.iteOmega];try rfl) rfl ?_
 exact Gives.mk rfl Z7
def lopB(o:OpD):Bool:=rngB o.a&&rngB o.b&&rngB o.c&&rngB o.dst&&rngB o.dst2&&rngB o.tO
def insB(i:Ins):Bool:=rngB i.op&&rngB i.d&&rngB i.n&&rngB i.m&&rngB i.e&&rngB i.sz&&rngB i.imm
def iThreadB(gl:List GlD)(size:Int)(t:List Sm)(n:Nat):Option (List Nat×List (Int×Int)):=
 match lThread gl t with
 |none=>none
 |some (ops,regs)=>match liveF ops regs with
  |none=>none
  |some iv=>
   if !(decide (0<iv.length)&&decide (iv.length<=20)&&decide (0<ops.length)&&decide (ops.length<=61)&&decide (0<regs)&&decide (regs<=300)&&ops.all lopB) then none else
   match aAssignB iv regs.toNat with
   |none=>none
   |some pl=>
    if !eOk ops pl (iStack size n).toNat then none else
    match eThread ops pl (iStack size n).toNat with
    |none=>none
    |some (l,sites,lines)=>
     if !(l.all insB&&decide (sites.length=l.length)&&decide (lines.length=l.length)&&decide (0<l.length)&&decide (l.length<=100000)) then none else
     match iEnc l with
     |none=>none
     |some ws=>some (ws,sites.zip lines)
structure IThB(gl:List GlD)(size:Int)(t:List Sm)(n:Nat)(r:List Nat×List (Int×Int)) where
 ops:List OpD
 regs:Nat
 iv:List Tri
 pl:List Int
 l:List Ins
 sites:List Int
 lines:List Int
 lo:lThread gl t=some (ops,(regs:Int))
 lv:Stops (lpN (opsFn ops) ops.length) (outN (ivsN (regs:Int) (opsFn ops) ops.length) (regs:Int).toNat) iv
 iv0:0<iv.length
 iv1:iv.length<=20
 op0:0<ops.length
 op1:ops.length<=61
 rg1:regs<=300
 lop: ∀k,k<ops.length->(opsFn ops k).ok
 asg:aAssignB iv regs=some pl
 ok:eOk ops pl (iStack size n).toNat=true
 em:eThread ops pl (iStack size n).toNat=some (l,sites,lines)
 ins: ∀i∈l,i.rng
 sl:sites.length=l.length
 ll:lines.length=l.length
 l0:0<l.length
 l1:l.length<=100000
 enc:iEnc l=some r.1
 told:r.2=sites.zip lines
theorem ycl{gl:List GlD}{size:Int}{t:List Sm}{n:Nat}{r:List Nat×List (Int×Int)}(h:iThreadB gl size t n=some r):Nonempty (IThB gl size t n r):=by
 unfold iThreadB at h
 split at h
 ·cases h
 rename_i ops regs xD
 split at h
 ·cases h
 rename_i iv JQ
 split at h
 ·cases h
 rename_i hc
 simp only [Bool.not_eq_true',Bool.not_eq_false,za0,zau,List.all_eq_true] at hc
 obtain ⟨⟨⟨⟨⟨⟨k1,k2⟩,k3⟩,k4⟩,k5⟩,k6⟩,k7⟩:=hc
 split at h
 ·cases h
 rename_i pl has
 split at h
 ·cases h
 rename_i xr
 split at h
 ·cases h
 rename_i l sites lines GN
 split at h
 ·cases h
 rename_i yB
 simp only [Bool.not_eq_true',Bool.not_eq_false,za0,zau,List.all_eq_true] at yB
 obtain ⟨⟨⟨⟨m1,m2⟩,m3⟩,m4⟩,m5⟩:=yB
 split at h
 ·cases h
 rename_i ws FR
 obtain rfl:=zae h
 obtain ⟨rg,rfl⟩: ∃rg:Nat,regs=rg:=⟨regs.toNat,by omega⟩
 simp only [Bool.not_eq_true',Bool.not_eq_false] at xr
 refine ⟨⟨ops,rg,iv,pl,l,sites,lines,xD,uE _ JQ,k1,k2,k3,k4,by omega,fun k hk=>?_,has,xr,GN,fun i hi=>?_,m2,m3,m4,m5,FR,rfl⟩⟩
 ·have hb:=k7 (ops.getD k default) (by rw [zaU,zaC hk];exact List.getElem_mem hk)
  simp only [lopB,za0] at hb
  obtain ⟨⟨⟨⟨⟨b1,b2⟩,b3⟩,b4⟩,b5⟩,b6⟩:=hb
  have hw: ∀{x:Int},rngB x=true->wfI x:=fun hx=>by
   have:=bU hx
   unfold wfI rng at*
   simp [Lit.wf,IntKind.min,IntKind.max,IntKind.signed,IntKind.bits]
   exact this
  exact ⟨hw b1,hw b2,hw b3,hw b4,hw b5,hw b6⟩
 ·have hb:=m1 i hi
  simp only [insB,za0] at hb
  obtain ⟨⟨⟨⟨⟨⟨b1,b2⟩,b3⟩,b4⟩,b5⟩,b6⟩,b7⟩:=hb
  intro k hk
  match k,hk with
  |0,_=>exact bU b1
  |1,_=>exact bU b2
  |2,_=>exact bU b3
  |3,_=>exact bU b4
  |4,_=>exact bU b5
  |5,_=>exact bU b6
  |6,_=>exact bU b7
end
end Go.Proofs.YtjmfoeajhiimnaaGreatDoor
