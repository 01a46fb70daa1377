/- Walks. No condition. -/
import Derived.Deep.OwnRows
import Derived.Laws.OwnMore
import Derived.Test.YtcekjfmfcefjpaaGreatDoorG24
set_option maxRecDepth 100000
set_option maxHeartbeats 0
set_option linter.all false
namespace Go.Proofs.YtcekjfmfcefjpaaGreatDoor
open Go.RowKit Go.Sort
section
variable{w0 W W' w:qW}{M:Nat}{F F1:Nat->Prop}{fv uv:qV}{P:Pool}
theorem vN: ∀(l:List Int) (n:Nat),(l.take n).flatMap numC=(l.flatMap numC).take (n*1):=by
 intro l
 induction l with
 |nil=>intro n;simp
 |cons x l ih=>
  intro n
  cases n with
  |zero=>simp
  |succ n=>rw [List.take_succ_cons,zaf,zaf,ih n,show (n+1)*1=(numC x).length+n*1 by simp [numC];omega,List.take_length_add_append]
theorem tq(P:Pool){n:Nat}(hn:n<=P.free.length):(poR P).map (fun q=>if q.ix=0 then {q with n:=n,xs:=(P.free.flatMap numC).take (n*1)} else q)=poR {P with free:=P.free.take n}:=by
 simp only [poR,List.map_cons,List.map_nil,if_pos,vN]
 simp [Nat.min_eq_left hn]
theorem Po.next(h:PoX w0 M F fv uv w P)(x:Int)(hx:0<=x/\x<=2000):PoX w0 M F fv uv (w.setCell ⟨M,2,none⟩ (iI x)) {P with next:=x}/\Kp F w (w.setCell ⟨M,2,none⟩ (iI x)):=by
 have hk:Kp (fun k=>k=M) w (w.setCell ⟨M,2,none⟩ (iI x)):=Kp.set w M 2 (iI x)
 have hi: ∀r∈poR P,r.ix≠2:=by
  intro r hr
  simp only [poR,zaM,zaN,or_false] at hr
  rcases hr with rfl|rfl<;>simp
 refine ⟨⟨h.ob.set 2 _ hi,fun k=>?_,aH h.bl hk (fun k e=>e ▸ h.le),h.le,⟨h.fin.free,h.fin.used,hx,h.fin.most⟩⟩,hk.mono (fun k _ e=>e ▸ h.inF)⟩
 rw [h.ft]
 exact (io (v:=iI x) hi).symm
theorem pC(w:qW)(h:Po w0 M F w P)(tt x:Int)(P':Pool)(hT:pTake tt P=(some x,P'))(hu:P.used.length<2000)(hn:P.next<2000):qC 114 #[pP M,iI tt] w (PoD w0 M F w P' (.tuple #[iI x,.bool true])):=by
 obtain ⟨fv,uv,h⟩:=h
 have xS:=h.fin
 obtain ⟨fa,fc,rfl,fl,fcm,fnl,fat⟩:=az h.own0
 have j':=h.bd
 have q1: ∀j,w.cell? (aB M j)=(#[.slice fa P.free.length fc,uv,iI P.next,iI P.most]:Array qV)[j]?:=aa h.ob.out
 have qf:=ai h.ob.out
 by_cases h0:P.free.length=0
 ·have zI:P.free=[]:=List.length_eq_zero_iff.1 h0
  unfold pTake at hT
  rw [zI] at hT
  simp only [List.getLast?_nil] at hT
  by_cases hm:P.most<=P.next
  ·rw [if_pos hm] at hT
   cases hT
  ·rw [if_neg hm] at hT
   injection hT with hx hP
   obtain rfl:=zae hx
   subst hP
   obtain ⟨h1,wT⟩:=Po.next h (P.next+1) ⟨by have:=xS.next.1;omega,by omega⟩
   have HX:=Zh h1
   have HK:=Zh wT
   have DT:=xS.next
   have Im:=xS.most
   rw [h0] at q1
   clear h h1 wT fnl fat fl
   go_enter Tryz.func114,Tryz.ntmps114
   go_wp2_with fail
   have hA:w.drew.cell? (aB M 2)=some (iI P.next)/\w.drew.cell? (aB M 3)=some (iI P.most):=⟨q1 2,q1 3⟩
   have hB:True:=trivial
   refine ae (fun W=>W.cell? (aB M 2)=some (iI P.next)/\W.cell? (aB M 3)=some (iI P.most)) (fun W=>True) 20 rfl ?_
   refine Zp 0 rfl (h:=Zp 1 rfl (h:=Zp 2 rfl (h:=Zt 3 rfl (h:=Zp 4 rfl (h:=Zp 5 rfl (h:=Zp 6 rfl (h:=Zt 7 rfl (h:=Zp 8 rfl (h:=?_)))))))));try simp only [Zq]
   refine af Zb ?_ _
   go_wp2_with fail
   go_at_call 158
   refine (mc (P:={P with next:=P.next+1}) (x:=(tt,P.next)) ((w.setCell ⟨M,2,none⟩ (iI (P.next+1))).drew) ⟨_,_,HX.out.below (ag (zaa _ _))⟩ ⟨HX.out.fin.free,by simp;omega,HX.out.fin.next,HX.out.fin.most⟩).mono ?_
   intro e w1 hD
   obtain rfl:=hD.1
   have HD:=Zh hD
   clear hD
   go_wp2_with fail
   refine zad (by simp [results,Tryz.results114,go_sem];try rfl) rfl ?_
   obtain ⟨-,F',g1,g2,g3⟩:=HD.out
   have hz:(w.setCell ⟨M,2,none⟩ (iI (P.next+1))).drew.heap.size=w.heap.size:=aY _ _ _
   refine ⟨rfl,F',by rw [zI] at g1;exact g1,(HK.out.trans (Kp.dr _)).trans g2,⟨fun k hk=>(g3.r k hk).imp id (fun e=>by omega)⟩⟩
 ·obtain ⟨n,hN⟩: ∃n,P.free.length=n+1:=⟨P.free.length-1,by omega⟩
  rcases fa with _|⟨g,uo,ui⟩
  ·exact absurd (fnl rfl).1 h0
  obtain ⟨rfl,rfl⟩:uo=0/\ui=none:=by
   have h9:=fat _ rfl
   injection h9 with h9 Ds IM
   exact ⟨Ds,IM⟩
  have xY:P.free.getLast?=some (P.free.getD n 0):=by
   rw [List.getLast?_eq_getElem?,hN,Nat.add_sub_cancel,zaU,zaC Za]
   rfl
  unfold pTake at hT
  rw [xY] at hT
  simp only at hT
  injection hT with hx hP
  obtain rfl:=zae hx
  subst hP
  have hown:=h.own0
  have hxc:=cQ hown (i:=n) Za
  rw [hN] at hown q1
  obtain ⟨F',h1,h2,h3⟩:=h.put ⟨0,3,1,P.free.length,P.free.flatMap numC⟩ (.head _) (Kp.refl _ _) (v':= .slice (aA g) n fc) (eZ hown Za) (fun k hk=> .inl hk) (fv':= .slice (aA g) n fc) (uv':=uv) (P':={P with free:=P.free.take n}) rfl (tq P Za) ⟨by have:=h.fin.free;simp;omega,h.fin.used,h.fin.next,h.fin.most⟩
  have HX:=Zh h1
  have HK:=Zh h2
  have HR:=Zh h3
  have Ai:=h.fin.free
  rw [hN] at Ai fl
  have Is:Hid (P.free.dropLast=P.free.take n):=Zh (by rw [List.dropLast_eq_take,hN,Nat.add_sub_cancel])
  generalize hXX:P.free.getD n 0=x at*
  clear h h1 h2 h3 fnl fat hown xY
  go_enter Tryz.func114,Tryz.ntmps114
  go_wp2_with fail
  go_at_call 158
  refine (mc (P:={P with free:=P.free.take n}) (x:=(tt,x)) (w.setCell ⟨M,0,none⟩ (.slice (aA g) n fc)) ⟨_,_,HX.out⟩ ⟨HX.out.fin.free,by simp;omega,HX.out.fin.next,HX.out.fin.most⟩).mono ?_
  intro e w1 hD
  obtain rfl:=hD.1
  have HD:=Zh hD
  clear hD
  go_wp2_with fail
  refine zad (by simp [results,Tryz.results114,go_sem];try rfl) rfl ?_
  obtain ⟨-,F2,g1,g2,g3⟩:=HD.out
  rw [Is.out]
  have hz:(w.setCell ⟨M,0,none⟩ (.slice (aA g) n fc)).heap.size=w.heap.size:=aY _ _ _
  refine ⟨rfl,F2,g1,HK.out.next g2 (fun k hk e=>(HR.out.r k e).elim id (fun e=>by omega)),HR.out.trans g3 Za⟩
end
def pOk(r:List Int×List (Int×Int)):Bool:=decide (r.1.length<=12)&&r.1.all (fun x=>decide (0<=x)&&decide (x<=100000))&&decide (r.2.length<2000)
def aStepB(x:Tri)(s:List Int×Pool):Option (List Int×Pool):=
 if x.1<0\/s.1.length<=x.1.toNat then none else
 let r:=pDrain s.2.used.length x.2.1 s.2.free s.2.used
 if !pOk r||decide (2000<=s.2.next) then none else
 match pTake x.2.2 {s.2 with free:=isort ltD 0 r.1,used:=r.2} with
 |(some p,f)=>some (s.1.set x.1.toNat p,f)
 |(none,_)=>none
def aAll:List Tri->List Int×Pool->Option (List Int×Pool)
 |[],s=>some s
 |x::l,s=>match aStepB x s with
  |none=>none
  |some s1=>aAll l s1
def aAssignB(l:List Tri)(regs:Nat):Option (List Int):=(aAll (isort ltV (0,0,0) l) (List.replicate regs 0,⟨[],[],0,7⟩)).map Prod.fst
theorem t7{r:List Int×List (Int×Int)}(h:pOk r=true):r.1.length<=12/\(∀x∈r.1,0<=x/\x<=100000)/\r.2.length<2000:=by
 simp only [pOk,za0,zau,List.all_eq_true] at h
 exact ⟨h.1.1,h.1.2,h.2⟩
theorem oh{x:Tri}{s s1:List Int×Pool}(h:aStepB x s=some s1):0<=x.1/\x.1.toNat<s.1.length/\pOk (pDrain s.2.used.length x.2.1 s.2.free s.2.used)=true/\s.2.next<2000/\
  ∃p f,pTake x.2.2 {s.2 with free:=isort ltD 0 (pDrain s.2.used.length x.2.1 s.2.free s.2.used).1,used:=(pDrain s.2.used.length x.2.1 s.2.free s.2.used).2}=(some p,f)/\s1=(s.1.set x.1.toNat p,f):=by
 unfold aStepB at h
 split at h
 ·cases h
 ·rename_i h1
  simp only at h
  split at h
  ·cases h
  ·rename_i h2
   simp only [zak,Bool.not_eq_true',zau,not_or,Bool.not_eq_false] at h2
   split at h
   ·rename_i p f hp
    exact ⟨by omega,by omega,h2.1,by omega,p,f,hp,(zae h).symm⟩
   ·cases h
structure AsW(w wr:qW)(Mf Ms K0 g1 c1 n0:Nat)(N:Int)(F1 F2:Nat->Prop)(q:List Int)(P:Pool)(row:List Tri):Prop where
 fast:Po w Mf F1 wr P
 slow:Po w Ms F2 wr ⟨[],[],0,N⟩
 out:wr.ownsRow w.heap.size 3 1 (.slice (aA K0) n0 n0) n0 (q.flatMap numC)
 row:wr.ownsRow w.heap.size 235 3 (.slice (aA g1) row.length c1) row.length (row.flatMap tvC)
 bl:Below w.heap.size w wr
 s1: ¬F1 K0
 s2: ¬F1 g1
 s3: ¬F2 K0
 s4: ¬F2 g1
 s5: ∀k,F1 k-> ¬F2 k
 s6:K0≠g1
section
variable{w wr w1:qW}{Mf Ms K0 g1 c1 n0:Nat}{N:Int}{F1 F2:Nat->Prop}{q:List Int}{P:Pool}{row:List Tri}
theorem bV{X:Nat->Prop}{W W':qW}{B s n c g:Nat}{e:TypeId}{xs:List qV}(h:W.ownsRow B e s (.slice (aA g) n c) n xs)(hk:Kp X W W')(hg: ¬X g):W'.ownsRow B e s (.slice (aA g) n c) n xs:=
 ah h hk (fun k wT e=>hg (by
  have:g=k:=by simpa [Value.ownBlock] using wT
  exact this ▸ e))
theorem AsW.below(h:AsW w wr Mf Ms K0 g1 c1 n0 N F1 F2 q P row)(hb:Below wr.heap.size wr w1):AsW w w1 Mf Ms K0 g1 c1 n0 N F1 F2 q P row:=
 ⟨h.fast.below hb,h.slow.below hb,bV h.out (Kp.of_below (X:=fun _=>False) hb) id,bV h.row (Kp.of_below (X:=fun _=>False) hb) id,ar h.bl hb h.bl.size,h.s1,h.s2,h.s3,h.s4,h.s5,h.s6⟩
theorem AsW.fastD{P':Pool}{r:qV}{e:Ending}(h:AsW w wr Mf Ms K0 g1 c1 n0 N F1 F2 q P row)(hD:PoD w Mf F1 wr P' r e w1): ∃F',AsW w w1 Mf Ms K0 g1 c1 n0 N F' F2 q P' row/\Kp F1 wr w1/\Rq F1 F' wr.heap.size:=by
 obtain ⟨-,F',k1,k2,k3⟩:=hD
 have l0:=(h.out.lt K0 rfl).2
 have l1:=(h.row.lt g1 rfl).2
 refine ⟨F',⟨k1,h.slow.kp k2 (aH h.bl k2 (fun k hk=>(h.fast.inb hk).1)) (fun k hk e=>h.s5 k e hk),bV h.out k2 h.s1,bV h.row k2 h.s2,aH h.bl k2 (fun k hk=>(h.fast.inb hk).1),fun e=>(k3.r _ e).elim h.s1 (fun e=>by omega),fun e=>(k3.r _ e).elim h.s2 (fun e=>by omega),h.s3,h.s4,fun k hk e=>(k3.r k hk).elim (fun e2=>h.s5 k e2 e) (fun e2=>by have:=(h.slow.inb e).2;omega),h.s6⟩,k2,k3⟩
theorem AsW.slowD{r:qV}{e:Ending}(h:AsW w wr Mf Ms K0 g1 c1 n0 N F1 F2 q P row)(hD:PoD w Ms F2 wr ⟨[],[],0,N⟩ r e w1): ∃F',AsW w w1 Mf Ms K0 g1 c1 n0 N F1 F' q P row/\Kp F2 wr w1:=by
 obtain ⟨-,F',k1,k2,k3⟩:=hD
 have l0:=(h.out.lt K0 rfl).2
 have l1:=(h.row.lt g1 rfl).2
 refine ⟨F',⟨h.fast.kp k2 (aH h.bl k2 (fun k hk=>(h.slow.inb hk).1)) (fun k hk e=>h.s5 k hk e),k1,bV h.out k2 h.s3,bV h.row k2 h.s4,aH h.bl k2 (fun k hk=>(h.slow.inb hk).1),h.s1,h.s2,fun e=>(k3.r _ e).elim h.s3 (fun e=>by omega),fun e=>(k3.r _ e).elim h.s4 (fun e=>by omega),fun k hk e=>(k3.r k e).elim (fun e2=>h.s5 k hk e2) (fun e2=>by have:=(h.fast.inb hk).2;omega),h.s6⟩,k2⟩
theorem AsW.set(h:AsW w wr Mf Ms K0 g1 c1 n0 N F1 F2 q P row)(i:Nat)(hi:i<n0)(hq:q.length=n0)(x:Int):AsW w (wr.setCell ⟨K0,i,none⟩ (iI x)) Mf Ms K0 g1 c1 n0 N F1 F2 (q.set i x) P row:=by
 have hk:Kp (fun k=>k=K0) wr (wr.setCell ⟨K0,i,none⟩ (iI x)):=Kp.set wr K0 i (iI x)
 have hb:=aH h.bl hk (fun k e=>e ▸ (h.out.lt K0 rfl).1)
 have ho:=bE h.out i Za (iI x)
 rw [gB q i Za x] at ho
 exact ⟨h.fast.kp hk hb (fun k hk e=>h.s1 (e ▸ hk)),h.slow.kp hk hb (fun k hk e=>h.s3 (e ▸ hk)),ho,bV h.row hk (fun e=>h.s6 e.symm),hb,h.s1,h.s2,h.s3,h.s4,h.s5,h.s6⟩
end
theorem ydz{α:Type}{l:List α}{j:Nat}{x:α}(h:l[j]?=some x):l.drop j=x::l.drop (j+1):=by
 obtain ⟨hj,rfl⟩:=List.getElem?_eq_some_iff.1 h
 exact zaS hj
def AsD(w:qW)(pl:List Int)(e:Ending)(w':qW):Prop:= ∃g c,e= .returned (.tuple #[.slice (aA g) pl.length c,iI 0])/\Below w.heap.size w w'/\w'.ownsRow w.heap.size 3 1 (.slice (aA g) pl.length c) pl.length (pl.flatMap numC)
theorem om: ∀(l:List Tri) (s t:List Int×Pool),aAll l s=some t->t.1.length=s.1.length:=by
 intro l
 induction l with
 |nil=>
  intro s t h
  rw [<-zae h]
 |cons x l ih=>
  intro s t h
  unfold aAll at h
  split at h
  ·cases h
  ·rename_i s1 hs
   obtain ⟨-, -, -, -,p,f, -,rfl⟩:=oh hs
   rw [ih _ _ h]
   simp
theorem kq(w:qW)(N:Int)(h0:0<=N/\N<=2000)(W:qW)(hb:Below w.heap.size w W):Po w W.heap.size (fun k=>k=W.heap.size) (W.alloc (.cells #[.slice none 0 0,.slice none 0 0,iI 0,iI N] 244)) ⟨[],[],0,N⟩:=by
 have hs:=hb.size
 refine ⟨.slice none 0 0,.slice none 0 0,⟨zab _ _,?_,?_,?_⟩,fun k=>?_,ab hb _,hs,⟨by simp,by simp,by simp,h0⟩⟩
 ·intro r hr
  simp only [poR,zaM,zaN,or_false] at hr
  rcases hr with rfl|rfl<;>exact zaX _ _ _ _
 ·simp [poR]
 ·intro r hr q hq hne k hk
  simp only [poR,zaM,zaN,or_false] at hr
  rcases hr with rfl|rfl<;>cases hk
 ·unfold foot
  constructor
  ·exact fun e=> .inl e
  ·rintro (e|⟨r,hr,hk⟩)
   ·exact e
   ·simp only [poR,zaM,zaN,or_false] at hr
    rcases hr with rfl|rfl<;>cases hk
theorem uk{w:qW}{B:Nat}(n:Nat)(hB:B<=w.heap.size)(hn:n<=9223372036854775807):(w.alloc (.cells (madeCells #[iI 0] n) 3)).ownsRow B 3 1 (.slice (aA w.heap.size) n n) n ((List.replicate n (0:Int)).flatMap numC):=by
 have he:(List.replicate n (0:Int)).flatMap numC=List.replicate n (iI 0):=by
  induction n with
  |zero=>rfl
  |succ n ih=>rw [List.replicate_succ,zaf,ih Za,List.replicate_succ];rfl
 rw [he]
 refine ⟨by simp,.inr ⟨w.heap.size,n,_,rfl,hB,zab _ _,zaq _,hn,by rw [size_madeCells,Nat.mul_one],?_⟩⟩
 rw [toList_madeCells_one]
 simp
theorem ye2(w:qW)(g c:Nat)(l:List Tri)(h0:0<l.length)(hl:l.length<=20)(hg:g<w.heap.size)(hR:RowC w g (l.flatMap tvC))(hc:l.length<=c)(yr:c<=9223372036854775807)(regs:Nat)(Nz:regs<=2000)(pl:List Int)(h:aAssignB l regs=some pl):
  qC 77 #[.slice (aA g) l.length c,iI regs,iI 7] w (AsD w pl):=by
 obtain ⟨i1,Br,AH,Bm,Ag⟩:=zan ia
 unfold aAssignB at h
 rw [za1] at h
 obtain ⟨⟨plx,Pf⟩,xp,rfl⟩:=h
 have wX:=om _ _ _ xp
 simp only [List.length_replicate] at wX
 simp only
 rw [show (AsD w plx)=(AsD w plx) from rfl]
 have Cr:=Zh xp
 have CL:=Zh (yd4 w g c l h0 Za hg hR hc yr)
 have DH:(isort ltV (0,0,0) l).length=l.length:=gZ _ _ _ _ _
 generalize Lc:isort ltV (0,0,0) l=sr at*
 have KC:=Zh Lc
 clear xp hR Lc
 go_enter Tryz.func77,Tryz.ntmps77
 go_wp2_with fail
 go_at_call 108
 refine CL.out.mono ?_
 rintro e w1 ⟨g1,c1,rfl,ye,A7⟩
 have zt:=Zh ye
 have C2:=Zh (qP w1 w.heap.size g1 c1 l A7 hl)
 rw [KC.out] at C2
 have xn:=A7.lt g1 rfl
 clear ye A7 CL
 go_wp2_with fail
 go_at_call 109
 refine C2.out.mono ?_
 rintro e w2 ⟨rfl,xT,Av⟩
 have xr:Below w.heap.size w w2:=aH zt.out xT (fun k e=>e ▸ xn.1)
 have yB:=xr.size
 have Am:=Av.lt g1 rfl
 clear xT C2
 have zV:=Zh Av
 have xA:=Zh xr
 clear Av xr
 go_wp2_with (refine wpList_make_row _ rfl (.tmp 24) (.tmp 24) 55 rfl 3 i1 _ Tryz.underlying55 Br AH Bm rfl .i64 .i64 regs rfl rfl (by rw [Ag];omega) Za ?_)
 have A5:AsW w (((w2.alloc (.cells (madeCells #[iI 0] regs) 3)).alloc (.cells #[.slice none 0 0,.slice none 0 0,iI 0,iI 7] 244)).alloc (.cells #[.slice none 0 0,.slice none 0 0,iI 0,iI l.length] 244)) (w2.heap.size+1) (w2.heap.size+2) w2.heap.size g1 c1 regs l.length (fun k=>k=w2.heap.size+1) (fun k=>k=w2.heap.size+2) (List.replicate regs 0) ⟨[],[],0,7⟩ sr:=by
  have e1:(w2.alloc (.cells (madeCells #[iI 0] regs) 3)).heap.size=w2.heap.size+1:=by simp [go_sem]
  have e2:((w2.alloc (.cells (madeCells #[iI 0] regs) 3)).alloc (.cells #[.slice none 0 0,.slice none 0 0,iI 0,iI 7] 244)).heap.size=w2.heap.size+2:=by simp [go_sem]
  have b0:=xA.out.alloc yB (.cells (madeCells #[iI 0] regs) 3)
  have p1:=kq w 7 Za _ b0
  have b1:=b0.alloc (by rw [e1];omega) (.cells #[.slice none 0 0,.slice none 0 0,iI 0,iI 7] 244)
  have p2:=kq w l.length Za _ b1
  have b2:=b1.alloc (by rw [e2];omega) (.cells #[.slice none 0 0,.slice none 0 0,iI 0,iI l.length] 244)
  rw [e1] at p1
  rw [e2] at p2
  have o1:=uk (w:=w2) (B:=w.heap.size) regs yB Za
  have Ge:Kp (fun _=>False) w2 (((w2.alloc (.cells (madeCells #[iI 0] regs) 3)).alloc (.cells #[.slice none 0 0,.slice none 0 0,iI 0,iI 7] 244)).alloc (.cells #[.slice none 0 0,.slice none 0 0,iI 0,iI l.length] 244)):=(((Kp.refl _ _).alloc _).alloc _).alloc _
  have yx:=zV.out
  rw [<-DH] at yx
  have hr:=bV yx Ge id
  exact ⟨p1.below (ab (zaa _ _) _),p2,bV o1 (((Kp.refl (fun _=>False) _).alloc _).alloc _) id,hr,b2,by omega,by omega,by omega,by omega,fun k e e2=>by omega,by omega⟩
 have I1:=Zh A5
 clear A5 zV xA zt
 go_loopw [36] (fun v36 wr=> ∃(j:Nat) (q:List Int) (P:Pool) (F1 F2:Nat->Prop),v36=iI j/\j<=l.length/\q.length=regs/\Hid (AsW w wr (w2.heap.size+1) (w2.heap.size+2) w2.heap.size g1 c1 regs l.length F1 F2 q P sr)/\Hid (aAll (sr.drop j) (q,P)=some (plx,Pf))) (fun v36 _=>l.length-(intOf v36).toNat)
 case atStart=>exact ⟨0,_,_,_,_,rfl,zaB _,by simp,I1,Cr⟩
 case round=>
  obtain ⟨j,q,P,F1,F2,rfl,hj,hq,HA,HL⟩:=hrel
  by_cases yL:j<l.length
  ·obtain ⟨x,hx⟩: ∃x,sr[j]?=some x:=⟨sr[j],zaC Za⟩
   have xw:=HL.out
   rw [ydz hx] at xw
   unfold aAll at xw
   split at xw
   ·cases xw
   rename_i s1 yK
   obtain ⟨x0,x1,x2,x3,pp,f,hT,rfl⟩:=oh yK
   obtain ⟨k1,k2,k3⟩:=t7 x2
   simp only at x1 hT
   obtain ⟨rg,FO⟩: ∃rg:Nat,x.1=rg:=⟨x.1.toNat,by omega⟩
   have AK:rg<regs:=by omega
   have hd:sr.getD j (0,0,0)=x:=by rw [zaU,hx];rfl
   obtain ⟨c0,c1',c2'⟩:=dA HA.out.row (i:=j) Za
   rw [hd] at c0 c1' c2'
   rw [FO] at c0
   have wW:=(HA.out.row.lt g1 rfl).2
   have za:=Zh xw
   have HT:=Zh hT
   generalize LN:pDrain P.used.length x.2.1 P.free P.used=R at*
   have HDR:=Zh LN
   clear hx xw yK hT hd LN HL x2
   go_wp2_with fail
   have HAx:=Zh (HA.out.below (ab (zaa wr.heap.size wr) (.cells #[iI rg,iI x.2.1,iI x.2.2] 235)))
   have Ge:(wr.alloc (.cells #[iI rg,iI x.2.1,iI x.2.2] 235)).heap[wr.heap.size]?=some (.cells #[iI rg,iI x.2.1,iI x.2.2] 235 (0,0)):=zab _ _
   have GX: ¬F1 wr.heap.size:=fun e=>by have:=(HA.out.fast.inb e).2;omega
   have D9: ¬F2 wr.heap.size:=fun e=>by have:=(HA.out.slow.inb e).2;omega
   have JU:wr.heap.size<(wr.alloc (.cells #[iI rg,iI x.2.1,iI x.2.2] 235)).heap.size:=by simp [go_sem]
   generalize (wr.alloc (.cells #[iI rg,iI x.2.1,iI x.2.2] 235))=Wa at HAx Ge JU ⊢
   go_at_call 113
   refine (nz Wa HAx.out.fast x.2.1 R HDR.out k1 k2).mono ?_
   intro e wb hD
   obtain rfl:=hD.1
   obtain ⟨F1',MI,zv,NA⟩:=HAx.out.fastD hD
   have Di:=(zv.block wr.heap.size JU GX).trans Ge
   have Kn: ¬F1' wr.heap.size:=fun e=>(NA.r _ e).elim GX (fun e=>by omega)
   have qk: ∀i,wb.cell? (aB wr.heap.size i)=(#[iI rg,iI x.2.1,iI x.2.2]:Array qV)[i]?:=aa Di
   have HAb:=Zh MI
   have CJ:=ac Di
   clear hD MI zv Ge JU c0 c1' c2' HAx
   go_wp2_with fail
   go_at_call 113
   refine (nz wb HAb.out.slow x.2.1 ([],[]) rfl Zi Zi).mono ?_
   intro e wc hD
   obtain rfl:=hD.1
   obtain ⟨F2',MH,LB⟩:=HAb.out.slowD hD
   have Dh:=(LB.block wr.heap.size CJ D9).trans Di
   have qk: ∀i,wc.cell? (aB wr.heap.size i)=(#[iI rg,iI x.2.1,iI x.2.2]:Array qV)[i]?:=aa Dh
   have HAc:=Zh MH
   have Ff:=ac Dh
   clear hD MH LB Di CJ HAb
   go_wp2_with fail
   go_at_call 114
   refine (pC wc HAc.out.fast x.2.2 pp f HT.out k3 x3).mono ?_
   intro e wd hD
   obtain rfl:=hD.1
   obtain ⟨F3,II,zH, -⟩:=HAc.out.fastD hD
   have Gd:=(zH.block wr.heap.size Ff Kn).trans Dh
   have qk: ∀i,wd.cell? (aB wr.heap.size i)=(#[iI rg,iI x.2.1,iI x.2.2]:Array qV)[i]?:=aa Gd
   have yc:=cQ II.out (i:=rg) Za
   have hof:=cH II.out
   have HAd:=Zh II
   clear hD II zH Dh Gd Ff HAc
   go_wp2_with fail
   refine ⟨⟨j+1,q.set rg pp,f,F3,F2',by go_num,by omega,by simp;exact hq,Zh ?_,Zh ?_⟩,by simp [intOf];omega⟩
   ·exact HAd.out.set rg Za hq pp
   ·have:=za.out
    rw [FO] at this
    simp only [Int.toNat_natCast] at this
    exact this
  ·obtain rfl:j=l.length:=by omega
   have hL:=HL.out
   rw [<-DH,List.drop_length] at hL
   simp only [aAll,zaA,Prod.mk.injEq] at hL
   obtain ⟨rfl,rfl⟩:=hL
   have DI:wr.cell? ⟨w2.heap.size+1+1,2,none⟩=some (iI 0):=by
    obtain ⟨sfv,suv,DD⟩:=HA.out.slow
    exact (aa DD.ob.out 2).trans rfl
   go_wp2_with fail
   have hA:wr.drew.cell? ⟨w2.heap.size+1+1,2,none⟩=some (iI 0):=DI
   have hB:True:=trivial
   refine ae (fun W=>W.cell? ⟨w2.heap.size+1+1,2,none⟩=some (iI 0)) (fun W=>True) 6 rfl ?_
   refine Zp 0 rfl (h:=Zp 1 rfl (h:=Zp 2 rfl (h:=Zp 3 rfl (h:=Zt 4 rfl (h:=?_)))));try simp only [Zq]
   refine Zs 5 rfl fun K hK=>?_
   go_simp
   refine hK _ _ ⟨hA,fun _=>trivial⟩ ?_
   clear hK K
   refine Zs 6 rfl fun K hK=>?_
   go_simp
   refine hK _ _ ⟨hA,fun _=>trivial⟩ ?_
   clear hK K
   refine af Zb ?_ _
   go_wp2_with fail
   refine zad (by simp [results,Tryz.results77,go_sem];try rfl) rfl ?_
   have h9:=HA.out.below (ag (zaa wr.heap.size wr))
   refine ⟨w2.heap.size,regs,?_,h9.bl,?_⟩
   ·simp only [wX]
   ·have:=h9.out
    rw [<-wX] at this ⊢
    exact this
end Go.Proofs.YtcekjfmfcefjpaaGreatDoor
