/- Walks. No condition. -/
import Derived.Test.YtcekjfmfcefjpaaGreatDoorG48
set_option maxRecDepth 100000
set_option maxHeartbeats 0
set_option linter.all false
namespace Go.Proofs.YtcekjfmfcefjpaaGreatDoor
open Go.RowKit Go.Sort
theorem MacAt.mem{W:qW}{M:Nat}{F:Nat->Prop}{bs:List Nat}{s:MSt}(h:MacAt W M F bs s): ∃bv,W.cell? (aB M 1)=some bv/\W.ownsRow (M+1) 5 1 bv s.bytes.length (s.bytes.flatMap aK):=by
 obtain ⟨tv,bv,ks,zv,hm,hf⟩:=h.at_
 exact ⟨bv,hm.cells 1,hm.ob.own ⟨1,5,1,s.bytes.length,s.bytes.flatMap aK⟩ (by simp [mcR])⟩
theorem MacAt.prints{W:qW}{M n b:Nat}{F:Nat->Prop}{bs:List Nat}{s:MSt}{t:TD}(h:MacAt W M F bs s)(hb:bs[n]?=some b)(ht:s.ts[n]?=some t): ∃pv,W.cell? (aB b 38)=some pv/\W.ownsRow (b+1) 39 1 pv t.prints.length (t.prints.flatMap aX):=by
 obtain ⟨cv,pv,gs,sc,hx, -⟩:=h.th hb ht
 refine ⟨pv,hx.cell 38 Za,?_⟩
 have:=hx.ob.own ⟨38,39,1,t.prints.length,t.prints.flatMap aX⟩ (by simp [thR])
 simp only [a9 _ 38 (by omega:38<40)] at this
 exact this
theorem SlV.part{W:qW}{B n m:Nat}{bv:qV}{l:List Nat}(h:W.ownsRow B 5 1 bv n (l.flatMap aK))(hm:m<=n): ∃a c,bv= .slice a n c/\m<=c/\SlV W (.slice a m c) m ((l.take m).flatMap aK):=by
 have hl:=h.1
 rw [show aK=(fun n:Nat=>[Value.int .u8 n]) from rfl,cz] at hl
 have A8:l.length=n:=by simpa using hl
 obtain ⟨a,c,rfl,hc,yr, -, -⟩:=az h
 refine ⟨a,c,rfl,by omega,?_⟩
 have hcut:=eZ h hm
 have e:(l.flatMap aK).take (m*1)=(l.take m).flatMap aK:=by
  rw [show aK=(fun n:Nat=>[Value.int .u8 n]) from rfl,cz,cz,Nat.mul_one,List.map_take]
 rw [e] at hcut
 exact SlV.of_own hcut (fun u hu=>by
  rw [show aK=(fun n:Nat=>[Value.int .u8 n]) from rfl,cz] at hu
  obtain ⟨x, -,rfl⟩:=List.mem_map.1 hu
  rfl)
theorem SlV.below{W W':qW}{v:qV}{n:Nat}{xs:List qV}(h:SlV W v n xs)(hb:Below W.heap.size W W'):SlV W' v n xs:=by
 obtain ⟨a,c,e,h1,h2,h3,h4,hx⟩:=h
 refine ⟨a,c,e,h1,h2,h3,h4,hx.imp id ?_⟩
 rintro ⟨g,e2,hg,hR⟩
 exact ⟨g,e2,zar hg hb.size,fun j u hu=>(hb.cell (p:=⟨g,j,none⟩) hg).trans (hR j u hu)⟩
theorem s8:(Tryz.prog.info? 80).map (fun i=>(i.zero,i.size,i.bytes))=some (some (.slice none 0 0),1,24):=by kernel_rfl
theorem ybJ:(Tryz.prog.info? 3).map (fun i=>(i.zero,i.size,i.bytes))=some (some (iI 0),1,8):=by kernel_rfl
theorem ybu:(Tryz.prog.info? 22).map (·.size)=some 1:=by kernel_rfl
def RdV(V:qW)(X:Nat->Prop)(xs:List qV)(v:qV):Prop:= ∃a,v= .slice a xs.length xs.length/\((a=none/\xs.length=0)\/ ∃g,a=aA g/\g<V.heap.size/\ ¬X g/\RowC V g xs)
theorem RdV.kp{V V':qW}{X Y:Nat->Prop}{xs:List qV}{v:qV}(h:RdV V X xs v)(hk:Kp X V V')(hY: ∀k,Y k->X k\/V.heap.size<=k):RdV V' Y xs v:=by
 obtain ⟨a,e,hx⟩:=h
 refine ⟨a,e,hx.imp id ?_⟩
 rintro ⟨g,e2,hg,hX,hR⟩
 refine ⟨g,e2,zar hg hk.size,fun hy=>?_,fun j u hu=>(hk.cell hg hX).trans (hR j u hu)⟩
 rcases hY g hy with h|h
 ·exact hX h
 ·omega
theorem ox{X Y P:Nat->Prop}{n:Nat}(h: ∀k,Y k->X k\/n<=k): ∀k,(P k\/Y k)->(P k\/X k)\/n<=k:=fun k hk=>by
 rcases hk with hk|hk
 ·exact .inl (.inl hk)
 ·exact (h k hk).imp .inr id
def endsL(ts:List TD):List qV:=ts.map (fun t=>iI t.end_)
structure OcA(W:qW)(O N:Nat)(s:MSt)(kp ke:Nat)(v1:qV)(V:qW)(v2 v3:qV)(ps:List qV):Prop where
 bel:Below W.heap.size W V
 res:V.heap[W.heap.size]?=some (.cells #[.slice none 0 0,.slice none 0 0,.slice none 0 0] 57 (0,0))
 ob:Ob O 57 #[v1,v2,v3] [⟨1,80,1,kp,ps⟩,⟨2,3,1,ke,endsL (s.ts.take ke)⟩] V
 by_:RdV V (fun q=>q<=W.heap.size\/foot O #[v1,v2,v3] [⟨1,80,1,kp,ps⟩,⟨2,3,1,ke,endsL (s.ts.take ke)⟩] q) ((s.bytes.take N).flatMap aK) v1
 pr: ∀(i:Nat) (t:TD) (v:qV),s.ts[i]?=some t->ps[i]?=some v->RdV V (fun q=>q<=W.heap.size\/foot O #[v1,v2,v3] [⟨1,80,1,kp,ps⟩,⟨2,3,1,ke,endsL (s.ts.take ke)⟩] q) (t.prints.flatMap aX) v
 lo:W.heap.size<O
theorem OcA.below{W V V':qW}{O N:Nat}{s:MSt}{kp ke:Nat}{v1 v2 v3:qV}{ps:List qV}(h:OcA W O N s kp ke v1 V v2 v3 ps)(hb:Below V.heap.size V V'):OcA W O N s kp ke v1 V' v2 v3 ps:=
 ⟨ar h.bel hb h.bel.size,(hb.block _ (ac h.res)).trans h.res,h.ob.below hb,h.by_.kp (Kp.of_below hb) (fun _=> .inl),fun i t v ht hv=>(h.pr i t v ht hv).kp (Kp.of_below hb) (fun _=> .inl),h.lo⟩
theorem iW(l:List Nat):l.flatMap aX=l.map (fun n=>Value.int .u64 (n:Nat)):=cz _ l
theorem OcA.print{W V X W2:qW}{O N:Nat}{s:MSt}{k g cap:Nat}{v1 v2 v3 v:qV}{ps:List qV}{t:TD}(h:OcA W O N s k k v1 V v2 v3 ps)(ht:s.ts[k]?=some t)(DN:ps.length=k)(hv:RdV V (fun q=>q<=W.heap.size\/foot O #[v1,v2,v3] [⟨1,80,1,k,ps⟩,⟨2,3,1,k,endsL (s.ts.take k)⟩] q) (t.prints.flatMap aX) v)
  (hx:Kp (fun _=>False) V X) (wW:X.grownBy W2 v2.ownBlock) (hown:W2.ownsRow (O+1) 80 1 (.slice (aA g) (k+1) cap) (k+1) (ps++[v])) (xb:v2.ownBlock=some g\/g=X.heap.size):
  OcA W O N s (k+1) k v1 (W2.setCell ⟨O,1,none⟩ (.slice (aA g) (k+1) cap)) (.slice (aA g) (k+1) cap) v3 (ps++[v]):=by
 obtain ⟨h1,h2,h3⟩:=h.ob.put (r:=⟨1,80,1,k,ps⟩) Zi Zi (W2:=W2) (v':= .slice (aA g) (k+1) cap) (n':=k+1) (xs':=ps++[v])
  ((hx.mono (fun _ _ e=>e.elim)).trans ((Kp.of_grown wW).mono (fun k _ e=>e.symm))) hown (fun q hq=>by
   obtain rfl:g=q:=by simpa [Value.ownBlock] using hq
   have:=hx.size
   rcases xb with e|e
   ·exact .inl e
   ·exact .inr Za)
 simp only [List.map_cons,List.map_nil,if_true,if_neg (show¬(2:Nat)=1 by omega)] at h1 h3
 have hb:=aH h.bel h2 (fun q hq=>by have:=(h.ob.foot_lt hq).1;have:=h.lo;omega)
 refine ⟨hb,(h2.block _ (ac h.res) (fun hq=>by have:=(h.ob.foot_lt hq).1;have:=h.lo;omega)).trans h.res,h1,h.by_.kp (h2.mono (fun _ _ e=> .inr e)) (ox h3),fun i u w hu hw=>?_,h.lo⟩
 rcases aS hw with ⟨hi,hw⟩|⟨hi,rfl⟩
 ·exact (h.pr i u w hu hw).kp (h2.mono (fun _ _ e=> .inr e)) (ox h3)
 ·rw [hi,DN,ht] at hu
  obtain rfl:=zae hu
  exact hv.kp (h2.mono (fun _ _ e=> .inr e)) (ox h3)
theorem OcA.end_{W V X W2:qW}{O N:Nat}{s:MSt}{k g cap:Nat}{v1 v2 v3:qV}{ps:List qV}{t:TD}(h:OcA W O N s (k+1) k v1 V v2 v3 ps)(ht:s.ts[k]?=some t)
  (hx:Kp (fun _=>False) V X) (wW:X.grownBy W2 v3.ownBlock) (hown:W2.ownsRow (O+1) 3 1 (.slice (aA g) (k+1) cap) (k+1) (endsL (s.ts.take k)++[iI t.end_])) (xb:v3.ownBlock=some g\/g=X.heap.size):
  OcA W O N s (k+1) (k+1) v1 (W2.setCell ⟨O,2,none⟩ (.slice (aA g) (k+1) cap)) v2 (.slice (aA g) (k+1) cap) ps:=by
 have et:endsL (s.ts.take (k+1))=endsL (s.ts.take k)++[iI t.end_]:=by
  unfold endsL
  rw [zaz,ht]
  simp
 obtain ⟨h1,h2,h3⟩:=h.ob.put (r:=⟨2,3,1,k,endsL (s.ts.take k)⟩) Zi Zi (W2:=W2) (v':= .slice (aA g) (k+1) cap) (n':=k+1) (xs':=endsL (s.ts.take k)++[iI t.end_])
  ((hx.mono (fun _ _ e=>e.elim)).trans ((Kp.of_grown wW).mono (fun k _ e=>e.symm))) hown (fun q hq=>by
   obtain rfl:g=q:=by simpa [Value.ownBlock] using hq
   have:=hx.size
   rcases xb with e|e
   ·exact .inl e
   ·exact .inr Za)
 simp only [List.map_cons,List.map_nil,if_true,if_neg (show¬(1:Nat)=2 by omega)] at h1 h3
 rw [<-et] at h1 h3
 have hb:=aH h.bel h2 (fun q hq=>by have:=(h.ob.foot_lt hq).1;have:=h.lo;omega)
 exact ⟨hb,(h2.block _ (ac h.res) (fun hq=>by have:=(h.ob.foot_lt hq).1;have:=h.lo;omega)).trans h.res,h1,h.by_.kp (h2.mono (fun _ _ e=> .inr e)) (ox h3),fun i u w hu hw=>(h.pr i u w hu hw).kp (h2.mono (fun _ _ e=> .inr e)) (ox h3),h.lo⟩
def OutD(W:qW)(s:MSt)(e:Ending)(w':qW):Prop:=
 ∃v1 g2 c2 g3 c3 ps,e= .returned (.agg #[v1,.slice (aA g2) s.ts.length c2,.slice (aA g3) s.ts.length c3])/\Below W.heap.size W w'/\RdV w' (fun q=>q<=W.heap.size) ((s.bytes.take s.size.toNat).flatMap aK) v1/\(W.heap.size<g2/\g2<w'.heap.size)/\(W.heap.size<g3/\g3<w'.heap.size)/\s.ts.length<=c2/\s.ts.length<=c3/\
  ps.length=s.ts.length/\RowC w' g2 ps/\RowC w' g3 (endsL s.ts)/\ ∀(i:Nat) (t:TD) (v:qV),s.ts[i]?=some t->ps[i]?=some v->RdV w' (fun q=>q<=W.heap.size) (t.prints.flatMap aX) v
theorem kL{W:qW}{M:Nat}{F:Nat->Prop}{bs:List Nat}{s:MSt}(h:MacAt W M F bs s)(h0:0<s.size)(hp: ∀t∈s.ts,t.prints.length<=1000000):qC 9 #[pP M] W (OutD W s):=by
 have hM:=h.M_lt
 obtain ⟨bv,q1,LV⟩:=h.mem
 obtain ⟨N,hN⟩: ∃N:Nat,s.size=N:=⟨s.size.toNat,by have:=h.ok.sz.1;omega⟩
 have hNl:N<=s.bytes.length:=by have:=h.ok.sz.2;omega
 have xg:=h.ok.bl
 obtain ⟨ba,bc,rfl,J9,CV⟩:=SlV.part LV hNl
 have q2:W.cell? (aB M 2)=some (iI (N:Int)):=hN ▸ h.cell3.2.2.1
 obtain ⟨g,rfl,xY,wW⟩: ∃g,ba=aA g/\g<W.heap.size/\True:=by
  obtain ⟨a,c,e, -, -, -, -,hx⟩:=CV
  injection e with e1 e2 e3
  subst e1
  rcases hx with ⟨-,h2, -⟩|⟨g,h2,h3, -⟩
  ·omega
  ·exact ⟨g,h2,h3,trivial⟩
 have H:=Zh h
 have HBS:=Zh CV
 have hbc2:(N:Int)<=bc:=by omega
 have zZ:=Zh h.bl
 have h8:=h.ok.n8
 have hb8:bs.length<=8:=by have:=h.bl;omega
 have ye:1<=bs.length:=by have:=h.bl;have:=h.ok.n1;omega
 clear h LV CV wW
 go_enter Tryz.func9,Tryz.ntmps9
 go_wp2_with fail
 refine aT (R:=fun X=>Below W.heap.size W X/\X.heap[W.heap.size]?=some (.cells #[.slice none 0 0,.slice none 0 0,.slice none 0 0] 57 (0,0))/\X.heap[W.heap.size+1]?=some (.cells #[.slice none 0 0,.slice none 0 0,.slice none 0 0] 57 (0,0))) ⟨ab (ab (zaa _ _) _) _,(zac _ _ ZM).trans (zab _ _),aI (by simp only [au])⟩ ?_
 rintro V ⟨yw,hr,ho⟩
 have hA:V.drew.cell? (aB M 1)=some (.slice (aA g) s.bytes.length bc)/\V.drew.cell? (aB M 2)=some (iI (N:Int)):=⟨(yw.cell (p:=⟨M,1,none⟩) hM).trans q1,(yw.cell (p:=⟨M,2,none⟩) hM).trans q2⟩
 have hB:True:=trivial
 have hOV:=ac ho
 have yJ:=Zh yw
 have HR:=Zh hr
 have HO:=Zh ho
 clear yw hr ho
 refine ae (fun X=>X.cell? (aB M 1)=some (.slice (aA g) s.bytes.length bc)/\X.cell? (aB M 2)=some (iI (N:Int))) (fun W=>True) 12 rfl ?_
 refine Zp 0 rfl (h:=Zp 1 rfl (h:=Zp 2 rfl (h:=Zt 3 rfl (h:=Zp 4 rfl (h:=Zp 5 rfl (h:=Zp 6 rfl (h:=Zt 7 rfl (h:=Zp 8 rfl (h:=?_)))))))));try simp only [Zq]
 refine Zs 9 rfl fun K hK=>?_
 go_simp
 go_at_call 26
 have C':SlV V.drew (.slice (aA g) N bc) N ((s.bytes.take N).flatMap aK):=HBS.out.below (ag yJ.out)
 refine (yd1 _ _ _ _ Za C').mono ?_
 rintro e V1 ⟨v1,rfl,ye,hown⟩
 have zn:Below V.heap.size V V1:=ar (ag (zaa _ V)) ye (zaq _)
 refine hK _ _ ⟨⟨(zn.cell (p:=⟨M,1,none⟩) (by show M<_;omega)).trans hA.1,(zn.cell (p:=⟨M,2,none⟩) (by show M<_;omega)).trans hA.2⟩,fun _=>trivial⟩ ?_
 clear hK K hA
 have hA:V1.cell? (aB M 1)=some (.slice (aA g) s.bytes.length bc)/\V1.cell? (aB M 2)=some (iI (N:Int)):=⟨((ar yJ.out zn yJ.out.size).cell (p:=⟨M,1,none⟩) hM).trans q1,((ar yJ.out zn yJ.out.size).cell (p:=⟨M,2,none⟩) hM).trans q2⟩
 refine Zs 10 rfl fun K hK=>?_
 go_simp
 go_at_call 25
 refine (yd5 _ _ _ _ _ hown).mono ?_
 rintro e V2 ⟨a1,rfl,rfl,L4⟩
 refine hK _ _ ⟨hA,fun _=>trivial⟩ ?_
 clear hK K
 have A7:=(zn.block _ hOV).trans HO.out
 refine Zp 11 rfl (h:=?_);try simp only [Zq]
 refine Zs 12 rfl fun K hK=>?_
 refine bw rfl (dz 22 (.tmp 20) (.tmp 19) rfl (W.heap.size+1) 0 (.slice a1 N N) rfl rfl A7 Zi rfl rfl ybu ?_)
 intro V3 g3 k3 z3
 refine hK _ _ ⟨⟨(k3.cell (by have:=zn.size;omega) (fun e=>by have:M=W.heap.size+1:=e;omega)).trans hA.1,(k3.cell (by have:=zn.size;omega) (fun e=>by have:M=W.heap.size+1:=e;omega)).trans hA.2⟩,fun _=>trivial⟩ ?_
 clear hK K
 refine af Zb ?_ _
 have Ib:((s.bytes.take N).flatMap aK).length=N:=by
  rw [show aK=(fun n:Nat=>[Value.int .u8 n]) from rfl,cz]
  simp
  omega
 have xr:Below W.heap.size W V2:=ar yJ.out zn yJ.out.size
 have yc:OcA W (W.heap.size+1) N s 0 0 (.slice a1 N N) V3 (.slice none 0 0) (.slice none 0 0) []:=by
  have Gr: ∀q,foot (W.heap.size+1) #[.slice a1 N N,.slice none 0 0,.slice none 0 0] [⟨1,80,1,0,[]⟩,⟨2,3,1,0,endsL (s.ts.take 0)⟩] q->q=W.heap.size+1:=fun q hq=>by
   rcases hq with hq|⟨r,hr,hq⟩
   ·exact hq
   ·simp only [zaM,zaN,or_false] at hr
    rcases hr with rfl|rfl<;>simp [fld,Value.ownBlock] at hq
  refine ⟨aH xr k3 (fun q e=>by omega),(k3.block _ (by have:=zn.size;omega) (fun e=>by omega)).trans ((zn.block _ (ac HR.out)).trans HR.out),⟨g3,fun r hr=>?_,by simp,fun r hr q hq hne x h8 h9=>?_⟩,⟨a1,by rw [Ib],?_⟩,fun i u v hu hv=>by simp at hv,by omega⟩
  ·simp only [zaM,zaN,or_false] at hr
   rcases hr with rfl|rfl
   ·exact ⟨rfl,.inl ⟨rfl,rfl⟩⟩
   ·exact ⟨rfl,.inl ⟨rfl,rfl⟩⟩
  ·simp only [zaM,zaN,or_false] at hr
   rcases hr with rfl|rfl<;>simp [fld,Value.ownBlock] at h8
  ·rcases L4 with ⟨h1,h2⟩|⟨g1,h1,h2,h3,h4⟩
   ·exact .inl ⟨h1,by rw [Ib];exact h2⟩
   ·have Bx:V.heap.size<=g1:=h2
    exact .inr ⟨g1,h1,by omega,fun hq=>by rcases hq with hq|hq<;>first|omega|(have:=Gr g1 hq;omega),fun j u hu=>(k3.cell h3 (fun e=>by have:g1=W.heap.size+1:=e;omega)).trans (h4 j u hu)⟩
 have Bk:=Zh yc
 obtain ⟨tv,tc,q0,htc,No,xd⟩:=H.out.row
 have hM3:V3.cell? (aB M 0)=some (.slice (aA tv) bs.length tc):=(yc.bel.cell (p:=⟨M,0,none⟩) hM).trans q0
 have Dv:=Zh xd
 have HXL:=Zh Ib
 clear yc Ib xr zn ye hown L4 A7 g3 k3 hA hB C' z3 xd
 go_wp2_with fail
 clear hM3
 go_loopw [26] (fun v26 wr=> ∃(k:Nat) (v2 v3:qV) (ps:List qV),v26=iI k/\k<=bs.length/\ps.length=k/\OcA W (W.heap.size+1) N s k k (.slice a1 N N) wr v2 v3 ps) (fun v26 _=>bs.length-(intOf v26).toNat)
 case atStart=>exact ⟨0,_,_,[],rfl,by omega,rfl,Bk.out⟩
 case round=>
  obtain ⟨k,v2,v3,ps,rfl,hk,BM,yc⟩:=hrel
  by_cases zj:k<bs.length
  ·have J8:=zZ.out
   obtain ⟨t,ht⟩: ∃t,s.ts[k]?=some t:=⟨s.ts[k]'Za,zaC _⟩
   obtain ⟨b,hb⟩: ∃b,bs[k]?=some b:=⟨bs[k],zaC zj⟩
   have Ew:(k:Int)<bs.length:=by omega
   have wT:IntKind.i64.wrap ((k:Int)+1)=(k:Int)+1:=a7 Za Za
   have hm:=H.out.below yc.bel
   obtain ⟨pv,q38,Ll⟩:=hm.prints hb ht
   have q39:=hm.end39 hb ht
   have qrow:wr.cell? (aB tv k)=some (pP b):=(yc.bel.cell (p:=⟨tv,k,none⟩) No).trans (Dv.out k b hb)
   have Bg:b<wr.heap.size:=(hm.blk hb).elim (fun _ h=>ac h)
   have J':b≠W.heap.size+1:=by
    obtain ⟨_,h⟩:=H.out.blk hb
    have:=ac h
    omega
   have Bk:=Zh yc
   have MX:=Zh Ll
   clear yc hm Ll J8
   go_upto_region 8 with fail
   obtain ⟨i0,xz,xq,xm,xk⟩:=zan s8
   obtain ⟨i1,Dk,AH,Bm,Ag⟩:=zan ybJ
   have FU:=hp t (zat ht)
   have Dg:=Bk.out.ob.lt
   have qo:wr.cell? ⟨W.heap.size+1,1,none⟩=some v2:=aa Bk.out.ob.out 1
   have hA:wr.drew.cell? (aB b 38)=some pv:=q38
   have hB:wr.drew.cell? ⟨W.heap.size+1,1,none⟩=some v2:=qo
   refine ae (fun X=>X.cell? (aB b 38)=some pv) (fun X=>X.cell? ⟨W.heap.size+1,1,none⟩=some v2) 11 rfl ?_
   refine Zp 0 rfl (h:=Zl 1 [9,11] rfl (h:=Zp 2 rfl (h:=Zp 3 rfl (h:=Zp 4 rfl (h:=Zt 5 rfl (h:=?_))))));try simp only [Zq]
   refine Zs 6 rfl fun K hK=>?_
   go_simp
   go_at_call 28
   have C':SlV wr.drew pv t.prints.length (t.prints.flatMap aX):=(SlV.of_own MX.out (fun u hu=>by
    rw [iW] at hu
    obtain ⟨x, -,rfl⟩:=List.mem_map.1 hu
    rfl)).below (ag (zaa _ _))
   refine (yd2 _ _ _ _ Za C').mono ?_
   rintro e V4 ⟨v4,rfl,Do,DR⟩
   have Bj:Below wr.heap.size wr V4:=ar (ag (zaa _ wr)) Do (zaq _)
   have Ku:V4.cell? (aB b 38)=some pv:=(Bj.cell (p:=⟨b,38,none⟩) Bg).trans q38
   have Ch:V4.cell? ⟨W.heap.size+1,1,none⟩=some v2:=(Bj.cell (p:=⟨W.heap.size+1,1,none⟩) Dg).trans qo
   refine hK _ _ ⟨Ku,fun _=>Ch⟩ ?_
   clear hK K hA hB
   have hA:=Ku
   have hB:=Ch
   refine Zs 7 rfl fun K hK=>?_
   go_simp
   go_at_call 27
   refine (yd6 _ _ _ _ _ DR).mono ?_
   rintro e V5 ⟨a5,rfl,rfl,L3⟩
   refine hK _ _ ⟨hA,fun _=>hB⟩ ?_
   clear hK K
   have Cn:=Zh (Bk.out.below Bj)
   have Df:=Cn.out.ob.lt
   have Dn:b<V5.heap.size:=by have:=Bj.size;omega
   have Lh:RdV V5 (fun q=>q<=W.heap.size\/foot (W.heap.size+1) #[.slice a1 N N,v2,v3] [⟨1,80,1,k,ps⟩,⟨2,3,1,k,endsL (s.ts.take k)⟩] q) (t.prints.flatMap aX) (.slice a5 t.prints.length t.prints.length):=by
    have Bb:(t.prints.flatMap aX).length=t.prints.length:=by rw [iW];simp
    refine ⟨a5,by rw [Bb],?_⟩
    rcases L3 with ⟨h1,h2⟩|⟨g1,h1,h2,h3,h4⟩
    ·exact .inl ⟨h1,by rw [Bb];exact h2⟩
    ·have Bx:wr.heap.size<=g1:=h2
     exact .inr ⟨g1,h1,h3,fun hq=>by rcases hq with hq|hq<;>first|(have:=ac Bk.out.res;omega)|(have:=(Bk.out.ob.foot_lt hq).2;omega),h4⟩
   have MW:=Zh Lh
   have q39':V5.cell? (aB b 39)=some (iI t.end_):=(Bj.cell (p:=⟨b,39,none⟩) Bg).trans q39
   have Bn:=Cn.out.ob.own ⟨1,80,1,k,ps⟩ Zi
   have Co:Hid (V5.ownsRow (W.heap.size+1+1) 80 1 v2 k ps):=Zh Bn
   clear Lh L3 DR Do C' Bn
   refine Zs 8 rfl fun K hK=>?_
   go_simp
   refine hK _ _ ⟨by rw [aR,if_pos (show b<_ from Dn)];exact hA,fun _=>by rw [aR,if_pos (show W.heap.size+1<_ from Df)];exact hB⟩ ?_
   refine Zs 9 rfl fun K hK=>?_
   refine a8 (.tmp 31) (.tmp 38) 54 80 i0 _ 1 24 Tryz.underlying54 xz xq xm xk rfl Zg rfl rfl (W.heap.size+1+1) v2 k ps (aw Co.out (fun g hg=>zac _ _ (Co.out.lt g hg).2)) V5.heap.size #[.slice a5 t.prints.length t.prints.length] 80 (0,0) (zab _ _) ZB ZB rfl ZL Za Za Zc ?_
   intro g6 cap6 w6 DQ EB GL Et
   have H6:=Zh (Cn.out.print ht BM MW.out (Kp.al _ _) EB DQ GL)
   have ym:Kp (fun q=>v2.ownBlock=some q) V5 w6:=(Kp.al _ _).trans ((Kp.of_grown EB).mono (fun q _ e=>e.symm))
   have E9:v2.ownBlock≠some (W.heap.size+1):=fun e=>by have:=(Co.out.lt _ e).1;omega
   have BP:v2.ownBlock≠some b:=fun e=>by
    have:=(Co.out.lt _ e).1
    obtain ⟨_,h⟩:=H.out.blk hb
    have:=ac h
    omega
   have zA:w6.cell? (aB b 38)=some pv:=(ym.cell Dn BP).trans hA
   have zB:w6.cell? ⟨W.heap.size+1,1,none⟩=some v2:=(ym.cell Df E9).trans hB
   have z39:w6.cell? (aB b 39)=some (iI t.end_):=(ym.cell Dn BP).trans q39'
   have zf: ∀q,w6.frozen? ⟨W.heap.size+1,q,none⟩=false:=ai ((ym.block _ Df E9).trans Cn.out.ob.out)
   have zb:b<w6.heap.size:=by have:=ym.size;omega
   clear DQ EB GL ym
   refine hK _ _ ⟨zA,fun _=>zB⟩ ?_
   clear hK K hA hB
   have hA:=zA
   have hB:=zB
   refine Zp 10 rfl (h:=?_);try simp only [Zq]
   refine Zs 11 rfl fun K hK=>?_
   go_simp
   refine hK _ _ ⟨(zaH _ _ _ _ (fun e=>J' (congrArg Addr.block e).symm)).trans zA,fun hh=>Bool.noConfusion (hh.symm.trans (show _=true by kernel_rfl))⟩ ?_
   clear hK K hA hB
   refine af Zb ?_ _
   have z39':(w6.setCell ⟨W.heap.size+1,1,none⟩ (.slice (aA g6) (k+1) cap6)).cell? (aB b 39)=some (iI t.end_):=(zaH _ _ _ _ (fun e=>J' (congrArg Addr.block e).symm)).trans z39
   have zb':b<(w6.setCell ⟨W.heap.size+1,1,none⟩ (.slice (aA g6) (k+1) cap6)).heap.size:=by simpa [World.setCell] using zb
   generalize w6.setCell ⟨W.heap.size+1,1,none⟩ (.slice (aA g6) (k+1) cap6)=V7 at*
   generalize Value.slice (aA g6) (k+1) cap6=v2' at*
   clear zA zB z39 zf zb q39' q38 q39 qrow qo Ku Ch Bj Bk Cn Co MX MW Dg Df Bg Dn Et E9 BP
   go_upto_region 9 with fail
   have Dg:=H6.out.ob.lt
   have qo:V7.cell? ⟨W.heap.size+1,2,none⟩=some v3:=aa H6.out.ob.out 2
   have hA:V7.drew.cell? (aB b 39)=some (iI t.end_):=z39'
   have hB:V7.drew.cell? ⟨W.heap.size+1,2,none⟩=some v3:=qo
   have Bn:=H6.out.ob.own ⟨2,3,1,k,endsL (s.ts.take k)⟩ Zi
   have Co:Hid (V7.ownsRow (W.heap.size+1+1) 3 1 v3 k (endsL (s.ts.take k))):=Zh Bn
   clear Bn
   refine ae (fun X=>X.cell? (aB b 39)=some (iI t.end_)) (fun X=>X.cell? ⟨W.heap.size+1,2,none⟩=some v3) 9 rfl ?_
   refine Zp 0 rfl (h:=Zl 1 [7,9] rfl (h:=Zp 2 rfl (h:=Zp 3 rfl (h:=Zp 4 rfl (h:=Zt 5 rfl (h:=?_))))));try simp only [Zq]
   refine Zs 6 rfl fun K hK=>?_
   go_simp
   refine hK _ _ ⟨(an zb').trans z39',fun _=>(an Dg).trans qo⟩ ?_
   refine Zs 7 rfl fun K hK=>?_
   refine a8 (.tmp 42) (.tmp 47) 55 3 i1 _ 1 8 Tryz.underlying55 Dk AH Bm Ag rfl Zg rfl rfl (W.heap.size+1+1) v3 k (endsL (s.ts.take k)) (aw Co.out (fun g hg=>zac _ _ (Co.out.lt g hg).2)) V7.heap.size #[iI t.end_] 3 (0,0) (zab _ _) ZB ZB rfl ZL Za Za Zc ?_
   intro g8 cap8 w8 DP EA GK JB
   have H8:=Zh (H6.out.end_ ht ((Kp.dr _).trans (Kp.al _ _)) EA DP GK)
   have ym:Kp (fun q=>v3.ownBlock=some q) V7 w8:=((Kp.dr _).trans (Kp.al _ _)).trans ((Kp.of_grown EA).mono (fun q _ e=>e.symm))
   have E9:v3.ownBlock≠some (W.heap.size+1):=fun e=>by have:=(Co.out.lt _ e).1;omega
   have BP:v3.ownBlock≠some b:=fun e=>by
    have:=(Co.out.lt _ e).1
    obtain ⟨_,h⟩:=H.out.blk hb
    have:=ac h
    omega
   have zA:w8.cell? (aB b 39)=some (iI t.end_):=(ym.cell zb' BP).trans z39'
   have zB:w8.cell? ⟨W.heap.size+1,2,none⟩=some v3:=(ym.cell Dg E9).trans qo
   have zf: ∀q,w8.frozen? ⟨W.heap.size+1,q,none⟩=false:=ai ((ym.block _ Dg E9).trans H6.out.ob.out)
   clear DP EA GK ym
   refine hK _ _ ⟨zA,fun _=>zB⟩ ?_
   clear hK K hA hB
   have hA:=zA
   have hB:=zB
   refine Zp 8 rfl (h:=?_);try simp only [Zq]
   refine Zs 9 rfl fun K hK=>?_
   go_simp
   refine hK _ _ ⟨(zaH _ _ _ _ (fun e=>J' (congrArg Addr.block e).symm)).trans zA,fun hh=>Bool.noConfusion (hh.symm.trans (show _=true by kernel_rfl))⟩ ?_
   clear hK K hA hB
   refine af Zb ?_ _
   clear zA zB zf z39' zb' Co Dg qo
   go_wp2_with fail
   exact ⟨⟨k+1,_,_,_,by simp,by omega,by simp [BM],H8.out⟩,by simp [intOf];omega⟩
  ·have zM:k=bs.length:=by omega
   have Ew: ¬(k:Int)<bs.length:=by omega
   have own2:=yc.ob.own ⟨1,80,1,k,ps⟩ Zi
   have own3:=yc.ob.own ⟨2,3,1,k,endsL (s.ts.take k)⟩ Zi
   have own2:wr.ownsRow (W.heap.size+1+1) 80 1 v2 k ps:=own2
   have own3:wr.ownsRow (W.heap.size+1+1) 3 1 v3 k (endsL (s.ts.take k)):=own3
   obtain ⟨a2,c2,rfl,yr, -, -, -⟩:=az own2
   obtain ⟨g2,rfl⟩:=cr own2 (show 0<k by omega)
   obtain ⟨a3,c3,rfl,D7, -, -, -⟩:=az own3
   have yd:0<k:=by omega
   obtain ⟨g3,rfl⟩:=cr own3 yd
   have y':=Zh (bS own2)
   have Fm:=Zh (bS own3)
   have yy:=own2.lt g2 rfl
   have In:=own3.lt g3 rfl
   have Bk:=Zh yc
   have o0:=aa yc.ob.out 0
   have o1:=aa yc.ob.out 1
   have o2:=aa yc.ob.out 2
   have r0:=aa yc.res 0
   have r1:=aa yc.res 1
   have r2:=aa yc.res 2
   have rf:=ai yc.res
   simp only [List.getElem?_toArray,List.getElem?_cons_zero,List.getElem?_cons_succ] at o0 o1 o2 r0 r1 r2
   have Ht:=Zh zM
   clear yc zM own2 own3
   go_wp2_with fail
   have wT:Kp (fun q=>q=W.heap.size) wr (((wr.setCell ⟨W.heap.size,0,none⟩ (.slice a1 N N)).setCell ⟨W.heap.size,1,none⟩ (.slice (aA g2) k c2)).setCell ⟨W.heap.size,2,none⟩ (.slice (aA g3) k c3)):=((Kp.set _ _ _ _).trans (Kp.set _ _ _ _)).trans (Kp.set _ _ _ _)
   have hz:=aJ (aJ (aJ Bk.out.res (i:=0) (.slice a1 N N)) (i:=1) (.slice (aA g2) k c2)) (i:=2) (.slice (aA g3) k c3)
   generalize (((wr.setCell ⟨W.heap.size,0,none⟩ (.slice a1 N N)).setCell ⟨W.heap.size,1,none⟩ (.slice (aA g2) k c2)).setCell ⟨W.heap.size,2,none⟩ (.slice (aA g3) k c3))=Z at*
   have z0:Z.cell? (aB W.heap.size 0)=some (.slice a1 N N):=(aa hz 0).trans rfl
   have z1:Z.cell? (aB W.heap.size 1)=some (.slice (aA g2) k c2):=(aa hz 1).trans rfl
   have z2:Z.cell? (aB W.heap.size 2)=some (.slice (aA g3) k c3):=(aa hz 2).trans rfl
   have zX:=Zh wT
   clear wT hz o0 o1 o2 r0 r1 r2 rf
   (try simp only [Exit.inBlock,Exit.then]);refine zad (by simp [results,Tryz.results9,go_sem,↓IntWalk.iteOmega,z0,z1,z2];try rfl) rfl ?_
   have Dj:k=s.ts.length:=Ht.out.trans zZ.out
   have Mj: ∀(xs:List qV) (v:qV),RdV wr (fun q=>q<=W.heap.size\/foot (W.heap.size+1) #[.slice a1 N N,.slice (aA g2) k c2,.slice (aA g3) k c3] [⟨1,80,1,k,ps⟩,⟨2,3,1,k,endsL (s.ts.take k)⟩] q) xs v->RdV Z (fun q=>q<=W.heap.size) xs v:=fun xs v h=>h.kp (zX.out.mono (fun q _ e=> .inl (Nat.le_of_eq e))) (fun _ h=> .inl (.inl h))
   have hb:=Bk.out.by_
   have Oa:=Bk.out.pr
   have DA:=zX.out.size
   refine ⟨.slice a1 N N,g2,c2,g3,c3,ps,by rw [Dj],aH Bk.out.bel zX.out (fun q e=>by omega),by rw [hN];exact Mj _ _ hb,⟨by omega,by omega⟩,⟨by omega,by omega⟩,by omega,by omega,by omega,fun j u hu=>(zX.out.cell yy.2 (fun e=>by have:g2=W.heap.size:=e;omega)).trans (y'.out j u hu),fun j u hu=>(zX.out.cell In.2 (fun e=>by have:g3=W.heap.size:=e;omega)).trans (Fm.out j u (by rw [Dj,List.take_length];exact hu)),fun i t v ht hv=>Mj _ _ (Oa i t v ht hv)⟩
def wkT:qB:=(⟨#[118,97,114,32,120,32,117,56,32,59,32,116,104,114,101,97,100,32,123,32,119,114,105,116,101,32,120,32,61,32,55,32,59,32,125]⟩:qB)
def wkP:PrgD:=match pProg wkT with|some (p,_,_)=>p|none=>noPrg
theorem oL:pProg wkT=some (wkP,0,0):=by kernel_rfl
def wkR:List ThI:=(iProgB wkP).getD []
theorem oO:iProgB wkP=some wkR:=by kernel_rfl
theorem oN:(match lexAll wkT with| .inr []=>true|_=>false)=false:=by kernel_rfl
theorem oM:wkR.all rOk=true:=by kernel_rfl
theorem oK:((mRun [(3,5000,0)] 0 (mBeg (mapV 0 wkP.vars).2 wkR)).map (fun r=>(r.1.bytes.take 1,r.1.size,r.1.ts.map (·.end_),r.1.ts.map (fun t=>t.prints.length),r.2)))=some ([7],1,[1],[0],(1,0)):=by kernel_rfl
structure Runs(t:qB)(p:PrgD)(rs:List ThI)(size:Int):Prop where
 hp:pProg t=some (p,0,0)
 hne:lexAll t≠ .inr []
 hr:iProgB p=some rs
 hz:(mapV 0 p.vars).2=size
 hl:rs.length=p.threads.length
 h1:1<=rs.length
 h8:rs.length<=8
 s0:0<size
 s1:size<=65536
 ok: ∀r∈rs,rOk r=true
def RunD(w:qW)(s:MSt)(b:Bool)(e:Ending)(w':qW):Prop:=
 ∃v1 g2 c2 g3 c3,e= .returned (.tuple #[.agg #[v1,.slice (aA g2) s.ts.length c2,.slice (aA g3) s.ts.length c3],.bool b])/\Below w.heap.size w w'/\RdV w' (fun q=>q<=w.heap.size) ((s.bytes.take s.size.toNat).flatMap aK) v1
theorem rN(w:qW)(yT:SpT w)(t:qB)(p:PrgD)(rs:List ThI)(size:Int)(k:Int)(s:MSt)(n0 e0:Int)(H:Runs t p rs size)(wU:mRun [(3,k,0)] 0 (mBeg size rs)=some (s,n0,e0))(Nw:0<s.size)(Oa: ∀t∈s.ts,t.prints.length<=1000000):
  qC 29 #[.string t,iI k] w (RunD w s (e0==0)):=by
 have Dx:=Zh (fun W (hW:Below w.heap.size w W)=>lD t p H.hp H.hne rs H.hr W (yT.below hW))
 have HH:=Zh H
 have xZ:=Zh wU
 clear H wU
 go_enter Tryz.func29,Tryz.ntmps29
 go_wp2_with fail
 go_at_call 5
 refine (Dx.out _ Zr).mono ?_
 rintro e w2 ⟨gT,gv,rfl,yn,xn,Am,DZ,hT⟩
 rw [HH.out.hz,<-HH.out.hl] at*
 obtain ⟨ga,gc,rfl, -, -, -, -⟩:=az DZ
 have G7:Below w.heap.size w w2:=ar (ab (zaa _ _) _) yn ZM
 have xA:=Zh G7
 have HT:=Zh hT
 have r0:=(yn.block w.heap.size ZM).trans (zab _ _)
 have Hj:=Zh r0
 clear yn G7 hT DZ r0 Dx
 go_upto_region 2 with fail
 refine aT (R:=fun X=>Below w2.heap.size w2 X/\X.heap[w2.heap.size]?=some (.cells #[.slice (aA gT) rs.length rs.length,.slice (aA (gT+1)) rs.length rs.length,.slice ga (mapV 0 p.vars).1.length gc,iI size] 28 (0,0))/\X.heap[w2.heap.size+1]?=some (.cells #[iI 0,iI 0] 31 (0,0))) ⟨ab (ab (zaa _ _) _) _,(zac _ _ ZM).trans (zab _ _),aI (by simp only [au])⟩ ?_
 rintro V ⟨Ap,Ba,Gt⟩
 have hl:w.heap.size<w2.heap.size:=by have:=ac Hj.out;omega
 have i0:V.cell? (aB w2.heap.size 0)=some (.slice (aA gT) rs.length rs.length):=aa Ba 0
 have i1:V.cell? (aB w2.heap.size 1)=some (.slice (aA (gT+1)) rs.length rs.length):=aa Ba 1
 have i2:V.cell? (aB w2.heap.size 2)=some (.slice ga (mapV 0 p.vars).1.length gc):=aa Ba 2
 have i3:V.cell? (aB w2.heap.size 3)=some (iI size):=aa Ba 3
 have f1:V.cell? ⟨w2.heap.size+1,1,none⟩=some (iI 0):=aa Gt 1
 have yJ:=Zh (ar xA.out Ap xA.out.size)
 have NW:=Zh (lj V gT rs.length (.slice ga (mapV 0 p.vars).1.length gc) size rs HH.out.h1 HH.out.h8 rfl (by have:=HH.out.s0;omega) HH.out.s1 (by have:=Ap.size;omega) (fun j r hj=>(HT.out j r hj).below Ap Za Za) HH.out.ok ⟨_,_,_,rfl⟩)
 have Cm:=Zh ((Ap.block _ (ac Hj.out)).trans Hj.out)
 clear Ap Ba Gt xn Am
 go_wp2_with fail
 go_at_call 6
 refine NW.out.mono ?_
 rintro e V2 ⟨M,F,bs,rfl,hM,hm,xr⟩
 have HM:=Zh hm
 have zL:=Zh xr
 clear hm xr NW i0 i1 i2 i3 f1
 go_wp2_with fail
 have FQ:RowC (V2.alloc (.cells #[iI 3,iI k,iI 0] 52)) V2.heap.size ([((3:Int),k,(0:Int))].flatMap spC):=fun j u hu=>by
  rw [aa (zab _ _)]
  simpa [spC] using hu
 have RU:=jM (HM.out.below (ab (zaa _ _) _)) [(3,k,0)] V2.heap.size 1 Zi ZM (fun hF=>by have:=(HM.out.lt _ hF).2;omega) FQ xZ.out
 refine RU.mono ?_
 rintro e V3 ⟨rfl,hD⟩
 clear RU FQ
 have HD:=Zh hD
 clear hD
 go_wp2_with fail
 go_at_call 9
 refine (kL HD.out.mac Nw Oa).mono ?_
 rintro e V4 ⟨v1,g2,c2,g3,c3,ps,rfl,Do,zc,Am,LH,yr,D7,DN,y',Fm,Kh⟩
 obtain ⟨xs,BB⟩: ∃xs,xs=(s.bytes.take s.size.toNat).flatMap aK:=⟨_,rfl⟩
 rw [<-BB] at zc
 have G9:=Zh BB
 clear BB
 obtain ⟨a1,rfl,Ed⟩:=zc
 have yg:Hid (RdV V4 (fun q=>q<=V3.heap.size) xs (.slice a1 xs.length xs.length)):=Zh ⟨a1,rfl,Ed⟩
 clear Ed
 have hMw:w.heap.size<M:=by have:=yJ.out.size;have:=ac Cm.out;omega
 have DV: ¬F w.heap.size:=fun hF=>by have:=(HM.out.lt _ hF).1;omega
 have xk:=zL.out.size
 have NZ:=ac Cm.out
 have R3:=(HD.out.kp.block w.heap.size ZM DV).trans ((zac _ _ Za).trans ((zL.out.block _ NZ).trans Cm.out))
 have R4:=(Do.block _ (ac R3)).trans R3
 have o0:=aa R4 0
 have o1:=aa R4 1
 have o2:=aa R4 2
 simp only [List.getElem?_toArray,List.getElem?_cons_zero,List.getElem?_cons_succ] at o0 o1 o2
 have rf:=ai R4
 have GI:Below w.heap.size w V4:=by
  refine ar (aH (ab (ar yJ.out zL.out yJ.out.size) _) HD.out.kp (fun q hq=>by have:=(HM.out.lt q hq).1;omega)) Do ?_
  have:=HD.out.kp.size
  simp only [au] at this
  omega
 have IS:=Zh R4
 have Ia:=Zh GI
 have h34:w.heap.size<V3.heap.size:=ac R3
 clear R3 R4 GI Do y' Fm Kh Cm HT xZ
 go_wp2_with fail
 have wT:Kp (fun q=>q=w.heap.size) V4 (((V4.setCell ⟨w.heap.size,0,none⟩ (.slice a1 xs.length xs.length)).setCell ⟨w.heap.size,1,none⟩ (.slice (aA g2) s.ts.length c2)).setCell ⟨w.heap.size,2,none⟩ (.slice (aA g3) s.ts.length c3)):=((Kp.set _ _ _ _).trans (Kp.set _ _ _ _)).trans (Kp.set _ _ _ _)
 have hz:=aJ (aJ (aJ IS.out (i:=0) (.slice a1 xs.length xs.length)) (i:=1) (.slice (aA g2) s.ts.length c2)) (i:=2) (.slice (aA g3) s.ts.length c3)
 generalize (((V4.setCell ⟨w.heap.size,0,none⟩ (.slice a1 xs.length xs.length)).setCell ⟨w.heap.size,1,none⟩ (.slice (aA g2) s.ts.length c2)).setCell ⟨w.heap.size,2,none⟩ (.slice (aA g3) s.ts.length c3))=Z at*
 have z0:Z.cell? (aB w.heap.size 0)=some (.slice a1 xs.length xs.length):=(aa hz 0).trans rfl
 have z1:Z.cell? (aB w.heap.size 1)=some (.slice (aA g2) s.ts.length c2):=(aa hz 1).trans rfl
 have z2:Z.cell? (aB w.heap.size 2)=some (.slice (aA g3) s.ts.length c3):=(aa hz 2).trans rfl
 have zX:=Zh wT
 clear wT hz o0 o1 o2 rf
 (try simp only [Exit.inBlock,Exit.then]);refine zad (by simp [results,Tryz.results29,go_sem,↓IntWalk.iteOmega,z0,z1,z2];try rfl) rfl ?_
 exact ⟨_,g2,c2,g3,c3,rfl,aH Ia.out zX.out (fun q e=>by omega),by rw [<-G9.out];exact yg.out.kp (zX.out.mono (fun q _ e=>by omega)) (fun q hq=> .inl Za)⟩
theorem oJ:Runs wkT wkP wkR 1:=⟨oL,fun h=>(by have:=oN;rw [h] at this;cases this),oO,by kernel_rfl,by kernel_rfl,by decide+kernel,by decide+kernel,by omega,by omega,List.all_eq_true.1 oM⟩
theorem oI: ∃s:MSt,mRun [(3,5000,0)] 0 (mBeg 1 wkR)=some (s,1,0)/\s.size=1/\s.bytes.take 1=[7]/\ ∀t∈s.ts,t.prints.length<=1000000:=by
 have h:=oK
 rw [show (mapV 0 wkP.vars).2=1 from by kernel_rfl] at h
 cases hr:mRun [(3,5000,0)] 0 (mBeg 1 wkR) with
 |none=>rw [hr] at h;cases h
 |some r=>
  rw [hr] at h
  have h:=zae h
  injection h with h1 h2
  injection h2 with h2 h3
  injection h3 with h3 h4
  injection h4 with h4 h5
  refine ⟨r.1,by rw [<-h5],h2,h1,fun t ht=>?_⟩
  have:t.prints.length∈r.1.ts.map (fun t=>t.prints.length):=List.mem_map.2 ⟨t,ht,rfl⟩
  rw [h4] at this
  have:=List.mem_singleton.1 this
  omega
theorem oR(w:qW)(yT:SpT w):qC 10 #[] w fun e w'=>e= .returned (.bool true)/\Below w.heap.size w w':=by
 obtain ⟨s,yK,yB,DJ,Lf⟩:=oI
 have RT:=Zh (fun W (hW:Below w.heap.size w W)=>rN W (yT.below hW) wkT wkP wkR 1 5000 s 1 0 oJ yK Za Lf)
 have HS:=Zh DJ
 have Le:s.size.toNat=1:=by omega
 have HS5:=Zh Le
 unfold wkT at RT
 clear yK yB DJ Lf Le
 go_enter Tryz.func10,Tryz.ntmps10
 go_wp2_with fail
 refine (RT.out _ Zr).mono ?_
 rintro e w1 ⟨v1,g2,c2,g3,c3,rfl,hB,hv⟩
 rw [HS5.out,HS.out] at hv
 obtain ⟨a1,rfl,hx⟩:=hv
 obtain ⟨g,rfl,hg, -,hR⟩: ∃g,a1=aA g/\g<w1.heap.size/\True/\RowC w1 g [.int .u8 (7:Nat)]:=by
  rcases hx with ⟨-,h⟩|⟨g,h1,h2, -,h3⟩
  ·simp [aK] at h
  ·exact ⟨g,h1,h2,trivial,h3⟩
 have c0:w1.cell? (aB g 0)=some (.int .u8 7):=hR 0 _ rfl
 rw [show ([7].flatMap aK).length=1 from rfl]
 have HB:=Zh hB
 clear hx hR hB RT
 go_wp2_with fail
 go_ret
 exact ⟨rfl,ab HB.out _⟩
end Go.Proofs.YtcekjfmfcefjpaaGreatDoor
