/- Walks. No condition. -/
import Derived.Test.YtjmfoeajhiimnaaGreatDoorG40
set_option maxRecDepth 100000
set_option maxHeartbeats 0
set_option linter.all false
namespace Go.Proofs.YtjmfoeajhiimnaaGreatDoor
open Go.RowKit Go.Sort
def SlV(W:qW)(v:qV)(n:Nat)(xs:List qV):Prop:= ∃a c,v= .slice a n c/\n<=c/\c<=9223372036854775807/\xs.length=n/\(∀u∈xs,u.oneCell'=true)/\((a=none/\n=0/\c=0)\/ ∃g,a=aA g/\g<W.heap.size/\RowC W g xs)
theorem SlV.of_own{W:qW}{B n:Nat}{e:TypeId}{v:qV}{xs:List qV}(h:W.ownsRow B e 1 v n xs)(h1: ∀u∈xs,u.oneCell'=true):SlV W v n xs:=by
 obtain ⟨a,c,rfl,hc,yB,hn,hp⟩:=aC h
 refine ⟨a,c,rfl,hc,yB,by simpa using h.1,h1,?_⟩
 cases a with
 |none=>exact .inl ⟨rfl,hn rfl⟩
 |some p=>
  obtain ⟨g,rfl⟩: ∃g,p=⟨g,0,none⟩:=⟨p.block,hp p rfl⟩
  exact .inr ⟨g,rfl,(h.lt _ rfl).2,bT h⟩
def ClipD(w:qW)(n B:Nat)(xs:List qV)(e:Ending)(w':qW):Prop:= ∃a,e= .returned (.slice a n n)/\w'=w/\((a=none/\n=0)\/ ∃g,a=aA g/\B<=g/\g<w.heap.size/\RowC w g xs)
theorem sL(p:Addr)(n c:Nat)(w:qW):(binOp BinOp.eql 44 (.slice (some p) n c) (.slice none 0 0)).run Tryz.prog w= .ok (.bool false) w:=by kernel_rfl
theorem sD(w:qW):(binOp BinOp.eql 44 (.slice none 0 0) (.slice none 0 0)).run Tryz.prog w= .ok (.bool true) w:=by kernel_rfl
theorem sE(w:qW):(binOp BinOp.eql 51 (.slice none 0 0) (.slice none 0 0)).run Tryz.prog w= .ok (.bool true) w:=by kernel_rfl
theorem sM(p:Addr)(n c:Nat)(w:qW):(binOp BinOp.eql 51 (.slice (some p) n c) (.slice none 0 0)).run Tryz.prog w= .ok (.bool false) w:=by kernel_rfl
theorem yel(w:qW)(v:qV)(n:Nat)(xs:List qV)(hn:n<=2000000)(h:SlV w v n xs):qC 19 #[v] w fun e w'=> ∃v',e= .returned v'/\Below w.heap.size w w'/\w'.ownsRow w.heap.size 5 1 v' n xs:=by
 obtain ⟨i0,xF,xx,xu,xq⟩:=zan iX
 obtain ⟨a,c,rfl,hc,yB,xd,h1,hx⟩:=h
 have H1:=Zh h1
 rcases hx with ⟨rfl,rfl,rfl⟩|⟨g,rfl,hg,hR⟩
 ·have Cx:xs=[]:=List.eq_nil_of_length_eq_zero xd
  clear h1 xd
  have AE:=sD
  go_enter Tryz.func19,Tryz.ntmps19
  go_wp2_with fail
  go_ret
  exact ⟨_,rfl,zaa _ _,by rw [Cx];exact ⟨rfl,.inl ⟨rfl,rfl⟩⟩⟩
 ·have HR:=Zh hR
  have AE:=sL ⟨g,0,none⟩ n c
  clear hR h1
  go_enter Tryz.func19,Tryz.ntmps19
  go_wp2_with (at_builtin;refine wpList_append_own_at (w:=w.alloc (.cells #[] 5)) (hgd:=rfl) (s:= .tmp 5) (x:= .tmp 6) (t:=44) (ho:=rfl) (base:=w.heap.size) (e:=5) (i:=i0) (z:=_) (size:=1) (bytes:=1) (ht:=Tryz.underlying44) (hi:=xF) (hz:=xx) (hsize:=xu) (hby:=xq) (hzs:=rfl) (hsz:=by decide) (v:= .slice (aA w.heap.size) 0 0) (n:=0) (xs:=[]) (hs:=rfl) (hown:=⟨rfl,.inr ⟨w.heap.size,0,#[],rfl,zaq _,zab _ _,zaq _,by unfold maxLen;omega,rfl,rfl⟩⟩) (ad:=⟨g,0,none⟩) (m:=n) (c:=c) (news:=xs) (hx:=rfl) (hl:=by omega) (hnews:=fun j u hu=>by rw [bN];exact ((ab (zaa _ w) _).cell (p:=⟨g,j,none⟩) hg).trans (HR.out j u hu)) (h1:=H1.out) (h63:=by unfold maxLen;omega) (hbytes:=by omega) (hbase:=by simp [go_sem]) (h:=?_);intro v' w' h2 h3 _ h5;have HO:=Zh h2;have HG:=Zh h3;clear h2 h3 h5)
  go_ret
  have ho:=HO.out
  simp only [zag,List.nil_append] at ho
  refine ⟨v',rfl,?_,ho⟩
  refine (ab (zaa w.heap.size w) (.cells #[] 5)).grown HG.out ZC (fun b hb=>?_)
  simp [Value.ownBlock] at hb
  omega
theorem yep(w:qW)(v:qV)(n B:Nat)(xs:List qV)(h:w.ownsRow B 5 1 v n xs):qC 18 #[v] w (ClipD w n B xs):=by
 obtain ⟨a,c,rfl,hc,yB,hn,hp⟩:=aC h
 cases a with
 |none=>
  obtain ⟨rfl,rfl⟩:=hn rfl
  clear h
  go_enter Tryz.func18,Tryz.ntmps18
  go_wp2_with fail
  go_ret
  exact ⟨none,rfl,rfl,.inl ⟨rfl,rfl⟩⟩
 |some p=>
  obtain ⟨g,rfl⟩: ∃g,p=⟨g,0,none⟩:=⟨p.block,hp p rfl⟩
  have hR:=Zh (bT h)
  have hl:=h.lt g rfl
  have D7:(n:Int)<=c:=by omega
  clear h hp hn
  go_enter Tryz.func18,Tryz.ntmps18
  go_wp2_with fail
  go_ret
  exact ⟨aA g,rfl,rfl,.inr ⟨g,rfl,hl.1,hl.2,hR.out⟩⟩
theorem yem(w:qW)(v:qV)(n:Nat)(xs:List qV)(hn:n<=2000000)(h:SlV w v n xs):qC 21 #[v] w fun e w'=> ∃v',e= .returned v'/\Below w.heap.size w w'/\w'.ownsRow w.heap.size 52 1 v' n xs:=by
 obtain ⟨i0,xF,xx,xu,xq⟩:=zan ja
 obtain ⟨a,c,rfl,hc,yB,xd,h1,hx⟩:=h
 have H1:=Zh h1
 rcases hx with ⟨rfl,rfl,rfl⟩|⟨g,rfl,hg,hR⟩
 ·have Cx:xs=[]:=List.eq_nil_of_length_eq_zero xd
  clear h1 xd
  have AE:=sE
  go_enter Tryz.func21,Tryz.ntmps21
  go_wp2_with fail
  go_ret
  exact ⟨_,rfl,zaa _ _,by rw [Cx];exact ⟨rfl,.inl ⟨rfl,rfl⟩⟩⟩
 ·have HR:=Zh hR
  have AE:=sM ⟨g,0,none⟩ n c
  clear hR h1
  go_enter Tryz.func21,Tryz.ntmps21
  go_wp2_with (at_builtin;refine wpList_append_own_at (w:=w.alloc (.cells #[] 52)) (hgd:=rfl) (s:= .tmp 5) (x:= .tmp 6) (t:=51) (ho:=rfl) (base:=w.heap.size) (e:=52) (i:=i0) (z:=_) (size:=1) (bytes:=8) (ht:=Tryz.underlying51) (hi:=xF) (hz:=xx) (hsize:=xu) (hby:=xq) (hzs:=rfl) (hsz:=by decide) (v:= .slice (aA w.heap.size) 0 0) (n:=0) (xs:=[]) (hs:=rfl) (hown:=⟨rfl,.inr ⟨w.heap.size,0,#[],rfl,zaq _,zab _ _,zaq _,by unfold maxLen;omega,rfl,rfl⟩⟩) (ad:=⟨g,0,none⟩) (m:=n) (c:=c) (news:=xs) (hx:=rfl) (hl:=by omega) (hnews:=fun j u hu=>by rw [bN];exact ((ab (zaa _ w) _).cell (p:=⟨g,j,none⟩) hg).trans (HR.out j u hu)) (h1:=H1.out) (h63:=by unfold maxLen;omega) (hbytes:=by omega) (hbase:=by simp [go_sem]) (h:=?_);intro v' w' h2 h3 _ h5;have HO:=Zh h2;have HG:=Zh h3;clear h2 h3 h5)
  go_ret
  have ho:=HO.out
  simp only [zag,List.nil_append] at ho
  refine ⟨v',rfl,?_,ho⟩
  refine (ab (zaa w.heap.size w) (.cells #[] 52)).grown HG.out ZC (fun b hb=>?_)
  simp [Value.ownBlock] at hb
  omega
theorem yeq(w:qW)(v:qV)(n B:Nat)(xs:List qV)(h:w.ownsRow B 52 1 v n xs):qC 20 #[v] w (ClipD w n B xs):=by
 obtain ⟨a,c,rfl,hc,yB,hn,hp⟩:=aC h
 cases a with
 |none=>
  obtain ⟨rfl,rfl⟩:=hn rfl
  clear h
  go_enter Tryz.func20,Tryz.ntmps20
  go_wp2_with fail
  go_ret
  exact ⟨none,rfl,rfl,.inl ⟨rfl,rfl⟩⟩
 |some p=>
  obtain ⟨g,rfl⟩: ∃g,p=⟨g,0,none⟩:=⟨p.block,hp p rfl⟩
  have hR:=Zh (bT h)
  have hl:=h.lt g rfl
  have D7:(n:Int)<=c:=by omega
  clear h hp hn
  go_enter Tryz.func20,Tryz.ntmps20
  go_wp2_with fail
  go_ret
  exact ⟨aA g,rfl,rfl,.inr ⟨g,rfl,hl.1,hl.2,hR.out⟩⟩
theorem MacAt.mem{W:qW}{M:Nat}{F:Nat->Prop}{bs:List Nat}{s:MSt}(h:MacAt W M F bs s): ∃bv,W.cell? (aB M 1)=some bv/\W.ownsRow (M+1) 5 1 bv s.bytes.length (s.bytes.flatMap aK):=by
 obtain ⟨tv,bv,ks,zG,hm,hf⟩:=h.at_
 exact ⟨bv,hm.cells 1,hm.ob.own ⟨1,5,1,s.bytes.length,s.bytes.flatMap aK⟩ (by simp [mcR])⟩
theorem MacAt.prints{W:qW}{M n b:Nat}{F:Nat->Prop}{bs:List Nat}{s:MSt}{t:TD}(h:MacAt W M F bs s)(hb:bs[n]?=some b)(ht:s.ts[n]?=some t): ∃pv,W.cell? (aB b 38)=some pv/\W.ownsRow (b+1) 52 1 pv t.prints.length (t.prints.flatMap aT):=by
 obtain ⟨cv,pv,gs,sc,hx, -⟩:=h.th hb ht
 refine ⟨pv,hx.cell 38 Za,?_⟩
 have:=hx.ob.own ⟨38,52,1,t.prints.length,t.prints.flatMap aT⟩ (by simp [thR])
 simp only [bh _ 38 (by omega:38<40)] at this
 exact this
theorem SlV.part{W:qW}{B n m:Nat}{bv:qV}{l:List Nat}(h:W.ownsRow B 5 1 bv n (l.flatMap aK))(hm:m<=n): ∃a c,bv= .slice a n c/\m<=c/\SlV W (.slice a m c) m ((l.take m).flatMap aK):=by
 have hl:=h.1
 rw [show aK=(fun n:Nat=>[Value.int .u8 n]) from rfl,cC] at hl
 have zV:l.length=n:=by simpa using hl
 obtain ⟨a,c,rfl,hc,yB, -, -⟩:=aC h
 refine ⟨a,c,rfl,by omega,?_⟩
 have hcut:=fi h hm
 have e:(l.flatMap aK).take (m*1)=(l.take m).flatMap aK:=by
  rw [show aK=(fun n:Nat=>[Value.int .u8 n]) from rfl,cC,cC,Nat.mul_one,List.map_take]
 rw [e] at hcut
 exact SlV.of_own hcut (fun u hu=>by
  rw [show aK=(fun n:Nat=>[Value.int .u8 n]) from rfl,cC] at hu
  obtain ⟨x, -,rfl⟩:=List.mem_map.1 hu
  rfl)
theorem SlV.below{W W':qW}{v:qV}{n:Nat}{xs:List qV}(h:SlV W v n xs)(hb:Below W.heap.size W W'):SlV W' v n xs:=by
 obtain ⟨a,c,e,h1,h2,h3,h4,hx⟩:=h
 refine ⟨a,c,e,h1,h2,h3,h4,hx.imp id ?_⟩
 rintro ⟨g,e2,hg,hR⟩
 exact ⟨g,e2,zar hg hb.size,fun j u hu=>(hb.cell (p:=⟨g,j,none⟩) hg).trans (hR j u hu)⟩
theorem tP:(Tryz.prog.info? 51).map (fun i=>(i.zero,i.size,i.bytes))=some (some (.slice none 0 0),1,24):=by kernel_rfl
theorem ycc:(Tryz.prog.info? 3).map (fun i=>(i.zero,i.size,i.bytes))=some (some (iI 0),1,8):=by kernel_rfl
theorem ybX:(Tryz.prog.info? 44).map (·.size)=some 1:=by kernel_rfl
def RdV(V:qW)(X:Nat->Prop)(xs:List qV)(v:qV):Prop:= ∃a,v= .slice a xs.length xs.length/\((a=none/\xs.length=0)\/ ∃g,a=aA g/\g<V.heap.size/\ ¬X g/\RowC V g xs)
theorem RdV.kp{V V':qW}{X Y:Nat->Prop}{xs:List qV}{v:qV}(h:RdV V X xs v)(hk:Kp X V V')(hY: ∀k,Y k->X k\/V.heap.size<=k):RdV V' Y xs v:=by
 obtain ⟨a,e,hx⟩:=h
 refine ⟨a,e,hx.imp id ?_⟩
 rintro ⟨g,e2,hg,hX,hR⟩
 refine ⟨g,e2,zar hg hk.size,fun hy=>?_,fun j u hu=>(hk.cell hg hX).trans (hR j u hu)⟩
 rcases hY g hy with h|h
 ·exact hX h
 ·omega
theorem ox{X Y P:Nat->Prop}{n:Nat}(h: ∀k,Y k->X k\/n<=k): ∀k,(P k\/Y k)->(P k\/X k)\/n<=k:=fun k hk=>by
 rcases hk with hk|hk
 ·exact .inl (.inl hk)
 ·exact (h k hk).imp .inr id
def endsL(ts:List TD):List qV:=ts.map (fun t=>iI t.end_)
structure OcA(W:qW)(O N:Nat)(s:MSt)(kp ke:Nat)(v1:qV)(V:qW)(v2 v3:qV)(ps:List qV):Prop where
 bel:Below W.heap.size W V
 res:V.heap[W.heap.size]?=some (.cells #[.slice none 0 0,.slice none 0 0,.slice none 0 0] 48 (0,0))
 ob:Ob O 48 #[v1,v2,v3] [⟨1,51,1,kp,ps⟩,⟨2,3,1,ke,endsL (s.ts.take ke)⟩] V
 by_:RdV V (fun q=>q<=W.heap.size\/foot O #[v1,v2,v3] [⟨1,51,1,kp,ps⟩,⟨2,3,1,ke,endsL (s.ts.take ke)⟩] q) ((s.bytes.take N).flatMap aK) v1
 pr: ∀(i:Nat) (t:TD) (v:qV),s.ts[i]?=some t->ps[i]?=some v->RdV V (fun q=>q<=W.heap.size\/foot O #[v1,v2,v3] [⟨1,51,1,kp,ps⟩,⟨2,3,1,ke,endsL (s.ts.take ke)⟩] q) (t.prints.flatMap aT) v
 lo:W.heap.size<O
theorem OcA.below{W V V':qW}{O N:Nat}{s:MSt}{kp ke:Nat}{v1 v2 v3:qV}{ps:List qV}(h:OcA W O N s kp ke v1 V v2 v3 ps)(hb:Below V.heap.size V V'):OcA W O N s kp ke v1 V' v2 v3 ps:=
 ⟨an h.bel hb h.bel.size,(hb.block _ (ac h.res)).trans h.res,h.ob.below hb,h.by_.kp (Kp.of_below hb) (fun _=> .inl),fun i t v ht hv=>(h.pr i t v ht hv).kp (Kp.of_below hb) (fun _=> .inl),h.lo⟩
theorem jb(l:List Nat):l.flatMap aT=l.map (fun n=>Value.int .u64 (n:Nat)):=cC _ l
theorem OcA.print{W V X W2:qW}{O N:Nat}{s:MSt}{k g cap:Nat}{v1 v2 v3 v:qV}{ps:List qV}{t:TD}(h:OcA W O N s k k v1 V v2 v3 ps)(ht:s.ts[k]?=some t)(Dd:ps.length=k)(hv:RdV V (fun q=>q<=W.heap.size\/foot O #[v1,v2,v3] [⟨1,51,1,k,ps⟩,⟨2,3,1,k,endsL (s.ts.take k)⟩] q) (t.prints.flatMap aT) v)
  (hx:Kp (fun _=>False) V X) (xb:X.grownBy W2 v2.ownBlock) (hown:W2.ownsRow (O+1) 51 1 (.slice (aA g) (k+1) cap) (k+1) (ps++[v])) (xk:v2.ownBlock=some g\/g=X.heap.size):
  OcA W O N s (k+1) k v1 (W2.setCell ⟨O,1,none⟩ (.slice (aA g) (k+1) cap)) (.slice (aA g) (k+1) cap) v3 (ps++[v]):=by
 obtain ⟨h1,h2,h3⟩:=h.ob.put (r:=⟨1,51,1,k,ps⟩) Zg Zg (W2:=W2) (v':= .slice (aA g) (k+1) cap) (n':=k+1) (xs':=ps++[v])
  ((hx.mono (fun _ _ e=>e.elim)).trans ((Kp.of_grown xb).mono (fun k _ e=>e.symm))) hown (fun q hq=>by
   obtain rfl:g=q:=by simpa [Value.ownBlock] using hq
   have:=hx.size
   rcases xk with e|e
   ·exact .inl e
   ·exact .inr Za)
 simp only [List.map_cons,List.map_nil,if_true,if_neg (show¬(2:Nat)=1 by omega)] at h1 h3
 have hb:=aI h.bel h2 (fun q hq=>by have:=(h.ob.foot_lt hq).1;have:=h.lo;omega)
 refine ⟨hb,(h2.block _ (ac h.res) (fun hq=>by have:=(h.ob.foot_lt hq).1;have:=h.lo;omega)).trans h.res,h1,h.by_.kp (h2.mono (fun _ _ e=> .inr e)) (ox h3),fun i u w hu hw=>?_,h.lo⟩
 rcases aU hw with ⟨hi,hw⟩|⟨hi,rfl⟩
 ·exact (h.pr i u w hu hw).kp (h2.mono (fun _ _ e=> .inr e)) (ox h3)
 ·rw [hi,Dd,ht] at hu
  obtain rfl:=zae hu
  exact hv.kp (h2.mono (fun _ _ e=> .inr e)) (ox h3)
theorem OcA.end_{W V X W2:qW}{O N:Nat}{s:MSt}{k g cap:Nat}{v1 v2 v3:qV}{ps:List qV}{t:TD}(h:OcA W O N s (k+1) k v1 V v2 v3 ps)(ht:s.ts[k]?=some t)
  (hx:Kp (fun _=>False) V X) (xb:X.grownBy W2 v3.ownBlock) (hown:W2.ownsRow (O+1) 3 1 (.slice (aA g) (k+1) cap) (k+1) (endsL (s.ts.take k)++[iI t.end_])) (xk:v3.ownBlock=some g\/g=X.heap.size):
  OcA W O N s (k+1) (k+1) v1 (W2.setCell ⟨O,2,none⟩ (.slice (aA g) (k+1) cap)) v2 (.slice (aA g) (k+1) cap) ps:=by
 have et:endsL (s.ts.take (k+1))=endsL (s.ts.take k)++[iI t.end_]:=by
  unfold endsL
  rw [zaz,ht]
  simp
 obtain ⟨h1,h2,h3⟩:=h.ob.put (r:=⟨2,3,1,k,endsL (s.ts.take k)⟩) Zg Zg (W2:=W2) (v':= .slice (aA g) (k+1) cap) (n':=k+1) (xs':=endsL (s.ts.take k)++[iI t.end_])
  ((hx.mono (fun _ _ e=>e.elim)).trans ((Kp.of_grown xb).mono (fun k _ e=>e.symm))) hown (fun q hq=>by
   obtain rfl:g=q:=by simpa [Value.ownBlock] using hq
   have:=hx.size
   rcases xk with e|e
   ·exact .inl e
   ·exact .inr Za)
 simp only [List.map_cons,List.map_nil,if_true,if_neg (show¬(1:Nat)=2 by omega)] at h1 h3
 rw [<-et] at h1 h3
 have hb:=aI h.bel h2 (fun q hq=>by have:=(h.ob.foot_lt hq).1;have:=h.lo;omega)
 exact ⟨hb,(h2.block _ (ac h.res) (fun hq=>by have:=(h.ob.foot_lt hq).1;have:=h.lo;omega)).trans h.res,h1,h.by_.kp (h2.mono (fun _ _ e=> .inr e)) (ox h3),fun i u w hu hw=>(h.pr i u w hu hw).kp (h2.mono (fun _ _ e=> .inr e)) (ox h3),h.lo⟩
def OutD(W:qW)(s:MSt)(e:Ending)(w':qW):Prop:=
 ∃v1 g2 c2 g3 c3 ps,e= .returned (.agg #[v1,.slice (aA g2) s.ts.length c2,.slice (aA g3) s.ts.length c3])/\Below W.heap.size W w'/\RdV w' (fun q=>q<=W.heap.size) ((s.bytes.take s.size.toNat).flatMap aK) v1/\(W.heap.size<g2/\g2<w'.heap.size)/\(W.heap.size<g3/\g3<w'.heap.size)/\s.ts.length<=c2/\s.ts.length<=c3/\
  ps.length=s.ts.length/\RowC w' g2 ps/\RowC w' g3 (endsL s.ts)/\ ∀(i:Nat) (t:TD) (v:qV),s.ts[i]?=some t->ps[i]?=some v->RdV w' (fun q=>q<=W.heap.size) (t.prints.flatMap aT) v
theorem kS{W:qW}{M:Nat}{F:Nat->Prop}{bs:List Nat}{s:MSt}(h:MacAt W M F bs s)(h0:0<s.size)(hp: ∀t∈s.ts,t.prints.length<=1000000):qC 10 #[pP M] W (OutD W s):=by
 have hM:=h.M_lt
 obtain ⟨bv,q1,Mi⟩:=h.mem
 obtain ⟨N,hN⟩: ∃N:Nat,s.size=N:=⟨s.size.toNat,by have:=h.ok.sz.1;omega⟩
 have Pj:N<=s.bytes.length:=by have:=h.ok.sz.2;omega
 have xo:=h.ok.bl
 obtain ⟨ba,bc,rfl,Kj,CY⟩:=SlV.part Mi Pj
 have q2:W.cell? (aB M 2)=some (iI (N:Int)):=hN ▸ h.cell3.2.2.1
 obtain ⟨g,rfl,yd,xb⟩: ∃g,ba=aA g/\g<W.heap.size/\True:=by
  obtain ⟨a,c,e, -, -, -, -,hx⟩:=CY
  injection e with e1 e2 e3
  subst e1
  rcases hx with ⟨-,h2, -⟩|⟨g,h2,h3, -⟩
  ·omega
  ·exact ⟨g,h2,h3,trivial⟩
 have H:=Zh h
 have QF:=Zh CY
 have O7:(N:Int)<=bc:=by omega
 have Ac:=Zh h.bl
 have h8:=h.ok.n8
 have O8:bs.length<=8:=by have:=h.bl;omega
 have yn:1<=bs.length:=by have:=h.bl;have:=h.ok.n1;omega
 clear h Mi CY xb
 go_enter Tryz.func10,Tryz.ntmps10
 go_wp2_with fail
 refine aS (R:=fun X=>Below W.heap.size W X/\X.heap[W.heap.size]?=some (.cells #[.slice none 0 0,.slice none 0 0,.slice none 0 0] 48 (0,0))/\X.heap[W.heap.size+1]?=some (.cells #[.slice none 0 0,.slice none 0 0,.slice none 0 0] 48 (0,0))) ⟨ab (ab (zaa _ _) _) _,(zac _ _ ZF).trans (zab _ _),aH (by simp only [ar])⟩ ?_
 rintro V ⟨yD,hr,ho⟩
 have hA:V.drew.cell? (aB M 1)=some (.slice (aA g) s.bytes.length bc)/\V.drew.cell? (aB M 2)=some (iI (N:Int)):=⟨(yD.cell (p:=⟨M,1,none⟩) hM).trans q1,(yD.cell (p:=⟨M,2,none⟩) hM).trans q2⟩
 have hB:True:=trivial
 have Pi:=ac ho
 have yR:=Zh yD
 have HR:=Zh hr
 have HO:=Zh ho
 clear yD hr ho
 refine ae (fun X=>X.cell? (aB M 1)=some (.slice (aA g) s.bytes.length bc)/\X.cell? (aB M 2)=some (iI (N:Int))) (fun W=>True) 12 rfl ?_
 refine Zp 0 rfl (h:=Zp 1 rfl (h:=Zp 2 rfl (h:=Zt 3 rfl (h:=Zp 4 rfl (h:=Zp 5 rfl (h:=Zp 6 rfl (h:=Zt 7 rfl (h:=Zp 8 rfl (h:=?_)))))))));try simp only [Zq]
 refine Zs 9 rfl fun K hK=>?_
 go_simp
 go_at_call 19
 have C':SlV V.drew (.slice (aA g) N bc) N ((s.bytes.take N).flatMap aK):=QF.out.below (ag yR.out)
 refine (yel _ _ _ _ Za C').mono ?_
 rintro e V1 ⟨v1,rfl,yn,hown⟩
 have zz:Below V.heap.size V V1:=an (ag (zaa _ V)) yn (zaq _)
 refine hK _ _ ⟨⟨(zz.cell (p:=⟨M,1,none⟩) (by show M<_;omega)).trans hA.1,(zz.cell (p:=⟨M,2,none⟩) (by show M<_;omega)).trans hA.2⟩,fun _=>trivial⟩ ?_
 clear hK K hA
 have hA:V1.cell? (aB M 1)=some (.slice (aA g) s.bytes.length bc)/\V1.cell? (aB M 2)=some (iI (N:Int)):=⟨((an yR.out zz yR.out.size).cell (p:=⟨M,1,none⟩) hM).trans q1,((an yR.out zz yR.out.size).cell (p:=⟨M,2,none⟩) hM).trans q2⟩
 refine Zs 10 rfl fun K hK=>?_
 go_simp
 go_at_call 18
 refine (yep _ _ _ _ _ hown).mono ?_
 rintro e V2 ⟨a1,rfl,rfl,EU⟩
 refine hK _ _ ⟨hA,fun _=>trivial⟩ ?_
 clear hK K
 have Bc:=(zz.block _ Pi).trans HO.out
 refine Zp 11 rfl (h:=?_);try simp only [Zq]
 refine Zs 12 rfl fun K hK=>?_
 refine bD rfl (dC 44 (.tmp 20) (.tmp 19) rfl (W.heap.size+1) 0 (.slice a1 N N) rfl rfl Bc Zg rfl rfl ybX ?_)
 intro V3 g3 k3 z3
 refine hK _ _ ⟨⟨(k3.cell (by have:=zz.size;omega) (fun e=>by have:M=W.heap.size+1:=e;omega)).trans hA.1,(k3.cell (by have:=zz.size;omega) (fun e=>by have:M=W.heap.size+1:=e;omega)).trans hA.2⟩,fun _=>trivial⟩ ?_
 clear hK K
 refine af Zb ?_ _
 have Ip:((s.bytes.take N).flatMap aK).length=N:=by
  rw [show aK=(fun n:Nat=>[Value.int .u8 n]) from rfl,cC]
  simp
  omega
 have xA:Below W.heap.size W V2:=an yR.out zz yR.out.size
 have yf:OcA W (W.heap.size+1) N s 0 0 (.slice a1 N N) V3 (.slice none 0 0) (.slice none 0 0) []:=by
  have GI: ∀q,foot (W.heap.size+1) #[.slice a1 N N,.slice none 0 0,.slice none 0 0] [⟨1,51,1,0,[]⟩,⟨2,3,1,0,endsL (s.ts.take 0)⟩] q->q=W.heap.size+1:=fun q hq=>by
   rcases hq with hq|⟨r,hr,hq⟩
   ·exact hq
   ·simp only [zaM,zaN,or_false] at hr
    rcases hr with rfl|rfl<;>simp [fld,Value.ownBlock] at hq
  refine ⟨aI xA k3 (fun q e=>by omega),(k3.block _ (by have:=zz.size;omega) (fun e=>by omega)).trans ((zz.block _ (ac HR.out)).trans HR.out),⟨g3,fun r hr=>?_,by simp,fun r hr q hq hne x h8 h9=>?_⟩,⟨a1,by rw [Ip],?_⟩,fun i u v hu hv=>by simp at hv,by omega⟩
  ·simp only [zaM,zaN,or_false] at hr
   rcases hr with rfl|rfl
   ·exact ⟨rfl,.inl ⟨rfl,rfl⟩⟩
   ·exact ⟨rfl,.inl ⟨rfl,rfl⟩⟩
  ·simp only [zaM,zaN,or_false] at hr
   rcases hr with rfl|rfl<;>simp [fld,Value.ownBlock] at h8
  ·rcases EU with ⟨h1,h2⟩|⟨g1,h1,h2,h3,h4⟩
   ·exact .inl ⟨h1,by rw [Ip];exact h2⟩
   ·have BC:V.heap.size<=g1:=h2
    exact .inr ⟨g1,h1,by omega,fun hq=>by rcases hq with hq|hq<;>first|omega|(have:=GI g1 hq;omega),fun j u hu=>(k3.cell h3 (fun e=>by have:g1=W.heap.size+1:=e;omega)).trans (h4 j u hu)⟩
 have Bq:=Zh yf
 obtain ⟨tv,tc,q0,QR,NL,xn⟩:=H.out.row
 have Pp:V3.cell? (aB M 0)=some (.slice (aA tv) bs.length tc):=(yf.bel.cell (p:=⟨M,0,none⟩) hM).trans q0
 have Dv:=Zh xn
 have RV:=Zh Ip
 clear yf Ip xA zz yn hown EU Bc g3 k3 hA hB C' z3 xn
 go_wp2_with fail
 clear Pp
 go_loopw [26] (fun v26 wr=> ∃(k:Nat) (v2 v3:qV) (ps:List qV),v26=iI k/\k<=bs.length/\ps.length=k/\OcA W (W.heap.size+1) N s k k (.slice a1 N N) wr v2 v3 ps) (fun v26 _=>bs.length-(intOf v26).toNat)
 case atStart=>exact ⟨0,_,_,[],rfl,by omega,rfl,Bq.out⟩
 case round=>
  obtain ⟨k,v2,v3,ps,rfl,hk,AA,yf⟩:=hrel
  by_cases zu:k<bs.length
  ·have Ki:=Ac.out
   obtain ⟨t,ht⟩: ∃t,s.ts[k]?=some t:=⟨s.ts[k]'Za,zaC _⟩
   obtain ⟨b,hb⟩: ∃b,bs[k]?=some b:=⟨bs[k],zaC zu⟩
   have Ez:(k:Int)<bs.length:=by omega
   have wZ:IntKind.i64.wrap ((k:Int)+1)=(k:Int)+1:=aR Za Za
   have hm:=H.out.below yf.bel
   obtain ⟨pv,q38,LF⟩:=hm.prints hb ht
   have q39:=hm.end39 hb ht
   have qrow:wr.cell? (aB tv k)=some (pP b):=(yf.bel.cell (p:=⟨tv,k,none⟩) NL).trans (Dv.out k b hb)
   have Ci:b<wr.heap.size:=(hm.blk hb).elim (fun _ h=>ac h)
   have Kk:b≠W.heap.size+1:=by
    obtain ⟨_,h⟩:=H.out.blk hb
    have:=ac h
    omega
   have Bq:=Zh yf
   have Nl:=Zh LF
   clear yf hm LF Ki
   go_upto_region 8 with fail
   obtain ⟨i0,xF,xx,xu,xq⟩:=zan tP
   obtain ⟨i1,Dk,AN,Bs,Aj⟩:=zan ycc
   have Gc:=hp t (zat ht)
   have Df:=Bq.out.ob.lt
   have qo:wr.cell? ⟨W.heap.size+1,1,none⟩=some v2:=aa Bq.out.ob.out 1
   have hA:wr.drew.cell? (aB b 38)=some pv:=q38
   have hB:wr.drew.cell? ⟨W.heap.size+1,1,none⟩=some v2:=qo
   refine ae (fun X=>X.cell? (aB b 38)=some pv) (fun X=>X.cell? ⟨W.heap.size+1,1,none⟩=some v2) 11 rfl ?_
   refine Zp 0 rfl (h:=Zl 1 [9,11] rfl (h:=Zp 2 rfl (h:=Zp 3 rfl (h:=Zp 4 rfl (h:=Zt 5 rfl (h:=?_))))));try simp only [Zq]
   refine Zs 6 rfl fun K hK=>?_
   go_simp
   go_at_call 21
   have C':SlV wr.drew pv t.prints.length (t.prints.flatMap aT):=(SlV.of_own Nl.out (fun u hu=>by
    rw [jb] at hu
    obtain ⟨x, -,rfl⟩:=List.mem_map.1 hu
    rfl)).below (ag (zaa _ _))
   refine (yem _ _ _ _ Za C').mono ?_
   rintro e V4 ⟨v4,rfl,Fw,DQ⟩
   have Bp:Below wr.heap.size wr V4:=an (ag (zaa _ wr)) Fw (zaq _)
   have KE:V4.cell? (aB b 38)=some pv:=(Bp.cell (p:=⟨b,38,none⟩) Ci).trans q38
   have Bj:V4.cell? ⟨W.heap.size+1,1,none⟩=some v2:=(Bp.cell (p:=⟨W.heap.size+1,1,none⟩) Df).trans qo
   refine hK _ _ ⟨KE,fun _=>Bj⟩ ?_
   clear hK K hA hB
   have hA:=KE
   have hB:=Bj
   refine Zs 7 rfl fun K hK=>?_
   go_simp
   go_at_call 20
   refine (yeq _ _ _ _ _ DQ).mono ?_
   rintro e V5 ⟨a5,rfl,rfl,Mn⟩
   refine hK _ _ ⟨hA,fun _=>hB⟩ ?_
   clear hK K
   have Cr:=Zh (Bq.out.below Bp)
   have De:=Cr.out.ob.lt
   have Dp:b<V5.heap.size:=by have:=Bp.size;omega
   have IB:RdV V5 (fun q=>q<=W.heap.size\/foot (W.heap.size+1) #[.slice a1 N N,v2,v3] [⟨1,51,1,k,ps⟩,⟨2,3,1,k,endsL (s.ts.take k)⟩] q) (t.prints.flatMap aT) (.slice a5 t.prints.length t.prints.length):=by
    have Bh:(t.prints.flatMap aT).length=t.prints.length:=by rw [jb];simp
    refine ⟨a5,by rw [Bh],?_⟩
    rcases Mn with ⟨h1,h2⟩|⟨g1,h1,h2,h3,h4⟩
    ·exact .inl ⟨h1,by rw [Bh];exact h2⟩
    ·have BC:wr.heap.size<=g1:=h2
     exact .inr ⟨g1,h1,h3,fun hq=>by rcases hq with hq|hq<;>first|(have:=ac Bq.out.res;omega)|(have:=(Bq.out.ob.foot_lt hq).2;omega),h4⟩
   have Nj:=Zh IB
   have q39':V5.cell? (aB b 39)=some (iI t.end_):=(Bp.cell (p:=⟨b,39,none⟩) Ci).trans q39
   have Bt:=Cr.out.ob.own ⟨1,51,1,k,ps⟩ Zg
   have Cs:Hid (V5.ownsRow (W.heap.size+1+1) 51 1 v2 k ps):=Zh Bt
   clear IB Mn DQ Fw C' Bt
   refine Zs 8 rfl fun K hK=>?_
   go_simp
   refine hK _ _ ⟨by rw [aV,if_pos (show b<_ from Dp)];exact hA,fun _=>by rw [aV,if_pos (show W.heap.size+1<_ from De)];exact hB⟩ ?_
   refine Zs 9 rfl fun K hK=>?_
   refine bf (.tmp 31) (.tmp 38) 45 51 i0 _ 1 24 Tryz.underlying45 xF xx xu xq rfl Zd rfl rfl (W.heap.size+1+1) v2 k ps (ax Cs.out (fun g hg=>zac _ _ (Cs.out.lt g hg).2)) V5.heap.size #[.slice a5 t.prints.length t.prints.length] 51 (0,0) (zab _ _) ZA ZA rfl ZD Za Za Zc ?_
   intro g6 cap6 w6 DP EH G7 Ev
   have H6:=Zh (Cr.out.print ht AA Nj.out (Kp.al _ _) EH DP G7)
   have yp:Kp (fun q=>v2.ownBlock=some q) V5 w6:=(Kp.al _ _).trans ((Kp.of_grown EH).mono (fun q _ e=>e.symm))
   have Fn:v2.ownBlock≠some (W.heap.size+1):=fun e=>by have:=(Cs.out.lt _ e).1;omega
   have BX:v2.ownBlock≠some b:=fun e=>by
    have:=(Cs.out.lt _ e).1
    obtain ⟨_,h⟩:=H.out.blk hb
    have:=ac h
    omega
   have zA:w6.cell? (aB b 38)=some pv:=(yp.cell Dp BX).trans hA
   have zB:w6.cell? ⟨W.heap.size+1,1,none⟩=some v2:=(yp.cell De Fn).trans hB
   have z39:w6.cell? (aB b 39)=some (iI t.end_):=(yp.cell Dp BX).trans q39'
   have zf: ∀q,w6.frozen? ⟨W.heap.size+1,q,none⟩=false:=ah ((yp.block _ De Fn).trans Cr.out.ob.out)
   have zb:b<w6.heap.size:=by have:=yp.size;omega
   clear DP EH G7 yp
   refine hK _ _ ⟨zA,fun _=>zB⟩ ?_
   clear hK K hA hB
   have hA:=zA
   have hB:=zB
   refine Zp 10 rfl (h:=?_);try simp only [Zq]
   refine Zs 11 rfl fun K hK=>?_
   go_simp
   refine hK _ _ ⟨(zaH _ _ _ _ (fun e=>Kk (congrArg Addr.block e).symm)).trans zA,fun hh=>Bool.noConfusion (hh.symm.trans (show _=true by kernel_rfl))⟩ ?_
   clear hK K hA hB
   refine af Zb ?_ _
   have z39':(w6.setCell ⟨W.heap.size+1,1,none⟩ (.slice (aA g6) (k+1) cap6)).cell? (aB b 39)=some (iI t.end_):=(zaH _ _ _ _ (fun e=>Kk (congrArg Addr.block e).symm)).trans z39
   have zb':b<(w6.setCell ⟨W.heap.size+1,1,none⟩ (.slice (aA g6) (k+1) cap6)).heap.size:=by simpa [World.setCell] using zb
   generalize w6.setCell ⟨W.heap.size+1,1,none⟩ (.slice (aA g6) (k+1) cap6)=V7 at*
   generalize Value.slice (aA g6) (k+1) cap6=v2' at*
   clear zA zB z39 zf zb q39' q38 q39 qrow qo KE Bj Bp Bq Cr Cs Nl Nj Df De Ci Dp Ev Fn BX
   go_upto_region 9 with fail
   have Df:=H6.out.ob.lt
   have qo:V7.cell? ⟨W.heap.size+1,2,none⟩=some v3:=aa H6.out.ob.out 2
   have hA:V7.drew.cell? (aB b 39)=some (iI t.end_):=z39'
   have hB:V7.drew.cell? ⟨W.heap.size+1,2,none⟩=some v3:=qo
   have Bt:=H6.out.ob.own ⟨2,3,1,k,endsL (s.ts.take k)⟩ Zg
   have Cs:Hid (V7.ownsRow (W.heap.size+1+1) 3 1 v3 k (endsL (s.ts.take k))):=Zh Bt
   clear Bt
   refine ae (fun X=>X.cell? (aB b 39)=some (iI t.end_)) (fun X=>X.cell? ⟨W.heap.size+1,2,none⟩=some v3) 9 rfl ?_
   refine Zp 0 rfl (h:=Zl 1 [7,9] rfl (h:=Zp 2 rfl (h:=Zp 3 rfl (h:=Zp 4 rfl (h:=Zt 5 rfl (h:=?_))))));try simp only [Zq]
   refine Zs 6 rfl fun K hK=>?_
   go_simp
   refine hK _ _ ⟨(aj zb').trans z39',fun _=>(aj Df).trans qo⟩ ?_
   refine Zs 7 rfl fun K hK=>?_
   refine bf (.tmp 42) (.tmp 47) 46 3 i1 _ 1 8 Tryz.underlying46 Dk AN Bs Aj rfl Zd rfl rfl (W.heap.size+1+1) v3 k (endsL (s.ts.take k)) (ax Cs.out (fun g hg=>zac _ _ (Cs.out.lt g hg).2)) V7.heap.size #[iI t.end_] 3 (0,0) (zab _ _) ZA ZA rfl ZD Za Za Zc ?_
   intro g8 cap8 w8 DO EG G6 JR
   have H8:=Zh (H6.out.end_ ht ((Kp.dr _).trans (Kp.al _ _)) EG DO G6)
   have yp:Kp (fun q=>v3.ownBlock=some q) V7 w8:=((Kp.dr _).trans (Kp.al _ _)).trans ((Kp.of_grown EG).mono (fun q _ e=>e.symm))
   have Fn:v3.ownBlock≠some (W.heap.size+1):=fun e=>by have:=(Cs.out.lt _ e).1;omega
   have BX:v3.ownBlock≠some b:=fun e=>by
    have:=(Cs.out.lt _ e).1
    obtain ⟨_,h⟩:=H.out.blk hb
    have:=ac h
    omega
   have zA:w8.cell? (aB b 39)=some (iI t.end_):=(yp.cell zb' BX).trans z39'
   have zB:w8.cell? ⟨W.heap.size+1,2,none⟩=some v3:=(yp.cell Df Fn).trans qo
   have zf: ∀q,w8.frozen? ⟨W.heap.size+1,q,none⟩=false:=ah ((yp.block _ Df Fn).trans H6.out.ob.out)
   clear DO EG G6 yp
   refine hK _ _ ⟨zA,fun _=>zB⟩ ?_
   clear hK K hA hB
   have hA:=zA
   have hB:=zB
   refine Zp 8 rfl (h:=?_);try simp only [Zq]
   refine Zs 9 rfl fun K hK=>?_
   go_simp
   refine hK _ _ ⟨(zaH _ _ _ _ (fun e=>Kk (congrArg Addr.block e).symm)).trans zA,fun hh=>Bool.noConfusion (hh.symm.trans (show _=true by kernel_rfl))⟩ ?_
   clear hK K hA hB
   refine af Zb ?_ _
   clear zA zB zf z39' zb' Cs Df qo
   go_wp2_with fail
   exact ⟨⟨k+1,_,_,_,by simp,by omega,by simp [AA],H8.out⟩,by simp [intOf];omega⟩
  ·have zO:k=bs.length:=by omega
   have Ez: ¬(k:Int)<bs.length:=by omega
   have own2:=yf.ob.own ⟨1,51,1,k,ps⟩ Zg
   have own3:=yf.ob.own ⟨2,3,1,k,endsL (s.ts.take k)⟩ Zg
   have own2:wr.ownsRow (W.heap.size+1+1) 51 1 v2 k ps:=own2
   have own3:wr.ownsRow (W.heap.size+1+1) 3 1 v3 k (endsL (s.ts.take k)):=own3
   obtain ⟨a2,c2,rfl,yB, -, -, -⟩:=aC own2
   obtain ⟨g2,rfl⟩:=cz own2 (show 0<k by omega)
   obtain ⟨a3,c3,rfl,D7, -, -, -⟩:=aC own3
   have ym:0<k:=by omega
   obtain ⟨g3,rfl⟩:=cz own3 ym
   have y9:=Zh (bT own2)
   have Fy:=Zh (bT own3)
   have yE:=own2.lt g2 rfl
   have Ow:=own3.lt g3 rfl
   have Bq:=Zh yf
   have o0:=aa yf.ob.out 0
   have o1:=aa yf.ob.out 1
   have o2:=aa yf.ob.out 2
   have r0:=aa yf.res 0
   have r1:=aa yf.res 1
   have r2:=aa yf.res 2
   have rf:=ah yf.res
   simp only [List.getElem?_toArray,List.getElem?_cons_zero,List.getElem?_cons_succ] at o0 o1 o2 r0 r1 r2
   have Ig:=Zh zO
   clear yf zO own2 own3
   go_wp2_with fail
   have wZ:Kp (fun q=>q=W.heap.size) wr (((wr.setCell ⟨W.heap.size,0,none⟩ (.slice a1 N N)).setCell ⟨W.heap.size,1,none⟩ (.slice (aA g2) k c2)).setCell ⟨W.heap.size,2,none⟩ (.slice (aA g3) k c3)):=((Kp.set _ _ _ _).trans (Kp.set _ _ _ _)).trans (Kp.set _ _ _ _)
   have hz:=aJ (aJ (aJ Bq.out.res (i:=0) (.slice a1 N N)) (i:=1) (.slice (aA g2) k c2)) (i:=2) (.slice (aA g3) k c3)
   generalize (((wr.setCell ⟨W.heap.size,0,none⟩ (.slice a1 N N)).setCell ⟨W.heap.size,1,none⟩ (.slice (aA g2) k c2)).setCell ⟨W.heap.size,2,none⟩ (.slice (aA g3) k c3))=Z at*
   have z0:Z.cell? (aB W.heap.size 0)=some (.slice a1 N N):=(aa hz 0).trans rfl
   have z1:Z.cell? (aB W.heap.size 1)=some (.slice (aA g2) k c2):=(aa hz 1).trans rfl
   have z2:Z.cell? (aB W.heap.size 2)=some (.slice (aA g3) k c3):=(aa hz 2).trans rfl
   have Aa:=Zh wZ
   clear wZ hz o0 o1 o2 r0 r1 r2 rf
   (try simp only [Exit.inBlock,Exit.then]);refine zad (by simp [results,Tryz.results10,go_sem,↓IntWalk.iteOmega,z0,z1,z2];try rfl) rfl ?_
   have IH:k=s.ts.length:=Ig.out.trans Ac.out
   have MF: ∀(xs:List qV) (v:qV),RdV wr (fun q=>q<=W.heap.size\/foot (W.heap.size+1) #[.slice a1 N N,.slice (aA g2) k c2,.slice (aA g3) k c3] [⟨1,51,1,k,ps⟩,⟨2,3,1,k,endsL (s.ts.take k)⟩] q) xs v->RdV Z (fun q=>q<=W.heap.size) xs v:=fun xs v h=>h.kp (Aa.out.mono (fun q _ e=> .inl (Nat.le_of_eq e))) (fun _ h=> .inl (.inl h))
   have hb:=Bq.out.by_
   have Ga:=Bq.out.pr
   have DA:=Aa.out.size
   refine ⟨.slice a1 N N,g2,c2,g3,c3,ps,by rw [IH],aI Bq.out.bel Aa.out (fun q e=>by omega),by rw [hN];exact MF _ _ hb,⟨by omega,by omega⟩,⟨by omega,by omega⟩,by omega,by omega,by omega,fun j u hu=>(Aa.out.cell yE.2 (fun e=>by have:g2=W.heap.size:=e;omega)).trans (y9.out j u hu),fun j u hu=>(Aa.out.cell Ow.2 (fun e=>by have:g3=W.heap.size:=e;omega)).trans (Fy.out j u (by rw [IH,List.take_length];exact hu)),fun i t v ht hv=>MF _ _ (Ga i t v ht hv)⟩
def wkT:qB:=(⟨#[118,97,114,32,120,32,117,56,32,59,32,116,104,114,101,97,100,32,123,32,119,114,105,116,101,32,120,32,61,32,55,32,59,32,125]⟩:qB)
def wkP:PrgD:=match pProg wkT with|some (p,_,_)=>p|none=>noPrg
theorem o4:pProg wkT=some (wkP,0,0):=by kernel_rfl
def wkR:List ThI:=(iProgB wkP).getD []
theorem o7:iProgB wkP=some wkR:=by kernel_rfl
theorem o6:(match lexAll wkT with| .inr []=>true|_=>false)=false:=by kernel_rfl
theorem o5:wkR.all rOk=true:=by kernel_rfl
theorem oZ:((mRun [(3,5000,0)] 0 (mBeg (mapV 0 wkP.vars).2 wkR)).map (fun r=>(r.1.bytes.take 1,r.1.size,r.1.ts.map (·.end_),r.1.ts.map (fun t=>t.prints.length),r.2)))=some ([7],1,[1],[0],(1,0)):=by kernel_rfl
structure Runs(t:qB)(p:PrgD)(rs:List ThI)(size:Int):Prop where
 hp:pProg t=some (p,0,0)
 hne:lexAll t≠ .inr []
 hr:iProgB p=some rs
 hz:(mapV 0 p.vars).2=size
 hl:rs.length=p.threads.length
 h1:1<=rs.length
 h8:rs.length<=8
 s0:0<size
 s1:size<=65536
 ok: ∀r∈rs,rOk r=true
def RunD(w:qW)(s:MSt)(b:Bool)(e:Ending)(w':qW):Prop:=
 ∃v1 g2 c2 g3 c3,e= .returned (.tuple #[.agg #[v1,.slice (aA g2) s.ts.length c2,.slice (aA g3) s.ts.length c3],.bool b])/\Below w.heap.size w w'/\RdV w' (fun q=>q<=w.heap.size) ((s.bytes.take s.size.toNat).flatMap aK) v1
theorem sB(w:qW)(yo:SpT w)(t:qB)(p:PrgD)(rs:List ThI)(size:Int)(k:Int)(s:MSt)(n0 e0:Int)(H:Runs t p rs size)(wY:mRun [(3,k,0)] 0 (mBeg size rs)=some (s,n0,e0))(Ly:0<s.size)(Ga: ∀t∈s.ts,t.prints.length<=1000000):
  qC 11 #[.string t,iI k] w (RunD w s (e0==0)):=by
 have Dx:=Zh (fun W (hW:Below w.heap.size w W)=>lK t p H.hp H.hne rs H.hr W (yo.below hW))
 have HH:=Zh H
 have yj:=Zh wY
 clear H wY
 go_enter Tryz.func11,Tryz.ntmps11
 go_wp2_with fail
 go_at_call 7
 refine (Dx.out _ Zo).mono ?_
 rintro e w2 ⟨gT,gv,rfl,yr,xy,Ag,DW,hT⟩
 rw [HH.out.hz,<-HH.out.hl] at*
 obtain ⟨ga,gc,rfl, -, -, -, -⟩:=aC DW
 have Hj:Below w.heap.size w w2:=an (ab (zaa _ _) _) yr ZF
 have xV:=Zh Hj
 have HT:=Zh hT
 have r0:=(yr.block w.heap.size ZF).trans (zab _ _)
 have Hv:=Zh r0
 clear yr Hj hT DW r0 Dx
 go_upto_region 2 with fail
 refine aS (R:=fun X=>Below w2.heap.size w2 X/\X.heap[w2.heap.size]?=some (.cells #[.slice (aA gT) rs.length rs.length,.slice (aA (gT+1)) rs.length rs.length,.slice ga (mapV 0 p.vars).1.length gc,iI size] 31 (0,0))/\X.heap[w2.heap.size+1]?=some (.cells #[iI 0,iI 0] 34 (0,0))) ⟨ab (ab (zaa _ _) _) _,(zac _ _ ZF).trans (zab _ _),aH (by simp only [ar])⟩ ?_
 rintro V ⟨Ar,Bf,GK⟩
 have hl:w.heap.size<w2.heap.size:=by have:=ac Hv.out;omega
 have i0:V.cell? (aB w2.heap.size 0)=some (.slice (aA gT) rs.length rs.length):=aa Bf 0
 have i1:V.cell? (aB w2.heap.size 1)=some (.slice (aA (gT+1)) rs.length rs.length):=aa Bf 1
 have i2:V.cell? (aB w2.heap.size 2)=some (.slice ga (mapV 0 p.vars).1.length gc):=aa Bf 2
 have i3:V.cell? (aB w2.heap.size 3)=some (iI size):=aa Bf 3
 have f1:V.cell? ⟨w2.heap.size+1,1,none⟩=some (iI 0):=aa GK 1
 have yR:=Zh (an xV.out Ar xV.out.size)
 have NW:=Zh (lx V gT rs.length (.slice ga (mapV 0 p.vars).1.length gc) size rs HH.out.h1 HH.out.h8 rfl (by have:=HH.out.s0;omega) HH.out.s1 (by have:=Ar.size;omega) (fun j r hj=>(HT.out j r hj).below Ar Za Za) HH.out.ok ⟨_,_,_,rfl⟩)
 have Cq:=Zh ((Ar.block _ (ac Hv.out)).trans Hv.out)
 clear Ar Bf GK xy Ag
 go_wp2_with fail
 go_at_call 8
 refine NW.out.mono ?_
 rintro e V2 ⟨M,F,bs,rfl,hM,hm,xA⟩
 have HM:=Zh hm
 have Ax:=Zh xA
 clear hm xA NW i0 i1 i2 i3 f1
 go_wp2_with fail
 have F9:RowC (V2.alloc (.cells #[iI 3,iI k,iI 0] 43)) V2.heap.size ([((3:Int),k,(0:Int))].flatMap spC):=fun j u hu=>by
  rw [aa (zab _ _)]
  simpa [spC] using hu
 have RU:=jU (HM.out.below (ab (zaa _ _) _)) [(3,k,0)] V2.heap.size 1 Zg ZF (fun hF=>by have:=(HM.out.lt _ hF).2;omega) F9 yj.out
 refine RU.mono ?_
 rintro e V3 ⟨rfl,hD⟩
 clear RU F9
 have HD:=Zh hD
 clear hD
 go_wp2_with fail
 go_at_call 10
 refine (kS HD.out.mac Ly Ga).mono ?_
 rintro e V4 ⟨v1,g2,c2,g3,c3,ps,rfl,Fw,zm,Ag,Kb,yB,D7,Dd,y9,Fy,IZ⟩
 obtain ⟨xs,DB⟩: ∃xs,xs=(s.bytes.take s.size.toNat).flatMap aK:=⟨_,rfl⟩
 rw [<-DB] at zm
 have Hl:=Zh DB
 clear DB
 obtain ⟨a1,rfl,Eh⟩:=zm
 have yx:Hid (RdV V4 (fun q=>q<=V3.heap.size) xs (.slice a1 xs.length xs.length)):=Zh ⟨a1,rfl,Eh⟩
 clear Eh
 have Pk:w.heap.size<M:=by have:=yR.out.size;have:=ac Cq.out;omega
 have DU: ¬F w.heap.size:=fun hF=>by have:=(HM.out.lt _ hF).1;omega
 have xq:=Ax.out.size
 have Ot:=ac Cq.out
 have R3:=(HD.out.kp.block w.heap.size ZF DU).trans ((zac _ _ Za).trans ((Ax.out.block _ Ot).trans Cq.out))
 have R4:=(Fw.block _ (ac R3)).trans R3
 have o0:=aa R4 0
 have o1:=aa R4 1
 have o2:=aa R4 2
 simp only [List.getElem?_toArray,List.getElem?_cons_zero,List.getElem?_cons_succ] at o0 o1 o2
 have rf:=ah R4
 have GX:Below w.heap.size w V4:=by
  refine an (aI (ab (an yR.out Ax.out yR.out.size) _) HD.out.kp (fun q hq=>by have:=(HM.out.lt q hq).1;omega)) Fw ?_
  have:=HD.out.kp.size
  simp only [ar] at this
  omega
 have Je:=Zh R4
 have FL:=Zh GX
 have RG:w.heap.size<V3.heap.size:=ac R3
 clear R3 R4 GX Fw y9 Fy IZ Cq HT yj
 go_wp2_with fail
 have wZ:Kp (fun q=>q=w.heap.size) V4 (((V4.setCell ⟨w.heap.size,0,none⟩ (.slice a1 xs.length xs.length)).setCell ⟨w.heap.size,1,none⟩ (.slice (aA g2) s.ts.length c2)).setCell ⟨w.heap.size,2,none⟩ (.slice (aA g3) s.ts.length c3)):=((Kp.set _ _ _ _).trans (Kp.set _ _ _ _)).trans (Kp.set _ _ _ _)
 have hz:=aJ (aJ (aJ Je.out (i:=0) (.slice a1 xs.length xs.length)) (i:=1) (.slice (aA g2) s.ts.length c2)) (i:=2) (.slice (aA g3) s.ts.length c3)
 generalize (((V4.setCell ⟨w.heap.size,0,none⟩ (.slice a1 xs.length xs.length)).setCell ⟨w.heap.size,1,none⟩ (.slice (aA g2) s.ts.length c2)).setCell ⟨w.heap.size,2,none⟩ (.slice (aA g3) s.ts.length c3))=Z at*
 have z0:Z.cell? (aB w.heap.size 0)=some (.slice a1 xs.length xs.length):=(aa hz 0).trans rfl
 have z1:Z.cell? (aB w.heap.size 1)=some (.slice (aA g2) s.ts.length c2):=(aa hz 1).trans rfl
 have z2:Z.cell? (aB w.heap.size 2)=some (.slice (aA g3) s.ts.length c3):=(aa hz 2).trans rfl
 have Aa:=Zh wZ
 clear wZ hz o0 o1 o2 rf
 (try simp only [Exit.inBlock,Exit.then]);refine zad (by simp [results,Tryz.results11,go_sem,↓IntWalk.iteOmega,z0,z1,z2];try rfl) rfl ?_
 exact ⟨_,g2,c2,g3,c3,rfl,aI FL.out Aa.out (fun q e=>by omega),by rw [<-Hl.out];exact yx.out.kp (Aa.out.mono (fun q _ e=>by omega)) (fun q hq=> .inl Za)⟩
theorem oY:Runs wkT wkP wkR 1:=⟨o4,fun h=>(by have:=o6;rw [h] at this;cases this),o7,by kernel_rfl,by kernel_rfl,by decide+kernel,by decide+kernel,by omega,by omega,List.all_eq_true.1 o5⟩
theorem oX: ∃s:MSt,mRun [(3,5000,0)] 0 (mBeg 1 wkR)=some (s,1,0)/\s.size=1/\s.bytes.take 1=[7]/\ ∀t∈s.ts,t.prints.length<=1000000:=by
 have h:=oZ
 rw [show (mapV 0 wkP.vars).2=1 from by kernel_rfl] at h
 cases hr:mRun [(3,5000,0)] 0 (mBeg 1 wkR) with
 |none=>rw [hr] at h;cases h
 |some r=>
  rw [hr] at h
  have h:=zae h
  injection h with h1 h2
  injection h2 with h2 h3
  injection h3 with h3 h4
  injection h4 with h4 h5
  refine ⟨r.1,by rw [<-h5],h2,h1,fun t ht=>?_⟩
  have:t.prints.length∈r.1.ts.map (fun t=>t.prints.length):=List.mem_map.2 ⟨t,ht,rfl⟩
  rw [h4] at this
  have:=List.mem_singleton.1 this
  omega
theorem iV(w:qW)(yo:SpT w):qC 5 #[] w fun e w'=>e= .returned (.bool true)/\Below w.heap.size w w':=by
 obtain ⟨s,yK,yH,DJ,Lx⟩:=oX
 have RT:=Zh (fun W (hW:Below w.heap.size w W)=>sB W (yo.below hW) wkT wkP wkR 1 5000 s 1 0 oY yK Za Lx)
 have HS:=Zh DJ
 have Lw:s.size.toNat=1:=by omega
 have PT:=Zh Lw
 unfold wkT at RT
 clear yK yH DJ Lx Lw
 go_enter Tryz.func5,Tryz.ntmps5
 go_wp2_with fail
 refine (RT.out _ Zo).mono ?_
 rintro e w1 ⟨v1,g2,c2,g3,c3,rfl,hB,hv⟩
 rw [PT.out,HS.out] at hv
 obtain ⟨a1,rfl,hx⟩:=hv
 obtain ⟨g,rfl,hg, -,hR⟩: ∃g,a1=aA g/\g<w1.heap.size/\True/\RowC w1 g [.int .u8 (7:Nat)]:=by
  rcases hx with ⟨-,h⟩|⟨g,h1,h2, -,h3⟩
  ·simp [aK] at h
  ·exact ⟨g,h1,h2,trivial,h3⟩
 have c0:w1.cell? (aB g 0)=some (.int .u8 7):=hR 0 _ rfl
 rw [show ([7].flatMap aK).length=1 from rfl]
 have HB:=Zh hB
 clear hx hR hB RT
 go_wp2_with fail
 go_ret
 exact ⟨rfl,ab HB.out _⟩
end Go.Proofs.YtjmfoeajhiimnaaGreatDoor
