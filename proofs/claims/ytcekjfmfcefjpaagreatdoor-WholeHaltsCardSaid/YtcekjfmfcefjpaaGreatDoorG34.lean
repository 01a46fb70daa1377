/- Walks. No condition. -/
import Derived.Test.YtcekjfmfcefjpaaGreatDoorG33
set_option maxRecDepth 100000
set_option maxHeartbeats 0
set_option linter.all false
namespace Go.Proofs.YtcekjfmfcefjpaaGreatDoor
open Go.RowKit Go.Sort
structure CkW(w0:qW)(C:Nat)(W:qW)(vv lv:qV)(loc:List qB)(lets line:Int)(vs:List VarD):Prop where
 ck:CkAt C W vv lv loc lets line
 vr:VrsIn w0 vv vs
 bl:Below w0.heap.size w0 W
 le:w0.heap.size<=C
 few:loc.length<=lets/\0<=lets/\lets<=40
 sp:SpT w0
def CkD(w0:qW)(C:Nat)(w:qW)(vv lv:qV)(s:CSt)(vs:List VarD)(e:Ending)(w':qW):Prop:=
 e= .returned (.tuple #[])/\ ∃lv' line',CkW w0 C w' vv lv' s.1 s.2 line' vs/\Kp (fun k=>k=C\/lv.ownBlock=some k) w w'/\ ∀k,lv'.ownBlock=some k->lv.ownBlock=some k\/w.heap.size<=k
theorem CkW.more{w0 W:qW}{C:Nat}{vv lv:qV}{loc:List qB}{lets line:Int}{vs:List VarD}(h:CkW w0 C W vv lv loc lets line vs){W':qW}(hb:Below W.heap.size W W'):CkW w0 C W' vv lv loc lets line vs:=
 ⟨h.ck.below hb,h.vr,fE h.bl hb h.bl.size,h.le,h.few,h.sp⟩
theorem CkW.spt{w0 W:qW}{C:Nat}{vv lv:qV}{loc:List qB}{lets line:Int}{vs:List VarD}(h:CkW w0 C W vv lv loc lets line vs):SpT W:=h.sp.below h.bl
theorem SmAt.below{w w':qW}{n:Nat}{x:Sm}{cs:List qV}(h:SmAt w okA n x cs)(hb:Below w.heap.size w w'):SmAt w' okA n x cs:=SmAt.keep hb.size (fun b _ hl=>⟨trivial,hb.block b hl⟩) n x cs h
theorem jC{w:qW}{ok:Nat->Prop}{n:Nat}{x:Sm}{cs:List qV}(h:SmAt w ok n x cs): ∃pa pc xa xc ta tc la lc,cs=[iI x.kind,iI x.line,.string x.name,.string x.name2,iI x.order,.string x.var,.slice pa x.parts.length pc,.slice xa x.exprs.length xc,.slice ta x.thn.length tc,.slice la x.els.length lc]/\rng x.kind/\rng x.line/\rng x.order:=by
 match n,h with
 |n+1,⟨pv,xv,tv,lv,h1,h2,h3,h4,h5,h6,h7,h8⟩=>
  obtain ⟨pa,pc,rfl, -⟩:=h2
  obtain ⟨xa,xc,rfl, -⟩:=h3
  obtain ⟨ta,tc,rfl, -⟩:=h4
  obtain ⟨la,lc,rfl, -⟩:=h5
  exact ⟨pa,pc,xa,xc,ta,tc,la,lc,h1,h6,h7,h8⟩
def SCk(w0:qW)(C:Nat)(vv:qV)(vs:List VarD)(n:Nat):Prop:= ∀(w:qW) (lv:qV) (loc:List qB) (lets line:Int) (x:Sm) (d:Int) (pa xa ta la:Option Addr) (pc xc tc lc:Nat) (s:CSt),CkW w0 C w vv lv loc lets line vs->0<=d->d<=900->
 cStmt vs n x d (loc,lets)=some s->SmAt w0 okA n x [iI x.kind,iI x.line,.string x.name,.string x.name2,iI x.order,.string x.var,.slice pa x.parts.length pc,.slice xa x.exprs.length xc,.slice ta x.thn.length tc,.slice la x.els.length lc]->qC 105 #[pP C,.agg #[iI x.kind,iI x.line,.string x.name,.string x.name2,iI x.order,.string x.var,.slice pa x.parts.length pc,.slice xa x.exprs.length xc,.slice ta x.thn.length tc,.slice la x.els.length lc],iI d] w (CkD w0 C w vv lv s vs)
theorem CkW.setl{w0 W:qW}{C:Nat}{vv lv:qV}{loc:List qB}{lets line:Int}{vs:List VarD}(h:CkW w0 C W vv lv loc lets line vs)(l:Int):CkW w0 C (W.setCell ⟨C,3,none⟩ (iI l)) vv lv loc lets l vs:=
 ⟨⟨aJ h.ck.out _,aw h.ck.own (fun g hg=>zas _ _ _ _ (by have:=(h.ck.own.lt g hg).1;simp only [];omega))⟩,h.vr,h.bl.setCell h.le _,h.le,h.few,h.sp⟩
theorem CkW.lt{w0 W:qW}{C:Nat}{vv lv:qV}{loc:List qB}{lets line:Int}{vs:List VarD}(h:CkW w0 C W vv lv loc lets line vs):C<W.heap.size:=ac h.ck.out
def BCk(w0:qW)(C:Nat)(vv:qV)(vs:List VarD)(n:Nat):Prop:= ∀(w:qW) (lv:qV) (loc:List qB) (lets line:Int) (v:qV) (l:List Sm) (d:Int) (s:CSt),CkW w0 C w vv lv loc lets line vs->0<=d->d<=900->
 cBlock (fun y s=>cStmt vs n y d s) l (loc,lets)=some s->RwAt w0 okA 10 (SmAt w0 okA n) v l->qC 73 #[pP C,v,iI d] w (CkD w0 C w vv lv s vs)
theorem nA{vs:List VarD}: ∀(n:Nat) (x:Sm) (d:Int) (s r:CSt),cStmt vs n x d s=some r->s.1.length<=r.1.length
 |0,x,d,s,r,h=>by simp [cStmt] at h
 |n+1,x,d,s,r,h=>by
  have seq: ∀(l:List Sm) (s r:CSt),cSeq (fun y s=>cStmt vs n y (d+1) s) l s=some r->s.1.length<=r.1.length:=by
   intro l
   induction l with
   |nil=>intro s r h;simp [cSeq] at h;rw [h];exact zaq _
   |cons y l ih=>
    intro s r h
    simp only [cSeq] at h
    split at h
    ·cases h
    ·rename_i s1 h1
     exact zal (nA n y (d+1) s s1 h1) (ih s1 r h)
  have blk: ∀(l:List Sm) (s r:CSt),cBlock (fun y s=>cStmt vs n y (d+1) s) l s=some r->s.1.length<=r.1.length:=by
   intro l s r h
   unfold cBlock at h
   rcases h1:cSeq (fun y s=>cStmt vs n y (d+1) s) l s with _|s1
   ·rw [h1] at h
    cases h
   rw [h1] at h
   simp only [Option.map_some,zaA] at h
   subst h
   have:=seq l s s1 h1
   simp only [zaR]
   omega
  unfold cStmt at h
  split at h
  ·cases h
  split at h
  ·cases h
  rename_i s1 h1
  split at h
  ·cases h
  rename_i s2 h2
  have h3:=blk _ _ _ h
  have h4:=blk _ _ _ h2
  have h5:s.1.length<=s1.1.length:=by
   unfold cTail at h1
   split at h1
   ·cases h1
    simp
   ·split at h1
    ·cases h1
     exact zaq _
    ·cases h1
  omega
theorem yei{f:Sm->CSt->Option CSt}{l:List Sm}{j:Nat}{y:Sm}{s r:CSt}(h:cSeq f (l.drop j) s=some r)(hy:l[j]?=some y): ∃s2,f y s=some s2/\cSeq f (l.drop (j+1)) s2=some r:=by
 obtain ⟨hl,e⟩:=List.getElem?_eq_some_iff.1 hy
 rw [zaS hl,e] at h
 simp only [cSeq] at h
 split at h
 ·cases h
 ·rename_i s2 h2
  exact ⟨s2,h2,h⟩
structure BkW(w0:qW)(C:Nat)(w:qW)(vv lv:qV)(vs:List VarD)(n0:Nat)(W:qW)(lv1:qV)(s:CSt)(line:Int):Prop where
 ck:CkW w0 C W vv lv1 s.1 s.2 line vs
 kp:Kp (fun k=>k=C\/lv.ownBlock=some k) w W
 own: ∀k,lv1.ownBlock=some k->lv.ownBlock=some k\/w.heap.size<=k
 len:n0<=s.1.length
theorem BkW.step{w0:qW}{C:Nat}{w:qW}{vv lv:qV}{vs:List VarD}{n0:Nat}{W W1 W2:qW}{lv1:qV}{s s2:CSt}{line:Int}{e:Ending}(h:BkW w0 C w vv lv vs n0 W lv1 s line)(hC:C<w.heap.size)(hW:Kp (fun k=>k=C) W W1)(h2:CkD w0 C W1 vv lv1 s2 vs e W2)(hl:n0<=s2.1.length): ∃lv2 line2,BkW w0 C w vv lv vs n0 W2 lv2 s2 line2:=by
 obtain ⟨-,lv2,line2,h3,h4,h5⟩:=h2
 refine ⟨lv2,line2,h3,(h.kp.next hW (fun i hi e=> .inl e)).next h4 (fun i hi e=>?_),fun k hk=>?_,hl⟩
 ·rcases e with e|e
  ·exact .inl e
  ·rcases h.own i e with h6|h6
   ·exact .inr h6
   ·omega
 ·rcases h5 k hk with h6|h6
  ·exact h.own k h6
  ·right
   have:=h.kp.size
   have:=hW.size
   omega
theorem CkW.cut{w0 W:qW}{C n c1:Nat}{vv:qV}{a1:Option Addr}{loc:List qB}{lets line:Int}{vs:List VarD}(h:CkW w0 C W vv (.slice a1 loc.length c1) loc lets line vs)(hn:n<=loc.length):CkW w0 C (W.setCell ⟨C,1,none⟩ (.slice a1 n c1)) vv (.slice a1 n c1) (loc.take n) lets line vs:=by
 refine ⟨⟨aJ h.ck.out _,?_⟩,h.vr,h.bl.setCell h.le _,h.le,⟨by have:=h.few.1;simp only [zaR];omega,h.few.2⟩,h.sp⟩
 have hl:(loc.take n).length=n:=by simp only [zaR];omega
 have ho:W.ownsRow (C+1) 9 1 (.slice a1 n c1) (loc.take n).length ((loc.take n).map Value.string):=by
  rw [hl]
  refine ⟨by simp;omega,?_⟩
  rcases h.ck.own.2 with ⟨e1,e2⟩|⟨g,cap,cur,e1,h2,h3,h4,h5,h6,h7⟩
  ·left
   injection e1 with e1 e3 e4
   exact ⟨by rw [e1,e4,show n=0 by omega],by omega⟩
  ·right
   injection e1 with e1 e3 e4
   refine ⟨g,cap,cur,by rw [e1,e4],h2,h3,by omega,h5,h6,?_⟩
   rw [List.map_take,<-h7,List.take_take]
   congr 1
   omega
 exact aw ho (fun g hg=>zas _ _ _ _ (by have:=(ho.lt g hg).1;simp only [];omega))
theorem nK{w0:qW}{C:Nat}{vv:qV}{vs:List VarD}{n:Nat}(HS:SCk w0 C vv vs n):BCk w0 C vv vs n:=by
 intro w lv loc lets line v l d s hc h0 h1 hb hr
 unfold cBlock at hb
 rcases hq:cSeq (fun y s=>cStmt vs n y d s) l (loc,lets) with _|s1
 ·rw [hq] at hb
  cases hb
 rw [hq] at hb
 simp only [Option.map_some,zaA] at hb
 subst hb
 obtain ⟨a,c,rfl,g1,g2,g3⟩:=hr
 have HR:=Zh g3
 have KB:=Zh HS
 have HQ:=Zh hq
 have HC:=Zh hc
 have xe:=aa hc.ck.out
 have xw:=hc.ck.st
 obtain ⟨la,lcp,rfl, -⟩:=xw
 clear g3 hq hc HS
 go_enter Tryz.func73,Tryz.ntmps73
 go_wp2_with fail
 go_loopw [16] (fun v16 wr=> ∃(j:Nat) (lv1:qV) (s:CSt) (line1:Int),v16=iI j/\j<=l.length/\BkW w0 C w vv (.slice la loc.length lcp) vs loc.length wr lv1 s line1/\cSeq (fun y s=>cStmt vs n y d s) (l.drop j) s=some s1) (fun v16 _=>l.length-(intOf v16).toNat)
 case atStart=>exact ⟨0,_,(loc,lets),line,rfl,zaB _,⟨HC.out,Kp.refl _ _,fun k hk=> .inl hk,zaq _⟩,HQ.out⟩
 case round=>
  obtain ⟨j,lv1,s,line1,rfl,hj,hB,zg⟩:=hrel
  have HB:=Zh hB
  have i':=aa hB.ck.ck.out
  have pi:=ai hB.ck.ck.out
  have hC:=hB.ck.lt
  have hC0:=HC.out.lt
  rcases (by omega:j=l.length\/j<l.length) with h2|h2
  ·subst h2
   have yK:s=s1:=by
    rw [List.drop_length] at zg
    simpa [cSeq] using zg
   subst yK
   obtain ⟨a1,c1,rfl, -⟩:=hB.ck.ck.st
   have wX:=hB.len
   have hown:=hB.ck.ck.own
   have HO:=Zh hown
   have yu:loc.length<=c1:=by
    rcases hown.2 with ⟨e1,e2⟩|⟨g,cap,cur,e1, -, -,h5, -⟩
    ·injection e1 with e1 e3 e4
     omega
    ·injection e1 with e1 e3 e4
     omega
   clear hB hown zg
   go_wp2
   go_end0
   refine ⟨rfl,_,_,HB.out.ck.cut HB.out.len,HB.out.kp.next (Kp.set wr C 1 _) (fun i hi e=> .inl e),fun k hk=>HB.out.own k (by cases a1<;>simpa [Value.ownBlock] using hk)⟩
  ·obtain ⟨b,o,rfl, -,hb,yU⟩:=HR.out Za
   obtain ⟨y,hy⟩: ∃y,l[j]?=some y:=⟨l[j],zaC h2⟩
   obtain ⟨s2,xw,E7⟩:=yei zg hy
   obtain ⟨cs,wX,hE,xC⟩:=yU j y hy
   obtain ⟨pa,pc,xa,xc,ta,tc,ua,uc,rfl,r1,r2,r3⟩:=jC hE
   have wZ: ∀(i:Nat) (u:qV),([iI y.kind,iI y.line,.string y.name,.string y.name2,iI y.order,.string y.var,.slice pa y.parts.length pc,.slice xa y.exprs.length xc,.slice ta y.thn.length tc,.slice ua y.els.length uc]:List qV)[i]?=some u->wr.cell? ⟨b,o+j*10+i,none⟩=some u:=fun i u hu=>(hB.ck.bl.cell (p:=⟨b,_,none⟩) hb).trans (xC i u hu)
   have c0:=wZ 0 _ rfl
   have c1:=wZ 1 _ rfl
   have c2:=wZ 2 _ rfl
   have c3:=wZ 3 _ rfl
   have c4:=wZ 4 _ rfl
   have c5:=wZ 5 _ rfl
   have c6:=wZ 6 _ rfl
   have c7:=wZ 7 _ rfl
   have c8:=wZ 8 _ rfl
   have c9:=wZ 9 _ rfl
   simp only [Nat.add_zero] at c0
   have xg:=hB.ck.bl.size
   have J9:b<C:=by have:=hB.ck.le;omega
   have KS:=Zh (fun W (hW:CkW w0 C W vv lv1 s.1 s.2 y.line vs)=>KB.out W lv1 s.1 s.2 y.line y d pa xa ta ua pc xc tc uc s2 hW h0 h1 xw hE)
   have HD:=Zh (fun W (h:CkAt C W vv lv1 s.1 s.2 line1)=>ckbad W h)
   have BT:=nA _ _ _ _ _ xw
   have KD:=Zh E7
   clear wZ xC hE yU hB hy wX xw zg E7
   go_wp2_with (first
    |(go_at_call 74;refine (HD.out _ (HB.out.ck.ck.below Zr)).mono ?_;rintro e w1 ⟨rfl,u'⟩;subst u')
    |(go_at_call 105;refine (KS.out _ ((HB.out.ck.setl y.line).more Zr)).mono ?_;intro e w1 hD;have HDD:=Zh hD;obtain ⟨rfl, -⟩:=hD))
   obtain ⟨lv2,line2,yn⟩:=HB.out.step hC0 ((Kp.set wr C 3 _).alloc _) HDD.out (zal HB.out.len BT)
   exact ⟨⟨j+1,lv2,s2,line2,by simp,by omega,yn,KD.out⟩,by simp [intOf];omega⟩
theorem CkW.vr_at{w0 C W vv lv loc lets line vs}(h:CkW w0 C W vv lv loc lets line vs):VrsIn W vv vs:=h.vr.below h.bl
theorem CkD.next{w0:qW}{C:Nat}{w W w':qW}{vv lv lv1:qV}{s:CSt}{vs:List VarD}{e:Ending}(hk:Kp (fun k=>k=C\/lv.ownBlock=some k) w W)(ho: ∀k,lv1.ownBlock=some k->lv.ownBlock=some k\/w.heap.size<=k)(h:CkD w0 C W vv lv1 s vs e w'):CkD w0 C w vv lv s vs e w':=by
 obtain ⟨he,lv2,line2,h3,h4,h5⟩:=h
 refine ⟨he,lv2,line2,h3,hk.next h4 (fun i hi e=>?_),fun k xT=>?_⟩
 ·rcases e with e|e
  ·exact .inl e
  ·rcases ho i e with h6|h6
   ·exact .inr h6
   ·omega
 ·rcases h5 k xT with h6|h6
  ·exact ho k h6
  ·right
   have:=hk.size
   omega
theorem CkW.cell_old{w0 C W W' vv lv loc lets line vs}{s:CSt}{e:Ending}(h:CkW w0 C W vv lv loc lets line vs)(hd:CkD w0 C W vv lv s vs e W'){K i:Nat}(hK:K<W.heap.size)(h1:K≠C)(h2:lv.ownBlock≠some K):W'.cell? ⟨K,i,none⟩=W.cell? ⟨K,i,none⟩:=by
 obtain ⟨-,lv2,line2, -,h4, -⟩:=hd
 exact h4.cell hK (by rintro (e|e);exact h1 e;exact h2 e)
theorem lq{s:qB}(h:nameB s=true):s.size<=9223372036854775807:=by
 unfold nameB at h
 simp at h
 omega
theorem CkW.own_lt{w0 C W vv lv loc lets line vs}(h:CkW w0 C W vv lv loc lets line vs)(k:Nat)(hk:lv.ownBlock=some k):C<k/\k<W.heap.size:=⟨by have:=(h.ck.own.lt k hk).1;omega,(h.ck.own.lt k hk).2⟩
theorem oD{P:Program}{c:Code}{Q:Exit->Act->qW->Prop}{a:Act}{wx:qW}(R:qW->Prop)(h:R wx)(k: ∀wy,R wy->c.wp P Q a wy):c.wp P Q a wx:=k wx h
section
variable{w0:qW}{C:Nat}{vv:qV}{vs:List VarD}{n:Nat}
structure StH(w0:qW)(C:Nat)(w:qW)(vv lv:qV)(loc:List qB)(lets line:Int)(vs:List VarD)(d:Int)(kind:Int)(ln:Int)(name name2:qB)(order:Int)(var:qB)(parts:List PartD)(exprs:List Ex)(thn els:List Sm)(pa xa ta la:Option Addr)(pc xc tc lc:Nat):Prop where
 need: ∀k W,qC 143 #[pP C,.bool true,iI k] W fun e w'=>e= .returned (.tuple #[])/\w'=W
 form: ∀W,qC 144 #[.agg #[iI kind,iI ln,.string name,.string name2,iI order,.string var,.slice pa parts.length pc,.slice xa exprs.length xc,.slice ta thn.length tc,.slice la els.length lc]] W (Gives W (.bool true))
 order: ∀W,qC 145 #[iI kind,iI order] W fun e w'=>e= .returned (.bool true)/\w'=W
 exprs: ∀W,Below w.heap.size w W->qC 148 #[pP C,.slice xa exprs.length xc,iI d] W (Gives W (.tuple #[]))
 ck:CkW w0 C w vv lv loc lets line vs
theorem qe(w:qW)(lv:qV)(loc:List qB)(lets line d ln order:Int)(name name2 var:qB)(parts:List PartD)(exprs:List Ex)(thn els:List Sm)(pa xa ta la:Option Addr)(pc xc tc lc:Nat)(s s2:CSt)(h0:0<=d)(h1:d<=64)(HH:Hid (StH w0 C w vv lv loc lets line vs d 2 ln name name2 order var parts exprs thn els pa xa ta la pc xc tc lc))(xA:Hid (∀W lv line,CkW w0 C W vv lv s2.1 s2.2 line vs->qC 73 #[pP C,.slice la els.length lc,iI (d+1)] W (CkD w0 C W vv lv s vs)))(zt:Hid (∀W lv line,CkW w0 C W vv lv loc lets line vs->qC 73 #[pP C,.slice ta thn.length tc,iI (d+1)] W (CkD w0 C W vv lv s2 vs)))(hh:cThere loc name=true)(hl:loc.length<=1000000):qC 105 #[pP C,.agg #[iI 2,iI ln,.string name,.string name2,iI order,.string var,.slice pa parts.length pc,.slice xa exprs.length xc,.slice ta thn.length tc,.slice la els.length lc],iI d] w (CkD w0 C w vv lv s vs):=by
 have Hd:=Zh (fun W (hB:Below w.heap.size w W)=>(by have:=ckthere name hl W (HH.out.ck.ck.below hB);rw [hh] at this;exact this:qC 146 #[pP C,.string name] W fun e w'=>e= .returned (.bool true)/\w'=W))
 have u':IntKind.i64.wrap (d+1)=d+1:=cW h0 Za
 have hC:=HH.out.ck.lt
 have C0:=HH.out.ck.own_lt
 go_enter Tryz.func105,Tryz.ntmps105
 go_wp2_with (first
  |(go_at_call 143;(with_reducible refine (HH.out.need _ _).mono ?_);rintro e1 w1 ⟨rfl,u'⟩;subst u')
  |(go_at_call 145;(with_reducible refine (HH.out.order _).mono ?_);rintro e1 w1 ⟨rfl,u'⟩;subst u')
  |(go_at_call 144;(with_reducible refine (HH.out.form _).mono ?_);rintro e1 w1 ⟨rfl,p,rfl⟩)
  |(go_at_call 148;(with_reducible refine (HH.out.exprs _ Zr).mono ?_);rintro e1 w1 ⟨rfl,p,rfl⟩)
  |(go_at_call 146;(with_reducible refine (Hd.out _ Zr).mono ?_);rintro e1 w1 ⟨rfl,u'⟩;subst u')
  |(go_at_call 73;(with_reducible refine (zt.out _ lv line (HH.out.ck.more Zr)).mono ?_);intro e1 w1 hD;obtain rfl:=hD.1;have hF:=fun i=>CkW.cell_old (i:=i) (HH.out.ck.more Zr) hD (K:=w.heap.size) (by simp [go_sem];(try omega)) Za (fun e=>by have:=C0 _ e;omega);have c1:=hF 1;have c9:=hF 9;clear hF;simp [go_sem] at c1 c9;obtain ⟨-,lv2,line2,yp,xh,hown⟩:=hD;have k3:=aa yp.ck.out 3;have f3:=ai yp.ck.out 3;have Dz:=Zh yp;have HK:=Zh (Kp.trans (Kp.of_below (a:=w) (X:=fun k=>k=C\/lv.ownBlock=some k) Zr) xh);have HO:=Zh (fun k hk=>(hown k hk).imp id (fun h=>zal (Below.size (B:=w.heap.size) (w:=w) Zr) h));clear yp xh hown)
  |(go_at_call 73;(with_reducible refine (xA.out _ _ _ (Dz.out.setl ln)).mono ?_);intro e2 w2 A4;obtain rfl:=A4.1;have E0:=Zh A4;clear A4))
 go_end0
 exact CkD.next (HK.out.next (Kp.set _ C 3 _) (fun i hi e=> .inl e)) HO.out E0.out
theorem qd(w:qW)(lv:qV)(loc:List qB)(lets line d ln order:Int)(name name2 var:qB)(parts:List PartD)(exprs:List Ex)(thn els:List Sm)(pa xa ta la:Option Addr)(pc xc tc lc:Nat)(s s2:CSt)(h0:0<=d)(h1:d<=64)(HH:Hid (StH w0 C w vv lv loc lets line vs d 3 ln name name2 order var parts exprs thn els pa xa ta la pc xc tc lc))(xA:Hid (∀W lv line,CkW w0 C W vv lv s2.1 s2.2 line vs->qC 73 #[pP C,.slice la els.length lc,iI (d+1)] W (CkD w0 C W vv lv s vs)))(zt:Hid (∀W lv line,CkW w0 C W vv lv loc lets line vs->qC 73 #[pP C,.slice ta thn.length tc,iI (d+1)] W (CkD w0 C W vv lv s2 vs)))(hh:plOk vs 3 var parts=true):qC 105 #[pP C,.agg #[iI 3,iI ln,.string name,.string name2,iI order,.string var,.slice pa parts.length pc,.slice xa exprs.length xc,.slice ta thn.length tc,.slice la els.length lc],iI d] w (CkD w0 C w vv lv s vs):=by
 have By:=Zh (fun W (hB:Below w.heap.size w W)=>ckplace vs 3 d var parts hh pa pc W (HH.out.ck.ck.below hB) (HH.out.ck.more hB).vr_at)
 have u':IntKind.i64.wrap (d+1)=d+1:=cW h0 Za
 have hC:=HH.out.ck.lt
 have C0:=HH.out.ck.own_lt
 go_enter Tryz.func105,Tryz.ntmps105
 go_wp2_with (first
  |(go_at_call 143;(with_reducible refine (HH.out.need _ _).mono ?_);rintro e1 w1 ⟨rfl,u'⟩;subst u')
  |(go_at_call 145;(with_reducible refine (HH.out.order _).mono ?_);rintro e1 w1 ⟨rfl,u'⟩;subst u')
  |(go_at_call 144;(with_reducible refine (HH.out.form _).mono ?_);rintro e1 w1 ⟨rfl,p,rfl⟩)
  |(go_at_call 148;(with_reducible refine (HH.out.exprs _ Zr).mono ?_);rintro e1 w1 ⟨rfl,p,rfl⟩)
  |(go_at_call 147;(with_reducible refine (By.out _ Zr).mono ?_);rintro e1 w1 ⟨rfl,p,rfl⟩)
  |(go_at_call 73;(with_reducible refine (zt.out _ lv line (HH.out.ck.more Zr)).mono ?_);intro e1 w1 hD;obtain rfl:=hD.1;have hF:=fun i=>CkW.cell_old (i:=i) (HH.out.ck.more Zr) hD (K:=w.heap.size) (by simp [go_sem];(try omega)) Za (fun e=>by have:=C0 _ e;omega);have c1:=hF 1;have c9:=hF 9;clear hF;simp [go_sem] at c1 c9;obtain ⟨-,lv2,line2,yp,xh,hown⟩:=hD;have k3:=aa yp.ck.out 3;have f3:=ai yp.ck.out 3;have Dz:=Zh yp;have HK:=Zh (Kp.trans (Kp.of_below (a:=w) (X:=fun k=>k=C\/lv.ownBlock=some k) Zr) xh);have HO:=Zh (fun k hk=>(hown k hk).imp id (fun h=>zal (Below.size (B:=w.heap.size) (w:=w) Zr) h));clear yp xh hown)
  |(go_at_call 73;(with_reducible refine (xA.out _ _ _ (Dz.out.setl ln)).mono ?_);intro e2 w2 A4;obtain rfl:=A4.1;have E0:=Zh A4;clear A4))
 go_end0
 exact CkD.next (HK.out.next (Kp.set _ C 3 _) (fun i hi e=> .inl e)) HO.out E0.out
theorem qc(w:qW)(lv:qV)(loc:List qB)(lets line d ln order:Int)(name name2 var:qB)(parts:List PartD)(exprs:List Ex)(thn els:List Sm)(pa xa ta la:Option Addr)(pc xc tc lc:Nat)(s s2:CSt)(h0:0<=d)(h1:d<=64)(HH:Hid (StH w0 C w vv lv loc lets line vs d 7 ln name name2 order var parts exprs thn els pa xa ta la pc xc tc lc))(xA:Hid (∀W lv line,CkW w0 C W vv lv s2.1 s2.2 line vs->qC 73 #[pP C,.slice la els.length lc,iI (d+1)] W (CkD w0 C W vv lv s vs)))(zt:Hid (∀W lv line,CkW w0 C W vv lv loc lets line vs->qC 73 #[pP C,.slice ta thn.length tc,iI (d+1)] W (CkD w0 C W vv lv s2 vs)))  :qC 105 #[pP C,.agg #[iI 7,iI ln,.string name,.string name2,iI order,.string var,.slice pa parts.length pc,.slice xa exprs.length xc,.slice ta thn.length tc,.slice la els.length lc],iI d] w (CkD w0 C w vv lv s vs):=Z58_
theorem pZ(w:qW)(lv:qV)(loc:List qB)(lets line d ln order:Int)(name name2 var:qB)(parts:List PartD)(exprs:List Ex)(thn els:List Sm)(pa xa ta la:Option Addr)(pc xc tc lc:Nat)(s s2:CSt)(h0:0<=d)(h1:d<=64)(HH:Hid (StH w0 C w vv lv loc lets line vs d 8 ln name name2 order var parts exprs thn els pa xa ta la pc xc tc lc))(xA:Hid (∀W lv line,CkW w0 C W vv lv s2.1 s2.2 line vs->qC 73 #[pP C,.slice la els.length lc,iI (d+1)] W (CkD w0 C W vv lv s vs)))(zt:Hid (∀W lv line,CkW w0 C W vv lv loc lets line vs->qC 73 #[pP C,.slice ta thn.length tc,iI (d+1)] W (CkD w0 C W vv lv s2 vs)))  :qC 105 #[pP C,.agg #[iI 8,iI ln,.string name,.string name2,iI order,.string var,.slice pa parts.length pc,.slice xa exprs.length xc,.slice ta thn.length tc,.slice la els.length lc],iI d] w (CkD w0 C w vv lv s vs):=Z58_
theorem pY(w:qW)(lv:qV)(loc:List qB)(lets line d ln order:Int)(name name2 var:qB)(parts:List PartD)(exprs:List Ex)(thn els:List Sm)(pa xa ta la:Option Addr)(pc xc tc lc:Nat)(s s2:CSt)(h0:0<=d)(h1:d<=64)(HH:Hid (StH w0 C w vv lv loc lets line vs d 9 ln name name2 order var parts exprs thn els pa xa ta la pc xc tc lc))(xA:Hid (∀W lv line,CkW w0 C W vv lv s2.1 s2.2 line vs->qC 73 #[pP C,.slice la els.length lc,iI (d+1)] W (CkD w0 C W vv lv s vs)))(zt:Hid (∀W lv line,CkW w0 C W vv lv loc lets line vs->qC 73 #[pP C,.slice ta thn.length tc,iI (d+1)] W (CkD w0 C W vv lv s2 vs)))  :qC 105 #[pP C,.agg #[iI 9,iI ln,.string name,.string name2,iI order,.string var,.slice pa parts.length pc,.slice xa exprs.length xc,.slice ta thn.length tc,.slice la els.length lc],iI d] w (CkD w0 C w vv lv s vs):=Z58_
theorem CkW.push{W w2:qW}{lv:qV}{loc:List qB}{lets line:Int}{ob:Obj}{g cap:Nat}{name:qB}(h:CkW w0 C W vv lv loc lets line vs)(hl:lets<40)(wW:(W.drew.alloc ob).grownBy w2 lv.ownBlock)
  (hown:w2.ownsRow (C+1) 9 1 (.slice (aA g) (loc.length+1) cap) (loc.length+1) (loc.map Value.string++[.string name])) (xb:lv.ownBlock=some g\/g=(W.drew.alloc ob).heap.size):
  CkW w0 C ((w2.setCell ⟨C,1,none⟩ (.slice (aA g) (loc.length+1) cap)).setCell ⟨C,2,none⟩ (iI (lets+1))) vv (.slice (aA g) (loc.length+1) cap) (loc++[name]) (lets+1) line vs/\
  Kp (fun k=>k=C\/lv.ownBlock=some k) W ((w2.setCell ⟨C,1,none⟩ (.slice (aA g) (loc.length+1) cap)).setCell ⟨C,2,none⟩ (iI (lets+1)))/\(lv.ownBlock=some g\/W.heap.size<=g)/\C<g:=by
 have hC:=h.lt
 have yZ:=h.le
 have ho:=h.own_lt
 have xY:=(hown.lt g rfl).1
 have wT:Kp (fun k=>lv.ownBlock=some k) (W.drew.alloc ob) w2:=(Kp.of_grown wW).mono (fun k _ e=>e.symm)
 have yd:Kp (fun k=>lv.ownBlock=some k) W w2:=((Kp.dr W).trans (Kp.al _ ob)).trans wT
 have zi:w2.heap[C]?=_:=(yd.block C hC (fun e=>by have:=ho C e;omega)).trans h.ck.out
 refine ⟨⟨⟨aJ (aJ zi _) _,?_⟩,h.vr,?_,yZ,?_,h.sp⟩,(yd.mono (fun k _ e=> .inr e)).next (Kp.trans ((Kp.set w2 C 1 _)) (Kp.set _ C 2 _)) (fun i hi e=> .inl e),?_,by omega⟩
 ·have e1:(loc++[name]).map Value.string=loc.map Value.string++[.string name]:=by simp
  have e2:(loc++[name]).length=loc.length+1:=by simp
  rw [e1,e2]
  refine aw hown (fun i hi=>?_)
  obtain rfl:g=i:=by simpa [Value.ownBlock] using hi
  rw [zas _ _ _ _ (by simp only [];omega),zas _ _ _ _ (by simp only [];omega)]
 ·have h2:Below w0.heap.size w0 w2:=⟨yd.os.trans h.bl.os,yd.tape.trans h.bl.tape,yd.output.trans h.bl.output,zal h.bl.size yd.size,fun k hk=>(yd.block k (by have:=h.bl.size;omega) (fun e=>by have:=ho k e;omega)).trans (h.bl.block k hk)⟩
  exact (h2.setCell (by simpa using yZ) _).setCell (by simpa using yZ) _
 ·have:=h.few
  simp
  omega
 ·rcases xb with e|e
  ·exact .inl e
  ·right
   simp only [Zz] at e
   omega
theorem qg(w:qW)(lv:qV)(loc:List qB)(lets line d ln order:Int)(name name2 var:qB)(parts:List PartD)(exprs:List Ex)(thn els:List Sm)(pa xa ta la:Option Addr)(pc xc tc lc:Nat)(s s2:CSt)(h0:0<=d)(h1:d<=64)(HH:Hid (StH w0 C w vv lv loc lets line vs d 1 ln name name2 order var parts exprs thn els pa xa ta la pc xc tc lc))(xA:Hid (∀W lv line,CkW w0 C W vv lv s2.1 s2.2 line vs->qC 73 #[pP C,.slice la els.length lc,iI (d+1)] W (CkD w0 C W vv lv s vs)))(zt:Hid (∀W lv line,CkW w0 C W vv lv (loc++[name]) (lets+1) line vs->qC 73 #[pP C,.slice ta thn.length tc,iI (d+1)] W (CkD w0 C W vv lv s2 vs)))(FZ:nameB name=true)(y7:keyw name=false)(yb:cThere loc name=false)(wY:lets<40)(hl:loc.length<=1000000):qC 105 #[pP C,.agg #[iI 1,iI ln,.string name,.string name2,iI order,.string var,.slice pa parts.length pc,.slice xa exprs.length xc,.slice ta thn.length tc,.slice la els.length lc],iI d] w (CkD w0 C w vv lv s vs):=by
 have KK:=Zh (fun W=>(by have:=lp name (lq FZ) W;rw [FZ] at this;exact this:qC 102 #[.string name] W (Gives W (.bool true))))
 have yI:=Zh (fun W (hB:Below w.heap.size w W)=>(by have:=dL name W (HH.out.ck.spt.below hB);rw [y7] at this;exact this:qC 64 #[.string name] W (Gives W (.bool false))))
 have Hd:=Zh (fun W (hB:Below w.heap.size w W)=>(by have:=ckthere name hl W (HH.out.ck.ck.below hB);rw [yb] at this;exact this:qC 146 #[pP C,.string name] W fun e w'=>e= .returned (.bool false)/\w'=W))
 have u':IntKind.i64.wrap (d+1)=d+1:=cW h0 Za
 have I9:IntKind.i64.wrap (lets+1)=lets+1:=cW (by have:=HH.out.ck.few;omega) Za
 have xy:decide (lets<40)=true:=by simpa using wY
 have hC:=HH.out.ck.lt
 have C0:=HH.out.ck.own_lt
 have yr:w.cell? ⟨C,2,none⟩=some (iI lets):=aa HH.out.ck.ck.out 2
 obtain ⟨i0,xz,xq,xm,xk⟩:=zan eP
 have EF:=HH.out.ck.few
 go_enter Tryz.func105,Tryz.ntmps105
 go_wp2_with (first
  |(go_at_call 143;(with_reducible refine (HH.out.need _ _).mono ?_);rintro e1 w1 ⟨rfl,u'⟩;subst u')
  |(go_at_call 145;(with_reducible refine (HH.out.order _).mono ?_);rintro e1 w1 ⟨rfl,u'⟩;subst u')
  |(go_at_call 144;(with_reducible refine (HH.out.form _).mono ?_);rintro e1 w1 ⟨rfl,p,rfl⟩)
  |(go_at_call 148;(with_reducible refine (HH.out.exprs _ Zr).mono ?_);rintro e1 w1 ⟨rfl,p,rfl⟩)
  |(go_at_call 102;(with_reducible refine (KK.out _).mono ?_);rintro e1 w1 ⟨rfl,p,rfl⟩)
  |(go_at_call 64;(with_reducible refine (yI.out _ Zr).mono ?_);rintro e1 w1 ⟨rfl,p,rfl⟩)
  |(go_at_call 146;(with_reducible refine (Hd.out _ Zr).mono ?_);rintro e1 w1 ⟨rfl,u'⟩;subst u'))
 refine oD (R:=fun W=>CkW w0 C W vv lv loc lets line vs/\W.heap[w.heap.size]?=some (.cells #[iI 1,iI ln,.string name,.string name2,iI order,.string var,.slice pa parts.length pc,.slice xa exprs.length xc,.slice ta thn.length tc,.slice la els.length lc] 161 (0,0))/\Below w.heap.size w W) ⟨HH.out.ck.more Zr,?_,Zr⟩ ?_
 ·(repeat (rw [cd _ _ _ ZO]));exact zab _ _
 rintro W ⟨yp,Fy,Kr⟩
 have M5:=Zh yp
 have yf:=Zh yp.ck.own
 have Kq:=yp.lt
 have My:=ac Fy
 have HX:=Zh Fy
 have zY:=Zh Kr
 have FA:=Kr.size
 have hA:W.drew.cell? ⟨w.heap.size,2,none⟩=some (.string name):=aa Fy 2
 have hB:W.drew.cell? ⟨C,1,none⟩=some lv:=aa yp.ck.out 1
 have q1:=aa yp.ck.out
 have qx:=aa Fy
 clear yp Fy Kr
 refine ae (fun W=>W.cell? ⟨w.heap.size,2,none⟩=some (.string name)) (fun W=>W.cell? ⟨C,1,none⟩=some lv) 11 rfl ?_
 refine Zp 0 rfl (h:=Zp 1 rfl (h:=Zp 2 rfl (h:=Zp 3 rfl (h:=Zl 4 [8,11] rfl (h:=Zp 5 rfl (h:=Zt 6 rfl (h:=?_)))))));try simp only [Zq]
 refine Zs 7 rfl fun K hK=>?_
 go_simp
 refine hK _ _ ⟨(an My).trans (qx 2),fun _=>(an Kq).trans (q1 1)⟩ ?_
 refine Zs 8 rfl fun K hK=>?_
 refine a8 (.tmp 83) (.tmp 86) 165 9 i0 _ 1 16 Tryz.underlying165 xz xq xm xk rfl Zg rfl rfl (C+1) lv loc.length (loc.map Value.string) (aw yf.out (fun g hg=>zac _ _ (yf.out.lt g hg).2)) W.heap.size #[.string name] 9 (0,0) (zab _ _) ZB ZB rfl ZL Za Za Zc ?_
 intro g2 cap2 w2 hown wW xb xy
 have hP:=Zh (M5.out.push wY wW hown xb)
 have wT:Kp (fun k=>lv.ownBlock=some k) (W.drew.alloc _) w2:=(Kp.of_grown wW).mono (fun k _ e=>e.symm)
 have DA:=wT.size
 simp only [Zz] at DA
 have kx: ∀o,w2.cell? ⟨w.heap.size,o,none⟩=(#[iI 1,iI ln,.string name,.string name2,iI order,.string var,.slice pa parts.length pc,.slice xa exprs.length xc,.slice ta thn.length tc,.slice la els.length lc]:Array qV)[o]?:=fun o=>((wT.cell Zc (fun e=>by have:=C0 _ e;omega)).trans (an My)).trans (qx o)
 have kc: ∀o,w2.cell? ⟨C,o,none⟩=(#[vv,lv,iI lets,iI line,iI 0,iI 0]:Array qV)[o]?:=fun o=>((wT.cell Zc (fun e=>by have:=C0 _ e;omega)).trans (an Kq)).trans (q1 o)
 have kh:w2.heap[C]?=some (.cells #[vv,lv,iI lets,iI line,iI 0,iI 0] 167 (0,0)):=(wT.block C Zc (fun e=>by have:=C0 _ e;omega)).trans ((zac _ _ Kq).trans M5.out.ck.out)
 have kf:=ai kh
 clear hown wW xb wT kh
 refine hK _ _ ⟨kx 2,fun _=>kc 1⟩ ?_
 clear hK K hA hB
 have hA:w2.cell? ⟨w.heap.size,2,none⟩=some (.string name):=kx 2
 have hB:w2.cell? ⟨C,1,none⟩=some lv:=kc 1
 refine Zp 9 rfl (h:=Zp 10 rfl (h:=?_));try simp only [Zq]
 refine Zs 11 rfl fun K hK=>?_
 go_simp
 refine hK _ _ ⟨?_,fun hh=>Bool.noConfusion (hh.symm.trans (show _=true by kernel_rfl))⟩ ?_
 ·simp [go_sem,kx]
 refine af Zb ?_ _
 have H7:=hP
 clear hP
 have k2:=kc 2
 go_wp2_with (first
  |(go_at_call 73;(with_reducible refine (zt.out _ _ line H7.out.1).mono ?_);intro e1 w3 hD;obtain rfl:=hD.1;have hF:=fun i=>CkW.cell_old (i:=i) H7.out.1 hD (K:=w.heap.size) ZR Za (fun e=>by have h2:=H7.out.2.2.1;simp [Value.ownBlock] at e;rcases h2 with h|h<;>first|omega|(have:=C0 _ h;omega));have c1:=hF 1;have c9:=hF 9;clear hF;simp [go_sem,kx,↓IntWalk.iteOmega] at c1 c9;have Fu:=Zh (CkD.next (Kp.trans (Kp.of_below (a:=w) (X:=fun k=>k=C\/lv.ownBlock=some k) zY.out) H7.out.2.1) (fun k hk=>by simp [Value.ownBlock] at hk;subst hk;exact H7.out.2.2.1.imp id (fun h=>by omega)) hD);clear hD;obtain ⟨-,lv2,line2,yp,xh,hown⟩:=Fu.out;have k3:=aa yp.ck.out 3;have f3:=ai yp.ck.out 3;have Dz:=Zh yp;have HK:=Zh xh;have HO:=Zh hown;clear yp xh hown)
  |(go_at_call 73;(with_reducible refine (xA.out _ _ _ (Dz.out.setl ln)).mono ?_);intro e2 w2 A4;obtain rfl:=A4.1;have E0:=Zh A4;clear A4))
 go_end0
 exact CkD.next (HK.out.next (Kp.set _ C 3 _) (fun i hi e=> .inl e)) HO.out E0.out
end
theorem yej{x:Sm}(h:cForm x=true):x.exprs.length<=2/\1<=x.kind/\x.kind<=10:=by
 unfold cForm at h
 simp only [za0,zau] at h
 obtain ⟨⟨⟨⟨⟨⟨⟨h1,h2⟩, -⟩, -⟩, -⟩,hx⟩, -⟩, -⟩:=h
 refine ⟨?_,h1,h2⟩
 rw [hx]
 split
 ·omega
 ·split<;>omega
theorem ydQ{w0:qW}{C:Nat}{vv:qV}{vs:List VarD}{n:Nat}(HB:BCk w0 C vv vs n):SCk w0 C vv vs (n+1):=by
  intro w lv loc lets line x d pa xa ta la pc xc tc lc s hc h0 h1 hs hx
  unfold cStmt at hs
  split at hs
  · cases hs
  rename_i hq
  split at hs
  · cases hs
  rename_i s1 ht
  split at hs
  · cases hs
  rename_i s2 ye
  have zQ:(decide (d<=64)&&cForm x&&cOrder x.kind x.order&&cHead vs x (loc,lets)&&x.exprs.all (fun e=>xOk vs loc 66 e (d+1)))=true:=by simpa using hq
  clear hq
  simp only [za0,zau] at zQ
  obtain ⟨⟨⟨⟨hd,B4⟩,FX⟩,zl⟩,xp⟩:=zQ
  obtain ⟨pv,xv,tv,lv',he,r2,r3,r4,r5, -,Ly, -⟩:=hx
  simp only [List.cons.injEq,and_true,true_and] at he
  obtain ⟨rfl,rfl,rfl,rfl⟩:=he
  have EF:=hc.few
  have hk:=yej B4
  have hH:StH w0 C w vv lv loc lets line vs d x.kind x.line x.name x.name2 x.order x.var x.parts x.exprs x.thn x.els pa xa ta la pc xc tc lc:=
    ⟨fun k W=>ckneed k W,fun W=>ycY x B4 pa xa ta la pc xc tc lc W,fun W=>kQ _ _ FX W,
     fun W hB=>mW (iL Za 66) W _ x.exprs d (hc.ck.below hB) (hc.more hB).vr_at h0 Za Za xp (jQ r3 (fE hc.bl hB hc.bl.size)),hc⟩
  have xA:=Zh (fun W lv line hW=>HB W lv s2.1 s2.2 line (.slice la x.els.length lc) x.els (d+1) s hW Za Za hs r5)
  have zt:=Zh (fun W lv line hW=>HB W lv s1.1 s1.2 line (.slice ta x.thn.length tc) x.thn (d+1) s2 hW Za Za ye r4)
  have HH:=Zh hH
  clear hH hs ye r2 r3 r4 r5 xp HB
  have hl:loc.length<=1000000:=by omega
  obtain ⟨kind,ln,name,name2,order,var,parts,exprs,thn,els⟩:=x
  simp only [Sm.kind,Sm.line,Sm.name,Sm.name2,Sm.order,Sm.var,Sm.parts,Sm.exprs,Sm.thn,Sm.els] at*
  have wT:=hk.2
  clear B4 FX hk
  rcases (by omega:kind=1\/kind=2\/kind=3\/kind=4\/kind=5\/kind=6\/kind=7\/kind=8\/kind=9\/kind=10) with rfl|rfl|rfl|rfl|rfl|rfl|rfl|rfl|rfl|rfl
  all_goals try (simp [cTail,Sm.kind] at ht;done)
  all_goals
    simp [cTail,Sm.kind,Sm.name,Sm.name2] at ht
    simp [cHead,Sm.kind,Sm.name,Sm.var,Sm.parts] at zl
  · subst ht
    exact qg w lv loc lets line d ln order name name2 var parts exprs thn els pa xa ta la pc xc tc lc s s2 h0 hd HH xA zt zl.1.1.1 zl.1.1.2 zl.1.2 zl.2 hl
  · subst ht
    exact qe w lv loc lets line d ln order name name2 var parts exprs thn els pa xa ta la pc xc tc lc s s2 h0 hd HH xA zt zl hl
  · subst ht
    exact qd w lv loc lets line d ln order name name2 var parts exprs thn els pa xa ta la pc xc tc lc s s2 h0 hd HH xA zt zl
  · subst ht
    exact qc w lv loc lets line d ln order name name2 var parts exprs thn els pa xa ta la pc xc tc lc s s2 h0 hd HH xA zt
  · subst ht
    exact pZ w lv loc lets line d ln order name name2 var parts exprs thn els pa xa ta la pc xc tc lc s s2 h0 hd HH xA zt
  · subst ht
    exact pY w lv loc lets line d ln order name name2 var parts exprs thn els pa xa ta la pc xc tc lc s s2 h0 hd HH xA zt
theorem jK{w0:qW}{C:Nat}{vv:qV}{vs:List VarD}: ∀n,SCk w0 C vv vs n
 |0=>fun w lv loc lets line x d pa xa ta la pc xc tc lc s hc h0 h1 hs hx=>by simp [cStmt] at hs
 |n+1=>ydQ (nK (jK n))
theorem yeK{w0:qW}{C:Nat}{vv:qV}{vs:List VarD}(n:Nat):BCk w0 C vv vs n:=nK (jK n)
end Go.Proofs.YtcekjfmfcefjpaaGreatDoor
