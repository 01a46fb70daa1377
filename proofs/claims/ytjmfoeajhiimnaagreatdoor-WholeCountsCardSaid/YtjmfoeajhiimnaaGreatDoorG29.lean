/- Walks. No condition. -/
import Derived.Test.YtjmfoeajhiimnaaGreatDoorG22
import Derived.Test.YtjmfoeajhiimnaaGreatDoorG28
set_option maxRecDepth 100000
set_option maxHeartbeats 0
set_option linter.all false
namespace Go.Proofs.YtjmfoeajhiimnaaGreatDoor
open Go.RowKit Go.Sort
theorem CkW.vr_at{w0 C W vv lv loc lets line vs}(h:CkW w0 C W vv lv loc lets line vs):VrsIn W vv vs:=h.vr.below h.bl
theorem CkD.next{w0:qW}{C:Nat}{w W w':qW}{vv lv lv1:qV}{s:CSt}{vs:List VarD}{e:Ending}(hk:Kp (fun k=>k=C\/lv.ownBlock=some k) w W)(ho: ∀k,lv1.ownBlock=some k->lv.ownBlock=some k\/w.heap.size<=k)(h:CkD w0 C W vv lv1 s vs e w'):CkD w0 C w vv lv s vs e w':=by
 obtain ⟨he,lv2,line2,h3,h4,h5⟩:=h
 refine ⟨he,lv2,line2,h3,hk.next h4 (fun i hi e=>?_),fun k xZ=>?_⟩
 ·rcases e with e|e
  ·exact .inl e
  ·rcases ho i e with h6|h6
   ·exact .inr h6
   ·omega
 ·rcases h5 k xZ with h6|h6
  ·exact ho k h6
  ·right
   have:=hk.size
   omega
theorem CkW.cell_old{w0 C W W' vv lv loc lets line vs}{s:CSt}{e:Ending}(h:CkW w0 C W vv lv loc lets line vs)(hd:CkD w0 C W vv lv s vs e W'){K i:Nat}(hK:K<W.heap.size)(h1:K≠C)(h2:lv.ownBlock≠some K):W'.cell? ⟨K,i,none⟩=W.cell? ⟨K,i,none⟩:=by
 obtain ⟨-,lv2,line2, -,h4, -⟩:=hd
 exact h4.cell hK (by rintro (e|e);exact h1 e;exact h2 e)
theorem lB{s:qB}(h:nameB s=true):s.size<=9223372036854775807:=by
 unfold nameB at h
 simp at h
 omega
theorem CkW.own_lt{w0 C W vv lv loc lets line vs}(h:CkW w0 C W vv lv loc lets line vs)(k:Nat)(hk:lv.ownBlock=some k):C<k/\k<W.heap.size:=⟨by have:=(h.ck.own.lt k hk).1;omega,(h.ck.own.lt k hk).2⟩
theorem oP{P:Program}{c:Code}{Q:Exit->Act->qW->Prop}{a:Act}{wx:qW}(R:qW->Prop)(h:R wx)(k: ∀wy,R wy->c.wp P Q a wy):c.wp P Q a wx:=k wx h
section
variable{w0:qW}{C:Nat}{vv:qV}{vs:List VarD}{n:Nat}
structure StH(w0:qW)(C:Nat)(w:qW)(vv lv:qV)(loc:List qB)(lets line:Int)(vs:List VarD)(d:Int)(kind:Int)(ln:Int)(name name2:qB)(order:Int)(var:qB)(parts:List PartD)(exprs:List Ex)(thn els:List Sm)(pa xa ta la:Option Addr)(pc xc tc lc:Nat):Prop where
 need: ∀k W,qC 120 #[pP C,.bool true,iI k] W fun e w'=>e= .returned (.tuple #[])/\w'=W
 form: ∀W,qC 121 #[.agg #[iI kind,iI ln,.string name,.string name2,iI order,.string var,.slice pa parts.length pc,.slice xa exprs.length xc,.slice ta thn.length tc,.slice la els.length lc]] W (Gives W (.bool true))
 order: ∀W,qC 122 #[iI kind,iI order] W fun e w'=>e= .returned (.bool true)/\w'=W
 exprs: ∀W,Below w.heap.size w W->qC 125 #[pP C,.slice xa exprs.length xc,iI d] W (Gives W (.tuple #[]))
 ck:CkW w0 C w vv lv loc lets line vs
theorem qA(w:qW)(lv:qV)(loc:List qB)(lets line d ln order:Int)(name name2 var:qB)(parts:List PartD)(exprs:List Ex)(thn els:List Sm)(pa xa ta la:Option Addr)(pc xc tc lc:Nat)(s s2:CSt)(h0:0<=d)(h1:d<=64)(HH:Hid (StH w0 C w vv lv loc lets line vs d 2 ln name name2 order var parts exprs thn els pa xa ta la pc xc tc lc))(xV:Hid (∀W lv line,CkW w0 C W vv lv s2.1 s2.2 line vs->qC 50 #[pP C,.slice la els.length lc,iI (d+1)] W (CkD w0 C W vv lv s vs)))(zl:Hid (∀W lv line,CkW w0 C W vv lv loc lets line vs->qC 50 #[pP C,.slice ta thn.length tc,iI (d+1)] W (CkD w0 C W vv lv s2 vs)))(hh:cThere loc name=true)(hl:loc.length<=1000000):qC 77 #[pP C,.agg #[iI 2,iI ln,.string name,.string name2,iI order,.string var,.slice pa parts.length pc,.slice xa exprs.length xc,.slice ta thn.length tc,.slice la els.length lc],iI d] w (CkD w0 C w vv lv s vs):=by
 have Hp:=Zh (fun W (hB:Below w.heap.size w W)=>(by have:=ckthere name hl W (HH.out.ck.ck.below hB);rw [hh] at this;exact this:qC 123 #[pP C,.string name] W fun e w'=>e= .returned (.bool true)/\w'=W))
 have u':IntKind.i64.wrap (d+1)=d+1:=cM h0 Za
 have hC:=HH.out.ck.lt
 have C4:=HH.out.ck.own_lt
 go_enter Tryz.func77,Tryz.ntmps77
 go_wp2_with (first
  |(go_at_call 120;(with_reducible refine (HH.out.need _ _).mono ?_);rintro e1 w1 ⟨rfl,u'⟩;subst u')
  |(go_at_call 122;(with_reducible refine (HH.out.order _).mono ?_);rintro e1 w1 ⟨rfl,u'⟩;subst u')
  |(go_at_call 121;(with_reducible refine (HH.out.form _).mono ?_);rintro e1 w1 ⟨rfl,p,rfl⟩)
  |(go_at_call 125;(with_reducible refine (HH.out.exprs _ Zo).mono ?_);rintro e1 w1 ⟨rfl,p,rfl⟩)
  |(go_at_call 123;(with_reducible refine (Hp.out _ Zo).mono ?_);rintro e1 w1 ⟨rfl,u'⟩;subst u')
  |(go_at_call 50;(with_reducible refine (zl.out _ lv line (HH.out.ck.more Zo)).mono ?_);intro e1 w1 hD;obtain rfl:=hD.1;have hF:=fun i=>CkW.cell_old (i:=i) (HH.out.ck.more Zo) hD (K:=w.heap.size) (by simp [go_sem];(try omega)) Za (fun e=>by have:=C4 _ e;omega);have c1:=hF 1;have c9:=hF 9;clear hF;simp [go_sem] at c1 c9;obtain ⟨-,lv2,line2,yv,xp,hown⟩:=hD;have k3:=aa yv.ck.out 3;have f3:=ah yv.ck.out 3;have Dz:=Zh yv;have HK:=Zh (Kp.trans (Kp.of_below (a:=w) (X:=fun k=>k=C\/lv.ownBlock=some k) Zo) xp);have HO:=Zh (fun k hk=>(hown k hk).imp id (fun h=>zal (Below.size (B:=w.heap.size) (w:=w) Zo) h));clear yv xp hown)
  |(go_at_call 50;(with_reducible refine (xV.out _ _ _ (Dz.out.setl ln)).mono ?_);intro e2 w2 A8;obtain rfl:=A8.1;have Fb:=Zh A8;clear A8))
 go_end0
 exact CkD.next (HK.out.next (Kp.set _ C 3 _) (fun i hi e=> .inl e)) HO.out Fb.out
theorem qz(w:qW)(lv:qV)(loc:List qB)(lets line d ln order:Int)(name name2 var:qB)(parts:List PartD)(exprs:List Ex)(thn els:List Sm)(pa xa ta la:Option Addr)(pc xc tc lc:Nat)(s s2:CSt)(h0:0<=d)(h1:d<=64)(HH:Hid (StH w0 C w vv lv loc lets line vs d 3 ln name name2 order var parts exprs thn els pa xa ta la pc xc tc lc))(xV:Hid (∀W lv line,CkW w0 C W vv lv s2.1 s2.2 line vs->qC 50 #[pP C,.slice la els.length lc,iI (d+1)] W (CkD w0 C W vv lv s vs)))(zl:Hid (∀W lv line,CkW w0 C W vv lv loc lets line vs->qC 50 #[pP C,.slice ta thn.length tc,iI (d+1)] W (CkD w0 C W vv lv s2 vs)))(hh:plOk vs 3 var parts=true):qC 77 #[pP C,.agg #[iI 3,iI ln,.string name,.string name2,iI order,.string var,.slice pa parts.length pc,.slice xa exprs.length xc,.slice ta thn.length tc,.slice la els.length lc],iI d] w (CkD w0 C w vv lv s vs):=by
 have BE:=Zh (fun W (hB:Below w.heap.size w W)=>ckplace vs 3 d var parts hh pa pc W (HH.out.ck.ck.below hB) (HH.out.ck.more hB).vr_at)
 have u':IntKind.i64.wrap (d+1)=d+1:=cM h0 Za
 have hC:=HH.out.ck.lt
 have C4:=HH.out.ck.own_lt
 go_enter Tryz.func77,Tryz.ntmps77
 go_wp2_with (first
  |(go_at_call 120;(with_reducible refine (HH.out.need _ _).mono ?_);rintro e1 w1 ⟨rfl,u'⟩;subst u')
  |(go_at_call 122;(with_reducible refine (HH.out.order _).mono ?_);rintro e1 w1 ⟨rfl,u'⟩;subst u')
  |(go_at_call 121;(with_reducible refine (HH.out.form _).mono ?_);rintro e1 w1 ⟨rfl,p,rfl⟩)
  |(go_at_call 125;(with_reducible refine (HH.out.exprs _ Zo).mono ?_);rintro e1 w1 ⟨rfl,p,rfl⟩)
  |(go_at_call 124;(with_reducible refine (BE.out _ Zo).mono ?_);rintro e1 w1 ⟨rfl,p,rfl⟩)
  |(go_at_call 50;(with_reducible refine (zl.out _ lv line (HH.out.ck.more Zo)).mono ?_);intro e1 w1 hD;obtain rfl:=hD.1;have hF:=fun i=>CkW.cell_old (i:=i) (HH.out.ck.more Zo) hD (K:=w.heap.size) (by simp [go_sem];(try omega)) Za (fun e=>by have:=C4 _ e;omega);have c1:=hF 1;have c9:=hF 9;clear hF;simp [go_sem] at c1 c9;obtain ⟨-,lv2,line2,yv,xp,hown⟩:=hD;have k3:=aa yv.ck.out 3;have f3:=ah yv.ck.out 3;have Dz:=Zh yv;have HK:=Zh (Kp.trans (Kp.of_below (a:=w) (X:=fun k=>k=C\/lv.ownBlock=some k) Zo) xp);have HO:=Zh (fun k hk=>(hown k hk).imp id (fun h=>zal (Below.size (B:=w.heap.size) (w:=w) Zo) h));clear yv xp hown)
  |(go_at_call 50;(with_reducible refine (xV.out _ _ _ (Dz.out.setl ln)).mono ?_);intro e2 w2 A8;obtain rfl:=A8.1;have Fb:=Zh A8;clear A8))
 go_end0
 exact CkD.next (HK.out.next (Kp.set _ C 3 _) (fun i hi e=> .inl e)) HO.out Fb.out
theorem qy(w:qW)(lv:qV)(loc:List qB)(lets line d ln order:Int)(name name2 var:qB)(parts:List PartD)(exprs:List Ex)(thn els:List Sm)(pa xa ta la:Option Addr)(pc xc tc lc:Nat)(s s2:CSt)(h0:0<=d)(h1:d<=64)(HH:Hid (StH w0 C w vv lv loc lets line vs d 9 ln name name2 order var parts exprs thn els pa xa ta la pc xc tc lc))(xV:Hid (∀W lv line,CkW w0 C W vv lv s2.1 s2.2 line vs->qC 50 #[pP C,.slice la els.length lc,iI (d+1)] W (CkD w0 C W vv lv s vs)))(zl:Hid (∀W lv line,CkW w0 C W vv lv loc lets line vs->qC 50 #[pP C,.slice ta thn.length tc,iI (d+1)] W (CkD w0 C W vv lv s2 vs)))  :qC 77 #[pP C,.agg #[iI 9,iI ln,.string name,.string name2,iI order,.string var,.slice pa parts.length pc,.slice xa exprs.length xc,.slice ta thn.length tc,.slice la els.length lc],iI d] w (CkD w0 C w vv lv s vs):=Z60_
theorem qD(w:qW)(lv:qV)(loc:List qB)(lets line d ln order:Int)(name name2 var:qB)(parts:List PartD)(exprs:List Ex)(thn els:List Sm)(pa xa ta la:Option Addr)(pc xc tc lc:Nat)(s s2:CSt)(h0:0<=d)(h1:d<=64)(HH:Hid (StH w0 C w vv lv loc lets line vs d 10 ln name name2 order var parts exprs thn els pa xa ta la pc xc tc lc))(xV:Hid (∀W lv line,CkW w0 C W vv lv s2.1 s2.2 line vs->qC 50 #[pP C,.slice la els.length lc,iI (d+1)] W (CkD w0 C W vv lv s vs)))(zl:Hid (∀W lv line,CkW w0 C W vv lv loc lets line vs->qC 50 #[pP C,.slice ta thn.length tc,iI (d+1)] W (CkD w0 C W vv lv s2 vs)))  :qC 77 #[pP C,.agg #[iI 10,iI ln,.string name,.string name2,iI order,.string var,.slice pa parts.length pc,.slice xa exprs.length xc,.slice ta thn.length tc,.slice la els.length lc],iI d] w (CkD w0 C w vv lv s vs):=Z60_
theorem CkW.push{W w2:qW}{lv:qV}{loc:List qB}{lets line:Int}{ob:Obj}{g cap:Nat}{name:qB}(h:CkW w0 C W vv lv loc lets line vs)(hl:lets<40)(xb:(W.drew.alloc ob).grownBy w2 lv.ownBlock)
  (hown:w2.ownsRow (C+1) 9 1 (.slice (aA g) (loc.length+1) cap) (loc.length+1) (loc.map Value.string++[.string name])) (xk:lv.ownBlock=some g\/g=(W.drew.alloc ob).heap.size):
  CkW w0 C ((w2.setCell ⟨C,1,none⟩ (.slice (aA g) (loc.length+1) cap)).setCell ⟨C,2,none⟩ (iI (lets+1))) vv (.slice (aA g) (loc.length+1) cap) (loc++[name]) (lets+1) line vs/\
  Kp (fun k=>k=C\/lv.ownBlock=some k) W ((w2.setCell ⟨C,1,none⟩ (.slice (aA g) (loc.length+1) cap)).setCell ⟨C,2,none⟩ (iI (lets+1)))/\(lv.ownBlock=some g\/W.heap.size<=g)/\C<g:=by
 have hC:=h.lt
 have zt:=h.le
 have ho:=h.own_lt
 have yd:=(hown.lt g rfl).1
 have wZ:Kp (fun k=>lv.ownBlock=some k) (W.drew.alloc ob) w2:=(Kp.of_grown xb).mono (fun k _ e=>e.symm)
 have ym:Kp (fun k=>lv.ownBlock=some k) W w2:=((Kp.dr W).trans (Kp.al _ ob)).trans wZ
 have zs:w2.heap[C]?=_:=(ym.block C hC (fun e=>by have:=ho C e;omega)).trans h.ck.out
 refine ⟨⟨⟨aJ (aJ zs _) _,?_⟩,h.vr,?_,zt,?_,h.sp⟩,(ym.mono (fun k _ e=> .inr e)).next (Kp.trans ((Kp.set w2 C 1 _)) (Kp.set _ C 2 _)) (fun i hi e=> .inl e),?_,by omega⟩
 ·have e1:(loc++[name]).map Value.string=loc.map Value.string++[.string name]:=by simp
  have e2:(loc++[name]).length=loc.length+1:=by simp
  rw [e1,e2]
  refine ax hown (fun i hi=>?_)
  obtain rfl:g=i:=by simpa [Value.ownBlock] using hi
  rw [zas _ _ _ _ (by simp only [];omega),zas _ _ _ _ (by simp only [];omega)]
 ·have h2:Below w0.heap.size w0 w2:=⟨ym.os.trans h.bl.os,ym.tape.trans h.bl.tape,ym.output.trans h.bl.output,zal h.bl.size ym.size,fun k hk=>(ym.block k (by have:=h.bl.size;omega) (fun e=>by have:=ho k e;omega)).trans (h.bl.block k hk)⟩
  exact (h2.setCell (by simpa using zt) _).setCell (by simpa using zt) _
 ·have:=h.few
  simp
  omega
 ·rcases xk with e|e
  ·exact .inl e
  ·right
   simp only [Zz] at e
   omega
theorem qE(w:qW)(lv:qV)(loc:List qB)(lets line d ln order:Int)(name name2 var:qB)(parts:List PartD)(exprs:List Ex)(thn els:List Sm)(pa xa ta la:Option Addr)(pc xc tc lc:Nat)(s s2:CSt)(h0:0<=d)(h1:d<=64)(HH:Hid (StH w0 C w vv lv loc lets line vs d 1 ln name name2 order var parts exprs thn els pa xa ta la pc xc tc lc))(xV:Hid (∀W lv line,CkW w0 C W vv lv s2.1 s2.2 line vs->qC 50 #[pP C,.slice la els.length lc,iI (d+1)] W (CkD w0 C W vv lv s vs)))(zl:Hid (∀W lv line,CkW w0 C W vv lv (loc++[name]) (lets+1) line vs->qC 50 #[pP C,.slice ta thn.length tc,iI (d+1)] W (CkD w0 C W vv lv s2 vs)))(Gi:nameB name=true)(ze:keyw name=false)(yV:cThere loc name=false)(xe:lets<40)(hl:loc.length<=1000000):qC 77 #[pP C,.agg #[iI 1,iI ln,.string name,.string name2,iI order,.string var,.slice pa parts.length pc,.slice xa exprs.length xc,.slice ta thn.length tc,.slice la els.length lc],iI d] w (CkD w0 C w vv lv s vs):=by
 have KU:=Zh (fun W=>(by have:=lA name (lB Gi) W;rw [Gi] at this;exact this:qC 74 #[.string name] W (Gives W (.bool true))))
 have yQ:=Zh (fun W (hB:Below w.heap.size w W)=>(by have:=dP name W (HH.out.ck.spt.below hB);rw [ze] at this;exact this:qC 41 #[.string name] W (Gives W (.bool false))))
 have Hp:=Zh (fun W (hB:Below w.heap.size w W)=>(by have:=ckthere name hl W (HH.out.ck.ck.below hB);rw [yV] at this;exact this:qC 123 #[pP C,.string name] W fun e w'=>e= .returned (.bool false)/\w'=W))
 have u':IntKind.i64.wrap (d+1)=d+1:=cM h0 Za
 have Fe:IntKind.i64.wrap (lets+1)=lets+1:=cM (by have:=HH.out.ck.few;omega) Za
 have xE:decide (lets<40)=true:=by simpa using xe
 have hC:=HH.out.ck.lt
 have C4:=HH.out.ck.own_lt
 have yB:w.cell? ⟨C,2,none⟩=some (iI lets):=aa HH.out.ck.ck.out 2
 obtain ⟨i0,xF,xx,xu,xq⟩:=zan eW
 have EL:=HH.out.ck.few
 go_enter Tryz.func77,Tryz.ntmps77
 go_wp2_with (first
  |(go_at_call 120;(with_reducible refine (HH.out.need _ _).mono ?_);rintro e1 w1 ⟨rfl,u'⟩;subst u')
  |(go_at_call 122;(with_reducible refine (HH.out.order _).mono ?_);rintro e1 w1 ⟨rfl,u'⟩;subst u')
  |(go_at_call 121;(with_reducible refine (HH.out.form _).mono ?_);rintro e1 w1 ⟨rfl,p,rfl⟩)
  |(go_at_call 125;(with_reducible refine (HH.out.exprs _ Zo).mono ?_);rintro e1 w1 ⟨rfl,p,rfl⟩)
  |(go_at_call 74;(with_reducible refine (KU.out _).mono ?_);rintro e1 w1 ⟨rfl,p,rfl⟩)
  |(go_at_call 41;(with_reducible refine (yQ.out _ Zo).mono ?_);rintro e1 w1 ⟨rfl,p,rfl⟩)
  |(go_at_call 123;(with_reducible refine (Hp.out _ Zo).mono ?_);rintro e1 w1 ⟨rfl,u'⟩;subst u'))
 refine oP (R:=fun W=>CkW w0 C W vv lv loc lets line vs/\W.heap[w.heap.size]?=some (.cells #[iI 1,iI ln,.string name,.string name2,iI order,.string var,.slice pa parts.length pc,.slice xa exprs.length xc,.slice ta thn.length tc,.slice la els.length lc] 136 (0,0))/\Below w.heap.size w W) ⟨HH.out.ck.more Zo,?_,Zo⟩ ?_
 ·(repeat (rw [ch _ _ _ ZN]));exact zab _ _
 rintro W ⟨yv,FP,KB⟩
 have Ns:=Zh yv
 have yg:=Zh yv.ck.own
 have KA:=yv.lt
 have MW:=ac FP
 have HX:=Zh FP
 have Ab:=Zh KB
 have FR:=KB.size
 have hA:W.drew.cell? ⟨w.heap.size,2,none⟩=some (.string name):=aa FP 2
 have hB:W.drew.cell? ⟨C,1,none⟩=some lv:=aa yv.ck.out 1
 have q1:=aa yv.ck.out
 have qx:=aa FP
 clear yv FP KB
 refine ae (fun W=>W.cell? ⟨w.heap.size,2,none⟩=some (.string name)) (fun W=>W.cell? ⟨C,1,none⟩=some lv) 11 rfl ?_
 refine Zp 0 rfl (h:=Zp 1 rfl (h:=Zp 2 rfl (h:=Zp 3 rfl (h:=Zl 4 [8,11] rfl (h:=Zp 5 rfl (h:=Zt 6 rfl (h:=?_)))))));try simp only [Zq]
 refine Zs 7 rfl fun K hK=>?_
 go_simp
 refine hK _ _ ⟨(aj MW).trans (qx 2),fun _=>(aj KA).trans (q1 1)⟩ ?_
 refine Zs 8 rfl fun K hK=>?_
 refine bf (.tmp 83) (.tmp 86) 140 9 i0 _ 1 16 Tryz.underlying140 xF xx xu xq rfl Zd rfl rfl (C+1) lv loc.length (loc.map Value.string) (ax yg.out (fun g hg=>zac _ _ (yg.out.lt g hg).2)) W.heap.size #[.string name] 9 (0,0) (zab _ _) ZA ZA rfl ZD Za Za Zc ?_
 intro g2 cap2 w2 hown xb xk xE
 have hP:=Zh (Ns.out.push xe xb hown xk)
 have wZ:Kp (fun k=>lv.ownBlock=some k) (W.drew.alloc _) w2:=(Kp.of_grown xb).mono (fun k _ e=>e.symm)
 have DA:=wZ.size
 simp only [Zz] at DA
 have kx: ∀o,w2.cell? ⟨w.heap.size,o,none⟩=(#[iI 1,iI ln,.string name,.string name2,iI order,.string var,.slice pa parts.length pc,.slice xa exprs.length xc,.slice ta thn.length tc,.slice la els.length lc]:Array qV)[o]?:=fun o=>((wZ.cell Zc (fun e=>by have:=C4 _ e;omega)).trans (aj MW)).trans (qx o)
 have kc: ∀o,w2.cell? ⟨C,o,none⟩=(#[vv,lv,iI lets,iI line,iI 0,iI 0]:Array qV)[o]?:=fun o=>((wZ.cell Zc (fun e=>by have:=C4 _ e;omega)).trans (aj KA)).trans (q1 o)
 have kh:w2.heap[C]?=some (.cells #[vv,lv,iI lets,iI line,iI 0,iI 0] 142 (0,0)):=(wZ.block C Zc (fun e=>by have:=C4 _ e;omega)).trans ((zac _ _ KA).trans Ns.out.ck.out)
 have kf:=ah kh
 clear hown xb xk wZ kh
 refine hK _ _ ⟨kx 2,fun _=>kc 1⟩ ?_
 clear hK K hA hB
 have hA:w2.cell? ⟨w.heap.size,2,none⟩=some (.string name):=kx 2
 have hB:w2.cell? ⟨C,1,none⟩=some lv:=kc 1
 refine Zp 9 rfl (h:=Zp 10 rfl (h:=?_));try simp only [Zq]
 refine Zs 11 rfl fun K hK=>?_
 go_simp
 refine hK _ _ ⟨?_,fun hh=>Bool.noConfusion (hh.symm.trans (show _=true by kernel_rfl))⟩ ?_
 ·simp [go_sem,kx]
 refine af Zb ?_ _
 have Im:=hP
 clear hP
 have k2:=kc 2
 go_wp2_with (first
  |(go_at_call 50;(with_reducible refine (zl.out _ _ line Im.out.1).mono ?_);intro e1 w3 hD;obtain rfl:=hD.1;have hF:=fun i=>CkW.cell_old (i:=i) Im.out.1 hD (K:=w.heap.size) ZR Za (fun e=>by have h2:=Im.out.2.2.1;simp [Value.ownBlock] at e;rcases h2 with h|h<;>first|omega|(have:=C4 _ h;omega));have c1:=hF 1;have c9:=hF 9;clear hF;simp [go_sem,kx,↓IntWalk.iteOmega] at c1 c9;have K9:=Zh (CkD.next (Kp.trans (Kp.of_below (a:=w) (X:=fun k=>k=C\/lv.ownBlock=some k) Ab.out) Im.out.2.1) (fun k hk=>by simp [Value.ownBlock] at hk;subst hk;exact Im.out.2.2.1.imp id (fun h=>by omega)) hD);clear hD;obtain ⟨-,lv2,line2,yv,xp,hown⟩:=K9.out;have k3:=aa yv.ck.out 3;have f3:=ah yv.ck.out 3;have Dz:=Zh yv;have HK:=Zh xp;have HO:=Zh hown;clear yv xp hown)
  |(go_at_call 50;(with_reducible refine (xV.out _ _ _ (Dz.out.setl ln)).mono ?_);intro e2 w2 A8;obtain rfl:=A8.1;have Fb:=Zh A8;clear A8))
 go_end0
 exact CkD.next (HK.out.next (Kp.set _ C 3 _) (fun i hi e=> .inl e)) HO.out Fb.out
end
theorem yeC{x:Sm}(h:cForm x=true):x.exprs.length<=2/\1<=x.kind/\x.kind<=10:=by
 unfold cForm at h
 simp only [za0,zau] at h
 obtain ⟨⟨⟨⟨⟨⟨⟨h1,h2⟩, -⟩, -⟩, -⟩,hx⟩, -⟩, -⟩:=h
 refine ⟨?_,h1,h2⟩
 rw [hx]
 split
 ·omega
 ·split<;>omega
theorem yd8{w0:qW}{C:Nat}{vv:qV}{vs:List VarD}{n:Nat}(HB:BCk w0 C vv vs n):SCk w0 C vv vs (n+1):=by
  intro w lv loc lets line x d pa xa ta la pc xc tc lc s hc h0 h1 hs hx
  unfold cStmt at hs
  split at hs
  · cases hs
  rename_i hq
  split at hs
  · cases hs
  rename_i s1 ht
  split at hs
  · cases hs
  rename_i s2 yn
  have Al:(decide (d<=64)&&cForm x&&cOrder x.kind x.order&&cHead vs x (loc,lets)&&x.exprs.all (fun e=>xOk vs loc 66 e (d+1)))=true:=by simpa using hq
  clear hq
  simp only [za0,zau] at Al
  obtain ⟨⟨⟨⟨hd,Cf⟩,Gg⟩,zw⟩,xw⟩:=Al
  obtain ⟨pv,xv,tv,lv',he,r2,r3,r4,r5, -,LW, -⟩:=hx
  simp only [List.cons.injEq,and_true,true_and] at he
  obtain ⟨rfl,rfl,rfl,rfl⟩:=he
  have EL:=hc.few
  have hk:=yeC Cf
  have hH:StH w0 C w vv lv loc lets line vs d x.kind x.line x.name x.name2 x.order x.var x.parts x.exprs x.thn x.els pa xa ta la pc xc tc lc:=
    ⟨fun k W=>ckneed k W,fun W=>yc6 x Cf pa xa ta la pc xc tc lc W,fun W=>kX _ _ Gg W,
     fun W hB=>m6 (iR Za 66) W _ x.exprs d (hc.ck.below hB) (hc.more hB).vr_at h0 Za Za xw (jX r3 (fG hc.bl hB hc.bl.size)),hc⟩
  have xV:=Zh (fun W lv line hW=>HB W lv s2.1 s2.2 line (.slice la x.els.length lc) x.els (d+1) s hW Za Za hs r5)
  have zl:=Zh (fun W lv line hW=>HB W lv s1.1 s1.2 line (.slice ta x.thn.length tc) x.thn (d+1) s2 hW Za Za yn r4)
  have HH:=Zh hH
  clear hH hs yn r2 r3 r4 r5 xw HB
  have hl:loc.length<=1000000:=by omega
  obtain ⟨kind,ln,name,name2,order,var,parts,exprs,thn,els⟩:=x
  simp only [Sm.kind,Sm.line,Sm.name,Sm.name2,Sm.order,Sm.var,Sm.parts,Sm.exprs,Sm.thn,Sm.els] at*
  have wZ:=hk.2
  clear Cf Gg hk
  rcases (by omega:kind=1\/kind=2\/kind=3\/kind=4\/kind=5\/kind=6\/kind=7\/kind=8\/kind=9\/kind=10) with rfl|rfl|rfl|rfl|rfl|rfl|rfl|rfl|rfl|rfl
  all_goals try (simp [cTail,Sm.kind] at ht;done)
  all_goals
    simp [cTail,Sm.kind,Sm.name,Sm.name2] at ht
    simp [cHead,Sm.kind,Sm.name,Sm.var,Sm.parts] at zw
  · subst ht
    exact qE w lv loc lets line d ln order name name2 var parts exprs thn els pa xa ta la pc xc tc lc s s2 h0 hd HH xV zl zw.1.1.1 zw.1.1.2 zw.1.2 zw.2 hl
  · subst ht
    exact qA w lv loc lets line d ln order name name2 var parts exprs thn els pa xa ta la pc xc tc lc s s2 h0 hd HH xV zl zw hl
  · subst ht
    exact qz w lv loc lets line d ln order name name2 var parts exprs thn els pa xa ta la pc xc tc lc s s2 h0 hd HH xV zl zw
  · subst ht
    exact qy w lv loc lets line d ln order name name2 var parts exprs thn els pa xa ta la pc xc tc lc s s2 h0 hd HH xV zl
  · subst ht
    exact qD w lv loc lets line d ln order name name2 var parts exprs thn els pa xa ta la pc xc tc lc s s2 h0 hd HH xV zl
theorem jR{w0:qW}{C:Nat}{vv:qV}{vs:List VarD}: ∀n,SCk w0 C vv vs n
 |0=>fun w lv loc lets line x d pa xa ta la pc xc tc lc s hc h0 h1 hs hx=>by simp [cStmt] at hs
 |n+1=>yd8 (nV (jR n))
theorem ye3{w0:qW}{C:Nat}{vv:qV}{vs:List VarD}(n:Nat):BCk w0 C vv vs n:=nV (jR n)
theorem ycf(f:qV)(w:qW):qC 245 #[.slice none 0 0,f] w fun e w'=>e= .returned (iI (-1))/\w'=w:=by
 go_enter Tryz.func245,Tryz.ntmps245
 go_wp2_with fail
 refine zao 1 ?_
 rw [zap]
 go_wp2
 go_ret
 exact ⟨rfl,rfl⟩
theorem ycj(f:qV)(w:qW):qC 246 #[.slice none 0 0,f] w fun e w'=>e= .returned (iI (-1))/\w'=w:=by
 go_enter Tryz.func246,Tryz.ntmps246
 go_wp2_with fail
 refine zao 1 ?_
 rw [zap]
 go_wp2
 go_ret
 exact ⟨rfl,rfl⟩
theorem yet(f:qV)(w:qW):qC 190 #[.slice none 0 0,f] w fun e w'=>e= .returned (.bool false)/\w'=w:=by
 go_enter Tryz.func190,Tryz.ntmps190
 go_wp2_with (go_at_call 245;(with_reducible refine (ycf _ _).mono ?_);rintro e1 w1 ⟨rfl,u'⟩;subst u')
 go_ret
 exact ⟨rfl,rfl⟩
theorem yeu(f:qV)(w:qW):qC 191 #[.slice none 0 0,f] w fun e w'=>e= .returned (.bool false)/\w'=w:=by
 go_enter Tryz.func191,Tryz.ntmps191
 go_wp2_with (go_at_call 246;(with_reducible refine (ycj _ _).mono ?_);rintro e1 w1 ⟨rfl,u'⟩;subst u')
 go_ret
 exact ⟨rfl,rfl⟩
theorem px(k z:Int)(w:qW):qC 127 #[scV k z] w (Gives w (.bool false)):=by
 unfold scV
 go_enter Tryz.func127,Tryz.ntmps127
 go_wp2_with (first
  |(go_at_call 190;(with_reducible refine (yet _ _).mono ?_);rintro e1 w1 ⟨rfl,u'⟩;subst u')
  |(go_at_call 191;(with_reducible refine (yeu _ _).mono ?_);rintro e1 w1 ⟨rfl,u'⟩;subst u'))
 go_ret
 exact Gives.mk rfl Zo
theorem eq{k z:Int}(h:SoundF 66 (scTy k z)=0):(k=1\/k=2)/\(z=1\/z=2\/z=4\/z=8\/(z=16/\k=2)):=by
 have e:SoundF 66 (scTy k z)=if (k=1\/k=2)/\(z=1\/z=2\/z=4\/z=8) then 0 else 1:=rfl
 rw [e] at h
 split at h
 ·rename_i h2
  exact ⟨h2.1,by omega⟩
 ·cases h
theorem vE(k z:Int)(h:k=1\/k=2)(w:qW):qC 128 #[scV k z] w (Gives w (.tuple #[.agg #[iI z,iI z],.bool true])):=by
 unfold scV
 rcases h with rfl|rfl
 all_goals
  go_enter Tryz.func128,Tryz.ntmps128
  go_wp2
  (try simp only [Exit.inBlock,Exit.then]);refine zad (by simp [results,Tryz.results128,go_sem,↓IntWalk.iteOmega];try rfl) rfl ?_
  exact Gives.mk rfl Zo
theorem yer(k z:Int)(hk:rng k)(hz:rng z)(h:SoundF 66 (scTy k z)=0)(w:qW):qC 78 #[scV k z] w (Gives w (.tuple #[.agg #[iI z,iI z],iI 0])):=by
 have HS:=Zh (fun W=>jD k z hk hz h W)
 have HO:=Zh (fun W=>vE k z (eq h).1 W)
 have HT:=Zh (fun W=>px k z W)
 unfold scV at HO HT
 unfold scV
 go_enter Tryz.func78,Tryz.ntmps78
 go_wp2_with (first
  |(go_at_call 126;(with_reducible refine (HS.out _).mono ?_);rintro e1 w1 ⟨rfl,p,rfl⟩)
  |(go_at_call 127;(with_reducible refine (HT.out _).mono ?_);rintro e1 w1 ⟨rfl,p1,rfl⟩)
  |(go_at_call 128;(with_reducible refine (HO.out _).mono ?_);rintro e1 w1 ⟨rfl,p2,rfl⟩))
 (try simp only [Exit.inBlock,Exit.then]);refine zad (by simp [results,Tryz.results78,go_sem,↓IntWalk.iteOmega];try rfl) rfl ?_
 exact Gives.mk rfl Zo
theorem oE(k z:Int)(hk:rng k)(hz:rng z)(h:SoundF 66 (scTy k z)=0)(w:qW):qC 52 #[scV k z] w (Gives w (.tuple #[iI z,iI z,iI 0])):=by
 have HC:=Zh (fun W=>yer k z hk hz h W)
 unfold scV at HC
 unfold scV
 go_enter Tryz.func52,Tryz.ntmps52
 go_wp2_with (go_at_call 78;(with_reducible refine (HC.out _).mono ?_);rintro e1 w1 ⟨rfl,p,rfl⟩)
 go_quiet (fail)
 go_wp2_with fail
 go_returns
 exact Gives.mk rfl (by repeat (first|with_reducible exact zaa _ _|with_reducible apply ab|with_reducible apply ag|with_reducible apply aG|with_reducible apply nX))
theorem fR{w:qW}{ok:Nat->Prop}{v:qV}{l:List VarD}(h:RwAt w ok 7 (fun v cs=>VarAt v cs) v l)(hl:l.length<=1000000):VrsIn w v l:=by
 obtain ⟨a,c,rfl,h1,h2,h3⟩:=h
 refine ⟨a,c,rfl,hl,fun hp=>?_⟩
 obtain ⟨b,o,rfl, -,hb,y8⟩:=h3 hp
 refine ⟨b,o,rfl,hb,fun i x hx=>?_⟩
 obtain ⟨cs,xd,⟨k,z,g1,g2,g3,rfl⟩,hc⟩:=y8 i x hx
 exact ⟨k,z,g1,g2,g3,hc 0 _ rfl,hc 1 _ rfl,hc 2 _ rfl,hc 3 _ rfl,hc 4 _ rfl,hc 5 _ rfl,hc 6 _ rfl⟩
theorem VrsIn.take{w:qW}{a:Option Addr}{n c:Nat}{l:List VarD}(h:VrsIn w (.slice a n c) l)(j:Nat)(hj:j<=l.length):VrsIn w (.slice a j c) (l.take j):=by
 obtain ⟨a',c',h1,h2,h3⟩:=h
 simp only [Value.slice.injEq] at h1
 obtain ⟨rfl,rfl,rfl⟩:=h1
 refine ⟨a,c,by rw [zaR,Nat.min_eq_left hj],by rw [zaR];omega,fun hp=>?_⟩
 rw [zaR] at hp
 obtain ⟨b,o,rfl,hb,y8⟩:=h3 Za
 refine ⟨b,o,rfl,hb,fun i x hx=>?_⟩
 rw [List.getElem?_take] at hx
 split at hx
 ·exact y8 i x hx
 ·cases hx
theorem yeh(nm s:qB)(k z:Int)(K:Nat)(w:qW)(h:w.cell? ⟨K,0,none⟩=some (.string s))(hK:K<w.heap.size):qC 76 #[.agg #[.string nm,iI k,iI z,.bool false,.slice none 0 0,iI 0,.slice none 0 0],pP K] w (Gives w (.bool (eqB nm s))):=by
 have he:=eqS nm s
 go_enter Tryz.func76,Tryz.ntmps76
 go_wp2
 go_ret
 exact Gives.mk (by rw [<-he];rfl) Z25_
theorem yb7(v:qV)(l:List VarD)(s:qB)(xW: ∀(j:Nat) y,l[j]?=some y->eqB y.name s=false)(K:Nat)(w:qW)(h:VrsIn w v l)(hK:w.cell? ⟨K,0,none⟩=some (.string s))(yc:K<w.heap.size):
  qC 119 #[v,.func (.func 76) #[] #[pP K]] w (Gives w (iI (-1))):=by
 obtain ⟨a,c,rfl,hl,hc⟩:=h
 have HC:=Zh hc
 have HN:=Zh xW
 have Br:=Zh (fun nm k z (W:qW) (hW:Below w.heap.size w W)=>yeh nm s k z K W ((hW.cell (p:=⟨K,0,none⟩) yc).trans hK) (zar yc hW.size))
 clear hc xW hK
 go_enter Tryz.func119,Tryz.ntmps119
 go_wp2_with fail
 go_loopw [8] (fun v8 wr=> ∃j:Nat,v8=iI j/\j<=l.length/\Below w.heap.size w wr) (fun v8 _=>l.length-(intOf v8).toNat)
 case atStart=>exact ⟨0,rfl,zaB _,zaa _ _⟩
 case round=>
  obtain ⟨j,rfl,hj,hB⟩:=hrel
  rcases (by omega:j=l.length\/j<l.length) with h1|h1
  ·subst h1
   have HB:=Zh hB
   clear hB
   go_wp2
   go_ret
   exact Gives.mk rfl HB.out
  ·obtain ⟨b,o,rfl,hb,xG⟩:=HC.out Za
   obtain ⟨y,hy⟩: ∃y,l[j]?=some y:=⟨l[j],zaC Za⟩
   obtain ⟨k,z,h3,h4,h5,c0,c1,c2,c3,c4,c5,c6⟩:=xG j y hy
   have xh: ∀(n:Nat) (u:qV),w.cell? ⟨b,n,none⟩=some u->wr.cell? ⟨b,n,none⟩=some u:=fun n u hu=>(hB.cell (p:=⟨b,n,none⟩) hb).trans hu
   replace c0:=xh _ _ c0
   replace c1:=xh _ _ c1
   replace c2:=xh _ _ c2
   replace c3:=xh _ _ c3
   replace c4:=xh _ _ c4
   replace c5:=xh _ _ c5
   replace c6:=xh _ _ c6
   have HB:=Zh hB
   have hq:=HN.out j y hy
   clear xh xG hB hy h3
   go_wp2_with (go_at_call 76;refine (Br.out y.name k z _ HB.out).mono ?_;rintro e w1 ⟨rfl,p,rfl⟩)
   refine ⟨⟨j+1,by simp,by omega,aG HB.out p⟩,by simp [intOf];omega⟩
theorem yef(v:qV)(l:List VarD)(s:qB)(xW: ∀(j:Nat) y,l[j]?=some y->eqB y.name s=false)(K:Nat)(w:qW)(h:VrsIn w v l)(hK:w.cell? ⟨K,0,none⟩=some (.string s))(yc:K<w.heap.size):
  qC 75 #[v,.func (.func 76) #[] #[pP K]] w (Gives w (.bool false)):=by
 have HI:=Zh (yb7 v l s xW K w h hK yc)
 obtain ⟨a,c,rfl, -⟩:=h
 clear xW hK
 go_enter Tryz.func75,Tryz.ntmps75
 go_wp2_with (go_at_call 119;(with_reducible refine HI.out.mono ?_);rintro e1 w1 ⟨rfl,p,rfl⟩)
 go_ret
 exact Gives.mk rfl (au _ _)
theorem eR{seen:List qB}{v:VarD}{m:List VarD}(h:varsOk seen (v::m)=true):nameB v.name=true/\keyw v.name=false/\(∀s∈seen,eqB s v.name=false)/\SoundF 66 v.type=0/\varsOk (seen++[v.name]) m=true:=by
 simp only [varsOk,za0,Bool.not_eq_true',zau] at h
 obtain ⟨⟨⟨⟨h1,h2⟩,h3⟩,h4⟩,h5⟩:=h
 refine ⟨h1,h2,fun s hs=>?_,h4,h5⟩
 rw [List.any_eq_false] at h3
 simpa using h3 s hs
theorem jq{l:List VarD}{j:Nat}{y:VarD}(hy:l[j]?=some y):(l.take (j+1)).map VarD.name=(l.take j).map VarD.name++[y.name]:=by
 rw [zaz,hy]
 simp
theorem nl{α:Type}{l:List α}{j:Nat}{y:α}(hy:l[j]?=some y):l.drop j=y::l.drop (j+1):=by
 obtain ⟨hl,e⟩:=List.getElem?_eq_some_iff.1 hy
 rw [zaS hl,e]
theorem pd(a:Option Addr)(c:Nat)(l:List VarD)(w:qW)(yo:SpT w)(h:VrsIn w (.slice a l.length c) l)(yA:l.length<=c)(xr:varsOk [] l=true)(hn:l.length<=32)(hs:(mapV 0 l).2<=65536):qC 49 #[.slice a l.length c] w (Gives w (iI 0)):=by
 have HV:=Zh h
 obtain ⟨a',c',he,hl,hc⟩:=h
 simp only [Value.slice.injEq,true_and] at he
 obtain ⟨rfl,rfl⟩:=he
 have HC:=Zh hc
 have zN:=Zh xr
 generalize hT:(mapV 0 l).2=T at*
 have HT:=Zh hT
 clear hc xr hT
 go_enter Tryz.func49,Tryz.ntmps49
 go_wp2_with fail
 go_loopw [3,14] (fun v3 v14 wr=> ∃(j:Nat) (at_:Int),v3=iI at_/\v14=iI j/\j<=l.length/\Below w.heap.size w wr/\0<=at_/\at_<=40*j/\Hid (varsOk ((l.take j).map VarD.name) (l.drop j)=true/\(mapV at_ (l.drop j)).2=T)) (fun v3 v14 _=>l.length-(intOf v14).toNat)
 case atStart=>exact ⟨0,0,rfl,rfl,zaB _,zaa _ _,by omega,by omega,Zh ⟨by simpa using zN.out,by simpa using HT.out⟩⟩
 case round=>
  obtain ⟨j,at_,rfl,rfl,hj,hB,h0,h1,hR⟩:=hrel
  rcases (by omega:j=l.length\/j<l.length) with h2|h2
  ·subst h2
   have HB:=Zh hB
   have y9:=hR.out.2
   rw [List.drop_length] at y9
   simp only [mapV] at y9
   subst y9
   clear hB hR
   go_wp2
   go_ret
   exact Gives.mk rfl HB.out
  ·obtain ⟨b,o,rfl,hb,xG⟩:=HC.out Za
   obtain ⟨y,hy⟩: ∃y,l[j]?=some y:=⟨l[j],zaC Za⟩
   obtain ⟨k,z,h3,h4,h5,c0,c1,c2,c3,c4,c5,c6⟩:=xG j y hy
   have zS:=hR.out
   rw [nl hy] at zS
   obtain ⟨g1,g2,g3,g4,g5⟩:=eR zS.1
   rw [<-jq hy] at g5
   rw [h3] at g4
   have xh: ∀(n:Nat) (u:qV),w.cell? ⟨b,n,none⟩=some u->wr.cell? ⟨b,n,none⟩=some u:=fun n u hu=>(hB.cell (p:=⟨b,n,none⟩) hb).trans hu
   replace c0:=xh _ _ c0
   replace c1:=xh _ _ c1
   replace c2:=xh _ _ c2
   replace c3:=xh _ _ c3
   replace c4:=xh _ _ c4
   replace c5:=xh _ _ c5
   replace c6:=xh _ _ c6
   have KU:=Zh (fun W=>(by have:=lA y.name (lB g1) W;rw [g1] at this;exact this:qC 74 #[.string y.name] W (Gives W (.bool true))))
   have yQ:=Zh (fun W (hW:Below w.heap.size w W)=>(by have:=dP y.name W (yo.below hW);rw [g2] at this;exact this:qC 41 #[.string y.name] W (Gives W (.bool false))))
   have QE:=Zh (fun W (hW:Below w.heap.size w W) hK yc=>yef (.slice (some ⟨b,o,none⟩) j c) (l.take j) y.name (fun i u hu=>g3 _ (List.mem_map.2 ⟨u,zat hu,rfl⟩)) wr.heap.size W ((HV.out.take j Za).below hW) hK yc)
   have Ia:=Zh (fun W=>oE k z h4 h5 g4 W)
   obtain ⟨yp,DA⟩:=eq g4
   unfold scV at Ia
   have HM:Hid (∀at',at'=(at_+z-1)/z*z+z->(mapV at' (l.drop (j+1))).2=T):=Zh (fun at' e=>by
    have:=zS.2
    simp only [mapV,h3] at this
    rw [e]
    exact this)
   have KZ:=Zh g5
   have HB:=Zh hB
   have FR:=hB.size
   clear xh xG hB hy h3 zS hR g1 g2 g3 g4 g5
   rcases DA with rfl|rfl|rfl|rfl|⟨rfl, -⟩
   all_goals
    go_wp2_with (first
     |(go_at_call 74;(with_reducible refine (KU.out _).mono ?_);rintro e1 w1 ⟨rfl,p1,rfl⟩)
     |(go_at_call 41;(with_reducible refine (yQ.out _ (by repeat (first|with_reducible exact HB.out|with_reducible apply ab|with_reducible apply ag|with_reducible apply aG))).mono ?_);rintro e1 w1 ⟨rfl,p2,rfl⟩)
     |(go_at_call 75;(with_reducible refine (QE.out _ (by repeat (first|with_reducible exact HB.out|with_reducible apply ab|with_reducible apply ag|with_reducible apply aG)) (by simp [go_sem,↓IntWalk.iteOmega]) ZR).mono ?_);rintro e1 w1 ⟨rfl,p3,rfl⟩)
     |(go_at_call 52;(with_reducible refine (Ia.out _).mono ?_);rintro e1 w1 ⟨rfl,p4,rfl⟩))
    refine ⟨⟨j+1,_,rfl,by simp,by omega,by repeat (first|with_reducible exact HB.out|with_reducible apply ab|with_reducible apply ag|with_reducible apply aG),?_,?_,Zh ⟨KZ.out,HM.out _ ?_⟩⟩,by simp [intOf];omega⟩
    all_goals omega
theorem iJ{p:PrgD}(h:cProg p=true):p.vars.length<=32/\1<=p.threads.length/\p.threads.length<=8/\varsOk [] p.vars=true/\(mapV 0 p.vars).2<=65536/\ ∀t∈p.threads,∃s,cBlock (fun y s=>cStmt p.vars 66 y 1 s) t ([],0)=some s:=by
 unfold cProg at h
 simp only [za0,zau,List.all_eq_true] at h
 obtain ⟨⟨⟨⟨⟨h1,h2⟩,h3⟩,h4⟩,h5⟩,h6⟩:=h
 exact ⟨h1,h2,h3,h4,h5,fun t ht=>Option.isSome_iff_exists.1 (h6 t ht)⟩
theorem ky(p:PrgD)(v1 v2:qV)(w:qW)(yo:SpT w)(h:PrgAt w okA v1 v2 p)(xr:cProg p=true):qC 29 #[.agg #[v1,v2]] w (Gives w (.agg #[iI 0,iI 0])):=by
 obtain ⟨n1,n2,n3,n4,n5,n6⟩:=iJ xr
 have Ba:=fR h.vars Za
 have yV:=h.threads
 obtain ⟨va,vc,rfl,Ju, -, -⟩:=h.vars
 obtain ⟨ta,tc,rfl,zJ, -,y8⟩:=yV
 have HV:=Zh (fun W (hW:Below w.heap.size w W)=>pd va vc p.vars W (yo.below hW) (Ba.below hW) Ju n4 n1 n5)
 have Jb:=Zh Ba
 have HE:=Zh y8
 have HN:=Zh n6
 clear Ba y8 n6 h xr n4 n5
 go_enter Tryz.func29,Tryz.ntmps29
 go_wp2_with (first
  |(go_at_call 49;(with_reducible refine (HV.out _ Zo).mono ?_);rintro e1 w1 ⟨rfl,p1,rfl⟩))
 go_loopw [34] (fun v34 wr=> ∃(j:Nat),v34=iI j/\j<=p.threads.length/\Below w.heap.size w wr/\w.heap.size+2<=wr.heap.size/\wr.heap[w.heap.size]?=some (.cells #[.slice va p.vars.length vc,.slice ta p.threads.length tc] 59 (0,0))/\wr.heap[w.heap.size+1]?=some (.cells #[iI 0,iI 0] 34 (0,0))) (fun v34 _=>p.threads.length-(intOf v34).toNat)
 case atStart=>
  refine ⟨0,rfl,zaB _,by repeat (first|with_reducible exact zaa _ _|with_reducible apply ab|with_reducible apply ag|with_reducible apply aG),by simp [go_sem],?_,?_⟩
  ·rw [ch _ _ _ Zk,zac _ _ Zg]
   exact zab _ _
  ·rw [ch _ _ _ Zg]
   simpa using zab (w.alloc (.cells #[.slice va p.vars.length vc,.slice ta p.threads.length tc] 59)) (.cells #[iI 0,iI 0] 34)
 case round=>
  obtain ⟨j,rfl,hj,hB,hz,k0,k1⟩:=hrel
  rcases (by omega:j=p.threads.length\/j<p.threads.length) with h2|h2
  ·subst h2
   have q0:=aa k0
   obtain ⟨W,hW,yr,xq,yB⟩: ∃W,wr=putB W (w.heap.size+1) #[iI 0,iI 0] 34/\Below w.heap.size w W/\w.heap.size+2<=W.heap.size/\ ∀i,W.cell? ⟨w.heap.size,i,none⟩=(#[.slice va p.vars.length vc,.slice ta p.threads.length tc]:Array qV)[i]?:=⟨wr,(bE k1).symm,hB,hz,q0⟩
   subst hW
   have HB:=Zh yr
   clear hB yr k0 k1 q0 hz
   go_wp2
   (try simp only [Exit.inBlock,Exit.then]);refine zad (by simp [results,Tryz.results29,go_sem,↓IntWalk.iteOmega];try rfl) rfl ?_
   refine Gives.mk rfl ?_
   have hb:=HB.out
   exact ⟨hb.os,hb.tape,hb.output,by rw [aN];exact hb.size,fun k hk=>by rw [aM,if_neg Za];exact hb.block k hk⟩
  ·have q0:=aa k0
   have AM:=Zh k0
   have Aa:=Zh k1
   obtain ⟨b,o,rfl, -,hb,xG⟩:=HE.out Za
   obtain ⟨y,hy⟩: ∃y,p.threads[j]?=some y:=⟨p.threads[j],zaC Za⟩
   obtain ⟨cs,xd,⟨tv,rfl,FV⟩,xm⟩:=xG j y hy
   obtain ⟨s,hs⟩:=HN.out y (zat hy)
   have c0:wr.cell? ⟨b,o+j*1,none⟩=some tv:=(hB.cell (p:=⟨b,_,none⟩) hb).trans (xm 0 _ rfl)
   rw [Nat.mul_one] at c0
   have xo: ∀W,Below w.heap.size w W->W.heap[wr.heap.size]?=some (.cells #[.slice va p.vars.length vc,.slice none 0 0,iI 0,iI 0,iI 0,iI 0] 142 (0,0))->qC 50 #[pP wr.heap.size,tv,iI 1] W (CkD w wr.heap.size W (.slice va p.vars.length vc) (.slice none 0 0) s p.vars):=fun W hW hk=>
    ye3 (w0:=w) 66 W (.slice none 0 0) [] 0 0 tv y 1 s ⟨⟨hk,zaX _ _ _ _⟩,Jb.out,hW,hB.size,by simp,yo⟩ Za Za hs FV
   have Ac:=Zh xo
   have HB:=Zh hB
   clear xG xm hy hs FV xo k0 k1 hB
   go_wp2_with (first
    |(go_at_call 50;(with_reducible refine (Ac.out _ (ab HB.out _) (zab _ _)).mono ?_);intro e1 w1 hD;obtain rfl:=hD.1;obtain ⟨-,lv2,line2,yv,xp, -⟩:=hD;have Dz:=Zh yv;have KY:=Zh xp;clear yv xp)
    |(go_at_call 51;(with_reducible refine (ckbad _ Dz.out.ck).mono ?_);rintro e2 w2 ⟨rfl,Fe⟩;subst Fe))
   have xp:=KY.out
   have yK:=xp.size
   simp only [ar] at yK
   have yF:=ab HB.out (.cells #[.slice va p.vars.length vc,.slice none 0 0,iI 0,iI 0,iI 0,iI 0] 142)
   refine ⟨⟨j+1,by simp,by omega,⟨xp.os.trans yF.os,xp.tape.trans yF.tape,xp.output.trans yF.output,by omega,fun k hk=>?_⟩,by omega,?_,?_⟩,by simp [intOf];omega⟩
   ·exact (xp.block k Zk (by simp [Value.ownBlock];omega)).trans (yF.block k hk)
   ·exact (xp.block w.heap.size Zk (by simp [Value.ownBlock];omega)).trans ((zac _ _ Za).trans AM.out)
   ·exact (xp.block (w.heap.size+1) Zk (by simp [Value.ownBlock];omega)).trans ((zac _ _ Za).trans Aa.out)
end Go.Proofs.YtjmfoeajhiimnaaGreatDoor
