/- Walks. No condition. -/
import Derived.Deep.RegionHeld3
import Derived.Test.YtcekjfmfcefjpaaGreatDoorG17
import Derived.Test.YtcekjfmfcefjpaaGreatDoorG32
set_option maxRecDepth 100000
set_option maxHeartbeats 0
set_option linter.all false
namespace Go.Proofs.YtcekjfmfcefjpaaGreatDoor
open Go.RowKit Go.Sort
theorem yc3(k tk tz:Int)(h:cFits k (scTy tk tz)=true)(w:qW):qC 192 #[iI k,scV tk tz] w (Gives w (.bool true)):=by
 have hc:((k=3\/k=14)/\tk=1)\/((k=5\/k=6)/\tk=2/\tz=16)\/(¬k=3/\ ¬k=14/\ ¬k=5/\ ¬k=6/\tk=2/\tz<=8):=by
  have e1:tyKind (scTy tk tz)=tk:=rfl
  have e2:tySize (scTy tk tz)=tz:=rfl
  unfold cFits at h
  rw [e1,e2] at h
  repeat' split at h
  all_goals (simp at h;omega)
 clear h
 unfold scV
 rcases hc with ⟨rfl|rfl,rfl⟩|⟨rfl|rfl,rfl,rfl⟩|⟨h1,h2,h3,h4,rfl,h5⟩
 all_goals
  go_enter Tryz.func192,Tryz.ntmps192
  go_wp2
  go_ret
  exact Gives.mk rfl Z25_
def StAt(w:qW)(v:qV)(l:List qB):Prop:= ∃a c,v= .slice a l.length c/\(0<l.length-> ∃b o,a=some ⟨b,o,none⟩/\ ∀i s,l[i]?=some s->w.cell? ⟨b,o+i,none⟩=some (.string s))
def idxS(l:List qB)(s:qB):Int:=match l.findIdx? (fun t=>eqB t s) with
 |some i=>i
 |none=> -1
theorem ybO{l:List qB}{s x:qB}{i:Nat}(hx:l[i]?=some x)(he:eqB x s=true)(xV: ∀j y,j<i->l[j]?=some y->eqB y s=false):idxS l s=i:=by
 have hl:=(List.getElem?_eq_some_iff.1 hx).1
 have:l.findIdx? (fun t=>eqB t s)=some i:=by
  rw [List.findIdx?_eq_some_iff_getElem]
  refine ⟨hl,by rw [(List.getElem?_eq_some_iff.1 hx).2];exact he,fun j hj=>by rw [xV j _ hj (zaC Za)];simp⟩
 unfold idxS
 rw [this]
theorem ybN{l:List qB}{s:qB}(xV: ∀(j:Nat) y,j<l.length->l[j]?=some y->eqB y s=false):idxS l s= -1:=by
 have:l.findIdx? (fun t=>eqB t s)=none:=by
  rw [List.findIdx?_eq_none_iff]
  intro x hx
  obtain ⟨j,hj,rfl⟩:=zaP hx
  exact xV j _ hj (zaC hj)
 unfold idxS
 rw [this]
theorem ybD(v:qV)(l:List qB)(s:qB)(hl:l.length<=1000000)(w:qW)(h:StAt w v l):qC 134 #[v,.string s] w fun e w'=>e= .returned (iI (idxS l s))/\w'=w:=by
 obtain ⟨a,c,rfl,hc⟩:=h
 have HC:=Zh hc
 clear hc
 go_enter Tryz.func134,Tryz.ntmps134
 go_wp2_with fail
 go_loopw [8] (fun v8 wr=>wr=w/\ ∃i:Nat,v8=iI i/\i<=l.length/\ ∀j y,j<i->l[j]?=some y->eqB y s=false) (fun v8 _=>l.length-(intOf v8).toNat)
 case atStart=>exact ⟨rfl,0,rfl,zaB _,fun j y hj=>by omega⟩
 case round=>
  obtain ⟨rfl,i,rfl,hi,xV⟩:=hrel
  have HN:=Zh xV
  clear xV
  rcases (by omega:i=l.length\/i<l.length) with h1|h1
  ·subst h1
   have HM:=Zh (ybN HN.out)
   go_wp2
   go_ret
   exact ⟨by rw [HM.out];rfl,rfl⟩
  ·obtain ⟨b,o,rfl,xC⟩:=HC.out Za
   obtain ⟨x,hx⟩: ∃x,l[i]?=some x:=⟨l[i],zaC h1⟩
   have xe:=xC i x hx
   have HX:=Zh hx
   clear hx xC
   have he:=(eqS s x)
   cases hq:eqB x s
   ·have zQ:eqB s x=false:=by rw [eqB,decide_eq_false_iff_not] at hq ⊢;exact fun e=>hq e.symm
    rw [zQ] at he
    have Hp:Hid (∀j y,j<i+1->l[j]?=some y->eqB y s=false):=Zh (fun j y hj hy=>by
     rcases zaJ j i with h2|h2
     ·exact HN.out j y h2 hy
     ·obtain rfl:j=i:=by omega
      rw [HX.out] at hy
      cases hy
      exact hq)
    go_wp2
    refine ⟨⟨trivial,i+1,by simp,by omega,Hp.out⟩,by simp [intOf];omega⟩
   ·have zQ:eqB s x=true:=by rw [eqB,zau] at hq ⊢;exact hq.symm
    rw [zQ] at he
    have HM:=Zh (ybO HX.out hq HN.out)
    go_wp2
    go_ret
    exact ⟨by rw [HM.out];rfl,rfl⟩
theorem ybP{l:List qB}{s:qB}:(decide (0<=idxS l s))=l.any (fun t=>eqB t s):=by
 unfold idxS
 rcases h:l.findIdx? (fun t=>eqB t s) with _|i
 ·rw [List.findIdx?_eq_none_iff] at h
  have:l.any (fun t=>eqB t s)=false:=by
   rw [List.any_eq_false]
   intro x hx
   simp [h x hx]
  rw [this]
  rfl
 ·rw [List.findIdx?_eq_some_iff_getElem] at h
  obtain ⟨hl,hx, -⟩:=h
  have:l.any (fun t=>eqB t s)=true:=List.any_eq_true.2 ⟨l[i],List.getElem_mem hl,hx⟩
  rw [this]
  simp
theorem ydU(v:qV)(l:List qB)(s:qB)(hl:l.length<=1000000)(w:qW)(h:StAt w v l):qC 93 #[v,.string s] w fun e w'=>e= .returned (.bool (l.any (fun t=>eqB t s)))/\w'=w:=by
 have HI:=Zh (ybD v l s hl w h)
 have HG:=Zh (ybP (l:=l) (s:=s))
 clear h
 generalize idxS l s=k at*
 go_enter Tryz.func93,Tryz.ntmps93
 go_wp2_with (go_at_call 134;refine (HI.out).mono ?_;rintro e w1 ⟨rfl,u'⟩;replace u':=u'.symm;subst u')
 go_ret
 exact ⟨by rw [<-HG.out];rfl,rfl⟩
structure CkAt(C:Nat)(W:qW)(vv lv:qV)(loc:List qB)(lets line:Int):Prop where
 out:W.heap[C]?=some (.cells #[vv,lv,iI lets,iI line,iI 0,iI 0] 167 (0,0))
 own:W.ownsRow (C+1) 9 1 lv loc.length (loc.map Value.string)
theorem CkAt.below{C:Nat}{W W':qW}{vv lv:qV}{loc:List qB}{lets line:Int}(h:CkAt C W vv lv loc lets line)(hb:Below W.heap.size W W'):CkAt C W' vv lv loc lets line:=
 ⟨(hb.block C (ac h.out)).trans h.out,aw h.own (fun g hg=>hb.block g (h.own.lt g hg).2)⟩
theorem CkAt.st{C:Nat}{W:qW}{vv lv:qV}{loc:List qB}{lets line:Int}(h:CkAt C W vv lv loc lets line):StAt W lv loc:=by
 rcases h.own.2 with ⟨rfl,h0⟩|⟨g,cap,cur,rfl,h2,h3,h4,h5,h6,h7⟩
 ·exact ⟨none,0,by rw [h0],fun hp=>by omega⟩
 ·refine ⟨_,_,rfl,fun hp=>⟨g,0,rfl,fun i s hi=>?_⟩⟩
  have hj:(loc.map Value.string)[i]?=some (.string s):=by rw [zaj,hi];rfl
  rw [<-h7,List.getElem?_take] at hj
  rw [aa h3]
  split at hj
  ·simpa using hj
  ·cases hj
theorem ckbad{C:Nat}{vv lv:qV}{loc:List qB}{lets line:Int}(w:qW)(h:CkAt C w vv lv loc lets line):qC 74 #[pP C] w fun e w'=>e= .returned (.bool false)/\w'=w:=by
 have hc:=aa h.out
 clear h
 go_enter Tryz.func74,Tryz.ntmps74
 go_wp2
 go_ret
 exact ⟨rfl,rfl⟩
theorem ckneed{C:Nat}(k:Int)(w:qW):qC 143 #[pP C,.bool true,iI k] w fun e w'=>e= .returned (.tuple #[])/\w'=w:=by
 go_enter Tryz.func143,Tryz.ntmps143
 go_wp2
 go_end0
 exact ⟨rfl,rfl⟩
theorem ckthere{C:Nat}{vv lv:qV}{loc:List qB}{lets line:Int}(s:qB)(hl:loc.length<=1000000)(w:qW)(h:CkAt C w vv lv loc lets line):qC 146 #[pP C,.string s] w fun e w'=>e= .returned (.bool (cThere loc s))/\w'=w:=by
 have hc:=aa h.out
 have HS:=Zh (ydU lv loc s hl w h.st)
 clear h
 go_enter Tryz.func146,Tryz.ntmps146
 go_wp2_with (go_at_call 93;refine (HS.out).mono ?_;rintro e w1 ⟨rfl,u'⟩;replace u':=u'.symm;subst u')
 go_ret
 exact ⟨rfl,rfl⟩
theorem ydF(k z:Int)(w:qW):qC 241 #[.agg #[iI k,iI z,.bool false,.slice none 0 0,iI 0,.slice none 0 0],iI 65] w (Gives w (iI 1)):=by
 go_enter Tryz.func241,Tryz.ntmps241
 go_wp2_with fail
 refine zao 1 ?_
 rw [zap]
 go_wp2_with fail
 refine zao 1 ?_
 rw [zap]
 go_wp2_with fail
 go_ret
 exact Gives.mk rfl Zr
theorem ydG(k z:Int)(w:qW):qC 194 #[.agg #[iI k,iI z,.bool false,.slice none 0 0,iI 0,.slice none 0 0]] w (Gives w (iI 1)):=by
 go_enter Tryz.func194,Tryz.ntmps194
 go_wp2_with fail
 refine (ydF k z _).mono ?_
 rintro e w1 ⟨rfl,p,rfl⟩
 go_wp2_with fail
 go_ret
 exact Gives.mk rfl Zr
theorem uI(k z:Int)(hk:k=1\/k=2)(w:qW):qC 242 #[.agg #[iI k,iI z,.bool false,.slice none 0 0,iI 0,.slice none 0 0]] w (Gives w (.bool true)):=by
 rcases hk with rfl|rfl
 all_goals
  go_enter Tryz.func242,Tryz.ntmps242
  go_wp2_with fail
  go_ret
  exact Gives.mk rfl Zr
theorem tn(z m:Int)(hz:z=1\/z=2\/z=4\/z=8)(hm:m=8\/m=16)(w:qW):qC 243 #[iI z,iI m] w (Gives w (.bool true)):=by
 rcases hz with rfl|rfl|rfl|rfl<;>rcases hm with rfl|rfl
 all_goals
  go_enter Tryz.func243,Tryz.ntmps243
  go_wp2_with fail
  go_ret
  exact Gives.mk (by rfl) Zr
theorem rh(k z:Int)(hk:k=1\/k=2)(hz:z=1\/z=2\/z=4\/z=8)(w:qW):qC 195 #[.agg #[iI k,iI z,.bool false,.slice none 0 0,iI 0,.slice none 0 0]] w (Gives w (iI 0)):=by
 have HO:=Zh (fun W=>uI k z hk W)
 have HP:=Zh (fun m hm W=>tn z m hz hm W)
 rcases hk with rfl|rfl
 all_goals
  go_enter Tryz.func195,Tryz.ntmps195
  go_wp2_with fail
  refine (HO.out _).mono ?_
  rintro e w1 ⟨rfl,p,rfl⟩
  go_wp2_with fail
  refine (HP.out _ Zg _).mono ?_
  rintro e w1 ⟨rfl,p2,rfl⟩
  go_wp2_with fail
  go_ret
  exact Gives.mk rfl Zr
theorem jz(k z:Int)(hk:rng k)(hz:rng z)(h:SoundF 66 (scTy k z)=0)(w:qW):qC 149 #[.agg #[iI k,iI z,.bool false,.slice none 0 0,iI 0,.slice none 0 0]] w (Gives w (iI 0)):=by
 have h2:(k=1\/k=2)/\(z=1\/z=2\/z=4\/z=8):=by
  have e:SoundF 66 (scTy k z)=if (k=1\/k=2)/\(z=1\/z=2\/z=4\/z=8) then 0 else 1:=rfl
  rw [e] at h
  split at h
  ·assumption
  ·cases h
 have HD:=Zh (fun W=>ydG k z W)
 have HS:=Zh (fun W=>rh k z h2.1 h2.2 W)
 clear h h2
 go_enter Tryz.func149,Tryz.ntmps149
 go_wp2_with fail
 refine (HD.out _).mono ?_
 rintro e w1 ⟨rfl,p,rfl⟩
 go_wp2_with fail
 refine (HS.out _).mono ?_
 rintro e w1 ⟨rfl,p2,rfl⟩
 go_wp2_with fail
 go_ret
 exact Gives.mk rfl Zr
theorem yd0(nm s:qB)(k z:Int)(K:Nat)(w:qW)(h:w.cell? ⟨K,0,none⟩=some (.string s))(hK:K<w.heap.size):qC 238 #[.agg #[.string nm,iI k,iI z,.bool false,.slice none 0 0,iI 0,.slice none 0 0],pP K] w (Gives w (.bool (eqB nm s))):=by
 have he:=eqS nm s
 go_enter Tryz.func238,Tryz.ntmps238
 go_wp2
 go_ret
 exact Gives.mk (by rw [<-he];rfl) Z25_
def VrsIn(w:qW)(v:qV)(l:List VarD):Prop:= ∃a c,v= .slice a l.length c/\l.length<=1000000/\(0<l.length-> ∃b o,a=some ⟨b,o,none⟩/\b<w.heap.size/\ ∀i x,l[i]?=some x-> ∃k z,x.type=scTy k z/\rng k/\rng z/\
 w.cell? ⟨b,o+i*7,none⟩=some (.string x.name)/\w.cell? ⟨b,o+i*7+1,none⟩=some (iI k)/\w.cell? ⟨b,o+i*7+2,none⟩=some (iI z)/\w.cell? ⟨b,o+i*7+3,none⟩=some (.bool false)/\
 w.cell? ⟨b,o+i*7+4,none⟩=some (.slice none 0 0)/\w.cell? ⟨b,o+i*7+5,none⟩=some (iI 0)/\w.cell? ⟨b,o+i*7+6,none⟩=some (.slice none 0 0))
theorem VrsIn.below{w w':qW}{v:qV}{l:List VarD}(h:VrsIn w v l)(hb:Below w.heap.size w w'):VrsIn w' v l:=by
 obtain ⟨a,c,rfl,hl,h⟩:=h
 refine ⟨a,c,rfl,hl,fun hp=>?_⟩
 obtain ⟨b,o,rfl,h1,h2⟩:=h hp
 refine ⟨b,o,rfl,zar h1 hb.size,fun i x hx=>?_⟩
 obtain ⟨k,z,h3,h4,h5,c0,c1,c2,c3,c4,c5,c6⟩:=h2 i x hx
 exact ⟨k,z,h3,h4,h5,(hb.cell (p:=⟨b,_,none⟩) h1).trans c0,(hb.cell (p:=⟨b,_,none⟩) h1).trans c1,(hb.cell (p:=⟨b,_,none⟩) h1).trans c2,(hb.cell (p:=⟨b,_,none⟩) h1).trans c3,(hb.cell (p:=⟨b,_,none⟩) h1).trans c4,(hb.cell (p:=⟨b,_,none⟩) h1).trans c5,(hb.cell (p:=⟨b,_,none⟩) h1).trans c6⟩
theorem yc6{l:List VarD}{s:qB}{v:VarD}(h:findV l s=some v): ∃i:Nat,l[i]?=some v/\eqB v.name s=true/\ ∀j y,j<i->l[j]?=some y->eqB y.name s=false:=by
 unfold findV at h
 rw [List.find?_eq_some_iff_getElem] at h
 obtain ⟨h1,i,hi,h2,h3⟩:=h
 refine ⟨i,by rw [zaC hi,h2],h1,fun j y hj hy=>?_⟩
 have:=h3 j hj
 obtain ⟨hl,rfl⟩:=List.getElem?_eq_some_iff.1 hy
 simpa using this
theorem ybA(v:qV)(l:List VarD)(s:qB)(x:VarD)(i:Nat)(hx:l[i]?=some x)(he:eqB x.name s=true)(xV: ∀j y,j<i->l[j]?=some y->eqB y.name s=false)(K:Nat)(w:qW)(h:VrsIn w v l)(hK:w.cell? ⟨K,0,none⟩=some (.string s))(xW:K<w.heap.size):
  qC 142 #[v,.func (.func 238) #[] #[pP K]] w (Gives w (iI i)):=by
 obtain ⟨a,c,rfl,hl,hc⟩:=h
 have HC:=Zh hc
 have HN:=Zh xV
 have HX:=Zh hx
 have HE:=Zh he
 have Fd:=(List.getElem?_eq_some_iff.1 hx).1
 have Bl:=Zh (fun nm k z (W:qW) (hW:Below w.heap.size w W)=>yd0 nm s k z K W ((hW.cell (p:=⟨K,0,none⟩) xW).trans hK) (zar xW hW.size))
 clear hc xV hx he hK
 go_enter Tryz.func142,Tryz.ntmps142
 go_wp2_with fail
 go_loopw [8] (fun v8 wr=> ∃j:Nat,v8=iI j/\j<=i/\Below w.heap.size w wr) (fun v8 _=>l.length-(intOf v8).toNat)
 case atStart=>exact ⟨0,rfl,zaB _,zaa _ _⟩
 case round=>
  obtain ⟨j,rfl,hj,hB⟩:=hrel
  obtain ⟨b,o,rfl,hb,xC⟩:=HC.out Za
  obtain ⟨y,hy⟩: ∃y,l[j]?=some y:=⟨l[j],zaC Za⟩
  obtain ⟨k,z,h3,h4,h5,c0,c1,c2,c3,c4,c5,c6⟩:=xC j y hy
  have wZ: ∀(n:Nat) (u:qV),w.cell? ⟨b,n,none⟩=some u->wr.cell? ⟨b,n,none⟩=some u:=fun n u hu=>(hB.cell (p:=⟨b,n,none⟩) hb).trans hu
  replace c0:=wZ _ _ c0
  replace c1:=wZ _ _ c1
  replace c2:=wZ _ _ c2
  replace c3:=wZ _ _ c3
  replace c4:=wZ _ _ c4
  replace c5:=wZ _ _ c5
  replace c6:=wZ _ _ c6
  have HB:=Zh hB
  have HY:=Zh hy
  clear wZ xC hB hy h3
  rcases (by omega:j=i\/j<i) with h1|h1
  ·subst h1
   obtain rfl:y=x:=zae (HY.out.symm.trans HX.out)
   have hq:=HE.out
   go_wp2_with (go_at_call 238;refine (Bl.out y.name k z _ HB.out).mono ?_;rintro e w1 ⟨rfl,p,rfl⟩)
   go_ret
   exact Gives.mk rfl (aF HB.out p)
  ·have hq:=HN.out j y h1 HY.out
   go_wp2_with (go_at_call 238;refine (Bl.out y.name k z _ HB.out).mono ?_;rintro e w1 ⟨rfl,p,rfl⟩)
   refine ⟨⟨j+1,by simp,by omega,aF HB.out p⟩,by simp [intOf];omega⟩
theorem tF(v:qV)(l:List VarD)(s:qB)(x:VarD)(hf:findV l s=some x)(hS:SoundF 66 x.type=0)(pa:Option Addr)(pc:Nat)(w:qW)(h:VrsIn w v l):
  qC 191 #[v,.agg #[.string s,.slice pa 0 pc]] w fun e w'=> ∃k z,x.type=scTy k z/\rng k/\rng z/\Gives w (.tuple #[scV k z,iI 0]) e w':=by
 obtain ⟨i,hx,he,xV⟩:=yc6 hf
 obtain ⟨a,c,rfl,hl,hc⟩:=h
 have Fd:=(List.getElem?_eq_some_iff.1 hx).1
 obtain ⟨b,o,rfl,hb,xC⟩:=hc Za
 obtain ⟨k,z,h3,h4,h5,c0,c1,c2,c3,c4,c5,c6⟩:=xC i x hx
 have HI:=Zh (fun K W (hB:Below w.heap.size w W) hK xW=>ybA (.slice (some ⟨b,o,none⟩) l.length c) l s x i hx he xV K W (VrsIn.below ⟨_,_,rfl,hl,hc⟩ hB) hK xW)
 have HS:=Zh (fun W=>jz k z h4 h5 (by rw [<-h3];exact hS) W)
 have H3:Hid (x.type=scTy k z/\rng k/\rng z):=Zh ⟨h3,h4,h5⟩
 clear hc xC hx he xV hf h3 hS
 go_enter Tryz.func191,Tryz.ntmps191
 go_wp2_with (first
  |(go_at_call 142;refine (HI.out _ _ (ab (ab (zaa _ _) _) _) ZG Zk).mono ?_;rintro e w1 ⟨rfl,p,rfl⟩)
  |(go_at_call 149;refine (HS.out _).mono ?_;rintro e w1 ⟨rfl,q,rfl⟩))
 refine zao 1 ?_
 rw [zap]
 go_wp2
 (try simp only [Exit.inBlock,Exit.then]);refine zad (by simp [results,Tryz.results191,go_sem,↓IntWalk.iteOmega];try rfl) rfl ?_
 refine ⟨k,z,H3.out.1,H3.out.2.1,H3.out.2.2,Gives.mk rfl Z4⟩
theorem ckplace{C:Nat}{vv lv:qV}{loc:List qB}{lets line:Int}(l:List VarD)(k d:Int)(var:qB)(parts:List PartD)(xo:plOk l k var parts=true)(pa:Option Addr)(pc:Nat)(w:qW)(h:CkAt C w vv lv loc lets line)(hv:VrsIn w vv l):
  qC 147 #[pP C,iI k,.agg #[.string var,.slice pa parts.length pc],iI d] w (Gives w (.tuple #[])):=by
 unfold plOk at xo
 rw [za0] at xo
 obtain ⟨hp,xo⟩:=xo
 rw [yam hp]
 clear hp
 rcases hf:findV l var with _|x
 ·rw [hf] at xo
  cases xo
 rw [hf] at xo
 simp only [za0,zau] at xo
 obtain ⟨hs,y9⟩:=xo
 have HP:=Zh (fun W (hB:Below w.heap.size w W)=>tF vv l var x hf hs pa pc W (hv.below hB))
 have HC:=Zh (fun W (hB:Below w.heap.size w W)=>h.below hB)
 have HF:=Zh y9
 have HD:=Zh (fun W (hB:Below w.heap.size w W)=>ckbad W (h.below hB))
 have c0:w.cell? ⟨C,0,none⟩=some vv:=aa h.out 0
 have hC:=ac h.out
 obtain ⟨va,vc,rfl,hl, -⟩:=hv
 clear hf hs y9 h
 simp only [zaV]
 go_enter Tryz.func147,Tryz.ntmps147
 go_wp2_with (go_at_call 74;refine (HD.out _ (ab (zaa _ _) _)).mono ?_;rintro e w1 ⟨rfl,u'⟩;subst u')
 go_region_held3 (fun W=>W.cell? ⟨C,0,none⟩=some (.slice va l.length vc)/\W.cell? ⟨w.heap.size,0,none⟩=some (.string var)/\W.cell? ⟨w.heap.size,1,none⟩=some (.slice pa 0 pc)) ((simp [go_sem,↓IntWalk.iteOmega,hC,c0];try omega)) (first|(go_simp;go_at_call 191;refine (HP.out _ (by repeat (first|with_reducible exact zaa _ _|with_reducible apply ab|with_reducible apply ag))).mono ?_;rintro e w1 ⟨tk,tz,ht,yh,yx,rfl,p,rfl⟩;unfold scV))
 all_goals
  have M2:=Zh (fun W=>yc3 k tk tz (by rw [<-ht];exact HF.out) W)
  unfold scV at M2
  clear ht
  go_wp2_with (first
   |(go_at_call 143;refine (ckneed _ _).mono ?_;rintro e w1 ⟨rfl,u'⟩;subst u')
   |(go_at_call 74;refine (HD.out _ Zr).mono ?_;rintro e w1 ⟨rfl,u'⟩;subst u')
   |(go_at_call 192;refine (M2.out _).mono ?_;rintro e w1 ⟨rfl,p2,rfl⟩))
  refine zao 1 ?_
  rw [zap]
  go_wp2
  go_end0
  exact Gives.mk rfl Zr
abbrev okA:Nat->Prop:=fun _=>True
def XCk(C:Nat)(vv lv:qV)(loc:List qB)(lets line:Int)(vs:List VarD)(n:Nat):Prop:= ∀(w:qW) (e:Ex) (d:Int) (pa ka:Option Addr) (pc kc:Nat),CkAt C w vv lv loc lets line->VrsIn w vv vs->0<=d->d<=1000->
 xOk vs loc n e d=true->ExAt w okA n e [iI e.kind,.int .u64 e.n,.string e.name,iI e.op,iI e.order,.string e.var,.slice pa e.parts.length pc,.slice ka e.kids.length kc]->qC 193 #[pP C,.agg #[iI e.kind,.int .u64 e.n,.string e.name,iI e.op,iI e.order,.string e.var,.slice pa e.parts.length pc,.slice ka e.kids.length kc],iI d] w (Gives w (.tuple #[]))
theorem iq{w:qW}{ok:Nat->Prop}{n:Nat}{e:Ex}{cs:List qV}(h:ExAt w ok n e cs): ∃pa pc ka kc,cs=[iI e.kind,.int .u64 e.n,.string e.name,iI e.op,iI e.order,.string e.var,.slice pa e.parts.length pc,.slice ka e.kids.length kc]/\rng e.kind/\rng e.op/\rng e.order/\e.n<18446744073709551616:=by
 match n,h with
 |n+1,⟨pv,kv,h1,h2,h3,h4,h5,h6,h7⟩=>
  obtain ⟨pa,pc,rfl, -⟩:=h2
  obtain ⟨ka,kc,rfl, -⟩:=h3
  exact ⟨pa,pc,ka,kc,h1,h4,h6,h7,h5⟩
theorem ExAt.below{w w':qW}{n:Nat}{e:Ex}{cs:List qV}(h:ExAt w okA n e cs)(hb:Below w.heap.size w w'):ExAt w' okA n e cs:=ExAt.keep hb.size (fun b _ hl=>⟨trivial,hb.block b hl⟩) n e cs h
theorem jQ{w w':qW}{n:Nat}{v:qV}{l:List Ex}(h:RwAt w okA 8 (ExAt w okA n) v l)(hb:Below w.heap.size w w'):RwAt w' okA 8 (ExAt w' okA n) v l:=h.keep hb.size (fun b _ hl=>⟨trivial,hb.block b hl⟩) (fun x _ cs hx=>ExAt.below hx hb)
theorem mW{C:Nat}{vv lv:qV}{loc:List qB}{lets line:Int}{vs:List VarD}{n:Nat}(HX:XCk C vv lv loc lets line vs n)(w:qW)(v:qV)(l:List Ex)(d:Int)(hc:CkAt C w vv lv loc lets line)(hv:VrsIn w vv vs)(h0:0<=d)(h1:d<=900)(hl:l.length<=1000000)
  (xo:l.all (fun x=>xOk vs loc n x (d+1))=true) (hr:RwAt w okA 8 (ExAt w okA n) v l):qC 148 #[pP C,v,iI d] w (Gives w (.tuple #[])):=by
 obtain ⟨a,c,rfl,g1,g2,g3⟩:=hr
 have HR:=Zh g3
 have H':=Zh hc
 have HV:=Zh hv
 have zK:=Zh xo
 have HXX:=Zh HX
 have u':IntKind.i64.wrap (d+1)=d+1:=cW h0 Za
 have HD:=Zh (fun W (hB:Below w.heap.size w W)=>ckbad W (hc.below hB))
 clear g3 hc hv xo HX
 go_enter Tryz.func148,Tryz.ntmps148
 go_wp2_with fail
 go_loopw [10] (fun v10 wr=> ∃j:Nat,v10=iI j/\j<=l.length/\Below w.heap.size w wr) (fun v10 _=>l.length-(intOf v10).toNat)
 case atStart=>exact ⟨0,rfl,zaB _,zaa _ _⟩
 case round=>
  obtain ⟨j,rfl,hj,hB⟩:=hrel
  have HB:=Zh hB
  rcases (by omega:j=l.length\/j<l.length) with h2|h2
  ·subst h2
   clear hB
   go_wp2
   go_end0
   exact Gives.mk rfl HB.out
  ·obtain ⟨b,o,rfl, -,hb,yU⟩:=HR.out Za
   obtain ⟨y,hy⟩: ∃y,l[j]?=some y:=⟨l[j],zaC h2⟩
   obtain ⟨cs,wX,hE,xC⟩:=yU j y hy
   obtain ⟨pa,pc,ka,kc,rfl,r1,r2,r3,r4⟩:=iq hE
   have wZ: ∀(i:Nat) (u:qV),([iI y.kind,.int .u64 y.n,.string y.name,iI y.op,iI y.order,.string y.var,.slice pa y.parts.length pc,.slice ka y.kids.length kc]:List qV)[i]?=some u->wr.cell? ⟨b,o+j*8+i,none⟩=some u:=fun i u hu=>(hB.cell (p:=⟨b,_,none⟩) hb).trans (xC i u hu)
   have c0:=wZ 0 _ rfl
   have c1:=wZ 1 _ rfl
   have c2:=wZ 2 _ rfl
   have c3:=wZ 3 _ rfl
   have c4:=wZ 4 _ rfl
   have c5:=wZ 5 _ rfl
   have c6:=wZ 6 _ rfl
   have c7:=wZ 7 _ rfl
   simp only [Nat.add_zero] at c0
   have KS:=Zh (fun W (hW:Below w.heap.size w W)=>HXX.out W y (d+1) pa ka pc kc (H'.out.below hW) (HV.out.below hW) Za Za (List.all_eq_true.1 zK.out y (zat hy)) (hE.below hW))
   clear wZ xC hE yU hB hy wX
   go_wp2_with (first
    |(go_at_call 74;refine (HD.out _ Z50_).mono ?_;rintro e w1 ⟨rfl,u'⟩;subst u')
    |(go_at_call 193;refine (KS.out _ Z50_).mono ?_;rintro e w1 ⟨rfl,p,rfl⟩))
   refine ⟨⟨j+1,by simp,by omega,Z50_⟩,by simp [intOf];omega⟩
section
variable{w0 W W':qW}{M a b c:Nat}{vv wv:qV}{s:LS}
theorem kX(w:qW)(h:Mk w0 M a b c vv wv w s)(n:Nat)(hf:LFin (lNumber n s).2):qC 251 #[pP M,.int .u64 n] w (MkD w0 M a b c vv wv w (lNumber n s).2 (iI (lNumber n s).1)):=by
 obtain ⟨ov,sv,lv,i',pi⟩:=h.rules
 have j':=h.bd
 have xX:=j'
 have HM:=Zh (MkA.begin h)
 have xR:LFin (lFresh s):=(LLe.add _ _).fin hf
 clear h
 go_enter Tryz.func251,Tryz.ntmps251
 go_wp2_with (first
  |(go_at_call 208;refine (cn _ _).mono ?_;rintro e w1 ⟨rfl,p,rfl⟩)
  |(go_at_call 202;refine (eA _ (Zj:MkA _ _ _ _ _ _ _ w _ _ _ _ _).mkr xR).mono ?_;intro e w1 hD;have hN:=MkA.nx hD Zj;clear hD HM;(try clear i' pi);obtain ⟨rfl,a1,b1,c1,ov,sv,lv,i',pi,j',HM,hm,hT,hrel⟩:=hN;(try simp only [Zz] at hrel hm);(repeat ((first|((first|(with_reducible obtain ⟨hx,hy,wV,hT⟩:=ak (lo:=w.heap.size) hT Zo hrel Zc Zf)|(with_reducible obtain ⟨hx,hy,wV,hT⟩:=aj (lo:=w.heap.size) hT Zx hrel Zc Zf));(try simp only [Zz] at hx hy wV);rw [hx];clear hx)|(with_reducible replace hT:=hT.unmo)|(with_reducible replace hT:=hT.undr))));clear hT hrel)
  |(go_at_call 210;refine (cC (s:=lFresh s) _ (Zj:MkA _ _ _ _ _ _ _ w _ _ _ _ _).mkr {kind:=1,dst:=s.regs,n:=n} hf).mono ?_;intro e w1 hD;have hN:=MkA.nx hD Zj;clear hD HM;(try clear i' pi);obtain ⟨rfl,a1,b1,c1,ov,sv,lv,i',pi,j',HM,hm,hT,hrel⟩:=hN;(try simp only [Zz] at hrel hm);(repeat ((first|((first|(with_reducible obtain ⟨hx,hy,wV,hT⟩:=ak (lo:=w.heap.size) hT Zo hrel Zc Zf)|(with_reducible obtain ⟨hx,hy,wV,hT⟩:=aj (lo:=w.heap.size) hT Zx hrel Zc Zf));(try simp only [Zz] at hx hy wV);rw [hx];clear hx)|(with_reducible replace hT:=hT.unmo)|(with_reducible replace hT:=hT.undr))));clear hT hrel))
 go_ret
 exact ZP
theorem yeE(w:qW)(h:Mk w0 M a b c vv wv w s)(op x y:Int)(hf:LFin (lBin op x y s).2):qC 252 #[pP M,iI op,iI x,iI y] w (MkD w0 M a b c vv wv w (lBin op x y s).2 (iI (lBin op x y s).1)):=by
 obtain ⟨ov,sv,lv,i',pi⟩:=h.rules
 have j':=h.bd
 have xX:=j'
 have HM:=Zh (MkA.begin h)
 have xR:LFin (lFresh s):=(LLe.add _ _).fin hf
 clear h
 go_enter Tryz.func252,Tryz.ntmps252
 go_wp2_with (first
  |(go_at_call 208;refine (cn _ _).mono ?_;rintro e w1 ⟨rfl,p,rfl⟩)
  |(go_at_call 202;refine (eA _ (Zj:MkA _ _ _ _ _ _ _ w _ _ _ _ _).mkr xR).mono ?_;intro e w1 hD;have hN:=MkA.nx hD Zj;clear hD HM;(try clear i' pi);obtain ⟨rfl,a1,b1,c1,ov,sv,lv,i',pi,j',HM,hm,hT,hrel⟩:=hN;(try simp only [Zz] at hrel hm);(repeat ((first|((first|(with_reducible obtain ⟨hx,hy,wV,hT⟩:=ak (lo:=w.heap.size) hT Zo hrel Zc Zf)|(with_reducible obtain ⟨hx,hy,wV,hT⟩:=aj (lo:=w.heap.size) hT Zx hrel Zc Zf));(try simp only [Zz] at hx hy wV);rw [hx];clear hx)|(with_reducible replace hT:=hT.unmo)|(with_reducible replace hT:=hT.undr))));clear hT hrel)
  |(go_at_call 210;refine (cC (s:=lFresh s) _ (Zj:MkA _ _ _ _ _ _ _ w _ _ _ _ _).mkr {kind:=3,dst:=s.regs,op:=op,a:=x,b:=y} hf).mono ?_;intro e w1 hD;have hN:=MkA.nx hD Zj;clear hD HM;(try clear i' pi);obtain ⟨rfl,a1,b1,c1,ov,sv,lv,i',pi,j',HM,hm,hT,hrel⟩:=hN;(try simp only [Zz] at hrel hm);(repeat ((first|((first|(with_reducible obtain ⟨hx,hy,wV,hT⟩:=ak (lo:=w.heap.size) hT Zo hrel Zc Zf)|(with_reducible obtain ⟨hx,hy,wV,hT⟩:=aj (lo:=w.heap.size) hT Zx hrel Zc Zf));(try simp only [Zz] at hx hy wV);rw [hx];clear hx)|(with_reducible replace hT:=hT.unmo)|(with_reducible replace hT:=hT.undr))));clear hT hrel))
 go_ret
 exact ZP
theorem jF(w:qW)(h:Mk w0 M a b c vv wv w s)(r x:Int)(hf:LFin (lSet r x s)):qC 203 #[pP M,iI r,iI x] w (MkD w0 M a b c vv wv w (lSet r x s) (.tuple #[])):=by
 obtain ⟨ov,sv,lv,i',pi⟩:=h.rules
 have j':=h.bd
 have xX:=j'
 have HM:=Zh (MkA.begin h)
 clear h
 go_enter Tryz.func203,Tryz.ntmps203
 go_wp2_with (first
  |(go_at_call 208;refine (cn _ _).mono ?_;rintro e w1 ⟨rfl,p,rfl⟩)
  |(go_at_call 210;refine (cC (s:=s) _ (Zj:MkA _ _ _ _ _ _ _ w _ _ _ _ _).mkr {kind:=2,dst:=r,a:=x} hf).mono ?_;intro e w1 hD;have hN:=MkA.nx hD Zj;clear hD HM;(try clear i' pi);obtain ⟨rfl,a1,b1,c1,ov,sv,lv,i',pi,j',HM,hm,hT,hrel⟩:=hN;(try simp only [Zz] at hrel hm);(repeat ((first|((first|(with_reducible obtain ⟨hx,hy,wV,hT⟩:=ak (lo:=w.heap.size) hT Zo hrel Zc Zf)|(with_reducible obtain ⟨hx,hy,wV,hT⟩:=aj (lo:=w.heap.size) hT Zx hrel Zc Zf));(try simp only [Zz] at hx hy wV);rw [hx];clear hx)|(with_reducible replace hT:=hT.unmo)|(with_reducible replace hT:=hT.undr))));clear hT hrel))
 go_end0
 exact ZP
theorem fj(w:qW)(h:Mk w0 M a b c vv wv w s)(n:Int)(hf:LFin (lMark n s)):qC 265 #[pP M,iI n] w (MkD w0 M a b c vv wv w (lMark n s) (.tuple #[])):=by
 obtain ⟨ov,sv,lv,i',pi⟩:=h.rules
 have j':=h.bd
 have xX:=j'
 have HM:=Zh (MkA.begin h)
 clear h
 go_enter Tryz.func265,Tryz.ntmps265
 go_wp2_with (first
  |(go_at_call 208;refine (cn _ _).mono ?_;rintro e w1 ⟨rfl,p,rfl⟩)
  |(go_at_call 210;refine (cC (s:=s) _ (Zj:MkA _ _ _ _ _ _ _ w _ _ _ _ _).mkr ⟨14, -1, -1, -1, -1, -1,0,0,0,0,n,0,0⟩ hf).mono ?_;intro e w1 hD;have hN:=MkA.nx hD Zj;clear hD HM;(try clear i' pi);obtain ⟨rfl,a1,b1,c1,ov,sv,lv,i',pi,j',HM,hm,hT,hrel⟩:=hN;(try simp only [Zz] at hrel hm);(repeat ((first|((first|(with_reducible obtain ⟨hx,hy,wV,hT⟩:=ak (lo:=w.heap.size) hT Zo hrel Zc Zf)|(with_reducible obtain ⟨hx,hy,wV,hT⟩:=aj (lo:=w.heap.size) hT Zx hrel Zc Zf));(try simp only [Zz] at hx hy wV);rw [hx];clear hx)|(with_reducible replace hT:=hT.unmo)|(with_reducible replace hT:=hT.undr))));clear hT hrel))
 go_end0
 exact ZP
theorem fs(w:qW)(h:Mk w0 M a b c vv wv w s)(t r:Int)(hf:LFin (lJump t r s)):qC 264 #[pP M,iI t,iI r] w (MkD w0 M a b c vv wv w (lJump t r s) (.tuple #[])):=by
 obtain ⟨ov,sv,lv,i',pi⟩:=h.rules
 have j':=h.bd
 have xX:=j'
 have HM:=Zh (MkA.begin h)
 clear h
 by_cases hr:r= -1
 ·subst hr
  have e:lJump t (-1) s=lAdd ⟨15, -1, -1, -1, -1, -1,0,0,0,0,t,0,0⟩ s:=rfl
  rw [e] at hf ⊢
  go_enter Tryz.func264,Tryz.ntmps264
  go_wp2_with (first
   |(go_at_call 208;refine (cn _ _).mono ?_;rintro e w1 ⟨rfl,p,rfl⟩)
   |(go_at_call 210;refine (cC (s:=s) _ (Zj:MkA _ _ _ _ _ _ _ w _ _ _ _ _).mkr ⟨15, -1, -1, -1, -1, -1,0,0,0,0,t,0,0⟩ hf).mono ?_;intro e w1 hD;have hN:=MkA.nx hD Zj;clear hD HM;(try clear i' pi);obtain ⟨rfl,a1,b1,c1,ov,sv,lv,i',pi,j',HM,hm,hT,hrel⟩:=hN;(try simp only [Zz] at hrel hm);(repeat ((first|((first|(with_reducible obtain ⟨hx,hy,wV,hT⟩:=ak (lo:=w.heap.size) hT Zo hrel Zc Zf)|(with_reducible obtain ⟨hx,hy,wV,hT⟩:=aj (lo:=w.heap.size) hT Zx hrel Zc Zf));(try simp only [Zz] at hx hy wV);rw [hx];clear hx)|(with_reducible replace hT:=hT.unmo)|(with_reducible replace hT:=hT.undr))));clear hT hrel))
  go_end0
  exact ZP
 ·have e:lJump t r s=lAdd ⟨16, -1, -1,r, -1, -1,0,0,0,0,t,0,0⟩ s:=if_neg hr
  rw [e] at hf ⊢
  go_enter Tryz.func264,Tryz.ntmps264
  go_wp2_with (first
   |(go_at_call 208;refine (cn _ _).mono ?_;rintro e w1 ⟨rfl,p,rfl⟩)
   |(go_at_call 210;refine (cC (s:=s) _ (Zj:MkA _ _ _ _ _ _ _ w _ _ _ _ _).mkr ⟨16, -1, -1,r, -1, -1,0,0,0,0,t,0,0⟩ hf).mono ?_;intro e w1 hD;have hN:=MkA.nx hD Zj;clear hD HM;(try clear i' pi);obtain ⟨rfl,a1,b1,c1,ov,sv,lv,i',pi,j',HM,hm,hT,hrel⟩:=hN;(try simp only [Zz] at hrel hm);(repeat ((first|((first|(with_reducible obtain ⟨hx,hy,wV,hT⟩:=ak (lo:=w.heap.size) hT Zo hrel Zc Zf)|(with_reducible obtain ⟨hx,hy,wV,hT⟩:=aj (lo:=w.heap.size) hT Zx hrel Zc Zf));(try simp only [Zz] at hx hy wV);rw [hx];clear hx)|(with_reducible replace hT:=hT.unmo)|(with_reducible replace hT:=hT.undr))));clear hT hrel))
  go_end0
  exact ZP
end
theorem yde{C:Nat}{vv lv:qV}{loc:List qB}{lets line:Int}{vs:List VarD}(AP:loc.length<=1000000){n:Nat}(HX:XCk C vv lv loc lets line vs n):XCk C vv lv loc lets line vs (n+1):=by
 intro w e d pa ka pc kc hc hv h0 h1 xo hE
 unfold xOk at xo
 simp only [za0,zau,zak,Bool.not_eq_true',decide_eq_false_iff_not] at xo
 obtain ⟨⟨⟨⟨⟨hd,hf⟩,ho⟩,xT⟩,A9⟩,DW⟩:=xo
 obtain ⟨-, -, -, -,r1,r2,r3,r4⟩:=iq hE
 obtain ⟨pv,kv,e1,hP,hK, -⟩:=hE
 simp only [List.cons.injEq,and_true,true_and] at e1
 obtain ⟨rfl,rfl⟩:=e1
 have BV:1<=e.kind/\e.kind<=8:=by
  unfold cFormed at hf
  simp only [za0,zau] at hf
  exact ⟨hf.1.1.1.1.1.1,hf.1.1.1.1.1.2⟩
 have zj:e.kids.length<=1000000:=by
  unfold cFormed cKids at hf
  simp only [za0,zau] at hf
  have:=hf.2
  repeat' split at this
  all_goals omega
 have HN:=Zh (fun (k:Int) (W:qW)=>ckneed (C:=C) k W)
 have HD:=Zh (fun W (hB:Below w.heap.size w W)=>ckbad W (hc.below hB))
 have HF:=Zh (fun W=>ycN e hf pa ka pc kc W)
 have HO:=Zh (fun W=>kQ (10+e.kind) e.order ho W)
 have HT:=Zh (fun W (hB:Below w.heap.size w W)=>ckthere e.name AP W (hc.below hB))
 have By:=Zh (fun (h:plOk vs (10+e.kind) e.var e.parts=true) W (hB:Below w.heap.size w W)=>ckplace vs (10+e.kind) d e.var e.parts h pa pc W (hc.below hB) (hv.below hB))
 have G9:=Zh (fun W (hB:Below w.heap.size w W)=>mW HX W (.slice ka e.kids.length kc) e.kids d (hc.below hB) (hv.below hB) h0 Za zj DW (jQ hK hB))
 have hw:IntKind.i64.wrap (10+e.kind)=10+e.kind:=IntWalk.i64_in _ Za
 have BA:=Zh xT
 have HK4:=Zh A9
 clear hc hv hf ho DW hP hK xT A9 HX
 rcases (by omega:e.kind=2\/4<=e.kind\/(¬e.kind=2/\e.kind<4)) with hq|hq|⟨hq,zQ⟩
 ·have ht:cThere loc e.name=true:=by
   rcases BA.out with h|h
   ·exact absurd hq h
   ·exact h
  rw [ht] at HT
  have b1:(e.kind==2)=true:=by simp [hq]
  have b2:decide (e.kind=2)=true:=by simp [hq]
  have hq4:e.kind<4:=by omega
  have HQ:=Zh hq
  clear ht hq BV
  go_enter Tryz.func193,Tryz.ntmps193
  go_wp2_with (first
   |(go_at_call 143;(with_reducible refine (HN.out _ _).mono ?_);rintro e1 w1 ⟨rfl,u'⟩;subst u')
   |(go_at_call 74;(with_reducible refine (HD.out _ Zr).mono ?_);rintro e1 w1 ⟨rfl,u'⟩;subst u')
   |(go_at_call 240;(with_reducible refine (HF.out _).mono ?_);rintro e1 w1 ⟨rfl,p,rfl⟩)
   |(go_at_call 145;(with_reducible refine (HO.out _).mono ?_);rintro e1 w1 ⟨rfl,u'⟩;subst u')
   |(go_at_call 146;(with_reducible refine (HT.out _ Zr).mono ?_);rintro e1 w1 ⟨rfl,u'⟩;subst u')
   |(go_at_call 148;(with_reducible refine (G9.out _ Zr).mono ?_);rintro e1 w1 ⟨rfl,p3,rfl⟩))
  go_end0
  exact Gives.mk rfl Zr
 ·have hp:=HK4.out.resolve_left (fun h=>h hq)
  have EU:=Zh (By.out hp)
  have zQ: ¬e.kind=2:=by omega
  clear hp
  go_enter Tryz.func193,Tryz.ntmps193
  go_wp2_with (first
   |(go_at_call 143;(with_reducible refine (HN.out _ _).mono ?_);rintro e1 w1 ⟨rfl,u'⟩;subst u')
   |(go_at_call 74;(with_reducible refine (HD.out _ Zr).mono ?_);rintro e1 w1 ⟨rfl,u'⟩;subst u')
   |(go_at_call 240;(with_reducible refine (HF.out _).mono ?_);rintro e1 w1 ⟨rfl,p,rfl⟩)
   |(go_at_call 145;(with_reducible refine (HO.out _).mono ?_);rintro e1 w1 ⟨rfl,u'⟩;subst u')
   |(go_at_call 147;(with_reducible refine (EU.out _ Zr).mono ?_);rintro e1 w1 ⟨rfl,p2,rfl⟩)
   |(go_at_call 148;(with_reducible refine (G9.out _ Zr).mono ?_);rintro e1 w1 ⟨rfl,p3,rfl⟩))
  go_end0
  exact Gives.mk rfl Zr
 ·go_enter Tryz.func193,Tryz.ntmps193
  go_wp2_with (first
   |(go_at_call 143;(with_reducible refine (HN.out _ _).mono ?_);rintro e1 w1 ⟨rfl,u'⟩;subst u')
   |(go_at_call 74;(with_reducible refine (HD.out _ Zr).mono ?_);rintro e1 w1 ⟨rfl,u'⟩;subst u')
   |(go_at_call 240;(with_reducible refine (HF.out _).mono ?_);rintro e1 w1 ⟨rfl,p,rfl⟩)
   |(go_at_call 145;(with_reducible refine (HO.out _).mono ?_);rintro e1 w1 ⟨rfl,u'⟩;subst u')
   |(go_at_call 148;(with_reducible refine (G9.out _ Zr).mono ?_);rintro e1 w1 ⟨rfl,p3,rfl⟩))
  go_end0
  exact Gives.mk rfl Zr
theorem iL{C:Nat}{vv lv:qV}{loc:List qB}{lets line:Int}{vs:List VarD}(AP:loc.length<=1000000): ∀n,XCk C vv lv loc lets line vs n
 |0=>fun w e d pa ka pc kc _ _ _ _ xo _=>by simp [xOk] at xo
 |n+1=>yde AP (iL AP n)
end Go.Proofs.YtcekjfmfcefjpaaGreatDoor
