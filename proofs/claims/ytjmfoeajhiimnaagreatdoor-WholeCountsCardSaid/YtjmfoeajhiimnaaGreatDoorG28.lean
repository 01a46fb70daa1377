/- Walks. No condition. -/
import Derived.Deep.RegionHeld3
import Derived.Test.YtjmfoeajhiimnaaGreatDoorG27
set_option maxRecDepth 100000
set_option maxHeartbeats 0
set_option linter.all false
namespace Go.Proofs.YtjmfoeajhiimnaaGreatDoor
open Go.RowKit Go.Sort
theorem ydL(k z:Int)(w:qW):qC 240 #[.agg #[iI k,iI z,.bool false,.slice none 0 0,iI 0,.slice none 0 0],iI 65] w (Gives w (iI 1)):=by
 go_enter Tryz.func240,Tryz.ntmps240
 go_wp2_with fail
 refine zao 1 ?_
 rw [zap]
 go_wp2_with fail
 refine zao 1 ?_
 rw [zap]
 go_wp2_with fail
 go_ret
 exact Gives.mk rfl Zo
theorem ydM(k z:Int)(w:qW):qC 187 #[.agg #[iI k,iI z,.bool false,.slice none 0 0,iI 0,.slice none 0 0]] w (Gives w (iI 1)):=by
 go_enter Tryz.func187,Tryz.ntmps187
 go_wp2_with fail
 refine (ydL k z _).mono ?_
 rintro e w1 ⟨rfl,p,rfl⟩
 go_wp2_with fail
 go_ret
 exact Gives.mk rfl Zo
theorem vq(k z:Int)(hk:k=1\/k=2)(w:qW):qC 241 #[.agg #[iI k,iI z,.bool false,.slice none 0 0,iI 0,.slice none 0 0]] w (Gives w (.bool true)):=by
 rcases hk with rfl|rfl
 all_goals
  go_enter Tryz.func241,Tryz.ntmps241
  go_wp2_with fail
  go_ret
  exact Gives.mk rfl Zo
theorem t5(z m:Int)(hz:z=1\/z=2\/z=4\/z=8)(hm:m=8\/m=16)(w:qW):qC 242 #[iI z,iI m] w (Gives w (.bool true)):=by
 rcases hz with rfl|rfl|rfl|rfl<;>rcases hm with rfl|rfl
 all_goals
  go_enter Tryz.func242,Tryz.ntmps242
  go_wp2_with fail
  go_ret
  exact Gives.mk (by rfl) Zo
theorem rH(k z:Int)(hk:k=1\/k=2)(hz:z=1\/z=2\/z=4\/z=8)(w:qW):qC 188 #[.agg #[iI k,iI z,.bool false,.slice none 0 0,iI 0,.slice none 0 0]] w (Gives w (iI 0)):=by
 have HO:=Zh (fun W=>vq k z hk W)
 have HP:=Zh (fun m hm W=>t5 z m hz hm W)
 rcases hk with rfl|rfl
 all_goals
  go_enter Tryz.func188,Tryz.ntmps188
  go_wp2_with fail
  refine (HO.out _).mono ?_
  rintro e w1 ⟨rfl,p,rfl⟩
  go_wp2_with fail
  refine (HP.out _ Zd _).mono ?_
  rintro e w1 ⟨rfl,p2,rfl⟩
  go_wp2_with fail
  go_ret
  exact Gives.mk rfl Zo
theorem jD(k z:Int)(hk:rng k)(hz:rng z)(h:SoundF 66 (scTy k z)=0)(w:qW):qC 126 #[.agg #[iI k,iI z,.bool false,.slice none 0 0,iI 0,.slice none 0 0]] w (Gives w (iI 0)):=by
 have h2:(k=1\/k=2)/\(z=1\/z=2\/z=4\/z=8):=by
  have e:SoundF 66 (scTy k z)=if (k=1\/k=2)/\(z=1\/z=2\/z=4\/z=8) then 0 else 1:=rfl
  rw [e] at h
  split at h
  ·assumption
  ·cases h
 have HD:=Zh (fun W=>ydM k z W)
 have HS:=Zh (fun W=>rH k z h2.1 h2.2 W)
 clear h h2
 go_enter Tryz.func126,Tryz.ntmps126
 go_wp2_with fail
 refine (HD.out _).mono ?_
 rintro e w1 ⟨rfl,p,rfl⟩
 go_wp2_with fail
 refine (HS.out _).mono ?_
 rintro e w1 ⟨rfl,p2,rfl⟩
 go_wp2_with fail
 go_ret
 exact Gives.mk rfl Zo
theorem yek(nm s:qB)(k z:Int)(K:Nat)(w:qW)(h:w.cell? ⟨K,0,none⟩=some (.string s))(hK:K<w.heap.size):qC 237 #[.agg #[.string nm,iI k,iI z,.bool false,.slice none 0 0,iI 0,.slice none 0 0],pP K] w (Gives w (.bool (eqB nm s))):=by
 have he:=eqS nm s
 go_enter Tryz.func237,Tryz.ntmps237
 go_wp2
 go_ret
 exact Gives.mk (by rw [<-he];rfl) Z25_
def VrsIn(w:qW)(v:qV)(l:List VarD):Prop:= ∃a c,v= .slice a l.length c/\l.length<=1000000/\(0<l.length-> ∃b o,a=some ⟨b,o,none⟩/\b<w.heap.size/\ ∀i x,l[i]?=some x-> ∃k z,x.type=scTy k z/\rng k/\rng z/\
 w.cell? ⟨b,o+i*7,none⟩=some (.string x.name)/\w.cell? ⟨b,o+i*7+1,none⟩=some (iI k)/\w.cell? ⟨b,o+i*7+2,none⟩=some (iI z)/\w.cell? ⟨b,o+i*7+3,none⟩=some (.bool false)/\
 w.cell? ⟨b,o+i*7+4,none⟩=some (.slice none 0 0)/\w.cell? ⟨b,o+i*7+5,none⟩=some (iI 0)/\w.cell? ⟨b,o+i*7+6,none⟩=some (.slice none 0 0))
theorem VrsIn.below{w w':qW}{v:qV}{l:List VarD}(h:VrsIn w v l)(hb:Below w.heap.size w w'):VrsIn w' v l:=by
 obtain ⟨a,c,rfl,hl,h⟩:=h
 refine ⟨a,c,rfl,hl,fun hp=>?_⟩
 obtain ⟨b,o,rfl,h1,h2⟩:=h hp
 refine ⟨b,o,rfl,zar h1 hb.size,fun i x hx=>?_⟩
 obtain ⟨k,z,h3,h4,h5,c0,c1,c2,c3,c4,c5,c6⟩:=h2 i x hx
 exact ⟨k,z,h3,h4,h5,(hb.cell (p:=⟨b,_,none⟩) h1).trans c0,(hb.cell (p:=⟨b,_,none⟩) h1).trans c1,(hb.cell (p:=⟨b,_,none⟩) h1).trans c2,(hb.cell (p:=⟨b,_,none⟩) h1).trans c3,(hb.cell (p:=⟨b,_,none⟩) h1).trans c4,(hb.cell (p:=⟨b,_,none⟩) h1).trans c5,(hb.cell (p:=⟨b,_,none⟩) h1).trans c6⟩
theorem yde{l:List VarD}{s:qB}{v:VarD}(h:findV l s=some v): ∃i:Nat,l[i]?=some v/\eqB v.name s=true/\ ∀j y,j<i->l[j]?=some y->eqB y.name s=false:=by
 unfold findV at h
 rw [List.find?_eq_some_iff_getElem] at h
 obtain ⟨h1,i,hi,h2,h3⟩:=h
 refine ⟨i,by rw [zaC hi,h2],h1,fun j y hj hy=>?_⟩
 have:=h3 j hj
 obtain ⟨hl,rfl⟩:=List.getElem?_eq_some_iff.1 hy
 simpa using this
theorem yb3(v:qV)(l:List VarD)(s:qB)(x:VarD)(i:Nat)(hx:l[i]?=some x)(he:eqB x.name s=true)(xW: ∀j y,j<i->l[j]?=some y->eqB y.name s=false)(K:Nat)(w:qW)(h:VrsIn w v l)(hK:w.cell? ⟨K,0,none⟩=some (.string s))(yc:K<w.heap.size):
  qC 119 #[v,.func (.func 237) #[] #[pP K]] w (Gives w (iI i)):=by
 obtain ⟨a,c,rfl,hl,hc⟩:=h
 have HC:=Zh hc
 have HN:=Zh xW
 have HX:=Zh hx
 have HE:=Zh he
 have Dl:=(List.getElem?_eq_some_iff.1 hx).1
 have Br:=Zh (fun nm k z (W:qW) (hW:Below w.heap.size w W)=>yek nm s k z K W ((hW.cell (p:=⟨K,0,none⟩) yc).trans hK) (zar yc hW.size))
 clear hc xW hx he hK
 go_enter Tryz.func119,Tryz.ntmps119
 go_wp2_with fail
 go_loopw [8] (fun v8 wr=> ∃j:Nat,v8=iI j/\j<=i/\Below w.heap.size w wr) (fun v8 _=>l.length-(intOf v8).toNat)
 case atStart=>exact ⟨0,rfl,zaB _,zaa _ _⟩
 case round=>
  obtain ⟨j,rfl,hj,hB⟩:=hrel
  obtain ⟨b,o,rfl,hb,xG⟩:=HC.out Za
  obtain ⟨y,hy⟩: ∃y,l[j]?=some y:=⟨l[j],zaC Za⟩
  obtain ⟨k,z,h3,h4,h5,c0,c1,c2,c3,c4,c5,c6⟩:=xG j y hy
  have xh: ∀(n:Nat) (u:qV),w.cell? ⟨b,n,none⟩=some u->wr.cell? ⟨b,n,none⟩=some u:=fun n u hu=>(hB.cell (p:=⟨b,n,none⟩) hb).trans hu
  replace c0:=xh _ _ c0
  replace c1:=xh _ _ c1
  replace c2:=xh _ _ c2
  replace c3:=xh _ _ c3
  replace c4:=xh _ _ c4
  replace c5:=xh _ _ c5
  replace c6:=xh _ _ c6
  have HB:=Zh hB
  have HY:=Zh hy
  clear xh xG hB hy h3
  rcases (by omega:j=i\/j<i) with h1|h1
  ·subst h1
   obtain rfl:y=x:=zae (HY.out.symm.trans HX.out)
   have hq:=HE.out
   go_wp2_with (go_at_call 237;refine (Br.out y.name k z _ HB.out).mono ?_;rintro e w1 ⟨rfl,p,rfl⟩)
   go_ret
   exact Gives.mk rfl (aG HB.out p)
  ·have hq:=HN.out j y h1 HY.out
   go_wp2_with (go_at_call 237;refine (Br.out y.name k z _ HB.out).mono ?_;rintro e w1 ⟨rfl,p,rfl⟩)
   refine ⟨⟨j+1,by simp,by omega,aG HB.out p⟩,by simp [intOf];omega⟩
theorem uk(v:qV)(l:List VarD)(s:qB)(x:VarD)(hf:findV l s=some x)(hS:SoundF 66 x.type=0)(pa:Option Addr)(pc:Nat)(w:qW)(h:VrsIn w v l):
  qC 184 #[v,.agg #[.string s,.slice pa 0 pc]] w fun e w'=> ∃k z,x.type=scTy k z/\rng k/\rng z/\Gives w (.tuple #[scV k z,iI 0]) e w':=by
 obtain ⟨i,hx,he,xW⟩:=yde hf
 obtain ⟨a,c,rfl,hl,hc⟩:=h
 have Dl:=(List.getElem?_eq_some_iff.1 hx).1
 obtain ⟨b,o,rfl,hb,xG⟩:=hc Za
 obtain ⟨k,z,h3,h4,h5,c0,c1,c2,c3,c4,c5,c6⟩:=xG i x hx
 have HI:=Zh (fun K W (hB:Below w.heap.size w W) hK yc=>yb3 (.slice (some ⟨b,o,none⟩) l.length c) l s x i hx he xW K W (VrsIn.below ⟨_,_,rfl,hl,hc⟩ hB) hK yc)
 have HS:=Zh (fun W=>jD k z h4 h5 (by rw [<-h3];exact hS) W)
 have H3:Hid (x.type=scTy k z/\rng k/\rng z):=Zh ⟨h3,h4,h5⟩
 clear hc xG hx he xW hf h3 hS
 go_enter Tryz.func184,Tryz.ntmps184
 go_wp2_with (first
  |(go_at_call 119;refine (HI.out _ _ (ab (ab (zaa _ _) _) _) ZC Zk).mono ?_;rintro e w1 ⟨rfl,p,rfl⟩)
  |(go_at_call 126;refine (HS.out _).mono ?_;rintro e w1 ⟨rfl,q,rfl⟩))
 refine zao 1 ?_
 rw [zap]
 go_wp2
 (try simp only [Exit.inBlock,Exit.then]);refine zad (by simp [results,Tryz.results184,go_sem,↓IntWalk.iteOmega];try rfl) rfl ?_
 refine ⟨k,z,H3.out.1,H3.out.2.1,H3.out.2.2,Gives.mk rfl Z3⟩
theorem ckplace{C:Nat}{vv lv:qV}{loc:List qB}{lets line:Int}(l:List VarD)(k d:Int)(var:qB)(parts:List PartD)(xr:plOk l k var parts=true)(pa:Option Addr)(pc:Nat)(w:qW)(h:CkAt C w vv lv loc lets line)(hv:VrsIn w vv l):
  qC 124 #[pP C,iI k,.agg #[.string var,.slice pa parts.length pc],iI d] w (Gives w (.tuple #[])):=by
 unfold plOk at xr
 rw [za0] at xr
 obtain ⟨hp,xr⟩:=xr
 rw [yaQ hp]
 clear hp
 rcases hf:findV l var with _|x
 ·rw [hf] at xr
  cases xr
 rw [hf] at xr
 simp only [za0,zau] at xr
 obtain ⟨hs,zi⟩:=xr
 have HP:=Zh (fun W (hB:Below w.heap.size w W)=>uk vv l var x hf hs pa pc W (hv.below hB))
 have HC:=Zh (fun W (hB:Below w.heap.size w W)=>h.below hB)
 have HF:=Zh zi
 have HD:=Zh (fun W (hB:Below w.heap.size w W)=>ckbad W (h.below hB))
 have c0:w.cell? ⟨C,0,none⟩=some vv:=aa h.out 0
 have hC:=ac h.out
 obtain ⟨va,vc,rfl,hl, -⟩:=hv
 clear hf hs zi h
 simp only [zaV]
 go_enter Tryz.func124,Tryz.ntmps124
 go_wp2_with (go_at_call 51;refine (HD.out _ (ab (zaa _ _) _)).mono ?_;rintro e w1 ⟨rfl,u'⟩;subst u')
 go_region_held3 (fun W=>W.cell? ⟨C,0,none⟩=some (.slice va l.length vc)/\W.cell? ⟨w.heap.size,0,none⟩=some (.string var)/\W.cell? ⟨w.heap.size,1,none⟩=some (.slice pa 0 pc)) ((simp [go_sem,↓IntWalk.iteOmega,hC,c0];try omega)) (first|(go_simp;go_at_call 184;refine (HP.out _ (by repeat (first|with_reducible exact zaa _ _|with_reducible apply ab|with_reducible apply ag))).mono ?_;rintro e w1 ⟨tk,tz,ht,yh,yL,rfl,p,rfl⟩;unfold scV))
 all_goals
  have Nq:=Zh (fun W=>ydb k tk tz (by rw [<-ht];exact HF.out) W)
  unfold scV at Nq
  clear ht
  go_wp2_with (first
   |(go_at_call 120;refine (ckneed _ _).mono ?_;rintro e w1 ⟨rfl,u'⟩;subst u')
   |(go_at_call 51;refine (HD.out _ Zo).mono ?_;rintro e w1 ⟨rfl,u'⟩;subst u')
   |(go_at_call 185;refine (Nq.out _).mono ?_;rintro e w1 ⟨rfl,p2,rfl⟩))
  refine zao 1 ?_
  rw [zap]
  go_wp2
  go_end0
  exact Gives.mk rfl Zo
abbrev okA:Nat->Prop:=fun _=>True
def XCk(C:Nat)(vv lv:qV)(loc:List qB)(lets line:Int)(vs:List VarD)(n:Nat):Prop:= ∀(w:qW) (e:Ex) (d:Int) (pa ka:Option Addr) (pc kc:Nat),CkAt C w vv lv loc lets line->VrsIn w vv vs->0<=d->d<=1000->
 xOk vs loc n e d=true->ExAt w okA n e [iI e.kind,.int .u64 e.n,.string e.name,iI e.op,iI e.order,.string e.var,.slice pa e.parts.length pc,.slice ka e.kids.length kc]->qC 186 #[pP C,.agg #[iI e.kind,.int .u64 e.n,.string e.name,iI e.op,iI e.order,.string e.var,.slice pa e.parts.length pc,.slice ka e.kids.length kc],iI d] w (Gives w (.tuple #[]))
theorem iu{w:qW}{ok:Nat->Prop}{n:Nat}{e:Ex}{cs:List qV}(h:ExAt w ok n e cs): ∃pa pc ka kc,cs=[iI e.kind,.int .u64 e.n,.string e.name,iI e.op,iI e.order,.string e.var,.slice pa e.parts.length pc,.slice ka e.kids.length kc]/\rng e.kind/\rng e.op/\rng e.order/\e.n<18446744073709551616:=by
 match n,h with
 |n+1,⟨pv,kv,h1,h2,h3,h4,h5,h6,h7⟩=>
  obtain ⟨pa,pc,rfl, -⟩:=h2
  obtain ⟨ka,kc,rfl, -⟩:=h3
  exact ⟨pa,pc,ka,kc,h1,h4,h6,h7,h5⟩
theorem ExAt.below{w w':qW}{n:Nat}{e:Ex}{cs:List qV}(h:ExAt w okA n e cs)(hb:Below w.heap.size w w'):ExAt w' okA n e cs:=ExAt.keep hb.size (fun b _ hl=>⟨trivial,hb.block b hl⟩) n e cs h
theorem jX{w w':qW}{n:Nat}{v:qV}{l:List Ex}(h:RwAt w okA 8 (ExAt w okA n) v l)(hb:Below w.heap.size w w'):RwAt w' okA 8 (ExAt w' okA n) v l:=h.keep hb.size (fun b _ hl=>⟨trivial,hb.block b hl⟩) (fun x _ cs hx=>ExAt.below hx hb)
theorem m6{C:Nat}{vv lv:qV}{loc:List qB}{lets line:Int}{vs:List VarD}{n:Nat}(HX:XCk C vv lv loc lets line vs n)(w:qW)(v:qV)(l:List Ex)(d:Int)(hc:CkAt C w vv lv loc lets line)(hv:VrsIn w vv vs)(h0:0<=d)(h1:d<=900)(hl:l.length<=1000000)
  (xr:l.all (fun x=>xOk vs loc n x (d+1))=true) (hr:RwAt w okA 8 (ExAt w okA n) v l):qC 125 #[pP C,v,iI d] w (Gives w (.tuple #[])):=by
 obtain ⟨a,c,rfl,g1,g2,g3⟩:=hr
 have HR:=Zh g3
 have In:=Zh hc
 have HV:=Zh hv
 have zN:=Zh xr
 have FE:=Zh HX
 have u':IntKind.i64.wrap (d+1)=d+1:=cM h0 Za
 have HD:=Zh (fun W (hB:Below w.heap.size w W)=>ckbad W (hc.below hB))
 clear g3 hc hv xr HX
 go_enter Tryz.func125,Tryz.ntmps125
 go_wp2_with fail
 go_loopw [10] (fun v10 wr=> ∃j:Nat,v10=iI j/\j<=l.length/\Below w.heap.size w wr) (fun v10 _=>l.length-(intOf v10).toNat)
 case atStart=>exact ⟨0,rfl,zaB _,zaa _ _⟩
 case round=>
  obtain ⟨j,rfl,hj,hB⟩:=hrel
  have HB:=Zh hB
  rcases (by omega:j=l.length\/j<l.length) with h2|h2
  ·subst h2
   clear hB
   go_wp2
   go_end0
   exact Gives.mk rfl HB.out
  ·obtain ⟨b,o,rfl, -,hb,y8⟩:=HR.out Za
   obtain ⟨y,hy⟩: ∃y,l[j]?=some y:=⟨l[j],zaC h2⟩
   obtain ⟨cs,xd,hE,xG⟩:=y8 j y hy
   obtain ⟨pa,pc,ka,kc,rfl,r1,r2,r3,r4⟩:=iu hE
   have xh: ∀(i:Nat) (u:qV),([iI y.kind,.int .u64 y.n,.string y.name,iI y.op,iI y.order,.string y.var,.slice pa y.parts.length pc,.slice ka y.kids.length kc]:List qV)[i]?=some u->wr.cell? ⟨b,o+j*8+i,none⟩=some u:=fun i u hu=>(hB.cell (p:=⟨b,_,none⟩) hb).trans (xG i u hu)
   have c0:=xh 0 _ rfl
   have c1:=xh 1 _ rfl
   have c2:=xh 2 _ rfl
   have c3:=xh 3 _ rfl
   have c4:=xh 4 _ rfl
   have c5:=xh 5 _ rfl
   have c6:=xh 6 _ rfl
   have c7:=xh 7 _ rfl
   simp only [Nat.add_zero] at c0
   have K6:=Zh (fun W (hW:Below w.heap.size w W)=>FE.out W y (d+1) pa ka pc kc (In.out.below hW) (HV.out.below hW) Za Za (List.all_eq_true.1 zN.out y (zat hy)) (hE.below hW))
   clear xh xG hE y8 hB hy xd
   go_wp2_with (first
    |(go_at_call 51;refine (HD.out _ Z50_).mono ?_;rintro e w1 ⟨rfl,u'⟩;subst u')
    |(go_at_call 186;refine (K6.out _ Z50_).mono ?_;rintro e w1 ⟨rfl,p,rfl⟩))
   refine ⟨⟨j+1,by simp,by omega,Z50_⟩,by simp [intOf];omega⟩
section
variable{w0 W W':qW}{M a b c:Nat}{vv wv:qV}{s:LS}
theorem lj(w:qW)(h:Mk w0 M a b c vv wv w s)(n:Nat)(hf:LFin (lNumber n s).2):qC 250 #[pP M,.int .u64 n] w (MkD w0 M a b c vv wv w (lNumber n s).2 (iI (lNumber n s).1)):=by
 obtain ⟨ov,sv,lv,i',pi⟩:=h.rules
 have j':=h.bd
 have yb:=j'
 have HM:=Zh (MkA.begin h)
 have ya:LFin (lFresh s):=(LLe.add _ _).fin hf
 clear h
 go_enter Tryz.func250,Tryz.ntmps250
 go_wp2_with (first
  |(go_at_call 201;refine (cq _ _).mono ?_;rintro e w1 ⟨rfl,p,rfl⟩)
  |(go_at_call 195;refine (eG _ (Zj:MkA _ _ _ _ _ _ _ w _ _ _ _ _).mkr ya).mono ?_;intro e w1 hD;have hN:=MkA.nx hD Zj;clear hD HM;(try clear i' pi);obtain ⟨rfl,a1,b1,c1,ov,sv,lv,i',pi,j',HM,hm,hT,hrel⟩:=hN;(try simp only [Zz] at hrel hm);(repeat ((first|((first|(with_reducible obtain ⟨hx,hy,xg,hT⟩:=aw (lo:=w.heap.size) hT Zv hrel Zc Zi)|(with_reducible obtain ⟨hx,hy,xg,hT⟩:=av (lo:=w.heap.size) hT Zx hrel Zc Zi));(try simp only [Zz] at hx hy xg);rw [hx];clear hx)|(with_reducible replace hT:=hT.unmo)|(with_reducible replace hT:=hT.undr))));clear hT hrel)
  |(go_at_call 203;refine (cF (s:=lFresh s) _ (Zj:MkA _ _ _ _ _ _ _ w _ _ _ _ _).mkr {kind:=1,dst:=s.regs,n:=n} hf).mono ?_;intro e w1 hD;have hN:=MkA.nx hD Zj;clear hD HM;(try clear i' pi);obtain ⟨rfl,a1,b1,c1,ov,sv,lv,i',pi,j',HM,hm,hT,hrel⟩:=hN;(try simp only [Zz] at hrel hm);(repeat ((first|((first|(with_reducible obtain ⟨hx,hy,xg,hT⟩:=aw (lo:=w.heap.size) hT Zv hrel Zc Zi)|(with_reducible obtain ⟨hx,hy,xg,hT⟩:=av (lo:=w.heap.size) hT Zx hrel Zc Zi));(try simp only [Zz] at hx hy xg);rw [hx];clear hx)|(with_reducible replace hT:=hT.unmo)|(with_reducible replace hT:=hT.undr))));clear hT hrel))
 go_ret
 exact ZO
theorem yeX(w:qW)(h:Mk w0 M a b c vv wv w s)(op x y:Int)(hf:LFin (lBin op x y s).2):qC 251 #[pP M,iI op,iI x,iI y] w (MkD w0 M a b c vv wv w (lBin op x y s).2 (iI (lBin op x y s).1)):=by
 obtain ⟨ov,sv,lv,i',pi⟩:=h.rules
 have j':=h.bd
 have yb:=j'
 have HM:=Zh (MkA.begin h)
 have ya:LFin (lFresh s):=(LLe.add _ _).fin hf
 clear h
 go_enter Tryz.func251,Tryz.ntmps251
 go_wp2_with (first
  |(go_at_call 201;refine (cq _ _).mono ?_;rintro e w1 ⟨rfl,p,rfl⟩)
  |(go_at_call 195;refine (eG _ (Zj:MkA _ _ _ _ _ _ _ w _ _ _ _ _).mkr ya).mono ?_;intro e w1 hD;have hN:=MkA.nx hD Zj;clear hD HM;(try clear i' pi);obtain ⟨rfl,a1,b1,c1,ov,sv,lv,i',pi,j',HM,hm,hT,hrel⟩:=hN;(try simp only [Zz] at hrel hm);(repeat ((first|((first|(with_reducible obtain ⟨hx,hy,xg,hT⟩:=aw (lo:=w.heap.size) hT Zv hrel Zc Zi)|(with_reducible obtain ⟨hx,hy,xg,hT⟩:=av (lo:=w.heap.size) hT Zx hrel Zc Zi));(try simp only [Zz] at hx hy xg);rw [hx];clear hx)|(with_reducible replace hT:=hT.unmo)|(with_reducible replace hT:=hT.undr))));clear hT hrel)
  |(go_at_call 203;refine (cF (s:=lFresh s) _ (Zj:MkA _ _ _ _ _ _ _ w _ _ _ _ _).mkr {kind:=3,dst:=s.regs,op:=op,a:=x,b:=y} hf).mono ?_;intro e w1 hD;have hN:=MkA.nx hD Zj;clear hD HM;(try clear i' pi);obtain ⟨rfl,a1,b1,c1,ov,sv,lv,i',pi,j',HM,hm,hT,hrel⟩:=hN;(try simp only [Zz] at hrel hm);(repeat ((first|((first|(with_reducible obtain ⟨hx,hy,xg,hT⟩:=aw (lo:=w.heap.size) hT Zv hrel Zc Zi)|(with_reducible obtain ⟨hx,hy,xg,hT⟩:=av (lo:=w.heap.size) hT Zx hrel Zc Zi));(try simp only [Zz] at hx hy xg);rw [hx];clear hx)|(with_reducible replace hT:=hT.unmo)|(with_reducible replace hT:=hT.undr))));clear hT hrel))
 go_ret
 exact ZO
theorem jM(w:qW)(h:Mk w0 M a b c vv wv w s)(r x:Int)(hf:LFin (lSet r x s)):qC 196 #[pP M,iI r,iI x] w (MkD w0 M a b c vv wv w (lSet r x s) (.tuple #[])):=by
 obtain ⟨ov,sv,lv,i',pi⟩:=h.rules
 have j':=h.bd
 have yb:=j'
 have HM:=Zh (MkA.begin h)
 clear h
 go_enter Tryz.func196,Tryz.ntmps196
 go_wp2_with (first
  |(go_at_call 201;refine (cq _ _).mono ?_;rintro e w1 ⟨rfl,p,rfl⟩)
  |(go_at_call 203;refine (cF (s:=s) _ (Zj:MkA _ _ _ _ _ _ _ w _ _ _ _ _).mkr {kind:=2,dst:=r,a:=x} hf).mono ?_;intro e w1 hD;have hN:=MkA.nx hD Zj;clear hD HM;(try clear i' pi);obtain ⟨rfl,a1,b1,c1,ov,sv,lv,i',pi,j',HM,hm,hT,hrel⟩:=hN;(try simp only [Zz] at hrel hm);(repeat ((first|((first|(with_reducible obtain ⟨hx,hy,xg,hT⟩:=aw (lo:=w.heap.size) hT Zv hrel Zc Zi)|(with_reducible obtain ⟨hx,hy,xg,hT⟩:=av (lo:=w.heap.size) hT Zx hrel Zc Zi));(try simp only [Zz] at hx hy xg);rw [hx];clear hx)|(with_reducible replace hT:=hT.unmo)|(with_reducible replace hT:=hT.undr))));clear hT hrel))
 go_end0
 exact ZO
theorem lG(w:qW)(h:Mk w0 M a b c vv wv w s)(n:Int)(hf:LFin (lMark n s)):qC 264 #[pP M,iI n] w (MkD w0 M a b c vv wv w (lMark n s) (.tuple #[])):=by
 obtain ⟨ov,sv,lv,i',pi⟩:=h.rules
 have j':=h.bd
 have yb:=j'
 have HM:=Zh (MkA.begin h)
 clear h
 go_enter Tryz.func264,Tryz.ntmps264
 go_wp2_with (first
  |(go_at_call 201;refine (cq _ _).mono ?_;rintro e w1 ⟨rfl,p,rfl⟩)
  |(go_at_call 203;refine (cF (s:=s) _ (Zj:MkA _ _ _ _ _ _ _ w _ _ _ _ _).mkr ⟨14, -1, -1, -1, -1, -1,0,0,0,0,n,0,0⟩ hf).mono ?_;intro e w1 hD;have hN:=MkA.nx hD Zj;clear hD HM;(try clear i' pi);obtain ⟨rfl,a1,b1,c1,ov,sv,lv,i',pi,j',HM,hm,hT,hrel⟩:=hN;(try simp only [Zz] at hrel hm);(repeat ((first|((first|(with_reducible obtain ⟨hx,hy,xg,hT⟩:=aw (lo:=w.heap.size) hT Zv hrel Zc Zi)|(with_reducible obtain ⟨hx,hy,xg,hT⟩:=av (lo:=w.heap.size) hT Zx hrel Zc Zi));(try simp only [Zz] at hx hy xg);rw [hx];clear hx)|(with_reducible replace hT:=hT.unmo)|(with_reducible replace hT:=hT.undr))));clear hT hrel))
 go_end0
 exact ZO
theorem l9(w:qW)(h:Mk w0 M a b c vv wv w s)(t r:Int)(hf:LFin (lJump t r s)):qC 263 #[pP M,iI t,iI r] w (MkD w0 M a b c vv wv w (lJump t r s) (.tuple #[])):=by
 obtain ⟨ov,sv,lv,i',pi⟩:=h.rules
 have j':=h.bd
 have yb:=j'
 have HM:=Zh (MkA.begin h)
 clear h
 by_cases hr:r= -1
 ·subst hr
  have e:lJump t (-1) s=lAdd ⟨15, -1, -1, -1, -1, -1,0,0,0,0,t,0,0⟩ s:=rfl
  rw [e] at hf ⊢
  go_enter Tryz.func263,Tryz.ntmps263
  go_wp2_with (first
   |(go_at_call 201;refine (cq _ _).mono ?_;rintro e w1 ⟨rfl,p,rfl⟩)
   |(go_at_call 203;refine (cF (s:=s) _ (Zj:MkA _ _ _ _ _ _ _ w _ _ _ _ _).mkr ⟨15, -1, -1, -1, -1, -1,0,0,0,0,t,0,0⟩ hf).mono ?_;intro e w1 hD;have hN:=MkA.nx hD Zj;clear hD HM;(try clear i' pi);obtain ⟨rfl,a1,b1,c1,ov,sv,lv,i',pi,j',HM,hm,hT,hrel⟩:=hN;(try simp only [Zz] at hrel hm);(repeat ((first|((first|(with_reducible obtain ⟨hx,hy,xg,hT⟩:=aw (lo:=w.heap.size) hT Zv hrel Zc Zi)|(with_reducible obtain ⟨hx,hy,xg,hT⟩:=av (lo:=w.heap.size) hT Zx hrel Zc Zi));(try simp only [Zz] at hx hy xg);rw [hx];clear hx)|(with_reducible replace hT:=hT.unmo)|(with_reducible replace hT:=hT.undr))));clear hT hrel))
  go_end0
  exact ZO
 ·have e:lJump t r s=lAdd ⟨16, -1, -1,r, -1, -1,0,0,0,0,t,0,0⟩ s:=if_neg hr
  rw [e] at hf ⊢
  go_enter Tryz.func263,Tryz.ntmps263
  go_wp2_with (first
   |(go_at_call 201;refine (cq _ _).mono ?_;rintro e w1 ⟨rfl,p,rfl⟩)
   |(go_at_call 203;refine (cF (s:=s) _ (Zj:MkA _ _ _ _ _ _ _ w _ _ _ _ _).mkr ⟨16, -1, -1,r, -1, -1,0,0,0,0,t,0,0⟩ hf).mono ?_;intro e w1 hD;have hN:=MkA.nx hD Zj;clear hD HM;(try clear i' pi);obtain ⟨rfl,a1,b1,c1,ov,sv,lv,i',pi,j',HM,hm,hT,hrel⟩:=hN;(try simp only [Zz] at hrel hm);(repeat ((first|((first|(with_reducible obtain ⟨hx,hy,xg,hT⟩:=aw (lo:=w.heap.size) hT Zv hrel Zc Zi)|(with_reducible obtain ⟨hx,hy,xg,hT⟩:=av (lo:=w.heap.size) hT Zx hrel Zc Zi));(try simp only [Zz] at hx hy xg);rw [hx];clear hx)|(with_reducible replace hT:=hT.unmo)|(with_reducible replace hT:=hT.undr))));clear hT hrel))
  go_end0
  exact ZO
end
theorem ydm{C:Nat}{vv lv:qV}{loc:List qB}{lets line:Int}{vs:List VarD}(AW:loc.length<=1000000){n:Nat}(HX:XCk C vv lv loc lets line vs n):XCk C vv lv loc lets line vs (n+1):=by
 intro w e d pa ka pc kc hc hv h0 h1 xr hE
 unfold xOk at xr
 simp only [za0,zau,zak,Bool.not_eq_true',decide_eq_false_iff_not] at xr
 obtain ⟨⟨⟨⟨⟨hd,hf⟩,ho⟩,xZ⟩,Be⟩,DV⟩:=xr
 obtain ⟨-, -, -, -,r1,r2,r3,r4⟩:=iu hE
 obtain ⟨pv,kv,e1,hP,hK, -⟩:=hE
 simp only [List.cons.injEq,and_true,true_and] at e1
 obtain ⟨rfl,rfl⟩:=e1
 have B9:1<=e.kind/\e.kind<=8:=by
  unfold cFormed at hf
  simp only [za0,zau] at hf
  exact ⟨hf.1.1.1.1.1.1,hf.1.1.1.1.1.2⟩
 have zu:e.kids.length<=1000000:=by
  unfold cFormed cKids at hf
  simp only [za0,zau] at hf
  have:=hf.2
  repeat' split at this
  all_goals omega
 have HN:=Zh (fun (k:Int) (W:qW)=>ckneed (C:=C) k W)
 have HD:=Zh (fun W (hB:Below w.heap.size w W)=>ckbad W (hc.below hB))
 have HF:=Zh (fun W=>ycV e hf pa ka pc kc W)
 have HO:=Zh (fun W=>kX (10+e.kind) e.order ho W)
 have HT:=Zh (fun W (hB:Below w.heap.size w W)=>ckthere e.name AW W (hc.below hB))
 have BE:=Zh (fun (h:plOk vs (10+e.kind) e.var e.parts=true) W (hB:Below w.heap.size w W)=>ckplace vs (10+e.kind) d e.var e.parts h pa pc W (hc.below hB) (hv.below hB))
 have Hl:=Zh (fun W (hB:Below w.heap.size w W)=>m6 HX W (.slice ka e.kids.length kc) e.kids d (hc.below hB) (hv.below hB) h0 Za zu DV (jX hK hB))
 have hw:IntKind.i64.wrap (10+e.kind)=10+e.kind:=IntWalk.i64_in _ Za
 have BF:=Zh xZ
 have Qo:=Zh Be
 clear hc hv hf ho DV hP hK xZ Be HX
 rcases (by omega:e.kind=2\/4<=e.kind\/(¬e.kind=2/\e.kind<4)) with hq|hq|⟨hq,Al⟩
 ·have ht:cThere loc e.name=true:=by
   rcases BF.out with h|h
   ·exact absurd hq h
   ·exact h
  rw [ht] at HT
  have b1:(e.kind==2)=true:=by simp [hq]
  have b2:decide (e.kind=2)=true:=by simp [hq]
  have QY:e.kind<4:=by omega
  have HQ:=Zh hq
  clear ht hq B9
  go_enter Tryz.func186,Tryz.ntmps186
  go_wp2_with (first
   |(go_at_call 120;(with_reducible refine (HN.out _ _).mono ?_);rintro e1 w1 ⟨rfl,u'⟩;subst u')
   |(go_at_call 51;(with_reducible refine (HD.out _ Zo).mono ?_);rintro e1 w1 ⟨rfl,u'⟩;subst u')
   |(go_at_call 239;(with_reducible refine (HF.out _).mono ?_);rintro e1 w1 ⟨rfl,p,rfl⟩)
   |(go_at_call 122;(with_reducible refine (HO.out _).mono ?_);rintro e1 w1 ⟨rfl,u'⟩;subst u')
   |(go_at_call 123;(with_reducible refine (HT.out _ Zo).mono ?_);rintro e1 w1 ⟨rfl,u'⟩;subst u')
   |(go_at_call 125;(with_reducible refine (Hl.out _ Zo).mono ?_);rintro e1 w1 ⟨rfl,p3,rfl⟩))
  go_end0
  exact Gives.mk rfl Zo
 ·have hp:=Qo.out.resolve_left (fun h=>h hq)
  have FG:=Zh (BE.out hp)
  have Al: ¬e.kind=2:=by omega
  clear hp
  go_enter Tryz.func186,Tryz.ntmps186
  go_wp2_with (first
   |(go_at_call 120;(with_reducible refine (HN.out _ _).mono ?_);rintro e1 w1 ⟨rfl,u'⟩;subst u')
   |(go_at_call 51;(with_reducible refine (HD.out _ Zo).mono ?_);rintro e1 w1 ⟨rfl,u'⟩;subst u')
   |(go_at_call 239;(with_reducible refine (HF.out _).mono ?_);rintro e1 w1 ⟨rfl,p,rfl⟩)
   |(go_at_call 122;(with_reducible refine (HO.out _).mono ?_);rintro e1 w1 ⟨rfl,u'⟩;subst u')
   |(go_at_call 124;(with_reducible refine (FG.out _ Zo).mono ?_);rintro e1 w1 ⟨rfl,p2,rfl⟩)
   |(go_at_call 125;(with_reducible refine (Hl.out _ Zo).mono ?_);rintro e1 w1 ⟨rfl,p3,rfl⟩))
  go_end0
  exact Gives.mk rfl Zo
 ·go_enter Tryz.func186,Tryz.ntmps186
  go_wp2_with (first
   |(go_at_call 120;(with_reducible refine (HN.out _ _).mono ?_);rintro e1 w1 ⟨rfl,u'⟩;subst u')
   |(go_at_call 51;(with_reducible refine (HD.out _ Zo).mono ?_);rintro e1 w1 ⟨rfl,u'⟩;subst u')
   |(go_at_call 239;(with_reducible refine (HF.out _).mono ?_);rintro e1 w1 ⟨rfl,p,rfl⟩)
   |(go_at_call 122;(with_reducible refine (HO.out _).mono ?_);rintro e1 w1 ⟨rfl,u'⟩;subst u')
   |(go_at_call 125;(with_reducible refine (Hl.out _ Zo).mono ?_);rintro e1 w1 ⟨rfl,p3,rfl⟩))
  go_end0
  exact Gives.mk rfl Zo
theorem iR{C:Nat}{vv lv:qV}{loc:List qB}{lets line:Int}{vs:List VarD}(AW:loc.length<=1000000): ∀n,XCk C vv lv loc lets line vs n
 |0=>fun w e d pa ka pc kc _ _ _ _ xr _=>by simp [xOk] at xr
 |n+1=>ydm AW (iR AW n)
structure CkW(w0:qW)(C:Nat)(W:qW)(vv lv:qV)(loc:List qB)(lets line:Int)(vs:List VarD):Prop where
 ck:CkAt C W vv lv loc lets line
 vr:VrsIn w0 vv vs
 bl:Below w0.heap.size w0 W
 le:w0.heap.size<=C
 few:loc.length<=lets/\0<=lets/\lets<=40
 sp:SpT w0
def CkD(w0:qW)(C:Nat)(w:qW)(vv lv:qV)(s:CSt)(vs:List VarD)(e:Ending)(w':qW):Prop:=
 e= .returned (.tuple #[])/\ ∃lv' line',CkW w0 C w' vv lv' s.1 s.2 line' vs/\Kp (fun k=>k=C\/lv.ownBlock=some k) w w'/\ ∀k,lv'.ownBlock=some k->lv.ownBlock=some k\/w.heap.size<=k
theorem CkW.more{w0 W:qW}{C:Nat}{vv lv:qV}{loc:List qB}{lets line:Int}{vs:List VarD}(h:CkW w0 C W vv lv loc lets line vs){W':qW}(hb:Below W.heap.size W W'):CkW w0 C W' vv lv loc lets line vs:=
 ⟨h.ck.below hb,h.vr,fG h.bl hb h.bl.size,h.le,h.few,h.sp⟩
theorem CkW.spt{w0 W:qW}{C:Nat}{vv lv:qV}{loc:List qB}{lets line:Int}{vs:List VarD}(h:CkW w0 C W vv lv loc lets line vs):SpT W:=h.sp.below h.bl
theorem SmAt.below{w w':qW}{n:Nat}{x:Sm}{cs:List qV}(h:SmAt w okA n x cs)(hb:Below w.heap.size w w'):SmAt w' okA n x cs:=SmAt.keep hb.size (fun b _ hl=>⟨trivial,hb.block b hl⟩) n x cs h
theorem jG{w:qW}{ok:Nat->Prop}{n:Nat}{x:Sm}{cs:List qV}(h:SmAt w ok n x cs): ∃pa pc xa xc ta tc la lc,cs=[iI x.kind,iI x.line,.string x.name,.string x.name2,iI x.order,.string x.var,.slice pa x.parts.length pc,.slice xa x.exprs.length xc,.slice ta x.thn.length tc,.slice la x.els.length lc]/\rng x.kind/\rng x.line/\rng x.order:=by
 match n,h with
 |n+1,⟨pv,xv,tv,lv,h1,h2,h3,h4,h5,h6,h7,h8⟩=>
  obtain ⟨pa,pc,rfl, -⟩:=h2
  obtain ⟨xa,xc,rfl, -⟩:=h3
  obtain ⟨ta,tc,rfl, -⟩:=h4
  obtain ⟨la,lc,rfl, -⟩:=h5
  exact ⟨pa,pc,xa,xc,ta,tc,la,lc,h1,h6,h7,h8⟩
def SCk(w0:qW)(C:Nat)(vv:qV)(vs:List VarD)(n:Nat):Prop:= ∀(w:qW) (lv:qV) (loc:List qB) (lets line:Int) (x:Sm) (d:Int) (pa xa ta la:Option Addr) (pc xc tc lc:Nat) (s:CSt),CkW w0 C w vv lv loc lets line vs->0<=d->d<=900->
 cStmt vs n x d (loc,lets)=some s->SmAt w0 okA n x [iI x.kind,iI x.line,.string x.name,.string x.name2,iI x.order,.string x.var,.slice pa x.parts.length pc,.slice xa x.exprs.length xc,.slice ta x.thn.length tc,.slice la x.els.length lc]->qC 77 #[pP C,.agg #[iI x.kind,iI x.line,.string x.name,.string x.name2,iI x.order,.string x.var,.slice pa x.parts.length pc,.slice xa x.exprs.length xc,.slice ta x.thn.length tc,.slice la x.els.length lc],iI d] w (CkD w0 C w vv lv s vs)
theorem CkW.setl{w0 W:qW}{C:Nat}{vv lv:qV}{loc:List qB}{lets line:Int}{vs:List VarD}(h:CkW w0 C W vv lv loc lets line vs)(l:Int):CkW w0 C (W.setCell ⟨C,3,none⟩ (iI l)) vv lv loc lets l vs:=
 ⟨⟨aJ h.ck.out _,ax h.ck.own (fun g hg=>zas _ _ _ _ (by have:=(h.ck.own.lt g hg).1;simp only [];omega))⟩,h.vr,h.bl.setCell h.le _,h.le,h.few,h.sp⟩
theorem CkW.lt{w0 W:qW}{C:Nat}{vv lv:qV}{loc:List qB}{lets line:Int}{vs:List VarD}(h:CkW w0 C W vv lv loc lets line vs):C<W.heap.size:=ac h.ck.out
def BCk(w0:qW)(C:Nat)(vv:qV)(vs:List VarD)(n:Nat):Prop:= ∀(w:qW) (lv:qV) (loc:List qB) (lets line:Int) (v:qV) (l:List Sm) (d:Int) (s:CSt),CkW w0 C w vv lv loc lets line vs->0<=d->d<=900->
 cBlock (fun y s=>cStmt vs n y d s) l (loc,lets)=some s->RwAt w0 okA 10 (SmAt w0 okA n) v l->qC 50 #[pP C,v,iI d] w (CkD w0 C w vv lv s vs)
theorem nO{vs:List VarD}: ∀(n:Nat) (x:Sm) (d:Int) (s r:CSt),cStmt vs n x d s=some r->s.1.length<=r.1.length
 |0,x,d,s,r,h=>by simp [cStmt] at h
 |n+1,x,d,s,r,h=>by
  have seq: ∀(l:List Sm) (s r:CSt),cSeq (fun y s=>cStmt vs n y (d+1) s) l s=some r->s.1.length<=r.1.length:=by
   intro l
   induction l with
   |nil=>intro s r h;simp [cSeq] at h;rw [h];exact zaq _
   |cons y l ih=>
    intro s r h
    simp only [cSeq] at h
    split at h
    ·cases h
    ·rename_i s1 h1
     exact zal (nO n y (d+1) s s1 h1) (ih s1 r h)
  have blk: ∀(l:List Sm) (s r:CSt),cBlock (fun y s=>cStmt vs n y (d+1) s) l s=some r->s.1.length<=r.1.length:=by
   intro l s r h
   unfold cBlock at h
   rcases h1:cSeq (fun y s=>cStmt vs n y (d+1) s) l s with _|s1
   ·rw [h1] at h
    cases h
   rw [h1] at h
   simp only [Option.map_some,zaA] at h
   subst h
   have:=seq l s s1 h1
   simp only [zaR]
   omega
  unfold cStmt at h
  split at h
  ·cases h
  split at h
  ·cases h
  rename_i s1 h1
  split at h
  ·cases h
  rename_i s2 h2
  have h3:=blk _ _ _ h
  have h4:=blk _ _ _ h2
  have h5:s.1.length<=s1.1.length:=by
   unfold cTail at h1
   split at h1
   ·cases h1
    simp
   ·split at h1
    ·cases h1
     exact zaq _
    ·cases h1
  omega
theorem yeB{f:Sm->CSt->Option CSt}{l:List Sm}{j:Nat}{y:Sm}{s r:CSt}(h:cSeq f (l.drop j) s=some r)(hy:l[j]?=some y): ∃s2,f y s=some s2/\cSeq f (l.drop (j+1)) s2=some r:=by
 obtain ⟨hl,e⟩:=List.getElem?_eq_some_iff.1 hy
 rw [zaS hl,e] at h
 simp only [cSeq] at h
 split at h
 ·cases h
 ·rename_i s2 h2
  exact ⟨s2,h2,h⟩
structure BkW(w0:qW)(C:Nat)(w:qW)(vv lv:qV)(vs:List VarD)(n0:Nat)(W:qW)(lv1:qV)(s:CSt)(line:Int):Prop where
 ck:CkW w0 C W vv lv1 s.1 s.2 line vs
 kp:Kp (fun k=>k=C\/lv.ownBlock=some k) w W
 own: ∀k,lv1.ownBlock=some k->lv.ownBlock=some k\/w.heap.size<=k
 len:n0<=s.1.length
theorem BkW.step{w0:qW}{C:Nat}{w:qW}{vv lv:qV}{vs:List VarD}{n0:Nat}{W W1 W2:qW}{lv1:qV}{s s2:CSt}{line:Int}{e:Ending}(h:BkW w0 C w vv lv vs n0 W lv1 s line)(hC:C<w.heap.size)(hW:Kp (fun k=>k=C) W W1)(h2:CkD w0 C W1 vv lv1 s2 vs e W2)(hl:n0<=s2.1.length): ∃lv2 line2,BkW w0 C w vv lv vs n0 W2 lv2 s2 line2:=by
 obtain ⟨-,lv2,line2,h3,h4,h5⟩:=h2
 refine ⟨lv2,line2,h3,(h.kp.next hW (fun i hi e=> .inl e)).next h4 (fun i hi e=>?_),fun k hk=>?_,hl⟩
 ·rcases e with e|e
  ·exact .inl e
  ·rcases h.own i e with h6|h6
   ·exact .inr h6
   ·omega
 ·rcases h5 k hk with h6|h6
  ·exact h.own k h6
  ·right
   have:=h.kp.size
   have:=hW.size
   omega
theorem CkW.cut{w0 W:qW}{C n c1:Nat}{vv:qV}{a1:Option Addr}{loc:List qB}{lets line:Int}{vs:List VarD}(h:CkW w0 C W vv (.slice a1 loc.length c1) loc lets line vs)(hn:n<=loc.length):CkW w0 C (W.setCell ⟨C,1,none⟩ (.slice a1 n c1)) vv (.slice a1 n c1) (loc.take n) lets line vs:=by
 refine ⟨⟨aJ h.ck.out _,?_⟩,h.vr,h.bl.setCell h.le _,h.le,⟨by have:=h.few.1;simp only [zaR];omega,h.few.2⟩,h.sp⟩
 have hl:(loc.take n).length=n:=by simp only [zaR];omega
 have ho:W.ownsRow (C+1) 9 1 (.slice a1 n c1) (loc.take n).length ((loc.take n).map Value.string):=by
  rw [hl]
  refine ⟨by simp;omega,?_⟩
  rcases h.ck.own.2 with ⟨e1,e2⟩|⟨g,cap,cur,e1,h2,h3,h4,h5,h6,h7⟩
  ·left
   injection e1 with e1 e3 e4
   exact ⟨by rw [e1,e4,show n=0 by omega],by omega⟩
  ·right
   injection e1 with e1 e3 e4
   refine ⟨g,cap,cur,by rw [e1,e4],h2,h3,by omega,h5,h6,?_⟩
   rw [List.map_take,<-h7,List.take_take]
   congr 1
   omega
 exact ax ho (fun g hg=>zas _ _ _ _ (by have:=(ho.lt g hg).1;simp only [];omega))
theorem nV{w0:qW}{C:Nat}{vv:qV}{vs:List VarD}{n:Nat}(HS:SCk w0 C vv vs n):BCk w0 C vv vs n:=by
 intro w lv loc lets line v l d s hc h0 h1 hb hr
 unfold cBlock at hb
 rcases hq:cSeq (fun y s=>cStmt vs n y d s) l (loc,lets) with _|s1
 ·rw [hq] at hb
  cases hb
 rw [hq] at hb
 simp only [Option.map_some,zaA] at hb
 subst hb
 obtain ⟨a,c,rfl,g1,g2,g3⟩:=hr
 have HR:=Zh g3
 have KM:=Zh HS
 have HQ:=Zh hq
 have HC:=Zh hc
 have xm:=aa hc.ck.out
 have xz:=hc.ck.st
 obtain ⟨la,lcp,rfl, -⟩:=xz
 clear g3 hq hc HS
 go_enter Tryz.func50,Tryz.ntmps50
 go_wp2_with fail
 go_loopw [16] (fun v16 wr=> ∃(j:Nat) (lv1:qV) (s:CSt) (line1:Int),v16=iI j/\j<=l.length/\BkW w0 C w vv (.slice la loc.length lcp) vs loc.length wr lv1 s line1/\cSeq (fun y s=>cStmt vs n y d s) (l.drop j) s=some s1) (fun v16 _=>l.length-(intOf v16).toNat)
 case atStart=>exact ⟨0,_,(loc,lets),line,rfl,zaB _,⟨HC.out,Kp.refl _ _,fun k hk=> .inl hk,zaq _⟩,HQ.out⟩
 case round=>
  obtain ⟨j,lv1,s,line1,rfl,hj,hB,zo⟩:=hrel
  have HB:=Zh hB
  have i':=aa hB.ck.ck.out
  have pi:=ah hB.ck.ck.out
  have hC:=hB.ck.lt
  have Pv:=HC.out.lt
  rcases (by omega:j=l.length\/j<l.length) with h2|h2
  ·subst h2
   have yK:s=s1:=by
    rw [List.drop_length] at zo
    simpa [cSeq] using zo
   subst yK
   obtain ⟨a1,c1,rfl, -⟩:=hB.ck.ck.st
   have xd:=hB.len
   have hown:=hB.ck.ck.own
   have HO:=Zh hown
   have yA:loc.length<=c1:=by
    rcases hown.2 with ⟨e1,e2⟩|⟨g,cap,cur,e1, -, -,h5, -⟩
    ·injection e1 with e1 e3 e4
     omega
    ·injection e1 with e1 e3 e4
     omega
   clear hB hown zo
   go_wp2
   go_end0
   refine ⟨rfl,_,_,HB.out.ck.cut HB.out.len,HB.out.kp.next (Kp.set wr C 1 _) (fun i hi e=> .inl e),fun k hk=>HB.out.own k (by cases a1<;>simpa [Value.ownBlock] using hk)⟩
  ·obtain ⟨b,o,rfl, -,hb,y8⟩:=HR.out Za
   obtain ⟨y,hy⟩: ∃y,l[j]?=some y:=⟨l[j],zaC h2⟩
   obtain ⟨s2,xz,Fi⟩:=yeB zo hy
   obtain ⟨cs,xd,hE,xG⟩:=y8 j y hy
   obtain ⟨pa,pc,xa,xc,ta,tc,ua,uc,rfl,r1,r2,r3⟩:=jG hE
   have xh: ∀(i:Nat) (u:qV),([iI y.kind,iI y.line,.string y.name,.string y.name2,iI y.order,.string y.var,.slice pa y.parts.length pc,.slice xa y.exprs.length xc,.slice ta y.thn.length tc,.slice ua y.els.length uc]:List qV)[i]?=some u->wr.cell? ⟨b,o+j*10+i,none⟩=some u:=fun i u hu=>(hB.ck.bl.cell (p:=⟨b,_,none⟩) hb).trans (xG i u hu)
   have c0:=xh 0 _ rfl
   have c1:=xh 1 _ rfl
   have c2:=xh 2 _ rfl
   have c3:=xh 3 _ rfl
   have c4:=xh 4 _ rfl
   have c5:=xh 5 _ rfl
   have c6:=xh 6 _ rfl
   have c7:=xh 7 _ rfl
   have c8:=xh 8 _ rfl
   have c9:=xh 9 _ rfl
   simp only [Nat.add_zero] at c0
   have xo:=hB.ck.bl.size
   have Kj:b<C:=by have:=hB.ck.le;omega
   have K6:=Zh (fun W (hW:CkW w0 C W vv lv1 s.1 s.2 y.line vs)=>KM.out W lv1 s.1 s.2 y.line y d pa xa ta ua pc xc tc uc s2 hW h0 h1 xz hE)
   have HD:=Zh (fun W (h:CkAt C W vv lv1 s.1 s.2 line1)=>ckbad W h)
   have Gr:=nO _ _ _ _ _ xz
   have KO:=Zh Fi
   clear xh xG hE y8 hB hy xd xz zo Fi
   go_wp2_with (first
    |(go_at_call 51;refine (HD.out _ (HB.out.ck.ck.below Zo)).mono ?_;rintro e w1 ⟨rfl,u'⟩;subst u')
    |(go_at_call 77;refine (K6.out _ ((HB.out.ck.setl y.line).more Zo)).mono ?_;intro e w1 hD;have QB:=Zh hD;obtain ⟨rfl, -⟩:=hD))
   obtain ⟨lv2,line2,yr⟩:=HB.out.step Pv ((Kp.set wr C 3 _).alloc _) QB.out (zal HB.out.len Gr)
   exact ⟨⟨j+1,lv2,s2,line2,by simp,by omega,yr,KO.out⟩,by simp [intOf];omega⟩
end Go.Proofs.YtjmfoeajhiimnaaGreatDoor
