/- Walks. No condition. -/
import Derived.Test.YtjmfoeajhiimnaaGreatDoorG29
set_option maxRecDepth 100000
set_option maxHeartbeats 0
set_option linter.all false
namespace Go.Proofs.YtjmfoeajhiimnaaGreatDoor
open Go.RowKit Go.Sort
def glC(g:GlD):List qV:=[.string g.name,iI g.at_,iI g.len]
theorem ycs:(Tryz.prog.info? 147).map (fun i=>(i.zero,i.size,i.bytes))=some (some (.agg #[.string ⟨#[]⟩,iI 0,iI 0]),3,32):=by kernel_rfl
theorem iW(a z:Int)(hz:0<z):a<=(a+z-1)/z*z:=by
 have h1:=Int.emod_add_mul_ediv (a+z-1) z
 have h2:=Int.emod_lt_of_pos (a+z-1) hz
 rw [Int.mul_comm] at h1
 omega
theorem fu: ∀(l:List VarD) (a:Int),(∀v∈l,0<tySize v.type)->a<=(mapV a l).2
 |[],a,_=>Int.le_refl _
 |v::l,a,h=>by
  have hz:=h v Zg
  have h1:=iW a _ hz
  have h2:=fu l ((a+tySize v.type-1)/tySize v.type*tySize v.type+tySize v.type) (fun v hv=>h v (by simp [hv]))
  simp only [mapV]
  omega
theorem gZ: ∀(l:List VarD) (a:Int),(mapV a l).1.length=l.length
 |[],a=>rfl
 |v::l,a=>by simp [mapV,gZ l]
theorem ee: ∀{l:List VarD} {seen:List qB},varsOk seen l=true->(∀v∈l,∃k z,v.type=scTy k z)-> ∀v∈l,0<tySize v.type
 |[],_,_,_=>by simp
 |v::m,seen,h,hs=>by
  obtain ⟨-, -, -,g4,g5⟩:=eR h
  intro u hu
  rcases List.mem_cons.1 hu with rfl|hu
  ·obtain ⟨k,z,e⟩:=hs u Zg
   rw [e] at g4 ⊢
   have:=(eq g4).2
   show 0<z
   omega
  ·exact ee g5 (fun v hv=>hs v (by simp [hv])) u hu
theorem lH(a:Option Addr)(c:Nat)(l:List VarD)(w:qW)(h:VrsIn w (.slice a l.length c) l)(xr:varsOk [] l=true)(hn:l.length<=32)(hs:(mapV 0 l).2<=65536):qC 30 #[.slice a l.length c] w fun e w'=>
  ∃gv,e= .returned (.tuple #[gv,iI (mapV 0 l).2,iI 0])/\Below w.heap.size w w'/\w'.ownsRow w.heap.size 147 3 gv (mapV 0 l).1.length ((mapV 0 l).1.flatMap glC):=by
 obtain ⟨a',c',he,hl,hc⟩:=h
 simp only [Value.slice.injEq,true_and] at he
 obtain ⟨rfl,rfl⟩:=he
 have HC:=Zh hc
 have zN:=Zh xr
 have xd:=gZ l 0
 obtain ⟨i0,xF,xx,xu,xq⟩:=zan ycs
 generalize hT:mapV 0 l=T at*
 have HT:=Zh hT
 obtain ⟨TL,TN⟩:=T
 simp only at hs xd
 clear hc xr hT
 go_enter Tryz.func30,Tryz.ntmps30
 go_wp2_with fail
 go_loopw [5,6,14] (fun v5 v6 v14 wr=> ∃(j:Nat) (at_:Int) (gs:List GlD),v6=iI at_/\v14=iI j/\j<=l.length/\Below w.heap.size w wr/\0<=at_/\at_<=40*j/\gs.length=j/\Hid (varsOk ((l.take j).map VarD.name) (l.drop j)=true/\(mapV at_ (l.drop j)).2=TN/\gs++(mapV at_ (l.drop j)).1=TL)/\Hid (wr.ownsRow w.heap.size 147 3 v5 j (gs.flatMap glC))) (fun _ _ v14 _=>l.length-(intOf v14).toNat)
 case atStart=>exact ⟨0,0,[],rfl,rfl,zaB _,zaa _ _,by omega,by omega,rfl,Zh ⟨by simpa using zN.out,by simp [HT.out],by simp [HT.out]⟩,Zh (zaX _ _ _ _)⟩
 case round=>
  obtain ⟨j,at_,gs,rfl,rfl,hj,hB,h0,h1,yd,hR,HO⟩:=hrel
  rcases (by omega:j=l.length\/j<l.length) with h2|h2
  ·subst h2
   have HB:=Zh hB
   have y9:=hR.out.2
   rw [List.drop_length] at y9
   simp only [mapV,List.append_nil] at y9
   obtain ⟨rfl,rfl⟩:=y9
   clear hB hR
   go_wp2
   go_returns
   refine ⟨_,rfl,HB.out,?_⟩
   rw [yd]
   exact HO.out
  ·obtain ⟨b,o,rfl,hb,xG⟩:=HC.out Za
   obtain ⟨y,hy⟩: ∃y,l[j]?=some y:=⟨l[j],zaC Za⟩
   obtain ⟨k,z,h3,h4,h5,c0,c1,c2,c3,c4,c5,c6⟩:=xG j y hy
   have zS:=hR.out
   have yy: ∀v∈l,∃k z,v.type=scTy k z:=fun v hv=>by
    obtain ⟨i,hi,rfl⟩:=zaP hv
    obtain ⟨k,z,h3, -⟩:=xG i _ (zaC hi)
    exact ⟨k,z,h3⟩
   rw [nl hy] at zS
   obtain ⟨g1,g2,g3,g4,g5⟩:=eR zS.1
   rw [<-jq hy] at g5
   rw [h3] at g4
   have xh: ∀(n:Nat) (u:qV),w.cell? (aB b n)=some u->wr.cell? (aB b n)=some u:=fun n u hu=>(hB.cell (p:=⟨b,n,none⟩) hb).trans hu
   replace c0:=xh _ _ c0
   replace c1:=xh _ _ c1
   replace c2:=xh _ _ c2
   replace c3:=xh _ _ c3
   replace c4:=xh _ _ c4
   replace c5:=xh _ _ c5
   replace c6:=xh _ _ c6
   have Ia:=Zh (fun W=>oE k z h4 h5 g4 W)
   obtain ⟨yp,DA⟩:=eq g4
   unfold scV at Ia
   have Lh:tySize y.type=z:=by rw [h3];rfl
   have y9:=zS.2
   simp only [mapV,Lh] at y9
   have OC:(at_+z-1)/z*z+z<=TN:=by
    rw [<-y9.1]
    exact fu _ _ (fun v hv=>ee g5 (fun v hv=>yy v (List.mem_of_mem_drop hv)) v hv)
   have HM:Hid (∀a',a'=(at_+z-1)/z*z->(mapV (a'+z) (l.drop (j+1))).2=TN/\(gs++[⟨y.name,65536+a',z⟩])++(mapV (a'+z) (l.drop (j+1))).1=TL):=Zh (fun a' e=>by
    subst e
    exact ⟨y9.1,by rw [<-y9.2];simp⟩)
   have KZ:=Zh g5
   have HB:=Zh hB
   have FR:=hB.size
   have yg:=Zh (fun W (hW:Below wr.heap.size wr W)=>ax HO.out (fun g hg=>hW.block g (HO.out.lt g hg).2))
   clear xh xG hB hy h3 zS y9 hR g1 g2 g3 g4 g5 yy Lh
   rcases DA with rfl|rfl|rfl|rfl|⟨rfl, -⟩
   all_goals
    go_wp2_with (first
     |(go_at_call 52;(with_reducible refine (Ia.out _).mono ?_);rintro e1 w1 ⟨rfl,p4,rfl⟩)
     |(at_builtin;refine bO _ _ 29 147 i0 _ 3 32 Tryz.underlying29 xF xx xu xq rfl Zd rfl rfl w.heap.size _ j (gs.flatMap glC) (yg.out _ Zo) _ _ _ (0,0) (by exact aH ZC) rfl rfl (by rfl) ZD Za Za ZR ?_;intro g cap w2 hown xb xk xE;have xU:=Zh hown;have zE:=Zh xb;clear hown xb xk))
    refine ⟨⟨j+1,_,gs++[_],rfl,by simp,by omega,?_,by omega,by omega,by simp [yd],Zh ⟨KZ.out,(HM.out _ Za).1,(HM.out _ Za).2⟩,Zh ?_⟩,by simp [intOf];omega⟩
    ·refine bX ?_ (yg.out _ ?_) zE.out (zaq _)
     all_goals (repeat (first|with_reducible exact HB.out|with_reducible exact zaa _ _|with_reducible apply ab|with_reducible apply ag|with_reducible apply aG))
    ·have e: ∀g,(gs++[g]).flatMap glC=gs.flatMap glC++glC g:=fun g=>by simp
     rw [e]
     exact xU.out
theorem jZ{α:Type}{w:qW}{B s:Nat}{e:TypeId}{v:qV}{l:List α}{C:α->List qV}(h:w.ownsRow B e s v l.length (l.flatMap C))(hC: ∀x,(C x).length=s):RwAt w (fun _=>True) s (fun x cs=>cs=C x) v l:=by
 have e1:l.flatMap C=(l.map C).flatten:=by simp [List.flatMap]
 rw [e1] at h
 refine dH h (fun c hc=>?_) Zg rfl (fun i x c hx hc=>?_) (fun _ _=>trivial)
 ·obtain ⟨k, -,rfl⟩:=List.mem_map.1 hc
  exact hC k
 ·rw [zaj,hx] at hc
  cases hc
  rfl
theorem yej(nm s:qB)(r:Int)(K:Nat)(w:qW)(h:w.cell? (aB K 0)=some (.string s))(hK:K<w.heap.size):qC 255 #[.agg #[.string nm,iI r],pP K] w (Gives w (.bool (eqB nm s))):=by
 have he:=eqS nm s
 go_enter Tryz.func255,Tryz.ntmps255
 go_wp2
 go_ret
 exact Gives.mk (by rw [<-he];rfl) Z25_
theorem mT{α:Type}{l:List α}{p:α->Bool}{x:α}(h:l.find? p=some x): ∃i:Nat,l[i]?=some x/\p x=true/\ ∀j y,j<i->l[j]?=some y->p y=false:=by
 rw [List.find?_eq_some_iff_getElem] at h
 obtain ⟨h1,i,hi,h2,h3⟩:=h
 refine ⟨i,by rw [zaC hi,h2],h1,fun j y hj hy=>?_⟩
 have:=h3 j hj
 obtain ⟨hl,rfl⟩:=List.getElem?_eq_some_iff.1 hy
 simpa using this
theorem yb8(v:qV)(l:List (qB×Int))(s:qB)(x:qB×Int)(i:Nat)(hx:l[i]?=some x)(he:eqB x.1 s=true)(xW: ∀j y,j<i->l[j]?=some y->eqB y.1 s=false)(hl:l.length<=1000000)(K:Nat)(w:qW)(h:RwAt w (fun _=>True) 2 (fun x cs=>cs=locC x) v l)(hK:w.cell? (aB K 0)=some (.string s))(yc:K<w.heap.size):
  qC 254 #[v,.func (.func 255) #[] #[pP K]] w (Gives w (iI i)):=by
 obtain ⟨a,c,rfl, -, -,hc⟩:=h
 have HC:=Zh hc
 have HN:=Zh xW
 have HX:=Zh hx
 have HE:=Zh he
 have Dl:=(List.getElem?_eq_some_iff.1 hx).1
 have Br:=Zh (fun nm r (W:qW) (hW:Below w.heap.size w W)=>yej nm s r K W ((hW.cell (p:=⟨K,0,none⟩) yc).trans hK) (zar yc hW.size))
 clear hc xW hx he hK
 go_enter Tryz.func254,Tryz.ntmps254
 go_wp2_with fail
 go_loopw [8] (fun v8 wr=> ∃j:Nat,v8=iI j/\j<=i/\Below w.heap.size w wr) (fun v8 _=>l.length-(intOf v8).toNat)
 case atStart=>exact ⟨0,rfl,zaB _,zaa _ _⟩
 case round=>
  obtain ⟨j,rfl,hj,hB⟩:=hrel
  obtain ⟨b,o,rfl, -,hb,xG⟩:=HC.out Za
  obtain ⟨y,hy⟩: ∃y,l[j]?=some y:=⟨l[j],zaC Za⟩
  obtain ⟨cs, -,rfl,xm⟩:=xG j y hy
  have c0:wr.cell? ⟨b,o+j*2,none⟩=some (.string y.1):=(hB.cell (p:=⟨b,_,none⟩) hb).trans (xm 0 _ rfl)
  have c1:wr.cell? ⟨b,o+j*2+1,none⟩=some (iI y.2):=(hB.cell (p:=⟨b,_,none⟩) hb).trans (xm 1 _ rfl)
  have HB:=Zh hB
  have HY:=Zh hy
  clear xG xm hB hy
  rcases (by omega:j=i\/j<i) with h1|h1
  ·subst h1
   obtain rfl:y=x:=zae (HY.out.symm.trans HX.out)
   have hq:=HE.out
   go_wp2_with (go_at_call 255;refine (Br.out y.1 y.2 _ HB.out).mono ?_;rintro e w1 ⟨rfl,p,rfl⟩)
   go_ret
   exact Gives.mk rfl (aG HB.out p)
  ·have hq:=HN.out j y h1 HY.out
   go_wp2_with (go_at_call 255;refine (Br.out y.1 y.2 _ HB.out).mono ?_;rintro e w1 ⟨rfl,p,rfl⟩)
   refine ⟨⟨j+1,by simp,by omega,aG HB.out p⟩,by simp [intOf];omega⟩
section
variable{w0 W W':qW}{M a b c:Nat}{vv wv:qV}{s:LS}
theorem Mk.locs(h:Mk w0 M a b c vv wv W s): ∃lv,W.cell? (aB M 7)=some lv/\RwAt W (fun _=>True) 2 (fun x cs=>cs=locC x) lv s.locals:=by
 obtain ⟨ov,sv,lv,xs,ho, -⟩:=h.ob
 refine ⟨lv,aa ho.out 7,?_⟩
 have:=ho.own ⟨7,334,2,s.locals.length,s.locals.flatMap locC⟩ (by simp [mkR])
 exact jZ this (fun _=>rfl)
theorem RwAt.below{α:Type}{w w':qW}{ok:Nat->Prop}{n:Nat}{El:α->List qV->Prop}{v:qV}{l:List α}(h:RwAt w ok n El v l)(hb:Below w.heap.size w w'):RwAt w' ok n El v l:=h.keep hb.size (fun b yn hl=>⟨yn,hb.block b hl⟩) (fun _ _ _ h=>h)
theorem mS(w:qW)(h:Mk w0 M a b c vv wv w s)(x:qB)(r:Int)(hr:lFind s x=some r):qC 197 #[pP M,.string x] w (Gives w (iI r)):=by
 obtain ⟨lv,OV,xn⟩:=h.locs
 have j':=h.bd
 have hn:=h.nums.locals
 have yS:=h.nums.fin.regs
 unfold lFind at hr
 rcases hf:s.locals.find? (fun l=>eqB l.1 x) with _|q
 ·rw [hf] at hr
  cases hr
 rw [hf] at hr
 simp only [Option.map_some,zaA] at hr
 obtain ⟨i,hi,he,xW⟩:=mT hf
 have HI:=Zh (fun K W (hW:Below w.heap.size w W) hK yc=>yb8 lv s.locals x q i hi he xW Za K W (xn.below hW) hK yc)
 obtain ⟨la,lc,rfl, -, -,y8⟩:=xn
 have Dl:=(List.getElem?_eq_some_iff.1 hi).1
 obtain ⟨lb,lo,rfl, -,Oo,Cg⟩:=y8 Za
 obtain ⟨cs, -,rfl,xm⟩:=Cg i q hi
 have c1:w.cell? ⟨lb,lo+i*2+1,none⟩=some (iI q.2):=xm 1 _ rfl
 subst hr
 clear Cg xm hf hi he xW h y8
 go_enter Tryz.func197,Tryz.ntmps197
 go_wp2_with (first
  |(go_at_call 254;refine (HI.out _ _ Zr ZC ZC).mono ?_;rintro e w1 ⟨rfl,p,rfl⟩))
 go_ret
 exact Gives.mk rfl Zr
end
theorem yaC(n:Int)(w:qW):qC 286 #[iI n,iI 16] w fun e w'=> ∃r:Int,e= .returned (iI r)/\1<=r/\r<=16/\w'=w:=by
 go_enter Tryz.func286,Tryz.ntmps286
 go_wp2_with fail
 go_loopw [1] (fun v1 wr=>wr=w/\ ∃m:Int,v1=iI m/\(m=16\/m=8\/m=4\/m=2\/m=1)) (fun v1 _=>(intOf v1).toNat)
 case atStart=>exact ⟨rfl,16,rfl,.inl rfl⟩
 case round=>
  obtain ⟨rfl,m,rfl,hm⟩:=hrel
  rcases hm with rfl|rfl|rfl|rfl|rfl
  all_goals
   go_wp2
   all_goals (first
    |(refine ⟨⟨trivial,_,rfl,by simp⟩,by simp [intOf]⟩;done)
    |(go_ret;exact ⟨_,rfl,by omega,by omega,rfl⟩))
def sameN(vs:List VarD)(gl:List GlD):Prop:=gl.map GlD.name=vs.map VarD.name
theorem lI: ∀(l:List VarD) (a:Int),sameN l (mapV a l).1
 |[],a=>rfl
 |v::l,a=>by
  have:=lI l ((a+tySize v.type-1)/tySize v.type*tySize v.type+tySize v.type)
  unfold sameN at*
  simp [mapV,this]
theorem yei(nm s:qB)(k z:Int)(K:Nat)(w:qW)(h:w.cell? (aB K 0)=some (.string s))(hK:K<w.heap.size):qC 283 #[.agg #[.string nm,iI k,iI z,.bool false,.slice none 0 0,iI 0,.slice none 0 0],pP K] w (Gives w (.bool (eqB nm s))):=by
 have he:=eqS nm s
 go_enter Tryz.func283,Tryz.ntmps283
 go_wp2
 go_ret
 exact Gives.mk (by rw [<-he];rfl) Z25_
theorem yb4(v:qV)(l:List VarD)(s:qB)(x:VarD)(i:Nat)(hx:l[i]?=some x)(he:eqB x.name s=true)(xW: ∀j y,j<i->l[j]?=some y->eqB y.name s=false)(K:Nat)(w:qW)(h:VrsIn w v l)(hK:w.cell? (aB K 0)=some (.string s))(yc:K<w.heap.size):
  qC 119 #[v,.func (.func 283) #[] #[pP K]] w (Gives w (iI i)):=by
 obtain ⟨a,c,rfl,hl,hc⟩:=h
 have HC:=Zh hc
 have HN:=Zh xW
 have HX:=Zh hx
 have HE:=Zh he
 have Dl:=(List.getElem?_eq_some_iff.1 hx).1
 have Br:=Zh (fun nm k z (W:qW) (hW:Below w.heap.size w W)=>yei nm s k z K W ((hW.cell (p:=⟨K,0,none⟩) yc).trans hK) (zar yc hW.size))
 clear hc xW hx he hK
 go_enter Tryz.func119,Tryz.ntmps119
 go_wp2_with fail
 go_loopw [8] (fun v8 wr=> ∃j:Nat,v8=iI j/\j<=i/\Below w.heap.size w wr) (fun v8 _=>l.length-(intOf v8).toNat)
 case atStart=>exact ⟨0,rfl,zaB _,zaa _ _⟩
 case round=>
  obtain ⟨j,rfl,hj,hB⟩:=hrel
  obtain ⟨b,o,rfl,hb,xG⟩:=HC.out Za
  obtain ⟨y,hy⟩: ∃y,l[j]?=some y:=⟨l[j],zaC Za⟩
  obtain ⟨k,z,h3,h4,h5,c0,c1,c2,c3,c4,c5,c6⟩:=xG j y hy
  have xh: ∀(n:Nat) (u:qV),w.cell? (aB b n)=some u->wr.cell? (aB b n)=some u:=fun n u hu=>(hB.cell (p:=⟨b,n,none⟩) hb).trans hu
  replace c0:=xh _ _ c0
  replace c1:=xh _ _ c1
  replace c2:=xh _ _ c2
  replace c3:=xh _ _ c3
  replace c4:=xh _ _ c4
  replace c5:=xh _ _ c5
  replace c6:=xh _ _ c6
  have HB:=Zh hB
  have HY:=Zh hy
  clear xh xG hB hy h3
  rcases (by omega:j=i\/j<i) with h1|h1
  ·subst h1
   obtain rfl:y=x:=zae (HY.out.symm.trans HX.out)
   have hq:=HE.out
   go_wp2_with (go_at_call 283;refine (Br.out y.name k z _ HB.out).mono ?_;rintro e w1 ⟨rfl,p,rfl⟩)
   go_ret
   exact Gives.mk rfl (aG HB.out p)
  ·have hq:=HN.out j y h1 HY.out
   go_wp2_with (go_at_call 283;refine (Br.out y.name k z _ HB.out).mono ?_;rintro e w1 ⟨rfl,p,rfl⟩)
   refine ⟨⟨j+1,by simp,by omega,aG HB.out p⟩,by simp [intOf];omega⟩
structure LoB(w0:qW)(vv wv:qV)(vs:List VarD)(gl:List GlD):Prop where
 vr:VrsIn w0 vv vs
 gr:RwAt w0 okA 3 (fun g cs=>cs=glC g) wv gl
 nm:sameN vs gl
 at_: ∀g∈gl,0<=g.at_/\g.at_<=1000000/\1<=g.len/\g.len<=16
theorem rC{vs:List VarD}{gl:List GlD}(hn:sameN vs gl){x:qB}{g:GlD}(h:gl.find? (fun g=>eqB g.name x)=some g): ∃(i:Nat) (v:VarD),vs[i]?=some v/\gl[i]?=some g/\eqB v.name x=true/\ ∀j y,j<i->vs[j]?=some y->eqB y.name x=false:=by
 obtain ⟨i,hi,he,xW⟩:=mT h
 have xd:gl.length=vs.length:=by have:=congrArg List.length hn;simpa using this
 have Dl:=(List.getElem?_eq_some_iff.1 hi).1
 have Gi: ∀(j:Nat) (y:VarD) (g:GlD),vs[j]?=some y->gl[j]?=some g->g.name=y.name:=fun j y g hy hg=>by
  have:=congrArg (fun l:List qB=>l[j]?) hn
  simpa [zaj,hy,hg] using this
 refine ⟨i,vs[i],zaC Za,hi,?_,fun j y hj hy=>?_⟩
 ·rw [<-Gi i _ g (zaC Za) hi]
  exact he
 ·have zh:j<gl.length:=by omega
  rw [<-Gi j y gl[j] hy (zaC zh)]
  exact xW j _ hj (zaC zh)
section
variable{w0 W W':qW}{M a b c:Nat}{vv wv:qV}{s:LS}{vs:List VarD}{gl:List GlD}
theorem kC(hL:LoB w0 vv wv vs gl)(w:qW)(h:Mk w0 M a b c vv wv w s)(var:qB)(g:GlD)(hg:gl.find? (fun g=>eqB g.name var)=some g)(pa:Option Addr)(pc:Nat):
  qC 256 #[pP M,.agg #[.string var,.slice pa 0 pc]] w fun e w'=> ∃al:Int,Gives w (.agg #[iI g.at_,iI g.len,iI 0,.bool false,iI 0,iI 0,iI (-1),iI al]) e w':=by
 obtain ⟨i,x,hx,EJ,he,xW⟩:=rC hL.nm hg
 have xk:=hL.at_ g (zat EJ)
 have Ba:VrsIn w vv vs:=hL.vr.below h.bl
 obtain ⟨ov,sv,lv,i',pi⟩:=h.rules
 have j':=h.bd
 have HI:=Zh (fun K W (hW:Below w.heap.size w W) hK yc=>yb4 vv vs var x i hx he xW K W (Ba.below hW) hK yc)
 obtain ⟨va,vc,rfl, -,Ir⟩:=hL.vr
 have Dl:=(List.getElem?_eq_some_iff.1 hx).1
 have yd:=(List.getElem?_eq_some_iff.1 EJ).1
 obtain ⟨vb,vo,rfl,QO,Ir⟩:=Ir Za
 obtain ⟨k,z, -, -, -, -,c1,c2,c3,c4,c5,c6⟩:=Ir i x hx
 obtain ⟨ga,gc,rfl, -, -,yY⟩:=hL.gr
 obtain ⟨gb,go,rfl, -,CN,yY⟩:=yY Za
 obtain ⟨cs, -,rfl,Fr⟩:=yY i g EJ
 have g1:w0.cell? ⟨gb,go+i*3+1,none⟩=some (iI g.at_):=Fr 1 _ rfl
 have g2:w0.cell? ⟨gb,go+i*3+2,none⟩=some (iI g.len):=Fr 2 _ rfl
 clear Fr yY Ir hx EJ he xW hg Ba hL h
 go_enter Tryz.func256,Tryz.ntmps256
 go_wp2_with (first
  |(go_at_call 119;refine (HI.out _ _ Zr (by simp [go_sem,↓IntWalk.iteOmega]) ZC).mono ?_;rintro e w1 ⟨rfl,p,rfl⟩))
 refine zao 1 ?_
 rw [zap]
 go_wp2_with fail
 refine aS (R:=fun W=>Below w.heap.size w W/\W.heap[w.heap.size+1+1+p.os.size+1]?=some (.cells #[iI g.at_,iI g.len,iI 0,.bool false,iI 0,iI 0,iI (-1),iI 16] 390 (0,0))/\W.heap[w.heap.size+1]?=some (.cells #[iI 0,iI 0,iI 0,.bool false,iI 0,iI 0,iI 0,iI 0] 390 (0,0))) ⟨Zr,aH ZC,?_⟩ ?_
 ·rw [zac _ _ ZN,zac _ _ ZN,ch _ _ _ (by simp;try omega)]
  exact aH Zg
 rintro W ⟨hB,h7,h4⟩
 obtain ⟨V,hV,yD⟩: ∃V,W=putB (putB V (w.heap.size+1+1+p.os.size+1) #[iI g.at_,iI g.len,iI 0,.bool false,iI 0,iI 0,iI (-1),iI 16] 390) (w.heap.size+1) #[iI 0,iI 0,iI 0,.bool false,iI 0,iI 0,iI 0,iI 0] 390/\Below w.heap.size w V:=⟨W,by rw [bE h7,bE h4],hB⟩
 have Fj:=ac h7
 clear h7 h4 hB i' pi
 subst hV
 simp only [aN] at Fj
 have QS:w.heap.size+1+1+p.os.size+1<V.drew.heap.size:=Fj
 have hA:(putB (putB V (w.heap.size+1+1+p.os.size+1) #[iI g.at_,iI g.len,iI 0,.bool false,iI 0,iI 0,iI (-1),iI 16] 390) (w.heap.size+1) #[iI 0,iI 0,iI 0,.bool false,iI 0,iI 0,iI 0,iI 0] 390).drew.cell? ⟨w.heap.size+1+1+p.os.size+1,0,none⟩=some (iI g.at_):=by simp [go_sem,↓IntWalk.iteOmega]
 have hB:(putB (putB V (w.heap.size+1+1+p.os.size+1) #[iI g.at_,iI g.len,iI 0,.bool false,iI 0,iI 0,iI (-1),iI 16] 390) (w.heap.size+1) #[iI 0,iI 0,iI 0,.bool false,iI 0,iI 0,iI 0,iI 0] 390).drew.cell? ⟨w.heap.size+1+1+p.os.size+1,7,none⟩=some (iI 16):=by simp [go_sem,↓IntWalk.iteOmega]
 refine ae (fun W=>W.cell? ⟨w.heap.size+1+1+p.os.size+1,0,none⟩=some (iI g.at_)) (fun W=>W.cell? ⟨w.heap.size+1+1+p.os.size+1,7,none⟩=some (iI 16)) 9 rfl ?_
 refine Zp 0 rfl (h:=Zl 1 [7,9] rfl (h:=Zp 2 rfl (h:=Zp 3 rfl (h:=Zp 4 rfl (h:=Zt 5 rfl (h:=?_))))));try simp only [Zq]
 refine Zs 6 rfl fun K hK=>?_
 go_simp
 go_at_call 286
 refine (yaC _ _).mono ?_
 rintro e w1 ⟨r,rfl,yh,yL,u'⟩
 subst u'
 refine hK _ _ ⟨?_,fun _=>?_⟩ ?_
 ·simp [go_sem,↓IntWalk.iteOmega]
 ·simp [go_sem,↓IntWalk.iteOmega]
 refine Zp 7 rfl (h:=Zp 8 rfl (h:=?_));try simp only [Zq]
 refine Zs 9 rfl fun K hK=>?_
 go_simp
 try simp [go_sem,↓IntWalk.iteOmega]
 refine hK _ _ ⟨?_,fun hh=>Bool.noConfusion (hh.symm.trans (show _=true by kernel_rfl))⟩ ?_
 ·simp [go_sem,↓IntWalk.iteOmega]
 refine af Zb ?_ _
 clear hA hB hK K
 go_wp2_with fail
 (try simp only [Exit.inBlock,Exit.then]);refine zad (by simp [results,Tryz.results256,go_sem,↓IntWalk.iteOmega];try rfl) rfl ?_
 exact ⟨_,Gives.mk rfl (eO (eO (fI yD) Za _ _) Za _ _)⟩
theorem iN(w:qW)(h:Mk w0 M a b c vv wv w s)(A:Nat)(len al:Int)(hA:A<=1000000)(hf:LFin (lNumber A s).2):
  qC 257 #[pP M,.agg #[iI A,iI len,iI 0,.bool false,iI 0,iI 0,iI (-1),iI al]] w (MkD w0 M a b c vv wv w (lNumber A s).2 (iI (lNumber A s).1)):=by
 obtain ⟨ov,sv,lv,i',pi⟩:=h.rules
 have j':=h.bd
 have yb:=j'
 have HM:=Zh (MkA.begin h)
 have u':IntKind.u64.wrap (A:Int)=A:=IntWalk.u64_in _ Za
 clear h
 go_enter Tryz.func257,Tryz.ntmps257
 go_wp2_with (first
  |(go_at_call 250;refine (lj _ (Zj:MkA _ _ _ _ _ _ _ w _ _ _ _ _).mkr A hf).mono ?_;intro e w1 hD;have hN:=MkA.nx hD Zj;clear hD HM;(try clear i' pi);obtain ⟨rfl,a1,b1,c1,ov,sv,lv,i',pi,j',HM,hm,hT,hrel⟩:=hN;(try simp only [Zz] at hrel hm);(repeat ((first|((first|(with_reducible obtain ⟨hx,hy,xg,hT⟩:=aw (lo:=w.heap.size) hT Zv hrel Zc Zi)|(with_reducible obtain ⟨hx,hy,xg,hT⟩:=av (lo:=w.heap.size) hT Zx hrel Zc Zi));(try simp only [Zz] at hx hy xg);rw [hx];clear hx)|(with_reducible replace hT:=hT.unmo)|(with_reducible replace hT:=hT.undr))));clear hT hrel))
 go_ret
 exact ZO
end
theorem jC:(Tryz.prog.info? 67).map (fun i=>(i.zero,i.size,i.bytes))=some (some (.agg #[iI 0,iI 0]),2,16):=by kernel_rfl
theorem rz(a l:Int)(h0:0<=a)(h1:a<=1000000)(h2:1<=l)(h3:l<=16)(w:qW):qC 277 #[.agg #[iI a,iI l]] w (Gives w (.bool true)):=by
 go_enter Tryz.func277,Tryz.ntmps277
 go_wp2
 go_ret
 exact Gives.mk Zk Zr
def OneS(w:qW)(a l:Int)(e:Ending)(w':qW):Prop:= ∃g c,e= .returned (.slice (aA g) 1 c)/\Below w.heap.size w w'/\w.heap.size<=g/\g<w'.heap.size/\w'.cell? (aB g 0)=some (iI a)/\w'.cell? (aB g 1)=some (iI l)
theorem uD(a l:Int)(h0:0<=a)(h1:a<=1000000)(hl:l=1\/l=2\/l=4\/l=8)(hm:a.tmod l=0)(w:qW):qC 296 #[.agg #[iI a,iI l]] w (OneS w a l):=by
 have HS:=Zh (fun W=>rz a l h0 h1 Za Za W)
 obtain ⟨i0,xF,xx,xu,xq⟩:=zan jC
 rcases hl with rfl|rfl|rfl|rfl
 ·go_enter Tryz.func296,Tryz.ntmps296
  go_wp2_with (first
   |(go_at_call 277;refine (HS.out _).mono ?_;rintro e w1 ⟨rfl,p,rfl⟩))
  refine zao 2 ?_
  rw [zap]
  go_wp2_with fail
  refine zao 4 ?_
  iterate 3 (rw [zap];go_wp2_with fail)
  rw [zap]
  go_wp2_with (at_builtin;refine bO _ _ 417 67 i0 _ 2 16 Tryz.underlying417 xF xx xu xq rfl Zd rfl rfl w.heap.size _ 0 [] (zaX _ _ _ _) _ _ _ (0,0) (by exact aH ZC) rfl rfl (by rfl) ZD Za Za ZR ?_;intro g cap w2 hown xb xk xE;have hG:=cT xk;simp only [ar,aZ] at hG;have k0:=hown.cells (g:=g) rfl 0 _ rfl;have k1:=hown.cells (g:=g) rfl 1 _ rfl;simp only [Addr.add,zag] at k0 k1;have zE:=Zh xb;have AF: ∀i,w2.cell? (aB w.heap.size i)=_:=fun i=>World.cell?_of_block (a:=⟨w.heap.size,i,none⟩) (xb.block w.heap.size ZN (by simp [Value.ownBlock]));have EK: ∀i,w2.frozen? (aB w.heap.size i)=_:=fun i=>World.frozen?_of_block (a:=⟨w.heap.size,i,none⟩) (xb.block w.heap.size ZN (by simp [Value.ownBlock]));simp [go_sem,↓IntWalk.iteOmega] at AF EK;clear hown xb xk)
  rw [zap]
  go_wp2_with fail
  go_ret
  have yF:=(Zr:Below w.heap.size w _).grown zE.out ZN (fun g hg=>by simp [Value.ownBlock] at hg)
  refine ⟨g,cap,rfl,(yF.setCell (zaq _) _).setCell (zaq _) _,by omega,by simpa using xE,?_,?_⟩
  ·rw [zaH _ _ _ _ (fun e=>by have:=congrArg Addr.block e;simp only at this;omega),zaH _ _ _ _ (fun e=>by have:=congrArg Addr.block e;simp only at this;omega)]
   exact k0
  ·rw [zaH _ _ _ _ (fun e=>by have:=congrArg Addr.block e;simp only at this;omega),zaH _ _ _ _ (fun e=>by have:=congrArg Addr.block e;simp only at this;omega)]
   exact k1
 ·go_enter Tryz.func296,Tryz.ntmps296
  go_wp2_with (first
   |(go_at_call 277;refine (HS.out _).mono ?_;rintro e w1 ⟨rfl,p,rfl⟩))
  refine zao 2 ?_
  rw [zap]
  go_wp2_with fail
  refine zao 3 ?_
  iterate 2 (rw [zap];go_wp2_with fail)
  rw [zap]
  go_wp2_with (at_builtin;refine bO _ _ 417 67 i0 _ 2 16 Tryz.underlying417 xF xx xu xq rfl Zd rfl rfl w.heap.size _ 0 [] (zaX _ _ _ _) _ _ _ (0,0) (by exact aH ZC) rfl rfl (by rfl) ZD Za Za ZR ?_;intro g cap w2 hown xb xk xE;have hG:=cT xk;simp only [ar,aZ] at hG;have k0:=hown.cells (g:=g) rfl 0 _ rfl;have k1:=hown.cells (g:=g) rfl 1 _ rfl;simp only [Addr.add,zag] at k0 k1;have zE:=Zh xb;have AF: ∀i,w2.cell? (aB w.heap.size i)=_:=fun i=>World.cell?_of_block (a:=⟨w.heap.size,i,none⟩) (xb.block w.heap.size ZN (by simp [Value.ownBlock]));have EK: ∀i,w2.frozen? (aB w.heap.size i)=_:=fun i=>World.frozen?_of_block (a:=⟨w.heap.size,i,none⟩) (xb.block w.heap.size ZN (by simp [Value.ownBlock]));simp [go_sem,↓IntWalk.iteOmega] at AF EK;clear hown xb xk)
  rw [zap]
  go_wp2_with fail
  go_ret
  have yF:=(Zr:Below w.heap.size w _).grown zE.out ZN (fun g hg=>by simp [Value.ownBlock] at hg)
  refine ⟨g,cap,rfl,(yF.setCell (zaq _) _).setCell (zaq _) _,by omega,by simpa using xE,?_,?_⟩
  ·rw [zaH _ _ _ _ (fun e=>by have:=congrArg Addr.block e;simp only at this;omega),zaH _ _ _ _ (fun e=>by have:=congrArg Addr.block e;simp only at this;omega)]
   exact k0
  ·rw [zaH _ _ _ _ (fun e=>by have:=congrArg Addr.block e;simp only at this;omega),zaH _ _ _ _ (fun e=>by have:=congrArg Addr.block e;simp only at this;omega)]
   exact k1
 ·go_enter Tryz.func296,Tryz.ntmps296
  go_wp2_with (first
   |(go_at_call 277;refine (HS.out _).mono ?_;rintro e w1 ⟨rfl,p,rfl⟩))
  refine zao 2 ?_
  rw [zap]
  go_wp2_with fail
  refine zao 2 ?_
  iterate 1 (rw [zap];go_wp2_with fail)
  rw [zap]
  go_wp2_with (at_builtin;refine bO _ _ 417 67 i0 _ 2 16 Tryz.underlying417 xF xx xu xq rfl Zd rfl rfl w.heap.size _ 0 [] (zaX _ _ _ _) _ _ _ (0,0) (by exact aH ZC) rfl rfl (by rfl) ZD Za Za ZR ?_;intro g cap w2 hown xb xk xE;have hG:=cT xk;simp only [ar,aZ] at hG;have k0:=hown.cells (g:=g) rfl 0 _ rfl;have k1:=hown.cells (g:=g) rfl 1 _ rfl;simp only [Addr.add,zag] at k0 k1;have zE:=Zh xb;have AF: ∀i,w2.cell? (aB w.heap.size i)=_:=fun i=>World.cell?_of_block (a:=⟨w.heap.size,i,none⟩) (xb.block w.heap.size ZN (by simp [Value.ownBlock]));have EK: ∀i,w2.frozen? (aB w.heap.size i)=_:=fun i=>World.frozen?_of_block (a:=⟨w.heap.size,i,none⟩) (xb.block w.heap.size ZN (by simp [Value.ownBlock]));simp [go_sem,↓IntWalk.iteOmega] at AF EK;clear hown xb xk)
  rw [zap]
  go_wp2_with fail
  go_ret
  have yF:=(Zr:Below w.heap.size w _).grown zE.out ZN (fun g hg=>by simp [Value.ownBlock] at hg)
  refine ⟨g,cap,rfl,(yF.setCell (zaq _) _).setCell (zaq _) _,by omega,by simpa using xE,?_,?_⟩
  ·rw [zaH _ _ _ _ (fun e=>by have:=congrArg Addr.block e;simp only at this;omega),zaH _ _ _ _ (fun e=>by have:=congrArg Addr.block e;simp only at this;omega)]
   exact k0
  ·rw [zaH _ _ _ _ (fun e=>by have:=congrArg Addr.block e;simp only at this;omega),zaH _ _ _ _ (fun e=>by have:=congrArg Addr.block e;simp only at this;omega)]
   exact k1
 ·go_enter Tryz.func296,Tryz.ntmps296
  go_wp2_with (first
   |(go_at_call 277;refine (HS.out _).mono ?_;rintro e w1 ⟨rfl,p,rfl⟩))
  refine zao 2 ?_
  rw [zap]
  go_wp2_with fail
  refine zao 1 ?_
  rw [zap]
  go_wp2_with (at_builtin;refine bO _ _ 417 67 i0 _ 2 16 Tryz.underlying417 xF xx xu xq rfl Zd rfl rfl w.heap.size _ 0 [] (zaX _ _ _ _) _ _ _ (0,0) (by exact aH ZC) rfl rfl (by rfl) ZD Za Za ZR ?_;intro g cap w2 hown xb xk xE;have hG:=cT xk;simp only [ar,aZ] at hG;have k0:=hown.cells (g:=g) rfl 0 _ rfl;have k1:=hown.cells (g:=g) rfl 1 _ rfl;simp only [Addr.add,zag] at k0 k1;have zE:=Zh xb;have AF: ∀i,w2.cell? (aB w.heap.size i)=_:=fun i=>World.cell?_of_block (a:=⟨w.heap.size,i,none⟩) (xb.block w.heap.size ZN (by simp [Value.ownBlock]));have EK: ∀i,w2.frozen? (aB w.heap.size i)=_:=fun i=>World.frozen?_of_block (a:=⟨w.heap.size,i,none⟩) (xb.block w.heap.size ZN (by simp [Value.ownBlock]));simp [go_sem,↓IntWalk.iteOmega] at AF EK;clear hown xb xk)
  rw [zap]
  go_wp2_with fail
  go_ret
  have yF:=(Zr:Below w.heap.size w _).grown zE.out ZN (fun g hg=>by simp [Value.ownBlock] at hg)
  refine ⟨g,cap,rfl,(yF.setCell (zaq _) _).setCell (zaq _) _,by omega,by simpa using xE,?_,?_⟩
  ·rw [zaH _ _ _ _ (fun e=>by have:=congrArg Addr.block e;simp only at this;omega),zaH _ _ _ _ (fun e=>by have:=congrArg Addr.block e;simp only at this;omega)]
   exact k0
  ·rw [zaH _ _ _ _ (fun e=>by have:=congrArg Addr.block e;simp only at this;omega),zaH _ _ _ _ (fun e=>by have:=congrArg Addr.block e;simp only at this;omega)]
   exact k1
theorem spieces(a l al:Int)(h0:0<=a)(h1:a<=1000000)(hl:l=1\/l=2\/l=4\/l=8)(hm:a.tmod l=0)(w:qW):qC 287 #[.agg #[iI a,iI l,iI 0,.bool false,iI 0,iI 0,iI (-1),iI al]] w (OneS w 0 l):=by
 have HP:=Zh (fun W=>uD a l h0 h1 hl hm W)
 obtain ⟨i0,xF,xx,xu,xq⟩:=zan jC
 clear hm
 go_enter Tryz.func287,Tryz.ntmps287
 go_wp2_with (first
  |(go_at_call 296;refine (HP.out _).mono ?_;rintro e w1 ⟨g,c,rfl,hB,xy,Ag,k0,k1⟩;have AF:=fun i=>hB.cell (p:=⟨w.heap.size,i,none⟩) Zg;have yK:=hB.size;simp [go_sem,↓IntWalk.iteOmega] at AF yK xy;have HB:=Zh hB;clear hB))
 refine zao 2 ?_
 rw [zap]
 go_wp2_with (at_builtin;refine bO _ _ 417 67 i0 _ 2 16 Tryz.underlying417 xF xx xu xq rfl Zd rfl rfl w.heap.size _ 0 [] (zaX _ _ _ _) _ _ _ (0,0) (by exact aH ZC) rfl rfl (by rfl) ZD Za Za ZR ?_;intro g3 cap w2 hown xb xk xE;have hG:=cT xk;simp only [ar,aZ] at hG;have q0:=hown.cells (g:=g3) rfl 0 _ rfl;have q1:=hown.cells (g:=g3) rfl 1 _ rfl;simp only [Addr.add,zag] at q0 q1;have zE:=Zh xb;clear hown xb xk)
 rw [zap]
 go_wp2_with fail
 go_ret
 have yF:=ab (an (ab (zaa w.heap.size w) _) HB.out Zg) (.cells #[iI a,iI l] 67)
 have Kj:=(ab yF (.cells #[iI 0,iI l] 67)).grown zE.out ZN (fun g hg=>by simp [Value.ownBlock] at hg)
 exact ⟨g3,cap,rfl,Kj,by omega,by omega,q0,q1⟩
theorem yfD:(Tryz.prog.info? 397).map (fun i=>(i.zero,i.size,i.bytes))=some (some (.agg #[iI 0,iI 0,iI 0,.string ⟨#[]⟩,.slice none 0 0]),5,64):=by kernel_rfl
section
variable{w0 W W':qW}{M a b c:Nat}{vv wv:qV}{s:LS}
theorem Mk.app1{ov sv lv:qV}{xs:List qV}{ob:Obj}{w2:qW}{g cap:Nat}{k o:Int}{var:qB}{parts:List PartD}{cs:List qV}(h:Mk w0 M a b c vv wv W s)(ho:Ob M 206 (mkC vv wv ov sv lv s) (mkR s xs) W)(ea:ownN M ov=a)(eb:ownN M sv=b)(ec:ownN M lv=c)(hf:LFin (lSite k o var parts s).2)
  (xb:(W.drew.alloc ob).grownBy w2 sv.ownBlock) (hown:w2.ownsRow (M+1) 397 5 (.slice (aA g) (s.sites.length+1) cap) (s.sites.length+1) (xs++cs)) (xk:sv.ownBlock=some g\/g=(W.drew.alloc ob).heap.size) {r:qV}:
  MkD w0 M a b c vv wv W (lSite k o var parts s).2 r (.returned r) (w2.setCell ⟨M,5,none⟩ (.slice (aA g) (s.sites.length+1) cap)):=by
 subst ea eb ec
 have wZ:Kp (fun k=>sv.ownBlock=some k) (W.drew.alloc ob) w2:=(Kp.of_grown xb).mono (fun k _ e=>e.symm)
 have ym:Kp (fun k=>sv.ownBlock=some k) W w2:=((Kp.dr W).trans (Kp.al _ ob)).trans wZ
 have hg: ∀k,(Value.slice (aA g) (s.sites.length+1) cap).ownBlock=some k->(fld (mkC vv wv ov sv lv s) 5).ownBlock=some k\/W.heap.size<=k:=fun k hk=>by
  obtain rfl:g=k:=by simpa [Value.ownBlock] using hk
  rcases xk with e|e
  ·exact .inl e
  ·right
   simp only [Zz] at e
   omega
 obtain ⟨p1,p2,p3⟩:=ho.put (r:=⟨5,397,5,s.sites.length,xs⟩) (by simp [mkR]) (by simp [mkC]) ym hown hg
 have xp:Kp (fun k=>k=M\/k=ownN M ov\/k=ownN M sv\/k=ownN M lv) W (w2.setCell ⟨M,5,none⟩ (.slice (aA g) (s.sites.length+1) cap)):=p2.mono (fun k _ hk=>by
  rcases de.1 hk with e|e|e|e
  ·exact .inl e
  ·exact .inr (.inl (bn e))
  ·exact .inr (.inr (.inl (bn e)))
  ·exact .inr (.inr (.inr (bn e))))
 have j':=h.bd
 have hb:=h.bl
 refine ⟨rfl,_,g,_,⟨⟨ov,.slice (aA g) (s.sites.length+1) cap,lv,xs++cs,?_,rfl,by simp [ownN,Value.ownBlock],rfl⟩,?_,h.le,h.nums.site k o var parts hf⟩,xp,.inl rfl,?_,.inl rfl⟩
 ·have e1:(mkC vv wv ov sv lv s).setIfInBounds 5 (.slice (aA g) (s.sites.length+1) cap)=mkC vv wv ov (.slice (aA g) (s.sites.length+1) cap) lv (lSite k o var parts s).2:=rfl
  have e2:(mkR s xs).map (fun q=>if q.ix=5 then {q with n:=s.sites.length+1,xs:=xs++cs} else q)=mkR (lSite k o var parts s).2 (xs++cs):=by
   simp [mkR,lSite]
  rw [e1,e2] at p1
  exact p1
 ·exact ⟨xp.os.trans hb.os,xp.tape.trans hb.tape,xp.output.trans hb.output,zal hb.size xp.size,fun k hk=>(xp.block k (by have:=hb.size;omega) Za).trans (hb.block k hk)⟩
 ·rcases xk with e|e
  ·exact .inl (bn e)
  ·right
   simp only [Zz] at e
   omega
theorem fY(w:qW)(h:Mk w0 M a b c vv wv w s)(k o:Int)(var:qB)(parts:List PartD)(pa:Option Addr)(pc:Nat)(hf:LFin (lSite k o var parts s).2):qC 202 #[pP M,iI k,iI o,.agg #[.string var,.slice pa parts.length pc]] w (MkD w0 M a b c vv wv w (lSite k o var parts s).2 (iI (lSite k o var parts s).1)):=by
 obtain ⟨ov,sv,lv,i',pi⟩:=h.rules
 have j':=h.bd
 have HM:=Zh h
 obtain ⟨i0,xF,xx,xu,xq⟩:=zan yfD
 clear h
 go_enter Tryz.func202,Tryz.ntmps202
 go_wp2_with fail
 refine aS (R:=fun W=>Mk w0 M a b c vv wv W s/\W.heap[w.heap.size]?=some (.cells #[.string var,.slice pa parts.length pc] 133 (0,0))/\Kp (fun _=>False) w W) ⟨HM.out.alloc _,zab _ _,Kp.al _ _⟩ ?_
 have yb:=j'
 clear i' pi j'
 rintro W ⟨hM,hK,ze⟩
 obtain ⟨ov,sv,lv,xs,ho,ea,eb,ec⟩:=hM.ob
 have yO:=ho.own ⟨5,397,5,s.sites.length,xs⟩ (by simp [mkR])
 have q1: ∀i,W.cell? (aB M i)=(#[vv,wv,ov,iI s.regs,iI s.labels,sv,iI s.line,lv]:Array qV)[i]?:=aa ho.out
 have qf:=ah ho.out
 have qk: ∀i,W.cell? (aB w.heap.size i)=(#[.string var,.slice pa parts.length pc]:Array qV)[i]?:=aa hK
 have j':=hM.bd
 have yc:=ac hK
 have HW:=Zh hM
 have HO:=Zh ho
 have xB:=Zh yO
 have yQ:=Zh ze
 clear hM hK ho yO ze
 have hA:(∀i,W.drew.cell? (aB w.heap.size i)=(#[.string var,.slice pa parts.length pc]:Array qV)[i]?)/\W.drew.cell? (aB M 6)=some (iI s.line):=⟨qk,q1 6⟩
 have hB:W.drew.cell? (aB M 5)=some sv:=q1 5
 refine ae (fun W=>(∀i,W.cell? (aB w.heap.size i)=(#[.string var,.slice pa parts.length pc]:Array qV)[i]?)/\W.cell? (aB M 6)=some (iI s.line)) (fun W=>W.cell? (aB M 5)=some sv) 17 rfl ?_
 refine Zp 0 rfl (h:=Zp 1 rfl (h:=Zp 2 rfl (h:=Zp 3 rfl (h:=Zl 4 [14,17] rfl (h:=Zp 5 rfl (h:=Zp 6 rfl (h:=Zp 7 rfl (h:=Zp 8 rfl (h:=Zp 9 rfl (h:=Zt 10 rfl (h:=Zt 11 rfl (h:=Zp 12 rfl (h:=?_)))))))))))));try simp only [Zq]
 refine Zs 13 rfl fun K hK=>?_
 go_simp
 refine hK _ _ ⟨⟨fun i=>(aj yc).trans (qk i),(aj j'.2.1).trans (q1 6)⟩,fun _=>(aj j'.2.1).trans (q1 5)⟩ ?_
 have xY:=hf.sites
 simp only [lSite,zaO,za2,zaV] at xY
 refine Zs 14 rfl fun K hK=>?_
 refine bf (.tmp 13) (.tmp 22) 203 397 i0 _ 5 64 Tryz.underlying203 xF xx xu xq rfl Zd rfl rfl (M+1) sv s.sites.length xs (ax xB.out (fun g hg=>zac _ _ (xB.out.lt g hg).2)) W.heap.size #[iI k,iI o,iI s.line,.string var,.slice pa parts.length pc] 397 (0,0) (zab _ _) ZA ZA rfl ZD Za Za Zc ?_
 intro g2 cap2 w2 hown xb xk xE
 have hD:=Zh (HW.out.app1 (r:=iI (lSite k o var parts s).1) HO.out ea eb ec hf xb hown xk)
 have wZ:Kp (fun k=>sv.ownBlock=some k) (W.drew.alloc _) w2:=(Kp.of_grown xb).mono (fun k _ e=>e.symm)
 have kx: ∀i,w2.cell? (aB w.heap.size i)=(#[.string var,.slice pa parts.length pc]:Array qV)[i]?:=fun i=>((wZ.cell Zc (fun e=>by have:=bn (M:=M) e;omega)).trans (aj yc)).trans (qk i)
 have kc: ∀i,w2.cell? (aB M i)=(#[vv,wv,ov,iI s.regs,iI s.labels,sv,iI s.line,lv]:Array qV)[i]?:=fun i=>((wZ.cell Zc (fun e=>by have:=(xB.out.lt _ e).1;omega)).trans (aj j'.2.1)).trans (q1 i)
 have kf: ∀i,w2.frozen? (aB M i)=false:=ah ((wZ.block M Zc (fun e=>by have:=(xB.out.lt _ e).1;omega)).trans ((zac _ _ j'.2.1).trans HO.out.out))
 clear hown xb xk wZ
 refine hK _ _ ⟨⟨kx,kc 6⟩,fun _=>kc 5⟩ ?_
 clear hK K hA hB
 have hA:(∀i,w2.cell? (aB w.heap.size i)=(#[.string var,.slice pa parts.length pc]:Array qV)[i]?)/\w2.cell? (aB M 6)=some (iI s.line):=⟨kx,kc 6⟩
 have hB:w2.cell? (aB M 5)=some sv:=kc 5
 refine Zp 15 rfl (h:=Zp 16 rfl (h:=?_));try simp only [Zq]
 refine Zs 17 rfl fun K hK=>?_
 go_simp
 refine hK _ _ ⟨⟨?_,?_⟩,fun hh=>Bool.noConfusion (hh.symm.trans (show _=true by kernel_rfl))⟩ ?_
 ·intro i
  exact (zaH _ _ _ _ (fun e=>by have:=congrArg Addr.block e;simp only at this;omega)).trans (kx i)
 ·exact (zaH _ _ _ _ (fun e=>by have:=congrArg Addr.off e;simp at this)).trans (kc 6)
 refine af Zb ?_ _
 clear hK K hA hB
 have xG:(w2.setCell ⟨M,5,none⟩ (.slice (aA g2) (s.sites.length+1) cap2)).cell? (aB M 5)=some (.slice (aA g2) (s.sites.length+1) cap2):=zaF _ _ _ (kc 5)
 go_wp2_with fail
 go_ret
 have hd:=hD.out.left yQ.out
 simpa [lSite] using hd
end
end Go.Proofs.YtjmfoeajhiimnaaGreatDoor
