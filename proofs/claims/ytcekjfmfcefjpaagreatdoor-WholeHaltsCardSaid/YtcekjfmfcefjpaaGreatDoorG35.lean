/- Walks. No condition. -/
import Derived.Test.YtcekjfmfcefjpaaGreatDoorG26
import Derived.Test.YtcekjfmfcefjpaaGreatDoorG34
set_option maxRecDepth 100000
set_option maxHeartbeats 0
set_option linter.all false
namespace Go.Proofs.YtcekjfmfcefjpaaGreatDoor
open Go.RowKit Go.Sort
theorem ybM(f:qV)(w:qW):qC 246 #[.slice none 0 0,f] w fun e w'=>e= .returned (iI (-1))/\w'=w:=by
 go_enter Tryz.func246,Tryz.ntmps246
 go_wp2_with fail
 refine zao 1 ?_
 rw [zap]
 go_wp2
 go_ret
 exact ⟨rfl,rfl⟩
theorem ybQ(f:qV)(w:qW):qC 247 #[.slice none 0 0,f] w fun e w'=>e= .returned (iI (-1))/\w'=w:=by
 go_enter Tryz.func247,Tryz.ntmps247
 go_wp2_with fail
 refine zao 1 ?_
 rw [zap]
 go_wp2
 go_ret
 exact ⟨rfl,rfl⟩
theorem yea(f:qV)(w:qW):qC 197 #[.slice none 0 0,f] w fun e w'=>e= .returned (.bool false)/\w'=w:=by
 go_enter Tryz.func197,Tryz.ntmps197
 go_wp2_with (go_at_call 246;(with_reducible refine (ybM _ _).mono ?_);rintro e1 w1 ⟨rfl,u'⟩;subst u')
 go_ret
 exact ⟨rfl,rfl⟩
theorem yeb(f:qV)(w:qW):qC 198 #[.slice none 0 0,f] w fun e w'=>e= .returned (.bool false)/\w'=w:=by
 go_enter Tryz.func198,Tryz.ntmps198
 go_wp2_with (go_at_call 247;(with_reducible refine (ybQ _ _).mono ?_);rintro e1 w1 ⟨rfl,u'⟩;subst u')
 go_ret
 exact ⟨rfl,rfl⟩
theorem o6(k z:Int)(w:qW):qC 150 #[scV k z] w (Gives w (.bool false)):=by
 unfold scV
 go_enter Tryz.func150,Tryz.ntmps150
 go_wp2_with (first
  |(go_at_call 197;(with_reducible refine (yea _ _).mono ?_);rintro e1 w1 ⟨rfl,u'⟩;subst u')
  |(go_at_call 198;(with_reducible refine (yeb _ _).mono ?_);rintro e1 w1 ⟨rfl,u'⟩;subst u'))
 go_ret
 exact Gives.mk rfl Zr
theorem ef{k z:Int}(h:SoundF 66 (scTy k z)=0):(k=1\/k=2)/\(z=1\/z=2\/z=4\/z=8\/(z=16/\k=2)):=by
 have e:SoundF 66 (scTy k z)=if (k=1\/k=2)/\(z=1\/z=2\/z=4\/z=8) then 0 else 1:=rfl
 rw [e] at h
 split at h
 ·rename_i h2
  exact ⟨h2.1,by omega⟩
 ·cases h
theorem uQ(k z:Int)(h:k=1\/k=2)(w:qW):qC 151 #[scV k z] w (Gives w (.tuple #[.agg #[iI z,iI z],.bool true])):=by
 unfold scV
 rcases h with rfl|rfl
 all_goals
  go_enter Tryz.func151,Tryz.ntmps151
  go_wp2
  (try simp only [Exit.inBlock,Exit.then]);refine zad (by simp [results,Tryz.results151,go_sem,↓IntWalk.iteOmega];try rfl) rfl ?_
  exact Gives.mk rfl Zr
theorem yd8(k z:Int)(hk:rng k)(hz:rng z)(h:SoundF 66 (scTy k z)=0)(w:qW):qC 106 #[scV k z] w (Gives w (.tuple #[.agg #[iI z,iI z],iI 0])):=by
 have HS:=Zh (fun W=>jz k z hk hz h W)
 have HO:=Zh (fun W=>uQ k z (ef h).1 W)
 have HT:=Zh (fun W=>o6 k z W)
 unfold scV at HO HT
 unfold scV
 go_enter Tryz.func106,Tryz.ntmps106
 go_wp2_with (first
  |(go_at_call 149;(with_reducible refine (HS.out _).mono ?_);rintro e1 w1 ⟨rfl,p,rfl⟩)
  |(go_at_call 150;(with_reducible refine (HT.out _).mono ?_);rintro e1 w1 ⟨rfl,p1,rfl⟩)
  |(go_at_call 151;(with_reducible refine (HO.out _).mono ?_);rintro e1 w1 ⟨rfl,p2,rfl⟩))
 (try simp only [Exit.inBlock,Exit.then]);refine zad (by simp [results,Tryz.results106,go_sem,↓IntWalk.iteOmega];try rfl) rfl ?_
 exact Gives.mk rfl Zr
theorem oo(k z:Int)(hk:rng k)(hz:rng z)(h:SoundF 66 (scTy k z)=0)(w:qW):qC 75 #[scV k z] w (Gives w (.tuple #[iI z,iI z,iI 0])):=by
 have HC:=Zh (fun W=>yd8 k z hk hz h W)
 unfold scV at HC
 unfold scV
 go_enter Tryz.func75,Tryz.ntmps75
 go_wp2_with (go_at_call 106;(with_reducible refine (HC.out _).mono ?_);rintro e1 w1 ⟨rfl,p,rfl⟩)
 go_quiet (fail)
 go_wp2_with fail
 go_returns
 exact Gives.mk rfl (by repeat (first|with_reducible exact zaa _ _|with_reducible apply ab|with_reducible apply ag|with_reducible apply aF|with_reducible apply nM))
theorem fP{w:qW}{ok:Nat->Prop}{v:qV}{l:List VarD}(h:RwAt w ok 7 (fun v cs=>VarAt v cs) v l)(hl:l.length<=1000000):VrsIn w v l:=by
 obtain ⟨a,c,rfl,h1,h2,h3⟩:=h
 refine ⟨a,c,rfl,hl,fun hp=>?_⟩
 obtain ⟨b,o,rfl, -,hb,yU⟩:=h3 hp
 refine ⟨b,o,rfl,hb,fun i x hx=>?_⟩
 obtain ⟨cs,wX,⟨k,z,g1,g2,g3,rfl⟩,hc⟩:=yU i x hx
 exact ⟨k,z,g1,g2,g3,hc 0 _ rfl,hc 1 _ rfl,hc 2 _ rfl,hc 3 _ rfl,hc 4 _ rfl,hc 5 _ rfl,hc 6 _ rfl⟩
theorem VrsIn.take{w:qW}{a:Option Addr}{n c:Nat}{l:List VarD}(h:VrsIn w (.slice a n c) l)(j:Nat)(hj:j<=l.length):VrsIn w (.slice a j c) (l.take j):=by
 obtain ⟨a',c',h1,h2,h3⟩:=h
 simp only [Value.slice.injEq] at h1
 obtain ⟨rfl,rfl,rfl⟩:=h1
 refine ⟨a,c,by rw [zaR,Nat.min_eq_left hj],by rw [zaR];omega,fun hp=>?_⟩
 rw [zaR] at hp
 obtain ⟨b,o,rfl,hb,yU⟩:=h3 Za
 refine ⟨b,o,rfl,hb,fun i x hx=>?_⟩
 rw [List.getElem?_take] at hx
 split at hx
 ·exact yU i x hx
 ·cases hx
theorem ydX(nm s:qB)(k z:Int)(K:Nat)(w:qW)(h:w.cell? ⟨K,0,none⟩=some (.string s))(hK:K<w.heap.size):qC 104 #[.agg #[.string nm,iI k,iI z,.bool false,.slice none 0 0,iI 0,.slice none 0 0],pP K] w (Gives w (.bool (eqB nm s))):=by
 have he:=eqS nm s
 go_enter Tryz.func104,Tryz.ntmps104
 go_wp2
 go_ret
 exact Gives.mk (by rw [<-he];rfl) Z25_
theorem ybE(v:qV)(l:List VarD)(s:qB)(xV: ∀(j:Nat) y,l[j]?=some y->eqB y.name s=false)(K:Nat)(w:qW)(h:VrsIn w v l)(hK:w.cell? ⟨K,0,none⟩=some (.string s))(xW:K<w.heap.size):
  qC 142 #[v,.func (.func 104) #[] #[pP K]] w (Gives w (iI (-1))):=by
 obtain ⟨a,c,rfl,hl,hc⟩:=h
 have HC:=Zh hc
 have HN:=Zh xV
 have Bl:=Zh (fun nm k z (W:qW) (hW:Below w.heap.size w W)=>ydX nm s k z K W ((hW.cell (p:=⟨K,0,none⟩) xW).trans hK) (zar xW hW.size))
 clear hc xV hK
 go_enter Tryz.func142,Tryz.ntmps142
 go_wp2_with fail
 go_loopw [8] (fun v8 wr=> ∃j:Nat,v8=iI j/\j<=l.length/\Below w.heap.size w wr) (fun v8 _=>l.length-(intOf v8).toNat)
 case atStart=>exact ⟨0,rfl,zaB _,zaa _ _⟩
 case round=>
  obtain ⟨j,rfl,hj,hB⟩:=hrel
  rcases (by omega:j=l.length\/j<l.length) with h1|h1
  ·subst h1
   have HB:=Zh hB
   clear hB
   go_wp2
   go_ret
   exact Gives.mk rfl HB.out
  ·obtain ⟨b,o,rfl,hb,xC⟩:=HC.out Za
   obtain ⟨y,hy⟩: ∃y,l[j]?=some y:=⟨l[j],zaC Za⟩
   obtain ⟨k,z,h3,h4,h5,c0,c1,c2,c3,c4,c5,c6⟩:=xC j y hy
   have wZ: ∀(n:Nat) (u:qV),w.cell? ⟨b,n,none⟩=some u->wr.cell? ⟨b,n,none⟩=some u:=fun n u hu=>(hB.cell (p:=⟨b,n,none⟩) hb).trans hu
   replace c0:=wZ _ _ c0
   replace c1:=wZ _ _ c1
   replace c2:=wZ _ _ c2
   replace c3:=wZ _ _ c3
   replace c4:=wZ _ _ c4
   replace c5:=wZ _ _ c5
   replace c6:=wZ _ _ c6
   have HB:=Zh hB
   have hq:=HN.out j y hy
   clear wZ xC hB hy h3
   go_wp2_with (go_at_call 104;refine (Bl.out y.name k z _ HB.out).mono ?_;rintro e w1 ⟨rfl,p,rfl⟩)
   refine ⟨⟨j+1,by simp,by omega,aF HB.out p⟩,by simp [intOf];omega⟩
theorem ydV(v:qV)(l:List VarD)(s:qB)(xV: ∀(j:Nat) y,l[j]?=some y->eqB y.name s=false)(K:Nat)(w:qW)(h:VrsIn w v l)(hK:w.cell? ⟨K,0,none⟩=some (.string s))(xW:K<w.heap.size):
  qC 103 #[v,.func (.func 104) #[] #[pP K]] w (Gives w (.bool false)):=by
 have HI:=Zh (ybE v l s xV K w h hK xW)
 obtain ⟨a,c,rfl, -⟩:=h
 clear xV hK
 go_enter Tryz.func103,Tryz.ntmps103
 go_wp2_with (go_at_call 142;(with_reducible refine HI.out.mono ?_);rintro e1 w1 ⟨rfl,p,rfl⟩)
 go_ret
 exact Gives.mk rfl (av _ _)
theorem eK{seen:List qB}{v:VarD}{m:List VarD}(h:varsOk seen (v::m)=true):nameB v.name=true/\keyw v.name=false/\(∀s∈seen,eqB s v.name=false)/\SoundF 66 v.type=0/\varsOk (seen++[v.name]) m=true:=by
 simp only [varsOk,za0,Bool.not_eq_true',zau] at h
 obtain ⟨⟨⟨⟨h1,h2⟩,h3⟩,h4⟩,h5⟩:=h
 refine ⟨h1,h2,fun s hs=>?_,h4,h5⟩
 rw [List.any_eq_false] at h3
 simpa using h3 s hs
theorem ji{l:List VarD}{j:Nat}{y:VarD}(hy:l[j]?=some y):(l.take (j+1)).map VarD.name=(l.take j).map VarD.name++[y.name]:=by
 rw [zaz,hy]
 simp
theorem nh{α:Type}{l:List α}{j:Nat}{y:α}(hy:l[j]?=some y):l.drop j=y::l.drop (j+1):=by
 obtain ⟨hl,e⟩:=List.getElem?_eq_some_iff.1 hy
 rw [zaS hl,e]
theorem oS(a:Option Addr)(c:Nat)(l:List VarD)(w:qW)(yT:SpT w)(h:VrsIn w (.slice a l.length c) l)(yu:l.length<=c)(xo:varsOk [] l=true)(hn:l.length<=32)(hs:(mapV 0 l).2<=65536):qC 72 #[.slice a l.length c] w (Gives w (iI 0)):=by
 have HV:=Zh h
 obtain ⟨a',c',he,hl,hc⟩:=h
 simp only [Value.slice.injEq,true_and] at he
 obtain ⟨rfl,rfl⟩:=he
 have HC:=Zh hc
 have zK:=Zh xo
 generalize hT:(mapV 0 l).2=T at*
 have HT:=Zh hT
 clear hc xo hT
 go_enter Tryz.func72,Tryz.ntmps72
 go_wp2_with fail
 go_loopw [3,14] (fun v3 v14 wr=> ∃(j:Nat) (at_:Int),v3=iI at_/\v14=iI j/\j<=l.length/\Below w.heap.size w wr/\0<=at_/\at_<=40*j/\Hid (varsOk ((l.take j).map VarD.name) (l.drop j)=true/\(mapV at_ (l.drop j)).2=T)) (fun v3 v14 _=>l.length-(intOf v14).toNat)
 case atStart=>exact ⟨0,0,rfl,rfl,zaB _,zaa _ _,by omega,by omega,Zh ⟨by simpa using zK.out,by simpa using HT.out⟩⟩
 case round=>
  obtain ⟨j,at_,rfl,rfl,hj,hB,h0,h1,hR⟩:=hrel
  rcases (by omega:j=l.length\/j<l.length) with h2|h2
  ·subst h2
   have HB:=Zh hB
   have y':=hR.out.2
   rw [List.drop_length] at y'
   simp only [mapV] at y'
   subst y'
   clear hB hR
   go_wp2
   go_ret
   exact Gives.mk rfl HB.out
  ·obtain ⟨b,o,rfl,hb,xC⟩:=HC.out Za
   obtain ⟨y,hy⟩: ∃y,l[j]?=some y:=⟨l[j],zaC Za⟩
   obtain ⟨k,z,h3,h4,h5,c0,c1,c2,c3,c4,c5,c6⟩:=xC j y hy
   have Ar:=hR.out
   rw [nh hy] at Ar
   obtain ⟨g1,g2,g3,g4,g5⟩:=eK Ar.1
   rw [<-ji hy] at g5
   rw [h3] at g4
   have wZ: ∀(n:Nat) (u:qV),w.cell? ⟨b,n,none⟩=some u->wr.cell? ⟨b,n,none⟩=some u:=fun n u hu=>(hB.cell (p:=⟨b,n,none⟩) hb).trans hu
   replace c0:=wZ _ _ c0
   replace c1:=wZ _ _ c1
   replace c2:=wZ _ _ c2
   replace c3:=wZ _ _ c3
   replace c4:=wZ _ _ c4
   replace c5:=wZ _ _ c5
   replace c6:=wZ _ _ c6
   have KK:=Zh (fun W=>(by have:=lp y.name (lq g1) W;rw [g1] at this;exact this:qC 102 #[.string y.name] W (Gives W (.bool true))))
   have yI:=Zh (fun W (hW:Below w.heap.size w W)=>(by have:=dL y.name W (yT.below hW);rw [g2] at this;exact this:qC 64 #[.string y.name] W (Gives W (.bool false))))
   have HCO:=Zh (fun W (hW:Below w.heap.size w W) hK xW=>ydV (.slice (some ⟨b,o,none⟩) j c) (l.take j) y.name (fun i u hu=>g3 _ (List.mem_map.2 ⟨u,zat hu,rfl⟩)) wr.heap.size W ((HV.out.take j Za).below hW) hK xW)
   have Hn:=Zh (fun W=>oo k z h4 h5 g4 W)
   obtain ⟨ym,DA⟩:=ef g4
   unfold scV at Hn
   have HM:Hid (∀at',at'=(at_+z-1)/z*z+z->(mapV at' (l.drop (j+1))).2=T):=Zh (fun at' e=>by
    have:=Ar.2
    simp only [mapV,h3] at this
    rw [e]
    exact this)
   have KP:=Zh g5
   have HB:=Zh hB
   have FA:=hB.size
   clear wZ xC hB hy h3 Ar hR g1 g2 g3 g4 g5
   rcases DA with rfl|rfl|rfl|rfl|⟨rfl, -⟩
   all_goals
    go_wp2_with (first
     |(go_at_call 102;(with_reducible refine (KK.out _).mono ?_);rintro e1 w1 ⟨rfl,p1,rfl⟩)
     |(go_at_call 64;(with_reducible refine (yI.out _ (by repeat (first|with_reducible exact HB.out|with_reducible apply ab|with_reducible apply ag|with_reducible apply aF))).mono ?_);rintro e1 w1 ⟨rfl,p2,rfl⟩)
     |(go_at_call 103;(with_reducible refine (HCO.out _ (by repeat (first|with_reducible exact HB.out|with_reducible apply ab|with_reducible apply ag|with_reducible apply aF)) (by simp [go_sem,↓IntWalk.iteOmega]) ZR).mono ?_);rintro e1 w1 ⟨rfl,p3,rfl⟩)
     |(go_at_call 75;(with_reducible refine (Hn.out _).mono ?_);rintro e1 w1 ⟨rfl,p4,rfl⟩))
    refine ⟨⟨j+1,_,rfl,by simp,by omega,by repeat (first|with_reducible exact HB.out|with_reducible apply ab|with_reducible apply ag|with_reducible apply aF),?_,?_,Zh ⟨KP.out,HM.out _ ?_⟩⟩,by simp [intOf];omega⟩
    all_goals omega
theorem iD{p:PrgD}(h:cProg p=true):p.vars.length<=32/\1<=p.threads.length/\p.threads.length<=8/\varsOk [] p.vars=true/\(mapV 0 p.vars).2<=65536/\ ∀t∈p.threads,∃s,cBlock (fun y s=>cStmt p.vars 66 y 1 s) t ([],0)=some s:=by
 unfold cProg at h
 simp only [za0,zau,List.all_eq_true] at h
 obtain ⟨⟨⟨⟨⟨h1,h2⟩,h3⟩,h4⟩,h5⟩,h6⟩:=h
 exact ⟨h1,h2,h3,h4,h5,fun t ht=>Option.isSome_iff_exists.1 (h6 t ht)⟩
theorem kj(p:PrgD)(v1 v2:qV)(w:qW)(yT:SpT w)(h:PrgAt w okA v1 v2 p)(xo:cProg p=true):qC 37 #[.agg #[v1,v2]] w (Gives w (.agg #[iI 0,iI 0])):=by
 obtain ⟨n1,n2,n3,n4,n5,n6⟩:=iD xo
 have A6:=fP h.vars Za
 have yb:=h.threads
 obtain ⟨va,vc,rfl,I', -, -⟩:=h.vars
 obtain ⟨ta,tc,rfl,zC, -,yU⟩:=yb
 have HV:=Zh (fun W (hW:Below w.heap.size w W)=>oS va vc p.vars W (yT.below hW) (A6.below hW) I' n4 n1 n5)
 have IP:=Zh A6
 have HE:=Zh yU
 have HN:=Zh n6
 clear A6 yU n6 h xo n4 n5
 go_enter Tryz.func37,Tryz.ntmps37
 go_wp2_with (first
  |(go_at_call 72;(with_reducible refine (HV.out _ Zr).mono ?_);rintro e1 w1 ⟨rfl,p1,rfl⟩))
 go_loopw [34] (fun v34 wr=> ∃(j:Nat),v34=iI j/\j<=p.threads.length/\Below w.heap.size w wr/\w.heap.size+2<=wr.heap.size/\wr.heap[w.heap.size]?=some (.cells #[.slice va p.vars.length vc,.slice ta p.threads.length tc] 64 (0,0))/\wr.heap[w.heap.size+1]?=some (.cells #[iI 0,iI 0] 31 (0,0))) (fun v34 _=>p.threads.length-(intOf v34).toNat)
 case atStart=>
  refine ⟨0,rfl,zaB _,by repeat (first|with_reducible exact zaa _ _|with_reducible apply ab|with_reducible apply ag|with_reducible apply aF),by simp [go_sem],?_,?_⟩
  ·rw [cd _ _ _ Zk,zac _ _ Zi]
   exact zab _ _
  ·rw [cd _ _ _ Zi]
   simpa using zab (w.alloc (.cells #[.slice va p.vars.length vc,.slice ta p.threads.length tc] 64)) (.cells #[iI 0,iI 0] 31)
 case round=>
  obtain ⟨j,rfl,hj,hB,hz,k0,k1⟩:=hrel
  rcases (by omega:j=p.threads.length\/j<p.threads.length) with h2|h2
  ·subst h2
   have q0:=aa k0
   obtain ⟨W,hW,yn,xk,yr⟩: ∃W,wr=putB W (w.heap.size+1) #[iI 0,iI 0] 31/\Below w.heap.size w W/\w.heap.size+2<=W.heap.size/\ ∀i,W.cell? ⟨w.heap.size,i,none⟩=(#[.slice va p.vars.length vc,.slice ta p.threads.length tc]:Array qV)[i]?:=⟨wr,(bz k1).symm,hB,hz,q0⟩
   subst hW
   have HB:=Zh yn
   clear hB yn k0 k1 q0 hz
   go_wp2
   (try simp only [Exit.inBlock,Exit.then]);refine zad (by simp [results,Tryz.results37,go_sem,↓IntWalk.iteOmega];try rfl) rfl ?_
   refine Gives.mk rfl ?_
   have hb:=HB.out
   exact ⟨hb.os,hb.tape,hb.output,by rw [aO];exact hb.size,fun k hk=>by rw [aL,if_neg Za];exact hb.block k hk⟩
  ·have q0:=aa k0
   have As:=Zh k0
   have zX:=Zh k1
   obtain ⟨b,o,rfl, -,hb,xC⟩:=HE.out Za
   obtain ⟨y,hy⟩: ∃y,p.threads[j]?=some y:=⟨p.threads[j],zaC Za⟩
   obtain ⟨cs,wX,⟨tv,rfl,FF⟩,xe⟩:=xC j y hy
   obtain ⟨s,hs⟩:=HN.out y (zat hy)
   have c0:wr.cell? ⟨b,o+j*1,none⟩=some tv:=(hB.cell (p:=⟨b,_,none⟩) hb).trans (xe 0 _ rfl)
   rw [Nat.mul_one] at c0
   have xg: ∀W,Below w.heap.size w W->W.heap[wr.heap.size]?=some (.cells #[.slice va p.vars.length vc,.slice none 0 0,iI 0,iI 0,iI 0,iI 0] 167 (0,0))->qC 73 #[pP wr.heap.size,tv,iI 1] W (CkD w wr.heap.size W (.slice va p.vars.length vc) (.slice none 0 0) s p.vars):=fun W hW hk=>
    yeK (w0:=w) 66 W (.slice none 0 0) [] 0 0 tv y 1 s ⟨⟨hk,zaX _ _ _ _⟩,IP.out,hW,hB.size,by simp,yT⟩ Za Za hs FF
   have zZ:=Zh xg
   have HB:=Zh hB
   clear xC xe hy hs FF xg k0 k1 hB
   go_wp2_with (first
    |(go_at_call 73;(with_reducible refine (zZ.out _ (ab HB.out _) (zab _ _)).mono ?_);intro e1 w1 hD;obtain rfl:=hD.1;obtain ⟨-,lv2,line2,yp,xh, -⟩:=hD;have Dz:=Zh yp;have KO:=Zh xh;clear yp xh)
    |(go_at_call 74;(with_reducible refine (ckbad _ Dz.out.ck).mono ?_);rintro e2 w2 ⟨rfl,I9⟩;subst I9))
   have xh:=KO.out
   have yK:=xh.size
   simp only [au] at yK
   have yz:=ab HB.out (.cells #[.slice va p.vars.length vc,.slice none 0 0,iI 0,iI 0,iI 0,iI 0] 167)
   refine ⟨⟨j+1,by simp,by omega,⟨xh.os.trans yz.os,xh.tape.trans yz.tape,xh.output.trans yz.output,by omega,fun k hk=>?_⟩,by omega,?_,?_⟩,by simp [intOf];omega⟩
   ·exact (xh.block k Zk (by simp [Value.ownBlock];omega)).trans (yz.block k hk)
   ·exact (xh.block w.heap.size Zk (by simp [Value.ownBlock];omega)).trans ((zac _ _ Za).trans As.out)
   ·exact (xh.block (w.heap.size+1) Zk (by simp [Value.ownBlock];omega)).trans ((zac _ _ Za).trans zX.out)
def glC(g:GlD):List qV:=[.string g.name,iI g.at_,iI g.len]
theorem yck:(Tryz.prog.info? 172).map (fun i=>(i.zero,i.size,i.bytes))=some (some (.agg #[.string ⟨#[]⟩,iI 0,iI 0]),3,32):=by kernel_rfl
theorem iP(a z:Int)(hz:0<z):a<=(a+z-1)/z*z:=by
 have h1:=Int.emod_add_mul_ediv (a+z-1) z
 have h2:=Int.emod_lt_of_pos (a+z-1) hz
 rw [Int.mul_comm] at h1
 omega
theorem fk: ∀(l:List VarD) (a:Int),(∀v∈l,0<tySize v.type)->a<=(mapV a l).2
 |[],a,_=>Int.le_refl _
 |v::l,a,h=>by
  have hz:=h v Zi
  have h1:=iP a _ hz
  have h2:=fk l ((a+tySize v.type-1)/tySize v.type*tySize v.type+tySize v.type) (fun v hv=>h v (by simp [hv]))
  simp only [mapV]
  omega
theorem gU: ∀(l:List VarD) (a:Int),(mapV a l).1.length=l.length
 |[],a=>rfl
 |v::l,a=>by simp [mapV,gU l]
theorem dX: ∀{l:List VarD} {seen:List qB},varsOk seen l=true->(∀v∈l,∃k z,v.type=scTy k z)-> ∀v∈l,0<tySize v.type
 |[],_,_,_=>by simp
 |v::m,seen,h,hs=>by
  obtain ⟨-, -, -,g4,g5⟩:=eK h
  intro u hu
  rcases List.mem_cons.1 hu with rfl|hu
  ·obtain ⟨k,z,e⟩:=hs u Zi
   rw [e] at g4 ⊢
   have:=(ef g4).2
   show 0<z
   omega
  ·exact dX g5 (fun v hv=>hs v (by simp [hv])) u hu
theorem lA(a:Option Addr)(c:Nat)(l:List VarD)(w:qW)(h:VrsIn w (.slice a l.length c) l)(xo:varsOk [] l=true)(hn:l.length<=32)(hs:(mapV 0 l).2<=65536):qC 38 #[.slice a l.length c] w fun e w'=>
  ∃gv,e= .returned (.tuple #[gv,iI (mapV 0 l).2,iI 0])/\Below w.heap.size w w'/\w'.ownsRow w.heap.size 172 3 gv (mapV 0 l).1.length ((mapV 0 l).1.flatMap glC):=by
 obtain ⟨a',c',he,hl,hc⟩:=h
 simp only [Value.slice.injEq,true_and] at he
 obtain ⟨rfl,rfl⟩:=he
 have HC:=Zh hc
 have zK:=Zh xo
 have wX:=gU l 0
 obtain ⟨i0,xz,xq,xm,xk⟩:=zan yck
 generalize hT:mapV 0 l=T at*
 have HT:=Zh hT
 obtain ⟨TL,TN⟩:=T
 simp only at hs wX
 clear hc xo hT
 go_enter Tryz.func38,Tryz.ntmps38
 go_wp2_with fail
 go_loopw [5,6,14] (fun v5 v6 v14 wr=> ∃(j:Nat) (at_:Int) (gs:List GlD),v6=iI at_/\v14=iI j/\j<=l.length/\Below w.heap.size w wr/\0<=at_/\at_<=40*j/\gs.length=j/\Hid (varsOk ((l.take j).map VarD.name) (l.drop j)=true/\(mapV at_ (l.drop j)).2=TN/\gs++(mapV at_ (l.drop j)).1=TL)/\Hid (wr.ownsRow w.heap.size 172 3 v5 j (gs.flatMap glC))) (fun _ _ v14 _=>l.length-(intOf v14).toNat)
 case atStart=>exact ⟨0,0,[],rfl,rfl,zaB _,zaa _ _,by omega,by omega,rfl,Zh ⟨by simpa using zK.out,by simp [HT.out],by simp [HT.out]⟩,Zh (zaX _ _ _ _)⟩
 case round=>
  obtain ⟨j,at_,gs,rfl,rfl,hj,hB,h0,h1,xY,hR,HO⟩:=hrel
  rcases (by omega:j=l.length\/j<l.length) with h2|h2
  ·subst h2
   have HB:=Zh hB
   have y':=hR.out.2
   rw [List.drop_length] at y'
   simp only [mapV,List.append_nil] at y'
   obtain ⟨rfl,rfl⟩:=y'
   clear hB hR
   go_wp2
   go_returns
   refine ⟨_,rfl,HB.out,?_⟩
   rw [xY]
   exact HO.out
  ·obtain ⟨b,o,rfl,hb,xC⟩:=HC.out Za
   obtain ⟨y,hy⟩: ∃y,l[j]?=some y:=⟨l[j],zaC Za⟩
   obtain ⟨k,z,h3,h4,h5,c0,c1,c2,c3,c4,c5,c6⟩:=xC j y hy
   have Ar:=hR.out
   have yi: ∀v∈l,∃k z,v.type=scTy k z:=fun v hv=>by
    obtain ⟨i,hi,rfl⟩:=zaP hv
    obtain ⟨k,z,h3, -⟩:=xC i _ (zaC hi)
    exact ⟨k,z,h3⟩
   rw [nh hy] at Ar
   obtain ⟨g1,g2,g3,g4,g5⟩:=eK Ar.1
   rw [<-ji hy] at g5
   rw [h3] at g4
   have wZ: ∀(n:Nat) (u:qV),w.cell? (aB b n)=some u->wr.cell? (aB b n)=some u:=fun n u hu=>(hB.cell (p:=⟨b,n,none⟩) hb).trans hu
   replace c0:=wZ _ _ c0
   replace c1:=wZ _ _ c1
   replace c2:=wZ _ _ c2
   replace c3:=wZ _ _ c3
   replace c4:=wZ _ _ c4
   replace c5:=wZ _ _ c5
   replace c6:=wZ _ _ c6
   have Hn:=Zh (fun W=>oo k z h4 h5 g4 W)
   obtain ⟨ym,DA⟩:=ef g4
   unfold scV at Hn
   have KZ:tySize y.type=z:=by rw [h3];rfl
   have y':=Ar.2
   simp only [mapV,KZ] at y'
   have JX:(at_+z-1)/z*z+z<=TN:=by
    rw [<-y'.1]
    exact fk _ _ (fun v hv=>dX g5 (fun v hv=>yi v (List.mem_of_mem_drop hv)) v hv)
   have HM:Hid (∀a',a'=(at_+z-1)/z*z->(mapV (a'+z) (l.drop (j+1))).2=TN/\(gs++[⟨y.name,65536+a',z⟩])++(mapV (a'+z) (l.drop (j+1))).1=TL):=Zh (fun a' e=>by
    subst e
    exact ⟨y'.1,by rw [<-y'.2];simp⟩)
   have KP:=Zh g5
   have HB:=Zh hB
   have FA:=hB.size
   have yf:=Zh (fun W (hW:Below wr.heap.size wr W)=>aw HO.out (fun g hg=>hW.block g (HO.out.lt g hg).2))
   clear wZ xC hB hy h3 Ar y' hR g1 g2 g3 g4 g5 yi KZ
   rcases DA with rfl|rfl|rfl|rfl|⟨rfl, -⟩
   all_goals
    go_wp2_with (first
     |(go_at_call 75;(with_reducible refine (Hn.out _).mono ?_);rintro e1 w1 ⟨rfl,p4,rfl⟩)
     |(at_builtin;refine bL _ _ 26 172 i0 _ 3 32 Tryz.underlying26 xz xq xm xk rfl Zg rfl rfl w.heap.size _ j (gs.flatMap glC) (yf.out _ Zr) _ _ _ (0,0) (by exact aI ZG) rfl rfl (by rfl) ZL Za Za ZR ?_;intro g cap w2 hown wW xb xy;have xP:=Zh hown;have zs:=Zh wW;clear hown wW xb))
    refine ⟨⟨j+1,_,gs++[_],rfl,by simp,by omega,?_,by omega,by omega,by simp [xY],Zh ⟨KP.out,(HM.out _ Za).1,(HM.out _ Za).2⟩,Zh ?_⟩,by simp [intOf];omega⟩
    ·refine bW ?_ (yf.out _ ?_) zs.out (zaq _)
     all_goals (repeat (first|with_reducible exact HB.out|with_reducible exact zaa _ _|with_reducible apply ab|with_reducible apply ag|with_reducible apply aF))
    ·have e: ∀g,(gs++[g]).flatMap glC=gs.flatMap glC++glC g:=fun g=>by simp
     rw [e]
     exact xP.out
theorem jS{α:Type}{w:qW}{B s:Nat}{e:TypeId}{v:qV}{l:List α}{C:α->List qV}(h:w.ownsRow B e s v l.length (l.flatMap C))(hC: ∀x,(C x).length=s):RwAt w (fun _=>True) s (fun x cs=>cs=C x) v l:=by
 have e1:l.flatMap C=(l.map C).flatten:=by simp [List.flatMap]
 rw [e1] at h
 refine dF h (fun c hc=>?_) Zi rfl (fun i x c hx hc=>?_) (fun _ _=>trivial)
 ·obtain ⟨k, -,rfl⟩:=List.mem_map.1 hc
  exact hC k
 ·rw [zaj,hx] at hc
  cases hc
  rfl
theorem ydZ(nm s:qB)(r:Int)(K:Nat)(w:qW)(h:w.cell? (aB K 0)=some (.string s))(hK:K<w.heap.size):qC 256 #[.agg #[.string nm,iI r],pP K] w (Gives w (.bool (eqB nm s))):=by
 have he:=eqS nm s
 go_enter Tryz.func256,Tryz.ntmps256
 go_wp2
 go_ret
 exact Gives.mk (by rw [<-he];rfl) Z25_
theorem mR{α:Type}{l:List α}{p:α->Bool}{x:α}(h:l.find? p=some x): ∃i:Nat,l[i]?=some x/\p x=true/\ ∀j y,j<i->l[j]?=some y->p y=false:=by
 rw [List.find?_eq_some_iff_getElem] at h
 obtain ⟨h1,i,hi,h2,h3⟩:=h
 refine ⟨i,by rw [zaC hi,h2],h1,fun j y hj hy=>?_⟩
 have:=h3 j hj
 obtain ⟨hl,rfl⟩:=List.getElem?_eq_some_iff.1 hy
 simpa using this
theorem ybF(v:qV)(l:List (qB×Int))(s:qB)(x:qB×Int)(i:Nat)(hx:l[i]?=some x)(he:eqB x.1 s=true)(xV: ∀j y,j<i->l[j]?=some y->eqB y.1 s=false)(hl:l.length<=1000000)(K:Nat)(w:qW)(h:RwAt w (fun _=>True) 2 (fun x cs=>cs=locC x) v l)(hK:w.cell? (aB K 0)=some (.string s))(xW:K<w.heap.size):
  qC 255 #[v,.func (.func 256) #[] #[pP K]] w (Gives w (iI i)):=by
 obtain ⟨a,c,rfl, -, -,hc⟩:=h
 have HC:=Zh hc
 have HN:=Zh xV
 have HX:=Zh hx
 have HE:=Zh he
 have Fd:=(List.getElem?_eq_some_iff.1 hx).1
 have Bl:=Zh (fun nm r (W:qW) (hW:Below w.heap.size w W)=>ydZ nm s r K W ((hW.cell (p:=⟨K,0,none⟩) xW).trans hK) (zar xW hW.size))
 clear hc xV hx he hK
 go_enter Tryz.func255,Tryz.ntmps255
 go_wp2_with fail
 go_loopw [8] (fun v8 wr=> ∃j:Nat,v8=iI j/\j<=i/\Below w.heap.size w wr) (fun v8 _=>l.length-(intOf v8).toNat)
 case atStart=>exact ⟨0,rfl,zaB _,zaa _ _⟩
 case round=>
  obtain ⟨j,rfl,hj,hB⟩:=hrel
  obtain ⟨b,o,rfl, -,hb,xC⟩:=HC.out Za
  obtain ⟨y,hy⟩: ∃y,l[j]?=some y:=⟨l[j],zaC Za⟩
  obtain ⟨cs, -,rfl,xe⟩:=xC j y hy
  have c0:wr.cell? ⟨b,o+j*2,none⟩=some (.string y.1):=(hB.cell (p:=⟨b,_,none⟩) hb).trans (xe 0 _ rfl)
  have c1:wr.cell? ⟨b,o+j*2+1,none⟩=some (iI y.2):=(hB.cell (p:=⟨b,_,none⟩) hb).trans (xe 1 _ rfl)
  have HB:=Zh hB
  have HY:=Zh hy
  clear xC xe hB hy
  rcases (by omega:j=i\/j<i) with h1|h1
  ·subst h1
   obtain rfl:y=x:=zae (HY.out.symm.trans HX.out)
   have hq:=HE.out
   go_wp2_with (go_at_call 256;refine (Bl.out y.1 y.2 _ HB.out).mono ?_;rintro e w1 ⟨rfl,p,rfl⟩)
   go_ret
   exact Gives.mk rfl (aF HB.out p)
  ·have hq:=HN.out j y h1 HY.out
   go_wp2_with (go_at_call 256;refine (Bl.out y.1 y.2 _ HB.out).mono ?_;rintro e w1 ⟨rfl,p,rfl⟩)
   refine ⟨⟨j+1,by simp,by omega,aF HB.out p⟩,by simp [intOf];omega⟩
section
variable{w0 W W':qW}{M a b c:Nat}{vv wv:qV}{s:LS}
theorem Mk.locs(h:Mk w0 M a b c vv wv W s): ∃lv,W.cell? (aB M 7)=some lv/\RwAt W (fun _=>True) 2 (fun x cs=>cs=locC x) lv s.locals:=by
 obtain ⟨ov,sv,lv,xs,ho, -⟩:=h.ob
 refine ⟨lv,aa ho.out 7,?_⟩
 have:=ho.own ⟨7,339,2,s.locals.length,s.locals.flatMap locC⟩ (by simp [mkR])
 exact jS this (fun _=>rfl)
theorem RwAt.below{α:Type}{w w':qW}{ok:Nat->Prop}{n:Nat}{El:α->List qV->Prop}{v:qV}{l:List α}(h:RwAt w ok n El v l)(hb:Below w.heap.size w w'):RwAt w' ok n El v l:=h.keep hb.size (fun b ye hl=>⟨ye,hb.block b hl⟩) (fun _ _ _ h=>h)
theorem mQ(w:qW)(h:Mk w0 M a b c vv wv w s)(x:qB)(r:Int)(hr:lFind s x=some r):qC 204 #[pP M,.string x] w (Gives w (iI r)):=by
 obtain ⟨lv,hc7,xd⟩:=h.locs
 have j':=h.bd
 have hn:=h.nums.locals
 have yO:=h.nums.fin.regs
 unfold lFind at hr
 rcases hf:s.locals.find? (fun l=>eqB l.1 x) with _|q
 ·rw [hf] at hr
  cases hr
 rw [hf] at hr
 simp only [Option.map_some,zaA] at hr
 obtain ⟨i,hi,he,xV⟩:=mR hf
 have HI:=Zh (fun K W (hW:Below w.heap.size w W) hK xW=>ybF lv s.locals x q i hi he xV Za K W (xd.below hW) hK xW)
 obtain ⟨la,lc,rfl, -, -,yU⟩:=xd
 have Fd:=(List.getElem?_eq_some_iff.1 hi).1
 obtain ⟨lb,lo,rfl, -,LA,B6⟩:=yU Za
 obtain ⟨cs, -,rfl,xe⟩:=B6 i q hi
 have c1:w.cell? ⟨lb,lo+i*2+1,none⟩=some (iI q.2):=xe 1 _ rfl
 subst hr
 clear B6 xe hf hi he xV h yU
 go_enter Tryz.func204,Tryz.ntmps204
 go_wp2_with (first
  |(go_at_call 255;refine (HI.out _ _ Zv ZG ZG).mono ?_;rintro e w1 ⟨rfl,p,rfl⟩))
 go_ret
 exact Gives.mk rfl Zv
end
theorem wR(n:Int)(w:qW):qC 285 #[iI n,iI 16] w fun e w'=> ∃r:Int,e= .returned (iI r)/\1<=r/\r<=16/\w'=w:=by
 go_enter Tryz.func285,Tryz.ntmps285
 go_wp2_with fail
 go_loopw [1] (fun v1 wr=>wr=w/\ ∃m:Int,v1=iI m/\(m=16\/m=8\/m=4\/m=2\/m=1)) (fun v1 _=>(intOf v1).toNat)
 case atStart=>exact ⟨rfl,16,rfl,.inl rfl⟩
 case round=>
  obtain ⟨rfl,m,rfl,hm⟩:=hrel
  rcases hm with rfl|rfl|rfl|rfl|rfl
  all_goals
   go_wp2
   all_goals (first
    |(refine ⟨⟨trivial,_,rfl,by simp⟩,by simp [intOf]⟩;done)
    |(go_ret;exact ⟨_,rfl,by omega,by omega,rfl⟩))
def sameN(vs:List VarD)(gl:List GlD):Prop:=gl.map GlD.name=vs.map VarD.name
theorem lB: ∀(l:List VarD) (a:Int),sameN l (mapV a l).1
 |[],a=>rfl
 |v::l,a=>by
  have:=lB l ((a+tySize v.type-1)/tySize v.type*tySize v.type+tySize v.type)
  unfold sameN at*
  simp [mapV,this]
theorem ydY(nm s:qB)(k z:Int)(K:Nat)(w:qW)(h:w.cell? (aB K 0)=some (.string s))(hK:K<w.heap.size):qC 282 #[.agg #[.string nm,iI k,iI z,.bool false,.slice none 0 0,iI 0,.slice none 0 0],pP K] w (Gives w (.bool (eqB nm s))):=by
 have he:=eqS nm s
 go_enter Tryz.func282,Tryz.ntmps282
 go_wp2
 go_ret
 exact Gives.mk (by rw [<-he];rfl) Z25_
theorem ybB(v:qV)(l:List VarD)(s:qB)(x:VarD)(i:Nat)(hx:l[i]?=some x)(he:eqB x.name s=true)(xV: ∀j y,j<i->l[j]?=some y->eqB y.name s=false)(K:Nat)(w:qW)(h:VrsIn w v l)(hK:w.cell? (aB K 0)=some (.string s))(xW:K<w.heap.size):
  qC 142 #[v,.func (.func 282) #[] #[pP K]] w (Gives w (iI i)):=by
 obtain ⟨a,c,rfl,hl,hc⟩:=h
 have HC:=Zh hc
 have HN:=Zh xV
 have HX:=Zh hx
 have HE:=Zh he
 have Fd:=(List.getElem?_eq_some_iff.1 hx).1
 have Bl:=Zh (fun nm k z (W:qW) (hW:Below w.heap.size w W)=>ydY nm s k z K W ((hW.cell (p:=⟨K,0,none⟩) xW).trans hK) (zar xW hW.size))
 clear hc xV hx he hK
 go_enter Tryz.func142,Tryz.ntmps142
 go_wp2_with fail
 go_loopw [8] (fun v8 wr=> ∃j:Nat,v8=iI j/\j<=i/\Below w.heap.size w wr) (fun v8 _=>l.length-(intOf v8).toNat)
 case atStart=>exact ⟨0,rfl,zaB _,zaa _ _⟩
 case round=>
  obtain ⟨j,rfl,hj,hB⟩:=hrel
  obtain ⟨b,o,rfl,hb,xC⟩:=HC.out Za
  obtain ⟨y,hy⟩: ∃y,l[j]?=some y:=⟨l[j],zaC Za⟩
  obtain ⟨k,z,h3,h4,h5,c0,c1,c2,c3,c4,c5,c6⟩:=xC j y hy
  have wZ: ∀(n:Nat) (u:qV),w.cell? (aB b n)=some u->wr.cell? (aB b n)=some u:=fun n u hu=>(hB.cell (p:=⟨b,n,none⟩) hb).trans hu
  replace c0:=wZ _ _ c0
  replace c1:=wZ _ _ c1
  replace c2:=wZ _ _ c2
  replace c3:=wZ _ _ c3
  replace c4:=wZ _ _ c4
  replace c5:=wZ _ _ c5
  replace c6:=wZ _ _ c6
  have HB:=Zh hB
  have HY:=Zh hy
  clear wZ xC hB hy h3
  rcases (by omega:j=i\/j<i) with h1|h1
  ·subst h1
   obtain rfl:y=x:=zae (HY.out.symm.trans HX.out)
   have hq:=HE.out
   go_wp2_with (go_at_call 282;refine (Bl.out y.name k z _ HB.out).mono ?_;rintro e w1 ⟨rfl,p,rfl⟩)
   go_ret
   exact Gives.mk rfl (aF HB.out p)
  ·have hq:=HN.out j y h1 HY.out
   go_wp2_with (go_at_call 282;refine (Bl.out y.name k z _ HB.out).mono ?_;rintro e w1 ⟨rfl,p,rfl⟩)
   refine ⟨⟨j+1,by simp,by omega,aF HB.out p⟩,by simp [intOf];omega⟩
structure LoB(w0:qW)(vv wv:qV)(vs:List VarD)(gl:List GlD):Prop where
 vr:VrsIn w0 vv vs
 gr:RwAt w0 okA 3 (fun g cs=>cs=glC g) wv gl
 nm:sameN vs gl
 at_: ∀g∈gl,0<=g.at_/\g.at_<=1000000/\1<=g.len/\g.len<=16
theorem qX{vs:List VarD}{gl:List GlD}(hn:sameN vs gl){x:qB}{g:GlD}(h:gl.find? (fun g=>eqB g.name x)=some g): ∃(i:Nat) (v:VarD),vs[i]?=some v/\gl[i]?=some g/\eqB v.name x=true/\ ∀j y,j<i->vs[j]?=some y->eqB y.name x=false:=by
 obtain ⟨i,hi,he,xV⟩:=mR h
 have wX:gl.length=vs.length:=by have:=congrArg List.length hn;simpa using this
 have Fd:=(List.getElem?_eq_some_iff.1 hi).1
 have FZ: ∀(j:Nat) (y:VarD) (g:GlD),vs[j]?=some y->gl[j]?=some g->g.name=y.name:=fun j y g hy hg=>by
  have:=congrArg (fun l:List qB=>l[j]?) hn
  simpa [zaj,hy,hg] using this
 refine ⟨i,vs[i],zaC Za,hi,?_,fun j y hj hy=>?_⟩
 ·rw [<-FZ i _ g (zaC Za) hi]
  exact he
 ·have yL:j<gl.length:=by omega
  rw [<-FZ j y gl[j] hy (zaC yL)]
  exact xV j _ hj (zaC yL)
end Go.Proofs.YtcekjfmfcefjpaaGreatDoor
