/- Walks. No condition. -/
import Derived.Test.YtjmfoeajhiimnaaGreatDoorG32
set_option maxRecDepth 100000
set_option maxHeartbeats 0
set_option linter.all false
namespace Go.Proofs.YtjmfoeajhiimnaaGreatDoor
open Go.RowKit Go.Sort
section
variable{w0 W W':qW}{M a b c:Nat}{vv wv:qV}{s:LS}{vs:List VarD}{gl:List GlD}
theorem m7{r:Int×LS}(w:qW)(h:Mk w0 M a b c vv wv w s)(kind:Int)(hk:kind=5\/kind=6\/kind=7\/kind=8)(n:Nat)(name var:qB)(op order:Int)(pa ka:Option Addr)(pl pc kl kc:Nat)
  (HA: ∀W a1 b1 c1,Mk w0 M a1 b1 c1 vv wv W s->qC 253 #[pP M,.agg #[iI kind,.int .u64 n,.string name,iI op,iI order,.string var,.slice pa pl pc,.slice ka kl kc]] W (MkD w0 M a1 b1 c1 vv wv W r.2 (iI r.1))):
  qC 194 #[pP M,.agg #[iI kind,.int .u64 n,.string name,iI op,iI order,.string var,.slice pa pl pc,.slice ka kl kc]] w (MkD w0 M a b c vv wv w r.2 (iI r.1)):=by
 obtain ⟨ov,sv,lv,i',pi⟩:=h.rules
 have j':=h.bd
 have yb:=j'
 have HM:=Zh (MkA.begin h)
 replace HA:=Zh HA
 clear h
 rcases hk with rfl|rfl|rfl|rfl
 all_goals
  go_enter Tryz.func194,Tryz.ntmps194
  go_wp2_with fail
  (go_at_call 253;refine (HA.out _ _ _ _ (Zj:MkA _ _ _ _ _ _ _ w _ _ _ _ _).mkr).mono ?_;intro e w1 hD;have hN:=MkA.nx hD Zj;clear hD HM;(try clear i' pi);obtain ⟨rfl,a1,b1,c1,ov,sv,lv,i',pi,j',HM,hm,hT,hrel⟩:=hN;(try simp only [Zz] at hrel hm);(repeat ((first|((first|(with_reducible obtain ⟨hx,hy,xg,hT⟩:=aw (lo:=w.heap.size) hT Zv hrel Zc Zi)|(with_reducible obtain ⟨hx,hy,xg,hT⟩:=av (lo:=w.heap.size) hT Zx hrel Zc Zi));(try simp only [Zz] at hx hy xg);rw [hx];clear hx)|(with_reducible replace hT:=hT.unmo)|(with_reducible replace hT:=hT.undr))));clear hT hrel)
  go_wp2_with fail
  go_ret
  exact ZO
theorem lZ{gl:List GlD}{var:qB}{parts:List PartD}{sp:Int×Int}(h:lSpot gl var parts=some sp):parts=[]/\ ∃g,gl.find? (fun g=>eqB g.name var)=some g/\sp=(g.at_,g.len):=by
 unfold lSpot at h
 split at h
 ·rename_i hp
  rcases hf:gl.find? (fun g=>eqB g.name var) with _|g
  ·rw [hf] at h
   cases h
  ·rw [hf] at h
   cases h
   exact ⟨List.isEmpty_iff.1 hp,g,hf,rfl⟩
 ·cases h
theorem ya0{f:Ex->LS->Option (Int×LS)}{l:List Ex}{s:LS}{v:Int}{s1:LS}(h:lAll f l s=some ([v],s1)): ∃x,l=[x]/\f x s=some (v,s1):=by
 match l,h with
 |[],h=>simp [lAll] at h
 |[x],h=>
  simp only [lAll] at h
  split at h
  ·cases h
  ·rename_i v' s' h1
   simp at h
   exact ⟨x,rfl,by rw [h1,h.1,h.2]⟩
 |x::y::l,h=>
  simp only [lAll] at h
  split at h
  ·cases h
  split at h
  ·cases h
  rename_i q s2 h2
  split at h2
  ·cases h2
  split at h2
  ·cases h2
  cases h2
  simp at h
theorem ydl{n:Nat}(hL:LoB w0 vv wv vs gl)(HX:HLx w0 M vv wv gl n):HLx w0 M vv wv gl (n+1):=by
 intro w a b c s e pa ka pc kc r h hr hf hE
 obtain ⟨pv,kv,he,hp,hk, -⟩:=hE
 simp only [List.cons.injEq,and_true,true_and] at he
 obtain ⟨rfl,rfl⟩:=he
 unfold lExpr at hr
 split at hr
 ·rename_i h1
  cases hr
  rw [h1]
  exact ydp w h e.n e.name e.var e.op e.order pa ka _ pc _ kc hf
 split at hr
 ·rename_i h1 h2
  rcases hq:lFind s e.name with _|q
  ·rw [hq] at hr
   cases hr
  ·rw [hq] at hr
   cases hr
   rw [h2]
   exact ydo w h e.n e.name e.var e.op e.order pa ka _ pc _ kc q hq
 split at hr
 ·rename_i h1 h2 h3
  split at hr
  ·rename_i x y AY
   split at hr
   ·cases hr
   rename_i v1 s1 hx
   split at hr
   ·cases hr
   rename_i v2 s2 hy
   cases hr
   rw [AY] at hk ⊢
   rw [h3]
   exact ydn HX w h e.n e.name e.var e.op e.order pa ka _ pc kc x y hk (v1,s1) (v2,s2) hx hy hf
  ·cases hr
 split at hr
 ·cases hr
 split at hr
 ·cases hr
 rename_i sp hs
 obtain ⟨DN,g,hg,rfl⟩:=lZ hs
 split at hr
 ·cases hr
 rename_i l s1 xw
 unfold lAtomic at hr
 dsimp only at hr
 split at hr
 ·cases hr
 rename_i o ho
 simp only [zaA] at hr
 rw [DN] at hr ⊢
 split at ho
 ·cases ho
 split at ho
 ·rename_i h5 Pz
  split at ho
  ·obtain ⟨x,AY,hx⟩:=ya0 xw
   cases ho
   subst hr
   rw [AY] at hk ⊢
   rcases Pz with h6|h6
   ·rw [h6] at hf ⊢
    exact m7 w h 6 (.inr (.inl rfl)) e.n e.name e.var e.op e.order pa ka _ pc _ kc (fun W a1 b1 c1 hM=>n9 HX W hM hL 6 (.inl rfl) e.n e.name e.var e.op e.order pa ka pc kc g hg x (_,s1) hk hx hf)
   ·rw [h6] at hf ⊢
    exact m7 w h 7 (.inr (.inr (.inl rfl))) e.n e.name e.var e.op e.order pa ka _ pc _ kc (fun W a1 b1 c1 hM=>n9 HX W hM hL 7 (.inr rfl) e.n e.name e.var e.op e.order pa ka pc kc g hg x (_,s1) hk hx hf)
  ·cases ho
 split at ho
 ·cases ho
 ·cases ho
theorem m8(hL:LoB w0 vv wv vs gl): ∀n,HLx w0 M vv wv gl n
 |0=>fun w a b c s e pa ka pc kc r h hr hf hE=>by simp [lExpr] at hr
 |n+1=>ydl hL (m8 hL n)
end
section
variable{w0 W W':qW}{M a b c:Nat}{vv wv:qV}{s:LS}{vs:List VarD}{gl:List GlD}
theorem qH{r:LS}(w:qW)(h:Mk w0 M a b c vv wv w s)(ln order:Int)(name name2 var:qB)(pa xa ta la:Option Addr)(pl pc xl xc tl tc ll lc:Nat)
  (HA: ∀W a1 b1 c1,Mk w0 M a1 b1 c1 vv wv W s->qC 205 #[pP M,.agg #[iI 9,iI ln,.string name,.string name2,iI order,.string var,.slice pa pl pc,.slice xa xl xc,.slice ta tl tc,.slice la ll lc]] W (MkD w0 M a1 b1 c1 vv wv W r (.tuple #[]))):
  qC 129 #[pP M,.agg #[iI 9,iI ln,.string name,.string name2,iI order,.string var,.slice pa pl pc,.slice xa xl xc,.slice ta tl tc,.slice la ll lc]] w (MkD w0 M a b c vv wv w r (.tuple #[])):=by
 obtain ⟨ov,sv,lv,i',pi⟩:=h.rules
 have j':=h.bd
 have yb:=j'
 have HM:=Zh (MkA.begin h)
 replace HA:=Zh HA
 clear h
 go_enter Tryz.func129,Tryz.ntmps129
 go_wp2_with fail
 (go_at_call 205;refine (HA.out _ _ _ _ (Zj:MkA _ _ _ _ _ _ _ w _ _ _ _ _).mkr).mono ?_;intro e w1 hD;have hN:=MkA.nx hD Zj;clear hD HM;(try clear i' pi);obtain ⟨rfl,a1,b1,c1,ov,sv,lv,i',pi,j',HM,hm,hT,hrel⟩:=hN;(try simp only [Zz] at hrel hm);(repeat ((first|((first|(with_reducible obtain ⟨hx,hy,xg,hT⟩:=aw (lo:=w.heap.size) hT Zv hrel Zc Zi)|(with_reducible obtain ⟨hx,hy,xg,hT⟩:=av (lo:=w.heap.size) hT Zx hrel Zc Zi));(try simp only [Zz] at hx hy xg);rw [hx];clear hx)|(with_reducible replace hT:=hT.unmo)|(with_reducible replace hT:=hT.undr))));clear hT hrel)
 go_wp2_with fail
 go_end0
 exact ZO
theorem qt{n:Nat}(hL:LoB w0 vv wv vs gl)(HB:BLo w0 M vv wv gl n):SLo w0 M vv wv gl (n+1):=by
 have HX:HLx w0 M vv wv gl 66:=m8 hL 66
 intro w a b c s x pa xa ta la pc xc tc lc r h hr hf hx
 obtain ⟨pv,xv,tv,lv',he,hp,AO,FX,Q6, -,zV, -⟩:=hx
 simp only [List.cons.injEq,and_true,true_and] at he
 obtain ⟨rfl,rfl,rfl,rfl⟩:=he
 unfold lStmt at hr
 split at hr
 ·rename_i wZ
  rw [wZ]
  obtain ⟨e,v,s1,he,h1,h2⟩:=bB hr
  rw [he] at AO ⊢
  simp only [zaA] at h2
  subst h2
  have AW:=cK _ _ _ _ h1
  have F7:=(LLe.expr _ _ _ _ h1).regs
  have hn:=h.nums.locals
  exact yaM HX w h x.line x.order x.name x.name2 x.var pa xa ta la _ pc xc _ tc _ lc e (v,s1) AO h1 ⟨hf.ops,hf.regs,hf.labels,hf.sites⟩ (by simp only at AW F7 ⊢;rw [AW];omega)
 split at hr
 ·rename_i _ wZ
  rw [wZ]
  obtain ⟨e,v,s1,he,h1,h2⟩:=bB hr
  rw [he] at AO ⊢
  rcases hq:lFind s1 x.name with _|q
  ·rw [hq] at h2
   cases h2
  ·rw [hq] at h2
   simp only [Option.map_some,zaA] at h2
   subst h2
   exact rV w h x.line x.order x.name x.name2 x.var pa xa ta la _ pc 1 xc _ tc _ lc HX e (v,s1) AO h1 q hq hf
 split at hr
 ·rename_i _ _ wZ
  rw [wZ]
  unfold lWrite at hr
  split at hr
  ·cases hr
  rename_i sp hs
  obtain ⟨DN,g,hg,rfl⟩:=lZ hs
  rw [DN]
  split at hr
  ·cases hr
  rename_i yz
  obtain ⟨e,v,s1,he,h1,h2⟩:=bB hr
  rw [he] at AO ⊢
  simp only [zaA] at h2
  subst h2
  rw [DN] at hf ⊢
  exact oJ w h x.line x.order x.name x.name2 x.var pa xa ta la 0 pc 1 xc _ tc _ lc HX hL g hg e (v,s1) AO h1 (by simpa using yz) hf
 split at hr
 ·cases hr
 split at hr
 ·cases hr
 split at hr
 ·cases hr
 split at hr
 ·cases hr
 split at hr
 ·cases hr
 split at hr
 ·rename_i _ _ _ _ _ _ _ _ wZ
  rw [wZ]
  obtain ⟨e,v,s1,he,h1,h2⟩:=bB hr
  rw [he] at AO ⊢
  split at h2
  ·cases h2
  rename_i s2 h3
  simp only [zaA] at h2
  subst h2
  exact qH w h x.line x.order x.name x.name2 x.var pa xa ta la _ pc 1 xc _ tc _ lc (fun W a1 b1 c1 hM=>yaE HX HB W hM x.line x.order zV x.name x.name2 x.var pa xa la _ pc xc _ lc _ x.thn e (v,s1) s2 AO h1 h3 FX hf)
 split at hr
 ·rename_i _ _ _ _ _ _ _ _ _ wZ
  rw [wZ]
  obtain ⟨e,v,s1,he,h1,h2⟩:=bB hr
  rw [he] at AO ⊢
  simp only [zaA] at h2
  subst h2
  exact tX w h x.line x.order x.name x.name2 x.var pa xa ta la _ pc 1 xc _ tc _ lc HX e (v,s1) AO h1 hf
 ·cases hr
theorem jv(hL:LoB w0 vv wv vs gl): ∀n,SLo w0 M vv wv gl n
 |0=>fun w a b c s x pa xa ta la pc xc tc lc r h hr hf hx=>by simp [lStmt] at hr
 |n+1=>qt hL (nU (jv hL n))
theorem yeS(hL:LoB w0 vv wv vs gl)(n:Nat):BLo w0 M vv wv gl n:=nU (jv hL n)
end
theorem PrgAt.below{w w':qW}{v1 v2:qV}{p:PrgD}(h:PrgAt w okA v1 v2 p)(hb:Below w.heap.size w w'):PrgAt w' okA v1 v2 p:=by
 have hk: ∀b,okA b->b<w.heap.size->okA b/\w'.heap[b]?=w.heap[b]?:=fun b _ hl=>⟨trivial,hb.block b hl⟩
 refine ⟨h.vars.keep hb.size hk (fun _ _ _ h=>h),h.threads.keep hb.size hk (fun th _ cs ⟨v,e,hv⟩=>⟨v,e,hv.keep hb.size hk (fun x _ cs hx=>SmAt.keep hb.size hk 66 x cs hx)⟩)⟩
theorem lJ: ∀(l:List VarD) (seen:List qB) (a:Int),varsOk seen l=true->(∀v∈l,∃k z,v.type=scTy k z)->0<=a->(mapV a l).2<=65536-> ∀g∈(mapV a l).1,0<=g.at_/\g.at_<=1000000/\1<=g.len/\g.len<=16
 |[],seen,a,_,_,_,_=>by simp [mapV]
 |v::l,seen,a,h,hs,h0,hm=>by
  have hp:=ee h hs v Zg
  obtain ⟨-, -, -,g4,g5⟩:=eR h
  obtain ⟨k,z,e⟩:=hs v Zg
  have hz:tySize v.type=z:=by rw [e];rfl
  rw [e] at g4
  have DA:=(eq g4).2
  have h1:=iW a (tySize v.type) hp
  have h2:=fu l ((a+tySize v.type-1)/tySize v.type*tySize v.type+tySize v.type) (fun u hu=>ee g5 (fun u hu=>hs u (by simp [hu])) u hu)
  simp only [mapV] at hm ⊢
  intro g hg
  rcases List.mem_cons.1 hg with rfl|hg
  ·simp only
   rw [hz] at h1 h2 hm ⊢
   omega
  ·exact lJ l _ _ g5 (fun u hu=>hs u (by simp [hu])) Za hm g hg
theorem yac{W:qW}{vv wv:qV}:Mk W W.heap.size W.heap.size W.heap.size W.heap.size vv wv (W.alloc (.cells #[vv,wv,.slice none 0 0,iI 0,iI 0,.slice none 0 0,iI 0,.slice none 0 0] 206)) ⟨[],0,0,[],0,[]⟩:=by
 refine ⟨⟨.slice none 0 0,.slice none 0 0,.slice none 0 0,[],⟨zab _ _,?_,?_,?_⟩,rfl,rfl,rfl⟩,ab (zaa _ _) _,zaq _,⟨⟨by simp,by simp,by simp,by simp⟩,by simp,by simp,by simp,by unfold rng;simp⟩⟩
 ·intro r hr
  simp only [mkR,zaM,zaN,or_false] at hr
  rcases hr with rfl|rfl|rfl<;>exact zaX _ _ _ _
 ·simp [mkR]
 ·intro r hr q hq _ k hk
  simp only [mkR,zaM,zaN,or_false] at hr
  rcases hr with rfl|rfl|rfl<;>simp [fld,mkC,Value.ownBlock] at hk
theorem Mk.opsL{w0 W:qW}{M a b c:Nat}{vv wv:qV}{s:LS}(h:Mk w0 M a b c vv wv W s): ∃oa oc sv lv,s.ops.length<=oc/\(∀b i,W.cell? (aB b i)=if b<w0.heap.size then w0.cell? (aB b i) else if b=M then (#[vv,wv,.slice oa s.ops.length oc,iI s.regs,iI s.labels,sv,iI s.line,lv]:Array qV)[i]? else cellW W ⟨b,i,none⟩)/\
  (∀b i,W.frozen? (aB b i)=if b<w0.heap.size then w0.frozen? (aB b i) else if b=M then false else frzW W ⟨b,i,none⟩)/\W.ownsRow (M+1) 225 13 (.slice oa s.ops.length oc) s.ops.length (s.ops.flatMap opC):=by
 obtain ⟨ov,sv,lv,xs,ho,ea,eb,ec⟩:=h.ob
 have hown:=ho.own ⟨2,225,13,s.ops.length,s.ops.flatMap opC⟩ (by simp [mkR])
 obtain ⟨oa,oc,e,h1, -⟩:=aC hown
 simp only [fld,mkC] at e
 have e':ov= .slice oa s.ops.length oc:=by simpa using e
 subst e'
 exact ⟨oa,oc,sv,lv,h1,eN ho.out h.bl,eF ho.out h.bl,hown⟩
theorem yaX{gl:List GlD}{t:List Sm}{r:List OpD×Int}(h:lThread gl t=some r): ∃s,lBlock (fun y s=>lStmt gl 66 y s) t ⟨[],0,0,[],0,[]⟩=some s/\LFin s/\r=(s.ops,s.regs):=by
 unfold lThread at h
 split at h
 ·cases h
 rename_i s hs
 split at h
 ·cases h
 ·rename_i hn
  simp only [not_or,Nat.not_lt,Int.not_lt] at hn
  exact ⟨s,hs,⟨hn.1,hn.2.1,hn.2.2.1,hn.2.2.2⟩,(zae h).symm⟩
theorem pC(p:PrgD)(v1 v2:qV)(w:qW)(yo:SpT w)(h:PrgAt w okA v1 v2 p)(xr:cProg p=true)(n:Nat)(t:List Sm)(ht:p.threads[n]?=some t)(r:List OpD×Int)(hr:lThread (mapV 0 p.vars).1 t=some r):
  qC 53 #[.agg #[v1,v2],iI n] w fun e w'=> ∃oa oc,e= .returned (.tuple #[.slice oa r.1.length oc,iI r.2,.agg #[iI 0,iI 0]])/\Below w.heap.size w w'/\r.1.length<=oc/\w'.ownsRow w.heap.size 225 13 (.slice oa r.1.length oc) r.1.length (r.1.flatMap opC):=by
 obtain ⟨s,hs,xY,rfl⟩:=yaX hr
 obtain ⟨n1,n2,n3,n4,n5,n6⟩:=iJ xr
 have Ba:=fR h.vars Za
 have Er:=(List.getElem?_eq_some_iff.1 ht).1
 have In:=Zh (fun W (hW:Below w.heap.size w W)=>ky p v1 v2 W (yo.below hW) (h.below hW) xr)
 obtain ⟨va,vc,rfl,Ju, -, -⟩:=h.vars
 have KV:=Zh (fun W (hW:Below w.heap.size w W)=>lH va vc p.vars W (Ba.below hW) n4 n1 n5)
 have HP:=Zh h
 have Jb:=Zh Ba
 obtain ⟨ta,tc,rfl,zJ, -,y8⟩:=h.threads
 obtain ⟨tb,tof,rfl, -,Jx,Cg⟩:=y8 Za
 obtain ⟨cs, -,⟨tv,rfl,FV⟩,xm⟩:=Cg n t ht
 have c0:w.cell? ⟨tb,tof+n*1,none⟩=some tv:=xm 0 _ rfl
 rw [Nat.mul_one] at c0
 clear Cg y8 xm h Ba xr
 go_enter Tryz.func53,Tryz.ntmps53
 go_wp2_with fail
 go_at_call 29
 refine (In.out _ Zr).mono ?_
 rintro e1 w1 ⟨rfl,p1,rfl⟩
 go_wp2_with fail
 go_at_call 30
 refine (KV.out _ Zr).mono ?_
 rintro e2 w2 ⟨gv,rfl,yr,hown⟩
 obtain ⟨ga,gc,rfl, -⟩:=aC hown
 have yH:=yr.size
 simp only [ar,aZ] at yH
 have Ab:Below w.heap.size w w2:=an Zr yr ZS
 have k0:w2.heap[w.heap.size]?=some (.cells #[.slice va p.vars.length vc,.slice (some ⟨tb,tof,none⟩) p.threads.length tc] 59 (0,0)):=by
  rw [yr.block _ ZS,zac _ _ ZS,ch _ _ _ ZF,zac _ _ ZF]
  exact zab _ _
 have k1:w2.heap[w.heap.size+1]?=some (.cells #[iI 0,iI 0] 34 (0,0)):=by
  rw [yr.block _ ZS,zac _ _ ZS,ch _ _ _ ZF]
  exact aH Zg
 have xd:=gZ p.vars 0
 have RX:=Zh (HP.out.below Ab)
 have hL:LoB w2 (.slice va p.vars.length vc) (.slice ga (mapV 0 p.vars).1.length gc) p.vars (mapV 0 p.vars).1:=⟨Jb.out.below Ab,jZ hown (fun _=>rfl),lI _ _,lJ p.vars [] 0 n4 (fun v hv=>by
  obtain ⟨a',c',he, -,hg⟩:=Jb.out
  obtain ⟨i,hi,rfl⟩:=zaP hv
  obtain ⟨b',o', -, -,hg⟩:=hg Za
  obtain ⟨k,z,h3, -⟩:=hg i _ (zaC hi)
  exact ⟨k,z,h3⟩) Za n5⟩
 have FU:RwAt w2 okA 10 (SmAt w2 okA 66) tv t:=FV.keep Ab.size (fun b _ hl=>⟨trivial,Ab.block b hl⟩) (fun x _ cs hx=>SmAt.below hx Ab)
 have xo:=yeS (M:=w2.heap.size) hL 66 _ _ _ _ _ tv t s (yac (W:=w2)) hs xY FU
 simp only [xd] at xo
 have Ac:=Zh xo
 clear xo
 have q0:=aa k0
 have q1:=aa k1
 have ct:w2.cell? ⟨tb,tof+n,none⟩=some tv:=(Ab.cell (p:=⟨tb,_,none⟩) Jx).trans c0
 have Aa:=Zh k1
 have HB:=Zh Ab
 clear yr hown k0 k1 hL FV FU Ab hs
 go_wp2_with fail
 go_at_call 79
 refine Ac.out.mono ?_
 rintro e3 w3 ⟨rfl,a1,b1,c1,hM,hT, -, -, -⟩
 obtain ⟨oa,oc,sv,lv,yf,i',pi,hown⟩:=hM.opsL
 have j':=hM.bd
 have zt:=xY.ops
 have xo:=hM.bl
 have f1:w3.heap[w.heap.size+1]?=some (.cells #[iI 0,iI 0] 34 (0,0)):=(xo.block _ Za).trans Aa.out
 have Ci:=an HB.out xo HB.out.size
 have qM: ∀i,w3.cell? (aB w2.heap.size i)=(#[.slice va p.vars.length vc,.slice ga p.vars.length gc,.slice oa s.ops.length oc,iI s.regs,iI s.labels,sv,iI s.line,lv]:Array qV)[i]?:=fun i=>by rw [i',if_neg Za,if_pos rfl]
 obtain ⟨V,hV,D8,Ha,Mu,Kr⟩: ∃V,w3=putB V (w.heap.size+1) #[iI 0,iI 0] 34/\V.ownsRow (w2.heap.size+1) 225 13 (.slice oa s.ops.length oc) s.ops.length (s.ops.flatMap opC)/\Below w.heap.size w V/\(∀i,V.cell? (aB w2.heap.size i)=(#[.slice va p.vars.length vc,.slice ga p.vars.length gc,.slice oa s.ops.length oc,iI s.regs,iI s.labels,sv,iI s.line,lv]:Array qV)[i]?)/\w2.heap.size<V.heap.size:=⟨w3,(bE f1).symm,hown,Ci,qM,j'.2.1⟩
 have xU:=Zh D8
 have Cv:=Zh Ha
 clear hM hT hown xo i' pi Ci qM D8 Ha j' f1
 subst hV
 have Ro:w2.heap.size<V.drew.heap.size:=Kr
 go_wp2_with fail
 have hA: ∀i,(putB V (w.heap.size+1) #[iI 0,iI 0] 34).drew.cell? (aB w2.heap.size i)=(#[.slice va p.vars.length vc,.slice ga p.vars.length gc,.slice oa s.ops.length oc,iI s.regs,iI s.labels,sv,iI s.line,lv]:Array qV)[i]?:=fun i=>by
  rw [drewC,dc,if_neg Za]
  exact Mu i
 have hB:True:=trivial
 refine ae (fun W=> ∀i,W.cell? (aB w2.heap.size i)=(#[.slice va p.vars.length vc,.slice ga p.vars.length gc,.slice oa s.ops.length oc,iI s.regs,iI s.labels,sv,iI s.line,lv]:Array qV)[i]?) (fun W=>True) 11 rfl ?_
 refine Zp 0 rfl (h:=Zp 1 rfl (h:=Zp 2 rfl (h:=Zt 3 rfl (h:=Zp 4 rfl (h:=Zp 5 rfl (h:=Zp 6 rfl (h:=Zt 7 rfl (h:=Zp 8 rfl (h:=?_)))))))));try simp only [Zq]
 refine Zs 9 rfl fun K hK=>?_
 go_simp
 refine hK _ _ ⟨hA,fun _=>trivial⟩ ?_
 clear hK K
 refine Zs 10 rfl fun K hK=>?_
 go_simp
 refine hK _ _ ⟨hA,fun _=>trivial⟩ ?_
 clear hK K
 refine Zs 11 rfl fun K hK=>?_
 go_simp
 try simp [go_sem,↓IntWalk.iteOmega]
 refine hK _ _ ⟨fun i=>?_,fun _=>trivial⟩ ?_
 ·rw [dc,if_neg Za]
  exact Mu i
 clear hK K hA
 refine af Zb ?_ _
 go_wp2_with fail
 (try simp only [Exit.inBlock,Exit.then]);refine zad (by simp [results,Tryz.results53,go_sem,↓IntWalk.iteOmega];try rfl) rfl ?_
 refine ⟨oa,oc,rfl,eO (fI Cv.out) Za _ _,yf,?_⟩
 have ho:=gB (gC xU.out) (k:=w.heap.size+1) (cs:=#[iI 0,iI 0]) (t:=34) (fun e=>by have:=(xU.out.lt _ e).1;omega)
 refine ⟨ho.1,?_⟩
 rcases ho.2 with h1|⟨g,cap,cur,e1,h2,h3⟩
 ·exact .inl h1
 ·exact .inr ⟨g,cap,cur,e1,by omega,h3⟩
def ef(n:Nat):List qV:=[.int .u32 n]
def siteC(k:Nat)(s:Int×Int):List qV:=[iI k,iI s.1,iI s.2]
def ITD(w:qW)(n:Nat)(r:List Nat×List (Int×Int))(e:Ending)(w':qW):Prop:=
 ∃g1 c1 g2 c2,e= .returned (.tuple #[.slice (aA g1) r.1.length c1,.slice (aA g2) r.2.length c2,.agg #[iI 0,iI 0]])/\Below w.heap.size w w'/\
  w'.ownsRow w.heap.size 81 1 (.slice (aA g1) r.1.length c1) r.1.length (r.1.flatMap ef)/\w'.ownsRow w.heap.size 74 3 (.slice (aA g2) r.2.length c2) r.2.length (r.2.flatMap (siteC n))
theorem cz{w:qW}{B s n c:Nat}{a:Option Addr}{e:TypeId}{xs:List qV}(h:w.ownsRow B e s (.slice a n c) n xs)(hn:0<n): ∃g,a=aA g:=by
 obtain ⟨a',c',e1,_,_,h1,h2⟩:=aC h
 injection e1 with e1
 subst e1
 cases a with
 |none=>have:=(h1 rfl).1;omega
 |some p=>exact ⟨p.block,by rw [h2 p rfl]⟩
theorem bT{w:qW}{B s n c g:Nat}{e:TypeId}{xs:List qV}(h:w.ownsRow B e s (.slice (aA g) n c) n xs):RowC w g xs:=fun j u hu=>by
 have:=h.cells (g:=g) rfl j u hu
 rw [bN] at this
 exact this
theorem yfE{l:List Tri}{regs:Nat}{pl:List Int}(h:aAssignB l regs=some pl):pl.length=regs:=by
 unfold aAssignB at h
 rw [za1] at h
 obtain ⟨⟨q,P⟩,h,rfl⟩:=h
 have:=oD _ _ _ h
 simpa using this
theorem ycm: ∀(l:List Ins) (ws:List Nat),iEnc l=some ws->ws.length=l.length/\ ∀(k:Nat) (i:Ins),l[k]?=some i-> ∃wd,enc i=some wd/\ws[k]?=some wd:=by
 intro l
 induction l with
 |nil=>
  intro ws h
  cases h
  exact ⟨rfl,fun k i hk=>by simp at hk⟩
 |cons i l ih=>
  intro ws h
  unfold iEnc at h
  split at h
  ·rename_i wd r h1 h2
   obtain rfl:=zae h
   obtain ⟨k1,k2⟩:=ih r h2
   refine ⟨by simp [k1],fun k x hk=>?_⟩
   cases k with
   |zero=>
    simp only [List.getElem?_cons_zero,zaA] at hk ⊢
    subst hk
    exact ⟨wd,h1,rfl⟩
   |succ k=>exact k2 k x hk
  ·cases h
theorem dL{w:qW}{B B' s n:Nat}{v:qV}{e:TypeId}{xs:List qV}(h:w.ownsRow B e s v n xs)(hB:B'<=B):w.ownsRow B' e s v n xs:=by
 refine ⟨h.1,?_⟩
 rcases h.2 with h2|⟨g,cap,cur,e1,h2,h3⟩
 ·exact .inl h2
 ·exact .inr ⟨g,cap,cur,e1,zal hB h2,h3⟩
theorem pq:(Tryz.prog.info? 81).map (fun i=>(i.zero,i.size,i.bytes))=some (some (.int .u32 0),1,4):=by kernel_rfl
theorem jL:(Tryz.prog.info? 74).map (fun i=>(i.zero,i.size,i.bytes))=some (some (.agg #[iI 0,iI 0,iI 0]),3,24):=by kernel_rfl
theorem kg{W:qW}{g:Nat}{l:List Int}(h:RowC W g (l.flatMap numC)){k:Nat}(hk:k<l.length):W.cell? (aB g k)=some (iI (l.getD k 0)):=by
 have hy:l[k]?=some (l.getD k 0):=by rw [zaU,zaC hk];rfl
 have:=h (k*1+0) _ (by rw [bJ (f:=numC) (z:=1) (fun _=>rfl) hy 0 Za];rfl)
 simpa using this
structure ThK(w:qW)(iv:qV->Array qV)(W:qW):Prop where
 im:W.heap[w.heap.size+1]?=some (.cells (iv undef) 31 (0,0))
 fl:W.heap[w.heap.size+1+1]?=some (.cells #[iI 0,iI 0] 34 (0,0))
 sz:w.heap.size+3<=W.heap.size
 bl:Below w.heap.size w W
theorem ThK.below{w W W':qW}{iv:qV->Array qV}(h:ThK w iv W)(hb:Below W.heap.size W W'):ThK w iv W':=
 ⟨(hb.block _ (by have:=h.sz;omega)).trans h.im,(hb.block _ (by have:=h.sz;omega)).trans h.fl,zal h.sz hb.size,an h.bl hb h.bl.size⟩
theorem sJ(x y:Int)(W:qW):(Instr.field 67 (.agg #[iI x,iI y]) 0).run Tryz.prog W= .ok (iI x) W:=by kernel_rfl
theorem pw{w:qW}{g:Nat}{l:List Tri}(h:RowAt w g l):RowC w g (l.flatMap tvC):=by
 intro j u hu
 have xd: ∀l:List Tri,(l.flatMap tvC).length=l.length*3:=by
  intro l
  induction l with
  |nil=>rfl
  |cons x l ih=>rw [zaf,zaO,ih];simp [tvC];omega
 have hj:j<l.length*3:=by rw [<-xd];exact (List.getElem?_eq_some_iff.1 hu).1
 have hd:j=j/3*3+j%3:=by omega
 have hq:j/3<l.length:=by omega
 have hx:l[j/3]?=some l[j/3]:=zaC hq
 have hf:=bJ (f:=tvC) (z:=3) (fun _=>rfl) hx (j%3) Za
 rw [<-hd,hu] at hf
 obtain ⟨c0,c1,c2, -⟩:=h (j/3) _ hx
 have h3:j%3=0\/j%3=1\/j%3=2:=by omega
 rcases h3 with e|e|e
 ·rw [e] at hf hd
  rw [hd,Nat.add_zero,c0]
  simpa [tvC] using hf.symm
 ·rw [e] at hf hd
  rw [hd,c1]
  simpa [tvC] using hf.symm
 ·rw [e] at hf hd
  rw [hd,c2]
  simpa [tvC] using hf.symm
theorem pD(p:PrgD)(v1 v2:qV)(w:qW)(yo:SpT w)(h:PrgAt w okA v1 v2 p)(xr:cProg p=true)(n:Nat)(t:List Sm)(ht:p.threads[n]?=some t)(ta:Option Addr)(tc L:Nat)(sv gv:qV)(size:Int)(Og:n<L)(JM:n<8)(h0:0<=size)(h1:size<=65536)(hL:L<=100)(r:List Nat×List (Int×Int))(hr:iThreadB (mapV 0 p.vars).1 size t n=some r):
  qC 31 #[.agg #[v1,v2],.agg #[.slice ta L tc,sv,gv,iI size],iI n] w (ITD w n r):=by
 obtain ⟨H⟩:=ycl hr
 obtain ⟨ops,regs,iv,pl,l,sites,lines,xD,JQ,iv0,iv1,op0,op1,rg1,JV,G8,Ek,GN,GC,DI,Fp,l0,l1,GM,BL⟩:=H
 have CT:=Zh (fun W (hb:Below w.heap.size w W)=>pC p v1 v2 W (yo.below hb) (h.below hb) xr n t ht (ops,(regs:Int)) xD)
 have CS:=Zh (fun W=>jz W ta L tc sv gv size n Og JM h0 h1 hL)
 have xz:Hid (0<=iStack size n/\iStack size n<=500000):=Zh (by unfold iStack;omega)
 clear h xr ht hr xD
 obtain ⟨i0,xF,xx,xu,xq⟩:=zan pq
 obtain ⟨i1,Bm,AN,Bs,Aj⟩:=zan jL
 go_enter Tryz.func31,Tryz.ntmps31
 go_wp2_with fail
 go_at_call 53
 refine (CT.out _ Zr).mono ?_
 rintro e w1 ⟨oa,oc,rfl,hb,yf,hown⟩
 obtain ⟨g,rfl⟩:=cz hown op0
 have ym:ThK w (fun _=>#[.slice ta L tc,sv,gv,iI size]) (((w.alloc (.cells #[v1,v2] 59)).alloc (.cells #[.slice ta L tc,sv,gv,iI size] 31)).alloc (.cells #[iI 0,iI 0] 34)):=
  ⟨(zac _ _ ZC).trans (aH ZC),aH ZC,by simp [go_sem],ab (ab (ab (zaa _ _) _) _) _⟩
 have xx:(((w.alloc (.cells #[v1,v2] 59)).alloc (.cells #[.slice ta L tc,sv,gv,iI size] 31)).alloc (.cells #[iI 0,iI 0] 34)).heap.size=w.heap.size+3:=by simp [go_sem]
 have HT:=Zh (ym.below hb)
 have HO:=Zh hown
 have yd:=hown.lt g rfl
 rw [xx] at yd
 clear hb hown ym xx CT
 have OK:=sJ
 go_wp2_with fail
 obtain ⟨_,oc2,e2,Eo,En, -⟩:=aC HO.out
 injection e2 with e2 e3 e4
 subst e4
 clear e2
 have MG:RowC w1 g (ops.flatMap opC):=bT HO.out
 have EI:g<w1.heap.size:=yd.2
 have Ee:=Zh MG
 clear MG
 go_at_call 55
 refine (ybQ (aA g) g 0 ops.length oc (opsFn ops) regs (fun _=>rfl) op1 Eo En Za Za JV _ (fun k hk=>vp (Ee.out.kp ((Kp.refl (fun _=>False) w1).alloc _) EI id) k hk)).mono ?_
 rintro e w2 ⟨A',g',c',r',rfl,⟨p2,rfl⟩,FZ,M8,OI,O2,Kg,xn⟩
 obtain rfl:=FZ.unique JQ
 obtain ⟨rfl,IK⟩:=M8 iv0
 have C3:=Zh (yfl _ g' c' r' iv0 iv1 IK (pw xn) O2 Kg regs Za pl G8)
 clear FZ M8 xn
 have yT:=Zh ((HT.out.below (ab (zaa w1.heap.size w1) (.cells #[iI 0,iI 0] 34))).below (au _ p2))
 have Hs:=Zh ((Ee.out.kp ((Kp.refl (fun _=>False) w1).alloc (.cells #[iI 0,iI 0] 34)) EI id).kp (Kp.mo (X:=fun _=>False) _ p2) ZR id)
 have GH:g<(more (w1.alloc (.cells #[iI 0,iI 0] 34)) p2).heap.size:=by simp [go_sem];omega
 generalize more (w1.alloc (.cells #[iI 0,iI 0] 34)) p2=w2 at*
 go_wp2_with fail
 go_at_call 54
 refine C3.out.mono ?_
 rintro e w3 ⟨pg,pc,rfl,Ai,yi⟩
 have KL:=Zh (yT.out.below Ai)
 have Hr:=Zh (Hs.out.kp (Kp.of_below (X:=fun _=>False) Ai) GH id)
 have GG:g<w3.heap.size:=by have:=Ai.size;omega
 have xB:=Zh yi
 have CB:=yi.lt pg rfl
 have qi: ∀i,w3.cell? ⟨w.heap.size+1,i,none⟩=(#[.slice ta L tc,sv,gv,iI size]:Array qV)[i]?:=aa KL.out.im
 clear Ai yi C3 yT Hs GH
 go_wp2_with fail
 go_at_call 14
 refine (CS.out _).mono ?_
 rintro e w4 ⟨rfl,p4,rfl⟩
 obtain ⟨ps,Dd⟩: ∃ps:Nat,iStack size n=ps:=⟨(iStack size n).toNat,by have:=xz.out;omega⟩
 rw [Dd] at xz Ek GN ⊢
 simp only [Int.toNat_natCast] at Ek GN
 have N8:=xz.out
 have Ni:=Zh (KL.out.below (au w3 p4))
 have Hq:=Zh (Hr.out.kp (Kp.mo (X:=fun _=>False) w3 p4) GG id)
 have GD:g<(more w3 p4).heap.size:=by simp [go_sem];omega
 have Gd:pg<(more w3 p4).heap.size:=by simp [go_sem];omega
 have H7:=Zh (bW xB.out (Kp.mo (X:=fun _=>False) w3 p4) id)
 generalize more w3 p4=w5 at*
 have C5:=Zh (ydu w5 ops g oc Eo En GD Hq.out pl pg pc ⟨rfl,Gd,fun i hi=>by
  have:=cS H7.out hi
  exact this,by rw [yfE G8];omega⟩ ps Za Ek (l,sites,lines) GN)
 clear KL Hr GG qi Hq
 go_wp2_with fail
 go_at_call 56
 refine C5.out.mono ?_
 rintro e w6 ⟨g1,c1,g2,c2,g3,c3,rfl,G0,⟨r1,r1c,r1l,r1s⟩,⟨r2,r2c,r2l,r2s⟩,⟨r3,r3c,r3l,r3s⟩⟩
 have KK:=Zh (Ni.out.below G0)
 have Cq:=Zh r1
 have AL:=Zh r2
 have P3:=Zh r3
 simp only [] at r1c r2c r3c r1s r2s r3s
 have QM:=KK.out.sz
 obtain ⟨y8,Ma⟩:=ycm l r.1 GM
 have Qz:=Zh Ma
 have zJ:Hid (r.2.length=l.length):=Zh (by rw [BL,List.length_zip,DI,Fp];simp)
 have PO:=Zh BL
 have Cu:=Zh GC
 clear G0 r1 r2 r3 Ni H7 xB CB Gd GD C5 Ma BL GC yd EI GM
 go_wp2_with fail
 go_loopw [18,19,66] (fun v18 v19 v66 wr=> ∃k:Nat,v66=iI k/\k<=l.length/\Below w6.heap.size w6 wr/\Hid (wr.ownsRow w6.heap.size 81 1 v18 k ((r.1.take k).flatMap ef))/\Hid (wr.ownsRow w6.heap.size 74 3 v19 k ((r.2.take k).flatMap (siteC n)))/\Hid (∀b,v18.ownBlock=some b->v19.ownBlock≠some b)) (fun v18 v19 v66 _=>l.length-(intOf v66).toNat)
 case atStart=>exact ⟨0,rfl,zaB _,zaa _ _,Zh (zaX _ _ _ _),Zh (zaX _ _ _ _),Zh (fun b hb=>by cases hb)⟩
 case round=>
  obtain ⟨k,rfl,hk,hB,Ct,z8,Ld⟩:=hrel
  have hsz:=hB.size
  obtain ⟨a1,d1,rfl,Dm,OS, -, -⟩:=aC Ct.out
  obtain ⟨a2,d2,rfl,Rf,OR, -, -⟩:=aC z8.out
  by_cases zu:k<l.length
  ·obtain ⟨y,hy⟩: ∃y,l[k]?=some y:=⟨l[k],zaC zu⟩
   obtain ⟨wd,y7,Lo⟩:=Qz.out k y hy
   have Fc:=Cu.out y (zat hy)
   have xh: ∀m u,m<7->(insC y)[m]?=some u->wr.cell? ⟨g1,k*7+m,none⟩=some u:=fun m u hm hu=>(hB.cell (p:=⟨g1,k*7+m,none⟩) r1s).trans (Cq.out (k*7+m) u (by rw [bJ (f:=insC) (z:=7) (fun _=>rfl) hy m hm];exact hu))
   have e0:=xh 0 _ Za rfl
   have e1:=xh 1 _ Za rfl
   have e2:=xh 2 _ Za rfl
   have e3:=xh 3 _ Za rfl
   have e4:=xh 4 _ Za rfl
   have e5:=xh 5 _ Za rfl
   have e6:=xh 6 _ Za rfl
   rw [Nat.add_zero] at e0
   have yH:=(hB.cell (p:=⟨g2,k,none⟩) r2s).trans (kg AL.out (k:=k) (by simp only [DI];exact zu))
   have DJ:=(hB.cell (p:=⟨g3,k,none⟩) r3s).trans (kg P3.out (k:=k) (by simp only [Fp];exact zu))
   obtain ⟨sk,JB⟩: ∃sk,sites.getD k 0=sk:=⟨_,rfl⟩
   obtain ⟨lk,Bu⟩: ∃lk,lines.getD k 0=lk:=⟨_,rfl⟩
   rw [JB] at yH
   rw [Bu] at DJ
   have PQ:=Zh JB
   have Qn:=Zh Bu
   clear JB Bu
   have CE:=Zh (fun W=>nb y Fc W)
   rw [y7] at CE
   simp only [Option.getD_some,Option.isSome_some,if_true] at CE
   have PH:=Zh Lo
   simp only [DI,Fp] at r2c r3c
   have Hz:=Zh (fun W (hW:Below wr.heap.size wr W)=>ax Ct.out (fun g hg=>hW.block g (Ct.out.lt g hg).2))
   have Hy:=Zh (fun W (hW:Below wr.heap.size wr W)=>ax z8.out (fun g hg=>hW.block g (z8.out.lt g hg).2))
   have Jj:=Zh hB
   clear xh hy y7 Lo hB
   try simp only [DI,Fp]
   go_wp2_with fail
   go_at_call 57
   refine (CE.out _).mono ?_
   rintro e wv ⟨rfl,p7,rfl⟩
   have A6:Below wr.heap.size wr (more (wr.alloc (.cells #[iI y.op,iI y.d,iI y.n,iI y.m,iI y.e,iI y.sz,iI y.imm] 83)) p7):=aG (ab (zaa _ _) _) p7
   have NO:=A6.size
   have Ab:=Zh A6
   have c2':=(A6.cell (p:=⟨g2,k,none⟩) (by show g2<_;omega)).trans yH
   have c3':=(A6.cell (p:=⟨g3,k,none⟩) (by show g3<_;omega)).trans DJ
   have o1':=Zh (Hz.out _ A6)
   have o2':=Zh (Hy.out _ A6)
   have I6:=Zh (Jj.out.trans ⟨A6.os,A6.tape,A6.output,A6.size,fun i hi=>A6.block i Za⟩)
   clear A6 yH DJ e0 e1 e2 e3 e4 e5 e6 CE Hz Hy Ct z8 Jj
   generalize more (wr.alloc (.cells #[iI y.op,iI y.d,iI y.n,iI y.m,iI y.e,iI y.sz,iI y.imm] 83)) p7=wa at*
   go_wp2_with (at_builtin;refine bO (.tmp 79) (.tmp 81) 69 81 i0 _ 1 4 Tryz.underlying69 xF xx xu xq rfl Zd rfl rfl w6.heap.size _ k ((r.1.take k).flatMap ef) (ax o1'.out (fun g hg=>zac _ _ (o1'.out.lt g hg).2)) wa.heap.size #[.int .u32 wd] 81 (0,0) (zab _ _) rfl rfl rfl ZD Za Za ZF ?_;intro g8 cap8 wb hown xb xk JR;have xU:=Zh hown;have zE:=Zh xb;have FM:=Zh xk;clear hown xb xk)
   have Ae:Kp (fun b=>(Value.slice a1 k d1).ownBlock=some b) wa wb:=((Kp.refl (fun b=>(Value.slice a1 k d1).ownBlock=some b) wa).alloc _).trans ((Kp.of_grown zE.out).mono (fun b _ e=>e.symm))
   have IV: ∀b,(Value.slice a1 k d1).ownBlock=some b->w6.heap.size<=b:=fun b e=>(o1'.out.lt b e).1
   have M3:Below w6.heap.size w6 wb:=aI I6.out Ae IV
   have c2b:wb.cell? (aB g2 k)=_:=(Ae.cell Za (fun e=>by have:=IV _ e;omega)).trans c2'
   have c3b:wb.cell? (aB g3 k)=_:=(Ae.cell Za (fun e=>by have:=IV _ e;omega)).trans c3'
   have o2b:=Zh (ai o2'.out Ae (fun b hb e=>Ld.out b e hb))
   have NP:=Ae.size
   have Nw:=Zh M3
   have ET:Hid (∀b,(Value.slice (aA g8) (k+1) cap8).ownBlock=some b->(Value.slice a2 k d2).ownBlock≠some b):=Zh (fun b hb e2=>by
    have AG:g8=b:=by simpa [Value.ownBlock] using hb
    subst AG
    rcases FM.out with e|e
    ·exact Ld.out _ e e2
    ·have:=(o2'.out.lt _ e2).2
     simp only [ar] at e
     omega)
   clear c2' c3' o1' o2' I6 Ae IV M3 zE FM Ld
   refine ae (fun W=>W.cell? (aB g2 k)=some (iI sk)/\W.cell? (aB g3 k)=some (iI lk)) (fun W=>True) 13 rfl ?_
   have hA:wb.drew.cell? (aB g2 k)=some (iI sk)/\wb.drew.cell? (aB g3 k)=some (iI lk):=⟨c2b,c3b⟩
   have hB:True:=trivial
   refine Zp 0 rfl (h:=Zp 1 rfl (h:=Zp 2 rfl (h:=Zp 3 rfl (h:=Zp 4 rfl (h:=Zt 5 rfl (h:=Zp 6 rfl (h:=Zp 7 rfl (h:=Zp 8 rfl (h:=Zt 9 rfl (h:=Zp 10 rfl (h:=?_)))))))))));try simp only [Zq]
   refine Zs 11 rfl fun K hK=>?_
   go_simp
   have ye:(wb.alloc (.cells #[iI n,iI sk,iI lk] 74)).drew.cell? (aB g2 k)=some (iI sk)/\(wb.alloc (.cells #[iI n,iI sk,iI lk] 74)).drew.cell? (aB g3 k)=some (iI lk):=⟨(aj Za).trans c2b,(aj Za).trans c3b⟩
   refine hK _ _ ⟨ye,fun _=>trivial⟩ ?_
   clear hK K hA
   have hA:=ye
   refine Zs 12 rfl fun K hK=>?_
   refine bf (.tmp 83) (.tmp 94) 70 74 i1 _ 3 24 Tryz.underlying70 Bm AN Bs Aj rfl Zd rfl rfl w6.heap.size (.slice a2 k d2) k ((r.2.take k).flatMap (siteC n)) (ax o2b.out (fun g hg=>zac _ _ (o2b.out.lt g hg).2)) wb.heap.size #[iI n,iI sk,iI lk] 74 (0,0) (zab _ _) ZA ZA rfl ZD Za Za Zc ?_
   intro g9 cap9 wc hown xb xk Ol
   have Gx:Kp (fun b=>(Value.slice a2 k d2).ownBlock=some b) wb wc:=(((Kp.refl (fun b=>(Value.slice a2 k d2).ownBlock=some b) wb).drew).alloc _).trans ((Kp.of_grown xb).mono (fun b _ e=>e.symm))
   have IU: ∀b,(Value.slice a2 k d2).ownBlock=some b->w6.heap.size<=b:=fun b e=>(o2b.out.lt b e).1
   have E5:=Zh (aI Nw.out Gx IU)
   have o1c:=Zh (ai xU.out Gx (fun b hb e=>ET.out b hb e))
   have Kl:Hid (∀b,(Value.slice (aA g8) (k+1) cap8).ownBlock=some b->(Value.slice (aA g9) (k+1) cap9).ownBlock≠some b):=Zh (fun b hb e2=>by
    have AG:g9=b:=by simpa [Value.ownBlock] using e2
    subst AG
    rcases xk with e|e
    ·exact ET.out _ hb e
    ·have:=(xU.out.lt _ hb).2
     simp only [Zz] at e
     omega)
   have P9:=Zh hown
   have c2c:wc.cell? (aB g2 k)=some (iI sk):=(Gx.cell Za (fun e=>by have:=IU _ e;omega)).trans c2b
   have c3c:wc.cell? (aB g3 k)=some (iI lk):=(Gx.cell Za (fun e=>by have:=IU _ e;omega)).trans c3b
   clear hown xb xk Gx IU Nw ET o2b xU
   refine hK _ _ ⟨⟨c2c,c3c⟩,fun _=>trivial⟩ ?_
   clear hK K hA ye
   have hA:wc.cell? (aB g2 k)=some (iI sk)/\wc.cell? (aB g3 k)=some (iI lk):=⟨c2c,c3c⟩
   refine Zs 13 rfl fun K hK=>?_
   go_simp
   refine hK _ _ ⟨hA,fun _=>trivial⟩ ?_
   clear hK K
   refine af Zb ?_ _
   go_wp2_with fail
   have FY:r.1.take (k+1)=r.1.take k++[wd]:=dw PH.out
   have yL:r.2[k]?=some (sk,lk):=by
    rw [PO.out,List.getElem?_zip_eq_some,<-PQ.out,<-Qn.out]
    have hg: ∀(x:List Int),k<x.length->x[k]?=some (x.getD k 0):=fun x hx=>by
     rw [zaU,zaC hx]
     rfl
    exact ⟨hg sites Za,hg lines Za⟩
   have Fh:r.2.take (k+1)=r.2.take k++[(sk,lk)]:=dw yL
   refine ⟨⟨k+1,by go_num,zu,E5.out,Zh ?_,Zh ?_,Kl⟩,by simp [intOf];omega⟩
   ·rw [FY,List.flatMap_append]
    exact o1c.out
   ·rw [Fh,List.flatMap_append]
    exact P9.out
  ·obtain rfl:k=l.length:=by omega
   have hf:=(KK.out.below hB)
   have zX:wr.cell? ⟨w.heap.size+1+1,0,none⟩=some (iI 0):=(aa hf.fl 0).trans rfl
   have ya:wr.cell? ⟨w.heap.size+1+1,1,none⟩=some (iI 0):=(aa hf.fl 1).trans rfl
   have Ah: ∀i,wr.frozen? ⟨w.heap.size+1+1,i,none⟩=false:=ah hf.fl
   have Bc:=Ct.out
   have AB:=z8.out
   rw [show l.length=r.1.length from y8.symm,List.take_length] at Bc
   rw [show l.length=r.2.length from zJ.out.symm,List.take_length] at AB
   obtain ⟨q1,rfl⟩:=cz Bc Za
   obtain ⟨q2,rfl⟩:=cz AB (by have:=zJ.out;omega)
   have qa:(wr.setCell ⟨w.heap.size+1+1,0,none⟩ (iI 0)).cell? ⟨w.heap.size+1+1,0,none⟩=some (iI 0):=zaF _ _ _ zX
   have qb:(wr.setCell ⟨w.heap.size+1+1,0,none⟩ (iI 0)).cell? ⟨w.heap.size+1+1,1,none⟩=some (iI 0):=(zaH _ _ _ _ (fun e=>by have:=congrArg Addr.off e;simp at this)).trans ya
   have qz0:((wr.setCell ⟨w.heap.size+1+1,0,none⟩ (iI 0)).setCell ⟨w.heap.size+1+1,1,none⟩ (iI 0)).cell? ⟨w.heap.size+1+1,0,none⟩=some (iI 0):=(zaH _ _ _ _ (fun e=>by have:=congrArg Addr.off e;simp at this)).trans qa
   have qz1:((wr.setCell ⟨w.heap.size+1+1,0,none⟩ (iI 0)).setCell ⟨w.heap.size+1+1,1,none⟩ (iI 0)).cell? ⟨w.heap.size+1+1,1,none⟩=some (iI 0):=zaF _ _ _ qb
   go_wp2_with fail
   (try simp only [Exit.inBlock,Exit.then]);refine zad (by simp [results,Tryz.results31,go_sem,↓IntWalk.iteOmega,qz0,qz1];try rfl) rfl ?_
   have B4:Kp (fun b=>b=w.heap.size+1+1) wr ((wr.setCell ⟨w.heap.size+1+1,0,none⟩ (iI 0)).setCell ⟨w.heap.size+1+1,1,none⟩ (iI 0)):=(Kp.set wr _ 0 _).trans (Kp.set _ _ 1 _)
   have KC:Below w.heap.size w w6:=KK.out.bl
   have Pw:Below w.heap.size w wr:=KC.trans ⟨hB.os,hB.tape,hB.output,hB.size,fun i hi=>hB.block i (by have:=KC.size;omega)⟩
   have Hi:=aI Pw B4 (fun b e=>by omega)
   have zt:w.heap.size<=w6.heap.size:=KC.size
   have LJ:=dL (ai Bc B4 (fun b hb e=>by have:=(Bc.lt b hb).1;omega)) zt
   have hoB:=dL (ai AB B4 (fun b hb e=>by have:=(AB.lt b hb).1;omega)) zt
   have CJ:l.length=r.1.length:=y8.symm
   have yE:l.length=r.2.length:=zJ.out.symm
   exact ⟨q1,d1,q2,d2,by rw [<-CJ,<-yE],Hi,by rw [<-CJ] at LJ ⊢;exact LJ,by rw [<-yE] at hoB ⊢;exact hoB⟩
end Go.Proofs.YtjmfoeajhiimnaaGreatDoor
