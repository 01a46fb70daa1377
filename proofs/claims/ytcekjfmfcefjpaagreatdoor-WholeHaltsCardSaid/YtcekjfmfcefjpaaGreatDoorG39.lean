/- Walks. No condition. -/
import Derived.Test.YtcekjfmfcefjpaaGreatDoorG38
set_option maxRecDepth 100000
set_option maxHeartbeats 0
set_option linter.all false
namespace Go.Proofs.YtcekjfmfcefjpaaGreatDoor
open Go.RowKit Go.Sort
section
variable{w0 W W':qW}{M a b c:Nat}{vv wv:qV}{s:LS}{vs:List VarD}{gl:List GlD}
theorem mX{r:Int×LS}(w:qW)(h:Mk w0 M a b c vv wv w s)(kind:Int)(hk:kind=5\/kind=6\/kind=7\/kind=8)(n:Nat)(name var:qB)(op order:Int)(pa ka:Option Addr)(pl pc kl kc:Nat)
  (HA: ∀W a1 b1 c1,Mk w0 M a1 b1 c1 vv wv W s->qC 254 #[pP M,.agg #[iI kind,.int .u64 n,.string name,iI op,iI order,.string var,.slice pa pl pc,.slice ka kl kc]] W (MkD w0 M a1 b1 c1 vv wv W r.2 (iI r.1))):
  qC 201 #[pP M,.agg #[iI kind,.int .u64 n,.string name,iI op,iI order,.string var,.slice pa pl pc,.slice ka kl kc]] w (MkD w0 M a b c vv wv w r.2 (iI r.1)):=by
 obtain ⟨ov,sv,lv,i',pi⟩:=h.rules
 have j':=h.bd
 have xX:=j'
 have HM:=Zh (MkA.begin h)
 replace HA:=Zh HA
 clear h
 rcases hk with rfl|rfl|rfl|rfl
 all_goals
  go_enter Tryz.func201,Tryz.ntmps201
  go_wp2_with fail
  (go_at_call 254;refine (HA.out _ _ _ _ (Zj:MkA _ _ _ _ _ _ _ w _ _ _ _ _).mkr).mono ?_;intro e w1 hD;have hN:=MkA.nx hD Zj;clear hD HM;(try clear i' pi);obtain ⟨rfl,a1,b1,c1,ov,sv,lv,i',pi,j',HM,hm,hT,hrel⟩:=hN;(try simp only [Zz] at hrel hm);(repeat ((first|((first|(with_reducible obtain ⟨hx,hy,wV,hT⟩:=ak (lo:=w.heap.size) hT Zo hrel Zc Zf)|(with_reducible obtain ⟨hx,hy,wV,hT⟩:=aj (lo:=w.heap.size) hT Zx hrel Zc Zf));(try simp only [Zz] at hx hy wV);rw [hx];clear hx)|(with_reducible replace hT:=hT.unmo)|(with_reducible replace hT:=hT.undr))));clear hT hrel)
  go_wp2_with fail
  go_ret
  exact ZP
theorem lS{gl:List GlD}{var:qB}{parts:List PartD}{sp:Int×Int}(h:lSpot gl var parts=some sp):parts=[]/\ ∃g,gl.find? (fun g=>eqB g.name var)=some g/\sp=(g.at_,g.len):=by
 unfold lSpot at h
 split at h
 ·rename_i hp
  rcases hf:gl.find? (fun g=>eqB g.name var) with _|g
  ·rw [hf] at h
   cases h
  ·rw [hf] at h
   cases h
   exact ⟨List.isEmpty_iff.1 hp,g,hf,rfl⟩
 ·cases h
theorem yaw{f:Ex->LS->Option (Int×LS)}{l:List Ex}{s:LS}{v:Int}{s1:LS}(h:lAll f l s=some ([v],s1)): ∃x,l=[x]/\f x s=some (v,s1):=by
 match l,h with
 |[],h=>simp [lAll] at h
 |[x],h=>
  simp only [lAll] at h
  split at h
  ·cases h
  ·rename_i v' s' h1
   simp at h
   exact ⟨x,rfl,by rw [h1,h.1,h.2]⟩
 |x::y::l,h=>
  simp only [lAll] at h
  split at h
  ·cases h
  split at h
  ·cases h
  rename_i q s2 h2
  split at h2
  ·cases h2
  split at h2
  ·cases h2
  cases h2
  simp at h
theorem ydd{n:Nat}(hL:LoB w0 vv wv vs gl)(HX:HLx w0 M vv wv gl n):HLx w0 M vv wv gl (n+1):=by
 intro w a b c s e pa ka pc kc r h hr hf hE
 obtain ⟨pv,kv,he,hp,hk, -⟩:=hE
 simp only [List.cons.injEq,and_true,true_and] at he
 obtain ⟨rfl,rfl⟩:=he
 unfold lExpr at hr
 split at hr
 ·rename_i h1
  cases hr
  rw [h1]
  exact ydh w h e.n e.name e.var e.op e.order pa ka _ pc _ kc hf
 split at hr
 ·rename_i h1 h2
  rcases hq:lFind s e.name with _|q
  ·rw [hq] at hr
   cases hr
  ·rw [hq] at hr
   cases hr
   rw [h2]
   exact ydg w h e.n e.name e.var e.op e.order pa ka _ pc _ kc q hq
 split at hr
 ·rename_i h1 h2 h3
  split at hr
  ·rename_i x y Aj
   split at hr
   ·cases hr
   rename_i v1 s1 hx
   split at hr
   ·cases hr
   rename_i v2 s2 hy
   cases hr
   rw [Aj] at hk ⊢
   rw [h3]
   exact ydf HX w h e.n e.name e.var e.op e.order pa ka _ pc kc x y hk (v1,s1) (v2,s2) hx hy hf
  ·cases hr
 split at hr
 ·cases hr
 split at hr
 ·cases hr
 rename_i sp hs
 obtain ⟨DO,g,hg,rfl⟩:=lS hs
 split at hr
 ·cases hr
 rename_i l s1 xp
 unfold lAtomic at hr
 dsimp only at hr
 split at hr
 ·cases hr
 rename_i o ho
 simp only [zaA] at hr
 rw [DO] at hr ⊢
 split at ho
 ·cases ho
 split at ho
 ·rename_i h5 h67
  split at ho
  ·obtain ⟨x,Aj,hx⟩:=yaw xp
   cases ho
   subst hr
   rw [Aj] at hk ⊢
   rcases h67 with h6|h6
   ·rw [h6] at hf ⊢
    exact mX w h 6 (.inr (.inl rfl)) e.n e.name e.var e.op e.order pa ka _ pc _ kc (fun W a1 b1 c1 hM=>nQ HX W hM hL 6 (.inl rfl) e.n e.name e.var e.op e.order pa ka pc kc g hg x (_,s1) hk hx hf)
   ·rw [h6] at hf ⊢
    exact mX w h 7 (.inr (.inr (.inl rfl))) e.n e.name e.var e.op e.order pa ka _ pc _ kc (fun W a1 b1 c1 hM=>nQ HX W hM hL 7 (.inr rfl) e.n e.name e.var e.op e.order pa ka pc kc g hg x (_,s1) hk hx hf)
  ·cases ho
 split at ho
 ·cases ho
 ·cases ho
theorem mY(hL:LoB w0 vv wv vs gl): ∀n,HLx w0 M vv wv gl n
 |0=>fun w a b c s e pa ka pc kc r h hr hf hE=>by simp [lExpr] at hr
 |n+1=>ydd hL (mY hL n)
end
section
variable{w0 W W':qW}{M a b c:Nat}{vv wv:qV}{s:LS}{vs:List VarD}{gl:List GlD}
theorem qq{r:LS}(w:qW)(h:Mk w0 M a b c vv wv w s)(ln order:Int)(name name2 var:qB)(pa xa ta la:Option Addr)(pl pc xl xc tl tc ll lc:Nat)
  (HA: ∀W a1 b1 c1,Mk w0 M a1 b1 c1 vv wv W s->qC 211 #[pP M,.agg #[iI 8,iI ln,.string name,.string name2,iI order,.string var,.slice pa pl pc,.slice xa xl xc,.slice ta tl tc,.slice la ll lc]] W (MkD w0 M a1 b1 c1 vv wv W r (.tuple #[]))):
  qC 152 #[pP M,.agg #[iI 8,iI ln,.string name,.string name2,iI order,.string var,.slice pa pl pc,.slice xa xl xc,.slice ta tl tc,.slice la ll lc]] w (MkD w0 M a b c vv wv w r (.tuple #[])):=by
 obtain ⟨ov,sv,lv,i',pi⟩:=h.rules
 have j':=h.bd
 have xX:=j'
 have HM:=Zh (MkA.begin h)
 replace HA:=Zh HA
 clear h
 go_enter Tryz.func152,Tryz.ntmps152
 go_wp2_with fail
 (go_at_call 211;refine (HA.out _ _ _ _ (Zj:MkA _ _ _ _ _ _ _ w _ _ _ _ _).mkr).mono ?_;intro e w1 hD;have hN:=MkA.nx hD Zj;clear hD HM;(try clear i' pi);obtain ⟨rfl,a1,b1,c1,ov,sv,lv,i',pi,j',HM,hm,hT,hrel⟩:=hN;(try simp only [Zz] at hrel hm);(repeat ((first|((first|(with_reducible obtain ⟨hx,hy,wV,hT⟩:=ak (lo:=w.heap.size) hT Zo hrel Zc Zf)|(with_reducible obtain ⟨hx,hy,wV,hT⟩:=aj (lo:=w.heap.size) hT Zx hrel Zc Zf));(try simp only [Zz] at hx hy wV);rw [hx];clear hx)|(with_reducible replace hT:=hT.unmo)|(with_reducible replace hT:=hT.undr))));clear hT hrel)
 go_wp2_with fail
 go_end0
 exact ZP
theorem qn{r:LS}(w:qW)(h:Mk w0 M a b c vv wv w s)(ln order:Int)(name name2 var:qB)(pa xa ta la:Option Addr)(pl pc xl xc tl tc ll lc:Nat)
  (HA: ∀W a1 b1 c1,Mk w0 M a1 b1 c1 vv wv W s->qC 212 #[pP M,.agg #[iI 9,iI ln,.string name,.string name2,iI order,.string var,.slice pa pl pc,.slice xa xl xc,.slice ta tl tc,.slice la ll lc]] W (MkD w0 M a1 b1 c1 vv wv W r (.tuple #[]))):
  qC 152 #[pP M,.agg #[iI 9,iI ln,.string name,.string name2,iI order,.string var,.slice pa pl pc,.slice xa xl xc,.slice ta tl tc,.slice la ll lc]] w (MkD w0 M a b c vv wv w r (.tuple #[])):=by
 obtain ⟨ov,sv,lv,i',pi⟩:=h.rules
 have j':=h.bd
 have xX:=j'
 have HM:=Zh (MkA.begin h)
 replace HA:=Zh HA
 clear h
 go_enter Tryz.func152,Tryz.ntmps152
 go_wp2_with fail
 (go_at_call 212;refine (HA.out _ _ _ _ (Zj:MkA _ _ _ _ _ _ _ w _ _ _ _ _).mkr).mono ?_;intro e w1 hD;have hN:=MkA.nx hD Zj;clear hD HM;(try clear i' pi);obtain ⟨rfl,a1,b1,c1,ov,sv,lv,i',pi,j',HM,hm,hT,hrel⟩:=hN;(try simp only [Zz] at hrel hm);(repeat ((first|((first|(with_reducible obtain ⟨hx,hy,wV,hT⟩:=ak (lo:=w.heap.size) hT Zo hrel Zc Zf)|(with_reducible obtain ⟨hx,hy,wV,hT⟩:=aj (lo:=w.heap.size) hT Zx hrel Zc Zf));(try simp only [Zz] at hx hy wV);rw [hx];clear hx)|(with_reducible replace hT:=hT.unmo)|(with_reducible replace hT:=hT.undr))));clear hT hrel)
 go_wp2_with fail
 go_end0
 exact ZP
theorem pU{n:Nat}(hL:LoB w0 vv wv vs gl)(HB:BLo w0 M vv wv gl n):SLo w0 M vv wv gl (n+1):=by
 have HX:HLx w0 M vv wv gl 66:=mY hL 66
 intro w a b c s x pa xa ta la pc xc tc lc r h hr hf hx
 obtain ⟨pv,xv,tv,lv',he,hp,AI,Ct,NT, -,A8, -⟩:=hx
 simp only [List.cons.injEq,and_true,true_and] at he
 obtain ⟨rfl,rfl,rfl,rfl⟩:=he
 unfold lStmt at hr
 split at hr
 ·rename_i wT
  rw [wT]
  obtain ⟨e,v,s1,he,h1,h2⟩:=bh hr
  rw [he] at AI ⊢
  simp only [zaA] at h2
  subst h2
  have AP:=cI _ _ _ _ h1
  have Db:=(LLe.expr _ _ _ _ h1).regs
  have hn:=h.nums.locals
  exact yai HX w h x.line x.order x.name x.name2 x.var pa xa ta la _ pc xc _ tc _ lc e (v,s1) AI h1 ⟨hf.ops,hf.regs,hf.labels,hf.sites⟩ (by simp only at AP Db ⊢;rw [AP];omega)
 split at hr
 ·rename_i _ wT
  rw [wT]
  obtain ⟨e,v,s1,he,h1,h2⟩:=bh hr
  rw [he] at AI ⊢
  rcases hq:lFind s1 x.name with _|q
  ·rw [hq] at h2
   cases h2
  ·rw [hq] at h2
   simp only [Option.map_some,zaA] at h2
   subst h2
   exact rA w h x.line x.order x.name x.name2 x.var pa xa ta la _ pc 1 xc _ tc _ lc HX e (v,s1) AI h1 q hq hf
 split at hr
 ·rename_i _ _ wT
  rw [wT]
  unfold lWrite at hr
  split at hr
  ·cases hr
  rename_i sp hs
  obtain ⟨DO,g,hg,rfl⟩:=lS hs
  rw [DO]
  split at hr
  ·cases hr
  rename_i yt
  obtain ⟨e,v,s1,he,h1,h2⟩:=bh hr
  rw [he] at AI ⊢
  simp only [zaA] at h2
  subst h2
  rw [DO] at hf ⊢
  exact ow w h x.line x.order x.name x.name2 x.var pa xa ta la 0 pc 1 xc _ tc _ lc HX hL g hg e (v,s1) AI h1 (by simpa using yt) hf
 split at hr
 ·cases hr
 split at hr
 ·cases hr
 split at hr
 ·cases hr
 split at hr
 ·rename_i _ _ _ _ _ _ wT
  rw [wT]
  simp only [zaA] at hr
  subst hr
  exact yc9 w h x.line x.order x.name x.name2 x.var pa xa ta la _ pc _ xc _ tc _ lc hf
 split at hr
 ·rename_i _ _ _ _ _ _ _ wT
  rw [wT]
  obtain ⟨e,v,s1,he,h1,h2⟩:=bh hr
  rw [he] at AI ⊢
  split at h2
  ·cases h2
  rename_i s2 h3
  split at h2
  ·cases h2
  rename_i s4 h4
  simp only [zaA] at h2
  subst h2
  exact qq w h x.line x.order x.name x.name2 x.var pa xa ta la _ pc 1 xc _ tc _ lc (fun W a1 b1 c1 hM=>yd7 HX HB W hM x.line x.order A8 x.name x.name2 x.var pa xa _ pc xc _ _ x.thn x.els e (v,s1) s2 s4 AI h1 h3 Ct h4 NT hf)
 split at hr
 ·rename_i _ _ _ _ _ _ _ _ wT
  rw [wT]
  obtain ⟨e,v,s1,he,h1,h2⟩:=bh hr
  rw [he] at AI ⊢
  split at h2
  ·cases h2
  rename_i s2 h3
  simp only [zaA] at h2
  subst h2
  exact qn w h x.line x.order x.name x.name2 x.var pa xa ta la _ pc 1 xc _ tc _ lc (fun W a1 b1 c1 hM=>yaa HX HB W hM x.line x.order A8 x.name x.name2 x.var pa xa la _ pc xc _ lc _ x.thn e (v,s1) s2 AI h1 h3 Ct hf)
 split at hr
 ·cases hr
 ·cases hr
theorem jm(hL:LoB w0 vv wv vs gl): ∀n,SLo w0 M vv wv gl n
 |0=>fun w a b c s x pa xa ta la pc xc tc lc r h hr hf hx=>by simp [lStmt] at hr
 |n+1=>pU hL (nJ (jm hL n))
theorem yez(hL:LoB w0 vv wv vs gl)(n:Nat):BLo w0 M vv wv gl n:=nJ (jm hL n)
end
theorem PrgAt.below{w w':qW}{v1 v2:qV}{p:PrgD}(h:PrgAt w okA v1 v2 p)(hb:Below w.heap.size w w'):PrgAt w' okA v1 v2 p:=by
 have hk: ∀b,okA b->b<w.heap.size->okA b/\w'.heap[b]?=w.heap[b]?:=fun b _ hl=>⟨trivial,hb.block b hl⟩
 refine ⟨h.vars.keep hb.size hk (fun _ _ _ h=>h),h.threads.keep hb.size hk (fun th _ cs ⟨v,e,hv⟩=>⟨v,e,hv.keep hb.size hk (fun x _ cs hx=>SmAt.keep hb.size hk 66 x cs hx)⟩)⟩
theorem lC: ∀(l:List VarD) (seen:List qB) (a:Int),varsOk seen l=true->(∀v∈l,∃k z,v.type=scTy k z)->0<=a->(mapV a l).2<=65536-> ∀g∈(mapV a l).1,0<=g.at_/\g.at_<=1000000/\1<=g.len/\g.len<=16
 |[],seen,a,_,_,_,_=>by simp [mapV]
 |v::l,seen,a,h,hs,h0,hm=>by
  have hp:=dX h hs v Zi
  obtain ⟨-, -, -,g4,g5⟩:=eK h
  obtain ⟨k,z,e⟩:=hs v Zi
  have hz:tySize v.type=z:=by rw [e];rfl
  rw [e] at g4
  have DA:=(ef g4).2
  have h1:=iP a (tySize v.type) hp
  have h2:=fk l ((a+tySize v.type-1)/tySize v.type*tySize v.type+tySize v.type) (fun u hu=>dX g5 (fun u hu=>hs u (by simp [hu])) u hu)
  simp only [mapV] at hm ⊢
  intro g hg
  rcases List.mem_cons.1 hg with rfl|hg
  ·simp only
   rw [hz] at h1 h2 hm ⊢
   omega
  ·exact lC l _ _ g5 (fun u hu=>hs u (by simp [hu])) Za hm g hg
theorem wg{W:qW}{vv wv:qV}:Mk W W.heap.size W.heap.size W.heap.size W.heap.size vv wv (W.alloc (.cells #[vv,wv,.slice none 0 0,iI 0,iI 0,.slice none 0 0,iI 0,.slice none 0 0] 231)) ⟨[],0,0,[],0,[]⟩:=by
 refine ⟨⟨.slice none 0 0,.slice none 0 0,.slice none 0 0,[],⟨zab _ _,?_,?_,?_⟩,rfl,rfl,rfl⟩,ab (zaa _ _) _,zaq _,⟨⟨by simp,by simp,by simp,by simp⟩,by simp,by simp,by simp,by unfold rng;simp⟩⟩
 ·intro r hr
  simp only [mkR,zaM,zaN,or_false] at hr
  rcases hr with rfl|rfl|rfl<;>exact zaX _ _ _ _
 ·simp [mkR]
 ·intro r hr q hq _ k hk
  simp only [mkR,zaM,zaN,or_false] at hr
  rcases hr with rfl|rfl|rfl<;>simp [fld,mkC,Value.ownBlock] at hk
theorem Mk.opsL{w0 W:qW}{M a b c:Nat}{vv wv:qV}{s:LS}(h:Mk w0 M a b c vv wv W s): ∃oa oc sv lv,s.ops.length<=oc/\(∀b i,W.cell? (aB b i)=if b<w0.heap.size then w0.cell? (aB b i) else if b=M then (#[vv,wv,.slice oa s.ops.length oc,iI s.regs,iI s.labels,sv,iI s.line,lv]:Array qV)[i]? else cellW W ⟨b,i,none⟩)/\
  (∀b i,W.frozen? (aB b i)=if b<w0.heap.size then w0.frozen? (aB b i) else if b=M then false else frzW W ⟨b,i,none⟩)/\W.ownsRow (M+1) 250 13 (.slice oa s.ops.length oc) s.ops.length (s.ops.flatMap opC):=by
 obtain ⟨ov,sv,lv,xs,ho,ea,eb,ec⟩:=h.ob
 have hown:=ho.own ⟨2,250,13,s.ops.length,s.ops.flatMap opC⟩ (by simp [mkR])
 obtain ⟨oa,oc,e,h1, -⟩:=az hown
 simp only [fld,mkC] at e
 have e':ov= .slice oa s.ops.length oc:=by simpa using e
 subst e'
 exact ⟨oa,oc,sv,lv,h1,eG ho.out h.bl,ez ho.out h.bl,hown⟩
theorem yat{gl:List GlD}{t:List Sm}{r:List OpD×Int}(h:lThread gl t=some r): ∃s,lBlock (fun y s=>lStmt gl 66 y s) t ⟨[],0,0,[],0,[]⟩=some s/\LFin s/\r=(s.ops,s.regs):=by
 unfold lThread at h
 split at h
 ·cases h
 rename_i s hs
 split at h
 ·cases h
 ·rename_i hn
  simp only [not_or,Nat.not_lt,Int.not_lt] at hn
  exact ⟨s,hs,⟨hn.1,hn.2.1,hn.2.2.1,hn.2.2.2⟩,(zae h).symm⟩
theorem pd(p:PrgD)(v1 v2:qV)(w:qW)(yT:SpT w)(h:PrgAt w okA v1 v2 p)(xo:cProg p=true)(n:Nat)(t:List Sm)(ht:p.threads[n]?=some t)(r:List OpD×Int)(hr:lThread (mapV 0 p.vars).1 t=some r):
  qC 76 #[.agg #[v1,v2],iI n] w fun e w'=> ∃oa oc,e= .returned (.tuple #[.slice oa r.1.length oc,iI r.2,.agg #[iI 0,iI 0]])/\Below w.heap.size w w'/\r.1.length<=oc/\w'.ownsRow w.heap.size 250 13 (.slice oa r.1.length oc) r.1.length (r.1.flatMap opC):=by
 obtain ⟨s,hs,xS,rfl⟩:=yat hr
 obtain ⟨n1,n2,n3,n4,n5,n6⟩:=iD xo
 have A6:=fP h.vars Za
 have En:=(List.getElem?_eq_some_iff.1 ht).1
 have H':=Zh (fun W (hW:Below w.heap.size w W)=>kj p v1 v2 W (yT.below hW) (h.below hW) xo)
 obtain ⟨va,vc,rfl,I', -, -⟩:=h.vars
 have KL:=Zh (fun W (hW:Below w.heap.size w W)=>lA va vc p.vars W (A6.below hW) n4 n1 n5)
 have HP:=Zh h
 have IP:=Zh A6
 obtain ⟨ta,tc,rfl,zC, -,yU⟩:=h.threads
 obtain ⟨tb,tof,rfl, -,Je,B6⟩:=yU Za
 obtain ⟨cs, -,⟨tv,rfl,FF⟩,xe⟩:=B6 n t ht
 have c0:w.cell? ⟨tb,tof+n*1,none⟩=some tv:=xe 0 _ rfl
 rw [Nat.mul_one] at c0
 clear B6 yU xe h A6 xo
 go_enter Tryz.func76,Tryz.ntmps76
 go_wp2_with fail
 go_at_call 37
 refine (H'.out _ Zv).mono ?_
 rintro e1 w1 ⟨rfl,p1,rfl⟩
 go_wp2_with fail
 go_at_call 38
 refine (KL.out _ Zv).mono ?_
 rintro e2 w2 ⟨gv,rfl,yn,hown⟩
 obtain ⟨ga,gc,rfl, -⟩:=az hown
 have yB:=yn.size
 simp only [au,aZ] at yB
 have zY:Below w.heap.size w w2:=ar Zv yn ZT
 have k0:w2.heap[w.heap.size]?=some (.cells #[.slice va p.vars.length vc,.slice (some ⟨tb,tof,none⟩) p.threads.length tc] 64 (0,0)):=by
  rw [yn.block _ ZT,zac _ _ ZT,cd _ _ _ ZM,zac _ _ ZM]
  exact zab _ _
 have k1:w2.heap[w.heap.size+1]?=some (.cells #[iI 0,iI 0] 31 (0,0)):=by
  rw [yn.block _ ZT,zac _ _ ZT,cd _ _ _ ZM]
  exact aI Zi
 have wX:=gU p.vars 0
 have HPR:=Zh (HP.out.below zY)
 have hL:LoB w2 (.slice va p.vars.length vc) (.slice ga (mapV 0 p.vars).1.length gc) p.vars (mapV 0 p.vars).1:=⟨IP.out.below zY,jS hown (fun _=>rfl),lB _ _,lC p.vars [] 0 n4 (fun v hv=>by
  obtain ⟨a',c',he, -,hg⟩:=IP.out
  obtain ⟨i,hi,rfl⟩:=zaP hv
  obtain ⟨b',o', -, -,hg⟩:=hg Za
  obtain ⟨k,z,h3, -⟩:=hg i _ (zaC hi)
  exact ⟨k,z,h3⟩) Za n5⟩
 have FE:RwAt w2 okA 10 (SmAt w2 okA 66) tv t:=FF.keep zY.size (fun b _ hl=>⟨trivial,zY.block b hl⟩) (fun x _ cs hx=>SmAt.below hx zY)
 have xg:=yez (M:=w2.heap.size) hL 66 _ _ _ _ _ tv t s (wg (W:=w2)) hs xS FE
 simp only [wX] at xg
 have zZ:=Zh xg
 clear xg
 have q0:=aa k0
 have q1:=aa k1
 have ct:w2.cell? ⟨tb,tof+n,none⟩=some tv:=(zY.cell (p:=⟨tb,_,none⟩) Je).trans c0
 have zX:=Zh k1
 have HB:=Zh zY
 clear yn hown k0 k1 hL FF FE zY hs
 go_wp2_with fail
 go_at_call 107
 refine zZ.out.mono ?_
 rintro e3 w3 ⟨rfl,a1,b1,c1,hM,hT, -, -, -⟩
 obtain ⟨oa,oc,sv,lv,yc,i',pi,hown⟩:=hM.opsL
 have j':=hM.bd
 have yZ:=xS.ops
 have xg:=hM.bl
 have f1:w3.heap[w.heap.size+1]?=some (.cells #[iI 0,iI 0] 31 (0,0)):=(xg.block _ Za).trans zX.out
 have Bg:=ar HB.out xg HB.out.size
 have qM: ∀i,w3.cell? (aB w2.heap.size i)=(#[.slice va p.vars.length vc,.slice ga p.vars.length gc,.slice oa s.ops.length oc,iI s.regs,iI s.labels,sv,iI s.line,lv]:Array qV)[i]?:=fun i=>by rw [i',if_neg Za,if_pos rfl]
 obtain ⟨V,hV,GO,GQ,L',Kf⟩: ∃V,w3=putB V (w.heap.size+1) #[iI 0,iI 0] 31/\V.ownsRow (w2.heap.size+1) 250 13 (.slice oa s.ops.length oc) s.ops.length (s.ops.flatMap opC)/\Below w.heap.size w V/\(∀i,V.cell? (aB w2.heap.size i)=(#[.slice va p.vars.length vc,.slice ga p.vars.length gc,.slice oa s.ops.length oc,iI s.regs,iI s.labels,sv,iI s.line,lv]:Array qV)[i]?)/\w2.heap.size<V.heap.size:=⟨w3,(bz f1).symm,hown,Bg,qM,j'.2.1⟩
 have xP:=Zh GO
 have Cq:=Zh GQ
 clear hM hT hown xg i' pi Bg qM GO GQ j' f1
 subst hV
 have hVd:w2.heap.size<V.drew.heap.size:=Kf
 go_wp2_with fail
 have hA: ∀i,(putB V (w.heap.size+1) #[iI 0,iI 0] 31).drew.cell? (aB w2.heap.size i)=(#[.slice va p.vars.length vc,.slice ga p.vars.length gc,.slice oa s.ops.length oc,iI s.regs,iI s.labels,sv,iI s.line,lv]:Array qV)[i]?:=fun i=>by
  rw [drewC,dc,if_neg Za]
  exact L' i
 have hB:True:=trivial
 refine ae (fun W=> ∀i,W.cell? (aB w2.heap.size i)=(#[.slice va p.vars.length vc,.slice ga p.vars.length gc,.slice oa s.ops.length oc,iI s.regs,iI s.labels,sv,iI s.line,lv]:Array qV)[i]?) (fun W=>True) 11 rfl ?_
 refine Zp 0 rfl (h:=Zp 1 rfl (h:=Zp 2 rfl (h:=Zt 3 rfl (h:=Zp 4 rfl (h:=Zp 5 rfl (h:=Zp 6 rfl (h:=Zt 7 rfl (h:=Zp 8 rfl (h:=?_)))))))));try simp only [Zq]
 refine Zs 9 rfl fun K hK=>?_
 go_simp
 refine hK _ _ ⟨hA,fun _=>trivial⟩ ?_
 clear hK K
 refine Zs 10 rfl fun K hK=>?_
 go_simp
 refine hK _ _ ⟨hA,fun _=>trivial⟩ ?_
 clear hK K
 refine Zs 11 rfl fun K hK=>?_
 go_simp
 try simp [go_sem,↓IntWalk.iteOmega]
 refine hK _ _ ⟨fun i=>?_,fun _=>trivial⟩ ?_
 ·rw [dc,if_neg Za]
  exact L' i
 clear hK K hA
 refine af Zb ?_ _
 go_wp2_with fail
 (try simp only [Exit.inBlock,Exit.then]);refine zad (by simp [results,Tryz.results76,go_sem,↓IntWalk.iteOmega];try rfl) rfl ?_
 refine ⟨oa,oc,rfl,eH (fG Cq.out) Za _ _,yc,?_⟩
 have ho:=gw (gx xP.out) (k:=w.heap.size+1) (cs:=#[iI 0,iI 0]) (t:=31) (fun e=>by have:=(xP.out.lt _ e).1;omega)
 refine ⟨ho.1,?_⟩
 rcases ho.2 with h1|⟨g,cap,cur,e1,h2,h3⟩
 ·exact .inl h1
 ·exact .inr ⟨g,cap,cur,e1,by omega,h3⟩
end Go.Proofs.YtcekjfmfcefjpaaGreatDoor
