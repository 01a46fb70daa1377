/- Walks. No condition. -/
import Derived.Test.YtjmfoeajhiimnaaGreatDoorG14
set_option maxRecDepth 100000
set_option maxHeartbeats 0
set_option linter.all false
namespace Go.Proofs.YtjmfoeajhiimnaaGreatDoor
section
open Go.RowKit Go.Sort
def opC(o:OpD):List qV:=[iI o.kind,iI o.dst,iI o.dst2,iI o.a,iI o.b,iI o.c,.int .u64 o.n,iI o.op,iI o.size,iI o.order,iI o.tO,iI o.site,iI o.line]
def locC(l:qB×Int):List qV:=[.string l.1,iI l.2]
structure LFin(s:LS):Prop where
 ops:s.ops.length<=16384
 regs:s.regs<=20000
 labels:s.labels<=20000
 sites:s.sites.length<=20000
theorem LLe.fin{s t:LS}(h:LLe s t)(k:LFin t):LFin s:=⟨zal h.ops k.ops,Int.le_trans h.regs k.regs,Int.le_trans h.labels k.labels,zal h.sites k.sites⟩
def mkC(vv wv ov sv lv:qV)(s:LS):Array qV:=#[vv,wv,ov,iI s.regs,iI s.labels,sv,iI s.line,lv]
def mkR(s:LS)(xs:List qV):List Rw:=[⟨2,225,13,s.ops.length,s.ops.flatMap opC⟩,⟨5,397,5,s.sites.length,xs⟩,⟨7,334,2,s.locals.length,s.locals.flatMap locC⟩]
structure MkN(s:LS):Prop where
 fin:LFin s
 regs:0<=s.regs
 labels:0<=s.labels
 locals:s.locals.length<=s.regs
 line:rng s.line
structure Mk(w0:qW)(M a b c:Nat)(vv wv:qV)(W:qW)(s:LS):Prop where
 ob: ∃ov sv lv xs,Ob M 206 (mkC vv wv ov sv lv s) (mkR s xs) W/\ownN M ov=a/\ownN M sv=b/\ownN M lv=c
 bl:Below w0.heap.size w0 W
 le:w0.heap.size<=M
 nums:MkN s
section
variable{w0 W W':qW}{M a b c:Nat}{vv wv:qV}{s:LS}
theorem de{ov sv lv:qV}{xs:List qV}{k:Nat}:foot M (mkC vv wv ov sv lv s) (mkR s xs) k↔k=M\/ov.ownBlock=some k\/sv.ownBlock=some k\/lv.ownBlock=some k:=by
 simp [foot,mkR,mkC,fld]
theorem gD{ov:qV}(h: ∀k,ov.ownBlock=some k->M<=k/\k<W.heap.size)(hM:M<W.heap.size):M<=ownN M ov/\ownN M ov<W.heap.size:=by
 unfold ownN
 rcases he:ov.ownBlock with _|k
 ·exact ⟨zaq _,hM⟩
 ·exact h k he
theorem Mk.bd(h:Mk w0 M a b c vv wv W s):w0.heap.size<=M/\M<W.heap.size/\M<=a/\a<W.heap.size/\M<=b/\b<W.heap.size/\M<=c/\c<W.heap.size:=by
 obtain ⟨ov,sv,lv,xs,ho,rfl,rfl,rfl⟩:=h.ob
 have h1:=fun k hk=>ho.foot_lt (k:=k) (de.2 (.inr (.inl hk)))
 have h2:=fun k hk=>ho.foot_lt (k:=k) (de.2 (.inr (.inr (.inl hk))))
 have h3:=fun k hk=>ho.foot_lt (k:=k) (de.2 (.inr (.inr (.inr hk))))
 have g1:=gD h1 ho.lt
 have g2:=gD h2 ho.lt
 have g3:=gD h3 ho.lt
 exact ⟨h.le,ho.lt,g1.1,g1.2,g2.1,g2.2,g3.1,g3.2⟩
theorem Mk.rules(h:Mk w0 M a b c vv wv W s): ∃ov sv lv,(∀b i,W.cell? (aB b i)=if b<w0.heap.size then w0.cell? (aB b i) else if b=M then (#[vv,wv,ov,iI s.regs,iI s.labels,sv,iI s.line,lv]:Array qV)[i]? else cellW W ⟨b,i,none⟩)/\
  (∀b i,W.frozen? (aB b i)=if b<w0.heap.size then w0.frozen? (aB b i) else if b=M then false else frzW W ⟨b,i,none⟩):=by
 obtain ⟨ov,sv,lv,xs,ho, -⟩:=h.ob
 exact ⟨ov,sv,lv,eN ho.out h.bl,eF ho.out h.bl⟩
theorem Mk.kp{X:Nat->Prop}(h:Mk w0 M a b c vv wv W s)(hk:Kp X W W')(hb:Below w0.heap.size w0 W')(hX: ¬X M/\ ¬X a/\ ¬X b/\ ¬X c):Mk w0 M a b c vv wv W' s:=by
 obtain ⟨ov,sv,lv,xs,ho,rfl,rfl,rfl⟩:=h.ob
 refine ⟨⟨ov,sv,lv,xs,ho.kp hk (fun k hf=>?_),rfl,rfl,rfl⟩,hb,h.le,h.nums⟩
 rcases de.1 hf with rfl|e|e|e
 ·exact hX.1
 ·rw [bn (M:=M) e];exact hX.2.1
 ·rw [bn (M:=M) e];exact hX.2.2.1
 ·rw [bn (M:=M) e];exact hX.2.2.2
theorem Mk.below(h:Mk w0 M a b c vv wv W s)(hb:Below W.heap.size W W'):Mk w0 M a b c vv wv W' s:=
 h.kp (X:=fun _=>False) (Kp.of_below hb) (an h.bl hb h.bl.size) ⟨id,id,id,id⟩
theorem Mk.alloc(h:Mk w0 M a b c vv wv W s)(o:Obj):Mk w0 M a b c vv wv (W.alloc o) s:=h.below (ab (zaa _ _) o)
theorem Mk.drew(h:Mk w0 M a b c vv wv W s):Mk w0 M a b c vv wv W.drew s:=h.below (ag (zaa _ _))
theorem Mk.mo(h:Mk w0 M a b c vv wv W s)(p:Regrown):Mk w0 M a b c vv wv (more W p) s:=h.below (au _ _)
theorem Mk.own(h:Mk w0 M a b c vv wv W s){k:Nat}(hk:M<k/\k≠a/\k≠b/\k≠c)(cs:Array qV)(t:TypeId):Mk w0 M a b c vv wv (putB W k cs t) s:=by
 have hl:=h.le
 refine h.kp (X:=fun i=>i=k) (Kp.putB (X:=fun i=>i=k) (Kp.refl _ W) (fun _=>rfl) cs t) ⟨h.bl.os,h.bl.tape,h.bl.output,by rw [aN];exact h.bl.size,fun i hi=>?_⟩ Za
 rw [aM,if_neg Za]
 exact h.bl.block i hi
def MkD(w0:qW)(M a b c:Nat)(vv wv:qV)(w:qW)(s':LS)(r:qV)(e:Ending)(w':qW):Prop:=
 e= .returned r/\ ∃a' b' c',Mk w0 M a' b' c' vv wv w' s'/\Kp (fun k=>k=M\/k=a\/k=b\/k=c) w w'/\(a'=a\/w.heap.size<=a')/\(b'=b\/w.heap.size<=b')/\(c'=c\/w.heap.size<=c')
theorem Mk.setI(h:Mk w0 M a b c vv wv W s)(i:Nat)(v:qV){s':LS}(hi:i=3\/i=4\/i=6)(hs: ∀ov sv lv,(mkC vv wv ov sv lv s).setIfInBounds i v=mkC vv wv ov sv lv s')(hr: ∀xs,mkR s xs=mkR s' xs)(hn:MkN s'):Mk w0 M a b c vv wv (W.setCell ⟨M,i,none⟩ v) s':=by
 obtain ⟨ov,sv,lv,xs,ho,rfl,rfl,rfl⟩:=h.ob
 refine ⟨⟨ov,sv,lv,xs,?_,rfl,rfl,rfl⟩,h.bl.setCell h.le _,h.le,hn⟩
 rw [<-hs,<-hr]
 exact ho.set i v (by simp [mkR];omega)
theorem Mk.setD(h:Mk w0 M a b c vv wv W s){i:Nat}{v:qV}{s':LS}(h2:Mk w0 M a b c vv wv (W.setCell ⟨M,i,none⟩ v) s'){r:qV}:MkD w0 M a b c vv wv W s' r (.returned r) (W.setCell ⟨M,i,none⟩ v):=
 ⟨rfl,a,b,c,h2,(Kp.set W M i v).mono (fun k _ e=> .inl e),.inl rfl,.inl rfl,.inl rfl⟩
theorem MkN.fresh(h:MkN s)(hf:LFin (lFresh s)):MkN (lFresh s):=⟨hf,by have:=h.regs;simp [lFresh];omega,h.labels,by have:=h.locals;simp [lFresh];omega,h.line⟩
theorem MkN.label(h:MkN s)(hf:LFin (lLabel s)):MkN (lLabel s):=⟨hf,h.regs,by have:=h.labels;simp [lLabel];omega,h.locals,h.line⟩
theorem MkN.setl(h:MkN s)(l:Int)(hl:rng l):MkN {s with line:=l}:=⟨⟨h.fin.ops,h.fin.regs,h.fin.labels,h.fin.sites⟩,h.regs,h.labels,h.locals,hl⟩
theorem MkN.add(h:MkN s)(o:OpD)(hf:LFin (lAdd o s)):MkN (lAdd o s):=⟨hf,h.regs,h.labels,h.locals,h.line⟩
theorem MkN.site(h:MkN s)(k o:Int)(v:qB)(p:List PartD)(hf:LFin (lSite k o v p s).2):MkN (lSite k o v p s).2:=⟨hf,h.regs,h.labels,h.locals,h.line⟩
theorem Mk.fresh(h:Mk w0 M a b c vv wv W s)(hf:LFin (lFresh s)):Mk w0 M a b c vv wv (W.setCell ⟨M,3,none⟩ (iI (s.regs+1))) (lFresh s):=
 h.setI 3 _ (.inl rfl) (fun _ _ _=>rfl) (fun _=>rfl) (h.nums.fresh hf)
theorem Mk.label(h:Mk w0 M a b c vv wv W s)(hf:LFin (lLabel s)):Mk w0 M a b c vv wv (W.setCell ⟨M,4,none⟩ (iI (s.labels+1))) (lLabel s):=
 h.setI 4 _ (.inr (.inl rfl)) (fun _ _ _=>rfl) (fun _=>rfl) (h.nums.label hf)
theorem Mk.setl(h:Mk w0 M a b c vv wv W s)(l:Int)(hl:rng l):Mk w0 M a b c vv wv (W.setCell ⟨M,6,none⟩ (iI l)) {s with line:=l}:=
 h.setI 6 _ (.inr (.inr rfl)) (fun _ _ _=>rfl) (fun _=>rfl) (h.nums.setl l hl)
theorem eG(w:qW)(h:Mk w0 M a b c vv wv w s)(hf:LFin (lFresh s)):qC 195 #[pP M] w (MkD w0 M a b c vv wv w (lFresh s) (iI s.regs)):=by
 obtain ⟨ov,sv,lv,i',pi⟩:=h.rules
 have j':=h.bd
 have hn:=h.nums.regs
 have yS:=h.nums.fin.regs
 have HM:=Zh h
 clear h
 go_enter Tryz.func195,Tryz.ntmps195
 go_wp2
 go_ret
 have:=HM.out.setD (HM.out.fresh hf) (r:=iI s.regs)
 simpa using this
theorem lX(w:qW)(h:Mk w0 M a b c vv wv w s)(hf:LFin (lLabel s)):qC 262 #[pP M] w (MkD w0 M a b c vv wv w (lLabel s) (iI (s.labels+1))):=by
 obtain ⟨ov,sv,lv,i',pi⟩:=h.rules
 have j':=h.bd
 have hn:=h.nums.labels
 have yS:=h.nums.fin.labels
 have HM:=Zh h
 clear h
 go_enter Tryz.func262,Tryz.ntmps262
 go_wp2
 go_ret
 exact HM.out.setD (HM.out.label hf)
theorem cq(k:Int)(w:qW):qC 201 #[iI k] w (Gives w (.agg #[iI k,iI (-1),iI (-1),iI (-1),iI (-1),iI (-1),.int .u64 0,iI 0,iI 0,iI 0,iI 0,iI 0,iI 0])):=by
 go_enter Tryz.func201,Tryz.ntmps201
 go_wp2
 (try simp only [Exit.inBlock,Exit.then]);refine zad (by simp [results,Tryz.results201,go_sem,↓IntWalk.iteOmega];try rfl) rfl ?_
 exact Gives.mk rfl Zo
end
section
variable{P:Program}{md:Region.Mode}{ops:Array Oper}{Q:Exit->Act->qW->Prop}{S:Array Bool->qW->Prop}{A B:qW->Prop}{L:Nat}{oi:Oper}{v:qV}{fuel:Nat}{listed:Array Bool}{a:Act}{w:qW}
theorem Zq:(∀(a:Act) (d:Nat) (v:qV),a.put (some d) v={a with tmps:=a.tmps.setIfInBounds d v})/\(∀(a:Act) (v:qV),a.put none v=a)/\
  (∀{α:Type} (l:List α) (i:Nat) (h:i<l.toArray.size),l.toArray[i]=l[i]'(by simpa using h))/\(∀{α:Type} (a:α) (l:List α) (h:0<(a::l).length),(a::l)[0]'h=a)/\
  (∀{α:Type} (a:α) (l:List α) (i:Nat) (h:i+1<(a::l).length),(a::l)[i+1]'h=l[i]'(by simpa using h))/\(∀{α:Type} (l:List α) (i:Nat) (a:α),l.toArray.setIfInBounds i a=(l.set i a).toArray)/\
  (∀{α:Type} (x a:α) (l:List α),(x::l).set 0 a=a::l)/\(∀{α:Type} (x a:α) (l:List α) (i:Nat),(x::l).set (i+1) a=x::l.set i a):=
 ⟨fun _ _ _=>rfl,fun _ _=>rfl,fun _ _ _=>by simp,fun _ _ _=>rfl,fun _ _ _ _=>rfl,fun _ _ _=>by simp,fun _ _ _=>rfl,fun _ _ _ _=>rfl⟩
theorem Zw{P:Prop}(h:P:=by first|with_reducible exact ⟨hA,fun _=>hB⟩|exact ⟨(by intro i;first|(simp only [drewC,dd,aV,dc,aN,iB,ar,aZ,i',↓IntWalk.iteOmega];done)|(simp [go_sem,i',↓IntWalk.iteOmega];done)),fun _=>trivial⟩|exact ⟨(by first|((try refine ⟨?_,?_⟩)<;>(intro i;simp only [drewC,dd,aV,dc,aN,iB,ar,aZ,↓IntWalk.iteOmega];done))|exact hA|(simp [go_sem,↓IntWalk.iteOmega];done)|(refine ⟨?_,?_⟩<;>simp [go_sem,↓IntWalk.iteOmega])),fun _=>(by first|trivial|exact hB|simp [go_sem,↓IntWalk.iteOmega])⟩|exact ⟨hA,fun _=>hB⟩):P:=h
theorem Zy{P:Prop}(h:P:=by refine Or.inl ⟨by rfl,?_⟩;intro W hW;(try simp only [Zq]);(try dsimp only at hW);(try go_split_ands);go_simp;(try with_reducible rfl)):P:=h
theorem Zp(i:Nat)(hi:ops[i]?=some oi)(hs:Region.noSelect ops=true:=by kernel_rfl)(hf:Region.free md ops listed i=true:=by kernel_rfl)(hr:(Region.ready md ops listed).contains i=true:=by kernel_rfl)
  (hQ: ∀c a w,Q (.panic c) (a.put oi.dst v) w->Q (.panic c) a w:=by exact fun _ _ _ h=>h) (hne:i≠L:=by decide) (hc:closedB md ops listed=true:=by kernel_rfl)
  (hy:YieldsIf P ops (fun _=>True) oi v a:=by exact Zy) (hS:A w/\(listed.getD L false=false->B w):=by exact Zw)
  (h:wpAnyG P md ops Q (fun l w=>A w/\(l.getD L false=false->B w)) fuel (listed.setIfInBounds i true) (a.put oi.dst v) w):
  wpAnyG P md ops Q (fun l w=>A w/\(l.getD L false=false->B w)) (fuel+1) listed a w:=cY i hi hs hf hr hQ hne hc hy hS h
theorem Zn(i:Nat)(hi:ops[i]?=some oi)(hs:Region.noSelect ops=true:=by kernel_rfl)(hf:Region.free md ops listed i=true:=by kernel_rfl)(hr:(Region.ready md ops listed).contains i=true:=by kernel_rfl)
  (hQ: ∀c a w,Q (.panic c) (a.put oi.dst undef) w->Q (.panic c) a w:=by exact fun _ _ _ h=>h) (hne:i≠L:=by decide) (hc:closedB md ops listed=true:=by kernel_rfl)
  (hy:YieldsIf P ops (fun _=>True) oi undef a:=by exact Or.inr ⟨by rfl,rfl⟩) (hS:A w/\(listed.getD L false=false->B w):=by exact Zw)
  (h:wpAnyG P md ops Q (fun l w=>A w/\(l.getD L false=false->B w)) fuel (listed.setIfInBounds i true) (a.put oi.dst undef) w):
  wpAnyG P md ops Q (fun l w=>A w/\(l.getD L false=false->B w)) (fuel+1) listed a w:=cY i hi hs hf hr hQ hne hc hy hS h
theorem Zt(i:Nat)(hi:ops[i]?=some oi)(hs:Region.noSelect ops=true:=by kernel_rfl)(hf:Region.free md ops listed i=true:=by kernel_rfl)(hr:(Region.ready md ops listed).contains i=true:=by kernel_rfl)
  (hQ: ∀c a w,Q (.panic c) (a.put oi.dst v) w->Q (.panic c) a w:=by exact fun _ _ _ h=>h) (hne:i≠L:=by decide) (hc:closedB md ops listed=true:=by kernel_rfl)
  (hy:YieldsIf P ops A oi v a:=by exact Zy) (hS:A w/\(listed.getD L false=false->B w):=by exact Zw)
  (h:wpAnyG P md ops Q (fun l w=>A w/\(l.getD L false=false->B w)) fuel (listed.setIfInBounds i true) (a.put oi.dst v) w):
  wpAnyG P md ops Q (fun l w=>A w/\(l.getD L false=false->B w)) (fuel+1) listed a w:=bG i hi hs hf hr hQ hne hc hy hS h
theorem Zl(i:Nat)(path:List Nat)(hi:ops[i]?=some oi)(hs:Region.noSelect ops=true:=by kernel_rfl)(hf:Region.free md ops listed i=true:=by kernel_rfl)(hr:(Region.ready md ops listed).contains i=true:=by kernel_rfl)
  (hQ: ∀c a w,Q (.panic c) (a.put oi.dst v) w->Q (.panic c) a w:=by exact fun _ _ _ h=>h) (hp:pathB md ops (i::path)=true:=by kernel_rfl) (hL:(i::path).getLast Zg=L:=by decide) (hne:i≠L:=by decide) (hc:closedB md ops listed=true:=by kernel_rfl)
  (hy:YieldsIf P ops (fun w=>A w/\B w) oi v a:=by exact Zy) (hS:A w/\(listed.getD L false=false->B w):=by exact Zw)
  (h:wpAnyG P md ops Q (fun l w=>A w/\(l.getD L false=false->B w)) fuel (listed.setIfInBounds i true) (a.put oi.dst v) w):
  wpAnyG P md ops Q (fun l w=>A w/\(l.getD L false=false->B w)) (fuel+1) listed a w:=fP i path hi hs hf hr hQ hp hL hne hc hy hS h
theorem Zs(i:Nat)(hi:ops[i]?=some oi)
  (h: ∀K:Act->qW->Prop,(∀a' w',S (listed.setIfInBounds i true) w'->wpAnyG P md ops Q S fuel (listed.setIfInBounds i true) a' w'->K a' w')->if Region.wanted oi (yielded ops a.tmps)=true then Oper.wp P oi a w K Q else False)
  (hr:Region.ready md ops listed=[i]:=by kernel_rfl) (hg:oi.guard=none:=by rfl):
  wpAnyG P md ops Q S (fuel+1) listed a w:=oV i hi hr hg h
end
theorem vn:(Tryz.prog.info? 225).map (fun i=>(i.zero,i.size,i.bytes))=some (some (.agg #[iI 0,iI 0,iI 0,iI 0,iI 0,iI 0,.int .u64 0,iI 0,iI 0,iI 0,iI 0,iI 0,iI 0]),13,104):=by kernel_rfl
theorem aS{P:Program}{c:Code}{Q:Exit->Act->qW->Prop}{a:Act}{wx:qW}(R:qW->Prop)(h:R wx)(k: ∀wy,R wy->c.wp P Q a wy):c.wp P Q a wx:=k wx h
section
variable{w0 W W':qW}{M a b c:Nat}{vv wv:qV}{s:LS}
theorem MkD.left{w:qW}{s':LS}{r:qV}{e:Ending}(hk:Kp (fun _=>False) w W)(h:MkD w0 M a b c vv wv W s' r e W'):MkD w0 M a b c vv wv w s' r e W':=by
 obtain ⟨he,a',b',c',h1,h2,h3,h4,h5⟩:=h
 have:=hk.size
 exact ⟨he,a',b',c',h1,(hk.mono (fun _ _ e=>e.elim)).trans h2,h3.imp id (fun h=>by omega),h4.imp id (fun h=>by omega),h5.imp id (fun h=>by omega)⟩
structure Tp(M a b c lo k:Nat):Prop where
 ne:M<k/\k≠a/\k≠b/\k≠c/\lo<=k
structure Rl(a b c a1 b1 c1 z:Nat):Prop where
 ra:a1=a\/z<=a1
 rb:b1=b\/z<=b1
 rc:c1=c\/z<=c1
theorem Tp.next{lo k a1 b1 c1 z:Nat}(h:Tp M a b c lo k)(hr:Rl a b c a1 b1 c1 z)(hk:k<z):Tp M a1 b1 c1 lo k:=by
 have:=h.ne
 have:=hr.ra
 have:=hr.rb
 have:=hr.rc
 exact ⟨by omega⟩
theorem aw{L:List Nat}{w2:qW}{k lo a1 b1 c1 z:Nat}{cs:Array qV}{t:TypeId}(h:Kp (fun k=>(k=M\/k=a\/k=b\/k=c)\/k∈L) (putB W k cs t) w2)(hT:Tp M a b c lo k)(hr:Rl a b c a1 b1 c1 z)(hz:k<W.heap.size/\k<z)(hL:k∉L):
  w2=putB w2 k cs t/\k<w2.heap.size/\Tp M a1 b1 c1 lo k/\Kp (fun i=>(i=M\/i=a\/i=b\/i=c)\/i∈k::L) W w2:=by
 have hne:=hT.ne
 obtain ⟨h1,h2,h3⟩:=h.peel hz.1 (by rintro (e|e);omega;exact hL e)
 exact ⟨h1,h2,hT.next hr hz.2,h3.mono (fun i _ e=>by rcases e with (e|e)|e;exact .inl e;exact .inr (zaK _ e);exact .inr (by simp [e]))⟩
theorem av{L:List Nat}{w2:qW}{lo a1 b1 c1 z:Nat}{cs:Array qV}{t:TypeId}(h:Kp (fun k=>(k=M\/k=a\/k=b\/k=c)\/k∈L) (W.alloc (.cells cs t)) w2)(hT:Tp M a b c lo W.heap.size)(hr:Rl a b c a1 b1 c1 z)(hz:W.heap.size<z)(hL:W.heap.size∉L):
  w2=putB w2 W.heap.size cs t/\W.heap.size<w2.heap.size/\Tp M a1 b1 c1 lo W.heap.size/\Kp (fun i=>(i=M\/i=a\/i=b\/i=c)\/i∈L) W w2:=by
 have hne:=hT.ne
 obtain ⟨h1,h2,h3⟩:=h.peelA (by rintro (e|e);omega;exact hL e)
 exact ⟨h1,h2,hT.next hr hz,h3⟩
structure MkA(w0:qW)(M a b c:Nat)(vv wv:qV)(w W:qW)(a1 b1 c1:Nat)(s:LS):Prop where
 mkr:Mk w0 M a1 b1 c1 vv wv W s
 kp:Kp (fun k=>k=M\/k=a\/k=b\/k=c) w W
 ha:a1=a\/w.heap.size<=a1
 hb:b1=b\/w.heap.size<=b1
 hc:c1=c\/w.heap.size<=c1
section
variable{w:qW}{a1 b1 c1:Nat}
theorem MkA.begin(h:Mk w0 M a b c vv wv w s):MkA w0 M a b c vv wv w w a b c s:=⟨h,Kp.refl _ _,.inl rfl,.inl rfl,.inl rfl⟩
theorem MkA.alloc(h:MkA w0 M a b c vv wv w W a1 b1 c1 s)(o:Obj):MkA w0 M a b c vv wv w (W.alloc o) a1 b1 c1 s:=⟨h.mkr.alloc o,h.kp.alloc o,h.ha,h.hb,h.hc⟩
theorem MkA.drew(h:MkA w0 M a b c vv wv w W a1 b1 c1 s):MkA w0 M a b c vv wv w W.drew a1 b1 c1 s:=⟨h.mkr.drew,h.kp.drew,h.ha,h.hb,h.hc⟩
theorem MkA.mo(h:MkA w0 M a b c vv wv w W a1 b1 c1 s)(p:Regrown):MkA w0 M a b c vv wv w (more W p) a1 b1 c1 s:=⟨h.mkr.mo p,h.kp.more p,h.ha,h.hb,h.hc⟩
theorem MkA.own(h:MkA w0 M a b c vv wv w W a1 b1 c1 s){k:Nat}(hk:Tp M a1 b1 c1 w.heap.size k)(cs:Array qV)(t:TypeId)(h0:M<w.heap.size/\a<w.heap.size/\b<w.heap.size/\c<w.heap.size):MkA w0 M a b c vv wv w (putB W k cs t) a1 b1 c1 s:=
 ⟨h.mkr.own ⟨hk.ne.1,hk.ne.2.1,hk.ne.2.2.1,hk.ne.2.2.2.1⟩ cs t,h.kp.putB (fun hl=>by have:=hk.ne.2.2.2.2;omega) cs t,h.ha,h.hb,h.hc⟩
theorem MkA.next{s2:LS}{r:qV}{e:Ending}{w1:qW}(h:MkA w0 M a b c vv wv w W a1 b1 c1 s)(hD:MkD w0 M a1 b1 c1 vv wv W s2 r e w1): ∃a2 b2 c2,MkA w0 M a b c vv wv w w1 a2 b2 c2 s2/\Kp (fun k=>(k=M\/k=a1\/k=b1\/k=c1)\/k∈([]:List Nat)) W w1/\Rl a1 b1 c1 a2 b2 c2 W.heap.size:=by
 obtain ⟨-,a2,b2,c2,h1,h2,h3,h4,h5⟩:=hD
 have hz:=h.kp.size
 have ha:=h.ha
 have hb:=h.hb
 have hc:=h.hc
 exact ⟨a2,b2,c2,⟨h1,h.kp.next h2 (fun i hi e=>by omega),by omega,by omega,by omega⟩,h2.mono (fun k _ e=> .inl e),⟨h3,h4,h5⟩⟩
theorem MkA.nx{s2:LS}{r:qV}{e:Ending}{w1:qW}(hD:MkD w0 M a1 b1 c1 vv wv W s2 r e w1)(h:MkA w0 M a b c vv wv w W a1 b1 c1 s):e= .returned r/\ ∃a2 b2 c2 ov sv lv,(∀b i,w1.cell? (aB b i)=if b<w0.heap.size then w0.cell? (aB b i) else if b=M then (#[vv,wv,ov,iI s2.regs,iI s2.labels,sv,iI s2.line,lv]:Array qV)[i]? else cellW w1 ⟨b,i,none⟩)/\
  (∀b i,w1.frozen? (aB b i)=if b<w0.heap.size then w0.frozen? (aB b i) else if b=M then false else frzW w1 ⟨b,i,none⟩)/\(w0.heap.size<=M/\M<w1.heap.size/\M<=a2/\a2<w1.heap.size/\M<=b2/\b2<w1.heap.size/\M<=c2/\c2<w1.heap.size)/\Hid (MkA w0 M a b c vv wv w w1 a2 b2 c2 s2)/\W.heap.size<=w1.heap.size/\Kp (fun k=>(k=M\/k=a1\/k=b1\/k=c1)\/k∈([]:List Nat)) W w1/\Rl a1 b1 c1 a2 b2 c2 W.heap.size:=by
 have e1:=hD.1
 obtain ⟨a2,b2,c2,hM,hT,hr⟩:=MkA.next h hD
 obtain ⟨ov,sv,lv,i',pi⟩:=hM.mkr.rules
 exact ⟨e1,a2,b2,c2,ov,sv,lv,i',pi,hM.mkr.bd,Zh hM,hT.size,hT,hr⟩
theorem MkA.fin{r:qV}(h:MkA w0 M a b c vv wv w W a1 b1 c1 s):MkD w0 M a b c vv wv w s r (.returned r) W:=⟨rfl,a1,b1,c1,h.mkr,h.kp,h.ha,h.hb,h.hc⟩
end
theorem Mk.app0{ov sv lv:qV}{xs:List qV}{ob:Obj}{w2:qW}{g cap:Nat}{o:OpD}(h:Mk w0 M a b c vv wv W s)(ho:Ob M 206 (mkC vv wv ov sv lv s) (mkR s xs) W)(ea:ownN M ov=a)(eb:ownN M sv=b)(ec:ownN M lv=c)(hf:LFin (lAdd o s))
  (xb:(W.drew.alloc ob).grownBy w2 ov.ownBlock) (hown:w2.ownsRow (M+1) 225 13 (.slice (aA g) (s.ops.length+1) cap) (s.ops.length+1) (s.ops.flatMap opC++opC {o with line:=s.line})) (xk:ov.ownBlock=some g\/g=(W.drew.alloc ob).heap.size) {r:qV}:
  MkD w0 M a b c vv wv W (lAdd o s) r (.returned r) (w2.setCell ⟨M,2,none⟩ (.slice (aA g) (s.ops.length+1) cap)):=by
 subst ea eb ec
 have wZ:Kp (fun k=>ov.ownBlock=some k) (W.drew.alloc ob) w2:=(Kp.of_grown xb).mono (fun k _ e=>e.symm)
 have ym:Kp (fun k=>ov.ownBlock=some k) W w2:=((Kp.dr W).trans (Kp.al _ ob)).trans wZ
 have hg: ∀k,(Value.slice (aA g) (s.ops.length+1) cap).ownBlock=some k->(fld (mkC vv wv ov sv lv s) 2).ownBlock=some k\/W.heap.size<=k:=fun k hk=>by
  obtain rfl:g=k:=by simpa [Value.ownBlock] using hk
  rcases xk with e|e
  ·exact .inl e
  ·right
   simp only [Zz] at e
   omega
 obtain ⟨p1,p2,p3⟩:=ho.put (r:=⟨2,225,13,s.ops.length,s.ops.flatMap opC⟩) (by simp [mkR]) (by simp [mkC]) ym hown hg
 have xp:Kp (fun k=>k=M\/k=ownN M ov\/k=ownN M sv\/k=ownN M lv) W (w2.setCell ⟨M,2,none⟩ (.slice (aA g) (s.ops.length+1) cap)):=p2.mono (fun k _ hk=>by
  rcases de.1 hk with e|e|e|e
  ·exact .inl e
  ·exact .inr (.inl (bn e))
  ·exact .inr (.inr (.inl (bn e)))
  ·exact .inr (.inr (.inr (bn e))))
 have j':=h.bd
 have hb:=h.bl
 refine ⟨rfl,g,_,_,⟨⟨.slice (aA g) (s.ops.length+1) cap,sv,lv,xs,?_,by simp [ownN,Value.ownBlock],rfl,rfl⟩,?_,h.le,h.nums.add o hf⟩,xp,?_,.inl rfl,.inl rfl⟩
 ·have e1:(mkC vv wv ov sv lv s).setIfInBounds 2 (.slice (aA g) (s.ops.length+1) cap)=mkC vv wv (.slice (aA g) (s.ops.length+1) cap) sv lv (lAdd o s):=rfl
  have e2:(mkR s xs).map (fun q=>if q.ix=2 then {q with n:=s.ops.length+1,xs:=s.ops.flatMap opC++opC {o with line:=s.line}} else q)=mkR (lAdd o s) xs:=by
   simp [mkR,lAdd]
  rw [e1,e2] at p1
  exact p1
 ·exact ⟨xp.os.trans hb.os,xp.tape.trans hb.tape,xp.output.trans hb.output,zal hb.size xp.size,fun k hk=>(xp.block k (by have:=hb.size;omega) Za).trans (hb.block k hk)⟩
 ·rcases xk with e|e
  ·exact .inl (bn e)
  ·right
   simp only [Zz] at e
   omega
theorem cF(w:qW)(h:Mk w0 M a b c vv wv w s)(o:OpD)(hf:LFin (lAdd o s)):qC 203 #[pP M,.agg (opC o).toArray] w (MkD w0 M a b c vv wv w (lAdd o s) (.tuple #[])):=by
 obtain ⟨ov,sv,lv,i',pi⟩:=h.rules
 have j':=h.bd
 have HM:=Zh h
 obtain ⟨i0,xF,xx,xu,xq⟩:=zan vn
 clear h
 unfold opC
 go_enter Tryz.func203,Tryz.ntmps203
 go_wp2_with fail
 refine aS (R:=fun W=>Mk w0 M a b c vv wv W s/\W.heap[w.heap.size]?=some (.cells (opC {o with line:=s.line}).toArray 225 (0,0))/\Kp (fun _=>False) w W) ⟨HM.out.alloc _,zab _ _,Kp.al _ _⟩ ?_
 have yb:=j'
 clear i' pi j'
 rintro W ⟨hM,hK,ze⟩
 obtain ⟨ov,sv,lv,xs,ho,ea,eb,ec⟩:=hM.ob
 have yO:=ho.own ⟨2,225,13,s.ops.length,s.ops.flatMap opC⟩ (by simp [mkR])
 have q1: ∀i,W.cell? (aB M i)=(#[vv,wv,ov,iI s.regs,iI s.labels,sv,iI s.line,lv]:Array qV)[i]?:=aa ho.out
 have qf:=ah ho.out
 have qk: ∀i,W.cell? (aB w.heap.size i)=(#[iI o.kind,iI o.dst,iI o.dst2,iI o.a,iI o.b,iI o.c,.int .u64 o.n,iI o.op,iI o.size,iI o.order,iI o.tO,iI o.site,iI s.line]:Array qV)[i]?:=aa hK
 have j':=hM.bd
 have yc:=ac hK
 have HW:=Zh hM
 have HO:=Zh ho
 have xB:=Zh yO
 have yQ:=Zh ze
 clear hM hK ho yO ze
 have hA: ∀i,W.drew.cell? (aB w.heap.size i)=(#[iI o.kind,iI o.dst,iI o.dst2,iI o.a,iI o.b,iI o.c,.int .u64 o.n,iI o.op,iI o.size,iI o.order,iI o.tO,iI o.site,iI s.line]:Array qV)[i]?:=qk
 have hB:W.drew.cell? (aB M 2)=some ov:=q1 2
 refine ae (fun W=> ∀i,W.cell? (aB w.heap.size i)=(#[iI o.kind,iI o.dst,iI o.dst2,iI o.a,iI o.b,iI o.c,.int .u64 o.n,iI o.op,iI o.size,iI o.order,iI o.tO,iI o.site,iI s.line]:Array qV)[i]?) (fun W=>W.cell? (aB M 2)=some ov) 10 rfl ?_
 refine Zp 0 rfl (h:=Zp 1 rfl (h:=Zp 2 rfl (h:=Zp 3 rfl (h:=Zl 4 [7,10] rfl (h:=Zt 5 rfl (h:=?_))))));try simp only [Zq]
 refine Zs 6 rfl fun K hK=>?_
 go_simp
 refine hK _ _ ⟨fun i=>(aj yc).trans (qk i),fun _=>(aj j'.2.1).trans (q1 2)⟩ ?_
 have xY:=hf.ops
 simp only [lAdd,zaO,za2,zaV] at xY
 refine Zs 7 rfl fun K hK=>?_
 refine bf (.tmp 13) (.tmp 15) 148 225 i0 _ 13 104 Tryz.underlying148 xF xx xu xq rfl Zd rfl rfl (M+1) ov s.ops.length (s.ops.flatMap opC) (ax xB.out (fun g hg=>zac _ _ (xB.out.lt g hg).2)) W.heap.size #[iI o.kind,iI o.dst,iI o.dst2,iI o.a,iI o.b,iI o.c,.int .u64 o.n,iI o.op,iI o.size,iI o.order,iI o.tO,iI o.site,iI s.line] 225 (0,0) (zab _ _) ZA ZA rfl ZD Za Za Zc ?_
 intro g2 cap2 w2 hown xb xk xE
 have hD:=Zh (HW.out.app0 (r:= .tuple #[]) HO.out ea eb ec hf xb hown xk)
 have wZ:Kp (fun k=>ov.ownBlock=some k) (W.drew.alloc _) w2:=(Kp.of_grown xb).mono (fun k _ e=>e.symm)
 have kx: ∀i,w2.cell? (aB w.heap.size i)=(#[iI o.kind,iI o.dst,iI o.dst2,iI o.a,iI o.b,iI o.c,.int .u64 o.n,iI o.op,iI o.size,iI o.order,iI o.tO,iI o.site,iI s.line]:Array qV)[i]?:=fun i=>((wZ.cell Zc (fun e=>by have:=bn (M:=M) e;omega)).trans (aj yc)).trans (qk i)
 have kc: ∀i,w2.cell? (aB M i)=(#[vv,wv,ov,iI s.regs,iI s.labels,sv,iI s.line,lv]:Array qV)[i]?:=fun i=>((wZ.cell Zc (fun e=>by have:=(xB.out.lt _ e).1;omega)).trans (aj j'.2.1)).trans (q1 i)
 have kf: ∀i,w2.frozen? (aB M i)=false:=ah ((wZ.block M Zc (fun e=>by have:=(xB.out.lt _ e).1;omega)).trans ((zac _ _ j'.2.1).trans HO.out.out))
 clear hown xb xk wZ
 refine hK _ _ ⟨kx,fun _=>kc 2⟩ ?_
 clear hK K hA hB
 have hA: ∀i,w2.cell? (aB w.heap.size i)=(#[iI o.kind,iI o.dst,iI o.dst2,iI o.a,iI o.b,iI o.c,.int .u64 o.n,iI o.op,iI o.size,iI o.order,iI o.tO,iI o.site,iI s.line]:Array qV)[i]?:=kx
 have hB:w2.cell? (aB M 2)=some ov:=kc 2
 refine Zp 8 rfl (h:=Zp 9 rfl (h:=?_));try simp only [Zq]
 refine Zs 10 rfl fun K hK=>?_
 go_simp
 refine hK _ _ ⟨?_,fun hh=>Bool.noConfusion (hh.symm.trans (show _=true by kernel_rfl))⟩ ?_
 ·intro i
  exact (zaH _ _ _ _ (fun e=>by have:=congrArg Addr.block e;simp only at this;omega)).trans (kx i)
 refine af Zb ?_ _
 go_wp2_with fail
 go_end0
 exact hD.out.left yQ.out
end
end
section
open Go.RowKit
abbrev Bz:=Int×Int
def qGet(q:List Bz)(i:Nat):Bz:=q.getD i (0,0)
def qLess(q:List Bz)(i j:Nat):Bool:=decide ((qGet q i).1<(qGet q j).1)
def qSwap(q:List Bz)(i j:Nat):List Bz:=(q.set i (qGet q j)).set j (qGet q i)
def qUp:Nat->List Bz->Nat->List Bz
 |0,q,_=>q
 |n+1,q,j=>if (j-1)/2=j\/!qLess q j ((j-1)/2) then q else qUp n (qSwap q ((j-1)/2) j) ((j-1)/2)
def qDown:Nat->List Bz->Nat->Nat->List Bz
 |0,q,_,_=>q
 |f+1,q,i,n=>if n<=2*i+1 then q else
  let j:=if 2*i+2<n/\qLess q (2*i+2) (2*i+1) then 2*i+2 else 2*i+1
  if !qLess q j i then q else qDown f (qSwap q i j) j n
def qPush(q:List Bz)(x:Bz):List Bz:=qUp (q.length+1) (q++[x]) q.length
def qPop(q:List Bz):List Bz×Bz:=
 let r:=qDown q.length (qSwap q 0 (q.length-1)) 0 (q.length-1)
 (r.take (q.length-1),qGet r (q.length-1))
structure Pool where
 free:List Int
 used:List Bz
 next:Int
 most:Int
def pDrain:Nat->Int->List Int->List Bz->List Int×List Bz
 |0,_,free,used=>(free,used)
 |n+1,at_,free,used=>match used with
  |[]=>(free,used)
  |x::_=>if x.1<at_ then pDrain n at_ (free++[(qPop used).2.2]) (qPop used).1 else (free,used)
def pTake(tt:Int)(p:Pool):Option Int×Pool:=
 match p.free.getLast? with
 |some x=>(some x,{p with free:=p.free.dropLast,used:=qPush p.used (tt,x)})
 |none=>if p.most<=p.next then (none,p) else (some p.next,{p with next:=p.next+1,used:=qPush p.used (tt,p.next)})
structure ES where
 out:List Ins
 sites:List Int
 lines:List Int
 line:Int
 labels:List (Int×Int)
 brs:List (Int×Int)
 e:Int
def nI(op:Int)(d:Int:=0)(n:Int:=0)(m:Int:=0)(e:Int:=0)(sz:Int:=0)(imm:Int:=0):Ins:=⟨op,d,n,m,e,sz,imm⟩
def eAt(site:Int)(i:Ins)(s:ES):ES:={s with out:=s.out++[i],sites:=s.sites++[site],lines:=s.lines++[s.line]}
def eAdd(i:Ins)(s:ES):ES:=eAt 0 i s
def cstParts(n:Nat):List (Int×Int):=[(0,(n%65536:Nat)),(1,(n/65536%65536:Nat)),(2,(n/4294967296%65536:Nat)),(3,(n/281474976710656%65536:Nat))]
def cst(d:Int)(n:Nat):List Ins:=
 let r:=(cstParts n).foldl (fun (l:List Ins) q=>if q.2=0 then l else if l.isEmpty then [nI 1 (d:=d) (e:=q.1) (imm:=q.2)] else l++[nI 2 (d:=d) (e:=q.1) (imm:=q.2)]) []
 if r.isEmpty then [nI 1 (d:=d)] else r
def eCst(d:Int)(n:Nat)(s:ES):ES:=(cst d n).foldl (fun s i=>eAdd i s) s
def ePlace(pl:List Int)(r:Int)(s:ES):Int×ES:=if r<0\/pl.length<=r.toNat then (0,{s with e:=1}) else (pl.getD r.toNat 0,s)
def eSource(pl:List Int)(r spare:Int)(s:ES):Int×ES:=
 let p:=ePlace pl r s
 if 0<=p.1 then p else (spare,eAdd (nI 17 (d:=spare) (n:=28) (sz:=3) (imm:= -1-p.1)) p.2)
def eTarget(pl:List Int)(r spare:Int)(s:ES):Int×ES:=
 let p:=ePlace pl r s
 if 0<=p.1 then p else (spare,p.2)
def eKeep(pl:List Int)(r d:Int)(s:ES):ES:=
 let p:=ePlace pl r s
 if p.1<0 then eAdd (nI 18 (d:=d) (n:=28) (sz:=3) (imm:= -1-p.1)) p.2 else p.2
def eMove(d n:Int)(s:ES):ES:=eAdd (nI 7 (d:=d) (n:=31) (m:=n)) s
def eFinish(pl:List Int)(r n:Int)(s:ES):ES:=
 let d:=eTarget pl r 11 s
 eKeep pl r d.1 (eMove d.1 n d.2)
def ePlain(op:Int):Int:=if op=1 then 3 else if op=2 then 4 else if op=3 then 9 else if op=4 then 6 else if op=5 then 7 else if op=6 then 8 else if op=7 then 10 else if op=8 then 11 else 0
def eCond(op:Int):Int:=if op=9 then 0 else if op=10 then 1 else 3
def eBin(pl:List Int)(o:OpD)(s:ES):ES:=
 let a:=eSource pl o.a 8 s
 let b:=eSource pl o.b 9 a.2
 let d:=eTarget pl o.dst 11 b.2
 let s1:=if ePlain o.op≠0 then eAdd (nI (ePlain o.op) (d:=d.1) (n:=a.1) (m:=b.1)) d.2 else eAdd (nI 12 (d:=d.1) (e:=eCond o.op)) (eAdd (nI 5 (d:=31) (n:=a.1) (m:=b.1)) d.2)
 eKeep pl o.dst d.1 s1
def eSize(n:Int):Int:=if n<=1 then 0 else if n<=2 then 1 else if n<=4 then 2 else if n<=8 then 3 else 4
def eAddr(pl:List Int)(o:OpD)(s:ES):Int×ES:=
 let a:=eSource pl o.a 8 s
 if o.n=0 then a else (8,eAdd (nI 3 (d:=8) (n:=a.1) (m:=14)) (eCst 14 o.n a.2))
def oAcq(o:Int):Bool:=decide (o=2)||decide (o=4)
def oRel(o:Int):Bool:=decide (o=3)||decide (o=4)
def eLoad(pl:List Int)(o:OpD)(s:ES):ES:=
 let a:=eAddr pl o s
 let d:=eTarget pl o.dst 11 a.2
 eKeep pl o.dst d.1 (eAt o.site (nI (if oAcq o.order then 19 else 17) (d:=d.1) (n:=a.1) (sz:=eSize o.size)) d.2)
def eStore(pl:List Int)(o:OpD)(s:ES):ES:=
 let a:=eAddr pl o s
 let b:=eSource pl o.b 9 a.2
 eAt o.site (nI (if oRel o.order then 20 else 18) (d:=b.1) (n:=a.1) (sz:=eSize o.size)) b.2
def eBack(tp:Int)(s:ES):ES:=eAdd (nI 16 (d:=13) (imm:=tp-s.out.length)) s
def eChange(pl:List Int)(o:OpD)(s:ES):ES:=
 let a:=eSource pl o.a 8 s
 let b:=eSource pl o.b 9 a.2
 let top:Int:=b.2.out.length
 let k:=eSize o.size
 let s1:=eAt o.site (nI (if oAcq o.order then 22 else 21) (d:=14) (n:=a.1) (sz:=k)) b.2
 let n:=if o.kind=8 then 12 else b.1
 let s2:=if o.kind=8 then eAdd (nI 3 (d:=12) (n:=14) (m:=b.1)) s1 else s1
 eFinish pl o.dst 14 (eBack top (eAt o.site (nI (if oRel o.order then 24 else 23) (d:=n) (n:=a.1) (m:=13) (sz:=k)) s2))
def eCompare(pl:List Int)(o:OpD)(s:ES):ES:=
 let a:=eSource pl o.a 8 s
 let b:=eSource pl o.b 9 a.2
 let c:=eSource pl o.c 10 b.2
 let k:=eSize o.size
 let s1:=if o.size<8 then eAdd (nI 6 (d:=12) (n:=b.1) (m:=12)) (eCst 12 (2^(8*o.size.toNat)-1) c.2) else c.2
 let bb:=if o.size<8 then 12 else b.1
 let top:Int:=s1.out.length
 let s2:=eAdd (nI 14 (e:=1) (imm:=4)) (eAdd (nI 5 (d:=31) (n:=14) (m:=bb)) (eAt o.site (nI (if oAcq o.order then 22 else 21) (d:=14) (n:=a.1) (sz:=k)) s1))
 let s3:=eBack top (eAt o.site (nI (if oRel o.order then 24 else 23) (d:=c.1) (n:=a.1) (m:=13) (sz:=k)) s2)
 eFinish pl o.dst 14 (eAdd (nI 30) (eAdd (nI 13 (imm:=2)) s3))
def eTwo(pl:List Int)(o:OpD)(s:ES):ES:=
 let a:=eSource pl o.a 8 s
 let b:=if o.kind=12 then eSource pl o.b 9 a.2 else (14,a.2)
 let c:=if o.kind=12 then eSource pl o.c 10 b.2 else (12,b.2)
 let top:Int:=c.2.out.length
 let rd:Int:=if o.kind=11/\oAcq o.order then 26 else 25
 let wr:Int:=if o.order=4\/(o.kind=12/\oRel o.order) then 28 else 27
 let s1:=eAt o.site (nI wr (d:=b.1) (n:=a.1) (m:=13) (e:=c.1)) (eAt o.site (nI rd (d:=14) (n:=a.1) (e:=12)) c.2)
 let s2:=eBack top s1
 if o.kind=11 then eFinish pl o.dst2 12 (eFinish pl o.dst 14 s2) else s2
def eBound(pl:List Int)(o:OpD)(s:ES):ES:=
 let a:=eSource pl o.a 8 s
 eAdd (nI 32 (imm:=1)) (eAdd (nI 14 (e:=3) (imm:=2)) (eAdd (nI 5 (d:=31) (n:=a.1) (m:=14)) (eCst 14 o.n a.2)))
def eJump(pl:List Int)(o:OpD)(s:ES):ES:=
 let i:=if o.kind=16 then (let a:=eSource pl o.a 8 s;(nI 15 (d:=a.1),a.2)) else (nI 13,s)
 eAdd i.1 {i.2 with brs:=i.2.brs++[((i.2.out.length:Int),o.tO)]}
def eStep(pl:List Int)(o:OpD)(s:ES):ES:=
 let s:={s with line:=o.line}
 if o.kind=1 then (let d:=eTarget pl o.dst 11 s;eKeep pl o.dst d.1 (eCst d.1 o.n d.2))
 else if o.kind=2 then (let a:=eSource pl o.a 8 s;eFinish pl o.dst a.1 a.2)
 else if o.kind=3 then eBin pl o s
 else if o.kind=4\/o.kind=6 then eLoad pl o s
 else if o.kind=5\/o.kind=7 then eStore pl o s
 else if o.kind=8\/o.kind=9 then eChange pl o s
 else if o.kind=10 then eCompare pl o s
 else if o.kind=11\/o.kind=12 then eTwo pl o s
 else if o.kind=13 then eAt o.site (nI 29 (imm:=if o.order=2 then 1 else 0)) s
 else if o.kind=14 then {s with labels:=(o.tO,(s.out.length:Int))::s.labels}
 else if o.kind=15\/o.kind=16 then eJump pl o s
 else if o.kind=17 then eBound pl o s
 else if o.kind=18 then (let a:=eSource pl o.a 8 s;eAdd (nI 31 (imm:=1+a.1)) a.2)
 else {s with e:=1}
def eLook(l:List (Int×Int))(k:Int):Option Int:=(l.find? (fun x=>decide (x.1=k))).map Prod.snd
def ePatch(labels:List (Int×Int)):List (Int×Int)->List Ins->Int->List Ins×Int
 |[],out,e=>(out,e)
 |b::l,out,e=>
  let tt:=(eLook labels b.2).getD 0
  let i:=out.getD b.1.toNat (nI 0)
  ePatch labels l (out.set b.1.toNat {i with imm:=tt-b.1}) (if (eLook labels b.2).isSome then e else 1)
def eThread(ops:List OpD)(pl:List Int)(priv:Nat):Option (List Ins×List Int×List Int):=
 let s:=ops.foldl (fun s o=>eStep pl o s) (eCst 28 priv ⟨[],[],[],0,[],[],0⟩)
 let s:=eAdd (nI 31) s
 let r:=ePatch s.labels s.brs s.out s.e
 if r.2≠0 then none else some (r.1,s.sites,s.lines)
end
section
open Go.RowKit Go.Sort
structure Tq(F:Nat->Prop)(lo k:Nat):Prop where
 no: ¬F k
 le:lo<=k
structure Rq(F F1:Nat->Prop)(z:Nat):Prop where
 r: ∀k,F1 k->F k\/z<=k
theorem Tq.next{F F1:Nat->Prop}{lo k z:Nat}(h:Tq F lo k)(hr:Rq F F1 z)(hk:k<z):Tq F1 lo k:=
 ⟨fun e=>(hr.r k e).elim h.no (fun h=>by omega),h.le⟩
end
end Go.Proofs.YtjmfoeajhiimnaaGreatDoor
