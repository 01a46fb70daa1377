/- Walks. No condition. -/
import Derived.Test.YtjmfoeajhiimnaaGreatDoorG07
import Derived.Test.YtjmfoeajhiimnaaGreatDoorG33
set_option maxRecDepth 100000
set_option maxHeartbeats 0
set_option linter.all false
namespace Go.Proofs.YtjmfoeajhiimnaaGreatDoor
open Go.RowKit Go.Sort
abbrev ThI:=List Nat×List (Int×Int)
def iAll(gl:List GlD)(size:Int):Nat->List (List Sm)->Option (List ThI)
 |_,[]=>some []
 |n,t::ts=>match iThreadB gl size t n with
  |none=>none
  |some r=>match iAll gl size (n+1) ts with
   |none=>none
   |some rs=>some (r::rs)
theorem mm{gl:List GlD}{size:Int}: ∀{ts:List (List Sm)} {n:Nat} {rs:List ThI},iAll gl size n ts=some rs->rs.length=ts.length/\ ∀k t,ts[k]?=some t-> ∃r,rs[k]?=some r/\iThreadB gl size t (n+k)=some r
 |[],n,rs,h=>by
  obtain rfl:=(zae h).symm
  exact ⟨rfl,fun k t e=>by simp at e⟩
 |t::ts,n,rs,h=>by
  simp only [iAll] at h
  split at h
  ·cases h
  rename_i r hr
  split at h
  ·cases h
  rename_i rs' BO
  obtain rfl:=zae h
  obtain ⟨h1,h2⟩:=mm BO
  refine ⟨by simp [h1],fun k u hk=>?_⟩
  cases k with
  |zero=>exact ⟨r,rfl,by simp at hk;subst hk;exact hr⟩
  |succ k=>
   obtain ⟨x,hx,hy⟩:=h2 k u (by simpa using hk)
   exact ⟨x,by simpa using hx,by rw [show n+(k+1)=n+1+k by omega];exact hy⟩
def iProgB(p:PrgD):Option (List ThI):=if cProg p then iAll (mapV 0 p.vars).1 (mapV 0 p.vars).2 0 p.threads else none
def TImg(W:qW)(B gT gS k:Nat)(n:Nat)(r:ThI):Prop:=
 ∃g1 c1 g2 c2,W.cell? (aB gT k)=some (.slice (aA g1) r.1.length c1)/\W.cell? (aB gS k)=some (.slice (aA g2) r.2.length c2)/\
  W.ownsRow B 81 1 (.slice (aA g1) r.1.length c1) r.1.length (r.1.flatMap ef)/\W.ownsRow B 74 3 (.slice (aA g2) r.2.length c2) r.2.length (r.2.flatMap (siteC n))
structure PiW(w:qW)(pv iv:Array qV)(S gT gS:Nat)(L:Nat)(gv:qV)(gls:List GlD)(rs:List ThI)(k:Nat)(W:qW):Prop where
 pb:W.heap[w.heap.size]?=some (.cells pv 59 (0,0))
 r1:W.heap[w.heap.size+1]?=some (.cells #[.slice none 0 0,.slice none 0 0,.slice none 0 0,iI 0] 31 (0,0))
 r2:W.heap[w.heap.size+1+1]?=some (.cells #[iI 0,iI 0] 34 (0,0))
 im:W.heap[S]?=some (.cells iv 31 (0,0))
 tT: ∃cs,W.heap[gT]?=some (.cells cs 69 (0,0))/\cs.size=L
 tS: ∃cs,W.heap[gS]?=some (.cells cs 70 (0,0))/\cs.size=L
 bl:Below w.heap.size w W
 gl:W.ownsRow (S+1) 147 3 gv gls.length (gls.flatMap glC)
 gg: ∀b,gv.ownBlock=some b->b<gT
 th: ∀j r,j<k->rs[j]?=some r->TImg W (gS+1) gT gS j j r
 s1:w.heap.size+4<=S
 s2:S<gT
 s3:gS=gT+1
 s4:gS<W.heap.size
theorem TImg.below{W W':qW}{B gT gS k n:Nat}{r:ThI}(h:TImg W B gT gS k n r)(hb:Below W.heap.size W W')(h1:gT<W.heap.size)(h2:gS<W.heap.size):TImg W' B gT gS k n r:=by
 obtain ⟨g1,c1,g2,c2,a1,a2,a3,a4⟩:=h
 exact ⟨g1,c1,g2,c2,(hb.cell (p:=⟨gT,k,none⟩) h1).trans a1,(hb.cell (p:=⟨gS,k,none⟩) h2).trans a2,ax a3 (fun g hg=>hb.block g (a3.lt g hg).2),ax a4 (fun g hg=>hb.block g (a4.lt g hg).2)⟩
theorem PiW.below{w W W':qW}{pv iv:Array qV}{S gT gS L k:Nat}{gv:qV}{gls:List GlD}{rs:List ThI}(h:PiW w pv iv S gT gS L gv gls rs k W)(hb:Below W.heap.size W W'):PiW w pv iv S gT gS L gv gls rs k W':=by
 have hs:=hb.size
 have yH:=h.bl.size
 have:=h.s1
 have:=h.s2
 have:=h.s3
 have:=h.s4
 obtain ⟨c1,d1,e1⟩:=h.tT
 obtain ⟨c2,d2,e2⟩:=h.tS
 exact ⟨(hb.block _ Za).trans h.pb,(hb.block _ Za).trans h.r1,(hb.block _ Za).trans h.r2,(hb.block _ Za).trans h.im,⟨c1,(hb.block _ Za).trans d1,e1⟩,⟨c2,(hb.block _ Za).trans d2,e2⟩,h.bl.trans ⟨hb.os,hb.tape,hb.output,hb.size,fun i hi=>hb.block i Za⟩,ax h.gl (fun g hg=>hb.block g (h.gl.lt g hg).2),h.gg,fun j r hj hr=>(h.th j r hj hr).below hb Za Za,h.s1,h.s2,h.s3,by omega⟩
theorem PiW.cells{w W:qW}{pv iv:Array qV}{S gT gS L k:Nat}{gv:qV}{gls:List GlD}{rs:List ThI}(h:PiW w pv iv S gT gS L gv gls rs k W)(hk:k<L):(∃u,W.cell? (aB gT k)=some u)/\(∃u,W.cell? (aB gS k)=some u)/\(∀i,W.frozen? (aB gT i)=false)/\(∀i,W.frozen? (aB gS i)=false):=by
 obtain ⟨c1,d1,e1⟩:=h.tT
 obtain ⟨c2,d2,e2⟩:=h.tS
 exact ⟨⟨c1[k],(aa d1 k).trans (zav Za)⟩,⟨c2[k],(aa d2 k).trans (zav Za)⟩,ah d1,ah d2⟩
theorem PiW.step{w W:qW}{pv iv:Array qV}{S gT gS L k:Nat}{gv:qV}{gls:List GlD}{rs:List ThI}(h:PiW w pv iv S gT gS L gv gls rs k W)(hk:k<L){r:ThI}(hr:rs[k]?=some r){g1 c1 g2 c2:Nat}
  (h1:W.ownsRow (gS+1) 81 1 (.slice (aA g1) r.1.length c1) r.1.length (r.1.flatMap ef)) (h2:W.ownsRow (gS+1) 74 3 (.slice (aA g2) r.2.length c2) r.2.length (r.2.flatMap (siteC k))):
  PiW w pv iv S gT gS L gv gls rs (k+1) ((W.setCell ⟨gT,k,none⟩ (.slice (aA g1) r.1.length c1)).setCell ⟨gS,k,none⟩ (.slice (aA g2) r.2.length c2)):=by
 obtain ⟨⟨u1,yJ⟩,⟨u2,Ff⟩, -, -⟩:=h.cells hk
 have k1:Kp (fun b=>b=gT) W (W.setCell ⟨gT,k,none⟩ (.slice (aA g1) r.1.length c1)):=Kp.set W _ _ _
 have k2:Kp (fun b=>b=gS) (W.setCell ⟨gT,k,none⟩ (.slice (aA g1) r.1.length c1)) ((W.setCell ⟨gT,k,none⟩ (.slice (aA g1) r.1.length c1)).setCell ⟨gS,k,none⟩ (.slice (aA g2) r.2.length c2)):=Kp.set _ _ _ _
 have AX:Kp (fun b=>b=gT\/b=gS) W ((W.setCell ⟨gT,k,none⟩ (.slice (aA g1) r.1.length c1)).setCell ⟨gS,k,none⟩ (.slice (aA g2) r.2.length c2)):=(k1.mono (fun b _ e=> .inl e)).trans (k2.mono (fun b _ e=> .inr e))
 have yH:=h.bl.size
 have t1:=h.s1
 have t2:=h.s2
 have t3:=h.s3
 have t4:=h.s4
 have xu:=k1.size
 have xq:=k2.size
 obtain ⟨cs1,d1,e1⟩:=h.tT
 obtain ⟨cs2,d2,e2⟩:=h.tS
 have own: ∀{s n:Nat} {v:qV} {e:TypeId} {xs:List qV},W.ownsRow (gS+1) e s v n xs->((W.setCell ⟨gT,k,none⟩ (.slice (aA g1) r.1.length c1)).setCell ⟨gS,k,none⟩ (.slice (aA g2) r.2.length c2)).ownsRow (gS+1) e s v n xs:=fun ho=>ai ho AX (fun g hg e=>by have:=(ho.lt g hg).1;omega)
 refine ⟨(AX.block _ Za Za).trans h.pb,(AX.block _ Za Za).trans h.r1,(AX.block _ Za Za).trans h.r2,(AX.block _ Za Za).trans h.im,⟨_,(k2.block _ Za Za).trans (aJ d1 _),by simpa using e1⟩,⟨_,aJ ((k1.block _ Za Za).trans d2) _,by simpa using e2⟩,aI h.bl AX (fun b e=>by omega),ai h.gl AX (fun g hg e=>by have:=h.gg g hg;omega),h.gg,fun j q hj hq=>?_,t1,t2,t3,by omega⟩
 rcases (by omega:j=k\/j<k) with rfl|hj
 ·obtain rfl:r=q:=zae (hr.symm.trans hq)
  exact ⟨g1,c1,g2,c2,(zaH _ _ _ _ (fun e=>by have:=congrArg Addr.block e;simp only at this;omega)).trans (zaF _ _ _ yJ),zaF _ _ _ ((zaH _ _ _ _ (fun e=>by have:=congrArg Addr.block e;simp only at this;omega)).trans Ff),own h1,own h2⟩
 ·obtain ⟨a1,b1,a2,b2,f1,f2,f3,f4⟩:=h.th j q hj hq
  exact ⟨a1,b1,a2,b2,(zaH _ _ _ _ (fun e=>by have:=congrArg Addr.block e;simp only at this;omega)).trans ((zaH _ _ _ _ (fun e=>by have:=congrArg Addr.off e;simp only at this;omega)).trans f1),(zaH _ _ _ _ (fun e=>by have:=congrArg Addr.off e;simp only at this;omega)).trans ((zaH _ _ _ _ (fun e=>by have:=congrArg Addr.block e;simp only at this;omega)).trans f2),own f3,own f4⟩
theorem PiW.fin{w W W':qW}{pv iv:Array qV}{S gT gS L k:Nat}{gv:qV}{gls:List GlD}{rs:List ThI}(h:PiW w pv iv S gT gS L gv gls rs k W)(hk:Kp (fun b=>b=w.heap.size+1\/b=w.heap.size+1+1) W W'):Below w.heap.size w W'/\gS<W'.heap.size/\W'.ownsRow w.heap.size 147 3 gv gls.length (gls.flatMap glC)/\ ∀j r,j<k->rs[j]?=some r->TImg W' (gS+1) gT gS j j r:=by
 have t1:=h.s1
 have t2:=h.s2
 have t3:=h.s3
 have t4:=h.s4
 have hz:=hk.size
 refine ⟨aI h.bl hk (fun b e=>by omega),by omega,dL (ai h.gl hk (fun g hg e=>by have:=(h.gl.lt g hg).1;omega)) Za,fun j r hj hr=>?_⟩
 obtain ⟨a1,b1,a2,b2,f1,f2,f3,f4⟩:=h.th j r hj hr
 exact ⟨a1,b1,a2,b2,(hk.cell Za Za).trans f1,(hk.cell Za Za).trans f2,ai f3 hk (fun g hg e=>by have:=(f3.lt g hg).1;omega),ai f4 hk (fun g hg e=>by have:=(f4.lt g hg).1;omega)⟩
def ImgR(w:qW)(p:PrgD)(rs:List ThI)(e:Ending)(w':qW):Prop:=
 ∃gT gv,e= .returned (.tuple #[.agg #[.slice (aA gT) p.threads.length p.threads.length,.slice (aA (gT+1)) p.threads.length p.threads.length,gv,iI (mapV 0 p.vars).2],.agg #[iI 0,iI 0]])/\Below w.heap.size w w'/\
  w.heap.size<=gT/\gT+1<w'.heap.size/\w'.ownsRow w.heap.size 147 3 gv (mapV 0 p.vars).1.length ((mapV 0 p.vars).1.flatMap glC)/\ ∀j r,rs[j]?=some r->TImg w' (gT+2) gT (gT+1) j j r
theorem pU:(Tryz.prog.info? 69).map (fun i=>(i.zero,i.size,i.bytes))=some (some (.slice none 0 0),1,24):=by kernel_rfl
theorem rA:(Tryz.prog.info? 70).map (fun i=>(i.zero,i.size,i.bytes))=some (some (.slice none 0 0),1,24):=by kernel_rfl
theorem tW(p:PrgD)(v1 v2:qV)(w:qW)(yo:SpT w)(h:PrgAt w okA v1 v2 p)(rs:List ThI)(hr:iProgB p=some rs):
  qC 13 #[.agg #[v1,v2]] w (ImgR w p rs):=by
 have xr:cProg p=true:=by
  unfold iProgB at hr
  split at hr
  ·assumption
  ·cases hr
 have xw:iAll (mapV 0 p.vars).1 (mapV 0 p.vars).2 0 p.threads=some rs:=by
  unfold iProgB at hr
  rw [if_pos xr] at hr
  exact hr
 obtain ⟨AR,Lz⟩:=mm xw
 obtain ⟨n1,n2,n3,n4,n5,n6⟩:=iJ xr
 have Ba:=fR h.vars Za
 have In:=Zh (fun W (hW:Below w.heap.size w W)=>ky p v1 v2 W (yo.below hW) (h.below hW) xr)
 have HP:=Zh h
 have zD:=Zh (fun W (hW:Below w.heap.size w W)=>pD p v1 v2 W (yo.below hW) (h.below hW) xr)
 have T00:0<=(mapV 0 p.vars).2:=fu p.vars 0 (ee n4 (fun v hv=>by
  obtain ⟨a',c',he, -,hg⟩:=Ba
  obtain ⟨i,hi,rfl⟩:=zaP hv
  obtain ⟨b',o', -, -,hg⟩:=hg Za
  obtain ⟨k,z,h3, -⟩:=hg i _ (zaC hi)
  exact ⟨k,z,h3⟩))
 obtain ⟨va,vc,rfl,Ju, -, -⟩:=h.vars
 have KV:=Zh (fun W (hW:Below w.heap.size w W)=>lH va vc p.vars W (Ba.below hW) n4 n1 n5)
 obtain ⟨ta,tc,rfl,zJ, -, -⟩:=h.threads
 have PZ:=Zh Lz
 generalize hT:mapV 0 p.vars=T at*
 have HT:=Zh hT
 have T0:0<=T.2:=T00
 clear h Ba xr xw hr Lz hT
 go_enter Tryz.func13,Tryz.ntmps13
 go_wp2_with fail
 go_at_call 29
 refine (In.out _ Zr).mono ?_
 rintro e1 w1 ⟨rfl,p1,rfl⟩
 go_wp2_with fail
 go_at_call 30
 refine (KV.out _ Zr).mono ?_
 rintro e2 w2 ⟨gv,rfl,yr,hown⟩
 obtain ⟨ga,gc,rfl,OE,OD, -, -⟩:=aC hown
 have yH:=yr.size
 simp only [ar,aZ] at yH hown
 obtain ⟨S,hS⟩: ∃S,S=w.heap.size+1+1+1+p1.os.size+1:=⟨_,rfl⟩
 have Ab:Below w.heap.size w w2:=an Zr yr ZS
 have k0:w2.heap[w.heap.size]?=some (.cells #[.slice va p.vars.length vc,.slice ta p.threads.length tc] 59 (0,0)):=by
  rw [yr.block _ ZS,zac _ _ ZS,zac _ _ ZS,ch _ _ _ ZF,zac _ _ ZF,zac _ _ ZF]
  exact zab _ _
 have k1:w2.heap[w.heap.size+1]?=some (.cells #[.slice none 0 0,.slice none 0 0,.slice none 0 0,iI 0] 31 (0,0)):=by
  rw [yr.block _ ZS,zac _ _ ZS,zac _ _ ZS,ch _ _ _ ZF,zac _ _ ZF]
  exact aH (by simp only [ar])
 have k2:w2.heap[w.heap.size+1+1]?=some (.cells #[iI 0,iI 0] 34 (0,0)):=by
  rw [yr.block _ ZS,zac _ _ ZS,zac _ _ ZS,ch _ _ _ ZF]
  exact aH (by simp only [ar])
 have k3:w2.heap[S]?=some (.cells #[.slice none 0 0,.slice none 0 0,.slice none 0 0,iI 0] 31 (0,0)):=by
  rw [hS,yr.block _ ZS]
  exact aH (by simp only [ar,aZ])
 rw [<-hS] at yH hown ⊢
 have Pg:w.heap.size+4<=S:=by omega
 clear yr hS
 obtain ⟨V,hV,D8,Ha,Ks,Mw,Mv,Kr⟩: ∃V,w2=putB V S #[.slice none 0 0,.slice none 0 0,.slice none 0 0,iI 0] 31/\V.ownsRow (S+1) 147 3 (.slice ga T.1.length gc) T.1.length (T.1.flatMap glC)/\Below w.heap.size w V/\V.heap[w.heap.size]?=some (.cells #[.slice va p.vars.length vc,.slice ta p.threads.length tc] 59 (0,0))/\V.heap[w.heap.size+1]?=some (.cells #[.slice none 0 0,.slice none 0 0,.slice none 0 0,iI 0] 31 (0,0))/\V.heap[w.heap.size+1+1]?=some (.cells #[iI 0,iI 0] 34 (0,0))/\S<V.heap.size:=⟨w2,(bE k3).symm,hown,Ab,k0,k1,k2,by omega⟩
 have xU:=Zh D8
 have Cv:=Zh Ha
 clear hown k0 k1 k2 k3 Ab D8 Ha yH
 subst hV
 have q0:=aa Ks
 have Bd: ∀w:qW,(Instr.makeSlice 27 (iI (p.threads.length:Int)) (iI (p.threads.length:Int))).run Tryz.prog w= .ok (.slice (aA w.heap.size) p.threads.length p.threads.length) (w.alloc (.cells (madeCells #[.slice none 0 0] p.threads.length) 69)):=
  fun w=>run_make_row' 27 69 (.slice none 0 0) 24 Tryz.underlying27 pU rfl .i64 .i64 p.threads.length Za Za w
 have Dg: ∀w:qW,(Instr.makeSlice 28 (iI (p.threads.length:Int)) (iI (p.threads.length:Int))).run Tryz.prog w= .ok (.slice (aA w.heap.size) p.threads.length p.threads.length) (w.alloc (.cells (madeCells #[.slice none 0 0] p.threads.length) 70)):=
  fun w=>run_make_row' 28 70 (.slice none 0 0) 24 Tryz.underlying28 rA rfl .i64 .i64 p.threads.length Za Za w
 go_wp2_with fail
 have A9:PiW w #[.slice va p.vars.length vc,.slice ta p.threads.length tc] #[.slice (aA V.heap.size) p.threads.length p.threads.length,.slice (aA (V.heap.size+1)) p.threads.length p.threads.length,.slice ga T.1.length gc,iI T.2] S V.heap.size (V.heap.size+1) p.threads.length (.slice ga T.1.length gc) T.1 rs 0 (putB ((V.alloc (.cells (madeCells #[.slice none 0 0] p.threads.length) 69)).alloc (.cells (madeCells #[.slice none 0 0] p.threads.length) 70)) S #[.slice (aA V.heap.size) p.threads.length p.threads.length,.slice (aA (V.heap.size+1)) p.threads.length p.threads.length,.slice ga T.1.length gc,iI T.2] 31):=by
  have CY:=Cv.out.size
  have yp:Kp (fun b=>b=S) V (putB ((V.alloc (.cells (madeCells #[.slice none 0 0] p.threads.length) 69)).alloc (.cells (madeCells #[.slice none 0 0] p.threads.length) 70)) S #[.slice (aA V.heap.size) p.threads.length p.threads.length,.slice (aA (V.heap.size+1)) p.threads.length p.threads.length,.slice ga T.1.length gc,iI T.2] 31):=(((Kp.refl (fun b=>b=S) V).alloc _).alloc _).putB (fun _=>rfl) _ _
  refine ⟨(yp.block _ Za Za).trans Ks,(yp.block _ Za Za).trans Mw,(yp.block _ Za Za).trans Mv,?_,⟨madeCells #[.slice none 0 0] p.threads.length,?_,by rw [size_madeCells];try simp⟩,⟨madeCells #[.slice none 0 0] p.threads.length,?_,by rw [size_madeCells];try simp⟩,aI Cv.out yp (fun b e=>by omega),ai xU.out yp (fun g hg e=>by have:=(xU.out.lt g hg).1;omega),fun b hb=>(xU.out.lt b hb).2,fun j r hj=>by omega,Pg,Kr,rfl,by simp only [aN,ar];omega⟩
  ·rw [aM,if_pos rfl,if_pos ZF]
  ·rw [aM,if_neg Za,zac _ _ ZF]
   exact zab _ _
  ·rw [aM,if_neg Za]
   exact aH (by simp only [ar])
 have Jn:=Zh A9
 clear A9
 go_loopw [39] (fun v39 wr=> ∃k:Nat,v39=iI k/\k<=p.threads.length/\Hid (PiW w #[.slice va p.vars.length vc,.slice ta p.threads.length tc] #[.slice (aA V.heap.size) p.threads.length p.threads.length,.slice (aA (V.heap.size+1)) p.threads.length p.threads.length,.slice ga T.1.length gc,iI T.2] S V.heap.size (V.heap.size+1) p.threads.length (.slice ga T.1.length gc) T.1 rs k wr)) (fun v39 _=>p.threads.length-(intOf v39).toNat)
 case atStart=>exact ⟨0,rfl,zaB _,Jn⟩
 case round=>
  obtain ⟨k,rfl,hk,HA⟩:=hrel
  clear Jn q0 Ks Mw Mv xU Cv
  have yK:=HA.out.s4
  by_cases zu:k<p.threads.length
  ·obtain ⟨tk,DD⟩: ∃tk,p.threads[k]?=some tk:=⟨p.threads[k],zaC zu⟩
   obtain ⟨r,Bk,J3⟩:=PZ.out k tk DD
   rw [zag] at J3
   have CC:=Zh (fun W (hW:Below w.heap.size w W)=>zD.out W hW k tk DD (aA V.heap.size) p.threads.length p.threads.length (.slice (aA (V.heap.size+1)) p.threads.length p.threads.length) (.slice ga T.1.length gc) T.2 zu Za T0 n5 Za r J3)
   have AK:=Zh Bk
   clear DD J3 Bk
   have q0:=aa HA.out.pb
   have q1:=aa HA.out.im
   go_wp2_with fail
   go_at_call 31
   refine (CC.out _ HA.out.bl).mono ?_
   rintro e3 w3 ⟨g1,c1,g2,c2,rfl,KD,Bc,AB⟩
   have Nx:=Zh (HA.out.below KD)
   have DJ:=KD.size
   clear KD q0 q1
   have Ct:=Zh (dL Bc (by omega:V.heap.size+1+1<=wr.heap.size))
   have z8:=Zh (dL AB (by omega:V.heap.size+1+1<=wr.heap.size))
   clear Bc AB HA CC
   have IS:Below w3.heap.size w3 (w3.alloc (.cells #[iI 0,iI 0] 34)):=ab (zaa _ _) _
   have Jm:=Zh (Nx.out.below IS)
   have HO1b:=Zh (ax Ct.out (fun g hg=>IS.block g (Ct.out.lt g hg).2))
   have HO2b:=Zh (ax z8.out (fun g hg=>IS.block g (z8.out.lt g hg).2))
   obtain ⟨⟨u1,yJ⟩,⟨u2,Ff⟩,ya,yM⟩:=Jm.out.cells zu
   have q1:=aa Jm.out.im
   clear IS Nx Ct z8
   have Rs:=Jm.out.s2
   have II:(k:Int)<p.threads.length:=by omega
   go_wp2_with fail
   generalize w3.alloc (.cells #[iI 0,iI 0] 34)=wa at*
   have hA: ∀i,wa.drew.cell? (aB S i)=(#[.slice (aA V.heap.size) p.threads.length p.threads.length,.slice (aA (V.heap.size+1)) p.threads.length p.threads.length,.slice ga T.1.length gc,iI T.2]:Array qV)[i]?:=q1
   have hB:True:=trivial
   refine ae (fun W=> ∀i,W.cell? (aB S i)=(#[.slice (aA V.heap.size) p.threads.length p.threads.length,.slice (aA (V.heap.size+1)) p.threads.length p.threads.length,.slice ga T.1.length gc,iI T.2]:Array qV)[i]?) (fun W=>True) 11 rfl ?_
   refine Zp 0 rfl (h:=Zt 1 rfl (h:=Zp 2 rfl (h:=Zp 3 rfl (h:=Zt 4 rfl (h:=Zp 5 rfl (h:=Zp 6 rfl (h:=Zp 7 rfl (h:=Zp 8 rfl (h:=?_)))))))));try simp only [Zq]
   refine Zs 9 rfl fun K hK=>?_
   go_simp
   have ye: ∀i,(wa.setCell ⟨V.heap.size,k,none⟩ (.slice (aA g1) r.1.length c1)).drew.cell? (aB S i)=(#[.slice (aA V.heap.size) p.threads.length p.threads.length,.slice (aA (V.heap.size+1)) p.threads.length p.threads.length,.slice ga T.1.length gc,iI T.2]:Array qV)[i]?:=fun i=>
    (zaH _ _ _ _ (fun e=>by have:=congrArg Addr.block e;simp only at this;omega)).trans (q1 i)
   refine hK _ _ ⟨ye,fun _=>trivial⟩ ?_
   clear hK K hA
   have hA:=ye
   have QQ:(wa.setCell ⟨V.heap.size,k,none⟩ (.slice (aA g1) r.1.length c1)).cell? ⟨V.heap.size+1,k,none⟩=some u2:=(zaH _ _ _ _ (fun e=>by have:=congrArg Addr.block e;simp only at this;omega)).trans Ff
   refine Zp 10 rfl (h:=?_);try simp only [Zq]
   refine Zs 11 rfl fun K hK=>?_
   go_simp
   refine hK _ _ ⟨fun i=>(zaH _ _ _ _ (fun e=>by have:=congrArg Addr.block e;simp only at this;omega)).trans (ye i),fun _=>trivial⟩ ?_
   clear hK K hA ye
   refine af Zb ?_ _
   go_wp2_with fail
   refine ⟨⟨k+1,by go_num,zu,Zh ?_⟩,by simp [intOf];omega⟩
   exact (Jm.out.step zu AK.out HO1b.out HO2b.out).below (fI (zaa _ _))
  ·obtain rfl:k=p.threads.length:=by omega
   obtain ⟨U,hU,HU⟩: ∃U,wr=putB (putB U (w.heap.size+1+1) #[iI 0,iI 0] 34) (w.heap.size+1) #[.slice none 0 0,.slice none 0 0,.slice none 0 0,iI 0] 31/\Hid (PiW w #[.slice va p.vars.length vc,.slice ta p.threads.length tc] #[.slice (aA V.heap.size) p.threads.length p.threads.length,.slice (aA (V.heap.size+1)) p.threads.length p.threads.length,.slice ga T.1.length gc,iI T.2] S V.heap.size (V.heap.size+1) p.threads.length (.slice ga T.1.length gc) T.1 rs p.threads.length U):=⟨wr,by rw [bE HA.out.r2,bE HA.out.r1],HA⟩
   clear HA yK
   subst hU
   have t4:=HU.out.s4
   have q1:=aa HU.out.im
   go_wp2_with fail
   (try simp only [Exit.inBlock,Exit.then]);refine zad (by simp [results,Tryz.results13,go_sem,↓IntWalk.iteOmega];try rfl) rfl ?_
   obtain ⟨x1,x2,x3,x4⟩:=HU.out.fin (((Kp.refl _ U).putB (k:=w.heap.size+1+1) (fun _=> .inr rfl) #[iI 0,iI 0] 34).putB (k:=w.heap.size+1) (fun _=> .inl rfl) #[.slice (aA V.heap.size) p.threads.length p.threads.length,.slice (aA (V.heap.size+1)) p.threads.length p.threads.length,.slice ga T.1.length gc,iI T.2] 31)
   have t2:=HU.out.s2
   unfold ImgR
   rw [HT.out]
   exact ⟨V.heap.size,_,rfl,x1,by omega,x2,x3,fun j r hr=>x4 j r (by have:=(List.getElem?_eq_some_iff.1 hr).1;omega) hr⟩
theorem PrgAt.any{w:qW}{ok:Nat->Prop}{v1 v2:qV}{p:PrgD}(h:PrgAt w ok v1 v2 p):PrgAt w okA v1 v2 p:=by
 have hk: ∀b,ok b->b<w.heap.size->okA b/\w.heap[b]?=w.heap[b]?:=fun b _ hl=>⟨trivial,rfl⟩
 refine ⟨h.vars.keep (zaq _) hk (fun _ _ _ h=>h),h.threads.keep (zaq _) hk (fun th _ cs ⟨v,e,hv⟩=>⟨v,e,hv.keep (zaq _) hk (fun x _ cs hx=>SmAt.keep (zaq _) hk 66 x cs hx)⟩)⟩
theorem TImg.kp{X:Nat->Prop}{W W':qW}{B gT gS k n:Nat}{r:ThI}(h:TImg W B gT gS k n r)(hk:Kp X W W')(hT: ¬X gT)(hS: ¬X gS)(h1:gT<W.heap.size)(h2:gS<W.heap.size)(hX: ∀b,X b->b<B):TImg W' B gT gS k n r:=by
 obtain ⟨a1,b1,a2,b2,f1,f2,f3,f4⟩:=h
 exact ⟨a1,b1,a2,b2,(hk.cell h1 hT).trans f1,(hk.cell h2 hS).trans f2,ai f3 hk (fun g hg e=>by have:=(f3.lt g hg).1;have:=hX g e;omega),ai f4 hk (fun g hg e=>by have:=(f4.lt g hg).1;have:=hX g e;omega)⟩
theorem lK(t:qB)(p:PrgD)(hp:pProg t=some (p,0,0))(hne:lexAll t≠ .inr [])(rs:List ThI)(hr:iProgB p=some rs)(w:qW)(yo:SpT w):
  qC 7 #[.string t] w (ImgR w p rs):=by
 have HP:=Zh (fun W (hW:Below w.heap.size w W)=>tV t p hp hne W (yo.below hW))
 have HI:=Zh (fun v1 v2 W (hs:SpT W) (h:PrgAt W okA v1 v2 p)=>tW p v1 v2 W hs h rs hr)
 clear hp hne hr
 go_enter Tryz.func7,Tryz.ntmps7
 go_wp2_with fail
 go_at_call 12
 refine (HP.out _ Zo).mono ?_
 rintro e1 w1 ⟨v1,v2,rfl,Av,I1⟩
 have I0:=I1.any
 obtain ⟨va,vc,rfl, -, -, -⟩:=I0.vars
 obtain ⟨ta,tc,rfl, -, -, -⟩:=I0.threads
 have Nm:=Zh I0
 have yK:=Av.size
 simp only [ar] at yK
 have yh:w1.heap[w.heap.size]?=some (.cells #[.slice none 0 0,.slice none 0 0,.slice none 0 0,.int .i64 0] 31 (0,0)):=by
  rw [Av.block _ ZF,zac _ _ ZF]
  exact zab _ _
 have yL:w1.heap[w.heap.size+1]?=some (.cells #[.int .i64 0,.int .i64 0] 34 (0,0)):=by
  rw [Av.block _ ZF]
  exact aH (by simp only [ar])
 have HB:=Zh (an (ab (ab (zaa _ _) _) _) Av ZF:Below w.heap.size w w1)
 have Cq:=Zh yh
 have AL:=Zh yL
 clear I1 Av yh yL I0
 go_wp2_with fail
 go_at_call 13
 have hq:Below w1.heap.size w1 ((w1.alloc (.cells #[.slice va p.vars.length vc,.slice ta p.threads.length tc] 59)).alloc (.cells #[.int .i64 0,.int .i64 0] 34)):=ab (ab (zaa _ _) _) _
 generalize (w1.alloc (.cells #[.slice va p.vars.length vc,.slice ta p.threads.length tc] 59)).alloc (.cells #[.int .i64 0,.int .i64 0] 34)=wq at*
 have QV:=hq.size
 refine (HI.out _ _ _ (yo.below (an HB.out hq HB.out.size)) (Nm.out.below hq)).mono ?_
 rintro e2 w2 ⟨gT,gv,rfl,yr,xy,Ag,yd,yV⟩
 have yH:=yr.size
 have Ab:=Zh (an HB.out (an hq yr Za:Below w1.heap.size w1 w2) Za)
 obtain ⟨U,hU,Mz,My,Mx,Rp⟩: ∃U,w2=putB (putB U (w.heap.size+1) #[.int .i64 0,.int .i64 0] 34) (w.heap.size) #[.slice none 0 0,.slice none 0 0,.slice none 0 0,.int .i64 0] 31/\Below w.heap.size w U/\U.ownsRow wq.heap.size 147 3 gv (mapV 0 p.vars).1.length ((mapV 0 p.vars).1.flatMap glC)/\(∀j r,rs[j]?=some r->TImg U (gT+2) gT (gT+1) j j r)/\gT+1<U.heap.size:=by
  refine ⟨w2,?_,Ab.out,yd,yV,Ag⟩
  rw [bE (k:=w.heap.size+1) (cs:=#[.int .i64 0,.int .i64 0]) (t:=34),bE (k:=w.heap.size)]
  ·exact (yr.block _ Za).trans ((hq.block _ Za).trans Cq.out)
  ·exact (yr.block _ Za).trans ((hq.block _ Za).trans AL.out)
 have Jc:=Zh My
 have PI:=Zh Mx
 have PJ:=Zh Mz
 clear yr yd yV HB Cq AL Nm My Mx Mz Ab Ag hq
 subst hU
 obtain ⟨gn,gf,DW⟩: ∃gn gf,gv= .slice gn (mapV 0 p.vars).1.length gf:=by
  obtain ⟨a,c,e, -⟩:=aC Jc.out
  exact ⟨a,c,e⟩
 obtain ⟨T,hT⟩: ∃T,mapV 0 p.vars=T:=⟨_,rfl⟩
 rw [hT] at DW Jc ⊢
 subst DW
 have HT:=Zh hT
 clear hT
 go_wp2_with fail
 (try simp only [Exit.inBlock,Exit.then]);refine zad (by simp [results,Tryz.results7,go_sem,↓IntWalk.iteOmega];try rfl) rfl ?_
 have hk:=((Kp.refl (fun b=>b=w.heap.size\/b=w.heap.size+1) U).putB (k:=w.heap.size+1) (fun _=> .inr rfl) #[.int .i64 0,.int .i64 0] 34).putB (k:=w.heap.size) (fun _=> .inl rfl) #[.slice (some ⟨gT,0,none⟩) p.threads.length p.threads.length,.slice (some ⟨gT+1,0,none⟩) p.threads.length p.threads.length,.slice gn T.1.length gf,.int .i64 T.2] 31
 have Q8:=hk.size
 unfold ImgR
 rw [HT.out]
 refine ⟨gT,_,rfl,aI PJ.out hk (fun b e=>by omega),by (try simp only [aN]);omega,by (try simp only [aN]);omega,dL (ai Jc.out hk (fun g hg e=>by have:=(Jc.out.lt g hg).1;omega)) Za,fun j r hr=>(PI.out j r hr).kp hk Za Za Za Za (fun b e=>by omega)⟩
theorem sN(p:Addr)(n c:Nat)(w:qW):(binOp BinOp.eql 70 (.slice (some p) n c) (.slice none 0 0)).run Tryz.prog w= .ok (.bool false) w:=by kernel_rfl
theorem yen(w:qW)(g c:Nat)(m0:Nat)(l:List (Int×Int))(h0:0<l.length)(hl:l.length<=200000)(hg:g<w.heap.size)(hR:RowC w g (l.flatMap (siteC m0)))(hc:l.length<=c)(yB:c<=9223372036854775807):qC 15 #[.slice (aA g) l.length c] w (fun e w'=> ∃g' c',e= .returned (.slice (aA g') l.length c')/\Below w.heap.size w w'/\w'.ownsRow w.heap.size 74 3 (.slice (aA g') l.length c') l.length (l.flatMap (siteC m0))):=by
 obtain ⟨i0,xF,xx,xu,xq⟩:=zan jL
 have xd:(l.flatMap (siteC m0)).length=l.length*3:=by
  clear h0 hl hR hc
  induction l with
  |nil=>rfl
  |cons x l ih=>rw [zaf,zaO,ih];simp [siteC];omega
 have h1: ∀u∈l.flatMap (siteC m0),u.oneCell'=true:=by
  intro u hu
  obtain ⟨x, -,hx⟩:=List.mem_flatMap.1 hu
  simp only [siteC,zaM,zaN,or_false] at hx
  rcases hx with rfl|rfl|rfl<;>rfl
 generalize DB:l.flatMap (siteC m0)=xs at*
 clear DB
 generalize l.length=n at*
 have HR:=Zh hR
 have H1:=Zh h1
 clear hR h1
 have AE:=sN ⟨g,0,none⟩ n c
 go_enter Tryz.func15,Tryz.ntmps15
 go_wp2_with (at_builtin;refine wpList_append_own_at (w:=w.alloc (.cells #[] 74)) (hgd:=rfl) (s:= .tmp 5) (x:= .tmp 6) (t:=70) (ho:=rfl) (base:=w.heap.size) (e:=74) (i:=i0) (z:=_) (size:=3) (bytes:=24) (ht:=Tryz.underlying70) (hi:=xF) (hz:=xx) (hsize:=xu) (hby:=xq) (hzs:=rfl) (hsz:=by decide) (v:= .slice (aA w.heap.size) 0 0) (n:=0) (xs:=[]) (hs:=rfl) (hown:=⟨rfl,.inr ⟨w.heap.size,0,#[],rfl,zaq _,zab _ _,zaq _,by unfold maxLen;omega,rfl,rfl⟩⟩) (ad:=⟨g,0,none⟩) (m:=n) (c:=c) (news:=xs) (hx:=rfl) (hl:=xd) (hnews:=fun j u hu=>by rw [bN];exact ((ab (zaa _ w) _).cell (p:=⟨g,j,none⟩) hg).trans (HR.out j u hu)) (h1:=H1.out) (h63:=by unfold maxLen;omega) (hbytes:=by omega) (hbase:=by simp [go_sem]) (h:=?_);intro v' w' h2 h3 _ h5;obtain ⟨g2,cap,rfl,_,xe⟩:=h2.form Za;have HO:=Zh h2;have HG:=Zh h3;clear h2 h3 h5)
 go_ret
 have ho:=HO.out
 simp only [zag,List.nil_append] at ho
 refine ⟨g2,cap,by simp,?_,ho⟩
 refine (ab (zaa w.heap.size w) (.cells #[] 74)).grown HG.out ZC (fun b hb=>?_)
 simp [Value.ownBlock] at hb
 omega
def thC(f:Nat->qV):Array qV:=((List.range 40).map f).toArray
@[go_sem] theorem dE(f:Nat->qV):(thC f).size=40:=by simp [thC]
@[go_sem] theorem cN(f:Nat->qV)(k:Nat):(thC f)[k]?=if k<40 then some (f k) else none:=by
 unfold thC
 by_cases h:k<40<;>simp [h]
@[go_sem] theorem yfI(f:Nat->qV)(k:Nat)(h:k<(thC f).size):(thC f)[k]'h=f k:=by
 have h2:=cN f k
 rw [dE] at h
 rw [if_pos h] at h2
 exact (Array.getElem?_eq_some_iff.mp h2).2
@[go_sem] theorem eg(f:Nat->qV)(k:Nat)(v:qV):(thC f).setIfInBounds k v=thC (upd f k v):=by
 apply Array.ext_getElem?
 intro j
 rw [zaT,dE]
 by_cases h:k=j
 ·subst h
  rw [if_pos rfl,cN]
  simp [upd]
 ·rw [if_neg h,cN,cN]
  unfold upd
  rw [if_neg (show¬j=k from fun e=>h e.symm)]
structure TD where
 code:List Ins
 sites:List (Int×Int)
 st:St
 prints:List Nat
 end_:Int
def thF(cv sv pv:qV)(t:TD)(k:Nat):qV:=if k=0 then cv else if k=1 then sv else if k<38 then t.st.f (k-2) else if k=38 then pv else iI t.end_
theorem pK(cv sv pv:qV)(t:TD){k:Nat}(h:k<36):thF cv sv pv t (k+2)=t.st.f k:=by
 unfold thF
 rw [if_neg Za,if_neg Za,if_pos Za]
 rfl
def aT(n:Nat):List qV:=[.int .u64 n]
def rOk(r:ThI):Bool:=decide (r.1.length=r.2.length)&&decide (0<r.1.length)&&decide (r.1.length<=100000)&&r.1.all (fun w=>decide (w<4294967296)&&(decF w).isSome&&!paB ((decF w).getD (Ins.zero 0)).op)
def codeOf(r:ThI):List Ins:=r.1.map (fun w=>(decF w).getD (Ins.zero 0))
def tdOf(r:ThI):TD:=⟨codeOf r,r.2,St.zero,[],0⟩
theorem km{r:ThI}(h:rOk r=true):r.1.length=r.2.length/\0<r.1.length/\r.1.length<=100000/\ ∀(k w:Nat),r.1[k]?=some w->w<4294967296/\ ∃i,decF w=some i/\(codeOf r)[k]?=some i/\paB i.op=false:=by
 unfold rOk at h
 simp only [za0,zau,List.all_eq_true,Bool.not_eq_true'] at h
 obtain ⟨⟨⟨h1,h2⟩,h3⟩,h4⟩:=h
 refine ⟨h1,h2,h3,fun k w hk=>?_⟩
 obtain ⟨⟨h5,h6⟩,h7⟩:=h4 w (zat hk)
 obtain ⟨i,hi⟩:=Option.isSome_iff_exists.1 h6
 rw [hi] at h7
 exact ⟨h5,i,hi,by simp [codeOf,hk,hi],h7⟩
def thR(t:TD):List Rw:=[⟨0,83,7,t.code.length,t.code.flatMap insC⟩,⟨38,52,1,t.prints.length,t.prints.flatMap aT⟩]
structure MtX(W:qW)(n b gs:Nat)(cv pv:qV)(sc:Nat)(t:TD):Prop where
 ob:Ob b 80 (thC (thF cv (.slice (aA gs) t.sites.length sc) pv t)) (thR t) W
 sr:RowC W gs (t.sites.flatMap (siteC n))
 sl:gs<W.heap.size
 sb:t.sites.length<=sc
theorem MtX.kp{X:Nat->Prop}{W W':qW}{n b gs sc:Nat}{cv pv:qV}{t:TD}(h:MtX W n b gs cv pv sc t)(hk:Kp X W W')(hX: ∀k,foot b (thC (thF cv (.slice (aA gs) t.sites.length sc) pv t)) (thR t) k-> ¬X k)(hg: ¬X gs):MtX W' n b gs cv pv sc t:=
 ⟨h.ob.kp hk hX,h.sr.kp hk h.sl hg,by have:=hk.size;have:=h.sl;omega,h.sb⟩
structure TK where
 b:Nat
 gs:Nat
 sc:Nat
 cv:qV
 pv:qV
def TK.foot(q:TK)(t:TD):Nat->Prop:=Go.Proofs.YtjmfoeajhiimnaaGreatDoor.foot q.b (thC (thF q.cv (.slice (aA q.gs) t.sites.length q.sc) q.pv t)) (thR t)
def aK(n:Nat):List qV:=[.int .u8 n]
def mcR(ks:List TK)(bytes:List Nat):List Rw:=[⟨0,71,1,ks.length,ks.flatMap (fun q=>[pP q.b])⟩,⟨1,5,1,bytes.length,bytes.flatMap aK⟩]
def mcC(tv bv:qV)(size taken:Int):Array qV:=#[tv,bv,iI size,iI taken]
structure McX(W:qW)(M:Nat)(tv bv:qV)(size taken:Int)(bytes:List Nat)(ts:List TD)(ks:List TK):Prop where
 len:ks.length=ts.length
 ob:Ob M 65 (mcC tv bv size taken) (mcR ks bytes) W
 th: ∀(n:Nat) (q:TK) (t:TD),ks[n]?=some q->ts[n]?=some t->MtX W n q.b q.gs q.cv q.pv q.sc t
 lo: ∀(n:Nat) (q:TK) (t:TD),ks[n]?=some q->ts[n]?=some t->M<q.b/\M<q.gs
 ap: ∀(n:Nat) (q:TK) (t:TD) (m:Nat) (p:TK) (u:TD),ks[n]?=some q->ts[n]?=some t->ks[m]?=some p->ts[m]?=some u->n≠m-> ∀b,q.foot t b-> ¬p.foot u b
 gp: ∀(n:Nat) (q:TK) (t:TD) (m:Nat) (p:TK) (u:TD),ks[n]?=some q->ts[n]?=some t->ks[m]?=some p->ts[m]?=some u-> ¬q.foot t p.gs
 mp: ∀(n:Nat) (q:TK) (t:TD),ks[n]?=some q->ts[n]?=some t->(∀b,Go.Proofs.YtjmfoeajhiimnaaGreatDoor.foot M (mcC tv bv size taken) (mcR ks bytes) b-> ¬q.foot t b)/\ ¬Go.Proofs.YtjmfoeajhiimnaaGreatDoor.foot M (mcC tv bv size taken) (mcR ks bytes) q.gs
theorem McX.kp{X:Nat->Prop}{W W':qW}{M:Nat}{tv bv:qV}{size taken:Int}{bytes:List Nat}{ts:List TD}{ks:List TK}(h:McX W M tv bv size taken bytes ts ks)(hk:Kp X W W')(hX: ∀b,X b->b<M):McX W' M tv bv size taken bytes ts ks:=by
 refine ⟨h.len,h.ob.kp hk (fun k hf hx=>by have:=(h.ob.foot_lt hf).1;have:=hX k hx;omega),fun n q t hq ht=>?_,h.lo,h.ap,h.gp,h.mp⟩
 have hm:=h.th n q t hq ht
 have hl:=h.lo n q t hq ht
 exact hm.kp hk (fun k hf hx=>by have:=(hm.ob.foot_lt hf).1;have:=hX k hx;omega) (fun hx=>by have:=hX _ hx;omega)
theorem me:(Tryz.prog.info? 80).map (·.size)=some 40:=by kernel_rfl
variable{W:qW}{M:Nat}{tv bv:qV}{size taken:Int}{bytes:List Nat}{ts:List TD}{ks:List TK}
theorem eH{α:Type}(f:α->qV): ∀(l:List α) (n:Nat) (x:α),l[n]?=some x->(l.flatMap (fun q=>[f q]))[n]?=some (f x)
 |[],n,x,h=>by simp at h
 |y::l,0,x,h=>by simp at h;simp [h]
 |y::l,n+1,x,h=>by
  simp only [zaf]
  rw [zai Zg]
  simpa using eH f l n x (by simpa using h)
theorem McX.row(h:McX W M tv bv size taken bytes ts ks)(hk:0<ks.length): ∃g c,tv= .slice (aA g) ks.length c/\ks.length<=c/\g<W.heap.size/\ ∀(n:Nat) (q:TK),ks[n]?=some q->W.cell? (aB g n)=some (pP q.b):=by
 have ho:=h.ob.own ⟨0,71,1,ks.length,ks.flatMap (fun q=>[pP q.b])⟩ (by simp [mcR])
 simp only [fld,mcC] at ho
 have ho:W.ownsRow (M+1) 71 1 tv ks.length (ks.flatMap (fun q=>[pP q.b])):=ho
 obtain ⟨a,c,rfl,h1, -, -, -⟩:=aC ho
 obtain ⟨g,rfl⟩:=cz ho hk
 exact ⟨g,c,rfl,h1,(ho.lt g rfl).2,fun n q hq=>bT ho n _ (eH (fun q:TK=>pP q.b) ks n q hq)⟩
theorem McX.cells(h:McX W M tv bv size taken bytes ts ks): ∀i,W.cell? (aB M i)=(mcC tv bv size taken)[i]?:=aa h.ob.out
theorem yfa(h:McX W M tv bv size taken bytes ts ks)(n:Nat)(q:TK)(hq:ks[n]?=some q):qC 33 #[pP M,iI n] W fun e w'=>e= .returned (pP q.b)/\w'=W:=by
 have hn:=(List.getElem?_eq_some_iff.1 hq).1
 obtain ⟨g,c,rfl,hc,hg,xn⟩:=h.row Za
 have q0:=h.cells
 unfold mcC at q0
 have q1:=xn n q hq
 have yS:(n:Int)<ks.length:=by omega
 clear h xn hq
 go_enter Tryz.func33,Tryz.ntmps33
 go_wp2_with fail
 go_ret
 exact ⟨rfl,rfl⟩
variable{n b gs sc:Nat}{cv pv:qV}{t:TD}
theorem MtX.cell(h:MtX W n b gs cv pv sc t)(k:Nat)(hk:k<40):W.cell? (aB b k)=some (thF cv (.slice (aA gs) t.sites.length sc) pv t k):=by
 rw [aa h.ob.out k,cN,if_pos hk]
theorem MtX.st(h:MtX W n b gs cv pv sc t)(k:Nat)(hk:k<36):W.cell? ⟨b,k+2,none⟩=some (t.st.f k):=by
 rw [h.cell (k+2) Za,pK _ _ _ _ hk]
theorem MtX.code(h:MtX W n b gs cv pv sc t): ∃a c,cv= .slice a t.code.length c/\t.code.length<=c/\W.ownsRow (b+1) 83 7 (.slice a t.code.length c) t.code.length (t.code.flatMap insC):=by
 have ho:W.ownsRow (b+1) 83 7 cv t.code.length (t.code.flatMap insC):=h.ob.own ⟨0,83,7,t.code.length,t.code.flatMap insC⟩ (by simp [thR])
 obtain ⟨a,c,rfl,h1, -, -, -⟩:=aC ho
 exact ⟨a,c,rfl,h1,ho⟩
theorem mh(h:MtX W n b gs cv pv sc t):qC 99 #[pP b] W fun e w'=>e= .returned (.bool (decide (0<=t.st.pc)&&decide (t.st.pc<t.code.length)))/\w'=W.drew:=by
 have q33:W.cell? (aB b 33)=some (iI t.st.pc):=h.st 31 Za
 obtain ⟨a,c,rfl,hc, -⟩:=h.code
 have q0:W.cell? (aB b 0)=some (.slice a t.code.length c):=h.cell 0 Za
 clear h
 go_enter Tryz.func99,Tryz.ntmps99
 have hA:W.drew.cell? (aB b 33)=some (iI t.st.pc)/\W.drew.cell? (aB b 0)=some (.slice a t.code.length c):=⟨q33,q0⟩
 have hB:True:=trivial
 by_cases h1:0<=t.st.pc
 ·have h2:decide (0<=t.st.pc)=true:=by simpa using h1
  go_wp2_with fail
  refine ae (fun W=>W.cell? (aB b 33)=some (iI t.st.pc)/\W.cell? (aB b 0)=some (.slice a t.code.length c)) (fun W=>True) 19 rfl ?_
  refine Zp 0 rfl (h:=Zp 1 rfl (h:=Zp 2 rfl (h:=?_)));try simp only [Zq]
  refine Zp 3 rfl (h:=Zt 4 rfl (h:=Zp 5 rfl (h:=?_)));try simp only [Zq]
  refine Zp 6 rfl (h:=Zp 7 rfl (h:=Zp 8 rfl (h:=?_)));try simp only [Zq]
  refine Zp 9 rfl (h:=Zp 10 rfl (h:=Zt 11 rfl (h:=?_)));try simp only [Zq]
  refine Zp 12 rfl (h:=Zp 13 rfl (h:=Zp 14 rfl (h:=?_)));try simp only [Zq]
  refine Zt 15 rfl (h:=Zp 16 rfl (h:=Zp 17 rfl (h:=?_)));try simp only [Zq]
  refine Zp 18 rfl (h:=?_);try simp only [Zq]
  refine Zs 19 rfl fun K hK=>?_
  go_simp
  refine hK _ _ ⟨hA,fun _=>trivial⟩ ?_
  clear hK K
  refine af Zb ?_ _
  go_wp2_with fail
  go_ret
  exact ⟨by simp [h1],rfl⟩
 ·have h2:decide (0<=t.st.pc)=false:=by simpa using h1
  have h3:t.st.pc<0:=by omega
  go_wp2_with fail
  refine ae (fun W=>W.cell? (aB b 33)=some (iI t.st.pc)/\W.cell? (aB b 0)=some (.slice a t.code.length c)) (fun W=>True) 19 rfl ?_
  refine Zp 0 rfl (h:=Zp 1 rfl (h:=Zp 2 rfl (h:=?_)));try simp only [Zq]
  refine Zp 3 rfl (h:=Zt 4 rfl (h:=Zp 5 rfl (h:=?_)));try simp only [Zq]
  refine Zp 6 rfl (h:=Zn 7 rfl (h:=?_));try simp only [Zq]
  refine Zn 8 rfl (h:=Zn 9 rfl (h:=?_));try simp only [Zq]
  refine Zn 10 rfl (h:=Zn 11 rfl (h:=?_));try simp only [Zq]
  refine Zn 12 rfl (h:=Zn 13 rfl (h:=?_));try simp only [Zq]
  refine Zn 14 rfl (h:=Zn 15 rfl (h:=?_));try simp only [Zq]
  refine Zn 16 rfl (h:=Zn 17 rfl (h:=Zp 18 rfl (h:=?_)));try simp only [Zq]
  refine Zs 19 rfl fun K hK=>?_
  go_simp
  refine hK _ _ ⟨hA,fun _=>trivial⟩ ?_
  clear hK K
  refine af Zb ?_ _
  go_wp2_with fail
  go_ret
  exact ⟨by simp [h1];omega,rfl⟩
end Go.Proofs.YtjmfoeajhiimnaaGreatDoor
