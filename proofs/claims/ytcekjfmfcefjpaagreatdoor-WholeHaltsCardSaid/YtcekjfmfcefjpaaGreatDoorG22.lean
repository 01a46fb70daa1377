/- Walks. No condition. -/
import Derived.Test.YtcekjfmfcefjpaaGreatDoorG21
set_option maxRecDepth 100000
set_option maxHeartbeats 0
set_option linter.all false
namespace Go.Proofs.YtcekjfmfcefjpaaGreatDoor
open Go.RowKit Go.Sort
theorem fV(P:Program)(t:TypeId)(p:Addr)(s m:String)(w:qW):(Builtin.ssaWrapNilChk_ #[t] t #[.pointer (some p),strVal s,strVal m]).run P w= .ok (.pointer (some p)) w:=rfl
theorem jW(k : Nat)(w : qW)(M : Nat)(a : Option Addr)(n c : Nat)(hc : w.cell? (aB M 1) = some (.slice a n c)) : (Go.method (k + 1) 296 (.pointer (some ⟨M, 1, none⟩)) "Less").run Tryz.prog w = .ok (325, .slice a n c) w := by
 have hm : (Tryz.prog.info? 296).map (fun i => (i.methods.find? (·.name == "Less")).map (fun m => (m.path, m.func))) = some (some (#[], some (325, false))) := by kernel_rfl
 rw [za1] at hm
 obtain ⟨i,hi,hm⟩:=hm
 rw [za1] at hm
 obtain ⟨m,hm,he⟩:=hm
 simp only [Prod.mk.injEq] at he
 have hu:=Tryz.underlying296
 have E5:=Tryz.underlying242
 unfold Go.method
 simp [go_sem,typeInfo,hi,hm,he.1,he.2,follow,receiverAt,Place.get,hu,fV,hc]
theorem jX(k : Nat)(w : qW)(M : Nat)(a : Option Addr)(n c : Nat)(hc : w.cell? (aB M 1) = some (.slice a n c)) : (Go.method (k + 1) 296 (.pointer (some ⟨M, 1, none⟩)) "Len").run Tryz.prog w = .ok (324, .slice a n c) w := by
 have hm : (Tryz.prog.info? 296).map (fun i => (i.methods.find? (·.name == "Len")).map (fun m => (m.path, m.func))) = some (some (#[], some (324, false))) := by kernel_rfl
 rw [za1] at hm
 obtain ⟨i,hi,hm⟩:=hm
 rw [za1] at hm
 obtain ⟨m,hm,he⟩:=hm
 simp only [Prod.mk.injEq] at he
 have hu:=Tryz.underlying296
 have E5:=Tryz.underlying242
 unfold Go.method
 simp [go_sem,typeInfo,hi,hm,he.1,he.2,follow,receiverAt,Place.get,hu,fV,hc]
theorem f9(k : Nat)(w : qW)(M : Nat)(a : Option Addr)(n c : Nat)(hc : w.cell? (aB M 1) = some (.slice a n c)) : (Go.method (k + 1) 296 (.pointer (some ⟨M, 1, none⟩)) "Swap").run Tryz.prog w = .ok (326, .slice a n c) w := by
 have hm : (Tryz.prog.info? 296).map (fun i => (i.methods.find? (·.name == "Swap")).map (fun m => (m.path, m.func))) = some (some (#[], some (326, false))) := by kernel_rfl
 rw [za1] at hm
 obtain ⟨i,hi,hm⟩:=hm
 rw [za1] at hm
 obtain ⟨m,hm,he⟩:=hm
 simp only [Prod.mk.injEq] at he
 have hu:=Tryz.underlying296
 have E5:=Tryz.underlying242
 unfold Go.method
 simp [go_sem,typeInfo,hi,hm,he.1,he.2,follow,receiverAt,Place.get,hu,fV,hc]
def bzC(b:Int×Int):List qV:=[iI b.1,iI b.2]
theorem dw{w:qW}{B n c g:Nat}{e:TypeId}{q:List (Int×Int)}(h:w.ownsRow B e 2 (.slice (aA g) n c) n (q.flatMap bzC)){i:Nat}{y:Int×Int}(hy:q[i]?=some y):w.cell? ⟨g,i*2,none⟩=some (iI y.1)/\w.cell? ⟨g,i*2+1,none⟩=some (iI y.2):=by
 have h0:=h.cells (g:=g) rfl (i*2+0) _ (by rw [bG (f:=bzC) (z:=2) (fun _=>rfl) hy 0 Za];rfl)
 have h1:=h.cells (g:=g) rfl (i*2+1) _ (by rw [bG (f:=bzC) (z:=2) (fun _=>rfl) hy 1 Za];rfl)
 rw [bK] at h0 h1
 exact ⟨h0,h1⟩
theorem cH{w:qW}{B n c g s:Nat}{e:TypeId}{xs:List qV}(h:w.ownsRow B e s (.slice (aA g) n c) n xs)(i:Nat):w.frozen? (aB g i)=false:=by
 rcases h.2 with ⟨e1, -⟩|⟨g1,cap,cur,e1,h2,h3,h4,h5,h6,h7⟩
 ·cases e1
 ·injection e1 with e1
  obtain rfl:g=g1:=by simpa using e1
  exact ai h3 i
theorem dG{q:List (Int×Int)}{i:Nat}(hi:i<q.length):q[i]?=some (qGet q i):=by
 unfold qGet
 rw [zaU,zaC hi]
 rfl
theorem lM(w:qW)(a:Option Addr)(n c:Nat):qC 324 #[.slice a n c] w (Gives w (iI n)):=by
 go_enter Tryz.func324,Tryz.ntmps324
 go_wp2_with fail
 go_ret
 exact Gives.mk rfl (zaa _ _)
theorem lK(w:qW)(g c:Nat)(q:List (Int×Int)){B:Nat}{e:TypeId}(h:w.ownsRow B e 2 (.slice (aA g) q.length c) q.length (q.flatMap bzC))(i j:Nat)(hi:i<q.length)(hj:j<q.length):qC 325 #[.slice (aA g) q.length c,iI i,iI j] w (Gives w (.bool (qLess q i j))):=by
 have zF:=(dw h (dG hi)).1
 have zQ:=(dw h (dG hj)).1
 have Dm:=(az h)
 obtain ⟨_,c2,e2,Bu,yr, -⟩:=Dm
 have Ai:q.length<=9223372036854775807:=by omega
 clear h e2
 unfold qLess
 generalize qGet q i=x at*
 generalize qGet q j=y at*
 generalize q.length=n at*
 go_enter Tryz.func325,Tryz.ntmps325
 go_wp2_with fail
 refine ae (fun W=>W.cell? ⟨g,i*2,none⟩=some (iI x.1)/\W.cell? ⟨g,j*2,none⟩=some (iI y.1)) (fun W=>True) 11 rfl ?_
 have hA:w.drew.cell? ⟨g,i*2,none⟩=some (iI x.1)/\w.drew.cell? ⟨g,j*2,none⟩=some (iI y.1):=⟨zF,zQ⟩
 have hB:True:=trivial
 refine Zp 0 rfl (h:=Zp 1 rfl (h:=Zp 2 rfl (h:=Zp 3 rfl (h:=Zt 4 rfl (h:=Zp 5 rfl (h:=Zp 6 rfl (h:=Zp 7 rfl (h:=Zp 8 rfl (h:=Zt 9 rfl (h:=Zp 10 rfl (h:=?_)))))))))));try simp only [Zq]
 refine Zs 11 rfl fun K hK=>?_
 go_simp
 refine hK _ _ ⟨hA,fun _=>trivial⟩ ?_
 clear hK K
 refine af Zb ?_ _
 go_wp2_with fail
 go_ret
 exact Gives.mk rfl Zv
def QuD(w:qW)(M g c n:Nat)(q':List (Int×Int))(r:qV)(e:Ending)(w':qW):Prop:=
 e= .returned r/\Kp (fun k=>k=g) w w'/\w'.ownsRow (M+1) 294 2 (.slice (aA g) n c) n (q'.flatMap bzC)
theorem nB(q:List (Int×Int))(i:Nat)(hi:i<q.length)(x:Int×Int):((q.flatMap bzC).set (i*2) (iI x.1)).set (i*2+1) (iI x.2)=(q.set i x).flatMap bzC:=by
 have h1:=dl (f:=bzC) (z:=2) (fun _=>rfl) (0,0) q i 0 (x.1,(q.getD i (0,0)).2) (iI x.1) hi Za rfl
 have h2:=dl (f:=bzC) (z:=2) (fun _=>rfl) (0,0) (q.set i (x.1,(q.getD i (0,0)).2)) i 1 x (iI x.2) (by simpa using hi) Za (by simp [hi,bzC])
 rw [Nat.add_zero] at h1
 rw [<-h1,<-h2]
 simp
theorem bP(q:List (Int×Int))(i j:Nat):(qSwap q i j).length=q.length:=by simp [qSwap]
theorem fQ(w:qW)(M g c:Nat)(q:List (Int×Int))(h:w.ownsRow (M+1) 294 2 (.slice (aA g) q.length c) q.length (q.flatMap bzC))(i j:Nat)(hi:i<q.length)(hj:j<q.length):qC 326 #[.slice (aA g) q.length c,iI i,iI j] w (QuD w M g c q.length (qSwap q i j) (.tuple #[])):=by
 have zF:=dw h (dG hi)
 have zQ:=dw h (dG hj)
 obtain ⟨_,c2,e2,Bu,yr, -⟩:=(az h)
 have Ai:q.length<=9223372036854775807:=by omega
 have hf:=cH h
 have HO:=Zh h
 have xY:=(h.lt g rfl).2
 clear h e2
 have hres:Hid (qSwap q i j=(q.set i (qGet q j)).set j (qGet q i)):=Zh rfl
 generalize hx:qGet q i=x at*
 generalize hy:qGet q j=y at*
 clear hx hy
 generalize hn:q.length=n at*
 go_enter Tryz.func326,Tryz.ntmps326
 go_wp2_with fail
 refine ae (fun W=>True) (fun W=>(W.cell? ⟨g,i*2,none⟩=some (iI x.1)/\W.cell? ⟨g,i*2+1,none⟩=some (iI x.2))/\W.cell? ⟨g,j*2,none⟩=some (iI y.1)/\W.cell? ⟨g,j*2+1,none⟩=some (iI y.2)) 13 rfl ?_
 have hA:True:=trivial
 have hB:(w.drew.cell? ⟨g,i*2,none⟩=some (iI x.1)/\w.drew.cell? ⟨g,i*2+1,none⟩=some (iI x.2))/\w.drew.cell? ⟨g,j*2,none⟩=some (iI y.1)/\w.drew.cell? ⟨g,j*2+1,none⟩=some (iI y.2):=⟨zF,zQ⟩
 refine Zp 0 rfl (h:=Zp 1 rfl (h:=Zp 2 rfl (h:=Zp 3 rfl (h:=Zp 4 rfl (h:=Zp 5 rfl (h:=Zp 6 rfl (h:=Zl 7 [13] rfl (h:=Zp 8 rfl (h:=Zp 9 rfl (h:=Zp 10 rfl (h:=Zl 11 [13] rfl (h:=Zp 12 rfl (h:=?_)))))))))))));try simp only [Zq]
 refine Zs 13 rfl fun K hK=>?_
 have yR:=Zh (aw (w':=((w.setCell ⟨g,i*2,none⟩ (iI y.1)).setCell ⟨g,i*2+1,none⟩ (iI y.2)).drew) (bE (bE HO.out (i*2) Za (iI y.1)) (i*2+1) Za (iI y.2)) (fun _ _=>rfl))
 have zH:=Zh ((Kp.set w g (i*2) (iI y.1)).trans ((Kp.set (w.setCell ⟨g,i*2,none⟩ (iI y.1)) g (i*2+1) (iI y.2)).trans (Kp.dr _)))
 go_simp
 refine hK _ _ ⟨trivial,fun hh=>Bool.noConfusion (hh.symm.trans (show _=true by kernel_rfl))⟩ ?_
 clear hK K hA hB zF zQ hf
 generalize ((w.setCell ⟨g,i*2,none⟩ (iI y.1)).setCell ⟨g,i*2+1,none⟩ (iI y.2)).drew=W at yR zH ⊢
 replace yR:=Zh (nB q i Za y ▸ yR.out)
 have Fc:=dw yR.out (dG (q:=q.set i y) (i:=j) Zk)
 have hf:=cH yR.out
 have hA:True:=trivial
 have hB:True:=trivial
 have FC:=Zh (bE (bE yR.out (j*2) Za (iI x.1)) (j*2+1) Za (iI x.2))
 have zM:=Zh ((Kp.set W g (j*2) (iI x.1)).trans (Kp.set (W.setCell ⟨g,j*2,none⟩ (iI x.1)) g (j*2+1) (iI x.2)))
 refine cX 14 (v:=?_) rfl Zb Zb Zb (fun _ _ _ h=>h) Zg Zb (Or.inl ⟨by rfl,?_⟩) ⟨trivial,fun hh=>Bool.noConfusion (hh.symm.trans (show _=true by kernel_rfl))⟩ ?_
 rotate_left 1
 ·intro W hW;go_simp;(try with_reducible rfl)
 try simp only [Zq]
 refine Zs 15 rfl fun K hK=>?_
 go_simp
 refine hK _ _ ⟨trivial,fun hh=>Bool.noConfusion (hh.symm.trans (show _=true by kernel_rfl))⟩ ?_
 clear hK K
 refine af Zb ?_ _
 go_wp2_with fail
 go_end0
 refine ⟨rfl,zH.out.trans zM.out,?_⟩
 have:=FC.out
 rw [nB _ j Zk x] at this
 rw [hres.out]
 exact this
theorem Ob.turn{M:Nat}{t:TypeId}{cs:Array qV}{rs:List Rw}{W W2:qW}(h:Ob M t cs rs W){r:Rw}(hr:r∈rs)(hk:Kp (fun k=>(fld cs r.ix).ownBlock=some k) W W2){xs':List qV}(hown:W2.ownsRow (M+1) r.e r.sz (fld cs r.ix) r.n xs'):
  Ob M t cs (rs.map (fun q=>if q.ix=r.ix then {q with xs:=xs'} else q)) W2:=by
 have Ay: ∀q∈rs,q.ix=r.ix->q=r:=fun q hq e=>by
  obtain ⟨a,ha,rfl⟩:=zaP hq
  obtain ⟨b,hb,rfl⟩:=zaP hr
  rcases Nat.lt_trichotomy a b with hl|rfl|hl
  ·exact absurd e (List.pairwise_iff_getElem.1 h.ix a b ha hb hl)
  ·rfl
  ·exact absurd e.symm (List.pairwise_iff_getElem.1 h.ix b a hb ha hl)
 refine ⟨(hk.block M h.lt (fun e=>by have:=((h.own r hr).lt M e).1;omega)).trans h.out,?_,?_,?_⟩
 ·intro q hq
  obtain ⟨q0,yC,rfl⟩:=List.mem_map.1 hq
  by_cases he:q0.ix=r.ix
  ·obtain rfl:=Ay q0 yC he
   simp only [if_true]
   exact hown
  ·simp only [if_neg he]
   exact ah (h.own q0 yC) hk (fun k wT e=>h.apart q0 yC r hr he k wT e)
 ·rw [List.pairwise_map]
  refine h.ix.imp (fun {a b} GN=>?_)
  split<;>split<;>simpa using GN
 ·intro q hq q' De hne k hk
  obtain ⟨q0,yC,rfl⟩:=List.mem_map.1 hq
  obtain ⟨q1,zF,rfl⟩:=List.mem_map.1 De
  have e0: ∀x:Rw,(if x.ix=r.ix then {x with xs:=xs'} else x).ix=x.ix:=fun x=>by split<;>rfl
  rw [e0] at hk hne ⊢
  rw [e0] at hne
  exact h.apart q0 yC q1 zF hne k hk
def poC(fv uv:qV)(P:Pool):Array qV:=#[fv,uv,iI P.next,iI P.most]
def poR(P:Pool):List Rw:=[⟨0,3,1,P.free.length,P.free.flatMap numC⟩,⟨1,294,2,P.used.length,P.used.flatMap bzC⟩]
structure PFin(P:Pool):Prop where
 free:P.free.length<=2000
 used:P.used.length<=2000
 next:0<=P.next/\P.next<=2000
 most:0<=P.most/\P.most<=2000
structure PoX(w0:qW)(M:Nat)(F:Nat->Prop)(fv uv:qV)(W:qW)(P:Pool):Prop where
 ob:Ob M 244 (poC fv uv P) (poR P) W
 ft: ∀k,F k↔foot M (poC fv uv P) (poR P) k
 bl:Below w0.heap.size w0 W
 le:w0.heap.size<=M
 fin:PFin P
def Po(w0:qW)(M:Nat)(F:Nat->Prop)(W:qW)(P:Pool):Prop:= ∃fv uv,PoX w0 M F fv uv W P
section
variable{w0 W W' w:qW}{M:Nat}{F F1:Nat->Prop}{fv uv:qV}{P:Pool}
theorem PoX.bd(h:PoX w0 M F fv uv W P):w0.heap.size<=M/\M<W.heap.size:=⟨h.le,h.ob.lt⟩
theorem PoX.inb(h:PoX w0 M F fv uv W P){k:Nat}(hk:F k):w0.heap.size<=k/\k<W.heap.size:=by
 have h1:=h.ob.foot_lt ((h.ft k).1 hk)
 have:=h.le
 exact ⟨by omega,h1.2⟩
theorem PoX.inF(h:PoX w0 M F fv uv W P):F M:=(h.ft M).2 (.inl rfl)
theorem Po.bd(h:Po w0 M F W P):w0.heap.size<=M/\M<W.heap.size:=by
 obtain ⟨_,_,h⟩:=h
 exact h.bd
theorem Po.inb(h:Po w0 M F W P){k:Nat}(hk:F k):w0.heap.size<=k/\k<W.heap.size:=by
 obtain ⟨_,_,h⟩:=h
 exact h.inb hk
theorem PoX.rules(h:PoX w0 M F fv uv W P):(∀b i,W.cell? (aB b i)=if b<w0.heap.size then w0.cell? (aB b i) else if b=M then (#[fv,uv,iI P.next,iI P.most]:Array qV)[i]? else cellW W ⟨b,i,none⟩)/\
  (∀b i,W.frozen? (aB b i)=if b<w0.heap.size then w0.frozen? (aB b i) else if b=M then false else frzW W ⟨b,i,none⟩):=⟨eG h.ob.out h.bl,ez h.ob.out h.bl⟩
theorem PoX.kp{X:Nat->Prop}(h:PoX w0 M F fv uv W P)(hk:Kp X W W')(hb:Below w0.heap.size w0 W')(hX: ∀k,F k-> ¬X k):PoX w0 M F fv uv W' P:=
 ⟨h.ob.kp hk (fun k hf=>hX k ((h.ft k).2 hf)),h.ft,hb,h.le,h.fin⟩
theorem Po.kp{X:Nat->Prop}(h:Po w0 M F W P)(hk:Kp X W W')(hb:Below w0.heap.size w0 W')(hX: ∀k,F k-> ¬X k):Po w0 M F W' P:=by
 obtain ⟨fv,uv,h⟩:=h
 exact ⟨fv,uv,h.kp hk hb hX⟩
theorem PoX.below(h:PoX w0 M F fv uv W P)(hb:Below W.heap.size W W'):PoX w0 M F fv uv W' P:=
 h.kp (X:=fun _=>False) (Kp.of_below hb) (ar h.bl hb h.bl.size) (fun _ _=>id)
theorem Po.below(h:Po w0 M F W P)(hb:Below W.heap.size W W'):Po w0 M F W' P:=by
 obtain ⟨fv,uv,h⟩:=h
 exact ⟨fv,uv,h.below hb⟩
theorem Po.bl(h:Po w0 M F W P):Below w0.heap.size w0 W:=by
 obtain ⟨_,_,h⟩:=h
 exact h.bl
theorem PoX.own0(h:PoX w0 M F fv uv W P):W.ownsRow (M+1) 3 1 fv P.free.length (P.free.flatMap numC):=h.ob.own _ (.head _)
theorem PoX.own1(h:PoX w0 M F fv uv W P):W.ownsRow (M+1) 294 2 uv P.used.length (P.used.flatMap bzC):=h.ob.own _ (.tail _ (.head _))
theorem aH{X:Nat->Prop}(hb:Below w0.heap.size w0 W)(hk:Kp X W W')(hX: ∀k,X k->w0.heap.size<=k):Below w0.heap.size w0 W':=
 ⟨hk.os.trans hb.os,hk.tape.trans hb.tape,hk.output.trans hb.output,zal hb.size hk.size,fun k hl=>(hk.block k (by have:=hb.size;omega) (fun e=>by have:=hX k e;omega)).trans (hb.block k hl)⟩
theorem PoX.quD{g c:Nat}{q':List (Int×Int)}{r:qV}{e:Ending}{W2:qW}(h:PoX w0 M F fv (.slice (aA g) P.used.length c) W P)(hD:QuD W M g c P.used.length q' r e W2)(hl:q'.length=P.used.length):PoX w0 M F fv (.slice (aA g) P.used.length c) W2 {P with used:=q'}:=by
 obtain ⟨-,hk,ho⟩:=hD
 have hF:F g:=(h.ft g).2 (.inr ⟨_,.tail _ (.head _),rfl⟩)
 have hb:=h.ob.turn (r:=⟨1,294,2,P.used.length,P.used.flatMap bzC⟩) (.tail _ (.head _)) (hk.mono (fun k _ e=>by rw [e];rfl)) ho
 have e2:(poR P).map (fun q=>if q.ix=1 then {q with xs:=q'.flatMap bzC} else q)=poR {P with used:=q'}:=by simp [poR,hl]
 rw [e2] at hb
 refine ⟨hb,fun k=>?_,aH h.bl hk (fun k e=>e ▸ (h.inb hF).1),h.le,⟨h.fin.free,by rw [hl];exact h.fin.used,h.fin.next,h.fin.most⟩⟩
 rw [h.ft]
 refine or_congr Iff.rfl ⟨?_,?_⟩
 all_goals
  rintro ⟨r,hr,hk⟩
  simp only [poR,zaM,zaN,or_false] at hr
  rcases hr with rfl|rfl
  ·exact ⟨_,.head _,hk⟩
  ·exact ⟨_,.tail _ (.head _),hk⟩
structure PoA(w0:qW)(M:Nat)(F:Nat->Prop)(w W:qW)(F1:Nat->Prop)(P:Pool):Prop where
 po:Po w0 M F1 W P
 kp:Kp F w W
 rel:Rq F F1 w.heap.size
def PoD(w0:qW)(M:Nat)(F:Nat->Prop)(w:qW)(P':Pool)(r:qV)(e:Ending)(w':qW):Prop:=
 e= .returned r/\ ∃F',Po w0 M F' w' P'/\Kp F w w'/\Rq F F' w.heap.size
theorem PoA.begin(h:Po w0 M F w P):PoA w0 M F w w F P:=⟨h,Kp.refl _ _,Rq.refl _ _⟩
theorem PoA.bel(h:PoA w0 M F w W F1 P)(hb:Below W.heap.size W W'):PoA w0 M F w W' F1 P:=
 ⟨h.po.below hb,h.kp.next (Kp.of_below (X:=fun _=>False) hb) (fun _ _ e=>e.elim),h.rel⟩
theorem PoA.nextb{P2:Pool}{r:qV}{e:Ending}{w1:qW}(h:PoA w0 M F w W F1 P)(hb:Below W.heap.size W W')(hD:PoD w0 M F1 W' P2 r e w1): ∃F2,PoA w0 M F w w1 F2 P2/\Kp F1 W w1/\Rq F1 F2 W.heap.size:=by
 obtain ⟨-,F2,h1,h2,h3⟩:=hD
 have hz:=h.kp.size
 have xk:=hb.size
 have Bx:Kp F1 W w1:=(Kp.of_below (X:=F1) hb).trans h2
 have MR:Rq F1 F2 W.heap.size:=⟨fun k hk=>(h3.r k hk).imp id (fun e=>by omega)⟩
 exact ⟨F2,⟨h1,h.kp.next Bx (fun i hi e=>(h.rel.r i e).elim id (fun e=>by omega)),h.rel.trans MR hz⟩,Bx,MR⟩
theorem PoA.fin{r:qV}(h:PoA w0 M F w W F1 P):PoD w0 M F w P r (.returned r) W:=⟨rfl,F1,h.po,h.kp,h.rel⟩
theorem sB: ∀(j n:Nat) (q:List (Int×Int)),j+1<=n->qUp n q j=qUp (j+1) q j:=by
 intro j
 induction j using Nat.strongRecOn with
 |_ j ih=>
  intro n q hn
  obtain ⟨m,rfl⟩: ∃m,n=m+1:=⟨n-1,by omega⟩
  by_cases hc:(j-1)/2=j\/(!qLess q j ((j-1)/2))=true
  ·simp only [qUp,if_pos hc]
  ·have hj:(j-1)/2≠j:=fun e=>hc (.inl e)
   have wY:(j-1)/2<j:=by omega
   simp only [qUp,if_neg hc]
   rw [ih _ wY m _ Za,ih _ wY j _ Za]
theorem oX{g c:Nat}(w:qW)(h:PoX w0 M F fv (.slice (aA g) P.used.length c) w P)(j:Nat)(hj:j<P.used.length):qC 218 #[.iface 296 (.pointer (some ⟨M,1,none⟩)),iI j] w (fun e w'=>e= .returned (.tuple #[])/\PoX w0 M F fv (.slice (aA g) P.used.length c) w' {P with used:=qUp (j+1) P.used j}/\Kp F w w'):=by
 have F7 : ∀ (k : Nat) (W : qW), W.cell? (aB M 1) = some (.slice (aA g) P.used.length c) -> (Go.method (k + 1) 296 (.pointer (some ⟨M, 1, none⟩)) "Less").run Tryz.prog W = .ok (325, .slice (aA g) P.used.length c) W := fun k W hc => jW k W M _ _ _ hc
 have F6 : ∀ (k : Nat) (W : qW), W.cell? (aB M 1) = some (.slice (aA g) P.used.length c) -> (Go.method (k + 1) 296 (.pointer (some ⟨M, 1, none⟩)) "Swap").run Tryz.prog W = .ok (326, .slice (aA g) P.used.length c) W := fun k W hc => f9 k W M _ _ _ hc
 have Ai:=h.fin.used
 have HB:=Zh h
 have zN:F g:=(h.ft g).2 (.inr ⟨_,.tail _ (.head _),rfl⟩)
 generalize hT:qUp (j+1) P.used j=T
 have HT:=Zh hT
 clear h hT
 generalize hn:P.used.length=n at*
 go_enter Tryz.func218,Tryz.ntmps218
 go_wp2_with fail
 go_loopw [1] (fun v1 wr=> ∃(j:Nat) (q:List (Int×Int)),v1=iI j/\j<n/\q.length=n/\Hid (PoX w0 M F fv (.slice (aA g) n c) wr {P with used:=q})/\Hid (Kp F w wr)/\Hid (qUp (j+1) q j=T)) (fun v1 _=>(intOf v1).toNat)
 case atStart=>exact ⟨j,P.used,rfl,hj,hn,HB,Zh (Kp.refl _ _),HT⟩
 case round=>
  obtain ⟨j,q,rfl,hj,hq,HB,HK,HT⟩:=hrel
  obtain ⟨i',pi⟩:=HB.out.rules
  have j':=HB.out.bd
  have Bf:wr.cell? (aB M 1)=some (.slice (aA g) n c):=by rw [aa HB.out.ob.out];rfl
  have BK: ∀p,(more wr p).cell? (aB M 1)=some (.slice (aA g) n c):=fun p=>by rw [dd,if_pos j'.2];exact Bf
  have L0:=fun k=>F7 k wr Bf
  have S1:=fun k p=>F6 k (more wr p) (BK p)
  have CL:=Zh (fun (W:qW) (hb:Below wr.heap.size wr W) i k hi hk=>lK W g c q (B:=M+1) (e:=294) (by have h9:=(HB.out.below hb).own1;simp only [hq] at h9 ⊢;exact h9) i k hi hk)
  have CS:=Zh (fun (W:qW) (hb:Below wr.heap.size wr W) i k hi hk=>fQ W M g c q (by have h9:=(HB.out.below hb).own1;simp only [hq] at h9 ⊢;exact h9) i k hi hk)
  rw [hq] at CL CS
  by_cases Dk:j=0
  ·subst Dk
   go_wp2_with fail
   go_end0
   have:q=T:=by rw [<-HT.out];simp [qUp]
   subst this
   exact ⟨rfl,HB.out,HK.out⟩
  ·obtain ⟨i,hi⟩: ∃i:Nat,i=(j-1)/2:=⟨_,rfl⟩
   have Ak:i<j:=by omega
   have hdv:((j:Int)-1).tdiv 2=(i:Int):=by
    rw [Int.tdiv_eq_ediv_of_nonneg Za]
    omega
   have Mh:qUp (j+1) q j=if (!qLess q j i)=true then q else qUp (i+1) (qSwap q i j) i:=by
    rw [qUp,<-hi]
    by_cases hb:(!qLess q j i)=true
    ·rw [if_pos (.inr hb),if_pos hb]
    ·rw [if_neg (by rintro (e|e);omega;exact hb e),if_neg hb]
     exact sB i j _ Za
   have yM:=Zh (Mh.symm.trans HT.out)
   have HI:=Zh hi
   have CB: ¬(i:Int)=j:=by omega
   clear Mh hi HT
   cases hb:qLess q j i
   ·have CL2:=Zh (fun (W:qW) xg=>CL.out W xg j i hj Za)
    rw [hb] at CL2
    go_wp2_with (go_at_call 325;refine (CL2.out _ Zv).mono ?_;rintro e w1 ⟨rfl,p,rfl⟩)
    go_end0
    have:q=T:=by rw [<-yM.out,if_pos (by rw [hb];rfl)]
    subst this
    exact ⟨rfl,HB.out.below (av _ _),HK.out.more _⟩
   ·have CL2:=Zh (fun (W:qW) xg=>CL.out W xg j i hj Za)
    have CS2:=Zh (fun (W:qW) xg=>CS.out W xg i j Za hj)
    rw [hb] at CL2
    go_wp2_with (first|(go_at_call 325;refine (CL2.out _ Zv).mono ?_;rintro e w1 ⟨rfl,p,rfl⟩)|(go_at_call 326;refine (CS2.out _ Zv).mono ?_;intro e w1 hD;obtain rfl:=hD.1;have HD:=Zh hD;clear hD))
    refine ⟨⟨i,qSwap q i j,rfl,by omega,by rw [bP];exact hq,Zh ?_,Zh ?_,Zh ?_⟩,by simp [intOf];omega⟩
    ·subst hq
     exact PoX.quD (P:={P with used:=q}) (g:=g) (c:=c) (HB.out.below (av wr p)) (q':=qSwap q i j) (W2:=w1) (r:= .tuple #[]) (e:= .returned (.tuple #[])) HD.out (bP q i j)
    ·exact (HK.out.more p).trans (HD.out.2.1.mono (fun k _ e=>e ▸ zN))
    ·rw [<-yM.out,if_neg (by rw [hb];decide)]
end
theorem yek:(Tryz.prog.info? 294).map (fun i=>(i.zero,i.size,i.bytes))=some (some (.agg #[iI 0,iI 0]),2,16):=by kernel_rfl
theorem jL(v:qV)(W:qW):(Instr.typeAssert (.iface 294 v) 20 294 false).run Tryz.prog W= .ok v W:=by kernel_rfl
section
variable{w0 W W' w:qW}{M:Nat}{F F1:Nat->Prop}{fv uv:qV}{P:Pool}
theorem PoX.put{W2:qW}(h:PoX w0 M F fv uv W P)(r:Rw)(hr:r∈poR P){v':qV}{n':Nat}{xs':List qV}(hk:Kp (fun k=>(fld (poC fv uv P) r.ix).ownBlock=some k) W W2)(hown:W2.ownsRow (M+1) r.e r.sz v' n' xs')(hg: ∀k,v'.ownBlock=some k->(fld (poC fv uv P) r.ix).ownBlock=some k\/W.heap.size<=k)
  {fv' uv':qV} {P':Pool} (e1:(poC fv uv P).setIfInBounds r.ix v'=poC fv' uv' P') (e2:(poR P).map (fun q=>if q.ix=r.ix then {q with n:=n',xs:=xs'} else q)=poR P') (hf:PFin P'):
  ∃F',PoX w0 M F' fv' uv' (W2.setCell ⟨M,r.ix,none⟩ v') P'/\Kp F W (W2.setCell ⟨M,r.ix,none⟩ v')/\Rq F F' W.heap.size:=by
 have BY:r.ix<(poC fv uv P).size:=by
  simp only [poR,zaM,zaN,or_false] at hr
  rcases hr with rfl|rfl<;>simp [poC]
 obtain ⟨p1,p2,p3⟩:=h.ob.put hr BY hk hown hg
 rw [e1,e2] at p1 p3
 have xh:Kp F W (W2.setCell ⟨M,r.ix,none⟩ v'):=p2.mono (fun k _ e=>(h.ft k).2 e)
 exact ⟨fun k=>foot M (poC fv' uv' P') (poR P') k,⟨p1,fun k=>Iff.rfl,aH h.bl xh (fun k e=>(h.inb e).1),h.le,hf⟩,xh,⟨fun k hk=>(p3 k hk).imp (fun e=>(h.ft k).2 e) id⟩⟩
theorem PoX.app{X W2:qW}{g cap:Nat}(h:PoX w0 M F fv uv W P)(r:Rw)(hr:r∈poR P){new:List qV}(hx:Kp (fun _=>False) W X)(wW:X.grownBy W2 (fld (poC fv uv P) r.ix).ownBlock)(hown:W2.ownsRow (M+1) r.e r.sz (.slice (aA g) (r.n+1) cap) (r.n+1) (r.xs++new))(xb:(fld (poC fv uv P) r.ix).ownBlock=some g\/g=X.heap.size)
  {fv' uv':qV} {P':Pool} (e1:(poC fv uv P).setIfInBounds r.ix (.slice (aA g) (r.n+1) cap)=poC fv' uv' P') (e2:(poR P).map (fun q=>if q.ix=r.ix then {q with n:=r.n+1,xs:=r.xs++new} else q)=poR P') (hf:PFin P'):
  ∃F',PoX w0 M F' fv' uv' (W2.setCell ⟨M,r.ix,none⟩ (.slice (aA g) (r.n+1) cap)) P'/\Kp F W (W2.setCell ⟨M,r.ix,none⟩ (.slice (aA g) (r.n+1) cap))/\Rq F F' W.heap.size:=by
 refine h.put r hr ((hx.mono (fun _ _ e=>e.elim)).trans ((Kp.of_grown wW).mono (fun k _ e=>e.symm))) hown (fun k hk=>?_) e1 e2 hf
 obtain rfl:g=k:=by simpa [Value.ownBlock] using hk
 have:=hx.size
 rcases xb with e|e
 ·exact .inl e
 ·exact .inr Za
theorem tu{P:Pool}(x:Int×Int):(poR P).map (fun q=>if q.ix=1 then {q with n:=P.used.length+1,xs:=P.used.flatMap bzC++bzC x} else q)=poR {P with used:=P.used++[x]}:=by simp [poR]
theorem tA{P:Pool}(x:Int):(poR P).map (fun q=>if q.ix=0 then {q with n:=P.free.length+1,xs:=P.free.flatMap numC++numC x} else q)=poR {P with free:=P.free++[x]}:=by simp [poR]
theorem sy(w:qW)(h:PoX w0 M F fv uv w P)(x:Int×Int)(hf:PFin {P with used:=P.used++[x]}):qC 328 #[.pointer (some ⟨M,1,none⟩),.iface 294 (.agg #[iI x.1,iI x.2])] w (fun e w'=>e= .returned (.tuple #[])/\ ∃F' g c,PoX w0 M F' fv (.slice (aA g) (P.used.length+1) c) w' {P with used:=P.used++[x]}/\Kp F w w'/\Rq F F' w.heap.size):=by
 obtain ⟨i0,xz,xq,xm,xk⟩:=zan yek
 have j':=h.bd
 have q1: ∀j,w.cell? (aB M j)=(#[fv,uv,iI P.next,iI P.most]:Array qV)[j]?:=aa h.ob.out
 have qf:=ai h.ob.out
 have yG:=h.own1
 have HW:=Zh h
 have xu:=Zh yG
 have Ir:=hf.used
 simp only [zaO,za2,zaV] at Ir
 clear h yG
 have Nq:=jL
 go_enter Tryz.func328,Tryz.ntmps328
 go_wp2_with fail
 have hA:True:=trivial
 have hB:w.drew.cell? (aB M 1)=some uv:=q1 1
 refine ae (fun W=>True) (fun W=>W.cell? (aB M 1)=some uv) 9 rfl ?_
 refine Zp 0 rfl (h:=Zp 1 rfl (h:=Zp 2 rfl (h:=Zl 3 [7,9] rfl (h:=Zp 4 rfl (h:=Zp 5 rfl (h:=?_))))));try simp only [Zq]
 refine Zs 6 rfl fun K hK=>?_
 go_simp
 refine hK _ _ ⟨trivial,fun _=>(an j'.2).trans (q1 1)⟩ ?_
 refine Zs 7 rfl fun K hK=>?_
 refine a8 (.tmp 7) (.tmp 10) 242 294 i0 _ 2 16 Tryz.underlying242 xz xq xm xk rfl Zg rfl rfl (M+1) uv P.used.length (P.used.flatMap bzC) (aw xu.out (fun g hg=>zac _ _ (xu.out.lt g hg).2)) w.heap.size #[iI x.1,iI x.2] 294 (0,0) (zab _ _) ZB ZB rfl ZL Za Za Zc ?_
 intro g2 cap2 w2 hown wW xb xy
 have hD:=Zh (HW.out.app ⟨1,294,2,P.used.length,P.used.flatMap bzC⟩ (.tail _ (.head _)) (new:=bzC x) ((Kp.dr w).trans (Kp.al _ _)) wW hown xb (P':={P with used:=P.used++[x]}) rfl (tu x) hf)
 have wT:Kp (fun k=>uv.ownBlock=some k) (w.drew.alloc _) w2:=(Kp.of_grown wW).mono (fun k _ e=>e.symm)
 have kc: ∀j,w2.cell? (aB M j)=(#[fv,uv,iI P.next,iI P.most]:Array qV)[j]?:=fun j=>((wT.cell Zc (fun e=>by have:=(xu.out.lt _ e).1;omega)).trans (an j'.2)).trans (q1 j)
 have kf: ∀j,w2.frozen? (aB M j)=false:=ai ((wT.block M Zc (fun e=>by have:=(xu.out.lt _ e).1;omega)).trans ((zac _ _ j'.2).trans HW.out.ob.out))
 clear hown wW xb wT
 refine hK _ _ ⟨trivial,fun _=>kc 1⟩ ?_
 clear hK K hA hB
 have hA:True:=trivial
 have hB:w2.cell? (aB M 1)=some uv:=kc 1
 refine Zp 8 rfl (h:=?_);try simp only [Zq]
 refine Zs 9 rfl fun K hK=>?_
 go_simp
 refine hK _ _ ⟨trivial,fun hh=>Bool.noConfusion (hh.symm.trans (show _=true by kernel_rfl))⟩ ?_
 refine af Zb ?_ _
 go_wp2_with fail
 go_end0
 obtain ⟨F1,CY,y8,yh⟩:=hD.out
 exact ⟨rfl,F1,⟨g2,cap2,CY⟩,y8,yh⟩
theorem mc(w:qW)(h:Po w0 M F w P)(x:Int×Int)(hf:PFin {P with used:=P.used++[x]}):qC 158 #[.iface 296 (.pointer (some ⟨M,1,none⟩)),.iface 294 (.agg #[iI x.1,iI x.2])] w (PoD w0 M F w {P with used:=qPush P.used x} (.tuple #[])):=by
 obtain ⟨fv,uv,h⟩:=h
 have c1:=Zh (sy w h x hf)
 have Ir:=hf.used
 simp only [zaO,za2,zaV] at Ir
 clear h
 go_enter Tryz.func158,Tryz.ntmps158
 go_wp2_with fail
 go_at_call 328
 refine c1.out.mono ?_
 rintro e w1 ⟨rfl,F1,g,c,hx,hk,hr⟩
 have Bf:w1.cell? (aB M 1)=some (.slice (aA g) (P.used.length+1) c):=by rw [aa hx.ob.out];rfl
 have L0:=fun k=>jX k w1 M _ _ _ Bf
 have HX:=Zh hx
 have HK:=Zh hk
 have HR:=Zh hr
 clear hx hk hr Bf
 go_wp2_with fail
 go_at_call 324
 refine (lM _ _ _ _).mono ?_
 rintro e w2 ⟨rfl,p,rfl⟩
 have c2:=Zh (oX (P:={P with used:=P.used++[x]}) (g:=g) (c:=c) (more w1 p) (by have:=HX.out.below (av w1 p);simp only [zaO,za2,zaV];exact this) P.used.length Zi)
 go_wp2_with fail
 go_at_call 218
 refine c2.out.mono ?_
 rintro e w3 ⟨rfl,K7,AQ⟩
 have HX3:=Zh K7
 have HK3:=Zh AQ
 clear K7 AQ
 go_wp2_with fail
 go_end0
 refine ⟨rfl,F1,⟨fv,.slice (aA g) (P.used.length+1) c,?_⟩,HK.out.next ((Kp.mo (X:=F1) w1 p).trans HK3.out) (fun k hk e=>(HR.out.r k e).elim id (fun e=>by omega)),HR.out⟩
 have:=HX3.out
 simp only [zaO,za2,zaV] at this
 exact this
end
end Go.Proofs.YtcekjfmfcefjpaaGreatDoor
