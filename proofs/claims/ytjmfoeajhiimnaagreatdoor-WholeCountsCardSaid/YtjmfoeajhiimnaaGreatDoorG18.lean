/- Walks. No condition. -/
import Derived.Test.YtjmfoeajhiimnaaGreatDoorG17
set_option maxRecDepth 100000
set_option maxHeartbeats 0
set_option linter.all false
namespace Go.Proofs.YtjmfoeajhiimnaaGreatDoor
open Go.RowKit Go.Sort
section
variable{w0 W W' w:qW}{M:Nat}{F F1:Nat->Prop}{pv:qV}{s:ES}{o:OpD}{K:Nat}{pl:List Int}{g c:Nat}
theorem nT:(Tryz.prog.info? 243).map (fun i=>(i.zero,i.size,i.bytes))=some (some (.agg #[iI 0,iI 0]),2,16):=by kernel_rfl
theorem ni{s:ES}(b:Int×Int):(emR s).map (fun q=>if q.ix=6 then {q with n:=s.brs.length+1,xs:=s.brs.flatMap brC++brC b} else q)=emR {s with brs:=s.brs++[b]}:=by simp [emR]
theorem EmB.own(h:EmB w0 M F pv w W F1 s o K){k:Nat}(hk: ¬F1 k)(Ox:k≠K)(hl:M<k)(hw:w.heap.size<=k)(zu:k<W.heap.size)(cs:Array qV)(t:TypeId):EmB w0 M F pv w (putB W k cs t) F1 s o K:=by
 refine ⟨⟨h.a.em.own hk hl cs t,h.a.kp.putB (fun hl=>by omega) cs t,h.a.rel⟩,?_,h.no,h.le,h.lt⟩
 rw [aM,if_neg (fun e=>Ox e.symm)]
 exact h.box
theorem ybq(hP:PlB w0 pv pl g c)(w:qW)(h:Em w0 M F pv w s)(o:OpD)(hk:o.kind=15)(hf:EFin (eJump pl o s)):qC 150 #[pP M,.agg (opC o).toArray] w (EmD w0 M F pv w (eJump pl o s) (.tuple #[])):=by
 have CS:=zCS (M:=M) hP
 have CT:=zCT (M:=M) hP
 have CK:=zCK (M:=M) hP
 have CF:=zCF (M:=M) hP
 have he:eJump pl o s=eAdd ⟨13,0,0,0,0,0,0⟩ {s with brs:=s.brs++[((s.out.length:Int),o.tO)]}:=by
  unfold eJump
  simp only [hk]
  rfl
 rw [he] at hf ⊢
 clear he
 have Cu:=Zh (fun k (hk:F k)=>(h.inb hk).2)
 have HB:=Zh (show EmB w0 M F pv w (w.alloc (.cells #[iI o.kind,iI o.dst,iI o.dst2,iI o.a,iI o.b,iI o.c,.int .u64 o.n,iI o.op,iI o.size,iI o.order,iI o.tO,iI o.site,iI o.line] 225)) F s o w.heap.size from EmB.begin h o)
 obtain ⟨ov,sv,lv,bv,B,i',pi,oa,oc,rfl⟩:=h.rules
 have j':=h.bd
 have ya:EFin {s with brs:=s.brs++[((s.out.length:Int),o.tO)]}:=(ELe.add _ _).fin hf
 have Bw:=ya.out
 have Kd:=ya.brs
 simp only [zaO,za2,zaV] at Bw Kd
 obtain ⟨i0,xF,xx,xu,xq⟩:=zan nT
 have wZ:(o.kind==16)=false:=by simp [hk]
 have xZ:decide (o.kind=16)=false:=by simp [hk]
 clear hk
 clear h hP
 unfold opC
 go_enter Tryz.func150,Tryz.ntmps150
 go_wp2_with fail
 refine aS (R:=fun W=>EmB w0 M F pv w W F s o w.heap.size/\W.heap[w.heap.size+1]?=some (.cells #[iI 13,iI 0,iI 0,iI 0,iI 0,iI 0,iI 0] 83 (0,0))/\Kp (fun _=>False) w W) ⟨Z56_,(by first|exact ((Kp.mo (X:=fun _=>False) _ _).block _ Zc id).trans (aH ZC)|(rw [aM,if_pos rfl,if_pos Zc])|exact zab _ _|(exact aH ZC)|(simp [go_sem];done)),(by repeat (first|with_reducible exact Kp.refl _ _|with_reducible apply Kp.alloc|with_reducible apply Kp.drew|with_reducible apply Kp.more|(with_reducible refine Kp.putB ?_ (fun hl=>absurd hl Zc) _ _)))⟩ ?_
 have Bo:=j'
 clear i' pi j'
 rintro W ⟨hM,D',ze⟩
 have xW:=hM.no
 have DU: ¬F (w.heap.size+1):=fun e=>by have:=Cu.out _ e;omega
 have CG: ¬F w.heap.size:=fun e=>by have:=Cu.out _ e;omega
 obtain ⟨ov,sv,lv,bv,B,hx⟩:=hM.a.em
 obtain ⟨oa,oc,rfl, -⟩:=aC (hx.ob.own ⟨1,83,7,s.out.length,s.out.flatMap insC⟩ (by simp [emR]))
 have yO:=hx.ob.own ⟨6,243,2,s.brs.length,s.brs.flatMap brC⟩ (by simp [emR])
 have q1: ∀j,W.cell? (aB M j)=(#[pv,.slice oa s.out.length oc,sv,lv,iI s.line,.map (some B),bv,iI s.e]:Array qV)[j]?:=aa hx.ob.out
 have qf:=ah hx.ob.out
 have qk: ∀i,W.cell? (aB w.heap.size i)=(#[iI o.kind,iI o.dst,iI o.dst2,iI o.a,iI o.b,iI o.c,.int .u64 o.n,iI o.op,iI o.size,iI o.order,iI o.tO,iI o.site,iI o.line]:Array qV)[i]?:=aa hM.box
 have j':=hx.bd
 have yc:=ac hM.box
 have Cm:=ac D'
 have BF:=Zh D'
 have yQ:=Zh ze
 have HW:=Zh hx
 have xB:=Zh yO
 have Ib:Hid (∀k,bv.ownBlock=some k->F k):=Zh (fun k e=>(hx.ft k).2 (.inl (.inr ⟨⟨6,243,2,s.brs.length,s.brs.flatMap brC⟩,by simp [emR],e⟩)))
 clear hM hx D' ze HB yO
 have hA:(∀i,W.drew.cell? (aB w.heap.size i)=(#[iI o.kind,iI o.dst,iI o.dst2,iI o.a,iI o.b,iI o.c,.int .u64 o.n,iI o.op,iI o.size,iI o.order,iI o.tO,iI o.site,iI o.line]:Array qV)[i]?)/\W.drew.cell? (aB M 1)=some (.slice oa s.out.length oc):=⟨qk,q1 1⟩
 have hB:W.drew.cell? (aB M 6)=some bv:=q1 6
 refine ae (fun W=>(∀i,W.cell? (aB w.heap.size i)=(#[iI o.kind,iI o.dst,iI o.dst2,iI o.a,iI o.b,iI o.c,.int .u64 o.n,iI o.op,iI o.size,iI o.order,iI o.tO,iI o.site,iI o.line]:Array qV)[i]?)/\W.cell? (aB M 1)=some (.slice oa s.out.length oc)) (fun W=>W.cell? (aB M 6)=some bv) 17 rfl ?_
 refine Zp 0 rfl (h:=Zp 1 rfl (h:=Zp 2 rfl (h:=Zp 3 rfl (h:=Zl 4 [14,17] rfl (h:=Zp 5 rfl (h:=Zp 6 rfl (h:=Zp 7 rfl (h:=Zt 8 rfl (h:=Zp 9 rfl (h:=Zp 10 rfl (h:=Zt 11 rfl (h:=Zp 12 rfl (h:=?_)))))))))))));try simp only [Zq]
 refine Zs 13 rfl fun K hK=>?_
 go_simp
 refine hK _ _ ⟨⟨fun j=>(aj yc).trans (qk j),(aj j'.2.1).trans (q1 1)⟩,fun _=>(aj j'.2.1).trans (q1 6)⟩ ?_
 refine Zs 14 rfl fun K hK=>?_
 refine bf (.tmp 18) (.tmp 27) 236 243 i0 _ 2 16 Tryz.underlying236 xF xx xu xq rfl Zd rfl rfl (M+1) bv s.brs.length (s.brs.flatMap brC) (ax xB.out (fun g hg=>zac _ _ (xB.out.lt g hg).2)) W.heap.size #[iI s.out.length,iI o.tO] 243 (0,0) (zab _ _) ZA ZA rfl ZD Za Za Zc ?_
 intro g2 cap2 w2 hown xb xk xE
 have hD:=Zh (HW.out.app ⟨6,243,2,s.brs.length,s.brs.flatMap brC⟩ (by simp [emR]) (new:=brC (s.out.length,o.tO)) ((Kp.dr W).trans (Kp.al _ _)) xb hown xk (s':={s with brs:=s.brs++[((s.out.length:Int),o.tO)]}) rfl (ni _) rfl ya)
 have wZ:Kp (fun k=>bv.ownBlock=some k) (W.drew.alloc _) w2:=(Kp.of_grown xb).mono (fun k _ e=>e.symm)
 have kx: ∀j,w2.cell? (aB w.heap.size j)=(#[iI o.kind,iI o.dst,iI o.dst2,iI o.a,iI o.b,iI o.c,.int .u64 o.n,iI o.op,iI o.size,iI o.order,iI o.tO,iI o.site,iI o.line]:Array qV)[j]?:=fun j=>((wZ.cell Zc (fun e=>CG (Ib.out _ e))).trans (aj yc)).trans (qk j)
 have kc: ∀j,w2.cell? (aB M j)=(#[pv,.slice oa s.out.length oc,sv,lv,iI s.line,.map (some B),bv,iI s.e]:Array qV)[j]?:=fun j=>((wZ.cell Zc (fun e=>by have:=(xB.out.lt _ e).1;omega)).trans (aj j'.2.1)).trans (q1 j)
 have kf: ∀j,w2.frozen? (aB M j)=false:=ah ((wZ.block M Zc (fun e=>by have:=(xB.out.lt _ e).1;omega)).trans ((zac _ _ j'.2.1).trans HW.out.ob.out))
 clear hown xb xk wZ
 refine hK _ _ ⟨⟨kx,kc 1⟩,fun _=>kc 6⟩ ?_
 clear hK K hA hB
 have hA:(∀i,w2.cell? (aB w.heap.size i)=(#[iI o.kind,iI o.dst,iI o.dst2,iI o.a,iI o.b,iI o.c,.int .u64 o.n,iI o.op,iI o.size,iI o.order,iI o.tO,iI o.site,iI o.line]:Array qV)[i]?)/\w2.cell? (aB M 1)=some (.slice oa s.out.length oc):=⟨kx,kc 1⟩
 have hB:w2.cell? (aB M 6)=some bv:=kc 6
 refine Zp 15 rfl (h:=Zp 16 rfl (h:=?_));try simp only [Zq]
 refine Zs 17 rfl fun K hK=>?_
 go_simp
 refine hK _ _ ⟨⟨fun i=>(zaH _ _ _ _ (fun e=>by have:=congrArg Addr.block e;simp only at this;omega)).trans (kx i),(zaH _ _ _ _ (fun e=>by have:=congrArg Addr.off e;simp at this)).trans (kc 1)⟩,fun hh=>Bool.noConfusion (hh.symm.trans (show _=true by kernel_rfl))⟩ ?_
 refine af Zb ?_ _
 obtain ⟨F1,C0,zg,yh⟩:=hD.out
 have HM:=Zh (EmA.mk (F:=F) (w:=w) ⟨_,_,_,_,_,C0⟩ ((yQ.out.mono (fun _ _ e=>e.elim)).trans zg) ⟨fun k hk=>(yh.r k hk).imp id (fun e=>by have:=yQ.out.size;omega)⟩)
 have xZ:=(zg.block (w.heap.size+1) Cm DU).trans BF.out
 clear hD C0 zg yh kx kc kf hA hB hK K HW xB yQ BF q1 qf qk j' Bo yc Cm xE CG DU xW Ib
 generalize (w2.setCell ⟨M,6,none⟩ (.slice (aA g2) (s.brs.length+1) cap2))=W1 at HM xZ ⊢
 have q2: ∀j,W1.cell? ⟨w.heap.size+1,j,none⟩=(#[iI 13,iI 0,iI 0,iI 0,iI 0,iI 0,iI 0]:Array qV)[j]?:=aa xZ
 clear xZ
 go_wp2_with fail
 (go_at_call 94;refine (cd _ (ZX:EmA _ _ _ _ w _ _ _).em ⟨13,0,0,0,0,0,0⟩ hf).mono ?_;intro e w1 hD;obtain rfl:=hD.1;obtain ⟨F2,hM, -, -⟩:=EmA.next ZX hD;clear hD;(try clear i');(try clear pi);(try clear j');obtain ⟨ov,sv,lv,bv,B,i',pi,oa,oc,rfl⟩:=hM.em.rules;have j':=hM.em.bd;replace HM:=Zh hM;clear hM)
 go_wp2_with fail
 go_end0
 exact Z0_
theorem ybp(hP:PlB w0 pv pl g c)(w:qW)(h:Em w0 M F pv w s)(o:OpD)(ha:plR pl o.a)(hk:o.kind=16)(hf:EFin (eJump pl o s)):qC 150 #[pP M,.agg (opC o).toArray] w (EmD w0 M F pv w (eJump pl o s) (.tuple #[])):=by
 have CS:=zCS (M:=M) hP
 have CT:=zCT (M:=M) hP
 have CK:=zCK (M:=M) hP
 have CF:=zCF (M:=M) hP
 have he:eJump pl o s=eAdd ⟨15,pG pl o.a,0,0,0,0,0⟩ {s with brs:=s.brs++[((s.out.length:Int),o.tO)]}:=by
  unfold eJump
  simp only [hk,bm ha]
  rfl
 rw [he] at hf ⊢
 clear he
 have Cu:=Zh (fun k (hk:F k)=>(h.inb hk).2)
 have HB:=Zh (show EmB w0 M F pv w (w.alloc (.cells #[iI o.kind,iI o.dst,iI o.dst2,iI o.a,iI o.b,iI o.c,.int .u64 o.n,iI o.op,iI o.size,iI o.order,iI o.tO,iI o.site,iI o.line] 225)) F s o w.heap.size from EmB.begin h o)
 obtain ⟨ov,sv,lv,bv,B,i',pi,oa,oc,rfl⟩:=h.rules
 have j':=h.bd
 have BS:=br ha
 have ya:EFin {s with brs:=s.brs++[((s.out.length:Int),o.tO)]}:=(ELe.add _ _).fin hf
 have Bw:=ya.out
 have Kd:=ya.brs
 simp only [zaO,za2,zaV] at Bw Kd
 obtain ⟨i0,xF,xx,xu,xq⟩:=zan nT
 have wZ:(o.kind==16)=true:=by simp [hk]
 have xZ:decide (o.kind=16)=true:=by simp [hk]
 clear hk
 clear h hP
 unfold opC
 go_enter Tryz.func150,Tryz.ntmps150
 go_wp2_with fail
 (go_at_call 142;refine (CS.out _ _ _ (Zm:EmB _ _ _ _ w _ _ _ _ _).a.em _ ha _).mono ?_;rintro e w1 ⟨rfl,p,rfl⟩)
 go_wp2_with fail
 refine aS (R:=fun W=>EmB w0 M F pv w W F s o w.heap.size/\W.heap[w.heap.size+1]?=some (.cells #[iI 15,iI (pG pl o.a),iI 0,iI 0,iI 0,iI 0,iI 0] 83 (0,0))/\Kp (fun _=>False) w W) ⟨Z56_,(by first|exact ((Kp.mo (X:=fun _=>False) _ _).block _ Zc id).trans (aH ZC)|(rw [aM,if_pos rfl,if_pos Zc])|exact zab _ _|(exact aH ZC)|(simp [go_sem];done)),(by repeat (first|with_reducible exact Kp.refl _ _|with_reducible apply Kp.alloc|with_reducible apply Kp.drew|with_reducible apply Kp.more|(with_reducible refine Kp.putB ?_ (fun hl=>absurd hl Zc) _ _)))⟩ ?_
 have Bo:=j'
 clear i' pi j'
 rintro W ⟨hM,D',ze⟩
 have xW:=hM.no
 have DU: ¬F (w.heap.size+1):=fun e=>by have:=Cu.out _ e;omega
 have CG: ¬F w.heap.size:=fun e=>by have:=Cu.out _ e;omega
 obtain ⟨ov,sv,lv,bv,B,hx⟩:=hM.a.em
 obtain ⟨oa,oc,rfl, -⟩:=aC (hx.ob.own ⟨1,83,7,s.out.length,s.out.flatMap insC⟩ (by simp [emR]))
 have yO:=hx.ob.own ⟨6,243,2,s.brs.length,s.brs.flatMap brC⟩ (by simp [emR])
 have q1: ∀j,W.cell? (aB M j)=(#[pv,.slice oa s.out.length oc,sv,lv,iI s.line,.map (some B),bv,iI s.e]:Array qV)[j]?:=aa hx.ob.out
 have qf:=ah hx.ob.out
 have qk: ∀i,W.cell? (aB w.heap.size i)=(#[iI o.kind,iI o.dst,iI o.dst2,iI o.a,iI o.b,iI o.c,.int .u64 o.n,iI o.op,iI o.size,iI o.order,iI o.tO,iI o.site,iI o.line]:Array qV)[i]?:=aa hM.box
 have j':=hx.bd
 have yc:=ac hM.box
 have Cm:=ac D'
 have BF:=Zh D'
 have yQ:=Zh ze
 have HW:=Zh hx
 have xB:=Zh yO
 have Ib:Hid (∀k,bv.ownBlock=some k->F k):=Zh (fun k e=>(hx.ft k).2 (.inl (.inr ⟨⟨6,243,2,s.brs.length,s.brs.flatMap brC⟩,by simp [emR],e⟩)))
 clear hM hx D' ze HB yO
 have hA:(∀i,W.drew.cell? (aB w.heap.size i)=(#[iI o.kind,iI o.dst,iI o.dst2,iI o.a,iI o.b,iI o.c,.int .u64 o.n,iI o.op,iI o.size,iI o.order,iI o.tO,iI o.site,iI o.line]:Array qV)[i]?)/\W.drew.cell? (aB M 1)=some (.slice oa s.out.length oc):=⟨qk,q1 1⟩
 have hB:W.drew.cell? (aB M 6)=some bv:=q1 6
 refine ae (fun W=>(∀i,W.cell? (aB w.heap.size i)=(#[iI o.kind,iI o.dst,iI o.dst2,iI o.a,iI o.b,iI o.c,.int .u64 o.n,iI o.op,iI o.size,iI o.order,iI o.tO,iI o.site,iI o.line]:Array qV)[i]?)/\W.cell? (aB M 1)=some (.slice oa s.out.length oc)) (fun W=>W.cell? (aB M 6)=some bv) 17 rfl ?_
 refine Zp 0 rfl (h:=Zp 1 rfl (h:=Zp 2 rfl (h:=Zp 3 rfl (h:=Zl 4 [14,17] rfl (h:=Zp 5 rfl (h:=Zp 6 rfl (h:=Zp 7 rfl (h:=Zt 8 rfl (h:=Zp 9 rfl (h:=Zp 10 rfl (h:=Zt 11 rfl (h:=Zp 12 rfl (h:=?_)))))))))))));try simp only [Zq]
 refine Zs 13 rfl fun K hK=>?_
 go_simp
 refine hK _ _ ⟨⟨fun j=>(aj yc).trans (qk j),(aj j'.2.1).trans (q1 1)⟩,fun _=>(aj j'.2.1).trans (q1 6)⟩ ?_
 refine Zs 14 rfl fun K hK=>?_
 refine bf (.tmp 18) (.tmp 27) 236 243 i0 _ 2 16 Tryz.underlying236 xF xx xu xq rfl Zd rfl rfl (M+1) bv s.brs.length (s.brs.flatMap brC) (ax xB.out (fun g hg=>zac _ _ (xB.out.lt g hg).2)) W.heap.size #[iI s.out.length,iI o.tO] 243 (0,0) (zab _ _) ZA ZA rfl ZD Za Za Zc ?_
 intro g2 cap2 w2 hown xb xk xE
 have hD:=Zh (HW.out.app ⟨6,243,2,s.brs.length,s.brs.flatMap brC⟩ (by simp [emR]) (new:=brC (s.out.length,o.tO)) ((Kp.dr W).trans (Kp.al _ _)) xb hown xk (s':={s with brs:=s.brs++[((s.out.length:Int),o.tO)]}) rfl (ni _) rfl ya)
 have wZ:Kp (fun k=>bv.ownBlock=some k) (W.drew.alloc _) w2:=(Kp.of_grown xb).mono (fun k _ e=>e.symm)
 have kx: ∀j,w2.cell? (aB w.heap.size j)=(#[iI o.kind,iI o.dst,iI o.dst2,iI o.a,iI o.b,iI o.c,.int .u64 o.n,iI o.op,iI o.size,iI o.order,iI o.tO,iI o.site,iI o.line]:Array qV)[j]?:=fun j=>((wZ.cell Zc (fun e=>CG (Ib.out _ e))).trans (aj yc)).trans (qk j)
 have kc: ∀j,w2.cell? (aB M j)=(#[pv,.slice oa s.out.length oc,sv,lv,iI s.line,.map (some B),bv,iI s.e]:Array qV)[j]?:=fun j=>((wZ.cell Zc (fun e=>by have:=(xB.out.lt _ e).1;omega)).trans (aj j'.2.1)).trans (q1 j)
 have kf: ∀j,w2.frozen? (aB M j)=false:=ah ((wZ.block M Zc (fun e=>by have:=(xB.out.lt _ e).1;omega)).trans ((zac _ _ j'.2.1).trans HW.out.ob.out))
 clear hown xb xk wZ
 refine hK _ _ ⟨⟨kx,kc 1⟩,fun _=>kc 6⟩ ?_
 clear hK K hA hB
 have hA:(∀i,w2.cell? (aB w.heap.size i)=(#[iI o.kind,iI o.dst,iI o.dst2,iI o.a,iI o.b,iI o.c,.int .u64 o.n,iI o.op,iI o.size,iI o.order,iI o.tO,iI o.site,iI o.line]:Array qV)[i]?)/\w2.cell? (aB M 1)=some (.slice oa s.out.length oc):=⟨kx,kc 1⟩
 have hB:w2.cell? (aB M 6)=some bv:=kc 6
 refine Zp 15 rfl (h:=Zp 16 rfl (h:=?_));try simp only [Zq]
 refine Zs 17 rfl fun K hK=>?_
 go_simp
 refine hK _ _ ⟨⟨fun i=>(zaH _ _ _ _ (fun e=>by have:=congrArg Addr.block e;simp only at this;omega)).trans (kx i),(zaH _ _ _ _ (fun e=>by have:=congrArg Addr.off e;simp at this)).trans (kc 1)⟩,fun hh=>Bool.noConfusion (hh.symm.trans (show _=true by kernel_rfl))⟩ ?_
 refine af Zb ?_ _
 obtain ⟨F1,C0,zg,yh⟩:=hD.out
 have HM:=Zh (EmA.mk (F:=F) (w:=w) ⟨_,_,_,_,_,C0⟩ ((yQ.out.mono (fun _ _ e=>e.elim)).trans zg) ⟨fun k hk=>(yh.r k hk).imp id (fun e=>by have:=yQ.out.size;omega)⟩)
 have xZ:=(zg.block (w.heap.size+1) Cm DU).trans BF.out
 clear hD C0 zg yh kx kc kf hA hB hK K HW xB yQ BF q1 qf qk j' Bo yc Cm xE CG DU xW Ib
 generalize (w2.setCell ⟨M,6,none⟩ (.slice (aA g2) (s.brs.length+1) cap2))=W1 at HM xZ ⊢
 have q2: ∀j,W1.cell? ⟨w.heap.size+1,j,none⟩=(#[iI 15,iI (pG pl o.a),iI 0,iI 0,iI 0,iI 0,iI 0]:Array qV)[j]?:=aa xZ
 clear xZ
 go_wp2_with fail
 (go_at_call 94;refine (cd _ (ZX:EmA _ _ _ _ w _ _ _).em ⟨15,pG pl o.a,0,0,0,0,0⟩ hf).mono ?_;intro e w1 hD;obtain rfl:=hD.1;obtain ⟨F2,hM, -, -⟩:=EmA.next ZX hD;clear hD;(try clear i');(try clear pi);(try clear j');obtain ⟨ov,sv,lv,bv,B,i',pi,oa,oc,rfl⟩:=hM.em.rules;have j':=hM.em.bd;replace HM:=Zh hM;clear hM)
 go_wp2_with fail
 go_end0
 exact Z0_
end
section
variable{w0 W W' w:qW}{M:Nat}{F F1:Nat->Prop}{pv:qV}{s:ES}{o:OpD}{K:Nat}{pl:List Int}{g c:Nat}
theorem qP{w:qW}{ops:Array Oper}{o:Oper}{a:Act}{K:Act->qW->Prop}{Q:Exit->Act->qW->Prop}{E:Prop}
  (hg:o.guard=none) (m x v:Operand) (yi:o.op=Op.mapUpdate 235 m x v) (B n:Nat) (am:Int->Option Int) (hm:a.eval m= .map (some B)) (hp:IMap w B n am) (hn:n<maxLen) (r:Int) (hx:a.eval x= .int .i64 r) (hr:(Lit.int .i64 r).wf=true) (u:Int) (hv:a.eval v= .int .i64 u) (hu:(Lit.int .i64 u).wf=true)
  (hK: ∀w',IMap w' B (n+1) (fun q=>if q=r then some u else am q)->w.grownBy w' (some B)->K (a.put o.dst undef) w'):
  if Region.wanted o (yielded ops a.tmps)=true then Oper.wp Tryz.prog o a w K Q else E:=by
 have hw:Region.wanted o (yielded ops a.tmps)=true:=by simp [Region.wanted,hg]
 rw [if_pos hw]
 obtain ⟨w',wY,r1,r2⟩:=hp.store hn r hr u hu
 unfold Oper.wp
 simp [execOp,yi,hm,hx,hv]
 rw [wY]
 simp [Result.andThen]
 exact hK w' r1 r2
theorem ydF(k v:Int)(l:List (Int×Int)):(fun q=>if q=k then some v else eLook l q)=eLook ((k,v)::l):=by
 funext q
 unfold eLook
 rw [List.find?_cons]
 by_cases h:q=k
 ·simp [h]
 ·have h2: ¬k=q:=fun e=>h e.symm
  simp [h,h2]
theorem EmX.label{ov sv lv bv:qV}{B:Nat}{X W2:qW}(h:EmX w0 M F pv ov sv lv bv B W s)(hx:Kp (fun _=>False) W X){k v:Int}(hm:IMap W2 B (s.labels.length+1) (fun q=>if q=k then some v else eLook s.labels q))(hg:X.grownBy W2 (some B))(hf:EFin {s with labels:=(k,v)::s.labels}):
  EmX w0 M F pv ov sv lv bv B W2 {s with labels:=(k,v)::s.labels}/\Kp (fun i=>i=B) W W2:=by
 have hk:Kp (fun i=>i=B) W W2:=(hx.mono (fun _ _ e=>e.elim)).trans ((Kp.of_grown hg).mono (fun i _ e=>zae e))
 have hb:=h.bl
 have j':=h.bd
 have xW: ∀i,foot M (emC pv ov sv lv bv B s) (emR s) i-> ¬i=B:=by
  rintro i hi rfl
  rcases hi with e|⟨q,hq,e⟩
  ·omega
  ·exact h.no q hq e
 refine ⟨⟨h.ob.kp hk xW,?_,h.lt,h.no,h.ft,?_,h.le,hf⟩,hk⟩
 ·rw [<-ydF]
  exact hm
 ·exact ⟨hk.os.trans hb.os,hk.tape.trans hb.tape,hk.output.trans hb.output,zal hb.size hk.size,fun i hi=>(hk.block i (by have:=hb.size;omega) (fun e=>by have:=h.lt.2;omega)).trans (hb.block i hi)⟩
theorem Em.line(h:Em w0 M F pv w s)(l:Int)(hl:rng l):Em w0 M F pv (w.setCell ⟨M,4,none⟩ (.int .i64 l)) {s with line:=l}:=by
 obtain ⟨ov,sv,lv,bv,B,hx⟩:=h
 have hb:=hx.bd
 have xo:=hx.bl
 have hf:=hx.fin
 have hk:Kp (fun i=>i=M) w (w.setCell ⟨M,4,none⟩ (.int .i64 l)):=Kp.set w M 4 (.int .i64 l)
 refine ⟨ov,sv,lv,bv,B,hx.ob.set 4 _ (by intro r hr;simp only [emR,zaM,zaN,or_false] at hr;rcases hr with rfl|rfl|rfl|rfl<;>simp),hx.map.keep (hk.block B hx.map.lt Za),hx.lt,?_,fun k=>?_,?_,hx.le,⟨hf.out,hf.sites,hf.lines,hf.labels,hf.brs,hf.e,hl⟩⟩
 ·intro r hr
  have:=hx.no r hr
  simp only [emR,zaM,zaN,or_false] at hr
  rcases hr with rfl|rfl|rfl|rfl<;>exact this
 ·rw [hx.ft]
  refine or_congr ?_ Iff.rfl
  exact (iq (i:=4) (v:= .int .i64 l) (rs:=emR s) (cs:=emC pv ov sv lv bv B s) (by intro r hr;simp only [emR,zaM,zaN,or_false] at hr;rcases hr with rfl|rfl|rfl|rfl<;>simp)).symm
 ·exact ⟨hk.os.trans xo.os,hk.tape.trans xo.tape,hk.output.trans xo.output,zal xo.size hk.size,fun i hi=>(hk.block i (by have:=xo.size;omega) Za).trans (xo.block i hi)⟩
theorem EmD.pre{w':qW}{s':ES}{r:qV}{e:Ending}(hk:Kp F w w')(hs:w'.heap.size=w.heap.size)(h:EmD w0 M F pv w' s' r e W):EmD w0 M F pv w s' r e W:=by
 obtain ⟨he,F',h1,h2,h3⟩:=h
 exact ⟨he,F',h1,hk.trans h2,⟨fun k hk=>(h3.r k hk).imp id (fun e=>by omega)⟩⟩
theorem EmB.begin2{K:Nat}(h:Em w0 M F pv w s)(o:OpD)(hK:w.heap.size=K):EmB w0 M F pv w (w.alloc (.cells #[.int .i64 o.kind,.int .i64 o.dst,.int .i64 o.dst2,.int .i64 o.a,.int .i64 o.b,.int .i64 o.c,.int .u64 o.n,.int .i64 o.op,.int .i64 o.size,.int .i64 o.order,.int .i64 o.tO,.int .i64 o.site,.int .i64 o.line] 225)) F s o K:=by
 subst hK
 exact EmB.begin h o
theorem a9(w:qW)(a:Addr)(v:qV):(w.setCell a v).heap.size=w.heap.size:=by simp [go_sem]
theorem qZ(hP:PlB w0 pv pl g c)(w:qW)(h:Em w0 M F pv w s)(o:OpD)(hk:o.kind=1)(hd:plR pl o.dst)(hn:o.n<18446744073709551616)(hl:rng o.line)(hf:EFin (eStep pl o s)):qC 93 #[.pointer (some ⟨M,0,none⟩),.agg (opC o).toArray] w (EmD w0 M F pv w (eStep pl o s) (.tuple #[])):=by
 have CS:=zCS (M:=M) hP
 have CT:=zCT (M:=M) hP
 have CK:=zCK (M:=M) hP
 have CF:=zCF (M:=M) hP
 have HP:=Zh hP
 have he:eStep pl o s=eCst (pG pl o.dst) o.n {s with line:=o.line}:=by
  unfold eStep
  simp only [hk]
  simp [eK hd,eL hd]
  try rfl
 rw [he] at hf ⊢
 clear he
 have h1:=h.line o.line hl
 obtain ⟨ov,sv,lv,bv,B,i',pi,oa,oc,rfl⟩:=h.rules
 have j':=h.bd
 have Ea:=Zh (fun k (hk:F k)=>(h.inb hk).2)
 have xp:Kp F w (w.setCell ⟨M,4,none⟩ (.int .i64 o.line)):=(Kp.set w M 4 (.int .i64 o.line)).mono (fun k _ e=>by obtain ⟨_,_,_,_,_,hx⟩:=h;rw [e];exact hx.inF.1)
 refine Calls.mono ?_ (fun e W hh=>EmD.pre xp (a9 _ _ _) hh)
 have hsz:=a9 w ⟨M,4,none⟩ (.int .i64 o.line)
 have HB:=Zh (EmB.begin2 h1 o hsz)
 have B6: ∀j:Int,(o.kind==j)=((1:Int)==j):=fun j=>by rw [hk]
 have zP: ∀j:Int,decide (o.kind=j)=decide ((1:Int)=j):=fun j=>by rw [hk]
 have AM:=Zh hk
 generalize {s with line:=o.line}=s1 at*
 clear h hP hk xp
 unfold opC
 go_enter Tryz.func93,Tryz.ntmps93
 go_wp2_with fail
 generalize w.setCell ⟨M,4,none⟩ (.int .i64 o.line)=wl at*
 rw [<-hsz] at HB ⊢
 clear i' pi j' hsz
 obtain ⟨ov,sv,lv,bv,B,i',pi,oa,oc,rfl⟩:=h1.rules
 have j':=h1.bd
 have JD:=br hd
 (go_at_call 139;refine (CT.out _ _ _ (Zm:EmB _ _ _ _ wl _ _ _ _ _).a.em _ hd 11).mono ?_;rintro e w1 ⟨rfl,p,rfl⟩)
 go_wp2_with fail
 (go_at_call 92;refine (iG _ (Zm:EmB _ _ _ _ wl _ _ _ _ _).a.em _ o.n hn hf).mono ?_;intro e w1 hD;have hN:=EmB.nx hD Zm;clear hD HB;(try clear i' pi j');obtain ⟨rfl,F2,sv,lv,bv,B,oa,oc,i',pi,j',HB⟩:=hN)
 go_wp2_with fail
 (go_at_call 140;refine (CK.out _ _ _ (Zm:EmB _ _ _ _ wl _ _ _ _ _).a.em _ hd _).mono ?_;rintro e w1 ⟨rfl,p,rfl⟩)
 go_wp2_with fail
 go_end0
 exact ZT
end
section
variable{w0 W W' w:qW}{M:Nat}{F F1:Nat->Prop}{pv:qV}{s:ES}{o:OpD}{K:Nat}{pl:List Int}{g c:Nat}
theorem qY(hP:PlB w0 pv pl g c)(w:qW)(h:Em w0 M F pv w s)(o:OpD)(hk:o.kind=2)(ha:plR pl o.a)(hd:plR pl o.dst)(hl:rng o.line)(hf:EFin (eStep pl o s)):qC 93 #[pP M,.agg (opC o).toArray] w (EmD w0 M F pv w (eStep pl o s) (.tuple #[])):=by
 have CS:=zCS (M:=M) hP
 have CT:=zCT (M:=M) hP
 have CK:=zCK (M:=M) hP
 have CF:=zCF (M:=M) hP
 have HP:=Zh hP
 have he:eStep pl o s=eMove (pG pl o.dst) (pG pl o.a) {s with line:=o.line}:=by
  unfold eStep
  simp only [hk]
  simp [bm ha,fC hd]
  try rfl
 rw [he] at hf ⊢
 clear he
 have h1:=h.line o.line hl
 obtain ⟨ov,sv,lv,bv,B,i',pi,oa,oc,rfl⟩:=h.rules
 have j':=h.bd
 have Ea:=Zh (fun k (hk:F k)=>(h.inb hk).2)
 have xp:Kp F w (w.setCell ⟨M,4,none⟩ (iI o.line)):=(Kp.set w M 4 (iI o.line)).mono (fun k _ e=>by obtain ⟨_,_,_,_,_,hx⟩:=h;rw [e];exact hx.inF.1)
 refine Calls.mono ?_ (fun e W hh=>EmD.pre xp (a9 _ _ _) hh)
 have hsz:=a9 w ⟨M,4,none⟩ (iI o.line)
 have HB:=Zh (EmB.begin2 h1 o hsz)
 have B6: ∀j:Int,(o.kind==j)=((2:Int)==j):=fun j=>by rw [hk]
 have zP: ∀j:Int,decide (o.kind=j)=decide ((2:Int)=j):=fun j=>by rw [hk]
 have AM:=Zh hk
 generalize {s with line:=o.line}=s1 at*
 clear h hP hk xp
 unfold opC
 go_enter Tryz.func93,Tryz.ntmps93
 go_wp2_with fail
 generalize w.setCell ⟨M,4,none⟩ (iI o.line)=wl at*
 rw [<-hsz] at HB ⊢
 clear i' pi j' hsz
 obtain ⟨ov,sv,lv,bv,B,i',pi,oa,oc,rfl⟩:=h1.rules
 have j':=h1.bd
 have BS:=br ha
 refine ae (fun W=> ∀i,W.cell? (aB wl.heap.size i)=(#[iI o.kind,iI o.dst,iI o.dst2,iI o.a,iI o.b,iI o.c,.int .u64 o.n,iI o.op,iI o.size,iI o.order,iI o.tO,iI o.site,iI o.line]:Array qV)[i]?) (fun W=>True) 6 rfl ?_
 refine Zp 0 rfl (h:=Zp 1 rfl (h:=Zt 2 rfl (h:=Zp 3 rfl (h:=Zp 4 rfl (h:=Zt 5 rfl (h:=?_))))));try simp only [Zq]
 refine Zs 6 rfl fun K hK=>?_
 go_simp
 (go_at_call 142;refine (CS.out _ _ _ (Zm:EmB _ _ _ _ wl _ _ _ _ _).a.em _ ha _).mono ?_;rintro e w1 ⟨rfl,p,rfl⟩)
 refine hK _ _ Zw ?_
 clear hK K
 refine Zs 7 rfl fun K hK=>?_
 go_simp
 (go_at_call 141;refine (CF.out _ _ _ (Zm:EmB _ _ _ _ wl _ _ _ _ _).a.em _ hd (pG pl o.a) hf).mono ?_;intro e w1 hD;have hN:=EmB.nx hD Zm;clear hD HB;(try clear i' pi j');obtain ⟨rfl,F2,sv,lv,bv,B,oa,oc,i',pi,j',HB⟩:=hN)
 refine hK _ _ Zw ?_
 clear hK K
 refine af Zb ?_ _
 go_wp2_with fail
 go_end0
 exact ZT
theorem qX(hP:PlB w0 pv pl g c)(w:qW)(h:Em w0 M F pv w s)(o:OpD)(hk:o.kind=3)(ha:plR pl o.a)(hb:plR pl o.b)(hd:plR pl o.dst)(hl:rng o.line)(hf:EFin (eStep pl o s)):qC 93 #[pP M,.agg (opC o).toArray] w (EmD w0 M F pv w (eStep pl o s) (.tuple #[])):=by
 have CS:=zCS (M:=M) hP
 have CT:=zCT (M:=M) hP
 have CK:=zCK (M:=M) hP
 have CF:=zCF (M:=M) hP
 have HP:=Zh hP
 have he:eStep pl o s=eBin pl o {s with line:=o.line}:=by
  unfold eStep
  simp only [hk]
  simp
  try rfl
 rw [he] at hf ⊢
 clear he
 have h1:=h.line o.line hl
 obtain ⟨ov,sv,lv,bv,B,i',pi,oa,oc,rfl⟩:=h.rules
 have j':=h.bd
 have Ea:=Zh (fun k (hk:F k)=>(h.inb hk).2)
 have xp:Kp F w (w.setCell ⟨M,4,none⟩ (iI o.line)):=(Kp.set w M 4 (iI o.line)).mono (fun k _ e=>by obtain ⟨_,_,_,_,_,hx⟩:=h;rw [e];exact hx.inF.1)
 refine Calls.mono ?_ (fun e W hh=>EmD.pre xp (a9 _ _ _) hh)
 have hsz:=a9 w ⟨M,4,none⟩ (iI o.line)
 have HB:=Zh (EmB.begin2 h1 o hsz)
 have B6: ∀j:Int,(o.kind==j)=((3:Int)==j):=fun j=>by rw [hk]
 have zP: ∀j:Int,decide (o.kind=j)=decide ((3:Int)=j):=fun j=>by rw [hk]
 have AM:=Zh hk
 generalize {s with line:=o.line}=s1 at*
 clear h hP hk xp
 unfold opC
 go_enter Tryz.func93,Tryz.ntmps93
 go_wp2_with fail
 generalize w.setCell ⟨M,4,none⟩ (iI o.line)=wl at*
 rw [<-hsz] at HB ⊢
 clear i' pi j' hsz
 obtain ⟨ov,sv,lv,bv,B,i',pi,oa,oc,rfl⟩:=h1.rules
 have j':=h1.bd
 (go_at_call 143;refine (yeY HP.out _ (Zm:EmB _ _ _ _ wl _ _ _ _ _).a.em o ha hb hd hf).mono ?_;intro e w1 hD;have hN:=EmB.nx hD Zm;clear hD HB;(try clear i' pi j');obtain ⟨rfl,F2,sv,lv,bv,B,oa,oc,i',pi,j',HB⟩:=hN)
 go_wp2_with fail
 go_end0
 exact ZT
theorem qU(hP:PlB w0 pv pl g c)(w:qW)(h:Em w0 M F pv w s)(o:OpD)(hk:o.kind=5)(ha:plR pl o.a)(hd:plR pl o.b)(hn:o.n<18446744073709551616)(hz:o.size=1\/o.size=2\/o.size=4\/o.size=8\/o.size=16)(hl:rng o.line)(hf:EFin (eStep pl o s)):qC 93 #[pP M,.agg (opC o).toArray] w (EmD w0 M F pv w (eStep pl o s) (.tuple #[])):=by
 have CS:=zCS (M:=M) hP
 have CT:=zCT (M:=M) hP
 have CK:=zCK (M:=M) hP
 have CF:=zCF (M:=M) hP
 have HP:=Zh hP
 have he:eStep pl o s=eStore pl o {s with line:=o.line}:=by
  unfold eStep
  simp only [hk]
  simp
  try rfl
 rw [he] at hf ⊢
 clear he
 have h1:=h.line o.line hl
 obtain ⟨ov,sv,lv,bv,B,i',pi,oa,oc,rfl⟩:=h.rules
 have j':=h.bd
 have Ea:=Zh (fun k (hk:F k)=>(h.inb hk).2)
 have xp:Kp F w (w.setCell ⟨M,4,none⟩ (iI o.line)):=(Kp.set w M 4 (iI o.line)).mono (fun k _ e=>by obtain ⟨_,_,_,_,_,hx⟩:=h;rw [e];exact hx.inF.1)
 refine Calls.mono ?_ (fun e W hh=>EmD.pre xp (a9 _ _ _) hh)
 have hsz:=a9 w ⟨M,4,none⟩ (iI o.line)
 have HB:=Zh (EmB.begin2 h1 o hsz)
 have B6: ∀j:Int,(o.kind==j)=((5:Int)==j):=fun j=>by rw [hk]
 have zP: ∀j:Int,decide (o.kind=j)=decide ((5:Int)=j):=fun j=>by rw [hk]
 have AM:=Zh hk
 generalize {s with line:=o.line}=s1 at*
 clear h hP hk xp
 unfold opC
 go_enter Tryz.func93,Tryz.ntmps93
 go_wp2_with fail
 generalize w.setCell ⟨M,4,none⟩ (iI o.line)=wl at*
 rw [<-hsz] at HB ⊢
 clear i' pi j' hsz
 obtain ⟨ov,sv,lv,bv,B,i',pi,oa,oc,rfl⟩:=h1.rules
 have j':=h1.bd
 (go_at_call 145;refine (pY HP.out _ (Zm:EmB _ _ _ _ wl _ _ _ _ _).a.em o ha hd hn hz hf).mono ?_;intro e w1 hD;have hN:=EmB.nx hD Zm;clear hD HB;(try clear i' pi j');obtain ⟨rfl,F2,sv,lv,bv,B,oa,oc,i',pi,j',HB⟩:=hN)
 go_wp2_with fail
 go_end0
 exact ZT
end
section
variable{w0 W W' w:qW}{M:Nat}{F F1:Nat->Prop}{pv:qV}{s:ES}{o:OpD}{K:Nat}{pl:List Int}{g c:Nat}
theorem qT(hP:PlB w0 pv pl g c)(w:qW)(h:Em w0 M F pv w s)(o:OpD)(hk:o.kind=8)(ha:plR pl o.a)(hb:plR pl o.b)(hd:plR pl o.dst)(hz:o.size=1\/o.size=2\/o.size=4\/o.size=8\/o.size=16)(hl:rng o.line)(hf:EFin (eStep pl o s)):qC 93 #[pP M,.agg (opC o).toArray] w (EmD w0 M F pv w (eStep pl o s) (.tuple #[])):=by
 have CS:=zCS (M:=M) hP
 have CT:=zCT (M:=M) hP
 have CK:=zCK (M:=M) hP
 have CF:=zCF (M:=M) hP
 have HP:=Zh hP
 have he:eStep pl o s=eChange pl o {s with line:=o.line}:=by
  unfold eStep
  simp only [hk]
  simp
  try rfl
 rw [he] at hf ⊢
 clear he
 have h1:=h.line o.line hl
 obtain ⟨ov,sv,lv,bv,B,i',pi,oa,oc,rfl⟩:=h.rules
 have j':=h.bd
 have Ea:=Zh (fun k (hk:F k)=>(h.inb hk).2)
 have xp:Kp F w (w.setCell ⟨M,4,none⟩ (iI o.line)):=(Kp.set w M 4 (iI o.line)).mono (fun k _ e=>by obtain ⟨_,_,_,_,_,hx⟩:=h;rw [e];exact hx.inF.1)
 refine Calls.mono ?_ (fun e W hh=>EmD.pre xp (a9 _ _ _) hh)
 have hsz:=a9 w ⟨M,4,none⟩ (iI o.line)
 have HB:=Zh (EmB.begin2 h1 o hsz)
 have B6: ∀j:Int,(o.kind==j)=((8:Int)==j):=fun j=>by rw [hk]
 have zP: ∀j:Int,decide (o.kind=j)=decide ((8:Int)=j):=fun j=>by rw [hk]
 have AM:=Zh hk
 generalize {s with line:=o.line}=s1 at*
 clear h hP hk xp
 unfold opC
 go_enter Tryz.func93,Tryz.ntmps93
 go_wp2_with fail
 generalize w.setCell ⟨M,4,none⟩ (iI o.line)=wl at*
 rw [<-hsz] at HB ⊢
 clear i' pi j' hsz
 obtain ⟨ov,sv,lv,bv,B,i',pi,oa,oc,rfl⟩:=h1.rules
 have j':=h1.bd
 have hk:=AM.out
 have HC:=Zh (fun W F1 (hM:Em w0 M F1 pv W s1) hf=>yes HP.out W hM o ha hb hd hz hf)
 clear hk
 (go_at_call 146;refine (HC.out _ _ (Zm:EmB _ _ _ _ wl _ _ _ _ _).a.em hf).mono ?_;intro e w1 hD;have hN:=EmB.nx hD Zm;clear hD HB;(try clear i' pi j');obtain ⟨rfl,F2,sv,lv,bv,B,oa,oc,i',pi,j',HB⟩:=hN)
 go_wp2_with fail
 go_end0
 exact ZT
end
section
variable{w0 W W' w:qW}{M:Nat}{F F1:Nat->Prop}{pv:qV}{s:ES}{o:OpD}{K:Nat}{pl:List Int}{g c:Nat}
theorem ri(hP:PlB w0 pv pl g c)(w:qW)(h:Em w0 M F pv w s)(o:OpD)(hk:o.kind=15) (hl:rng o.line)(hf:EFin (eStep pl o s)):qC 93 #[pP M,.agg (opC o).toArray] w (EmD w0 M F pv w (eStep pl o s) (.tuple #[])):=by
 have CS:=zCS (M:=M) hP
 have CT:=zCT (M:=M) hP
 have CK:=zCK (M:=M) hP
 have CF:=zCF (M:=M) hP
 have HP:=Zh hP
 have he:eStep pl o s=eJump pl o {s with line:=o.line}:=by
  unfold eStep
  simp only [hk]
  simp
  try rfl
 rw [he] at hf ⊢
 clear he
 have h1:=h.line o.line hl
 obtain ⟨ov,sv,lv,bv,B,i',pi,oa,oc,rfl⟩:=h.rules
 have j':=h.bd
 have Ea:=Zh (fun k (hk:F k)=>(h.inb hk).2)
 have xp:Kp F w (w.setCell ⟨M,4,none⟩ (iI o.line)):=(Kp.set w M 4 (iI o.line)).mono (fun k _ e=>by obtain ⟨_,_,_,_,_,hx⟩:=h;rw [e];exact hx.inF.1)
 refine Calls.mono ?_ (fun e W hh=>EmD.pre xp (a9 _ _ _) hh)
 have hsz:=a9 w ⟨M,4,none⟩ (iI o.line)
 have HB:=Zh (EmB.begin2 h1 o hsz)
 have B6: ∀j:Int,(o.kind==j)=((15:Int)==j):=fun j=>by rw [hk]
 have zP: ∀j:Int,decide (o.kind=j)=decide ((15:Int)=j):=fun j=>by rw [hk]
 have AM:=Zh hk
 generalize {s with line:=o.line}=s1 at*
 clear h hP hk xp
 unfold opC
 go_enter Tryz.func93,Tryz.ntmps93
 go_wp2_with fail
 generalize w.setCell ⟨M,4,none⟩ (iI o.line)=wl at*
 rw [<-hsz] at HB ⊢
 clear i' pi j' hsz
 obtain ⟨ov,sv,lv,bv,B,i',pi,oa,oc,rfl⟩:=h1.rules
 have j':=h1.bd
 (go_at_call 150;refine (ybq HP.out _ (Zm:EmB _ _ _ _ wl _ _ _ _ _).a.em o AM.out hf).mono ?_;intro e w1 hD;have hN:=EmB.nx hD Zm;clear hD HB;(try clear i' pi j');obtain ⟨rfl,F2,sv,lv,bv,B,oa,oc,i',pi,j',HB⟩:=hN)
 go_wp2_with fail
 go_end0
 exact ZT
theorem rh(hP:PlB w0 pv pl g c)(w:qW)(h:Em w0 M F pv w s)(o:OpD)(hk:o.kind=16)(ha:plR pl o.a)(hl:rng o.line)(hf:EFin (eStep pl o s)):qC 93 #[pP M,.agg (opC o).toArray] w (EmD w0 M F pv w (eStep pl o s) (.tuple #[])):=by
 have CS:=zCS (M:=M) hP
 have CT:=zCT (M:=M) hP
 have CK:=zCK (M:=M) hP
 have CF:=zCF (M:=M) hP
 have HP:=Zh hP
 have he:eStep pl o s=eJump pl o {s with line:=o.line}:=by
  unfold eStep
  simp only [hk]
  simp
  try rfl
 rw [he] at hf ⊢
 clear he
 have h1:=h.line o.line hl
 obtain ⟨ov,sv,lv,bv,B,i',pi,oa,oc,rfl⟩:=h.rules
 have j':=h.bd
 have Ea:=Zh (fun k (hk:F k)=>(h.inb hk).2)
 have xp:Kp F w (w.setCell ⟨M,4,none⟩ (iI o.line)):=(Kp.set w M 4 (iI o.line)).mono (fun k _ e=>by obtain ⟨_,_,_,_,_,hx⟩:=h;rw [e];exact hx.inF.1)
 refine Calls.mono ?_ (fun e W hh=>EmD.pre xp (a9 _ _ _) hh)
 have hsz:=a9 w ⟨M,4,none⟩ (iI o.line)
 have HB:=Zh (EmB.begin2 h1 o hsz)
 have B6: ∀j:Int,(o.kind==j)=((16:Int)==j):=fun j=>by rw [hk]
 have zP: ∀j:Int,decide (o.kind=j)=decide ((16:Int)=j):=fun j=>by rw [hk]
 have AM:=Zh hk
 generalize {s with line:=o.line}=s1 at*
 clear h hP hk xp
 unfold opC
 go_enter Tryz.func93,Tryz.ntmps93
 go_wp2_with fail
 generalize w.setCell ⟨M,4,none⟩ (iI o.line)=wl at*
 rw [<-hsz] at HB ⊢
 clear i' pi j' hsz
 obtain ⟨ov,sv,lv,bv,B,i',pi,oa,oc,rfl⟩:=h1.rules
 have j':=h1.bd
 (go_at_call 150;refine (ybp HP.out _ (Zm:EmB _ _ _ _ wl _ _ _ _ _).a.em o ha AM.out hf).mono ?_;intro e w1 hD;have hN:=EmB.nx hD Zm;clear hD HB;(try clear i' pi j');obtain ⟨rfl,F2,sv,lv,bv,B,oa,oc,i',pi,j',HB⟩:=hN)
 go_wp2_with fail
 go_end0
 exact ZT
theorem q8(hP:PlB w0 pv pl g c)(w:qW)(h:Em w0 M F pv w s)(o:OpD)(hk:o.kind=18)(ha:plR pl o.a)(hl:rng o.line)(hf:EFin (eStep pl o s)):qC 93 #[pP M,.agg (opC o).toArray] w (EmD w0 M F pv w (eStep pl o s) (.tuple #[])):=by
 have CS:=zCS (M:=M) hP
 have CT:=zCT (M:=M) hP
 have CK:=zCK (M:=M) hP
 have CF:=zCF (M:=M) hP
 have HP:=Zh hP
 have he:eStep pl o s=eAdd ⟨31,0,0,0,0,0,1+pG pl o.a⟩ {s with line:=o.line}:=by
  unfold eStep
  simp only [hk]
  simp [bm ha,nI]
  try rfl
 rw [he] at hf ⊢
 clear he
 have h1:=h.line o.line hl
 obtain ⟨ov,sv,lv,bv,B,i',pi,oa,oc,rfl⟩:=h.rules
 have j':=h.bd
 have Ea:=Zh (fun k (hk:F k)=>(h.inb hk).2)
 have xp:Kp F w (w.setCell ⟨M,4,none⟩ (iI o.line)):=(Kp.set w M 4 (iI o.line)).mono (fun k _ e=>by obtain ⟨_,_,_,_,_,hx⟩:=h;rw [e];exact hx.inF.1)
 refine Calls.mono ?_ (fun e W hh=>EmD.pre xp (a9 _ _ _) hh)
 have hsz:=a9 w ⟨M,4,none⟩ (iI o.line)
 have HB:=Zh (EmB.begin2 h1 o hsz)
 have B6: ∀j:Int,(o.kind==j)=((18:Int)==j):=fun j=>by rw [hk]
 have zP: ∀j:Int,decide (o.kind=j)=decide ((18:Int)=j):=fun j=>by rw [hk]
 have AM:=Zh hk
 generalize {s with line:=o.line}=s1 at*
 clear h hP hk xp
 unfold opC
 go_enter Tryz.func93,Tryz.ntmps93
 go_wp2_with fail
 generalize w.setCell ⟨M,4,none⟩ (iI o.line)=wl at*
 rw [<-hsz] at HB ⊢
 clear i' pi j' hsz
 obtain ⟨ov,sv,lv,bv,B,i',pi,oa,oc,rfl⟩:=h1.rules
 have j':=h1.bd
 have BS:=br ha
 (go_at_call 142;refine (CS.out _ _ _ (Zm:EmB _ _ _ _ wl _ _ _ _ _).a.em _ ha _).mono ?_;rintro e w1 ⟨rfl,p,rfl⟩)
 go_wp2_with fail
 (go_at_call 94;refine (cd _ (Zm:EmB _ _ _ _ wl _ _ _ _ _).a.em ⟨31,0,0,0,0,0,1+pG pl o.a⟩ hf).mono ?_;intro e w1 hD;have hN:=EmB.nx hD Zm;clear hD HB;(try clear i' pi j');obtain ⟨rfl,F2,sv,lv,bv,B,oa,oc,i',pi,j',HB⟩:=hN)
 go_wp2_with fail
 go_end0
 exact ZT
end
section
variable{w0 W W' w:qW}{M:Nat}{F F1:Nat->Prop}{pv:qV}{s:ES}{o:OpD}{K:Nat}{pl:List Int}{g c:Nat}
theorem rj(hP:PlB w0 pv pl g c)(w:qW)(h:Em w0 M F pv w s)(o:OpD)(hk:o.kind=14)(zF:rng o.tO)(hl:rng o.line)(hf:EFin (eStep pl o s)):qC 93 #[pP M,.agg (opC o).toArray] w (EmD w0 M F pv w (eStep pl o s) (.tuple #[])):=by
 have CS:=zCS (M:=M) hP
 have CT:=zCT (M:=M) hP
 have CK:=zCK (M:=M) hP
 have CF:=zCF (M:=M) hP
 have HP:=Zh hP
 have he:eStep pl o s={{s with line:=o.line} with labels:=(o.tO,({s with line:=o.line}.out.length:Int))::{s with line:=o.line}.labels}:=by
  unfold eStep
  simp only [hk]
  simp
  try rfl
 rw [he] at hf ⊢
 clear he
 have h1:=h.line o.line hl
 obtain ⟨ov,sv,lv,bv,B,i',pi,oa,oc,rfl⟩:=h.rules
 have j':=h.bd
 have Ea:=Zh (fun k (hk:F k)=>(h.inb hk).2)
 have xp:Kp F w (w.setCell ⟨M,4,none⟩ (iI o.line)):=(Kp.set w M 4 (iI o.line)).mono (fun k _ e=>by obtain ⟨_,_,_,_,_,hx⟩:=h;rw [e];exact hx.inF.1)
 refine Calls.mono ?_ (fun e W hh=>EmD.pre xp (a9 _ _ _) hh)
 have hsz:=a9 w ⟨M,4,none⟩ (iI o.line)
 have HB:=Zh (EmB.begin2 h1 o hsz)
 have B6: ∀j:Int,(o.kind==j)=((14:Int)==j):=fun j=>by rw [hk]
 have zP: ∀j:Int,decide (o.kind=j)=decide ((14:Int)=j):=fun j=>by rw [hk]
 have AM:=Zh hk
 generalize {s with line:=o.line}=s1 at*
 clear h hP hk xp
 unfold opC
 go_enter Tryz.func93,Tryz.ntmps93
 go_wp2_with fail
 generalize w.setCell ⟨M,4,none⟩ (iI o.line)=wl at*
 rw [<-hsz] at HB ⊢
 clear i' pi j' hsz
 obtain ⟨ov,sv,lv,bv,B,i',pi,oa,oc,rfl⟩:=h1.rules
 have j':=h1.bd
 have Bw:=hf.out
 have Bh:=hf.labels
 simp only [za2] at Bw Bh
 obtain ⟨NJ,NI⟩:=zF
 refine aS (R:=fun W=>EmB w0 M F pv wl W F s1 o wl.heap.size/\Kp (fun _=>False) wl W) ⟨HB.out,Kp.al _ _⟩ ?_
 clear i' pi j' HB
 rintro W ⟨hM,ze⟩
 obtain ⟨ov,sv,lv,bv,B,hx⟩:=hM.a.em
 obtain ⟨oa,oc,rfl, -⟩:=aC (hx.ob.own ⟨1,83,7,s1.out.length,s1.out.flatMap insC⟩ (by simp [emR]))
 have q1: ∀j,W.cell? (aB M j)=(#[pv,.slice oa s1.out.length oc,sv,lv,iI s1.line,.map (some B),bv,iI s1.e]:Array qV)[j]?:=aa hx.ob.out
 have qk: ∀i,W.cell? (aB wl.heap.size i)=(#[iI o.kind,iI o.dst,iI o.dst2,iI o.a,iI o.b,iI o.c,.int .u64 o.n,iI o.op,iI o.size,iI o.order,iI o.tO,iI o.site,iI o.line]:Array qV)[i]?:=aa hM.box
 have j':=hx.bd
 have yc:=ac hM.box
 have Px:B≠wl.heap.size:=fun e=>hM.no (e ▸ hx.inF.2)
 have HW:=Zh hx
 have yQ:=Zh ze
 clear hx hM ze
 have hA:(∀i,W.drew.cell? (aB wl.heap.size i)=(#[iI o.kind,iI o.dst,iI o.dst2,iI o.a,iI o.b,iI o.c,.int .u64 o.n,iI o.op,iI o.size,iI o.order,iI o.tO,iI o.site,iI o.line]:Array qV)[i]?)/\W.drew.cell? (aB M 1)=some (.slice oa s1.out.length oc)/\W.drew.cell? (aB M 5)=some (.map (some B)):=⟨qk,q1 1,q1 5⟩
 refine ae (fun W=>(∀i,W.cell? (aB wl.heap.size i)=(#[iI o.kind,iI o.dst,iI o.dst2,iI o.a,iI o.b,iI o.c,.int .u64 o.n,iI o.op,iI o.size,iI o.order,iI o.tO,iI o.site,iI o.line]:Array qV)[i]?)/\W.cell? (aB M 1)=some (.slice oa s1.out.length oc)/\W.cell? (aB M 5)=some (.map (some B))) (fun W=>True) 11 rfl ?_
 have hB:True:=trivial
 refine Zp 0 rfl (h:=Zp 1 rfl (h:=Zp 2 rfl (h:=Zt 3 rfl (h:=Zp 4 rfl (h:=Zt 5 rfl (h:=Zp 6 rfl (h:=Zp 7 rfl (h:=Zp 8 rfl (h:=Zt 9 rfl (h:=Zp 10 rfl (h:=?_)))))))))));try simp only [Zq]
 refine Zs 11 rfl fun K hK=>?_
 refine qP rfl _ _ _ rfl B s1.labels.length (eLook s1.labels) rfl (HW.out.map.keep (show W.drew.heap[B]?=W.heap[B]? from rfl)) (by unfold maxLen;omega) o.tO rfl (by simp [Lit.wf,IntKind.min,IntKind.max,IntKind.signed,IntKind.bits];omega) (s1.out.length:Int) rfl (by simp [Lit.wf,IntKind.min,IntKind.max,IntKind.signed,IntKind.bits];omega) ?_
 intro W2 J5 xb
 obtain ⟨hE,Hf⟩:=HW.out.label (Kp.dr W) J5 xb hf
 refine hK _ _ ⟨⟨fun i=>(Hf.cell yc (fun e=>Px e.symm)).trans (qk i),(Hf.cell j'.2.1 Za).trans (q1 1),(Hf.cell j'.2.1 Za).trans (q1 5)⟩,fun _=>trivial⟩ ?_
 refine af Zb ?_ _
 have HE:=Zh hE
 have Ig:=Zh Hf
 clear hE Hf J5 xb hK K hA qk q1
 go_wp2_with fail
 go_end0
 refine ⟨rfl,F,⟨_,_,_,_,_,HE.out⟩,(yQ.out.mono (fun _ _ e=>e.elim)).trans (Ig.out.mono (fun i _ e=>e ▸ HW.out.inF.2)),Rq.refl _ _⟩
end
end Go.Proofs.YtjmfoeajhiimnaaGreatDoor
