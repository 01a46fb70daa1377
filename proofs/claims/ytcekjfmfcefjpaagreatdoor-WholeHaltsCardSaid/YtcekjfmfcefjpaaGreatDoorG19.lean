/- Walks. No condition. -/
import Derived.Test.YtcekjfmfcefjpaaGreatDoorG18
set_option maxRecDepth 100000
set_option maxHeartbeats 0
set_option linter.all false
namespace Go.Proofs.YtcekjfmfcefjpaaGreatDoor
open Go.RowKit Go.Sort
theorem tD(op:Int)(w:qW):qC 223 #[iI op] w (Gives w (iI (ePlain op))):=by
 unfold ePlain
 go_enter Tryz.func223,Tryz.ntmps223
 go_wp2_with fail
 all_goals
  go_ret
  refine Gives.mk ?_ (zaa _ _)
  simp_all
theorem ydW(op:Int)(w:qW):qC 224 #[iI op] w (Gives w (iI (eCond op))):=by
 unfold eCond
 go_enter Tryz.func224,Tryz.ntmps224
 go_wp2_with fail
 all_goals
  go_ret
  refine Gives.mk ?_ (zaa _ _)
  simp_all
theorem iw(b:Bool)(x y:Int)(w:qW):qC 226 #[.bool b,iI x,iI y] w (Gives w (iI (if b then x else y))):=by
 cases b
 all_goals
  go_enter Tryz.func226,Tryz.ntmps226
  go_wp2_with fail
  go_ret
  exact Gives.mk rfl (zaa _ _)
theorem n9(o:Int)(w:qW):qC 227 #[iI o] w (Gives w (.bool (oAcq o))):=by
 unfold oAcq
 go_enter Tryz.func227,Tryz.ntmps227
 go_wp2_with fail
 all_goals
  go_ret
  refine Gives.mk ?_ (zaa _ _)
  first|rfl|(simp_all;done)|(simp_all;rfl)
theorem jU(o:Int)(w:qW):qC 229 #[iI o] w (Gives w (.bool (oRel o))):=by
 unfold oRel
 go_enter Tryz.func229,Tryz.ntmps229
 go_wp2_with fail
 all_goals
  go_ret
  refine Gives.mk ?_ (zaa _ _)
  first|rfl|(simp_all;done)|(simp_all;rfl)
theorem jD(n:Int)(h:n=1\/n=2\/n=4\/n=8\/n=16)(w:qW):qC 228 #[iI n] w (Gives w (iI (eSize n))):=by
 rcases h with rfl|rfl|rfl|rfl|rfl
 ·go_enter Tryz.func228,Tryz.ntmps228
  go_wp2_with fail
  refine zao 1 ?_
  rw [zap]
  go_wp2_with fail
  go_ret
  exact Gives.mk rfl (zaa _ _)
 ·go_enter Tryz.func228,Tryz.ntmps228
  go_wp2_with fail
  refine zao 2 ?_
  iterate 1 (rw [zap];go_wp2_with fail)
  rw [zap]
  go_wp2_with fail
  go_ret
  exact Gives.mk rfl (zaa _ _)
 ·go_enter Tryz.func228,Tryz.ntmps228
  go_wp2_with fail
  refine zao 3 ?_
  iterate 2 (rw [zap];go_wp2_with fail)
  rw [zap]
  go_wp2_with fail
  go_ret
  exact Gives.mk rfl (zaa _ _)
 ·go_enter Tryz.func228,Tryz.ntmps228
  go_wp2_with fail
  refine zao 4 ?_
  iterate 3 (rw [zap];go_wp2_with fail)
  rw [zap]
  go_wp2_with fail
  go_ret
  exact Gives.mk rfl (zaa _ _)
 ·go_enter Tryz.func228,Tryz.ntmps228
  go_wp2_with fail
  refine zao 5 ?_
  iterate 4 (rw [zap];go_wp2_with fail)
  rw [zap]
  go_wp2_with fail
  go_ret
  exact Gives.mk rfl (zaa _ _)
section
variable{w0 W W' w:qW}{M:Nat}{F F1:Nat->Prop}{pv:qV}{s:ES}
theorem nP(w:qW)(h:Em w0 M F pv w s)(tp:Int)(h0:0<=tp)(h1:tp<=300000)(hf:EFin (eBack tp s)):qC 230 #[pP M,iI tp] w (EmD w0 M F pv w (eBack tp s) (.tuple #[])):=by
 have zI:=(ELe.add _ _).fin hf
 have Bt:=zI.out
 obtain ⟨ov,sv,lv,bv,B,i',pi,oa,oc,rfl⟩:=h.rules
 have j':=h.bd
 have HM:=Zh (EmA.begin h)
 clear h zI
 go_enter Tryz.func230,Tryz.ntmps230
 go_wp2_with (go_at_call 122;refine (ch _ (ZY:EmA _ _ _ _ w _ _ _).em ⟨16,13,0,0,0,0,tp-s.out.length⟩ hf).mono ?_;intro e w1 hD;obtain rfl:=hD.1;obtain ⟨F2,hM, -, -⟩:=EmA.next ZY hD;clear hD;(try clear i');(try clear pi);(try clear j');obtain ⟨ov,sv,lv,bv,B,i',pi,oa,oc,rfl⟩:=hM.em.rules;have j':=hM.em.bd;replace HM:=Zh hM;clear hM)
 go_end0
 exact Z0_
end
section
variable{w0 W W' w:qW}{M:Nat}{F F1:Nat->Prop}{pv:qV}{s:ES}{o:OpD}{K:Nat}{pl:List Int}{g c:Nat}
theorem yeF(hP:PlB w0 pv pl g c)(w:qW)(h:Em w0 M F pv w s)(o:OpD)(ha:plR pl o.a)(hb:plR pl o.b)(hd:plR pl o.dst)(hf:EFin (eBin pl o s)):qC 166 #[pP M,.agg (opC o).toArray] w (EmD w0 M F pv w (eBin pl o s) (.tuple #[])):=by
 have CS:=zCS (M:=M) hP
 have CT:=zCT (M:=M) hP
 have CK:=zCK (M:=M) hP
 have CF:=zCF (M:=M) hP
 have he:eBin pl o s=(if ePlain o.op≠0 then eAdd ⟨ePlain o.op,pG pl o.dst,pG pl o.a,pG pl o.b,0,0,0⟩ s else eAdd ⟨12,pG pl o.dst,0,0,eCond o.op,0,0⟩ (eAdd ⟨5,31,pG pl o.a,pG pl o.b,0,0,0⟩ s)):=by
  unfold eBin
  simp only [bn ha,bn hb,eE hd,eF hd]
  rfl
 rw [he] at hf ⊢
 clear he
 have HB:=Zh (show EmB w0 M F pv w (w.alloc (.cells #[iI o.kind,iI o.dst,iI o.dst2,iI o.a,iI o.b,iI o.c,.int .u64 o.n,iI o.op,iI o.size,iI o.order,iI o.to,iI o.site,iI o.line] 250)) F s o w.heap.size from EmB.begin h o)
 obtain ⟨ov,sv,lv,bv,B,i',pi,oa,oc,rfl⟩:=h.rules
 have j':=h.bd
 have Cx:=bt ha
 have NJ:=bt hb
 have Jk:=bt hd
 have CP:=Zh (fun W=>tD o.op W)
 have CC:=Zh (fun W=>ydW o.op W)
 generalize ePlain o.op=q at*
 generalize eCond o.op=cc at*
 by_cases hq:q=0
 ·subst hq
  rw [if_neg Zi] at hf ⊢
  have xR:=(ELe.add _ _).fin hf
  clear h hP
  unfold opC
  go_enter Tryz.func166,Tryz.ntmps166
  go_wp2_with fail
  refine ae (fun W=> ∀i,W.cell? (aB w.heap.size i)=(#[iI o.kind,iI o.dst,iI o.dst2,iI o.a,iI o.b,iI o.c,.int .u64 o.n,iI o.op,iI o.size,iI o.order,iI o.to,iI o.site,iI o.line]:Array qV)[i]?) (fun W=>True) 3 rfl ?_
  refine Zp 0 rfl (h:=Zp 1 rfl (h:=Zt 2 rfl (h:=Zp 4 rfl (h:=Zp 5 rfl (h:=Zt 6 rfl (h:=Zp 8 rfl (h:=Zp 9 rfl (h:=Zt 10 rfl (h:=?_)))))))));try simp only [Zq]
  refine Zs 3 rfl fun K hK=>?_
  go_simp
  (go_at_call 165;refine (CS.out _ _ _ (Zm:EmB _ _ _ _ w _ _ _ _ _).a.em _ ha _).mono ?_;rintro e w1 ⟨rfl,p,rfl⟩)
  refine hK _ _ Zw ?_
  clear hK K
  refine Zs 7 rfl fun K hK=>?_
  go_simp
  (go_at_call 165;refine (CS.out _ _ _ (Zm:EmB _ _ _ _ w _ _ _ _ _).a.em _ hb _).mono ?_;rintro e w1 ⟨rfl,p,rfl⟩)
  refine hK _ _ Zw ?_
  clear hK K
  refine Zs 11 rfl fun K hK=>?_
  go_simp
  (go_at_call 162;refine (CT.out _ _ _ (Zm:EmB _ _ _ _ w _ _ _ _ _).a.em _ hd 11).mono ?_;rintro e w1 ⟨rfl,p,rfl⟩)
  refine hK _ _ Zw ?_
  clear hK K
  refine Zs 12 rfl fun K hK=>?_
  go_simp
  try simp [go_sem,↓IntWalk.iteOmega]
  refine hK _ _ Zw ?_
  clear hK K
  refine Zs 13 rfl fun K hK=>?_
  go_simp
  try simp [go_sem,↓IntWalk.iteOmega]
  refine hK _ _ Zw ?_
  clear hK K
  refine Zs 14 rfl fun K hK=>?_
  go_simp
  try simp [go_sem,↓IntWalk.iteOmega]
  refine hK _ _ Zw ?_
  clear hK K
  refine af Zb ?_ _
  go_wp2_with fail
  (go_at_call 223;refine (CP.out _).mono ?_;rintro e w1 ⟨rfl,p,rfl⟩)
  go_wp2_with fail
  (go_at_call 122;refine (ch _ (Zm:EmB _ _ _ _ w _ _ _ _ _).a.em ⟨5,31,pG pl o.a,pG pl o.b,0,0,0⟩ xR).mono ?_;intro e w1 hD;have hN:=EmB.nx hD Zm;clear hD HB;(try clear i' pi j');obtain ⟨rfl,F2,sv,lv,bv,B,oa,oc,i',pi,j',HB⟩:=hN)
  go_wp2_with fail
  (go_at_call 224;refine (CC.out _).mono ?_;rintro e w1 ⟨rfl,p,rfl⟩)
  go_wp2_with fail
  (go_at_call 122;refine (ch _ (Zm:EmB _ _ _ _ w _ _ _ _ _).a.em ⟨12,pG pl o.dst,0,0,cc,0,0⟩ hf).mono ?_;intro e w1 hD;have hN:=EmB.nx hD Zm;clear hD HB;(try clear i' pi j');obtain ⟨rfl,F2,sv,lv,bv,B,oa,oc,i',pi,j',HB⟩:=hN)
  go_wp2_with fail
  (go_at_call 163;refine (CK.out _ _ _ (Zm:EmB _ _ _ _ w _ _ _ _ _).a.em _ hd _).mono ?_;rintro e w1 ⟨rfl,p,rfl⟩)
  go_wp2_with fail
  go_end0
  exact ZS
 ·rw [if_pos hq] at hf ⊢
  clear h hP
  unfold opC
  go_enter Tryz.func166,Tryz.ntmps166
  go_wp2_with fail
  refine ae (fun W=> ∀i,W.cell? (aB w.heap.size i)=(#[iI o.kind,iI o.dst,iI o.dst2,iI o.a,iI o.b,iI o.c,.int .u64 o.n,iI o.op,iI o.size,iI o.order,iI o.to,iI o.site,iI o.line]:Array qV)[i]?) (fun W=>True) 3 rfl ?_
  refine Zp 0 rfl (h:=Zp 1 rfl (h:=Zt 2 rfl (h:=Zp 4 rfl (h:=Zp 5 rfl (h:=Zt 6 rfl (h:=Zp 8 rfl (h:=Zp 9 rfl (h:=Zt 10 rfl (h:=?_)))))))));try simp only [Zq]
  refine Zs 3 rfl fun K hK=>?_
  go_simp
  (go_at_call 165;refine (CS.out _ _ _ (Zm:EmB _ _ _ _ w _ _ _ _ _).a.em _ ha _).mono ?_;rintro e w1 ⟨rfl,p,rfl⟩)
  refine hK _ _ Zw ?_
  clear hK K
  refine Zs 7 rfl fun K hK=>?_
  go_simp
  (go_at_call 165;refine (CS.out _ _ _ (Zm:EmB _ _ _ _ w _ _ _ _ _).a.em _ hb _).mono ?_;rintro e w1 ⟨rfl,p,rfl⟩)
  refine hK _ _ Zw ?_
  clear hK K
  refine Zs 11 rfl fun K hK=>?_
  go_simp
  (go_at_call 162;refine (CT.out _ _ _ (Zm:EmB _ _ _ _ w _ _ _ _ _).a.em _ hd 11).mono ?_;rintro e w1 ⟨rfl,p,rfl⟩)
  refine hK _ _ Zw ?_
  clear hK K
  refine Zs 12 rfl fun K hK=>?_
  go_simp
  try simp [go_sem,↓IntWalk.iteOmega]
  refine hK _ _ Zw ?_
  clear hK K
  refine Zs 13 rfl fun K hK=>?_
  go_simp
  try simp [go_sem,↓IntWalk.iteOmega]
  refine hK _ _ Zw ?_
  clear hK K
  refine Zs 14 rfl fun K hK=>?_
  go_simp
  try simp [go_sem,↓IntWalk.iteOmega]
  refine hK _ _ Zw ?_
  clear hK K
  refine af Zb ?_ _
  go_wp2_with fail
  (go_at_call 223;refine (CP.out _).mono ?_;rintro e w1 ⟨rfl,p,rfl⟩)
  go_wp2_with fail
  (go_at_call 122;refine (ch _ (Zm:EmB _ _ _ _ w _ _ _ _ _).a.em ⟨q,pG pl o.dst,pG pl o.a,pG pl o.b,0,0,0⟩ hf).mono ?_;intro e w1 hD;have hN:=EmB.nx hD Zm;clear hD HB;(try clear i' pi j');obtain ⟨rfl,F2,sv,lv,bv,B,oa,oc,i',pi,j',HB⟩:=hN)
  go_wp2_with fail
  (go_at_call 163;refine (CK.out _ _ _ (Zm:EmB _ _ _ _ w _ _ _ _ _).a.em _ hd _).mono ?_;rintro e w1 ⟨rfl,p,rfl⟩)
  go_wp2_with fail
  go_end0
  exact ZS
theorem yff(hP:PlB w0 pv pl g c)(w:qW)(h:Em w0 M F pv w s)(o:OpD)(ha:plR pl o.a)(hn:o.n<18446744073709551616)(hf:EFin ((eAddr pl o s).2)):qC 225 #[pP M,.agg (opC o).toArray] w (EmD w0 M F pv w ((eAddr pl o s).2) (iI (eAddr pl o s).1)):=by
 have CS:=zCS (M:=M) hP
 have CT:=zCT (M:=M) hP
 have CK:=zCK (M:=M) hP
 have CF:=zCF (M:=M) hP
 have he:eAddr pl o s=(if o.n=0 then (pG pl o.a,s) else (8,eAdd ⟨3,8,pG pl o.a,14,0,0,0⟩ (eCst 14 o.n s))):=by
  unfold eAddr
  simp only [bn ha]
  rfl
 rw [he] at hf ⊢
 clear he
 have HB:=Zh (show EmB w0 M F pv w (w.alloc (.cells #[iI o.kind,iI o.dst,iI o.dst2,iI o.a,iI o.b,iI o.c,.int .u64 o.n,iI o.op,iI o.size,iI o.order,iI o.to,iI o.site,iI o.line] 250)) F s o w.heap.size from EmB.begin h o)
 obtain ⟨ov,sv,lv,bv,B,i',pi,oa,oc,rfl⟩:=h.rules
 have j':=h.bd
 have Cx:=bt ha
 by_cases hz:o.n=0
 ·rw [if_pos hz] at hf ⊢
  have xm:((o.n:Int)==0)=true:=by simp [hz]
  have xk:decide ((o.n:Int)=0)=true:=by simp [hz]
  clear hz
  clear h hP
  unfold opC
  go_enter Tryz.func225,Tryz.ntmps225
  go_wp2_with fail
  (go_at_call 165;refine (CS.out _ _ _ (Zm:EmB _ _ _ _ w _ _ _ _ _).a.em _ ha _).mono ?_;rintro e w1 ⟨rfl,p,rfl⟩)
  go_wp2_with fail
  go_ret
  exact ZS
 ·rw [if_neg hz] at hf ⊢
  have xR:=(ELe.add _ _).fin hf
  have xm:((o.n:Int)==0)=false:=by simpa using hz
  have xk:decide ((o.n:Int)=0)=false:=by simpa using hz
  clear hz
  clear h hP
  unfold opC
  go_enter Tryz.func225,Tryz.ntmps225
  go_wp2_with fail
  (go_at_call 165;refine (CS.out _ _ _ (Zm:EmB _ _ _ _ w _ _ _ _ _).a.em _ ha _).mono ?_;rintro e w1 ⟨rfl,p,rfl⟩)
  go_wp2_with fail
  (go_at_call 120;refine (iB _ (Zm:EmB _ _ _ _ w _ _ _ _ _).a.em 14 o.n hn xR).mono ?_;intro e w1 hD;have hN:=EmB.nx hD Zm;clear hD HB;(try clear i' pi j');obtain ⟨rfl,F2,sv,lv,bv,B,oa,oc,i',pi,j',HB⟩:=hN)
  go_wp2_with fail
  (go_at_call 122;refine (ch _ (Zm:EmB _ _ _ _ w _ _ _ _ _).a.em ⟨3,8,pG pl o.a,14,0,0,0⟩ hf).mono ?_;intro e w1 hD;have hN:=EmB.nx hD Zm;clear hD HB;(try clear i' pi j');obtain ⟨rfl,F2,sv,lv,bv,B,oa,oc,i',pi,j',HB⟩:=hN)
  go_wp2_with fail
  go_ret
  exact ZS
end
section
variable{w0 W W' w:qW}{M:Nat}{F F1:Nat->Prop}{pv:qV}{s:ES}{o:OpD}{K:Nat}{pl:List Int}{g c:Nat}
theorem ydy(ha:plR pl o.a)(s:ES):0<=(eAddr pl o s).1/\(eAddr pl o s).1<=100:=by
 have:=bt ha
 unfold eAddr
 simp only [bn ha]
 split
 ·exact this
 ·exact ⟨show (0:Int)<=8 by decide,show (8:Int)<=100 by decide⟩
theorem nc(n:Int):0<=eSize n/\eSize n<=4:=by
 unfold eSize
 repeat (split;exact ⟨by decide,by decide⟩)
 exact ⟨by decide,by decide⟩
theorem pI(hP:PlB w0 pv pl g c)(w:qW)(h:Em w0 M F pv w s)(o:OpD)(ha:plR pl o.a)(hd:plR pl o.b)(hn:o.n<18446744073709551616)(hz:o.size=1\/o.size=2\/o.size=4\/o.size=8\/o.size=16)(hf:EFin (eStore pl o s)):qC 168 #[pP M,.agg (opC o).toArray] w (EmD w0 M F pv w (eStore pl o s) (.tuple #[])):=by
 have CS:=zCS (M:=M) hP
 have CT:=zCT (M:=M) hP
 have CK:=zCK (M:=M) hP
 have CF:=zCF (M:=M) hP
 have he:eStore pl o s=eAt o.site ⟨if oRel o.order then 20 else 18,pG pl o.b,(eAddr pl o s).1,0,0,eSize o.size,0⟩ (eAddr pl o s).2:=by
  unfold eStore
  simp only [bn hd]
  rfl
 rw [he] at hf ⊢
 clear he
 have HB:=Zh (show EmB w0 M F pv w (w.alloc (.cells #[iI o.kind,iI o.dst,iI o.dst2,iI o.a,iI o.b,iI o.c,.int .u64 o.n,iI o.op,iI o.size,iI o.order,iI o.to,iI o.site,iI o.line] 250)) F s o w.heap.size from EmB.begin h o)
 obtain ⟨ov,sv,lv,bv,B,i',pi,oa,oc,rfl⟩:=h.rules
 have j':=h.bd
 have xR:=(ELe.at_ _ _ _).fin hf
 have CA:=Zh (fun W (hM:Em w0 M F pv W s)=>yff hP W hM o ha hn xR)
 have hra:=ydy ha s
 generalize eAddr pl o s=ad at*
 have Jk:=bt hd
 have CQ:=Zh (fun W=>n9 o.order W)
 have CR:=Zh (fun W=>jU o.order W)
 have CZ:=Zh (fun W=>jD o.size hz W)
 have hsz:=nc o.size
 generalize eSize o.size=z at*
 have CEa:=Zh (fun W=>iw (oRel o.order) 20 18 W)
 generalize (if (oRel o.order)=true then (20:Int) else 18)=rd at*
 generalize oRel o.order=aq at*
 clear h hP
 unfold opC
 go_enter Tryz.func168,Tryz.ntmps168
 go_wp2_with fail
 refine ae (fun W=> ∀i,W.cell? (aB w.heap.size i)=(#[iI o.kind,iI o.dst,iI o.dst2,iI o.a,iI o.b,iI o.c,.int .u64 o.n,iI o.op,iI o.size,iI o.order,iI o.to,iI o.site,iI o.line]:Array qV)[i]?) (fun W=>True) 2 rfl ?_
 refine Zp 0 rfl (h:=Zt 1 rfl (h:=Zp 3 rfl (h:=Zp 4 rfl (h:=Zt 5 rfl (h:=?_)))));try simp only [Zq]
 refine Zs 2 rfl fun K hK=>?_
 go_simp
 (go_at_call 225;refine (CA.out _ (Zm:EmB _ _ _ _ w _ _ _ _ _).a.em).mono ?_;intro e w1 hD;have hN:=EmB.nx hD Zm;clear hD HB;(try clear i' pi j');obtain ⟨rfl,F2,sv,lv,bv,B,oa,oc,i',pi,j',HB⟩:=hN)
 refine hK _ _ Zw ?_
 clear hK K
 refine Zs 6 rfl fun K hK=>?_
 go_simp
 (go_at_call 165;refine (CS.out _ _ _ (Zm:EmB _ _ _ _ w _ _ _ _ _).a.em _ hd _).mono ?_;rintro e w1 ⟨rfl,p,rfl⟩)
 refine hK _ _ Zw ?_
 clear hK K
 refine Zs 7 rfl fun K hK=>?_
 go_simp
 try simp [go_sem,↓IntWalk.iteOmega]
 refine hK _ _ Zw ?_
 clear hK K
 refine Zs 8 rfl fun K hK=>?_
 go_simp
 try simp [go_sem,↓IntWalk.iteOmega]
 refine hK _ _ Zw ?_
 clear hK K
 refine af Zb ?_ _
 go_wp2_with fail
 refine ae (fun W=> ∀i,W.cell? (aB w.heap.size i)=(#[iI o.kind,iI o.dst,iI o.dst2,iI o.a,iI o.b,iI o.c,.int .u64 o.n,iI o.op,iI o.size,iI o.order,iI o.to,iI o.site,iI o.line]:Array qV)[i]?) (fun W=>True) 5 rfl ?_
 refine Zp 0 rfl (h:=Zp 1 rfl (h:=Zt 2 rfl (h:=Zp 3 rfl (h:=Zt 4 rfl (h:=Zp 7 rfl (h:=Zp 8 rfl (h:=Zp 9 rfl (h:=Zt 10 rfl (h:=?_)))))))));try simp only [Zq]
 refine Zs 5 rfl fun K hK=>?_
 go_simp
 (go_at_call 229;refine (CR.out _).mono ?_;rintro e w1 ⟨rfl,p,rfl⟩)
 refine hK _ _ Zw ?_
 clear hK K
 refine Zs 6 rfl fun K hK=>?_
 go_simp
 (go_at_call 226;refine (CEa.out _).mono ?_;rintro e w1 ⟨rfl,p,rfl⟩)
 refine hK _ _ Zw ?_
 clear hK K
 refine Zs 11 rfl fun K hK=>?_
 go_simp
 (go_at_call 228;refine (CZ.out _).mono ?_;rintro e w1 ⟨rfl,p,rfl⟩)
 refine hK _ _ Zw ?_
 clear hK K
 refine Zp 12 rfl (h:=?_);try simp only [Zq]
 refine Zs 13 rfl fun K hK=>?_
 go_simp
 (go_at_call 172;refine (cV _ (Zm:EmB _ _ _ _ w _ _ _ _ _).a.em o.site ⟨rd,pG pl o.b,ad.1,0,0,z,0⟩ hf).mono ?_;intro e w1 hD;have hN:=EmB.nx hD Zm;clear hD HB;(try clear i' pi j');obtain ⟨rfl,F2,sv,lv,bv,B,oa,oc,i',pi,j',HB⟩:=hN)
 refine hK _ _ Zw ?_
 clear hK K
 refine af Zb ?_ _
 go_wp2_with fail
 go_end0
 exact ZS
end
section
variable{w0 W W' w:qW}{M:Nat}{F F1:Nat->Prop}{pv:qV}{s:ES}{o:OpD}{K:Nat}{pl:List Int}{g c:Nat}
theorem yd9(hP:PlB w0 pv pl g c)(w:qW)(h:Em w0 M F pv w s)(o:OpD)(ha:plR pl o.a)(hb:plR pl o.b)(hd:plR pl o.dst)(hz:o.size=1\/o.size=2\/o.size=4\/o.size=8\/o.size=16)(hf:EFin (eChange pl o s)):qC 169 #[pP M,.agg (opC o).toArray] w (EmD w0 M F pv w (eChange pl o s) (.tuple #[])):=by
 have CS:=zCS (M:=M) hP
 have CT:=zCT (M:=M) hP
 have CK:=zCK (M:=M) hP
 have CF:=zCF (M:=M) hP
 have he:eChange pl o s=eMove (pG pl o.dst) 14 (eBack s.out.length (eAt o.site ⟨if oRel o.order then 24 else 23,if o.kind=8 then 12 else pG pl o.b,pG pl o.a,13,0,eSize o.size,0⟩ (if o.kind=8 then eAdd ⟨3,12,14,pG pl o.b,0,0,0⟩ (eAt o.site ⟨if oAcq o.order then 22 else 21,14,pG pl o.a,0,0,eSize o.size,0⟩ s) else eAt o.site ⟨if oAcq o.order then 22 else 21,14,pG pl o.a,0,0,eSize o.size,0⟩ s))):=by
  unfold eChange
  simp only [bn ha,bn hb,fA hd]
  rfl
 rw [he] at hf ⊢
 clear he
 have HB:=Zh (show EmB w0 M F pv w (w.alloc (.cells #[iI o.kind,iI o.dst,iI o.dst2,iI o.a,iI o.b,iI o.c,.int .u64 o.n,iI o.op,iI o.size,iI o.order,iI o.to,iI o.site,iI o.line] 250)) F s o w.heap.size from EmB.begin h o)
 obtain ⟨ov,sv,lv,bv,B,i',pi,oa,oc,rfl⟩:=h.rules
 have j':=h.bd
 have Cx:=bt ha
 have NJ:=bt hb
 have Jk:=bt hd
 have CQ:=Zh (fun W=>n9 o.order W)
 have CR:=Zh (fun W=>jU o.order W)
 have CZ:=Zh (fun W=>jD o.size hz W)
 have hsz:=nc o.size
 generalize eSize o.size=z at*
 have CEa:=Zh (fun W=>iw (oAcq o.order) 22 21 W)
 generalize (if (oAcq o.order)=true then (22:Int) else 21)=rd at*
 generalize oAcq o.order=aq at*
 have CEr:=Zh (fun W=>iw (oRel o.order) 24 23 W)
 generalize (if (oRel o.order)=true then (24:Int) else 23)=wr at*
 generalize oRel o.order=rl at*
 generalize hOL:s.out.length=OL at*
 by_cases hk:o.kind=8
 ·rw [if_pos hk,if_pos hk] at hf ⊢
  have wT:(o.kind==8)=true:=by simpa using hk
  have xT:decide (o.kind=8)=true:=by simpa using hk
  clear hk
  have B5:=(ELe.add _ _).fin hf
  have Ax:=(ELe.add _ _).fin B5
  have yE:=(ELe.at_ _ _ _).fin Ax
  have xR:=(ELe.add _ _).fin yE
  have Bt:=((ELe.at_ _ _ _).fin xR).out
  have Dg:OL<=200000:=by omega
  clear Bt
  clear h hP
  unfold opC
  go_enter Tryz.func169,Tryz.ntmps169
  go_wp2_with fail
  refine ae (fun W=> ∀i,W.cell? (aB w.heap.size i)=(#[iI o.kind,iI o.dst,iI o.dst2,iI o.a,iI o.b,iI o.c,.int .u64 o.n,iI o.op,iI o.size,iI o.order,iI o.to,iI o.site,iI o.line]:Array qV)[i]?) (fun W=>True) 3 rfl ?_
  refine Zp 0 rfl (h:=Zp 1 rfl (h:=Zt 2 rfl (h:=Zp 4 rfl (h:=Zp 5 rfl (h:=Zt 6 rfl (h:=?_))))));try simp only [Zq]
  refine Zs 3 rfl fun K hK=>?_
  go_simp
  (go_at_call 165;refine (CS.out _ _ _ (Zm:EmB _ _ _ _ w _ _ _ _ _).a.em _ ha _).mono ?_;rintro e w1 ⟨rfl,p,rfl⟩)
  refine hK _ _ Zw ?_
  clear hK K
  refine Zs 7 rfl fun K hK=>?_
  go_simp
  (go_at_call 165;refine (CS.out _ _ _ (Zm:EmB _ _ _ _ w _ _ _ _ _).a.em _ hb _).mono ?_;rintro e w1 ⟨rfl,p,rfl⟩)
  refine hK _ _ Zw ?_
  clear hK K
  refine Zs 8 rfl fun K hK=>?_
  go_simp
  try simp [go_sem,↓IntWalk.iteOmega]
  refine hK _ _ Zw ?_
  clear hK K
  refine Zs 9 rfl fun K hK=>?_
  go_simp
  try simp [go_sem,↓IntWalk.iteOmega]
  refine hK _ _ Zw ?_
  clear hK K
  refine af Zb ?_ _
  go_wp2_with fail
  refine ae (fun W=> ∀i,W.cell? (aB w.heap.size i)=(#[iI o.kind,iI o.dst,iI o.dst2,iI o.a,iI o.b,iI o.c,.int .u64 o.n,iI o.op,iI o.size,iI o.order,iI o.to,iI o.site,iI o.line]:Array qV)[i]?) (fun W=>True) 2 rfl ?_
  refine Zp 0 rfl (h:=Zt 1 rfl (h:=Zp 4 rfl (h:=Zt 5 rfl (h:=?_))));try simp only [Zq]
  refine Zs 2 rfl fun K hK=>?_
  go_simp
  (go_at_call 227;refine (CQ.out _).mono ?_;rintro e w1 ⟨rfl,p,rfl⟩)
  refine hK _ _ Zw ?_
  clear hK K
  refine Zs 3 rfl fun K hK=>?_
  go_simp
  (go_at_call 226;refine (CEa.out _).mono ?_;rintro e w1 ⟨rfl,p,rfl⟩)
  refine hK _ _ Zw ?_
  clear hK K
  refine Zs 6 rfl fun K hK=>?_
  go_simp
  (go_at_call 229;refine (CR.out _).mono ?_;rintro e w1 ⟨rfl,p,rfl⟩)
  refine hK _ _ Zw ?_
  clear hK K
  refine Zs 7 rfl fun K hK=>?_
  go_simp
  (go_at_call 226;refine (CEr.out _).mono ?_;rintro e w1 ⟨rfl,p,rfl⟩)
  refine hK _ _ Zw ?_
  clear hK K
  refine Zs 8 rfl fun K hK=>?_
  go_simp
  try simp [go_sem,↓IntWalk.iteOmega]
  refine hK _ _ Zw ?_
  clear hK K
  refine Zs 9 rfl fun K hK=>?_
  go_simp
  try simp [go_sem,↓IntWalk.iteOmega]
  refine hK _ _ Zw ?_
  clear hK K
  refine af Zb ?_ _
  go_wp2_with fail
  refine ae (fun W=>(∀i,W.cell? (aB w.heap.size i)=(#[iI o.kind,iI o.dst,iI o.dst2,iI o.a,iI o.b,iI o.c,.int .u64 o.n,iI o.op,iI o.size,iI o.order,iI o.to,iI o.site,iI o.line]:Array qV)[i]?)/\W.cell? (aB M 1)=some (.slice oa OL oc)) (fun W=>True) 7 rfl ?_
  refine Zp 0 rfl (hS:=⟨ZN,fun _=>trivial⟩) (h:=Zp 1 rfl (hS:=⟨ZN,fun _=>trivial⟩) (h:=Zp 2 rfl (hS:=⟨ZN,fun _=>trivial⟩) (h:=Zt 3 rfl (hS:=⟨ZN,fun _=>trivial⟩) (h:=Zp 4 rfl (hS:=⟨ZN,fun _=>trivial⟩) (h:=Zp 5 rfl (hS:=⟨ZN,fun _=>trivial⟩) (h:=Zt 6 rfl (hS:=⟨ZN,fun _=>trivial⟩) (h:=Zp 8 rfl (hS:=⟨ZN,fun _=>trivial⟩) (h:=?_))))))));try simp only [Zq]
  refine Zs 7 rfl fun K hK=>?_
  go_simp
  (go_at_call 228;refine (CZ.out _).mono ?_;rintro e w1 ⟨rfl,p,rfl⟩)
  refine hK _ _ ⟨ZN,fun _=>trivial⟩ ?_
  clear hK K
  refine Zs 9 rfl fun K hK=>?_
  go_simp
  try simp [go_sem,↓IntWalk.iteOmega]
  refine hK _ _ ⟨ZN,fun _=>trivial⟩ ?_
  clear hK K
  refine Zs 10 rfl fun K hK=>?_
  go_simp
  try simp [go_sem,↓IntWalk.iteOmega]
  refine hK _ _ ⟨ZN,fun _=>trivial⟩ ?_
  clear hK K
  refine Zs 11 rfl fun K hK=>?_
  go_simp
  try simp [go_sem,↓IntWalk.iteOmega]
  refine hK _ _ ⟨ZN,fun _=>trivial⟩ ?_
  clear hK K
  refine af Zb ?_ _
  go_wp2_with fail
  (go_at_call 172;refine (cV _ (Zm:EmB _ _ _ _ w _ _ _ _ _).a.em o.site ⟨rd,14,pG pl o.a,0,0,z,0⟩ xR).mono ?_;intro e w1 hD;have hN:=EmB.nx hD Zm;clear hD HB;(try clear i' pi j');obtain ⟨rfl,F2,sv,lv,bv,B,oa,oc,i',pi,j',HB⟩:=hN)
  go_wp2_with fail
  (go_at_call 122;refine (ch _ (Zm:EmB _ _ _ _ w _ _ _ _ _).a.em ⟨3,12,14,pG pl o.b,0,0,0⟩ yE).mono ?_;intro e w1 hD;have hN:=EmB.nx hD Zm;clear hD HB;(try clear i' pi j');obtain ⟨rfl,F2,sv,lv,bv,B,oa,oc,i',pi,j',HB⟩:=hN)
  go_wp2_with fail
  (go_at_call 172;refine (cV _ (Zm:EmB _ _ _ _ w _ _ _ _ _).a.em o.site ⟨wr,12,pG pl o.a,13,0,z,0⟩ Ax).mono ?_;intro e w1 hD;have hN:=EmB.nx hD Zm;clear hD HB;(try clear i' pi j');obtain ⟨rfl,F2,sv,lv,bv,B,oa,oc,i',pi,j',HB⟩:=hN)
  go_wp2_with fail
  (go_at_call 230;refine (nP _ (Zm:EmB _ _ _ _ w _ _ _ _ _).a.em OL Za Za B5).mono ?_;intro e w1 hD;have hN:=EmB.nx hD Zm;clear hD HB;(try clear i' pi j');obtain ⟨rfl,F2,sv,lv,bv,B,oa,oc,i',pi,j',HB⟩:=hN)
  go_wp2_with fail
  (go_at_call 164;refine (CF.out _ _ _ (Zm:EmB _ _ _ _ w _ _ _ _ _).a.em _ hd 14 hf).mono ?_;intro e w1 hD;have hN:=EmB.nx hD Zm;clear hD HB;(try clear i' pi j');obtain ⟨rfl,F2,sv,lv,bv,B,oa,oc,i',pi,j',HB⟩:=hN)
  go_wp2_with fail
  go_end0
  exact ZS
 ·rw [if_neg hk,if_neg hk] at hf ⊢
  have wT:(o.kind==8)=false:=by simpa using hk
  have xT:decide (o.kind=8)=false:=by simpa using hk
  clear hk
  have B5:=(ELe.add _ _).fin hf
  have Ax:=(ELe.add _ _).fin B5
  have yE:=(ELe.at_ _ _ _).fin Ax
  have Bt:=((ELe.at_ _ _ _).fin yE).out
  have Dg:OL<=200000:=by omega
  clear Bt
  clear h hP
  unfold opC
  go_enter Tryz.func169,Tryz.ntmps169
  go_wp2_with fail
  refine ae (fun W=> ∀i,W.cell? (aB w.heap.size i)=(#[iI o.kind,iI o.dst,iI o.dst2,iI o.a,iI o.b,iI o.c,.int .u64 o.n,iI o.op,iI o.size,iI o.order,iI o.to,iI o.site,iI o.line]:Array qV)[i]?) (fun W=>True) 3 rfl ?_
  refine Zp 0 rfl (h:=Zp 1 rfl (h:=Zt 2 rfl (h:=Zp 4 rfl (h:=Zp 5 rfl (h:=Zt 6 rfl (h:=?_))))));try simp only [Zq]
  refine Zs 3 rfl fun K hK=>?_
  go_simp
  (go_at_call 165;refine (CS.out _ _ _ (Zm:EmB _ _ _ _ w _ _ _ _ _).a.em _ ha _).mono ?_;rintro e w1 ⟨rfl,p,rfl⟩)
  refine hK _ _ Zw ?_
  clear hK K
  refine Zs 7 rfl fun K hK=>?_
  go_simp
  (go_at_call 165;refine (CS.out _ _ _ (Zm:EmB _ _ _ _ w _ _ _ _ _).a.em _ hb _).mono ?_;rintro e w1 ⟨rfl,p,rfl⟩)
  refine hK _ _ Zw ?_
  clear hK K
  refine Zs 8 rfl fun K hK=>?_
  go_simp
  try simp [go_sem,↓IntWalk.iteOmega]
  refine hK _ _ Zw ?_
  clear hK K
  refine Zs 9 rfl fun K hK=>?_
  go_simp
  try simp [go_sem,↓IntWalk.iteOmega]
  refine hK _ _ Zw ?_
  clear hK K
  refine af Zb ?_ _
  go_wp2_with fail
  refine ae (fun W=> ∀i,W.cell? (aB w.heap.size i)=(#[iI o.kind,iI o.dst,iI o.dst2,iI o.a,iI o.b,iI o.c,.int .u64 o.n,iI o.op,iI o.size,iI o.order,iI o.to,iI o.site,iI o.line]:Array qV)[i]?) (fun W=>True) 2 rfl ?_
  refine Zp 0 rfl (h:=Zt 1 rfl (h:=Zp 4 rfl (h:=Zt 5 rfl (h:=?_))));try simp only [Zq]
  refine Zs 2 rfl fun K hK=>?_
  go_simp
  (go_at_call 227;refine (CQ.out _).mono ?_;rintro e w1 ⟨rfl,p,rfl⟩)
  refine hK _ _ Zw ?_
  clear hK K
  refine Zs 3 rfl fun K hK=>?_
  go_simp
  (go_at_call 226;refine (CEa.out _).mono ?_;rintro e w1 ⟨rfl,p,rfl⟩)
  refine hK _ _ Zw ?_
  clear hK K
  refine Zs 6 rfl fun K hK=>?_
  go_simp
  (go_at_call 229;refine (CR.out _).mono ?_;rintro e w1 ⟨rfl,p,rfl⟩)
  refine hK _ _ Zw ?_
  clear hK K
  refine Zs 7 rfl fun K hK=>?_
  go_simp
  (go_at_call 226;refine (CEr.out _).mono ?_;rintro e w1 ⟨rfl,p,rfl⟩)
  refine hK _ _ Zw ?_
  clear hK K
  refine Zs 8 rfl fun K hK=>?_
  go_simp
  try simp [go_sem,↓IntWalk.iteOmega]
  refine hK _ _ Zw ?_
  clear hK K
  refine Zs 9 rfl fun K hK=>?_
  go_simp
  try simp [go_sem,↓IntWalk.iteOmega]
  refine hK _ _ Zw ?_
  clear hK K
  refine af Zb ?_ _
  go_wp2_with fail
  refine ae (fun W=>(∀i,W.cell? (aB w.heap.size i)=(#[iI o.kind,iI o.dst,iI o.dst2,iI o.a,iI o.b,iI o.c,.int .u64 o.n,iI o.op,iI o.size,iI o.order,iI o.to,iI o.site,iI o.line]:Array qV)[i]?)/\W.cell? (aB M 1)=some (.slice oa OL oc)) (fun W=>True) 7 rfl ?_
  refine Zp 0 rfl (hS:=⟨ZN,fun _=>trivial⟩) (h:=Zp 1 rfl (hS:=⟨ZN,fun _=>trivial⟩) (h:=Zp 2 rfl (hS:=⟨ZN,fun _=>trivial⟩) (h:=Zt 3 rfl (hS:=⟨ZN,fun _=>trivial⟩) (h:=Zp 4 rfl (hS:=⟨ZN,fun _=>trivial⟩) (h:=Zp 5 rfl (hS:=⟨ZN,fun _=>trivial⟩) (h:=Zt 6 rfl (hS:=⟨ZN,fun _=>trivial⟩) (h:=Zp 8 rfl (hS:=⟨ZN,fun _=>trivial⟩) (h:=?_))))))));try simp only [Zq]
  refine Zs 7 rfl fun K hK=>?_
  go_simp
  (go_at_call 228;refine (CZ.out _).mono ?_;rintro e w1 ⟨rfl,p,rfl⟩)
  refine hK _ _ ⟨ZN,fun _=>trivial⟩ ?_
  clear hK K
  refine Zs 9 rfl fun K hK=>?_
  go_simp
  try simp [go_sem,↓IntWalk.iteOmega]
  refine hK _ _ ⟨ZN,fun _=>trivial⟩ ?_
  clear hK K
  refine Zs 10 rfl fun K hK=>?_
  go_simp
  try simp [go_sem,↓IntWalk.iteOmega]
  refine hK _ _ ⟨ZN,fun _=>trivial⟩ ?_
  clear hK K
  refine Zs 11 rfl fun K hK=>?_
  go_simp
  try simp [go_sem,↓IntWalk.iteOmega]
  refine hK _ _ ⟨ZN,fun _=>trivial⟩ ?_
  clear hK K
  refine af Zb ?_ _
  go_wp2_with fail
  (go_at_call 172;refine (cV _ (Zm:EmB _ _ _ _ w _ _ _ _ _).a.em o.site ⟨rd,14,pG pl o.a,0,0,z,0⟩ yE).mono ?_;intro e w1 hD;have hN:=EmB.nx hD Zm;clear hD HB;(try clear i' pi j');obtain ⟨rfl,F2,sv,lv,bv,B,oa,oc,i',pi,j',HB⟩:=hN)
  go_wp2_with fail
  (go_at_call 172;refine (cV _ (Zm:EmB _ _ _ _ w _ _ _ _ _).a.em o.site ⟨wr,pG pl o.b,pG pl o.a,13,0,z,0⟩ Ax).mono ?_;intro e w1 hD;have hN:=EmB.nx hD Zm;clear hD HB;(try clear i' pi j');obtain ⟨rfl,F2,sv,lv,bv,B,oa,oc,i',pi,j',HB⟩:=hN)
  go_wp2_with fail
  (go_at_call 230;refine (nP _ (Zm:EmB _ _ _ _ w _ _ _ _ _).a.em OL Za Za B5).mono ?_;intro e w1 hD;have hN:=EmB.nx hD Zm;clear hD HB;(try clear i' pi j');obtain ⟨rfl,F2,sv,lv,bv,B,oa,oc,i',pi,j',HB⟩:=hN)
  go_wp2_with fail
  (go_at_call 164;refine (CF.out _ _ _ (Zm:EmB _ _ _ _ w _ _ _ _ _).a.em _ hd 14 hf).mono ?_;intro e w1 hD;have hN:=EmB.nx hD Zm;clear hD HB;(try clear i' pi j');obtain ⟨rfl,F2,sv,lv,bv,B,oa,oc,i',pi,j',HB⟩:=hN)
  go_wp2_with fail
  go_end0
  exact ZS
end
section
variable{w0 W W' w:qW}{M:Nat}{F F1:Nat->Prop}{pv:qV}{s:ES}{o:OpD}{K:Nat}{pl:List Int}{g c:Nat}
end
section
variable{w0 W W' w:qW}{M:Nat}{F F1:Nat->Prop}{pv:qV}{s:ES}{o:OpD}{K:Nat}{pl:List Int}{g c:Nat}
end
end Go.Proofs.YtcekjfmfcefjpaaGreatDoor
