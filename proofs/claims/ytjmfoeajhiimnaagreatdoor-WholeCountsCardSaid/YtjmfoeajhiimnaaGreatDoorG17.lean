/- Walks. No condition. -/
import Derived.Test.YtjmfoeajhiimnaaGreatDoorG16
set_option maxRecDepth 100000
set_option maxHeartbeats 0
set_option linter.all false
namespace Go.Proofs.YtjmfoeajhiimnaaGreatDoor
open Go.RowKit Go.Sort
theorem bN(g j:Nat):(⟨g,0,none⟩:Addr).add j=⟨g,j,none⟩:=by
 unfold Addr.add
 by_cases h:j=0
 ·subst h;rfl
 ·simp [h]
def RowC(W:qW)(g:Nat)(xs:List qV):Prop:= ∀j u,xs[j]?=some u->W.cell? (aB g j)=some u
theorem RowC.kp{X:Nat->Prop}{W W':qW}{g:Nat}{xs:List qV}(h:RowC W g xs)(hk:Kp X W W')(hg:g<W.heap.size)(hX: ¬X g):RowC W' g xs:=
 fun j u hu=>(hk.cell hg hX).trans (h j u hu)
structure ELe(s s':ES):Prop where
 out:s.out.length<=s'.out.length
 sites:s.sites.length<=s'.sites.length
 lines:s.lines.length<=s'.lines.length
 labels:s.labels.length<=s'.labels.length
 brs:s.brs.length<=s'.brs.length
 e:s.e=s'.e
 line:s.line=s'.line
theorem ELe.refl(s:ES):ELe s s:=⟨zaq _,zaq _,zaq _,zaq _,zaq _,rfl,rfl⟩
theorem ELe.trans{a b c:ES}(h:ELe a b)(k:ELe b c):ELe a c:=
 ⟨zal h.out k.out,zal h.sites k.sites,zal h.lines k.lines,zal h.labels k.labels,zal h.brs k.brs,h.e.trans k.e,h.line.trans k.line⟩
theorem ELe.fin{a b:ES}(h:ELe a b)(k:EFin b):EFin a:=
 ⟨zal h.out k.out,zal h.sites k.sites,zal h.lines k.lines,zal h.labels k.labels,zal h.brs k.brs,h.e.trans k.e,by rw [h.line];exact k.line⟩
theorem ELe.at_(site:Int)(i:Ins)(s:ES):ELe s (eAt site i s):=⟨by simp [eAt],by simp [eAt],by simp [eAt],zaq _,zaq _,rfl,rfl⟩
theorem ELe.add(i:Ins)(s:ES):ELe s (eAdd i s):=ELe.at_ 0 i s
theorem ELe.many(l:List Ins): ∀s,ELe s (l.foldl (fun s i=>eAdd i s) s):=by
 induction l with
 |nil=>exact fun s=>ELe.refl s
 |cons i l ih=>exact fun s=>(ELe.add i s).trans (ih _)
theorem ELe.cst(d:Int)(n:Nat)(s:ES):ELe s (eCst d n s):=ELe.many _ s
theorem yd9(d:Int)(n:Nat):(cst d n).length<=4:=by
 rw [nK]
 have:=nJ d n 4 (zaq _)
 split
 ·simp
 ·exact this
theorem dw{α:Type}{l:List α}{j:Nat}{y:α}(h:l[j]?=some y):l.take (j+1)=l.take j++[y]:=by rw [zaz,h];rfl
theorem bJ{α β:Type}{f:α->List β}{z:Nat}(hz: ∀x,(f x).length=z): ∀{l:List α} {j:Nat} {y:α},l[j]?=some y-> ∀k,k<z->(l.flatMap f)[j*z+k]?=(f y)[k]?:=by
 intro l
 induction l with
 |nil=>intro j y h;simp at h
 |cons x l ih=>
  intro j y h k hk
  rw [zaf]
  cases j with
  |zero=>
   simp only [List.getElem?_cons_zero,zaA] at h
   subst h
   rw [zah (by rw [hz];omega)]
   simp
  |succ j=>
   simp only [List.getElem?_cons_succ] at h
   rw [zai (by rw [hz,Nat.add_mul];omega),hz,show (j+1)*z+k-z=j*z+k by rw [Nat.add_mul];omega]
   exact ih h k hk
section
variable{w0 W W' w:qW}{M:Nat}{F F1:Nat->Prop}{pv:qV}{s:ES}
theorem EmA.bel(h:EmA w0 M F pv w W F1 s)(hb:Below W.heap.size W W'):EmA w0 M F pv w W' F1 s:=
 ⟨h.em.below hb,h.kp.next (Kp.of_below (X:=fun _=>False) hb) (fun _ _ e=>e.elim),h.rel⟩
theorem EmA.nextb{s2:ES}{r:qV}{e:Ending}{w1:qW}(h:EmA w0 M F pv w W F1 s)(hb:Below W.heap.size W W')(hD:EmD w0 M F1 pv W' s2 r e w1): ∃F2,EmA w0 M F pv w w1 F2 s2/\Kp F1 W w1/\Rq F1 F2 W.heap.size:=by
 obtain ⟨F2,h1,h2,h3⟩:=(h.bel hb).next hD
 exact ⟨F2,h1,(Kp.of_below hb).trans (h2.mono (fun k _ e=>e.elim id (fun e=>by simp at e))),⟨fun k hk=>(h3.r k hk).imp id (fun e=>zal hb.size e)⟩⟩
theorem iG(w:qW)(h:Em w0 M F pv w s)(d:Int)(n:Nat)(hn:n<18446744073709551616)(hf:EFin (eCst d n s)):qC 92 #[pP M,iI d,.int .u64 n] w (EmD w0 M F pv w (eCst d n s) (.tuple #[])):=by
 have HM:=Zh (EmA.begin h)
 have HF:=Zh hf
 have Bo:=h.bd
 have HI:=Zh (fun k (hk:F k)=>h.inb hk)
 clear h hf
 go_enter Tryz.func92,Tryz.ntmps92
 go_wp2_with (go_at_call 138;refine (yfH d n hn w).mono ?_;rintro e w1 ⟨g,c,rfl,hB,hO⟩;have yd:=hO.lt g rfl;have HC:=Zh (show RowC w1 g ((cst d n).flatMap insC) from fun j u hu=>by have:=hO.cells (g:=g) rfl j u hu;rw [bN] at this;exact this);have xd:=(aC hO);replace HM:=Zh (HM.out.bel hB);clear hB hO)
 have RB:=yd9 d n
 have hf:Hid (EFin ((cst d n).foldl (fun s i=>eAdd i s) s)):=HF
 unfold eCst
 clear HF xd hn
 generalize cst d n=L at*
 have ID: ¬F g:=fun e=>by have:=(HI.out g e).2;omega
 clear HI
 go_loopw [12] (fun v12 wr=> ∃(j:Nat) (F1:Nat->Prop),v12=iI j/\j<=L.length/\Hid (EmA w0 M F pv w wr F1 ((L.take j).foldl (fun s i=>eAdd i s) s))/\Hid (RowC wr g (L.flatMap insC))/\w1.heap.size<=wr.heap.size/\ ¬F1 g) (fun v12 _=>L.length-(intOf v12).toNat)
 case atStart=>exact ⟨0,F,rfl,zaB _,HM,HC,zaq _,ID⟩
 case round=>
  obtain ⟨j,F1,rfl,hj,HM,HC,hsz,ID⟩:=hrel
  have j':=HM.out.em.bd
  by_cases zh:j<L.length
  ·obtain ⟨y,hy⟩: ∃y,L[j]?=some y:=⟨L[j],zaC zh⟩
   have xh: ∀k u,k<7->(insC y)[k]?=some u->wr.cell? ⟨g,j*7+k,none⟩=some u:=fun k u hk hu=>HC.out (j*7+k) u (by rw [bJ (f:=insC) (z:=7) (fun _=>rfl) hy k hk];exact hu)
   have c0:=xh 0 _ Za rfl
   have c1:=xh 1 _ Za rfl
   have c2:=xh 2 _ Za rfl
   have c3:=xh 3 _ Za rfl
   have c4:=xh 4 _ Za rfl
   have c5:=xh 5 _ Za rfl
   have c6:=xh 6 _ Za rfl
   rw [Nat.add_zero] at c0
   have ya:EFin (eAdd y ((L.take j).foldl (fun s i=>eAdd i s) s)):=by
    have e:L=L.take (j+1)++L.drop (j+1):=(List.take_append_drop _ _).symm
    have h1:=hf.out
    rw [e,zaD,dw hy,zaD] at h1
    exact (ELe.many _ _).fin h1
   have HY:=Zh hy
   clear xh hy
   generalize yK:(L.take j).foldl (fun s i=>eAdd i s) s=s1 at*
   have FF:=Zh yK
   clear yK
   go_wp2_with (go_at_call 94;refine (cd _ ((EmA.bel HM.out Z7):EmA _ _ _ _ w _ _ _).em y ya).mono ?_;intro e w1 hD;obtain rfl:=hD.1;obtain ⟨F2,hM,Cl,Fx⟩:=EmA.nextb HM.out Z7 hD;clear hD;(try clear i');(try clear pi);(try clear j');obtain ⟨ov,sv,lv,bv,B,i',pi,oa,oc,rfl⟩:=hM.em.rules;have j':=hM.em.bd;replace HM:=Zh hM;clear hM;have HK:=Zh Cl;clear Cl)
   have xe:=HK.out.size
   refine ⟨⟨j+1,F2,by go_num,zh,?_,Zh (HC.out.kp HK.out Za ID),by omega,fun e=>(Fx.r g e).elim ID (fun e=>by omega)⟩,by simp [intOf];omega⟩
   rw [dw HY.out,zaD,FF.out]
   exact HM
  ·obtain rfl:j=L.length:=by omega
   go_wp2_with fail
   go_end0
   have:=HM.out
   rw [List.take_length] at this
   exact this.fin
end
theorem uh(op:Int)(w:qW):qC 216 #[iI op] w (Gives w (iI (ePlain op))):=by
 unfold ePlain
 go_enter Tryz.func216,Tryz.ntmps216
 go_wp2_with fail
 all_goals
  go_ret
  refine Gives.mk ?_ (zaa _ _)
  simp_all
theorem yeg(op:Int)(w:qW):qC 217 #[iI op] w (Gives w (iI (eCond op))):=by
 unfold eCond
 go_enter Tryz.func217,Tryz.ntmps217
 go_wp2_with fail
 all_goals
  go_ret
  refine Gives.mk ?_ (zaa _ _)
  simp_all
theorem iA(b:Bool)(x y:Int)(w:qW):qC 219 #[.bool b,iI x,iI y] w (Gives w (iI (if b then x else y))):=by
 cases b
 all_goals
  go_enter Tryz.func219,Tryz.ntmps219
  go_wp2_with fail
  go_ret
  exact Gives.mk rfl (zaa _ _)
theorem oB(o:Int)(w:qW):qC 220 #[iI o] w (Gives w (.bool (oAcq o))):=by
 unfold oAcq
 go_enter Tryz.func220,Tryz.ntmps220
 go_wp2_with fail
 all_goals
  go_ret
  refine Gives.mk ?_ (zaa _ _)
  first|rfl|(simp_all;done)|(simp_all;rfl)
theorem kj(o:Int)(w:qW):qC 222 #[iI o] w (Gives w (.bool (oRel o))):=by
 unfold oRel
 go_enter Tryz.func222,Tryz.ntmps222
 go_wp2_with fail
 all_goals
  go_ret
  refine Gives.mk ?_ (zaa _ _)
  first|rfl|(simp_all;done)|(simp_all;rfl)
theorem jK(n:Int)(h:n=1\/n=2\/n=4\/n=8\/n=16)(w:qW):qC 221 #[iI n] w (Gives w (iI (eSize n))):=by
 rcases h with rfl|rfl|rfl|rfl|rfl
 ·go_enter Tryz.func221,Tryz.ntmps221
  go_wp2_with fail
  refine zao 1 ?_
  rw [zap]
  go_wp2_with fail
  go_ret
  exact Gives.mk rfl (zaa _ _)
 ·go_enter Tryz.func221,Tryz.ntmps221
  go_wp2_with fail
  refine zao 2 ?_
  iterate 1 (rw [zap];go_wp2_with fail)
  rw [zap]
  go_wp2_with fail
  go_ret
  exact Gives.mk rfl (zaa _ _)
 ·go_enter Tryz.func221,Tryz.ntmps221
  go_wp2_with fail
  refine zao 3 ?_
  iterate 2 (rw [zap];go_wp2_with fail)
  rw [zap]
  go_wp2_with fail
  go_ret
  exact Gives.mk rfl (zaa _ _)
 ·go_enter Tryz.func221,Tryz.ntmps221
  go_wp2_with fail
  refine zao 4 ?_
  iterate 3 (rw [zap];go_wp2_with fail)
  rw [zap]
  go_wp2_with fail
  go_ret
  exact Gives.mk rfl (zaa _ _)
 ·go_enter Tryz.func221,Tryz.ntmps221
  go_wp2_with fail
  refine zao 5 ?_
  iterate 4 (rw [zap];go_wp2_with fail)
  rw [zap]
  go_wp2_with fail
  go_ret
  exact Gives.mk rfl (zaa _ _)
section
variable{w0 W W' w:qW}{M:Nat}{F F1:Nat->Prop}{pv:qV}{s:ES}
theorem n7(w:qW)(h:Em w0 M F pv w s)(tp:Int)(h0:0<=tp)(h1:tp<=300000)(hf:EFin (eBack tp s)):qC 223 #[pP M,iI tp] w (EmD w0 M F pv w (eBack tp s) (.tuple #[])):=by
 have zX:=(ELe.add _ _).fin hf
 have Bw:=zX.out
 obtain ⟨ov,sv,lv,bv,B,i',pi,oa,oc,rfl⟩:=h.rules
 have j':=h.bd
 have HM:=Zh (EmA.begin h)
 clear h zX
 go_enter Tryz.func223,Tryz.ntmps223
 go_wp2_with (go_at_call 94;refine (cd _ (ZX:EmA _ _ _ _ w _ _ _).em ⟨16,13,0,0,0,0,tp-s.out.length⟩ hf).mono ?_;intro e w1 hD;obtain rfl:=hD.1;obtain ⟨F2,hM, -, -⟩:=EmA.next ZX hD;clear hD;(try clear i');(try clear pi);(try clear j');obtain ⟨ov,sv,lv,bv,B,i',pi,oa,oc,rfl⟩:=hM.em.rules;have j':=hM.em.bd;replace HM:=Zh hM;clear hM)
 go_end0
 exact Z0_
end
section
variable{w0 W W' w:qW}{M:Nat}{F F1:Nat->Prop}{pv:qV}{s:ES}{o:OpD}{K:Nat}{pl:List Int}{g c:Nat}
theorem yeY(hP:PlB w0 pv pl g c)(w:qW)(h:Em w0 M F pv w s)(o:OpD)(ha:plR pl o.a)(hb:plR pl o.b)(hd:plR pl o.dst)(hf:EFin (eBin pl o s)):qC 143 #[pP M,.agg (opC o).toArray] w (EmD w0 M F pv w (eBin pl o s) (.tuple #[])):=by
 have CS:=zCS (M:=M) hP
 have CT:=zCT (M:=M) hP
 have CK:=zCK (M:=M) hP
 have CF:=zCF (M:=M) hP
 have he:eBin pl o s=(if ePlain o.op≠0 then eAdd ⟨ePlain o.op,pG pl o.dst,pG pl o.a,pG pl o.b,0,0,0⟩ s else eAdd ⟨12,pG pl o.dst,0,0,eCond o.op,0,0⟩ (eAdd ⟨5,31,pG pl o.a,pG pl o.b,0,0,0⟩ s)):=by
  unfold eBin
  simp only [bm ha,bm hb,eK hd,eL hd]
  rfl
 rw [he] at hf ⊢
 clear he
 have HB:=Zh (show EmB w0 M F pv w (w.alloc (.cells #[iI o.kind,iI o.dst,iI o.dst2,iI o.a,iI o.b,iI o.c,.int .u64 o.n,iI o.op,iI o.size,iI o.order,iI o.tO,iI o.site,iI o.line] 225)) F s o w.heap.size from EmB.begin h o)
 obtain ⟨ov,sv,lv,bv,B,i',pi,oa,oc,rfl⟩:=h.rules
 have j':=h.bd
 have BS:=br ha
 have N9:=br hb
 have JD:=br hd
 have CP:=Zh (fun W=>uh o.op W)
 have CC:=Zh (fun W=>yeg o.op W)
 generalize ePlain o.op=q at*
 generalize eCond o.op=cc at*
 by_cases hq:q=0
 ·subst hq
  rw [if_neg Zg] at hf ⊢
  have ya:=(ELe.add _ _).fin hf
  clear h hP
  unfold opC
  go_enter Tryz.func143,Tryz.ntmps143
  go_wp2_with fail
  refine ae (fun W=> ∀i,W.cell? (aB w.heap.size i)=(#[iI o.kind,iI o.dst,iI o.dst2,iI o.a,iI o.b,iI o.c,.int .u64 o.n,iI o.op,iI o.size,iI o.order,iI o.tO,iI o.site,iI o.line]:Array qV)[i]?) (fun W=>True) 3 rfl ?_
  refine Zp 0 rfl (h:=Zp 1 rfl (h:=Zt 2 rfl (h:=Zp 4 rfl (h:=Zp 5 rfl (h:=Zt 6 rfl (h:=Zp 8 rfl (h:=Zp 9 rfl (h:=Zt 10 rfl (h:=?_)))))))));try simp only [Zq]
  refine Zs 3 rfl fun K hK=>?_
  go_simp
  (go_at_call 142;refine (CS.out _ _ _ (Zm:EmB _ _ _ _ w _ _ _ _ _).a.em _ ha _).mono ?_;rintro e w1 ⟨rfl,p,rfl⟩)
  refine hK _ _ Zw ?_
  clear hK K
  refine Zs 7 rfl fun K hK=>?_
  go_simp
  (go_at_call 142;refine (CS.out _ _ _ (Zm:EmB _ _ _ _ w _ _ _ _ _).a.em _ hb _).mono ?_;rintro e w1 ⟨rfl,p,rfl⟩)
  refine hK _ _ Zw ?_
  clear hK K
  refine Zs 11 rfl fun K hK=>?_
  go_simp
  (go_at_call 139;refine (CT.out _ _ _ (Zm:EmB _ _ _ _ w _ _ _ _ _).a.em _ hd 11).mono ?_;rintro e w1 ⟨rfl,p,rfl⟩)
  refine hK _ _ Zw ?_
  clear hK K
  refine Zs 12 rfl fun K hK=>?_
  go_simp
  try simp [go_sem,↓IntWalk.iteOmega]
  refine hK _ _ Zw ?_
  clear hK K
  refine Zs 13 rfl fun K hK=>?_
  go_simp
  try simp [go_sem,↓IntWalk.iteOmega]
  refine hK _ _ Zw ?_
  clear hK K
  refine Zs 14 rfl fun K hK=>?_
  go_simp
  try simp [go_sem,↓IntWalk.iteOmega]
  refine hK _ _ Zw ?_
  clear hK K
  refine af Zb ?_ _
  go_wp2_with fail
  (go_at_call 216;refine (CP.out _).mono ?_;rintro e w1 ⟨rfl,p,rfl⟩)
  go_wp2_with fail
  (go_at_call 94;refine (cd _ (Zm:EmB _ _ _ _ w _ _ _ _ _).a.em ⟨5,31,pG pl o.a,pG pl o.b,0,0,0⟩ ya).mono ?_;intro e w1 hD;have hN:=EmB.nx hD Zm;clear hD HB;(try clear i' pi j');obtain ⟨rfl,F2,sv,lv,bv,B,oa,oc,i',pi,j',HB⟩:=hN)
  go_wp2_with fail
  (go_at_call 217;refine (CC.out _).mono ?_;rintro e w1 ⟨rfl,p,rfl⟩)
  go_wp2_with fail
  (go_at_call 94;refine (cd _ (Zm:EmB _ _ _ _ w _ _ _ _ _).a.em ⟨12,pG pl o.dst,0,0,cc,0,0⟩ hf).mono ?_;intro e w1 hD;have hN:=EmB.nx hD Zm;clear hD HB;(try clear i' pi j');obtain ⟨rfl,F2,sv,lv,bv,B,oa,oc,i',pi,j',HB⟩:=hN)
  go_wp2_with fail
  (go_at_call 140;refine (CK.out _ _ _ (Zm:EmB _ _ _ _ w _ _ _ _ _).a.em _ hd _).mono ?_;rintro e w1 ⟨rfl,p,rfl⟩)
  go_wp2_with fail
  go_end0
  exact ZT
 ·rw [if_pos hq] at hf ⊢
  clear h hP
  unfold opC
  go_enter Tryz.func143,Tryz.ntmps143
  go_wp2_with fail
  refine ae (fun W=> ∀i,W.cell? (aB w.heap.size i)=(#[iI o.kind,iI o.dst,iI o.dst2,iI o.a,iI o.b,iI o.c,.int .u64 o.n,iI o.op,iI o.size,iI o.order,iI o.tO,iI o.site,iI o.line]:Array qV)[i]?) (fun W=>True) 3 rfl ?_
  refine Zp 0 rfl (h:=Zp 1 rfl (h:=Zt 2 rfl (h:=Zp 4 rfl (h:=Zp 5 rfl (h:=Zt 6 rfl (h:=Zp 8 rfl (h:=Zp 9 rfl (h:=Zt 10 rfl (h:=?_)))))))));try simp only [Zq]
  refine Zs 3 rfl fun K hK=>?_
  go_simp
  (go_at_call 142;refine (CS.out _ _ _ (Zm:EmB _ _ _ _ w _ _ _ _ _).a.em _ ha _).mono ?_;rintro e w1 ⟨rfl,p,rfl⟩)
  refine hK _ _ Zw ?_
  clear hK K
  refine Zs 7 rfl fun K hK=>?_
  go_simp
  (go_at_call 142;refine (CS.out _ _ _ (Zm:EmB _ _ _ _ w _ _ _ _ _).a.em _ hb _).mono ?_;rintro e w1 ⟨rfl,p,rfl⟩)
  refine hK _ _ Zw ?_
  clear hK K
  refine Zs 11 rfl fun K hK=>?_
  go_simp
  (go_at_call 139;refine (CT.out _ _ _ (Zm:EmB _ _ _ _ w _ _ _ _ _).a.em _ hd 11).mono ?_;rintro e w1 ⟨rfl,p,rfl⟩)
  refine hK _ _ Zw ?_
  clear hK K
  refine Zs 12 rfl fun K hK=>?_
  go_simp
  try simp [go_sem,↓IntWalk.iteOmega]
  refine hK _ _ Zw ?_
  clear hK K
  refine Zs 13 rfl fun K hK=>?_
  go_simp
  try simp [go_sem,↓IntWalk.iteOmega]
  refine hK _ _ Zw ?_
  clear hK K
  refine Zs 14 rfl fun K hK=>?_
  go_simp
  try simp [go_sem,↓IntWalk.iteOmega]
  refine hK _ _ Zw ?_
  clear hK K
  refine af Zb ?_ _
  go_wp2_with fail
  (go_at_call 216;refine (CP.out _).mono ?_;rintro e w1 ⟨rfl,p,rfl⟩)
  go_wp2_with fail
  (go_at_call 94;refine (cd _ (Zm:EmB _ _ _ _ w _ _ _ _ _).a.em ⟨q,pG pl o.dst,pG pl o.a,pG pl o.b,0,0,0⟩ hf).mono ?_;intro e w1 hD;have hN:=EmB.nx hD Zm;clear hD HB;(try clear i' pi j');obtain ⟨rfl,F2,sv,lv,bv,B,oa,oc,i',pi,j',HB⟩:=hN)
  go_wp2_with fail
  (go_at_call 140;refine (CK.out _ _ _ (Zm:EmB _ _ _ _ w _ _ _ _ _).a.em _ hd _).mono ?_;rintro e w1 ⟨rfl,p,rfl⟩)
  go_wp2_with fail
  go_end0
  exact ZT
theorem yfv(hP:PlB w0 pv pl g c)(w:qW)(h:Em w0 M F pv w s)(o:OpD)(ha:plR pl o.a)(hn:o.n<18446744073709551616)(hf:EFin ((eAddr pl o s).2)):qC 218 #[pP M,.agg (opC o).toArray] w (EmD w0 M F pv w ((eAddr pl o s).2) (iI (eAddr pl o s).1)):=by
 have CS:=zCS (M:=M) hP
 have CT:=zCT (M:=M) hP
 have CK:=zCK (M:=M) hP
 have CF:=zCF (M:=M) hP
 have he:eAddr pl o s=(if o.n=0 then (pG pl o.a,s) else (8,eAdd ⟨3,8,pG pl o.a,14,0,0,0⟩ (eCst 14 o.n s))):=by
  unfold eAddr
  simp only [bm ha]
  rfl
 rw [he] at hf ⊢
 clear he
 have HB:=Zh (show EmB w0 M F pv w (w.alloc (.cells #[iI o.kind,iI o.dst,iI o.dst2,iI o.a,iI o.b,iI o.c,.int .u64 o.n,iI o.op,iI o.size,iI o.order,iI o.tO,iI o.site,iI o.line] 225)) F s o w.heap.size from EmB.begin h o)
 obtain ⟨ov,sv,lv,bv,B,i',pi,oa,oc,rfl⟩:=h.rules
 have j':=h.bd
 have BS:=br ha
 by_cases hz:o.n=0
 ·rw [if_pos hz] at hf ⊢
  have xu:((o.n:Int)==0)=true:=by simp [hz]
  have xq:decide ((o.n:Int)=0)=true:=by simp [hz]
  clear hz
  clear h hP
  unfold opC
  go_enter Tryz.func218,Tryz.ntmps218
  go_wp2_with fail
  (go_at_call 142;refine (CS.out _ _ _ (Zm:EmB _ _ _ _ w _ _ _ _ _).a.em _ ha _).mono ?_;rintro e w1 ⟨rfl,p,rfl⟩)
  go_wp2_with fail
  go_ret
  exact ZT
 ·rw [if_neg hz] at hf ⊢
  have ya:=(ELe.add _ _).fin hf
  have xu:((o.n:Int)==0)=false:=by simpa using hz
  have xq:decide ((o.n:Int)=0)=false:=by simpa using hz
  clear hz
  clear h hP
  unfold opC
  go_enter Tryz.func218,Tryz.ntmps218
  go_wp2_with fail
  (go_at_call 142;refine (CS.out _ _ _ (Zm:EmB _ _ _ _ w _ _ _ _ _).a.em _ ha _).mono ?_;rintro e w1 ⟨rfl,p,rfl⟩)
  go_wp2_with fail
  (go_at_call 92;refine (iG _ (Zm:EmB _ _ _ _ w _ _ _ _ _).a.em 14 o.n hn ya).mono ?_;intro e w1 hD;have hN:=EmB.nx hD Zm;clear hD HB;(try clear i' pi j');obtain ⟨rfl,F2,sv,lv,bv,B,oa,oc,i',pi,j',HB⟩:=hN)
  go_wp2_with fail
  (go_at_call 94;refine (cd _ (Zm:EmB _ _ _ _ w _ _ _ _ _).a.em ⟨3,8,pG pl o.a,14,0,0,0⟩ hf).mono ?_;intro e w1 hD;have hN:=EmB.nx hD Zm;clear hD HB;(try clear i' pi j');obtain ⟨rfl,F2,sv,lv,bv,B,oa,oc,i',pi,j',HB⟩:=hN)
  go_wp2_with fail
  go_ret
  exact ZT
end
section
variable{w0 W W' w:qW}{M:Nat}{F F1:Nat->Prop}{pv:qV}{s:ES}{o:OpD}{K:Nat}{pl:List Int}{g c:Nat}
theorem ydG(ha:plR pl o.a)(s:ES):0<=(eAddr pl o s).1/\(eAddr pl o s).1<=100:=by
 have:=br ha
 unfold eAddr
 simp only [bm ha]
 split
 ·exact this
 ·exact ⟨show (0:Int)<=8 by decide,show (8:Int)<=100 by decide⟩
theorem nj(n:Int):0<=eSize n/\eSize n<=4:=by
 unfold eSize
 repeat (split;exact ⟨by decide,by decide⟩)
 exact ⟨by decide,by decide⟩
theorem pY(hP:PlB w0 pv pl g c)(w:qW)(h:Em w0 M F pv w s)(o:OpD)(ha:plR pl o.a)(hd:plR pl o.b)(hn:o.n<18446744073709551616)(hz:o.size=1\/o.size=2\/o.size=4\/o.size=8\/o.size=16)(hf:EFin (eStore pl o s)):qC 145 #[pP M,.agg (opC o).toArray] w (EmD w0 M F pv w (eStore pl o s) (.tuple #[])):=by
 have CS:=zCS (M:=M) hP
 have CT:=zCT (M:=M) hP
 have CK:=zCK (M:=M) hP
 have CF:=zCF (M:=M) hP
 have he:eStore pl o s=eAt o.site ⟨if oRel o.order then 20 else 18,pG pl o.b,(eAddr pl o s).1,0,0,eSize o.size,0⟩ (eAddr pl o s).2:=by
  unfold eStore
  simp only [bm hd]
  rfl
 rw [he] at hf ⊢
 clear he
 have HB:=Zh (show EmB w0 M F pv w (w.alloc (.cells #[iI o.kind,iI o.dst,iI o.dst2,iI o.a,iI o.b,iI o.c,.int .u64 o.n,iI o.op,iI o.size,iI o.order,iI o.tO,iI o.site,iI o.line] 225)) F s o w.heap.size from EmB.begin h o)
 obtain ⟨ov,sv,lv,bv,B,i',pi,oa,oc,rfl⟩:=h.rules
 have j':=h.bd
 have ya:=(ELe.at_ _ _ _).fin hf
 have CA:=Zh (fun W (hM:Em w0 M F pv W s)=>yfv hP W hM o ha hn ya)
 have QU:=ydG ha s
 generalize eAddr pl o s=ad at*
 have JD:=br hd
 have CQ:=Zh (fun W=>oB o.order W)
 have CR:=Zh (fun W=>kj o.order W)
 have CZ:=Zh (fun W=>jK o.size hz W)
 have hsz:=nj o.size
 generalize eSize o.size=z at*
 have CEa:=Zh (fun W=>iA (oRel o.order) 20 18 W)
 generalize (if (oRel o.order)=true then (20:Int) else 18)=rd at*
 generalize oRel o.order=aq at*
 clear h hP
 unfold opC
 go_enter Tryz.func145,Tryz.ntmps145
 go_wp2_with fail
 refine ae (fun W=> ∀i,W.cell? (aB w.heap.size i)=(#[iI o.kind,iI o.dst,iI o.dst2,iI o.a,iI o.b,iI o.c,.int .u64 o.n,iI o.op,iI o.size,iI o.order,iI o.tO,iI o.site,iI o.line]:Array qV)[i]?) (fun W=>True) 2 rfl ?_
 refine Zp 0 rfl (h:=Zt 1 rfl (h:=Zp 3 rfl (h:=Zp 4 rfl (h:=Zt 5 rfl (h:=?_)))));try simp only [Zq]
 refine Zs 2 rfl fun K hK=>?_
 go_simp
 (go_at_call 218;refine (CA.out _ (Zm:EmB _ _ _ _ w _ _ _ _ _).a.em).mono ?_;intro e w1 hD;have hN:=EmB.nx hD Zm;clear hD HB;(try clear i' pi j');obtain ⟨rfl,F2,sv,lv,bv,B,oa,oc,i',pi,j',HB⟩:=hN)
 refine hK _ _ Zw ?_
 clear hK K
 refine Zs 6 rfl fun K hK=>?_
 go_simp
 (go_at_call 142;refine (CS.out _ _ _ (Zm:EmB _ _ _ _ w _ _ _ _ _).a.em _ hd _).mono ?_;rintro e w1 ⟨rfl,p,rfl⟩)
 refine hK _ _ Zw ?_
 clear hK K
 refine Zs 7 rfl fun K hK=>?_
 go_simp
 try simp [go_sem,↓IntWalk.iteOmega]
 refine hK _ _ Zw ?_
 clear hK K
 refine Zs 8 rfl fun K hK=>?_
 go_simp
 try simp [go_sem,↓IntWalk.iteOmega]
 refine hK _ _ Zw ?_
 clear hK K
 refine af Zb ?_ _
 go_wp2_with fail
 refine ae (fun W=> ∀i,W.cell? (aB w.heap.size i)=(#[iI o.kind,iI o.dst,iI o.dst2,iI o.a,iI o.b,iI o.c,.int .u64 o.n,iI o.op,iI o.size,iI o.order,iI o.tO,iI o.site,iI o.line]:Array qV)[i]?) (fun W=>True) 5 rfl ?_
 refine Zp 0 rfl (h:=Zp 1 rfl (h:=Zt 2 rfl (h:=Zp 3 rfl (h:=Zt 4 rfl (h:=Zp 7 rfl (h:=Zp 8 rfl (h:=Zp 9 rfl (h:=Zt 10 rfl (h:=?_)))))))));try simp only [Zq]
 refine Zs 5 rfl fun K hK=>?_
 go_simp
 (go_at_call 222;refine (CR.out _).mono ?_;rintro e w1 ⟨rfl,p,rfl⟩)
 refine hK _ _ Zw ?_
 clear hK K
 refine Zs 6 rfl fun K hK=>?_
 go_simp
 (go_at_call 219;refine (CEa.out _).mono ?_;rintro e w1 ⟨rfl,p,rfl⟩)
 refine hK _ _ Zw ?_
 clear hK K
 refine Zs 11 rfl fun K hK=>?_
 go_simp
 (go_at_call 221;refine (CZ.out _).mono ?_;rintro e w1 ⟨rfl,p,rfl⟩)
 refine hK _ _ Zw ?_
 clear hK K
 refine Zp 12 rfl (h:=?_);try simp only [Zq]
 refine Zs 13 rfl fun K hK=>?_
 go_simp
 (go_at_call 149;refine (dZ _ (Zm:EmB _ _ _ _ w _ _ _ _ _).a.em o.site ⟨rd,pG pl o.b,ad.1,0,0,z,0⟩ hf).mono ?_;intro e w1 hD;have hN:=EmB.nx hD Zm;clear hD HB;(try clear i' pi j');obtain ⟨rfl,F2,sv,lv,bv,B,oa,oc,i',pi,j',HB⟩:=hN)
 refine hK _ _ Zw ?_
 clear hK K
 refine af Zb ?_ _
 go_wp2_with fail
 go_end0
 exact ZT
end
section
variable{w0 W W' w:qW}{M:Nat}{F F1:Nat->Prop}{pv:qV}{s:ES}{o:OpD}{K:Nat}{pl:List Int}{g c:Nat}
theorem yes(hP:PlB w0 pv pl g c)(w:qW)(h:Em w0 M F pv w s)(o:OpD)(ha:plR pl o.a)(hb:plR pl o.b)(hd:plR pl o.dst)(hz:o.size=1\/o.size=2\/o.size=4\/o.size=8\/o.size=16)(hf:EFin (eChange pl o s)):qC 146 #[pP M,.agg (opC o).toArray] w (EmD w0 M F pv w (eChange pl o s) (.tuple #[])):=by
 have CS:=zCS (M:=M) hP
 have CT:=zCT (M:=M) hP
 have CK:=zCK (M:=M) hP
 have CF:=zCF (M:=M) hP
 have he:eChange pl o s=eMove (pG pl o.dst) 14 (eBack s.out.length (eAt o.site ⟨if oRel o.order then 24 else 23,if o.kind=8 then 12 else pG pl o.b,pG pl o.a,13,0,eSize o.size,0⟩ (if o.kind=8 then eAdd ⟨3,12,14,pG pl o.b,0,0,0⟩ (eAt o.site ⟨if oAcq o.order then 22 else 21,14,pG pl o.a,0,0,eSize o.size,0⟩ s) else eAt o.site ⟨if oAcq o.order then 22 else 21,14,pG pl o.a,0,0,eSize o.size,0⟩ s))):=by
  unfold eChange
  simp only [bm ha,bm hb,fC hd]
  rfl
 rw [he] at hf ⊢
 clear he
 have HB:=Zh (show EmB w0 M F pv w (w.alloc (.cells #[iI o.kind,iI o.dst,iI o.dst2,iI o.a,iI o.b,iI o.c,.int .u64 o.n,iI o.op,iI o.size,iI o.order,iI o.tO,iI o.site,iI o.line] 225)) F s o w.heap.size from EmB.begin h o)
 obtain ⟨ov,sv,lv,bv,B,i',pi,oa,oc,rfl⟩:=h.rules
 have j':=h.bd
 have BS:=br ha
 have N9:=br hb
 have JD:=br hd
 have CQ:=Zh (fun W=>oB o.order W)
 have CR:=Zh (fun W=>kj o.order W)
 have CZ:=Zh (fun W=>jK o.size hz W)
 have hsz:=nj o.size
 generalize eSize o.size=z at*
 have CEa:=Zh (fun W=>iA (oAcq o.order) 22 21 W)
 generalize (if (oAcq o.order)=true then (22:Int) else 21)=rd at*
 generalize oAcq o.order=aq at*
 have CEr:=Zh (fun W=>iA (oRel o.order) 24 23 W)
 generalize (if (oRel o.order)=true then (24:Int) else 23)=wr at*
 generalize oRel o.order=rl at*
 generalize Rx:s.out.length=OL at*
 by_cases hk:o.kind=8
 ·rw [if_pos hk,if_pos hk] at hf ⊢
  have wZ:(o.kind==8)=true:=by simpa using hk
  have xZ:decide (o.kind=8)=true:=by simpa using hk
  clear hk
  have D0:=(ELe.add _ _).fin hf
  have Bi:=(ELe.add _ _).fin D0
  have yM:=(ELe.at_ _ _ _).fin Bi
  have ya:=(ELe.add _ _).fin yM
  have Bw:=((ELe.at_ _ _ _).fin ya).out
  have Df:OL<=200000:=by omega
  clear Bw
  clear h hP
  unfold opC
  go_enter Tryz.func146,Tryz.ntmps146
  go_wp2_with fail
  refine ae (fun W=> ∀i,W.cell? (aB w.heap.size i)=(#[iI o.kind,iI o.dst,iI o.dst2,iI o.a,iI o.b,iI o.c,.int .u64 o.n,iI o.op,iI o.size,iI o.order,iI o.tO,iI o.site,iI o.line]:Array qV)[i]?) (fun W=>True) 3 rfl ?_
  refine Zp 0 rfl (h:=Zp 1 rfl (h:=Zt 2 rfl (h:=Zp 4 rfl (h:=Zp 5 rfl (h:=Zt 6 rfl (h:=?_))))));try simp only [Zq]
  refine Zs 3 rfl fun K hK=>?_
  go_simp
  (go_at_call 142;refine (CS.out _ _ _ (Zm:EmB _ _ _ _ w _ _ _ _ _).a.em _ ha _).mono ?_;rintro e w1 ⟨rfl,p,rfl⟩)
  refine hK _ _ Zw ?_
  clear hK K
  refine Zs 7 rfl fun K hK=>?_
  go_simp
  (go_at_call 142;refine (CS.out _ _ _ (Zm:EmB _ _ _ _ w _ _ _ _ _).a.em _ hb _).mono ?_;rintro e w1 ⟨rfl,p,rfl⟩)
  refine hK _ _ Zw ?_
  clear hK K
  refine Zs 8 rfl fun K hK=>?_
  go_simp
  try simp [go_sem,↓IntWalk.iteOmega]
  refine hK _ _ Zw ?_
  clear hK K
  refine Zs 9 rfl fun K hK=>?_
  go_simp
  try simp [go_sem,↓IntWalk.iteOmega]
  refine hK _ _ Zw ?_
  clear hK K
  refine af Zb ?_ _
  go_wp2_with fail
  refine ae (fun W=> ∀i,W.cell? (aB w.heap.size i)=(#[iI o.kind,iI o.dst,iI o.dst2,iI o.a,iI o.b,iI o.c,.int .u64 o.n,iI o.op,iI o.size,iI o.order,iI o.tO,iI o.site,iI o.line]:Array qV)[i]?) (fun W=>True) 2 rfl ?_
  refine Zp 0 rfl (h:=Zt 1 rfl (h:=Zp 4 rfl (h:=Zt 5 rfl (h:=?_))));try simp only [Zq]
  refine Zs 2 rfl fun K hK=>?_
  go_simp
  (go_at_call 220;refine (CQ.out _).mono ?_;rintro e w1 ⟨rfl,p,rfl⟩)
  refine hK _ _ Zw ?_
  clear hK K
  refine Zs 3 rfl fun K hK=>?_
  go_simp
  (go_at_call 219;refine (CEa.out _).mono ?_;rintro e w1 ⟨rfl,p,rfl⟩)
  refine hK _ _ Zw ?_
  clear hK K
  refine Zs 6 rfl fun K hK=>?_
  go_simp
  (go_at_call 222;refine (CR.out _).mono ?_;rintro e w1 ⟨rfl,p,rfl⟩)
  refine hK _ _ Zw ?_
  clear hK K
  refine Zs 7 rfl fun K hK=>?_
  go_simp
  (go_at_call 219;refine (CEr.out _).mono ?_;rintro e w1 ⟨rfl,p,rfl⟩)
  refine hK _ _ Zw ?_
  clear hK K
  refine Zs 8 rfl fun K hK=>?_
  go_simp
  try simp [go_sem,↓IntWalk.iteOmega]
  refine hK _ _ Zw ?_
  clear hK K
  refine Zs 9 rfl fun K hK=>?_
  go_simp
  try simp [go_sem,↓IntWalk.iteOmega]
  refine hK _ _ Zw ?_
  clear hK K
  refine af Zb ?_ _
  go_wp2_with fail
  refine ae (fun W=>(∀i,W.cell? (aB w.heap.size i)=(#[iI o.kind,iI o.dst,iI o.dst2,iI o.a,iI o.b,iI o.c,.int .u64 o.n,iI o.op,iI o.size,iI o.order,iI o.tO,iI o.site,iI o.line]:Array qV)[i]?)/\W.cell? (aB M 1)=some (.slice oa OL oc)) (fun W=>True) 7 rfl ?_
  refine Zp 0 rfl (hS:=⟨ZM,fun _=>trivial⟩) (h:=Zp 1 rfl (hS:=⟨ZM,fun _=>trivial⟩) (h:=Zp 2 rfl (hS:=⟨ZM,fun _=>trivial⟩) (h:=Zt 3 rfl (hS:=⟨ZM,fun _=>trivial⟩) (h:=Zp 4 rfl (hS:=⟨ZM,fun _=>trivial⟩) (h:=Zp 5 rfl (hS:=⟨ZM,fun _=>trivial⟩) (h:=Zt 6 rfl (hS:=⟨ZM,fun _=>trivial⟩) (h:=Zp 8 rfl (hS:=⟨ZM,fun _=>trivial⟩) (h:=?_))))))));try simp only [Zq]
  refine Zs 7 rfl fun K hK=>?_
  go_simp
  (go_at_call 221;refine (CZ.out _).mono ?_;rintro e w1 ⟨rfl,p,rfl⟩)
  refine hK _ _ ⟨ZM,fun _=>trivial⟩ ?_
  clear hK K
  refine Zs 9 rfl fun K hK=>?_
  go_simp
  try simp [go_sem,↓IntWalk.iteOmega]
  refine hK _ _ ⟨ZM,fun _=>trivial⟩ ?_
  clear hK K
  refine Zs 10 rfl fun K hK=>?_
  go_simp
  try simp [go_sem,↓IntWalk.iteOmega]
  refine hK _ _ ⟨ZM,fun _=>trivial⟩ ?_
  clear hK K
  refine Zs 11 rfl fun K hK=>?_
  go_simp
  try simp [go_sem,↓IntWalk.iteOmega]
  refine hK _ _ ⟨ZM,fun _=>trivial⟩ ?_
  clear hK K
  refine af Zb ?_ _
  go_wp2_with fail
  (go_at_call 149;refine (dZ _ (Zm:EmB _ _ _ _ w _ _ _ _ _).a.em o.site ⟨rd,14,pG pl o.a,0,0,z,0⟩ ya).mono ?_;intro e w1 hD;have hN:=EmB.nx hD Zm;clear hD HB;(try clear i' pi j');obtain ⟨rfl,F2,sv,lv,bv,B,oa,oc,i',pi,j',HB⟩:=hN)
  go_wp2_with fail
  (go_at_call 94;refine (cd _ (Zm:EmB _ _ _ _ w _ _ _ _ _).a.em ⟨3,12,14,pG pl o.b,0,0,0⟩ yM).mono ?_;intro e w1 hD;have hN:=EmB.nx hD Zm;clear hD HB;(try clear i' pi j');obtain ⟨rfl,F2,sv,lv,bv,B,oa,oc,i',pi,j',HB⟩:=hN)
  go_wp2_with fail
  (go_at_call 149;refine (dZ _ (Zm:EmB _ _ _ _ w _ _ _ _ _).a.em o.site ⟨wr,12,pG pl o.a,13,0,z,0⟩ Bi).mono ?_;intro e w1 hD;have hN:=EmB.nx hD Zm;clear hD HB;(try clear i' pi j');obtain ⟨rfl,F2,sv,lv,bv,B,oa,oc,i',pi,j',HB⟩:=hN)
  go_wp2_with fail
  (go_at_call 223;refine (n7 _ (Zm:EmB _ _ _ _ w _ _ _ _ _).a.em OL Za Za D0).mono ?_;intro e w1 hD;have hN:=EmB.nx hD Zm;clear hD HB;(try clear i' pi j');obtain ⟨rfl,F2,sv,lv,bv,B,oa,oc,i',pi,j',HB⟩:=hN)
  go_wp2_with fail
  (go_at_call 141;refine (CF.out _ _ _ (Zm:EmB _ _ _ _ w _ _ _ _ _).a.em _ hd 14 hf).mono ?_;intro e w1 hD;have hN:=EmB.nx hD Zm;clear hD HB;(try clear i' pi j');obtain ⟨rfl,F2,sv,lv,bv,B,oa,oc,i',pi,j',HB⟩:=hN)
  go_wp2_with fail
  go_end0
  exact ZT
 ·rw [if_neg hk,if_neg hk] at hf ⊢
  have wZ:(o.kind==8)=false:=by simpa using hk
  have xZ:decide (o.kind=8)=false:=by simpa using hk
  clear hk
  have D0:=(ELe.add _ _).fin hf
  have Bi:=(ELe.add _ _).fin D0
  have yM:=(ELe.at_ _ _ _).fin Bi
  have Bw:=((ELe.at_ _ _ _).fin yM).out
  have Df:OL<=200000:=by omega
  clear Bw
  clear h hP
  unfold opC
  go_enter Tryz.func146,Tryz.ntmps146
  go_wp2_with fail
  refine ae (fun W=> ∀i,W.cell? (aB w.heap.size i)=(#[iI o.kind,iI o.dst,iI o.dst2,iI o.a,iI o.b,iI o.c,.int .u64 o.n,iI o.op,iI o.size,iI o.order,iI o.tO,iI o.site,iI o.line]:Array qV)[i]?) (fun W=>True) 3 rfl ?_
  refine Zp 0 rfl (h:=Zp 1 rfl (h:=Zt 2 rfl (h:=Zp 4 rfl (h:=Zp 5 rfl (h:=Zt 6 rfl (h:=?_))))));try simp only [Zq]
  refine Zs 3 rfl fun K hK=>?_
  go_simp
  (go_at_call 142;refine (CS.out _ _ _ (Zm:EmB _ _ _ _ w _ _ _ _ _).a.em _ ha _).mono ?_;rintro e w1 ⟨rfl,p,rfl⟩)
  refine hK _ _ Zw ?_
  clear hK K
  refine Zs 7 rfl fun K hK=>?_
  go_simp
  (go_at_call 142;refine (CS.out _ _ _ (Zm:EmB _ _ _ _ w _ _ _ _ _).a.em _ hb _).mono ?_;rintro e w1 ⟨rfl,p,rfl⟩)
  refine hK _ _ Zw ?_
  clear hK K
  refine Zs 8 rfl fun K hK=>?_
  go_simp
  try simp [go_sem,↓IntWalk.iteOmega]
  refine hK _ _ Zw ?_
  clear hK K
  refine Zs 9 rfl fun K hK=>?_
  go_simp
  try simp [go_sem,↓IntWalk.iteOmega]
  refine hK _ _ Zw ?_
  clear hK K
  refine af Zb ?_ _
  go_wp2_with fail
  refine ae (fun W=> ∀i,W.cell? (aB w.heap.size i)=(#[iI o.kind,iI o.dst,iI o.dst2,iI o.a,iI o.b,iI o.c,.int .u64 o.n,iI o.op,iI o.size,iI o.order,iI o.tO,iI o.site,iI o.line]:Array qV)[i]?) (fun W=>True) 2 rfl ?_
  refine Zp 0 rfl (h:=Zt 1 rfl (h:=Zp 4 rfl (h:=Zt 5 rfl (h:=?_))));try simp only [Zq]
  refine Zs 2 rfl fun K hK=>?_
  go_simp
  (go_at_call 220;refine (CQ.out _).mono ?_;rintro e w1 ⟨rfl,p,rfl⟩)
  refine hK _ _ Zw ?_
  clear hK K
  refine Zs 3 rfl fun K hK=>?_
  go_simp
  (go_at_call 219;refine (CEa.out _).mono ?_;rintro e w1 ⟨rfl,p,rfl⟩)
  refine hK _ _ Zw ?_
  clear hK K
  refine Zs 6 rfl fun K hK=>?_
  go_simp
  (go_at_call 222;refine (CR.out _).mono ?_;rintro e w1 ⟨rfl,p,rfl⟩)
  refine hK _ _ Zw ?_
  clear hK K
  refine Zs 7 rfl fun K hK=>?_
  go_simp
  (go_at_call 219;refine (CEr.out _).mono ?_;rintro e w1 ⟨rfl,p,rfl⟩)
  refine hK _ _ Zw ?_
  clear hK K
  refine Zs 8 rfl fun K hK=>?_
  go_simp
  try simp [go_sem,↓IntWalk.iteOmega]
  refine hK _ _ Zw ?_
  clear hK K
  refine Zs 9 rfl fun K hK=>?_
  go_simp
  try simp [go_sem,↓IntWalk.iteOmega]
  refine hK _ _ Zw ?_
  clear hK K
  refine af Zb ?_ _
  go_wp2_with fail
  refine ae (fun W=>(∀i,W.cell? (aB w.heap.size i)=(#[iI o.kind,iI o.dst,iI o.dst2,iI o.a,iI o.b,iI o.c,.int .u64 o.n,iI o.op,iI o.size,iI o.order,iI o.tO,iI o.site,iI o.line]:Array qV)[i]?)/\W.cell? (aB M 1)=some (.slice oa OL oc)) (fun W=>True) 7 rfl ?_
  refine Zp 0 rfl (hS:=⟨ZM,fun _=>trivial⟩) (h:=Zp 1 rfl (hS:=⟨ZM,fun _=>trivial⟩) (h:=Zp 2 rfl (hS:=⟨ZM,fun _=>trivial⟩) (h:=Zt 3 rfl (hS:=⟨ZM,fun _=>trivial⟩) (h:=Zp 4 rfl (hS:=⟨ZM,fun _=>trivial⟩) (h:=Zp 5 rfl (hS:=⟨ZM,fun _=>trivial⟩) (h:=Zt 6 rfl (hS:=⟨ZM,fun _=>trivial⟩) (h:=Zp 8 rfl (hS:=⟨ZM,fun _=>trivial⟩) (h:=?_))))))));try simp only [Zq]
  refine Zs 7 rfl fun K hK=>?_
  go_simp
  (go_at_call 221;refine (CZ.out _).mono ?_;rintro e w1 ⟨rfl,p,rfl⟩)
  refine hK _ _ ⟨ZM,fun _=>trivial⟩ ?_
  clear hK K
  refine Zs 9 rfl fun K hK=>?_
  go_simp
  try simp [go_sem,↓IntWalk.iteOmega]
  refine hK _ _ ⟨ZM,fun _=>trivial⟩ ?_
  clear hK K
  refine Zs 10 rfl fun K hK=>?_
  go_simp
  try simp [go_sem,↓IntWalk.iteOmega]
  refine hK _ _ ⟨ZM,fun _=>trivial⟩ ?_
  clear hK K
  refine Zs 11 rfl fun K hK=>?_
  go_simp
  try simp [go_sem,↓IntWalk.iteOmega]
  refine hK _ _ ⟨ZM,fun _=>trivial⟩ ?_
  clear hK K
  refine af Zb ?_ _
  go_wp2_with fail
  (go_at_call 149;refine (dZ _ (Zm:EmB _ _ _ _ w _ _ _ _ _).a.em o.site ⟨rd,14,pG pl o.a,0,0,z,0⟩ yM).mono ?_;intro e w1 hD;have hN:=EmB.nx hD Zm;clear hD HB;(try clear i' pi j');obtain ⟨rfl,F2,sv,lv,bv,B,oa,oc,i',pi,j',HB⟩:=hN)
  go_wp2_with fail
  (go_at_call 149;refine (dZ _ (Zm:EmB _ _ _ _ w _ _ _ _ _).a.em o.site ⟨wr,pG pl o.b,pG pl o.a,13,0,z,0⟩ Bi).mono ?_;intro e w1 hD;have hN:=EmB.nx hD Zm;clear hD HB;(try clear i' pi j');obtain ⟨rfl,F2,sv,lv,bv,B,oa,oc,i',pi,j',HB⟩:=hN)
  go_wp2_with fail
  (go_at_call 223;refine (n7 _ (Zm:EmB _ _ _ _ w _ _ _ _ _).a.em OL Za Za D0).mono ?_;intro e w1 hD;have hN:=EmB.nx hD Zm;clear hD HB;(try clear i' pi j');obtain ⟨rfl,F2,sv,lv,bv,B,oa,oc,i',pi,j',HB⟩:=hN)
  go_wp2_with fail
  (go_at_call 141;refine (CF.out _ _ _ (Zm:EmB _ _ _ _ w _ _ _ _ _).a.em _ hd 14 hf).mono ?_;intro e w1 hD;have hN:=EmB.nx hD Zm;clear hD HB;(try clear i' pi j');obtain ⟨rfl,F2,sv,lv,bv,B,oa,oc,i',pi,j',HB⟩:=hN)
  go_wp2_with fail
  go_end0
  exact ZT
end
section
variable{w0 W W' w:qW}{M:Nat}{F F1:Nat->Prop}{pv:qV}{s:ES}{o:OpD}{K:Nat}{pl:List Int}{g c:Nat}
end
section
variable{w0 W W' w:qW}{M:Nat}{F F1:Nat->Prop}{pv:qV}{s:ES}{o:OpD}{K:Nat}{pl:List Int}{g c:Nat}
end
end Go.Proofs.YtjmfoeajhiimnaaGreatDoor
