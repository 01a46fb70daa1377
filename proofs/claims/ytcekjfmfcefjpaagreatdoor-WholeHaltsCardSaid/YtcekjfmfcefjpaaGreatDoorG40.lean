/- Walks. No condition. -/
import Derived.Test.YtcekjfmfcefjpaaGreatDoorG39
set_option maxRecDepth 100000
set_option maxHeartbeats 0
set_option linter.all false
namespace Go.Proofs.YtcekjfmfcefjpaaGreatDoor
open Go.RowKit Go.Sort
def dY(n:Nat):List qV:=[.int .u32 n]
def siteC(k:Nat)(s:Int×Int):List qV:=[iI k,iI s.1,iI s.2]
def ITD(w:qW)(n:Nat)(r:List Nat×List (Int×Int))(e:Ending)(w':qW):Prop:=
 ∃g1 c1 g2 c2,e= .returned (.tuple #[.slice (aA g1) r.1.length c1,.slice (aA g2) r.2.length c2,.agg #[iI 0,iI 0]])/\Below w.heap.size w w'/\
  w'.ownsRow w.heap.size 83 1 (.slice (aA g1) r.1.length c1) r.1.length (r.1.flatMap dY)/\w'.ownsRow w.heap.size 44 3 (.slice (aA g2) r.2.length c2) r.2.length (r.2.flatMap (siteC n))
theorem cr{w:qW}{B s n c:Nat}{a:Option Addr}{e:TypeId}{xs:List qV}(h:w.ownsRow B e s (.slice a n c) n xs)(hn:0<n): ∃g,a=aA g:=by
 obtain ⟨a',c',e1,_,_,h1,h2⟩:=az h
 injection e1 with e1
 subst e1
 cases a with
 |none=>have:=(h1 rfl).1;omega
 |some p=>exact ⟨p.block,by rw [h2 p rfl]⟩
theorem bS{w:qW}{B s n c g:Nat}{e:TypeId}{xs:List qV}(h:w.ownsRow B e s (.slice (aA g) n c) n xs):RowC w g xs:=fun j u hu=>by
 have:=h.cells (g:=g) rfl j u hu
 rw [bK] at this
 exact this
theorem yfo{l:List Tri}{regs:Nat}{pl:List Int}(h:aAssignB l regs=some pl):pl.length=regs:=by
 unfold aAssignB at h
 rw [za1] at h
 obtain ⟨⟨q,P⟩,h,rfl⟩:=h
 have:=om _ _ _ h
 simpa using this
theorem ybT: ∀(l:List Ins) (ws:List Nat),iEnc l=some ws->ws.length=l.length/\ ∀(k:Nat) (i:Ins),l[k]?=some i-> ∃wd,enc i=some wd/\ws[k]?=some wd:=by
 intro l
 induction l with
 |nil=>
  intro ws h
  cases h
  exact ⟨rfl,fun k i hk=>by simp at hk⟩
 |cons i l ih=>
  intro ws h
  unfold iEnc at h
  split at h
  ·rename_i wd r h1 h2
   obtain rfl:=zae h
   obtain ⟨k1,k2⟩:=ih r h2
   refine ⟨by simp [k1],fun k x hk=>?_⟩
   cases k with
   |zero=>
    simp only [List.getElem?_cons_zero,zaA] at hk ⊢
    subst hk
    exact ⟨wd,h1,rfl⟩
   |succ k=>exact k2 k x hk
  ·cases h
theorem dI{w:qW}{B B' s n:Nat}{v:qV}{e:TypeId}{xs:List qV}(h:w.ownsRow B e s v n xs)(hB:B'<=B):w.ownsRow B' e s v n xs:=by
 refine ⟨h.1,?_⟩
 rcases h.2 with h2|⟨g,cap,cur,e1,h2,h3⟩
 ·exact .inl h2
 ·exact .inr ⟨g,cap,cur,e1,zal hB h2,h3⟩
theorem oZ:(Tryz.prog.info? 83).map (fun i=>(i.zero,i.size,i.bytes))=some (some (.int .u32 0),1,4):=by kernel_rfl
theorem jE:(Tryz.prog.info? 44).map (fun i=>(i.zero,i.size,i.bytes))=some (some (.agg #[iI 0,iI 0,iI 0]),3,24):=by kernel_rfl
theorem jT{W:qW}{g:Nat}{l:List Int}(h:RowC W g (l.flatMap numC)){k:Nat}(hk:k<l.length):W.cell? (aB g k)=some (iI (l.getD k 0)):=by
 have hy:l[k]?=some (l.getD k 0):=by rw [zaU,zaC hk];rfl
 have:=h (k*1+0) _ (by rw [bG (f:=numC) (z:=1) (fun _=>rfl) hy 0 Za];rfl)
 simpa using this
structure ThK(w:qW)(iv:qV->Array qV)(W:qW):Prop where
 im:W.heap[w.heap.size+1]?=some (.cells (iv undef) 28 (0,0))
 fl:W.heap[w.heap.size+1+1]?=some (.cells #[iI 0,iI 0] 31 (0,0))
 sz:w.heap.size+3<=W.heap.size
 bl:Below w.heap.size w W
theorem ThK.below{w W W':qW}{iv:qV->Array qV}(h:ThK w iv W)(hb:Below W.heap.size W W'):ThK w iv W':=
 ⟨(hb.block _ (by have:=h.sz;omega)).trans h.im,(hb.block _ (by have:=h.sz;omega)).trans h.fl,zal h.sz hb.size,ar h.bl hb h.bl.size⟩
theorem rU(x y:Int)(W:qW):(Instr.field 38 (.agg #[iI x,iI y]) 0).run Tryz.prog W= .ok (iI x) W:=by kernel_rfl
theorem o5{w:qW}{g:Nat}{l:List Tri}(h:RowAt w g l):RowC w g (l.flatMap tvC):=by
 intro j u hu
 have wX: ∀l:List Tri,(l.flatMap tvC).length=l.length*3:=by
  intro l
  induction l with
  |nil=>rfl
  |cons x l ih=>rw [zaf,zaO,ih];simp [tvC];omega
 have hj:j<l.length*3:=by rw [<-wX];exact (List.getElem?_eq_some_iff.1 hu).1
 have hd:j=j/3*3+j%3:=by omega
 have hq:j/3<l.length:=by omega
 have hx:l[j/3]?=some l[j/3]:=zaC hq
 have hf:=bG (f:=tvC) (z:=3) (fun _=>rfl) hx (j%3) Za
 rw [<-hd,hu] at hf
 obtain ⟨c0,c1,c2, -⟩:=h (j/3) _ hx
 have h3:j%3=0\/j%3=1\/j%3=2:=by omega
 rcases h3 with e|e|e
 ·rw [e] at hf hd
  rw [hd,Nat.add_zero,c0]
  simpa [tvC] using hf.symm
 ·rw [e] at hf hd
  rw [hd,c1]
  simpa [tvC] using hf.symm
 ·rw [e] at hf hd
  rw [hd,c2]
  simpa [tvC] using hf.symm
theorem pf(p:PrgD)(v1 v2:qV)(w:qW)(yT:SpT w)(h:PrgAt w okA v1 v2 p)(xo:cProg p=true)(n:Nat)(t:List Sm)(ht:p.threads[n]?=some t)(ta:Option Addr)(tc L:Nat)(sv gv:qV)(size:Int)(NP:n<L)(Ju:n<8)(h0:0<=size)(h1:size<=65536)(hL:L<=100)(r:List Nat×List (Int×Int))(hr:iThreadB (mapV 0 p.vars).1 size t n=some r):
  qC 39 #[.agg #[v1,v2],.agg #[.slice ta L tc,sv,gv,iI size],iI n] w (ITD w n r):=by
 obtain ⟨H⟩:=ybS hr
 obtain ⟨ops,regs,iv,pl,l,sites,lines,xx,JA,iv0,iv1,op0,op1,rg1,JF,GM,Eh,Gz,Gl,DI,Fa,l0,l1,Gy,BH⟩:=H
 have CT:=Zh (fun W (hb:Below w.heap.size w W)=>pd p v1 v2 W (yT.below hb) (h.below hb) xo n t ht (ops,(regs:Int)) xx)
 have CS:=Zh (fun W=>ju W ta L tc sv gv size n NP Ju h0 h1 hL)
 have xw:Hid (0<=iStack size n/\iStack size n<=500000):=Zh (by unfold iStack;omega)
 clear h xo ht hr xx
 obtain ⟨i0,xz,xq,xm,xk⟩:=zan oZ
 obtain ⟨i1,Br,AH,Bm,Ag⟩:=zan jE
 go_enter Tryz.func39,Tryz.ntmps39
 go_wp2_with fail
 go_at_call 76
 refine (CT.out _ Zv).mono ?_
 rintro e w1 ⟨oa,oc,rfl,hb,yc,hown⟩
 obtain ⟨g,rfl⟩:=cr hown op0
 have yd:ThK w (fun _=>#[.slice ta L tc,sv,gv,iI size]) (((w.alloc (.cells #[v1,v2] 64)).alloc (.cells #[.slice ta L tc,sv,gv,iI size] 28)).alloc (.cells #[iI 0,iI 0] 31)):=
  ⟨(zac _ _ ZG).trans (aI ZG),aI ZG,by simp [go_sem],ab (ab (ab (zaa _ _) _) _) _⟩
 have xq:(((w.alloc (.cells #[v1,v2] 64)).alloc (.cells #[.slice ta L tc,sv,gv,iI size] 28)).alloc (.cells #[iI 0,iI 0] 31)).heap.size=w.heap.size+3:=by simp [go_sem]
 have HT:=Zh (yd.below hb)
 have HO:=Zh hown
 have xY:=hown.lt g rfl
 rw [xq] at xY
 clear hb hown yd xq CT
 have hfd:=rU
 go_wp2_with fail
 obtain ⟨_,oc2,e2,Ej,Ei, -⟩:=az HO.out
 injection e2 with e2 e3 e4
 subst e4
 clear e2
 have Ml:RowC w1 g (ops.flatMap opC):=bS HO.out
 have EC:g<w1.heap.size:=xY.2
 have Eb:=Zh Ml
 clear Ml
 go_at_call 78
 refine (ybn (aA g) g 0 ops.length oc (opsFn ops) regs (fun _=>rfl) op1 Ej Ei Za Za JF _ (fun k hk=>uH (Eb.out.kp ((Kp.refl (fun _=>False) w1).alloc _) EC id) k hk)).mono ?_
 rintro e w2 ⟨A',g',c',r',rfl,⟨p2,rfl⟩,FK,ML,hg'0,hc',J6,xd⟩
 obtain rfl:=FK.unique JA
 obtain ⟨rfl,Iq⟩:=ML iv0
 have C3:=Zh (ye2 _ g' c' r' iv0 iv1 Iq (o5 xd) hc' J6 regs Za pl GM)
 clear FK ML xd
 have yM:=Zh ((HT.out.below (ab (zaa w1.heap.size w1) (.cells #[iI 0,iI 0] 31))).below (av _ p2))
 have Hg:=Zh ((Eb.out.kp ((Kp.refl (fun _=>False) w1).alloc (.cells #[iI 0,iI 0] 31)) EC id).kp (Kp.mo (X:=fun _=>False) _ p2) ZR id)
 have Gq:g<(more (w1.alloc (.cells #[iI 0,iI 0] 31)) p2).heap.size:=by simp [go_sem];omega
 generalize more (w1.alloc (.cells #[iI 0,iI 0] 31)) p2=w2 at*
 go_wp2_with fail
 go_at_call 77
 refine C3.out.mono ?_
 rintro e w3 ⟨pg,pc,rfl,AY,yj⟩
 have KA:=Zh (yM.out.below AY)
 have Hf:=Zh (Hg.out.kp (Kp.of_below (X:=fun _=>False) AY) Gq id)
 have Gp:g<w3.heap.size:=by have:=AY.size;omega
 have xu:=Zh yj
 have Cw:=yj.lt pg rfl
 have qi: ∀i,w3.cell? ⟨w.heap.size+1,i,none⟩=(#[.slice ta L tc,sv,gv,iI size]:Array qV)[i]?:=aa KA.out.im
 clear AY yj C3 yM Hg Gq
 go_wp2_with fail
 go_at_call 13
 refine (CS.out _).mono ?_
 rintro e w4 ⟨rfl,p4,rfl⟩
 obtain ⟨ps,DN⟩: ∃ps:Nat,iStack size n=ps:=⟨(iStack size n).toNat,by have:=xw.out;omega⟩
 rw [DN] at xw Eh Gz ⊢
 simp only [Int.toNat_natCast] at Eh Gz
 have NH:=xw.out
 have MV:=Zh (KA.out.below (av w3 p4))
 have He:=Zh (Hf.out.kp (Kp.mo (X:=fun _=>False) w3 p4) Gp id)
 have Gn:g<(more w3 p4).heap.size:=by simp [go_sem];omega
 have FV:pg<(more w3 p4).heap.size:=by simp [go_sem];omega
 have Hm:=Zh (bV xu.out (Kp.mo (X:=fun _=>False) w3 p4) id)
 generalize more w3 p4=w5 at*
 have C5:=Zh (ydm w5 ops g oc Ej Ei Gn He.out pl pg pc ⟨rfl,FV,fun i hi=>by
  have:=cQ Hm.out hi
  exact this,by rw [yfo GM];omega⟩ ps Za Eh (l,sites,lines) Gz)
 clear KA Hf Gp qi He
 go_wp2_with fail
 go_at_call 79
 refine C5.out.mono ?_
 rintro e w6 ⟨g1,c1,g2,c2,g3,c3,rfl,LX,⟨r1,r1c,r1l,r1s⟩,⟨r2,r2c,r2l,r2s⟩,⟨r3,r3c,r3l,r3s⟩⟩
 have Kz:=Zh (MV.out.below LX)
 have Cm:=Zh r1
 have AG:=Zh r2
 have IT:=Zh r3
 simp only [] at r1c r2c r3c r1s r2s r3s
 have hw6:=Kz.out.sz
 obtain ⟨yU,LJ⟩:=ybT l r.1 Gy
 have HEK:=Zh LJ
 have zC:Hid (r.2.length=l.length):=Zh (by rw [BH,List.length_zip,DI,Fa];simp)
 have HTO:=Zh BH
 have Cp:=Zh Gl
 clear LX r1 r2 r3 MV Hm xu Cw FV Gn C5 LJ BH Gl xY EC Gy
 go_wp2_with fail
 go_loopw [18,19,66] (fun v18 v19 v66 wr=> ∃k:Nat,v66=iI k/\k<=l.length/\Below w6.heap.size w6 wr/\Hid (wr.ownsRow w6.heap.size 83 1 v18 k ((r.1.take k).flatMap dY))/\Hid (wr.ownsRow w6.heap.size 44 3 v19 k ((r.2.take k).flatMap (siteC n)))/\Hid (∀b,v18.ownBlock=some b->v19.ownBlock≠some b)) (fun v18 v19 v66 _=>l.length-(intOf v66).toNat)
 case atStart=>exact ⟨0,rfl,zaB _,zaa _ _,Zh (zaX _ _ _ _),Zh (zaX _ _ _ _),Zh (fun b hb=>by cases hb)⟩
 case round=>
  obtain ⟨k,rfl,hk,hB,Dw,zV,KV⟩:=hrel
  have hsz:=hB.size
  obtain ⟨a1,d1,rfl,Dl,hd1m, -, -⟩:=az Dw.out
  obtain ⟨a2,d2,rfl,hd2,hd2m, -, -⟩:=az zV.out
  by_cases zj:k<l.length
  ·obtain ⟨y,hy⟩: ∃y,l[k]?=some y:=⟨l[k],zaC zj⟩
   obtain ⟨wd,yR,K9⟩:=HEK.out k y hy
   have E4:=Cp.out y (zat hy)
   have wZ: ∀m u,m<7->(insC y)[m]?=some u->wr.cell? ⟨g1,k*7+m,none⟩=some u:=fun m u hm hu=>(hB.cell (p:=⟨g1,k*7+m,none⟩) r1s).trans (Cm.out (k*7+m) u (by rw [bG (f:=insC) (z:=7) (fun _=>rfl) hy m hm];exact hu))
   have e0:=wZ 0 _ Za rfl
   have e1:=wZ 1 _ Za rfl
   have e2:=wZ 2 _ Za rfl
   have e3:=wZ 3 _ Za rfl
   have e4:=wZ 4 _ Za rfl
   have e5:=wZ 5 _ Za rfl
   have e6:=wZ 6 _ Za rfl
   rw [Nat.add_zero] at e0
   have yB:=(hB.cell (p:=⟨g2,k,none⟩) r2s).trans (jT AG.out (k:=k) (by simp only [DI];exact zj))
   have DJ:=(hB.cell (p:=⟨g3,k,none⟩) r3s).trans (jT IT.out (k:=k) (by simp only [Fa];exact zj))
   obtain ⟨sk,Ji⟩: ∃sk,sites.getD k 0=sk:=⟨_,rfl⟩
   obtain ⟨lk,Bo⟩: ∃lk,lines.getD k 0=lk:=⟨_,rfl⟩
   rw [Ji] at yB
   rw [Bo] at DJ
   have HSK:=Zh Ji
   have HLK:=Zh Bo
   clear Ji Bo
   have CE:=Zh (fun W=>m7 y E4 W)
   rw [yR] at CE
   simp only [Option.getD_some,Option.isSome_some,if_true] at CE
   have HWK:=Zh K9
   simp only [DI,Fa] at r2c r3c
   have Hl:=Zh (fun W (hW:Below wr.heap.size wr W)=>aw Dw.out (fun g hg=>hW.block g (Dw.out.lt g hg).2))
   have Hk:=Zh (fun W (hW:Below wr.heap.size wr W)=>aw zV.out (fun g hg=>hW.block g (zV.out.lt g hg).2))
   have IY:=Zh hB
   clear wZ hy yR K9 hB
   try simp only [DI,Fa]
   go_wp2_with fail
   go_at_call 80
   refine (CE.out _).mono ?_
   rintro e wv ⟨rfl,p7,rfl⟩
   have AX:Below wr.heap.size wr (more (wr.alloc (.cells #[iI y.op,iI y.d,iI y.n,iI y.m,iI y.e,iI y.sz,iI y.imm] 85)) p7):=aF (ab (zaa _ _) _) p7
   have Ns:=AX.size
   have zY:=Zh AX
   have c2':=(AX.cell (p:=⟨g2,k,none⟩) (by show g2<_;omega)).trans yB
   have c3':=(AX.cell (p:=⟨g3,k,none⟩) (by show g3<_;omega)).trans DJ
   have o1':=Zh (Hl.out _ AX)
   have o2':=Zh (Hk.out _ AX)
   have IH:=Zh (IY.out.trans ⟨AX.os,AX.tape,AX.output,AX.size,fun i hi=>AX.block i Za⟩)
   clear AX yB DJ e0 e1 e2 e3 e4 e5 e6 CE Hl Hk Dw zV IY
   generalize more (wr.alloc (.cells #[iI y.op,iI y.d,iI y.n,iI y.m,iI y.e,iI y.sz,iI y.imm] 85)) p7=wa at*
   go_wp2_with (at_builtin;refine bL (.tmp 79) (.tmp 81) 72 83 i0 _ 1 4 Tryz.underlying72 xz xq xm xk rfl Zg rfl rfl w6.heap.size _ k ((r.1.take k).flatMap dY) (aw o1'.out (fun g hg=>zac _ _ (o1'.out.lt g hg).2)) wa.heap.size #[.int .u32 wd] 83 (0,0) (zab _ _) rfl rfl rfl ZL Za Za ZM ?_;intro g8 cap8 wb hown wW xb JB;have xP:=Zh hown;have zs:=Zh wW;have Fw:=Zh xb;clear hown wW xb)
   have z9:Kp (fun b=>(Value.slice a1 k d1).ownBlock=some b) wa wb:=((Kp.refl (fun b=>(Value.slice a1 k d1).ownBlock=some b) wa).alloc _).trans ((Kp.of_grown zs.out).mono (fun b _ e=>e.symm))
   have Iz: ∀b,(Value.slice a1 k d1).ownBlock=some b->w6.heap.size<=b:=fun b e=>(o1'.out.lt b e).1
   have MG:Below w6.heap.size w6 wb:=aH IH.out z9 Iz
   have c2b:wb.cell? (aB g2 k)=_:=(z9.cell Za (fun e=>by have:=Iz _ e;omega)).trans c2'
   have c3b:wb.cell? (aB g3 k)=_:=(z9.cell Za (fun e=>by have:=Iz _ e;omega)).trans c3'
   have o2b:=Zh (ah o2'.out z9 (fun b hb e=>KV.out b e hb))
   have Nt:=z9.size
   have M8:=Zh MG
   have EJ:Hid (∀b,(Value.slice (aA g8) (k+1) cap8).ownBlock=some b->(Value.slice a2 k d2).ownBlock≠some b):=Zh (fun b hb e2=>by
    have AA:g8=b:=by simpa [Value.ownBlock] using hb
    subst AA
    rcases Fw.out with e|e
    ·exact KV.out _ e e2
    ·have:=(o2'.out.lt _ e2).2
     simp only [au] at e
     omega)
   clear c2' c3' o1' o2' IH z9 Iz MG zs Fw KV
   refine ae (fun W=>W.cell? (aB g2 k)=some (iI sk)/\W.cell? (aB g3 k)=some (iI lk)) (fun W=>True) 13 rfl ?_
   have hA:wb.drew.cell? (aB g2 k)=some (iI sk)/\wb.drew.cell? (aB g3 k)=some (iI lk):=⟨c2b,c3b⟩
   have hB:True:=trivial
   refine Zp 0 rfl (h:=Zp 1 rfl (h:=Zp 2 rfl (h:=Zp 3 rfl (h:=Zp 4 rfl (h:=Zt 5 rfl (h:=Zp 6 rfl (h:=Zp 7 rfl (h:=Zp 8 rfl (h:=Zt 9 rfl (h:=Zp 10 rfl (h:=?_)))))))))));try simp only [Zq]
   refine Zs 11 rfl fun K hK=>?_
   go_simp
   have ya:(wb.alloc (.cells #[iI n,iI sk,iI lk] 44)).drew.cell? (aB g2 k)=some (iI sk)/\(wb.alloc (.cells #[iI n,iI sk,iI lk] 44)).drew.cell? (aB g3 k)=some (iI lk):=⟨(an Za).trans c2b,(an Za).trans c3b⟩
   refine hK _ _ ⟨ya,fun _=>trivial⟩ ?_
   clear hK K hA
   have hA:=ya
   refine Zs 12 rfl fun K hK=>?_
   refine a8 (.tmp 83) (.tmp 94) 73 44 i1 _ 3 24 Tryz.underlying73 Br AH Bm Ag rfl Zg rfl rfl w6.heap.size (.slice a2 k d2) k ((r.2.take k).flatMap (siteC n)) (aw o2b.out (fun g hg=>zac _ _ (o2b.out.lt g hg).2)) wb.heap.size #[iI n,iI sk,iI lk] 44 (0,0) (zab _ _) ZB ZB rfl ZL Za Za Zc ?_
   intro g9 cap9 wc hown wW xb NS
   have Gh:Kp (fun b=>(Value.slice a2 k d2).ownBlock=some b) wb wc:=(((Kp.refl (fun b=>(Value.slice a2 k d2).ownBlock=some b) wb).drew).alloc _).trans ((Kp.of_grown wW).mono (fun b _ e=>e.symm))
   have Iy: ∀b,(Value.slice a2 k d2).ownBlock=some b->w6.heap.size<=b:=fun b e=>(o2b.out.lt b e).1
   have hB9:=Zh (aH M8.out Gh Iy)
   have o1c:=Zh (ah xP.out Gh (fun b hb e=>EJ.out b hb e))
   have Ka:Hid (∀b,(Value.slice (aA g8) (k+1) cap8).ownBlock=some b->(Value.slice (aA g9) (k+1) cap9).ownBlock≠some b):=Zh (fun b hb e2=>by
    have AA:g9=b:=by simpa [Value.ownBlock] using e2
    subst AA
    rcases xb with e|e
    ·exact EJ.out _ hb e
    ·have:=(xP.out.lt _ hb).2
     simp only [Zz] at e
     omega)
   have HO9:=Zh hown
   have c2c:wc.cell? (aB g2 k)=some (iI sk):=(Gh.cell Za (fun e=>by have:=Iy _ e;omega)).trans c2b
   have c3c:wc.cell? (aB g3 k)=some (iI lk):=(Gh.cell Za (fun e=>by have:=Iy _ e;omega)).trans c3b
   clear hown wW xb Gh Iy M8 EJ o2b xP
   refine hK _ _ ⟨⟨c2c,c3c⟩,fun _=>trivial⟩ ?_
   clear hK K hA ya
   have hA:wc.cell? (aB g2 k)=some (iI sk)/\wc.cell? (aB g3 k)=some (iI lk):=⟨c2c,c3c⟩
   refine Zs 13 rfl fun K hK=>?_
   go_simp
   refine hK _ _ ⟨hA,fun _=>trivial⟩ ?_
   clear hK K
   refine af Zb ?_ _
   go_wp2_with fail
   have FH:r.1.take (k+1)=r.1.take k++[wd]:=du HWK.out
   have yx:r.2[k]?=some (sk,lk):=by
    rw [HTO.out,List.getElem?_zip_eq_some,<-HSK.out,<-HLK.out]
    have hg: ∀(x:List Int),k<x.length->x[k]?=some (x.getD k 0):=fun x hx=>by
     rw [zaU,zaC hx]
     rfl
    exact ⟨hg sites Za,hg lines Za⟩
   have C9:r.2.take (k+1)=r.2.take k++[(sk,lk)]:=du yx
   refine ⟨⟨k+1,by go_num,zj,hB9.out,Zh ?_,Zh ?_,Ka⟩,by simp [intOf];omega⟩
   ·rw [FH,List.flatMap_append]
    exact o1c.out
   ·rw [C9,List.flatMap_append]
    exact HO9.out
  ·obtain rfl:k=l.length:=by omega
   have hf:=(Kz.out.below hB)
   have zI:wr.cell? ⟨w.heap.size+1+1,0,none⟩=some (iI 0):=(aa hf.fl 0).trans rfl
   have xR:wr.cell? ⟨w.heap.size+1+1,1,none⟩=some (iI 0):=(aa hf.fl 1).trans rfl
   have Ad: ∀i,wr.frozen? ⟨w.heap.size+1+1,i,none⟩=false:=ai hf.fl
   have A7:=Dw.out
   have Av:=zV.out
   rw [show l.length=r.1.length from yU.symm,List.take_length] at A7
   rw [show l.length=r.2.length from zC.out.symm,List.take_length] at Av
   obtain ⟨q1,rfl⟩:=cr A7 Za
   obtain ⟨q2,rfl⟩:=cr Av (by have:=zC.out;omega)
   have qa:(wr.setCell ⟨w.heap.size+1+1,0,none⟩ (iI 0)).cell? ⟨w.heap.size+1+1,0,none⟩=some (iI 0):=zaF _ _ _ zI
   have qb:(wr.setCell ⟨w.heap.size+1+1,0,none⟩ (iI 0)).cell? ⟨w.heap.size+1+1,1,none⟩=some (iI 0):=(zaH _ _ _ _ (fun e=>by have:=congrArg Addr.off e;simp at this)).trans xR
   have qz0:((wr.setCell ⟨w.heap.size+1+1,0,none⟩ (iI 0)).setCell ⟨w.heap.size+1+1,1,none⟩ (iI 0)).cell? ⟨w.heap.size+1+1,0,none⟩=some (iI 0):=(zaH _ _ _ _ (fun e=>by have:=congrArg Addr.off e;simp at this)).trans qa
   have qz1:((wr.setCell ⟨w.heap.size+1+1,0,none⟩ (iI 0)).setCell ⟨w.heap.size+1+1,1,none⟩ (iI 0)).cell? ⟨w.heap.size+1+1,1,none⟩=some (iI 0):=zaF _ _ _ qb
   go_wp2_with fail
   (try simp only [Exit.inBlock,Exit.then]);refine zad (by simp [results,Tryz.results39,go_sem,↓IntWalk.iteOmega,qz0,qz1];try rfl) rfl ?_
   have BU:Kp (fun b=>b=w.heap.size+1+1) wr ((wr.setCell ⟨w.heap.size+1+1,0,none⟩ (iI 0)).setCell ⟨w.heap.size+1+1,1,none⟩ (iI 0)):=(Kp.set wr _ 0 _).trans (Kp.set _ _ 1 _)
   have Fn:Below w.heap.size w w6:=Kz.out.bl
   have hBr:Below w.heap.size w wr:=Fn.trans ⟨hB.os,hB.tape,hB.output,hB.size,fun i hi=>hB.block i (by have:=Fn.size;omega)⟩
   have G6:=aH hBr BU (fun b e=>by omega)
   have yZ:w.heap.size<=w6.heap.size:=Fn.size
   have Lo:=dI (ah A7 BU (fun b hb e=>by have:=(A7.lt b hb).1;omega)) yZ
   have hoB:=dI (ah Av BU (fun b hb e=>by have:=(Av.lt b hb).1;omega)) yZ
   have CG:l.length=r.1.length:=yU.symm
   have yy:l.length=r.2.length:=zC.out.symm
   exact ⟨q1,d1,q2,d2,by rw [<-CG,<-yy],G6,by rw [<-CG] at Lo ⊢;exact Lo,by rw [<-yy] at hoB ⊢;exact hoB⟩
end Go.Proofs.YtcekjfmfcefjpaaGreatDoor
