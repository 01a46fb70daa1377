/- Walks. No condition. -/
import Derived.Test.YtcekjfmfcefjpaaGreatDoorG25
set_option maxRecDepth 100000
set_option maxHeartbeats 0
set_option linter.all false
namespace Go.Proofs.YtcekjfmfcefjpaaGreatDoor
open Go.RowKit Go.Sort
def EThD(v:qW)(r:List Ins×List Int×List Int)(e:Ending)(w':qW):Prop:=
 ∃g1 c1 g2 c2 g3 c3,e= .returned (.tuple #[.slice (aA g1) r.1.length c1,.slice (aA g2) r.2.1.length c2,.slice (aA g3) r.2.2.length c3,iI 0])/\Below v.heap.size v w'/\
  (RowC w' g1 (r.1.flatMap insC)/\r.1.length<=c1/\v.heap.size<=g1/\g1<w'.heap.size)/\(RowC w' g2 (r.2.1.flatMap numC)/\r.2.1.length<=c2/\v.heap.size<=g2/\g2<w'.heap.size)/\(RowC w' g3 (r.2.2.flatMap numC)/\r.2.2.length<=c3/\v.heap.size<=g3/\g3<w'.heap.size)
theorem ydm(v:qW)(ops:List OpD)(g c:Nat)(hc:ops.length<=c)(yr:c<=9223372036854775807)(hg:g<v.heap.size)(hO:RowC v g (ops.flatMap opC))(pl:List Int)(pg pc:Nat)(hP:PlB v (.slice (aA pg) pl.length pc) pl pg pc)(priv:Nat)(Oa:priv<18446744073709551616)(xo:eOk ops pl priv=true)(r:List Ins×List Int×List Int)(hr:eThread ops pl priv=some r):
  qC 79 #[.slice (aA g) ops.length c,.slice (aA pg) pl.length pc,.int .u64 priv] v (EThD v r):=by
 simp only [eOk,za0] at xo
 obtain ⟨xp,Ao⟩:=xo
 have Lv:=@run_makeMap Tryz.prog
 have HM:=Zh (EmA.begin (ydp v (.slice (aA pg) pl.length pc) _ (fun _=>Iff.rfl)))
 have JL:(eCst 28 priv ⟨[],[],[],0,[],[],0⟩).line=0:=(ELe.cst 28 priv ⟨[],[],[],0,[],[],0⟩).line.symm
 have zI:EFin (eCst 28 priv ⟨[],[],[],0,[],[],0⟩):=((ELn.all ops _ xp).trans (ELe.add (nI 31) _).n).fin Ao (by rw [JL];exact ⟨by decide,by decide⟩)
 have HR:=Zh hr
 have EU:=Zh hP
 have Ec:=Zh Ao
 have Cr:=Zh xp
 have HO:=Zh hO
 clear hr hP Ao xp hO
 go_enter Tryz.func79,Tryz.ntmps79
 go_wp2_with fail
 generalize ((v.alloc (.map #[] 0)).alloc (.cells #[.slice (aA pg) pl.length pc,.slice none 0 0,.slice none 0 0,.slice none 0 0,iI 0,.map (some v.heap.size),.slice none 0 0,iI 0] 263))=w at HM ⊢
 (go_at_call 120;refine (iB _ ((EmA.bel HM.out Z8):EmA _ _ _ _ w _ _ _).em 28 priv Oa zI).mono ?_;intro e w1 hD;obtain rfl:=hD.1;obtain ⟨F2,hM,Cf,Fk⟩:=EmA.nextb HM.out Z8 hD;clear hD;(try clear i');(try clear pi);(try clear j');obtain ⟨ov,sv,lv,bv,B,i',pi,oa,oc,rfl⟩:=hM.em.rules;have j':=hM.em.bd;replace HM:=Zh hM;clear hM;have HK:=Zh Cf;clear Cf)
 go_wp2_with fail
 have Fq:Hid (rng (eCst 28 priv ⟨[],[],[],0,[],[],0⟩).line):=Zh zI.line
 have Au:Hid (eFine (eAdd (nI 31) (ops.foldl (fun s o=>eStep pl o s) (eCst 28 priv ⟨[],[],[],0,[],[],0⟩)))=true):=Ec
 have AF:Hid (eThread ops pl priv=some r):=HR
 unfold eThread at AF
 generalize eCst 28 priv ⟨[],[],[],0,[],[],0⟩=s1 at*
 clear i' pi Fk HK JL zI Ec HR
 go_loopw [26] (fun v26 wr=> ∃(j:Nat) (F1:Nat->Prop),v26=iI j/\j<=ops.length/\Hid (EmA v (v.heap.size+1) _ (.slice (aA pg) pl.length pc) w wr F1 ((ops.take j).foldl (fun s o=>eStep pl o s) s1))) (fun v26 _=>ops.length-(intOf v26).toNat)
 case atStart=>exact ⟨0,_,rfl,zaB _,HM⟩
 case round=>
  obtain ⟨j,F1,rfl,hj,HM⟩:=hrel
  have j':=HM.out.em.bd
  by_cases yL:j<ops.length
  ·obtain ⟨y,hy⟩: ∃y,ops[j]?=some y:=⟨ops[j],zaC yL⟩
   have wZ: ∀k u,k<13->(opC y)[k]?=some u->wr.cell? ⟨g,j*13+k,none⟩=some u:=fun k u hk hu=>(HM.out.em.bl.cell (p:=⟨g,j*13+k,none⟩) hg).trans (HO.out (j*13+k) u (by rw [bG (f:=opC) (z:=13) (fun _=>rfl) hy k hk];exact hu))
   have c0:=wZ 0 _ Za rfl
   have c1:=wZ 1 _ Za rfl
   have c2:=wZ 2 _ Za rfl
   have c3:=wZ 3 _ Za rfl
   have c4:=wZ 4 _ Za rfl
   have c5:=wZ 5 _ Za rfl
   have c6:=wZ 6 _ Za rfl
   have c7:=wZ 7 _ Za rfl
   have c8:=wZ 8 _ Za rfl
   have c9:=wZ 9 _ Za rfl
   have c10:=wZ 10 _ Za rfl
   have c11:=wZ 11 _ Za rfl
   have c12:=wZ 12 _ Za rfl
   rw [Nat.add_zero] at c0
   have I4:opOk pl y=true:=List.all_eq_true.1 Cr.out y (zat hy)
   have xR:EFin (eStep pl y ((ops.take j).foldl (fun s o=>eStep pl o s) s1)):=by
    have e:ops=ops.take (j+1)++ops.drop (j+1):=(List.take_append_drop _ _).symm
    have h1:=Au.out
    have h2:=Cr.out
    rw [e,zaD,du hy,zaD] at h1
    rw [e,List.all_append,za0] at h2
    exact ((ELn.all _ _ h2.2).trans (ELe.add _ _).n).fin h1 (jq I4 _)
   have HY:=Zh hy
   have HYO:=Zh I4
   clear wZ hy I4
   generalize yK:(ops.take j).foldl (fun s o=>eStep pl o s) s1=sj at*
   have Fq:=Zh yK
   clear yK
   go_wp2_with (go_at_call 121;refine (qz EU.out _ ((EmA.bel HM.out Z8):EmA _ _ _ _ w _ _ _).em y HYO.out xR).mono ?_;intro e w1 hD;obtain rfl:=hD.1;obtain ⟨F2,hM,Cf,Fk⟩:=EmA.nextb HM.out Z8 hD;clear hD;(try clear i');(try clear pi);(try clear j');obtain ⟨ov,sv,lv,bv,B,i',pi,oa,oc,rfl⟩:=hM.em.rules;have j':=hM.em.bd;replace HM:=Zh hM;clear hM;have HK:=Zh Cf;clear Cf)
   refine ⟨⟨j+1,F2,by go_num,yL,?_⟩,by simp [intOf];omega⟩
   rw [du HY.out,zaD,Fq.out]
   exact HM
  ·obtain rfl:j=ops.length:=by omega
   rw [List.take_length] at HM
   have AK:rng (ops.foldl (fun s o=>eStep pl o s) s1).line:=by
    rcases List.eq_nil_or_concat ops with h0|⟨l,y,h0⟩
    ·rw [h0];exact Fq.out
    ·rw [h0,List.concat_eq_append,zaD]
     exact jq (List.all_eq_true.1 Cr.out y (by rw [h0];simp)) _
   have yE:EFin (eAdd (nI 31) (ops.foldl (fun s o=>eStep pl o s) s1)):=(ELn.refl _).fin Au.out AK
   generalize ops.foldl (fun s o=>eStep pl o s) s1=s2 at*
   have e31:nI 31=⟨31,0,0,0,0,0,0⟩:=rfl
   rw [e31] at Au AF yE
   go_wp2_with fail
   (go_at_call 122;refine (ch _ ((EmA.bel HM.out Z8):EmA _ _ _ _ w _ _ _).em ⟨31,0,0,0,0,0,0⟩ yE).mono ?_;intro e w1 hD;obtain rfl:=hD.1;obtain ⟨F2,hM,Cf,Fk⟩:=EmA.nextb HM.out Z8 hD;clear hD;(try clear i');(try clear pi);(try clear j');obtain ⟨ov,sv,lv,bv,B,i',pi,oa,oc,rfl⟩:=hM.em.rules;have j':=hM.em.bd;replace HM:=Zh hM;clear hM;have HK:=Zh Cf;clear Cf)
   clear i' pi Fk HK AK e31
   have NN:0<(eAdd ⟨31,0,0,0,0,0,0⟩ s2).out.length:=by simp [eAdd,eAt]
   have Jt:0<(eAdd ⟨31,0,0,0,0,0,0⟩ s2).sites.length:=by simp [eAdd,eAt]
   have NM:0<(eAdd ⟨31,0,0,0,0,0,0⟩ s2).lines.length:=by simp [eAdd,eAt]
   generalize eAdd ⟨31,0,0,0,0,0,0⟩ s2=s3 at*
   have xS:=Au.out
   simp only [eFine,za0,zau,List.all_eq_true] at xS
   obtain ⟨⟨⟨⟨⟨⟨⟨b1,b2⟩,b3⟩,b4⟩,b5⟩,b6⟩,b7⟩,b8⟩:=xS
   have yx:=AF.out
   split at yx
   ·cases yx
   rename_i Jj
   simp only [ne_eq,Decidable.not_not] at Jj
   obtain ⟨he0,DF⟩:=ydu _ _ _ _ Jj
   have Hh:=Zh (zae yx)
   rw [ydv] at Hh
   clear yx Jj AF Au Fq hj yL
   obtain ⟨ov,sv,lv,bv,B,hx⟩:=HM.out.em
   obtain ⟨oa,oc,rfl,ol,ocm,onl,oat⟩:=az (hx.ob.own ⟨1,85,7,s3.out.length,s3.out.flatMap insC⟩ (by simp [emR]))
   obtain ⟨ba,bc,rfl,bll,bcm,bnl,bat⟩:=az (hx.ob.own ⟨6,267,2,s3.brs.length,s3.brs.flatMap brC⟩ (by simp [emR]))
   obtain ⟨og,rfl⟩: ∃og,oa=aA og:=by
    cases oa with
    |none=>have h9:s3.out.length=0:=(onl rfl).1;omega
    |some p=>exact ⟨p.block,by rw [oat p rfl]⟩
   clear onl oat
   obtain ⟨sa,sc,rfl,sl,scm,snl,sat⟩:=az (hx.ob.own ⟨2,3,1,s3.sites.length,s3.sites.flatMap numC⟩ (.tail _ (.head _)))
   obtain ⟨sg,rfl⟩: ∃sg,sa=aA sg:=by
    cases sa with
    |none=>have h9:s3.sites.length=0:=(snl rfl).1;omega
    |some p=>exact ⟨p.block,by rw [sat p rfl]⟩
   clear snl sat
   obtain ⟨la,lc,rfl,ll,lcm,lnl,lat⟩:=az (hx.ob.own ⟨3,3,1,s3.lines.length,s3.lines.flatMap numC⟩ (.tail _ (.tail _ (.head _))))
   obtain ⟨lg,rfl⟩: ∃lg,la=aA lg:=by
    cases la with
    |none=>have h9:s3.lines.length=0:=(lnl rfl).1;omega
    |some p=>exact ⟨p.block,by rw [lat p rfl]⟩
   clear lnl lat
   have q1: ∀j,w1.cell? ⟨v.heap.size+1,j,none⟩=(#[.slice (aA pg) pl.length pc,.slice (aA og) s3.out.length oc,.slice (aA sg) s3.sites.length sc,.slice (aA lg) s3.lines.length lc,iI s3.line,.map (some B),.slice ba s3.brs.length bc,iI s3.e]:Array qV)[j]?:=aa hx.ob.out
   have HX:=Zh hx
   clear hx
   have M7:Hid (0<s3.brs.length-> ∃bg,ba=aA bg):=Zh (fun h0=>by
    cases ba with
    |none=>have h9:s3.brs.length=0:=(bnl rfl).1;omega
    |some p=>exact ⟨p.block,by rw [bat p rfl]⟩)
   clear bnl bat
   have B7:=Zh b7
   have B8:=Zh b8
   have HSM:=Zh DF
   clear b7 b8 DF
   go_wp2_with fail
   clear q1
   go_loopw [42] (fun v42 wr=> ∃j:Nat,v42=iI j/\j<=s3.brs.length/\Hid (EmX v (v.heap.size+1) F2 (.slice (aA pg) pl.length pc) (.slice (aA og) s3.out.length oc) (.slice (aA sg) s3.sites.length sc) (.slice (aA lg) s3.lines.length lc) (.slice ba s3.brs.length bc) B wr {s3 with out:=(s3.brs.take j).foldl (ePat s3.labels) s3.out})) (fun v42 _=>s3.brs.length-(intOf v42).toNat)
   case atStart=>exact ⟨0,rfl,zaB _,HX⟩
   case round=>
    obtain ⟨j,rfl,hj,HX⟩:=hrel
    have wX:=ydt s3.labels (s3.brs.take j) s3.out
    have j':=HX.out.bd
    have q1: ∀j,wr.cell? ⟨v.heap.size+1,j,none⟩=(#[.slice (aA pg) pl.length pc,.slice (aA og) s3.out.length oc,.slice (aA sg) s3.sites.length sc,.slice (aA lg) s3.lines.length lc,iI s3.line,.map (some B),.slice ba s3.brs.length bc,iI s3.e]:Array qV)[j]?:=aa HX.out.ob.out
    by_cases yL:j<s3.brs.length
    ·obtain ⟨bg,rfl⟩:=M7.out Za
     obtain ⟨y,hy⟩: ∃y,s3.brs[j]?=some y:=⟨s3.brs[j],zaC yL⟩
     have Bn:=HX.out.ob.own ⟨6,267,2,s3.brs.length,s3.brs.flatMap brC⟩ (.tail _ (.tail _ (.tail _ (.head _))))
     have wZ: ∀k u,k<2->(brC y)[k]?=some u->wr.cell? ⟨bg,j*2+k,none⟩=some u:=fun k u hk hu=>by
      have:=Bn.cells (g:=bg) rfl (j*2+k) u (by rw [bG (f:=brC) (z:=2) (fun _=>rfl) hy k hk];exact hu)
      rw [bK] at this
      exact this
     have c0:=wZ 0 _ Za rfl
     have c1:=wZ 1 _ Za rfl
     rw [Nat.add_zero] at c0
     have AA:=Bn.lt bg rfl
     clear wZ Bn q1
     go_wp2_with fail
     refine aT (R:=fun W=>EmX v (v.heap.size+1) F2 (.slice (aA pg) pl.length pc) (.slice (aA og) s3.out.length oc) (.slice (aA sg) s3.sites.length sc) (.slice (aA lg) s3.lines.length lc) (.slice (aA bg) s3.brs.length bc) B W {s3 with out:=(s3.brs.take j).foldl (ePat s3.labels) s3.out}/\W.heap[wr.heap.size]?=some (.cells #[iI y.1,iI y.2] 267 (0,0))/\wr.heap.size<W.heap.size) ⟨HX.out.below (ab (zaa _ _) _),zab _ _,by simp [go_sem]⟩ ?_
     clear c0 c1
     rintro W ⟨hX,hK,xW⟩
     have I5:=zat hy
     obtain ⟨⟨y1,y2⟩,y3⟩:=B7.out y I5
     have FL:=HSM.out y I5
     obtain ⟨tt,C8⟩:=Option.isSome_iff_exists.1 FL
     have E6:=B8.out _ (ydw C8)
     simp only at E6
     have E4:=bT y3
     obtain ⟨yk,K3⟩: ∃yk:Nat,y.1=yk:=⟨y.1.toNat,by omega⟩
     have Fx:yk<s3.out.length:=by omega
     have hoB:=hX.ob.own ⟨1,85,7,{s3 with out:=(s3.brs.take j).foldl (ePat s3.labels) s3.out}.out.length,{s3 with out:=(s3.brs.take j).foldl (ePat s3.labels) s3.out}.out.flatMap insC⟩ (.head _)
     have hog:=hoB.lt og rfl
     have DV:wr.heap.size≠og:=fun e=>by
      have:=(HX.out.ob.own ⟨1,85,7,{s3 with out:=(s3.brs.take j).foldl (ePat s3.labels) s3.out}.out.length,{s3 with out:=(s3.brs.take j).foldl (ePat s3.labels) s3.out}.out.flatMap insC⟩ (.head _)).lt og rfl
      omega
     have qim:W.cell? ⟨og,yk*7+6,none⟩=some (iI (({s3 with out:=(s3.brs.take j).foldl (ePat s3.labels) s3.out}.out.getD yk (nI 0)).imm)):=by
      have h9:{s3 with out:=(s3.brs.take j).foldl (ePat s3.labels) s3.out}.out[yk]?=some ({s3 with out:=(s3.brs.take j).foldl (ePat s3.labels) s3.out}.out.getD yk (nI 0)):=by
       rw [zaU,zaC (by rw [wX];exact Fx)]
       rfl
      have:=hoB.cells (g:=og) rfl (yk*7+6) _ (by rw [bG (f:=insC) (z:=7) (fun _=>rfl) h9 6 Za];rfl)
      rw [bK] at this
      exact this
     have qif: ∀i,W.frozen? (aB og i)=false:=by
      rcases hoB.2 with ⟨e1, -⟩|⟨g1,cap,cur,e1,h2,h3,h4,h5,h6,h7⟩
      ·cases e1
      ·injection e1 with e1
       obtain rfl:og=g1:=by simpa using e1
       exact ai h3
     obtain ⟨cc,Bo,wZ⟩:=(hX.map.keep (show W.drew.heap[B]?=W.heap[B]? from rfl)).look y.2 (by simp [Lit.wf,IntKind.min,IntKind.max,IntKind.signed,IntKind.bits];exact E4)
     simp only [C8,Option.isSome_some] at Bo
     obtain rfl:cc=tt:=wZ tt C8
     have qm: ∀j,W.cell? ⟨v.heap.size+1,j,none⟩=(#[.slice (aA pg) pl.length pc,.slice (aA og) s3.out.length oc,.slice (aA sg) s3.sites.length sc,.slice (aA lg) s3.lines.length lc,iI s3.line,.map (some B),.slice (aA bg) s3.brs.length bc,iI s3.e]:Array qV)[j]?:=aa hX.ob.out
     have qk: ∀j,W.cell? (aB wr.heap.size j)=(#[iI y.1,iI y.2]:Array qV)[j]?:=aa hK
     have hbdX:=hX.bd
     replace HX:=Zh hX
     have HY:=Zh hy
     have Kx:=Zh C8
     clear hX hK hoB FL C8 wZ I5 hy y3 M7
     have wT:=qk 1
     have yd:=qk 0
     have NR:=qm 5
     have Aw:=qm 1
     refine ae (fun W=>W.cell? ⟨v.heap.size+1,5,none⟩=some (.map (some B))/\W.cell? (aB wr.heap.size 1)=some (iI y.2)) (fun W=>True) 6 rfl ?_
     have hA:W.drew.cell? ⟨v.heap.size+1,5,none⟩=some (.map (some B))/\W.drew.cell? (aB wr.heap.size 1)=some (iI y.2):=⟨NR,wT⟩
     have hB:True:=trivial
     refine Zp 0 rfl (h:=Zp 1 rfl (h:=Zp 2 rfl (h:=Zt 3 rfl (h:=Zp 4 rfl (h:=Zt 5 rfl (h:=?_))))));try simp only [Zq]
     refine Zs 6 rfl fun K hK=>?_
     go_simp
     refine hK _ _ ⟨hA,fun _=>trivial⟩ ?_
     clear hK K
     refine Zp 7 rfl (h:=Zp 8 rfl (h:=Zp 9 rfl (h:=?_)));try simp only [Zq]
     refine Zs 10 rfl fun K hK=>?_
     go_simp
     refine hK _ _ ⟨hA,fun _=>trivial⟩ ?_
     clear hK K
     refine Zs 11 rfl fun K hK=>?_
     go_simp
     refine hK _ _ ⟨hA,fun _=>trivial⟩ ?_
     clear hK K
     refine af Zb ?_ _
     go_wp2_with fail
     rw [K3] at yd
     clear hA hB
     refine ae (fun W=>W.cell? ⟨v.heap.size+1,1,none⟩=some (.slice (aA og) s3.out.length oc)/\W.cell? (aB wr.heap.size 0)=some (iI yk)) (fun W=>True) 12 rfl ?_
     have hA:W.drew.drew.cell? ⟨v.heap.size+1,1,none⟩=some (.slice (aA og) s3.out.length oc)/\W.drew.drew.cell? (aB wr.heap.size 0)=some (iI yk):=⟨Aw,yd⟩
     have hB:True:=trivial
     refine Zp 0 rfl (h:=Zp 1 rfl (h:=Zp 2 rfl (h:=Zt 3 rfl (h:=Zp 4 rfl (h:=Zt 5 rfl (h:=Zp 6 rfl (h:=Zp 7 rfl (h:=Zt 8 rfl (h:=Zp 9 rfl (h:=Zp 10 rfl (h:=Zp 11 rfl (h:=?_))))))))))));try simp only [Zq]
     refine Zs 12 rfl fun K hK=>?_
     go_simp
     refine hK _ _ ⟨⟨(zaH _ _ _ _ (fun e=>by have:=congrArg Addr.block e;simp only at this;omega)).trans Aw,(zaH _ _ _ _ (fun e=>by have:=congrArg Addr.block e;simp only at this;omega)).trans yd⟩,fun _=>trivial⟩ ?_
     clear hK K
     refine af Zb ?_ _
     go_wp2_with fail
     refine ⟨⟨j+1,by go_num,by omega,Zh ?_⟩,by simp [intOf];omega⟩
     rw [du HY.out,zaD]
     have hd:=HX.out.below (ag (ag (zaa W.heap.size W)))
     refine EmX.patch wX hd Za (by rw [List.foldl_cons,List.foldl_nil,nd]) ?_
     simp only [List.foldl_cons,List.foldl_nil]
     generalize (s3.brs.take j).foldl (ePat s3.labels) s3.out=LL at wX ⊢
     unfold ePat
     rw [Kx.out,K3,Int.toNat_natCast]
     exact dl (z:=7) (fun _=>rfl) (nI 0) _ yk 6 _ _ (by rw [wX];exact Fx) Za rfl
    ·obtain rfl:j=s3.brs.length:=by omega
     rw [List.take_length] at HX wX
     have hm:=q1
     clear q1
     go_wp2_with fail
     have Aw:=hm 1
     have BQ:=hm 2
     have Jw:=hm 3
     clear hm
     refine ae (fun W=>W.cell? ⟨v.heap.size+1,1,none⟩=some (.slice (aA og) s3.out.length oc)/\W.cell? ⟨v.heap.size+1,2,none⟩=some (.slice (aA sg) s3.sites.length sc)/\W.cell? ⟨v.heap.size+1,3,none⟩=some (.slice (aA lg) s3.lines.length lc)) (fun W=>True) 12 rfl ?_
     have hA:wr.drew.cell? ⟨v.heap.size+1,1,none⟩=some (.slice (aA og) s3.out.length oc)/\wr.drew.cell? ⟨v.heap.size+1,2,none⟩=some (.slice (aA sg) s3.sites.length sc)/\wr.drew.cell? ⟨v.heap.size+1,3,none⟩=some (.slice (aA lg) s3.lines.length lc):=⟨Aw,BQ,Jw⟩
     have hB:True:=trivial
     refine Zp 0 rfl (h:=Zp 1 rfl (h:=Zp 2 rfl (h:=Zt 3 rfl (h:=Zp 4 rfl (h:=Zp 5 rfl (h:=Zp 6 rfl (h:=Zt 7 rfl (h:=Zp 8 rfl (h:=Zp 9 rfl (h:=Zp 10 rfl (h:=Zt 11 rfl (h:=?_))))))))))));try simp only [Zq]
     refine Zs 12 rfl fun K hK=>?_
     go_simp
     refine hK _ _ ⟨hA,fun _=>trivial⟩ ?_
     clear hK K
     refine Zs 13 rfl fun K hK=>?_
     go_simp
     refine hK _ _ ⟨hA,fun _=>trivial⟩ ?_
     clear hK K
     refine Zs 14 rfl fun K hK=>?_
     go_simp
     refine hK _ _ ⟨hA,fun _=>trivial⟩ ?_
     clear hK K
     refine Zs 15 rfl fun K hK=>?_
     go_simp
     refine hK _ _ ⟨hA,fun _=>trivial⟩ ?_
     clear hK K
     refine af Zb ?_ _
     go_wp2_with fail
     refine zad (by simp [results,Tryz.results79,go_sem];try rfl) rfl ?_
     rw [<-Hh.out]
     have hx:=HX.out.below (ag (zaa wr.heap.size wr))
     have xg:=hx.bl
     have o1:=hx.ob.own _ (.head _)
     have o2:=hx.ob.own _ (.tail _ (.head _))
     have o3:=hx.ob.own _ (.tail _ (.tail _ (.head _)))
     have l1:=o1.lt og rfl
     have l2:=o2.lt sg rfl
     have l3:=o3.lt lg rfl
     refine ⟨og,oc,sg,sc,lg,lc,?_,xg,⟨fun k u hu=>?_,?_,by omega,l1.2⟩,⟨fun k u hu=>?_,sl,by omega,l2.2⟩,⟨fun k u hu=>?_,ll,by omega,l3.2⟩⟩
     ·simp only [wX]
     ·have:=o1.cells (g:=og) rfl k u hu
      rw [bK] at this
      exact this
     ·simp only [wX]
      exact ol
     ·have:=o2.cells (g:=sg) rfl k u hu
      rw [bK] at this
      exact this
     ·have:=o3.cells (g:=lg) rfl k u hu
      rw [bK] at this
      exact this
end Go.Proofs.YtcekjfmfcefjpaaGreatDoor
namespace Go.Proofs.YtcekjfmfcefjpaaGreatDoor
open Go.RowKit
def OpD.lop(o:OpD):LOp:=⟨o.kind,o.dst,o.dst2,o.a,o.b,o.c,o.n,o.op,o.size,o.order,o.to,o.site,o.line⟩
def opsFn(l:List OpD):Nat->LOp:=fun k=>(l.getD k default).lop
def passes(lps:List (Int×Int)):Nat->List Tri->Option (List Tri)
 |0,_=>none
 |n+1,l=>if anyM lps l then passes lps n (pass lps l) else some l
def liveF(ops:List OpD)(regs:Int):Option (List Tri):=passes (lpN (opsFn ops) ops.length) 1000 (outN (ivsN regs (opsFn ops) ops.length) regs.toNat)
def mapV(at_:Int):List VarD->List GlD×Int
 |[]=>([],at_)
 |v::l=>
  let z:=tySize v.type
  let a:=(at_+z-1)/z*z
  let r:=mapV (a+z) l
  (⟨v.name,65536+a,z⟩::r.1,r.2)
def varsOk:List qB->List VarD->Bool
 |_,[]=>true
 |seen,v::m=>nameB v.name&&!keyw v.name&&!seen.any (fun s=>eqB s v.name)&&decide (SoundF 66 v.type=0)&&varsOk (seen++[v.name]) m
def cProg(p:PrgD):Bool:=
 decide (p.vars.length<=32)&&decide (1<=p.threads.length)&&decide (p.threads.length<=8)&&varsOk [] p.vars&&decide ((mapV 0 p.vars).2<=65536)&&
  p.threads.all (fun t=>(cBlock (fun y s=>cStmt p.vars 66 y 1 s) t ([],0)).isSome)
def iStack(size:Int)(n:Nat):Int:=65536+(size+15)/16*16+n*1024
def iEnc:List Ins->Option (List Nat)
 |[]=>some []
 |i::l=>match enc i,iEnc l with
  |some w,some r=>some (w::r)
  |_,_=>none
end Go.Proofs.YtcekjfmfcefjpaaGreatDoor
namespace Go.Proofs.YtcekjfmfcefjpaaGreatDoor
open Go.RowKit Go.Sort
theorem uH{w:qW}{g:Nat}{ops:List OpD}(h:RowC w g (ops.flatMap opC))(k:Nat)(hk:k<ops.length):OAt w g (0+k*13) (opsFn ops k):=by
 have hy:ops[k]?=some (ops.getD k default):=by rw [zaU,zaC hk];rfl
 have wZ: ∀m u,m<13->(opC (ops.getD k default))[m]?=some u->w.cell? ⟨g,k*13+m,none⟩=some u:=fun m u hm hu=>h (k*13+m) u (by rw [bG (f:=opC) (z:=13) (fun _=>rfl) hy m hm];exact hu)
 rw [zag]
 exact ⟨wZ 0 _ Za rfl,wZ 1 _ Za rfl,wZ 2 _ Za rfl,wZ 3 _ Za rfl,wZ 4 _ Za rfl,wZ 5 _ Za rfl,wZ 6 _ Za rfl,wZ 7 _ Za rfl,wZ 8 _ Za rfl,wZ 9 _ Za rfl,wZ 10 _ Za rfl,wZ 11 _ Za rfl,wZ 12 _ Za rfl⟩
theorem tW{lps:List (Int×Int)}: ∀(n:Nat) {l r:List Tri},passes lps n l=some r->Stops lps l r:=by
 intro n
 induction n with
 |zero=>intro l r h;cases h
 |succ n ih=>
  intro l r h
  unfold passes at h
  cases hm:anyM lps l with
  |true=>
   rw [hm] at h
   exact .go hm (ih h)
  |false=>
   rw [hm] at h
   simp only [zaY,if_false,zaA] at h
   exact h ▸ .stop hm
theorem ju(w:qW)(ta:Option Addr)(L tc:Nat)(sv gv:qV)(size:Int)(n:Nat)(hn:n<L)(Ju:n<8)(h0:0<=size)(h1:size<=65536)(hL:L<=100):qC 13 #[.agg #[.slice ta L tc,sv,gv,iI size],iI n] w (Gives w (.agg #[iI (iStack size n),iI 1024])):=by
 have hv:iStack size n=65536+(size+15)/16*16+n*1024:=rfl
 rw [hv]
 clear hv
 have hdv:(size+16-1).tdiv 16=(size+15)/16:=by
  rw [Int.tdiv_eq_ediv_of_nonneg Za]
  congr 1
  omega
 have hdv2:(size+15).tdiv 16=(size+15)/16:=Int.tdiv_eq_ediv_of_nonneg Za
 have yC:0<=(size+15)/16:=by omega
 have zF:(size+15)/16<=5000:=by omega
 generalize (size+15)/16=d at*
 go_enter Tryz.func13,Tryz.ntmps13
 go_wp2_with fail
 (try simp only [Exit.inBlock,Exit.then]);refine zad (by simp [results,Tryz.results13,go_sem,↓IntWalk.iteOmega];try rfl) rfl ?_
 exact Gives.mk rfl Z8
def lopB(o:OpD):Bool:=rngB o.a&&rngB o.b&&rngB o.c&&rngB o.dst&&rngB o.dst2&&rngB o.to
def insB(i:Ins):Bool:=rngB i.op&&rngB i.d&&rngB i.n&&rngB i.m&&rngB i.e&&rngB i.sz&&rngB i.imm
def iThreadB(gl:List GlD)(size:Int)(t:List Sm)(n:Nat):Option (List Nat×List (Int×Int)):=
 match lThread gl t with
 |none=>none
 |some (ops,regs)=>match liveF ops regs with
  |none=>none
  |some iv=>
   if !(decide (0<iv.length)&&decide (iv.length<=20)&&decide (0<ops.length)&&decide (ops.length<=61)&&decide (0<regs)&&decide (regs<=300)&&ops.all lopB) then none else
   match aAssignB iv regs.toNat with
   |none=>none
   |some pl=>
    if !eOk ops pl (iStack size n).toNat then none else
    match eThread ops pl (iStack size n).toNat with
    |none=>none
    |some (l,sites,lines)=>
     if !(l.all insB&&decide (sites.length=l.length)&&decide (lines.length=l.length)&&decide (0<l.length)&&decide (l.length<=100000)) then none else
     match iEnc l with
     |none=>none
     |some ws=>some (ws,sites.zip lines)
structure IThB(gl:List GlD)(size:Int)(t:List Sm)(n:Nat)(r:List Nat×List (Int×Int)) where
 ops:List OpD
 regs:Nat
 iv:List Tri
 pl:List Int
 l:List Ins
 sites:List Int
 lines:List Int
 lo:lThread gl t=some (ops,(regs:Int))
 lv:Stops (lpN (opsFn ops) ops.length) (outN (ivsN (regs:Int) (opsFn ops) ops.length) (regs:Int).toNat) iv
 iv0:0<iv.length
 iv1:iv.length<=20
 op0:0<ops.length
 op1:ops.length<=61
 rg1:regs<=300
 lop: ∀k,k<ops.length->(opsFn ops k).ok
 asg:aAssignB iv regs=some pl
 ok:eOk ops pl (iStack size n).toNat=true
 em:eThread ops pl (iStack size n).toNat=some (l,sites,lines)
 ins: ∀i∈l,i.rng
 sl:sites.length=l.length
 ll:lines.length=l.length
 l0:0<l.length
 l1:l.length<=100000
 enc:iEnc l=some r.1
 told:r.2=sites.zip lines
theorem ybS{gl:List GlD}{size:Int}{t:List Sm}{n:Nat}{r:List Nat×List (Int×Int)}(h:iThreadB gl size t n=some r):Nonempty (IThB gl size t n r):=by
 unfold iThreadB at h
 split at h
 ·cases h
 rename_i ops regs xx
 split at h
 ·cases h
 rename_i iv JA
 split at h
 ·cases h
 rename_i hc
 simp only [Bool.not_eq_true',Bool.not_eq_false,za0,zau,List.all_eq_true] at hc
 obtain ⟨⟨⟨⟨⟨⟨k1,k2⟩,k3⟩,k4⟩,k5⟩,k6⟩,k7⟩:=hc
 split at h
 ·cases h
 rename_i pl has
 split at h
 ·cases h
 rename_i xo
 split at h
 ·cases h
 rename_i l sites lines Gz
 split at h
 ·cases h
 rename_i yr
 simp only [Bool.not_eq_true',Bool.not_eq_false,za0,zau,List.all_eq_true] at yr
 obtain ⟨⟨⟨⟨m1,m2⟩,m3⟩,m4⟩,m5⟩:=yr
 split at h
 ·cases h
 rename_i ws FA
 obtain rfl:=zae h
 obtain ⟨rg,rfl⟩: ∃rg:Nat,regs=rg:=⟨regs.toNat,by omega⟩
 simp only [Bool.not_eq_true',Bool.not_eq_false] at xo
 refine ⟨⟨ops,rg,iv,pl,l,sites,lines,xx,tW _ JA,k1,k2,k3,k4,by omega,fun k hk=>?_,has,xo,Gz,fun i hi=>?_,m2,m3,m4,m5,FA,rfl⟩⟩
 ·have hb:=k7 (ops.getD k default) (by rw [zaU,zaC hk];exact List.getElem_mem hk)
  simp only [lopB,za0] at hb
  obtain ⟨⟨⟨⟨⟨b1,b2⟩,b3⟩,b4⟩,b5⟩,b6⟩:=hb
  have hw: ∀{x:Int},rngB x=true->wfI x:=fun hx=>by
   have:=bT hx
   unfold wfI rng at*
   simp [Lit.wf,IntKind.min,IntKind.max,IntKind.signed,IntKind.bits]
   exact this
  exact ⟨hw b1,hw b2,hw b3,hw b4,hw b5,hw b6⟩
 ·have hb:=m1 i hi
  simp only [insB,za0] at hb
  obtain ⟨⟨⟨⟨⟨⟨b1,b2⟩,b3⟩,b4⟩,b5⟩,b6⟩,b7⟩:=hb
  intro k hk
  match k,hk with
  |0,_=>exact bT b1
  |1,_=>exact bT b2
  |2,_=>exact bT b3
  |3,_=>exact bT b4
  |4,_=>exact bT b5
  |5,_=>exact bT b6
  |6,_=>exact bT b7
end Go.Proofs.YtcekjfmfcefjpaaGreatDoor
