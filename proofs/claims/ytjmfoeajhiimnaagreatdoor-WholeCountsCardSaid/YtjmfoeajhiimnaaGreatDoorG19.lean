/- Walks. No condition. -/
import Derived.Test.YtjmfoeajhiimnaaGreatDoorG18
set_option maxRecDepth 100000
set_option maxHeartbeats 0
set_option linter.all false
namespace Go.Proofs.YtjmfoeajhiimnaaGreatDoor
open Go.RowKit Go.Sort
def plB(pl:List Int)(r:Int):Bool:=decide (0<=r)&&decide (r.toNat<pl.length)&&decide (0<=pl.getD r.toNat 0)&&decide (pl.getD r.toNat 0<=100)
theorem aP{pl:List Int}{r:Int}(h:plB pl r=true):plR pl r:=by
 simp only [plB,za0,zau] at h
 exact ⟨h.1.1.1,h.1.1.2,h.1.2,h.2⟩
def rngB(x:Int):Bool:=decide (-9223372036854775808<=x)&&decide (x<=9223372036854775807)
theorem bU{x:Int}(h:rngB x=true):rng x:=by
 simp only [rngB,za0,zau] at h
 exact h
def szB(n:Int):Bool:=decide (n=1)||decide (n=2)||decide (n=4)||decide (n=8)||decide (n=16)
theorem jr{n:Int}(h:szB n=true):n=1\/n=2\/n=4\/n=8\/n=16:=by
 simp only [szB,zak,zau] at h
 omega
def opK(pl:List Int)(o:OpD):Bool:=
 if o.kind=1 then plB pl o.dst else
 if o.kind=2 then plB pl o.a&&plB pl o.dst else
 if o.kind=3 then plB pl o.a&&plB pl o.b&&plB pl o.dst else
 if o.kind=5 then plB pl o.a&&plB pl o.b&&szB o.size else
 if o.kind=8 then plB pl o.a&&plB pl o.b&&plB pl o.dst&&szB o.size else
 if o.kind=14 then true else
 if o.kind=15 then true else
 if o.kind=16 then plB pl o.a else
 if o.kind=18 then plB pl o.a else
 false
def opOk(pl:List Int)(o:OpD):Bool:=rngB o.line&&rngB o.tO&&decide (o.n<18446744073709551616)&&opK pl o
section
variable{w0 W W' w:qW}{M:Nat}{F F1:Nat->Prop}{pv:qV}{s:ES}{o:OpD}{K:Nat}{pl:List Int}{g c:Nat}
theorem qQ(hP:PlB w0 pv pl g c)(w:qW)(h:Em w0 M F pv w s)(o:OpD)(xr:opOk pl o=true)(hf:EFin (eStep pl o s)):qC 93 #[pP M,.agg (opC o).toArray] w (EmD w0 M F pv w (eStep pl o s) (.tuple #[])):=by
 simp only [opOk,za0,zau] at xr
 obtain ⟨⟨⟨hl,ht⟩,hn⟩,hk⟩:=xr
 replace hl:=bU hl
 replace ht:=bU ht
 unfold opK at hk
 by_cases ym:o.kind=1
 ·rw [if_pos ym] at hk
  have r0:=hk
  exact qZ hP w h o ym (aP r0) hn hl hf
 rw [if_neg ym] at hk
 by_cases wZ:o.kind=2
 ·rw [if_pos wZ] at hk
  simp only [za0] at hk
  obtain ⟨r0,r1⟩:=hk
  exact qY hP w h o wZ (aP r0) (aP r1) hl hf
 rw [if_neg wZ] at hk
 by_cases xZ:o.kind=3
 ·rw [if_pos xZ] at hk
  simp only [za0] at hk
  obtain ⟨⟨r0,r1⟩,r2⟩:=hk
  exact qX hP w h o xZ (aP r0) (aP r1) (aP r2) hl hf
 rw [if_neg xZ] at hk
 by_cases An:o.kind=5
 ·rw [if_pos An] at hk
  simp only [za0] at hk
  obtain ⟨⟨r0,r1⟩,r2⟩:=hk
  exact qU hP w h o An (aP r0) (aP r1) hn (jr r2) hl hf
 rw [if_neg An] at hk
 by_cases Be:o.kind=8
 ·rw [if_pos Be] at hk
  simp only [za0] at hk
  obtain ⟨⟨⟨r0,r1⟩,r2⟩,r3⟩:=hk
  exact qT hP w h o Be (aP r0) (aP r1) (aP r2) (jr r3) hl hf
 rw [if_neg Be] at hk
 by_cases EB:o.kind=14
 ·rw [if_pos EB] at hk
  exact rj hP w h o EB ht hl hf
 rw [if_neg EB] at hk
 by_cases CM:o.kind=15
 ·rw [if_pos CM] at hk
  exact ri hP w h o CM hl hf
 rw [if_neg CM] at hk
 by_cases EA:o.kind=16
 ·rw [if_pos EA] at hk
  have r0:=hk
  exact rh hP w h o EA (aP r0) hl hf
 rw [if_neg EA] at hk
 by_cases Ae:o.kind=18
 ·rw [if_pos Ae] at hk
  have r0:=hk
  exact q8 hP w h o Ae (aP r0) hl hf
 rw [if_neg Ae] at hk
 cases hk
theorem ELe.brs_(s:ES)(b:Int×Int):ELe s {s with brs:=s.brs++[b]}:=⟨zaq _,zaq _,zaq _,zaq _,by simp,rfl,rfl⟩
theorem ELe.labels_(s:ES)(b:Int×Int):ELe s {s with labels:=b::s.labels}:=⟨zaq _,zaq _,zaq _,by simp,zaq _,rfl,rfl⟩
theorem ELe.step(xr:opOk pl o=true)(s:ES):ELe {s with line:=o.line} (eStep pl o s):=by
 simp only [opOk,za0,zau] at xr
 obtain ⟨⟨⟨hl,ht⟩,hn⟩,hk⟩:=xr
 clear hl ht hn
 unfold opK at hk
 unfold eStep
 generalize {s with line:=o.line}=s1
 simp only []
 by_cases ym:o.kind=1
 ·rw [if_pos ym] at hk
  have r0:=hk
  simp only [ym,Int.reduceEq,if_true,if_false,or_self,or_true,true_or,or_false,false_or,reduceIte,false_and,true_and,eK (aP r0),eL (aP r0)]
  (repeat (first|exact ELe.refl _|(refine ELe.trans ?_ (ELe.add _ _))|(refine ELe.trans ?_ (ELe.at_ _ _ _))|(refine ELe.trans ?_ (ELe.cst _ _ _))|(refine ELe.trans ?_ (ELe.brs_ _ _))|(refine ELe.trans ?_ (ELe.labels_ _ _))|split))
 rw [if_neg ym] at hk
 by_cases wZ:o.kind=2
 ·rw [if_pos wZ] at hk
  simp only [za0] at hk
  obtain ⟨r0,r1⟩:=hk
  simp only [wZ,Int.reduceEq,if_true,if_false,or_self,or_true,true_or,or_false,false_or,reduceIte,false_and,true_and,bm (aP r0),fC (aP r1),eMove]
  (repeat (first|exact ELe.refl _|(refine ELe.trans ?_ (ELe.add _ _))|(refine ELe.trans ?_ (ELe.at_ _ _ _))|(refine ELe.trans ?_ (ELe.cst _ _ _))|(refine ELe.trans ?_ (ELe.brs_ _ _))|(refine ELe.trans ?_ (ELe.labels_ _ _))|split))
 rw [if_neg wZ] at hk
 by_cases xZ:o.kind=3
 ·rw [if_pos xZ] at hk
  simp only [za0] at hk
  obtain ⟨⟨r0,r1⟩,r2⟩:=hk
  simp only [xZ,Int.reduceEq,if_true,if_false,or_self,or_true,true_or,or_false,false_or,reduceIte,false_and,true_and,eBin,bm (aP r0),bm (aP r1),eK (aP r2),eL (aP r2)]
  (repeat (first|exact ELe.refl _|(refine ELe.trans ?_ (ELe.add _ _))|(refine ELe.trans ?_ (ELe.at_ _ _ _))|(refine ELe.trans ?_ (ELe.cst _ _ _))|(refine ELe.trans ?_ (ELe.brs_ _ _))|(refine ELe.trans ?_ (ELe.labels_ _ _))|split))
 rw [if_neg xZ] at hk
 by_cases An:o.kind=5
 ·rw [if_pos An] at hk
  simp only [za0] at hk
  obtain ⟨⟨r0,r1⟩,r2⟩:=hk
  simp only [An,Int.reduceEq,if_true,if_false,or_self,or_true,true_or,or_false,false_or,reduceIte,false_and,true_and,eStore,eAddr,bm (aP r0),bm (aP r1)]
  (repeat (first|exact ELe.refl _|(refine ELe.trans ?_ (ELe.add _ _))|(refine ELe.trans ?_ (ELe.at_ _ _ _))|(refine ELe.trans ?_ (ELe.cst _ _ _))|(refine ELe.trans ?_ (ELe.brs_ _ _))|(refine ELe.trans ?_ (ELe.labels_ _ _))|split))
 rw [if_neg An] at hk
 by_cases Be:o.kind=8
 ·rw [if_pos Be] at hk
  simp only [za0] at hk
  obtain ⟨⟨⟨r0,r1⟩,r2⟩,r3⟩:=hk
  simp only [Be,Int.reduceEq,if_true,if_false,or_self,or_true,true_or,or_false,false_or,reduceIte,false_and,true_and,eChange,bm (aP r0),bm (aP r1),fC (aP r2),eMove,eBack]
  (repeat (first|exact ELe.refl _|(refine ELe.trans ?_ (ELe.add _ _))|(refine ELe.trans ?_ (ELe.at_ _ _ _))|(refine ELe.trans ?_ (ELe.cst _ _ _))|(refine ELe.trans ?_ (ELe.brs_ _ _))|(refine ELe.trans ?_ (ELe.labels_ _ _))|split))
 rw [if_neg Be] at hk
 by_cases EB:o.kind=14
 ·rw [if_pos EB] at hk
  simp only [EB,Int.reduceEq,if_true,if_false,or_self,or_true,true_or,or_false,false_or,reduceIte,false_and,true_and]
  (repeat (first|exact ELe.refl _|(refine ELe.trans ?_ (ELe.add _ _))|(refine ELe.trans ?_ (ELe.at_ _ _ _))|(refine ELe.trans ?_ (ELe.cst _ _ _))|(refine ELe.trans ?_ (ELe.brs_ _ _))|(refine ELe.trans ?_ (ELe.labels_ _ _))|split))
 rw [if_neg EB] at hk
 by_cases CM:o.kind=15
 ·rw [if_pos CM] at hk
  simp only [CM,Int.reduceEq,if_true,if_false,or_self,or_true,true_or,or_false,false_or,reduceIte,false_and,true_and,eJump]
  (repeat (first|exact ELe.refl _|(refine ELe.trans ?_ (ELe.add _ _))|(refine ELe.trans ?_ (ELe.at_ _ _ _))|(refine ELe.trans ?_ (ELe.cst _ _ _))|(refine ELe.trans ?_ (ELe.brs_ _ _))|(refine ELe.trans ?_ (ELe.labels_ _ _))|split))
 rw [if_neg CM] at hk
 by_cases EA:o.kind=16
 ·rw [if_pos EA] at hk
  have r0:=hk
  simp only [EA,Int.reduceEq,if_true,if_false,or_self,or_true,true_or,or_false,false_or,reduceIte,false_and,true_and,eJump,bm (aP r0)]
  (repeat (first|exact ELe.refl _|(refine ELe.trans ?_ (ELe.add _ _))|(refine ELe.trans ?_ (ELe.at_ _ _ _))|(refine ELe.trans ?_ (ELe.cst _ _ _))|(refine ELe.trans ?_ (ELe.brs_ _ _))|(refine ELe.trans ?_ (ELe.labels_ _ _))|split))
 rw [if_neg EA] at hk
 by_cases Ae:o.kind=18
 ·rw [if_pos Ae] at hk
  have r0:=hk
  simp only [Ae,Int.reduceEq,if_true,if_false,or_self,or_true,true_or,or_false,false_or,reduceIte,false_and,true_and,bm (aP r0)]
  (repeat (first|exact ELe.refl _|(refine ELe.trans ?_ (ELe.add _ _))|(refine ELe.trans ?_ (ELe.at_ _ _ _))|(refine ELe.trans ?_ (ELe.cst _ _ _))|(refine ELe.trans ?_ (ELe.brs_ _ _))|(refine ELe.trans ?_ (ELe.labels_ _ _))|split))
 rw [if_neg Ae] at hk
 cases hk
end
theorem bH{w:qW}{B s n c g:Nat}{e:TypeId}{xs:List qV}(h:w.ownsRow B e s (.slice (aA g) n c) n xs)(i:Nat)(hi:i<n*s)(u:qV):(w.setCell ⟨g,i,none⟩ u).ownsRow B e s (.slice (aA g) n c) n (xs.set i u):=by
 refine ⟨by rw [List.length_set];exact h.1,?_⟩
 rcases h.2 with ⟨e1, -⟩|⟨g1,cap,cur,e1,h2,h3,h4,h5,h6,h7⟩
 ·cases e1
 ·right
  injection e1 with e1 e3 e4
  obtain rfl:g=g1:=by simpa using e1
  subst e4
  refine ⟨g,c,cur.setIfInBounds i u,rfl,h2,aJ h3 u,h4,h5,by rw [Array.size_setIfInBounds];exact h6,?_⟩
  rw [<-h7,Array.toList_setIfInBounds,List.take_set]
theorem ydx(w:qW)(pv:qV)(F:Nat->Prop)(hF: ∀k,F k↔k=w.heap.size+1\/k=w.heap.size):Em w (w.heap.size+1) F pv ((w.alloc (.map #[] 0)).alloc (.cells #[pv,.slice none 0 0,.slice none 0 0,.slice none 0 0,iI 0,.map (some w.heap.size),.slice none 0 0,iI 0] 238)) ⟨[],[],[],0,[],[],0⟩:=by
 have hown: ∀(W:qW) e sz,W.ownsRow (w.heap.size+1+1) e sz (.slice none 0 0) 0 []:=fun W e sz=>zaX _ _ _ _
 refine ⟨.slice none 0 0,.slice none 0 0,.slice none 0 0,.slice none 0 0,w.heap.size,⟨⟨aH ZC,?_,?_,?_⟩,?_,⟨by omega,zaq _⟩,?_,?_,?_,by omega,⟨by simp,by simp,by simp,by simp,by simp,rfl,⟨show (-9223372036854775808:Int)<=0 by decide,show (0:Int)<=9223372036854775807 by decide⟩⟩⟩⟩
 ·intro r hr
  simp only [emR,zaM,zaN,or_false] at hr
  rcases hr with rfl|rfl|rfl|rfl<;>exact hown _ _ _
 ·simp [emR]
 ·intro r hr q hq hne k hk
  simp only [emR,zaM,zaN,or_false] at hr
  rcases hr with rfl|rfl|rfl|rfl<;>cases hk
 ·exact (mj w).below (ab (zaa _ _) _)
 ·intro r hr e
  simp only [emR,zaM,zaN,or_false] at hr
  rcases hr with rfl|rfl|rfl|rfl<;>cases e
 ·intro k
  rw [hF]
  unfold foot
  constructor
  ·rintro (rfl|rfl)
   ·exact .inl (.inl rfl)
   ·exact .inr rfl
  ·rintro ((rfl|⟨r,hr,hk⟩)|rfl)
   ·exact .inl rfl
   ·simp only [emR,zaM,zaN,or_false] at hr
    rcases hr with rfl|rfl|rfl|rfl<;>cases hk
   ·exact .inr rfl
 ·exact ab (ab (zaa _ _) _) _
theorem ydC(L:List (Int×Int)): ∀(l:List (Int×Int)) (out:List Ins) (e:Int),(ePatch L l out e).2=0->e=0/\ ∀b∈l,(eLook L b.2).isSome=true:=by
 intro l
 induction l with
 |nil=>exact fun out e h=>⟨h,fun b hb=>by cases hb⟩
 |cons b l ih=>
  intro out e h
  have h1:=ih _ _ h
  by_cases hs:(eLook L b.2).isSome=true
  ·rw [if_pos hs] at h1
   exact ⟨h1.1,fun x hx=>(List.mem_cons.1 hx).elim (fun e=>e ▸ hs) (h1.2 x)⟩
  ·rw [if_neg hs] at h1
   exact absurd h1.1 Zd
def ePat(L:List (Int×Int))(out:List Ins)(b:Int×Int):List Ins:=out.set b.1.toNat {out.getD b.1.toNat (nI 0) with imm:=(eLook L b.2).getD 0-b.1}
theorem ydD(L:List (Int×Int)): ∀(l:List (Int×Int)) (out:List Ins) (e:Int),(ePatch L l out e).1=l.foldl (ePat L) out:=by
 intro l
 induction l with
 |nil=>exact fun _ _=>rfl
 |cons b l ih=>exact fun out e=>ih _ _
theorem nk(L:List (Int×Int))(out:List Ins)(b:Int×Int):(ePat L out b).length=out.length:=by simp [ePat]
theorem ydB(L:List (Int×Int))(l:List (Int×Int))(out:List Ins):(l.foldl (ePat L) out).length=out.length:=by
 induction l generalizing out with
 |nil=>rfl
 |cons b l ih=>exact (ih _).trans (nk _ _ _)
theorem ydE{L:List (Int×Int)}{k v:Int}(h:eLook L k=some v):(k,v)∈L:=by
 unfold eLook at h
 rw [za1] at h
 obtain ⟨x,hx,rfl⟩:=h
 have:=List.find?_some hx
 simp only [zau] at this
 exact this ▸ List.mem_of_find?_eq_some hx
theorem dt{α β:Type}{f:α->List β}{z:Nat}(hz: ∀x,(f x).length=z)(d:α): ∀(l:List α) (j k:Nat) (x:α) (u:β),j<l.length->k<z->(f x)=(f (l.getD j d)).set k u->(l.set j x).flatMap f=(l.flatMap f).set (j*z+k) u:=by
 intro l
 induction l with
 |nil=>intro j k x u h;simp at h
 |cons y l ih=>
  intro j k x u hj hk hx
  cases j with
  |zero=>
   simp only [List.set_cons_zero,zaf,List.getD_cons_zero,Nat.zero_mul,zag] at hx ⊢
   rw [hx,List.set_append_left _ _ (by rw [hz];omega)]
  |succ j=>
   simp only [List.set_cons_succ,zaf,List.getD_cons_succ,za2] at hx hj ⊢
   rw [ih j k x u Za hk hx,List.set_append_right _ _ (by rw [hz,Nat.add_mul];omega),hz,show (j+1)*z+k-z=j*z+k by rw [Nat.add_mul];omega]
def eFine(s:ES):Bool:=decide (s.out.length<=100000)&&decide (s.sites.length<=100000)&&decide (s.lines.length<=100000)&&decide (s.labels.length<=20000)&&decide (s.brs.length<=20000)&&decide (s.e=0)&&
 s.brs.all (fun b=>decide (0<=b.1)&&decide (b.1.toNat<s.out.length)&&rngB b.2)&&s.labels.all (fun q=>decide (0<=q.2)&&decide (q.2<=300000))
def eAll(ops:List OpD)(pl:List Int)(priv:Nat):ES:=ops.foldl (fun s o=>eStep pl o s) (eCst 28 priv ⟨[],[],[],0,[],[],0⟩)
def eOk(ops:List OpD)(pl:List Int)(priv:Nat):Bool:=ops.all (opOk pl)&&eFine (eAdd (nI 31) (eAll ops pl priv))
structure ELn(s s':ES):Prop where
 out:s.out.length<=s'.out.length
 sites:s.sites.length<=s'.sites.length
 lines:s.lines.length<=s'.lines.length
 labels:s.labels.length<=s'.labels.length
 brs:s.brs.length<=s'.brs.length
 e:s.e=s'.e
theorem ELe.n{s s':ES}(h:ELe s s'):ELn s s':=⟨h.out,h.sites,h.lines,h.labels,h.brs,h.e⟩
theorem ELn.refl(s:ES):ELn s s:=(ELe.refl s).n
theorem ELn.trans{a b c:ES}(h:ELn a b)(k:ELn b c):ELn a c:=
 ⟨zal h.out k.out,zal h.sites k.sites,zal h.lines k.lines,zal h.labels k.labels,zal h.brs k.brs,h.e.trans k.e⟩
theorem ELn.step{pl:List Int}{o:OpD}(xr:opOk pl o=true)(s:ES):ELn s (eStep pl o s):=by
 have h:=(ELe.step xr s).n
 exact ⟨h.out,h.sites,h.lines,h.labels,h.brs,h.e⟩
theorem ELn.all{pl:List Int}: ∀(l:List OpD) (s:ES),l.all (opOk pl)=true->ELn s (l.foldl (fun s o=>eStep pl o s) s):=by
 intro l
 induction l with
 |nil=>exact fun s _=>ELn.refl s
 |cons o l ih=>
  intro s h
  simp only [List.all_cons,za0] at h
  exact (ELn.step h.1 s).trans (ih _ h.2)
theorem ELn.fin{s s':ES}(h:ELn s s')(hf:eFine s'=true)(hl:rng s.line):EFin s:=by
 simp only [eFine,za0,zau] at hf
 obtain ⟨⟨⟨⟨⟨⟨⟨h1,h2⟩,h3⟩,h4⟩,h5⟩,h6⟩, -⟩, -⟩:=hf
 have:=h.out
 have:=h.sites
 have:=h.lines
 have:=h.labels
 have:=h.brs
 exact ⟨by omega,by omega,by omega,by omega,by omega,h.e.trans h6,hl⟩
theorem jw{pl:List Int}{o:OpD}(xr:opOk pl o=true)(s:ES):rng (eStep pl o s).line:=by
 rw [<-(ELe.step xr s).line]
 simp only [opOk,za0] at xr
 exact bU xr.1.1.1
section
variable{w0 W W' w:qW}{M:Nat}{F F1:Nat->Prop}{pv:qV}{s:ES}{o:OpD}{K:Nat}{pl:List Int}{g c:Nat}
theorem Em.bl(h:Em w0 M F pv W s):Below w0.heap.size w0 W:=by
 obtain ⟨_,_,_,_,_,h⟩:=h
 exact h.bl
theorem Ob.inRow{t:TypeId}{cs:Array qV}{rs:List Rw}(h:Ob M t cs rs W){r:Rw}(hr:r∈rs){g c i:Nat}(hv:fld cs r.ix= .slice (aA g) r.n c)(hi:i<r.n*r.sz)(u:qV):
  Ob M t cs (rs.map (fun q=>if q.ix=r.ix then {q with xs:=r.xs.set i u} else q)) (W.setCell ⟨g,i,none⟩ u):=by
 have ho:=h.own r hr
 have hg:(fld cs r.ix).ownBlock=some g:=by rw [hv];rfl
 have Ka:=(ho.lt g hg).1
 have AE: ∀q∈rs,q.ix=r.ix->q=r:=fun q hq e=>by
  obtain ⟨a,ha,rfl⟩:=zaP hq
  obtain ⟨b,hb,rfl⟩:=zaP hr
  rcases Nat.lt_trichotomy a b with hl|rfl|hl
  ·exact absurd e (List.pairwise_iff_getElem.1 h.ix a b ha hb hl)
  ·rfl
  ·exact absurd e.symm (List.pairwise_iff_getElem.1 h.ix b a hb ha hl)
 refine ⟨((Kp.set W g i u).block M h.lt Za).trans h.out,?_,?_,?_⟩
 ·intro q hq
  obtain ⟨q0,yt,rfl⟩:=List.mem_map.1 hq
  by_cases he:q0.ix=r.ix
  ·obtain rfl:=AE q0 yt he
   simp only [if_true]
   rw [hv]
   rw [hv] at ho
   exact bH ho i hi u
  ·simp only [if_neg he]
   exact ai (h.own q0 yt) (Kp.set W g i u) (fun k hk e=>h.apart q0 yt r hr he k hk (e ▸ hg))
 ·rw [List.pairwise_map]
  refine h.ix.imp (fun {a b} G9=>?_)
  split<;>split<;>simpa using G9
 ·intro q hq q' Dc hne k hk
  obtain ⟨q0,yt,rfl⟩:=List.mem_map.1 hq
  obtain ⟨q1,zU,rfl⟩:=List.mem_map.1 Dc
  have e0: ∀x:Rw,(if x.ix=r.ix then {x with xs:=r.xs.set i u} else x).ix=x.ix:=fun x=>by split<;>rfl
  rw [e0] at hk hne ⊢
  rw [e0] at hne
  exact h.apart q0 yt q1 zU hne k hk
theorem EmX.patch{sv lv bv:qV}{B g c n:Nat}(hn:s.out.length=n)(h:EmX w0 M F pv (.slice (aA g) n c) sv lv bv B W s){i:Nat}(hi:i<n*7){u:qV}{out:List Ins}(hl:out.length=s.out.length)(he:out.flatMap insC=(s.out.flatMap insC).set i u):
  EmX w0 M F pv (.slice (aA g) n c) sv lv bv B (W.setCell ⟨g,i,none⟩ u) {s with out:=out}:=by
 subst hn
 have hm:(⟨1,83,7,s.out.length,s.out.flatMap insC⟩:Rw)∈emR s:=by simp [emR]
 have Bt:=h.ob.inRow hm (g:=g) (c:=c) (i:=i) rfl hi u
 have e2:(emR s).map (fun q=>if q.ix=1 then {q with xs:=(s.out.flatMap insC).set i u} else q)=emR {s with out:=out}:=by
  simp [emR,hl,he]
 rw [e2] at Bt
 have hF:F g:=(h.ft g).2 (.inl (.inr ⟨_,hm,rfl⟩))
 have hg:=h.inb hF
 have xY:=h.fin
 have OG:g≠B:=fun e=>h.no _ hm (by rw [<-e];rfl)
 refine ⟨Bt,h.map.keep ((Kp.set W g i u).block B h.map.lt (fun e=>OG e.symm)),h.lt,?_,?_,h.bl.setCell hg.1 u,h.le,⟨by rw [hl];exact xY.out,xY.sites,xY.lines,xY.labels,xY.brs,xY.e,xY.line⟩⟩
 ·intro r hr e
  simp only [emR,zaM,zaN,or_false] at hr
  rcases hr with rfl|rfl|rfl|rfl
  ·exact h.no _ hm e
  ·exact h.no ⟨2,3,1,s.sites.length,s.sites.flatMap numC⟩ (by simp [emR]) e
  ·exact h.no ⟨3,3,1,s.lines.length,s.lines.flatMap numC⟩ (by simp [emR]) e
  ·exact h.no ⟨6,243,2,s.brs.length,s.brs.flatMap brC⟩ (by simp [emR]) e
 ·intro k
  rw [h.ft]
  refine or_congr (or_congr Iff.rfl ?_) Iff.rfl
  constructor
  all_goals
   rintro ⟨r,hr,hk⟩
   simp only [emR,zaM,zaN,or_false] at hr
   rcases hr with rfl|rfl|rfl|rfl
   ·exact ⟨_,.head _,hk⟩
   ·exact ⟨_,.tail _ (.head _),hk⟩
   ·exact ⟨_,.tail _ (.tail _ (.head _)),hk⟩
   ·exact ⟨_,.tail _ (.tail _ (.tail _ (.head _))),hk⟩
end
theorem f8(P:Program)(t:TypeId)(p:Addr)(s m:String)(w:qW):(Builtin.ssaWrapNilChk_ #[t] t #[.pointer (some p),strVal s,strVal m]).run P w= .ok (.pointer (some p)) w:=rfl
theorem kn(k : Nat)(w : qW)(M : Nat)(a : Option Addr)(n c : Nat)(hc : w.cell? (aB M 1) = some (.slice a n c)) : (Go.method (k + 1) 279 (.pointer (some ⟨M, 1, none⟩)) "Less").run Tryz.prog w = .ok (326, .slice a n c) w := by
 have hm : (Tryz.prog.info? 279).map (fun i => (i.methods.find? (·.name == "Less")).map (fun m => (m.path, m.func))) = some (some (#[], some (326, false))) := by kernel_rfl
 rw [za1] at hm
 obtain ⟨i,hi,hm⟩:=hm
 rw [za1] at hm
 obtain ⟨m,hm,he⟩:=hm
 simp only [Prod.mk.injEq] at he
 have hu:=Tryz.underlying279
 have Ff:=Tryz.underlying217
 unfold Go.method
 simp [go_sem,typeInfo,hi,hm,he.1,he.2,follow,receiverAt,Place.get,hu,f8,hc]
theorem kq(k : Nat)(w : qW)(M : Nat)(a : Option Addr)(n c : Nat)(hc : w.cell? (aB M 1) = some (.slice a n c)) : (Go.method (k + 1) 279 (.pointer (some ⟨M, 1, none⟩)) "Len").run Tryz.prog w = .ok (325, .slice a n c) w := by
 have hm : (Tryz.prog.info? 279).map (fun i => (i.methods.find? (·.name == "Len")).map (fun m => (m.path, m.func))) = some (some (#[], some (325, false))) := by kernel_rfl
 rw [za1] at hm
 obtain ⟨i,hi,hm⟩:=hm
 rw [za1] at hm
 obtain ⟨m,hm,he⟩:=hm
 simp only [Prod.mk.injEq] at he
 have hu:=Tryz.underlying279
 have Ff:=Tryz.underlying217
 unfold Go.method
 simp [go_sem,typeInfo,hi,hm,he.1,he.2,follow,receiverAt,Place.get,hu,f8,hc]
theorem gw(k : Nat)(w : qW)(M : Nat)(a : Option Addr)(n c : Nat)(hc : w.cell? (aB M 1) = some (.slice a n c)) : (Go.method (k + 1) 279 (.pointer (some ⟨M, 1, none⟩)) "Swap").run Tryz.prog w = .ok (327, .slice a n c) w := by
 have hm : (Tryz.prog.info? 279).map (fun i => (i.methods.find? (·.name == "Swap")).map (fun m => (m.path, m.func))) = some (some (#[], some (327, false))) := by kernel_rfl
 rw [za1] at hm
 obtain ⟨i,hi,hm⟩:=hm
 rw [za1] at hm
 obtain ⟨m,hm,he⟩:=hm
 simp only [Prod.mk.injEq] at he
 have hu:=Tryz.underlying279
 have Ff:=Tryz.underlying217
 unfold Go.method
 simp [go_sem,typeInfo,hi,hm,he.1,he.2,follow,receiverAt,Place.get,hu,f8,hc]
def bzC(b:Int×Int):List qV:=[iI b.1,iI b.2]
theorem dy{w:qW}{B n c g:Nat}{e:TypeId}{q:List (Int×Int)}(h:w.ownsRow B e 2 (.slice (aA g) n c) n (q.flatMap bzC)){i:Nat}{y:Int×Int}(hy:q[i]?=some y):w.cell? ⟨g,i*2,none⟩=some (iI y.1)/\w.cell? ⟨g,i*2+1,none⟩=some (iI y.2):=by
 have h0:=h.cells (g:=g) rfl (i*2+0) _ (by rw [bJ (f:=bzC) (z:=2) (fun _=>rfl) hy 0 Za];rfl)
 have h1:=h.cells (g:=g) rfl (i*2+1) _ (by rw [bJ (f:=bzC) (z:=2) (fun _=>rfl) hy 1 Za];rfl)
 rw [bN] at h0 h1
 exact ⟨h0,h1⟩
theorem cJ{w:qW}{B n c g s:Nat}{e:TypeId}{xs:List qV}(h:w.ownsRow B e s (.slice (aA g) n c) n xs)(i:Nat):w.frozen? (aB g i)=false:=by
 rcases h.2 with ⟨e1, -⟩|⟨g1,cap,cur,e1,h2,h3,h4,h5,h6,h7⟩
 ·cases e1
 ·injection e1 with e1
  obtain rfl:g=g1:=by simpa using e1
  exact ah h3 i
theorem dJ{q:List (Int×Int)}{i:Nat}(hi:i<q.length):q[i]?=some (qGet q i):=by
 unfold qGet
 rw [zaU,zaC hi]
 rfl
theorem lS(w:qW)(a:Option Addr)(n c:Nat):qC 325 #[.slice a n c] w (Gives w (iI n)):=by
 go_enter Tryz.func325,Tryz.ntmps325
 go_wp2_with fail
 go_ret
 exact Gives.mk rfl (zaa _ _)
theorem lQ(w:qW)(g c:Nat)(q:List (Int×Int)){B:Nat}{e:TypeId}(h:w.ownsRow B e 2 (.slice (aA g) q.length c) q.length (q.flatMap bzC))(i j:Nat)(hi:i<q.length)(hj:j<q.length):qC 326 #[.slice (aA g) q.length c,iI i,iI j] w (Gives w (.bool (qLess q i j))):=by
 have zU:=(dy h (dJ hi)).1
 have Al:=(dy h (dJ hj)).1
 have Dn:=(aC h)
 obtain ⟨_,c2,e2,Bx,yB, -⟩:=Dn
 have Am:q.length<=9223372036854775807:=by omega
 clear h e2
 unfold qLess
 generalize qGet q i=x at*
 generalize qGet q j=y at*
 generalize q.length=n at*
 go_enter Tryz.func326,Tryz.ntmps326
 go_wp2_with fail
 refine ae (fun W=>W.cell? ⟨g,i*2,none⟩=some (iI x.1)/\W.cell? ⟨g,j*2,none⟩=some (iI y.1)) (fun W=>True) 11 rfl ?_
 have hA:w.drew.cell? ⟨g,i*2,none⟩=some (iI x.1)/\w.drew.cell? ⟨g,j*2,none⟩=some (iI y.1):=⟨zU,Al⟩
 have hB:True:=trivial
 refine Zp 0 rfl (h:=Zp 1 rfl (h:=Zp 2 rfl (h:=Zp 3 rfl (h:=Zt 4 rfl (h:=Zp 5 rfl (h:=Zp 6 rfl (h:=Zp 7 rfl (h:=Zp 8 rfl (h:=Zt 9 rfl (h:=Zp 10 rfl (h:=?_)))))))))));try simp only [Zq]
 refine Zs 11 rfl fun K hK=>?_
 go_simp
 refine hK _ _ ⟨hA,fun _=>trivial⟩ ?_
 clear hK K
 refine af Zb ?_ _
 go_wp2_with fail
 go_ret
 exact Gives.mk rfl Zr
def QuD(w:qW)(M g c n:Nat)(q':List (Int×Int))(r:qV)(e:Ending)(w':qW):Prop:=
 e= .returned r/\Kp (fun k=>k=g) w w'/\w'.ownsRow (M+1) 277 2 (.slice (aA g) n c) n (q'.flatMap bzC)
theorem nP(q:List (Int×Int))(i:Nat)(hi:i<q.length)(x:Int×Int):((q.flatMap bzC).set (i*2) (iI x.1)).set (i*2+1) (iI x.2)=(q.set i x).flatMap bzC:=by
 have h1:=dt (f:=bzC) (z:=2) (fun _=>rfl) (0,0) q i 0 (x.1,(q.getD i (0,0)).2) (iI x.1) hi Za rfl
 have h2:=dt (f:=bzC) (z:=2) (fun _=>rfl) (0,0) (q.set i (x.1,(q.getD i (0,0)).2)) i 1 x (iI x.2) (by simpa using hi) Za (by simp [hi,bzC])
 rw [Nat.add_zero] at h1
 rw [<-h1,<-h2]
 simp
theorem bQ(q:List (Int×Int))(i j:Nat):(qSwap q i j).length=q.length:=by simp [qSwap]
theorem fS(w:qW)(M g c:Nat)(q:List (Int×Int))(h:w.ownsRow (M+1) 277 2 (.slice (aA g) q.length c) q.length (q.flatMap bzC))(i j:Nat)(hi:i<q.length)(hj:j<q.length):qC 327 #[.slice (aA g) q.length c,iI i,iI j] w (QuD w M g c q.length (qSwap q i j) (.tuple #[])):=by
 have zU:=dy h (dJ hi)
 have Al:=dy h (dJ hj)
 obtain ⟨_,c2,e2,Bx,yB, -⟩:=(aC h)
 have Am:q.length<=9223372036854775807:=by omega
 have hf:=cJ h
 have HO:=Zh h
 have yd:=(h.lt g rfl).2
 clear h e2
 have hres:Hid (qSwap q i j=(q.set i (qGet q j)).set j (qGet q i)):=Zh rfl
 generalize hx:qGet q i=x at*
 generalize hy:qGet q j=y at*
 clear hx hy
 generalize hn:q.length=n at*
 go_enter Tryz.func327,Tryz.ntmps327
 go_wp2_with fail
 refine ae (fun W=>True) (fun W=>(W.cell? ⟨g,i*2,none⟩=some (iI x.1)/\W.cell? ⟨g,i*2+1,none⟩=some (iI x.2))/\W.cell? ⟨g,j*2,none⟩=some (iI y.1)/\W.cell? ⟨g,j*2+1,none⟩=some (iI y.2)) 13 rfl ?_
 have hA:True:=trivial
 have hB:(w.drew.cell? ⟨g,i*2,none⟩=some (iI x.1)/\w.drew.cell? ⟨g,i*2+1,none⟩=some (iI x.2))/\w.drew.cell? ⟨g,j*2,none⟩=some (iI y.1)/\w.drew.cell? ⟨g,j*2+1,none⟩=some (iI y.2):=⟨zU,Al⟩
 refine Zp 0 rfl (h:=Zp 1 rfl (h:=Zp 2 rfl (h:=Zp 3 rfl (h:=Zp 4 rfl (h:=Zp 5 rfl (h:=Zp 6 rfl (h:=Zl 7 [13] rfl (h:=Zp 8 rfl (h:=Zp 9 rfl (h:=Zp 10 rfl (h:=Zl 11 [13] rfl (h:=Zp 12 rfl (h:=?_)))))))))))));try simp only [Zq]
 refine Zs 13 rfl fun K hK=>?_
 have y7:=Zh (ax (w':=((w.setCell ⟨g,i*2,none⟩ (iI y.1)).setCell ⟨g,i*2+1,none⟩ (iI y.2)).drew) (bH (bH HO.out (i*2) Za (iI y.1)) (i*2+1) Za (iI y.2)) (fun _ _=>rfl))
 have zP:=Zh ((Kp.set w g (i*2) (iI y.1)).trans ((Kp.set (w.setCell ⟨g,i*2,none⟩ (iI y.1)) g (i*2+1) (iI y.2)).trans (Kp.dr _)))
 go_simp
 refine hK _ _ ⟨trivial,fun hh=>Bool.noConfusion (hh.symm.trans (show _=true by kernel_rfl))⟩ ?_
 clear hK K hA hB zU Al hf
 generalize ((w.setCell ⟨g,i*2,none⟩ (iI y.1)).setCell ⟨g,i*2+1,none⟩ (iI y.2)).drew=W at y7 zP ⊢
 replace y7:=Zh (nP q i Za y ▸ y7.out)
 have GA:=dy y7.out (dJ (q:=q.set i y) (i:=j) Zk)
 have hf:=cJ y7.out
 have hA:True:=trivial
 have hB:True:=trivial
 have Oa:=Zh (bH (bH y7.out (j*2) Za (iI x.1)) (j*2+1) Za (iI x.2))
 have zO:=Zh ((Kp.set W g (j*2) (iI x.1)).trans (Kp.set (W.setCell ⟨g,j*2,none⟩ (iI x.1)) g (j*2+1) (iI x.2)))
 refine cY 14 (v:=?_) rfl Zb Zb Zb (fun _ _ _ h=>h) Zd Zb (Or.inl ⟨by rfl,?_⟩) ⟨trivial,fun hh=>Bool.noConfusion (hh.symm.trans (show _=true by kernel_rfl))⟩ ?_
 rotate_left 1
 ·intro W hW;go_simp;(try with_reducible rfl)
 try simp only [Zq]
 refine Zs 15 rfl fun K hK=>?_
 go_simp
 refine hK _ _ ⟨trivial,fun hh=>Bool.noConfusion (hh.symm.trans (show _=true by kernel_rfl))⟩ ?_
 clear hK K
 refine af Zb ?_ _
 go_wp2_with fail
 go_end0
 refine ⟨rfl,zP.out.trans zO.out,?_⟩
 have:=Oa.out
 rw [nP _ j Zk x] at this
 rw [hres.out]
 exact this
theorem Ob.turn{M:Nat}{t:TypeId}{cs:Array qV}{rs:List Rw}{W W2:qW}(h:Ob M t cs rs W){r:Rw}(hr:r∈rs)(hk:Kp (fun k=>(fld cs r.ix).ownBlock=some k) W W2){xs':List qV}(hown:W2.ownsRow (M+1) r.e r.sz (fld cs r.ix) r.n xs'):
  Ob M t cs (rs.map (fun q=>if q.ix=r.ix then {q with xs:=xs'} else q)) W2:=by
 have AE: ∀q∈rs,q.ix=r.ix->q=r:=fun q hq e=>by
  obtain ⟨a,ha,rfl⟩:=zaP hq
  obtain ⟨b,hb,rfl⟩:=zaP hr
  rcases Nat.lt_trichotomy a b with hl|rfl|hl
  ·exact absurd e (List.pairwise_iff_getElem.1 h.ix a b ha hb hl)
  ·rfl
  ·exact absurd e.symm (List.pairwise_iff_getElem.1 h.ix b a hb ha hl)
 refine ⟨(hk.block M h.lt (fun e=>by have:=((h.own r hr).lt M e).1;omega)).trans h.out,?_,?_,?_⟩
 ·intro q hq
  obtain ⟨q0,yt,rfl⟩:=List.mem_map.1 hq
  by_cases he:q0.ix=r.ix
  ·obtain rfl:=AE q0 yt he
   simp only [if_true]
   exact hown
  ·simp only [if_neg he]
   exact ai (h.own q0 yt) hk (fun k wZ e=>h.apart q0 yt r hr he k wZ e)
 ·rw [List.pairwise_map]
  refine h.ix.imp (fun {a b} G9=>?_)
  split<;>split<;>simpa using G9
 ·intro q hq q' Dc hne k hk
  obtain ⟨q0,yt,rfl⟩:=List.mem_map.1 hq
  obtain ⟨q1,zU,rfl⟩:=List.mem_map.1 Dc
  have e0: ∀x:Rw,(if x.ix=r.ix then {x with xs:=xs'} else x).ix=x.ix:=fun x=>by split<;>rfl
  rw [e0] at hk hne ⊢
  rw [e0] at hne
  exact h.apart q0 yt q1 zU hne k hk
def poC(fv uv:qV)(P:Pool):Array qV:=#[fv,uv,iI P.next,iI P.most]
def poR(P:Pool):List Rw:=[⟨0,3,1,P.free.length,P.free.flatMap numC⟩,⟨1,277,2,P.used.length,P.used.flatMap bzC⟩]
structure PFin(P:Pool):Prop where
 free:P.free.length<=2000
 used:P.used.length<=2000
 next:0<=P.next/\P.next<=2000
 most:0<=P.most/\P.most<=2000
structure PoX(w0:qW)(M:Nat)(F:Nat->Prop)(fv uv:qV)(W:qW)(P:Pool):Prop where
 ob:Ob M 219 (poC fv uv P) (poR P) W
 ft: ∀k,F k↔foot M (poC fv uv P) (poR P) k
 bl:Below w0.heap.size w0 W
 le:w0.heap.size<=M
 fin:PFin P
def Po(w0:qW)(M:Nat)(F:Nat->Prop)(W:qW)(P:Pool):Prop:= ∃fv uv,PoX w0 M F fv uv W P
section
variable{w0 W W' w:qW}{M:Nat}{F F1:Nat->Prop}{fv uv:qV}{P:Pool}
theorem PoX.bd(h:PoX w0 M F fv uv W P):w0.heap.size<=M/\M<W.heap.size:=⟨h.le,h.ob.lt⟩
theorem PoX.inb(h:PoX w0 M F fv uv W P){k:Nat}(hk:F k):w0.heap.size<=k/\k<W.heap.size:=by
 have h1:=h.ob.foot_lt ((h.ft k).1 hk)
 have:=h.le
 exact ⟨by omega,h1.2⟩
theorem PoX.inF(h:PoX w0 M F fv uv W P):F M:=(h.ft M).2 (.inl rfl)
theorem Po.bd(h:Po w0 M F W P):w0.heap.size<=M/\M<W.heap.size:=by
 obtain ⟨_,_,h⟩:=h
 exact h.bd
theorem Po.inb(h:Po w0 M F W P){k:Nat}(hk:F k):w0.heap.size<=k/\k<W.heap.size:=by
 obtain ⟨_,_,h⟩:=h
 exact h.inb hk
theorem PoX.rules(h:PoX w0 M F fv uv W P):(∀b i,W.cell? (aB b i)=if b<w0.heap.size then w0.cell? (aB b i) else if b=M then (#[fv,uv,iI P.next,iI P.most]:Array qV)[i]? else cellW W ⟨b,i,none⟩)/\
  (∀b i,W.frozen? (aB b i)=if b<w0.heap.size then w0.frozen? (aB b i) else if b=M then false else frzW W ⟨b,i,none⟩):=⟨eN h.ob.out h.bl,eF h.ob.out h.bl⟩
theorem PoX.kp{X:Nat->Prop}(h:PoX w0 M F fv uv W P)(hk:Kp X W W')(hb:Below w0.heap.size w0 W')(hX: ∀k,F k-> ¬X k):PoX w0 M F fv uv W' P:=
 ⟨h.ob.kp hk (fun k hf=>hX k ((h.ft k).2 hf)),h.ft,hb,h.le,h.fin⟩
theorem Po.kp{X:Nat->Prop}(h:Po w0 M F W P)(hk:Kp X W W')(hb:Below w0.heap.size w0 W')(hX: ∀k,F k-> ¬X k):Po w0 M F W' P:=by
 obtain ⟨fv,uv,h⟩:=h
 exact ⟨fv,uv,h.kp hk hb hX⟩
theorem PoX.below(h:PoX w0 M F fv uv W P)(hb:Below W.heap.size W W'):PoX w0 M F fv uv W' P:=
 h.kp (X:=fun _=>False) (Kp.of_below hb) (an h.bl hb h.bl.size) (fun _ _=>id)
theorem Po.below(h:Po w0 M F W P)(hb:Below W.heap.size W W'):Po w0 M F W' P:=by
 obtain ⟨fv,uv,h⟩:=h
 exact ⟨fv,uv,h.below hb⟩
theorem Po.bl(h:Po w0 M F W P):Below w0.heap.size w0 W:=by
 obtain ⟨_,_,h⟩:=h
 exact h.bl
theorem PoX.own0(h:PoX w0 M F fv uv W P):W.ownsRow (M+1) 3 1 fv P.free.length (P.free.flatMap numC):=h.ob.own _ (.head _)
theorem PoX.own1(h:PoX w0 M F fv uv W P):W.ownsRow (M+1) 277 2 uv P.used.length (P.used.flatMap bzC):=h.ob.own _ (.tail _ (.head _))
theorem aI{X:Nat->Prop}(hb:Below w0.heap.size w0 W)(hk:Kp X W W')(hX: ∀k,X k->w0.heap.size<=k):Below w0.heap.size w0 W':=
 ⟨hk.os.trans hb.os,hk.tape.trans hb.tape,hk.output.trans hb.output,zal hb.size hk.size,fun k hl=>(hk.block k (by have:=hb.size;omega) (fun e=>by have:=hX k e;omega)).trans (hb.block k hl)⟩
theorem PoX.quD{g c:Nat}{q':List (Int×Int)}{r:qV}{e:Ending}{W2:qW}(h:PoX w0 M F fv (.slice (aA g) P.used.length c) W P)(hD:QuD W M g c P.used.length q' r e W2)(hl:q'.length=P.used.length):PoX w0 M F fv (.slice (aA g) P.used.length c) W2 {P with used:=q'}:=by
 obtain ⟨-,hk,ho⟩:=hD
 have hF:F g:=(h.ft g).2 (.inr ⟨_,.tail _ (.head _),rfl⟩)
 have hb:=h.ob.turn (r:=⟨1,277,2,P.used.length,P.used.flatMap bzC⟩) (.tail _ (.head _)) (hk.mono (fun k _ e=>by rw [e];rfl)) ho
 have e2:(poR P).map (fun q=>if q.ix=1 then {q with xs:=q'.flatMap bzC} else q)=poR {P with used:=q'}:=by simp [poR,hl]
 rw [e2] at hb
 refine ⟨hb,fun k=>?_,aI h.bl hk (fun k e=>e ▸ (h.inb hF).1),h.le,⟨h.fin.free,by rw [hl];exact h.fin.used,h.fin.next,h.fin.most⟩⟩
 rw [h.ft]
 refine or_congr Iff.rfl ⟨?_,?_⟩
 all_goals
  rintro ⟨r,hr,hk⟩
  simp only [poR,zaM,zaN,or_false] at hr
  rcases hr with rfl|rfl
  ·exact ⟨_,.head _,hk⟩
  ·exact ⟨_,.tail _ (.head _),hk⟩
structure PoA(w0:qW)(M:Nat)(F:Nat->Prop)(w W:qW)(F1:Nat->Prop)(P:Pool):Prop where
 po:Po w0 M F1 W P
 kp:Kp F w W
 rel:Rq F F1 w.heap.size
def PoD(w0:qW)(M:Nat)(F:Nat->Prop)(w:qW)(P':Pool)(r:qV)(e:Ending)(w':qW):Prop:=
 e= .returned r/\ ∃F',Po w0 M F' w' P'/\Kp F w w'/\Rq F F' w.heap.size
theorem PoA.begin(h:Po w0 M F w P):PoA w0 M F w w F P:=⟨h,Kp.refl _ _,Rq.refl _ _⟩
theorem PoA.bel(h:PoA w0 M F w W F1 P)(hb:Below W.heap.size W W'):PoA w0 M F w W' F1 P:=
 ⟨h.po.below hb,h.kp.next (Kp.of_below (X:=fun _=>False) hb) (fun _ _ e=>e.elim),h.rel⟩
theorem PoA.nextb{P2:Pool}{r:qV}{e:Ending}{w1:qW}(h:PoA w0 M F w W F1 P)(hb:Below W.heap.size W W')(hD:PoD w0 M F1 W' P2 r e w1): ∃F2,PoA w0 M F w w1 F2 P2/\Kp F1 W w1/\Rq F1 F2 W.heap.size:=by
 obtain ⟨-,F2,h1,h2,h3⟩:=hD
 have hz:=h.kp.size
 have xq:=hb.size
 have BC:Kp F1 W w1:=(Kp.of_below (X:=F1) hb).trans h2
 have Nd:Rq F1 F2 W.heap.size:=⟨fun k hk=>(h3.r k hk).imp id (fun e=>by omega)⟩
 exact ⟨F2,⟨h1,h.kp.next BC (fun i hi e=>(h.rel.r i e).elim id (fun e=>by omega)),h.rel.trans Nd hz⟩,BC,Nd⟩
theorem PoA.fin{r:qV}(h:PoA w0 M F w W F1 P):PoD w0 M F w P r (.returned r) W:=⟨rfl,F1,h.po,h.kp,h.rel⟩
theorem tf: ∀(j n:Nat) (q:List (Int×Int)),j+1<=n->qUp n q j=qUp (j+1) q j:=by
 intro j
 induction j using Nat.strongRecOn with
 |_ j ih=>
  intro n q hn
  obtain ⟨m,rfl⟩: ∃m,n=m+1:=⟨n-1,by omega⟩
  by_cases hc:(j-1)/2=j\/(!qLess q j ((j-1)/2))=true
  ·simp only [qUp,if_pos hc]
  ·have hj:(j-1)/2≠j:=fun e=>hc (.inl e)
   have xe:(j-1)/2<j:=by omega
   simp only [qUp,if_neg hc]
   rw [ih _ xe m _ Za,ih _ xe j _ Za]
theorem pm{g c:Nat}(w:qW)(h:PoX w0 M F fv (.slice (aA g) P.used.length c) w P)(j:Nat)(hj:j<P.used.length):qC 211 #[.iface 279 (.pointer (some ⟨M,1,none⟩)),iI j] w (fun e w'=>e= .returned (.tuple #[])/\PoX w0 M F fv (.slice (aA g) P.used.length c) w' {P with used:=qUp (j+1) P.used j}/\Kp F w w'):=by
 have Gn : ∀ (k : Nat) (W : qW), W.cell? (aB M 1) = some (.slice (aA g) P.used.length c) -> (Go.method (k + 1) 279 (.pointer (some ⟨M, 1, none⟩)) "Less").run Tryz.prog W = .ok (326, .slice (aA g) P.used.length c) W := fun k W hc => kn k W M _ _ _ hc
 have Gm : ∀ (k : Nat) (W : qW), W.cell? (aB M 1) = some (.slice (aA g) P.used.length c) -> (Go.method (k + 1) 279 (.pointer (some ⟨M, 1, none⟩)) "Swap").run Tryz.prog W = .ok (327, .slice (aA g) P.used.length c) W := fun k W hc => gw k W M _ _ _ hc
 have Am:=h.fin.used
 have HB:=Zh h
 have Au:F g:=(h.ft g).2 (.inr ⟨_,.tail _ (.head _),rfl⟩)
 generalize hT:qUp (j+1) P.used j=T
 have HT:=Zh hT
 clear h hT
 generalize hn:P.used.length=n at*
 go_enter Tryz.func211,Tryz.ntmps211
 go_wp2_with fail
 go_loopw [1] (fun v1 wr=> ∃(j:Nat) (q:List (Int×Int)),v1=iI j/\j<n/\q.length=n/\Hid (PoX w0 M F fv (.slice (aA g) n c) wr {P with used:=q})/\Hid (Kp F w wr)/\Hid (qUp (j+1) q j=T)) (fun v1 _=>(intOf v1).toNat)
 case atStart=>exact ⟨j,P.used,rfl,hj,hn,HB,Zh (Kp.refl _ _),HT⟩
 case round=>
  obtain ⟨j,q,rfl,hj,hq,HB,HK,HT⟩:=hrel
  obtain ⟨i',pi⟩:=HB.out.rules
  have j':=HB.out.bd
  have Bl:wr.cell? (aB M 1)=some (.slice (aA g) n c):=by rw [aa HB.out.ob.out];rfl
  have BP: ∀p,(more wr p).cell? (aB M 1)=some (.slice (aA g) n c):=fun p=>by rw [dd,if_pos j'.2];exact Bl
  have L0:=fun k=>Gn k wr Bl
  have S1:=fun k p=>Gm k (more wr p) (BP p)
  have CL:=Zh (fun (W:qW) (hb:Below wr.heap.size wr W) i k hi hk=>lQ W g c q (B:=M+1) (e:=277) (by have h9:=(HB.out.below hb).own1;simp only [hq] at h9 ⊢;exact h9) i k hi hk)
  have CS:=Zh (fun (W:qW) (hb:Below wr.heap.size wr W) i k hi hk=>fS W M g c q (by have h9:=(HB.out.below hb).own1;simp only [hq] at h9 ⊢;exact h9) i k hi hk)
  rw [hq] at CL CS
  by_cases Dk:j=0
  ·subst Dk
   go_wp2_with fail
   go_end0
   have:q=T:=by rw [<-HT.out];simp [qUp]
   subst this
   exact ⟨rfl,HB.out,HK.out⟩
  ·obtain ⟨i,hi⟩: ∃i:Nat,i=(j-1)/2:=⟨_,rfl⟩
   have Ao:i<j:=by omega
   have OP:((j:Int)-1).tdiv 2=(i:Int):=by
    rw [Int.tdiv_eq_ediv_of_nonneg Za]
    omega
   have MC:qUp (j+1) q j=if (!qLess q j i)=true then q else qUp (i+1) (qSwap q i j) i:=by
    rw [qUp,<-hi]
    by_cases hb:(!qLess q j i)=true
    ·rw [if_pos (.inr hb),if_pos hb]
    ·rw [if_neg (by rintro (e|e);omega;exact hb e),if_neg hb]
     exact tf i j _ Za
   have yT:=Zh (MC.symm.trans HT.out)
   have HI:=Zh hi
   have BY: ¬(i:Int)=j:=by omega
   clear MC hi HT
   cases hb:qLess q j i
   ·have CL2:=Zh (fun (W:qW) xo=>CL.out W xo j i hj Za)
    rw [hb] at CL2
    go_wp2_with (go_at_call 326;refine (CL2.out _ Zr).mono ?_;rintro e w1 ⟨rfl,p,rfl⟩)
    go_end0
    have:q=T:=by rw [<-yT.out,if_pos (by rw [hb];rfl)]
    subst this
    exact ⟨rfl,HB.out.below (au _ _),HK.out.more _⟩
   ·have CL2:=Zh (fun (W:qW) xo=>CL.out W xo j i hj Za)
    have CS2:=Zh (fun (W:qW) xo=>CS.out W xo i j Za hj)
    rw [hb] at CL2
    go_wp2_with (first|(go_at_call 326;refine (CL2.out _ Zr).mono ?_;rintro e w1 ⟨rfl,p,rfl⟩)|(go_at_call 327;refine (CS2.out _ Zr).mono ?_;intro e w1 hD;obtain rfl:=hD.1;have HD:=Zh hD;clear hD))
    refine ⟨⟨i,qSwap q i j,rfl,by omega,by rw [bQ];exact hq,Zh ?_,Zh ?_,Zh ?_⟩,by simp [intOf];omega⟩
    ·subst hq
     exact PoX.quD (P:={P with used:=q}) (g:=g) (c:=c) (HB.out.below (au wr p)) (q':=qSwap q i j) (W2:=w1) (r:= .tuple #[]) (e:= .returned (.tuple #[])) HD.out (bQ q i j)
    ·exact (HK.out.more p).trans (HD.out.2.1.mono (fun k _ e=>e ▸ Au))
    ·rw [<-yT.out,if_neg (by rw [hb];decide)]
end
end Go.Proofs.YtjmfoeajhiimnaaGreatDoor
