/- Walks. No condition. -/
import Derived.Test.YtcekjfmfcefjpaaGreatDoorG27
set_option maxRecDepth 100000
set_option maxHeartbeats 0
set_option linter.all false
namespace Go.Proofs.YtcekjfmfcefjpaaGreatDoor
open Go.RowKit Go.Sort
def sg4:List (List UInt8):=[[60,60],[62,62],[61,61],[33,61]]
def isTwo(l:List UInt8):Bool:=sg4.any (fun p=>Lib.hasPrefix l p)
theorem ma: ∀(l:List UInt8) (c:UInt8),l.contains c=true->0<=Lib.indexByte l c
 |[],c,h=>by simp at h
 |b::l,c,h=>by
  unfold Lib.indexByte
  split
  ·omega
  ·rename_i hb
   have:l.contains c=true:=by
    simp only [List.contains_cons,zak] at h
    rcases h with h|h
    ·exact absurd (by rw [beq_iff_eq] at h ⊢;exact h.symm) hb
    ·exact h
   have:=ma l c this
   split
   ·rename_i h2
    rw [beq_iff_eq] at h2
    omega
   ·omega
theorem ybL{c:UInt8}(h:signs.contains c=true):0<=Lib.indexByte ((⟨#[123,125,91,93,40,41,59,58,44,46,95,61,43,45,42,38,124,94,60]⟩:qB)).data.toList ((c.toNat:Int).toNat.toUInt8):=by
 have e:(c.toNat:Int).toNat.toUInt8=c:=by simp
 rw [e]
 exact ma _ _ h
theorem cK{C:Nat}{w W W':qW}(hB:Below w.heap.size w W)(hC:C<w.heap.size)(h:Below C W W'):Below C w W':=
 ⟨h.os.trans hB.os,h.tape.trans hB.tape,h.output.trans hB.output,zal hB.size h.size,fun k hk=>(h.block k hk).trans (hB.block k Za)⟩
theorem LxAt.lt{C:Nat}{t:qB}{s:LxS}{w:qW}(h:LxAt w C t s):C<w.heap.size:=by
 obtain ⟨v,g, -⟩:=h.lies
 exact ac g
theorem rv{C:Nat}{t:qB}{s:LxS}(w:qW)(h:LxAt w C t s)(wY:s.at_<t.size)(xo:isTwo (t.data.toList.drop s.at_)=true->s.at_+2<=t.size)(hs:isTwo (t.data.toList.drop s.at_)=false->signs.contains t[s.at_]=true):
  qC 133 #[pP C] w (Lxd C t w (.bool true) (takeS t (if isTwo (t.data.toList.drop s.at_)=true then 2 else 1) s)):=by
 have HT:=Zh (fun W h n h0 yZ=>d8 (s:=s) (C:=C) (t:=t) W h n h0 yZ)
 have H:=Zh h
 have hC:=h.lt
 obtain ⟨v,g1,g2⟩:=h.lies
 have hc:=aa g1
 have hsz:=h.sz
 have DK:(t.extract s.at_ t.size).data.toList=t.data.toList.drop s.at_:=by
  have:=eO t s.at_ (t.size-s.at_)
  unfold subT at this
  rw [show s.at_+(t.size-s.at_)=t.size by omega] at this
  rw [this]
  exact List.take_of_length_le (by have e:t.data.toList.length=t.size:=zam;simp [e])
 have HP:=Zh (fun (p:qB) W=>ycf (t.extract s.at_ t.size) p W)
 have h6:(s.at_:Int)<=t.size:=by omega
 obtain ⟨i0,hi,xq,xm,xk⟩:=zan eP
 have ix:=fun cs hn k h0 h1 w=>fW (P:=Tryz.prog) Tryz.underlying279 Tryz.underlying9 hi xm cs hn k h0 h1 w
 rw [DK] at HP
 clear DK
 generalize t.data.toList.drop s.at_=D at*
 have yM:Hid (∀W,LxAt W C t s->s.at_+2<=t.size->qC 178 #[pP C,iI 2] W fun e w'=>e= .returned (.tuple #[])/\LxAt w' C t (takeS t 2 s)/\Below C W w'):=Zh (fun W h hh=>d8 W h 2 Zg hh)
 have Hd:Hid (∀W,LxAt W C t s->qC 178 #[pP C,iI 1] W fun e w'=>e= .returned (.tuple #[])/\LxAt w' C t (takeS t 1 s)/\Below C W w'):=Zh (fun W h=>d8 W h 1 Zg Za)
 clear h g1 g2 xq xk HT
 generalize hm:(if isTwo D=true then 2 else 1)=m
 have HM:=Zh hm
 clear hm
 go_enter Tryz.func133,Tryz.ntmps133
 go_wp2_with fail
 have hB:=zaa w.heap.size w
 refine zao 6 ?_;rw [zap]
 go_wp2_with fail
 have c0:(w).drew.cell? (aB C 0)=some (.string t):=(hB.cell (p:=⟨C,0,none⟩) hC).trans (hc 0)
 have c1:(w).drew.cell? (aB C 1)=some (iI s.at_):=(hB.cell (p:=⟨C,1,none⟩) hC).trans (hc 1)
 replace hB:Below w.heap.size w (w).drew:=ag hB
 go_region_held3 (fun W=>W.cell? (aB C 0)=some (.string t)/\W.cell? (aB C 1)=some (iI s.at_)) (first|(refine ⟨?_,?_⟩<;>assumption)|(simp [go_sem,↓IntWalk.iteOmega, *];done)) (first|(go_simp;go_at_call 179;refine (HP.out _ _).mono ?_;rintro e w1 ⟨rfl,u'⟩;replace u':=u'.symm;subst u'))
 clear c0 c1
 generalize (w).drew=W0 at*
 cases xX:Lib.hasPrefix D [60,60]
 case true=>
  have HB:=Zh hB
  have h2:isTwo D=true:=by simp [isTwo,sg4,xX]
  go_wp2_with (first|(go_at_call 178;refine (yM.out _ (H.out.below HB.out) (xo h2)).mono ?_;rintro e w1 ⟨rfl,yA,yH⟩;have zW:=Zh yA;have ys:=Zh (cK HB.out hC yH);clear yA yH))
  (try simp only [Exit.inBlock,Exit.then])
  go_ret
  have hm:m=2:=by rw [<-HM.out,if_pos h2]
  rw [hm]
  exact ⟨rfl,zW.out,ys.out⟩
 try simp only [xX]
 go_wp2_with fail;rw [zap]
 go_wp2_with fail
 have c0:(W0).drew.cell? (aB C 0)=some (.string t):=(hB.cell (p:=⟨C,0,none⟩) hC).trans (hc 0)
 have c1:(W0).drew.cell? (aB C 1)=some (iI s.at_):=(hB.cell (p:=⟨C,1,none⟩) hC).trans (hc 1)
 replace hB:Below w.heap.size w (W0).drew:=ag hB
 go_region_held3 (fun W=>W.cell? (aB C 0)=some (.string t)/\W.cell? (aB C 1)=some (iI s.at_)) (first|(refine ⟨?_,?_⟩<;>assumption)|(simp [go_sem,↓IntWalk.iteOmega, *];done)) (first|(go_simp;go_at_call 179;refine (HP.out _ _).mono ?_;rintro e w1 ⟨rfl,u'⟩;replace u':=u'.symm;subst u'))
 clear c0 c1
 generalize (W0).drew=W1 at*
 cases ye:Lib.hasPrefix D [62,62]
 case true=>
  have HB:=Zh hB
  have h2:isTwo D=true:=by simp [isTwo,sg4,ye]
  go_wp2_with (first|(go_at_call 178;refine (yM.out _ (H.out.below HB.out) (xo h2)).mono ?_;rintro e w1 ⟨rfl,yA,yH⟩;have zW:=Zh yA;have ys:=Zh (cK HB.out hC yH);clear yA yH))
  (try simp only [Exit.inBlock,Exit.then])
  go_ret
  have hm:m=2:=by rw [<-HM.out,if_pos h2]
  rw [hm]
  exact ⟨rfl,zW.out,ys.out⟩
 try simp only [ye]
 go_wp2_with fail;rw [zap]
 go_wp2_with fail
 have c0:(W1).drew.cell? (aB C 0)=some (.string t):=(hB.cell (p:=⟨C,0,none⟩) hC).trans (hc 0)
 have c1:(W1).drew.cell? (aB C 1)=some (iI s.at_):=(hB.cell (p:=⟨C,1,none⟩) hC).trans (hc 1)
 replace hB:Below w.heap.size w (W1).drew:=ag hB
 go_region_held3 (fun W=>W.cell? (aB C 0)=some (.string t)/\W.cell? (aB C 1)=some (iI s.at_)) (first|(refine ⟨?_,?_⟩<;>assumption)|(simp [go_sem,↓IntWalk.iteOmega, *];done)) (first|(go_simp;go_at_call 179;refine (HP.out _ _).mono ?_;rintro e w1 ⟨rfl,u'⟩;replace u':=u'.symm;subst u'))
 clear c0 c1
 generalize (W1).drew=W2 at*
 cases xr:Lib.hasPrefix D [61,61]
 case true=>
  have HB:=Zh hB
  have h2:isTwo D=true:=by simp [isTwo,sg4,xr]
  go_wp2_with (first|(go_at_call 178;refine (yM.out _ (H.out.below HB.out) (xo h2)).mono ?_;rintro e w1 ⟨rfl,yA,yH⟩;have zW:=Zh yA;have ys:=Zh (cK HB.out hC yH);clear yA yH))
  (try simp only [Exit.inBlock,Exit.then])
  go_ret
  have hm:m=2:=by rw [<-HM.out,if_pos h2]
  rw [hm]
  exact ⟨rfl,zW.out,ys.out⟩
 try simp only [xr]
 go_wp2_with fail;rw [zap]
 go_wp2_with fail
 have c0:(W2).drew.cell? (aB C 0)=some (.string t):=(hB.cell (p:=⟨C,0,none⟩) hC).trans (hc 0)
 have c1:(W2).drew.cell? (aB C 1)=some (iI s.at_):=(hB.cell (p:=⟨C,1,none⟩) hC).trans (hc 1)
 replace hB:Below w.heap.size w (W2).drew:=ag hB
 go_region_held3 (fun W=>W.cell? (aB C 0)=some (.string t)/\W.cell? (aB C 1)=some (iI s.at_)) (first|(refine ⟨?_,?_⟩<;>assumption)|(simp [go_sem,↓IntWalk.iteOmega, *];done)) (first|(go_simp;go_at_call 179;refine (HP.out _ _).mono ?_;rintro e w1 ⟨rfl,u'⟩;replace u':=u'.symm;subst u'))
 clear c0 c1
 generalize (W2).drew=W3 at*
 cases AY:Lib.hasPrefix D [33,61]
 case true=>
  have HB:=Zh hB
  have h2:isTwo D=true:=by simp [isTwo,sg4,AY]
  go_wp2_with (first|(go_at_call 178;refine (yM.out _ (H.out.below HB.out) (xo h2)).mono ?_;rintro e w1 ⟨rfl,yA,yH⟩;have zW:=Zh yA;have ys:=Zh (cK HB.out hC yH);clear yA yH))
  (try simp only [Exit.inBlock,Exit.then])
  go_ret
  have hm:m=2:=by rw [<-HM.out,if_pos h2]
  rw [hm]
  exact ⟨rfl,zW.out,ys.out⟩
 try simp only [AY]
 go_wp2_with fail;rw [zap]
 go_wp2_with fail
 have yB:isTwo D=false:=by simp [isTwo,sg4,xX,ye,xr,AY]
 have hm:m=1:=by rw [<-HM.out,yB];rfl
 obtain ⟨k,yd,HI⟩: ∃k:Int,0<=k/\Hid (∀W,qC 180 #[.string (⟨#[123,125,91,93,40,41,59,58,44,46,95,61,43,45,42,38,124,94,60]⟩:qB),.int .u8 t[s.at_].toNat] W fun e w1=>e= .returned (iI k)/\w1=W):=⟨_,ybL (hs yB),Zh (fun W=>ybz _ _ W)⟩
 have c0:(W3).drew.cell? (aB C 0)=some (.string t):=(hB.cell (p:=⟨C,0,none⟩) hC).trans (hc 0)
 have c1:(W3).drew.cell? (aB C 1)=some (iI s.at_):=(hB.cell (p:=⟨C,1,none⟩) hC).trans (hc 1)
 replace hB:Below w.heap.size w (W3).drew:=ag hB
 go_region_held3 (fun W=>W.cell? (aB C 0)=some (.string t)/\W.cell? (aB C 1)=some (iI s.at_)) (first|(refine ⟨?_,?_⟩<;>assumption)|(simp [go_sem,↓IntWalk.iteOmega, *];done)) (first|(go_simp;go_at_call 180;refine (HI.out _).mono ?_;rintro e w1 ⟨rfl,u'⟩;replace u':=u'.symm;subst u'))
 clear c0 c1
 have HB:=Zh hB
 go_wp2_with (first|(go_at_call 178;refine (Hd.out _ (H.out.below HB.out)).mono ?_;rintro e w1 ⟨rfl,yA,yH⟩;have zW:=Zh yA;have ys:=Zh (cK HB.out hC yH);clear yA yH))
 (try simp only [Exit.inBlock,Exit.then])
 go_ret
 rw [hm]
 exact ⟨rfl,zW.out,ys.out⟩
def lxNext(t:qB)(s:LxS):Option LxS:=
 match t.data.toList.drop s.at_ with
 |[]=>none
 |x::l=>if x=10 then some ⟨s.at_+1,s.line+1,s.toks⟩ else if x=32 then some ⟨s.at_+1,s.line,s.toks⟩
  else match lexOne (x::l) with
   |none=>none
   |some (wd,_)=>some (takeS t wd.length s)
theorem cN{t:qB}{a:Nat}(h:a<t.size):t.data.toList.drop a=t[a]::t.data.toList.drop (a+1):=by
 have hl:t.data.toList.length=t.size:=zam
 rw [zaS Za]
 congr 1
theorem tm(l:List UInt8)(a b:UInt8):Lib.hasPrefix l [a,b]=decide (l.take 2=[a,b]):=by
 rw [Bool.eq_iff_iff]
 unfold Lib.hasPrefix
 rw [List.isPrefixOf_iff_prefix,List.prefix_iff_eq_take,zau]
 exact ⟨fun h=>h.symm,fun h=>h.symm⟩
theorem hJ(l:List UInt8):isTwo l=true↔(l.take 2=[60,60]\/l.take 2=[62,62]\/l.take 2=[61,61]\/l.take 2=[33,61]):=by
 simp [isTwo,sg4,tm]
theorem lF{w W:qW}{C a:Nat}{line:Int}{t:qB}{toks:List Tok}{v:qV}(h2:w.ownsRow (C+1) 145 2 v toks.length (toks.flatMap tkC))(hb:W.heap[C]?=some (.cells #[.string t,iI a,iI line,v] 205 (0,0)))
  (hk: ∀k,k≠C->k<w.heap.size->W.heap[k]?=w.heap[k]?) (ha:a<=t.size) (hs:t.size<=1048576) (hl:0<=line/\line<=a+1) (hf:toks.length<=a):LxAt W C t ⟨a,line,toks⟩:=
 ⟨⟨v,hb,aw h2 (fun g hg=>hk g (by have:=(h2.lt g hg).1;omega) (h2.lt g hg).2)⟩,ha,hs,hl,hf⟩
theorem vU{C:Nat}{t:qB}{s s':LxS}(w:qW)(h:LxAt w C t s)(wY:s.at_<t.size)(hs:lxNext t s=some s'):
  qC 92 #[pP C] w (Lxd C t w (.bool true) s'):=by
 have HW:=Zh (fun W h h0 h1=>oH (s:=s) (C:=C) (t:=t) W h h0 h1)
 have HN:=Zh (fun W h h0 h1 h2 h3=>vM (s:=s) (C:=C) (t:=t) W h h0 h1 h2 h3)
 have HS:=Zh (fun W h h1 h2=>rv (s:=s) (C:=C) (t:=t) W h wY h1 h2)
 have hC:=h.lt
 have H:=Zh h
 obtain ⟨v,g1,g2⟩:=h.lies
 have hc:=aa g1
 have hf:=ai g1
 have G1:=Zh g1
 have G2:=Zh g2
 have hsz:=h.sz
 have AK:=h.rl
 have EF:=h.few
 have c0:w.drew.cell? (aB C 0)=some (.string t):=hc 0
 have c1:w.drew.cell? (aB C 1)=some (iI s.at_):=hc 1
 have zm:=cN wY
 unfold lxNext at hs
 rw [zm] at hs
 simp only at hs
 have u':IntKind.i64.wrap ((s.at_:Int)+1)=(s.at_:Int)+1:=IntWalk.i64_in _ Za
 have I9:IntKind.i64.wrap (s.line+1)=s.line+1:=IntWalk.i64_in _ Za
 have AO: ∀k:UInt8,t[s.at_]=k↔t[s.at_].toNat=k.toNat:=fun k=>⟨fun h=>by rw [h],fun h=>UInt8.toNat_inj.1 h⟩
 clear h g1 g2
 have Bv:=ag (zaa w.heap.size w)
 by_cases hx:t[s.at_]=10
 ·have zO:t[s.at_].toNat=10:=(AO 10).1 hx
  rw [if_pos hx] at hs
  cases hs
  clear HW HN HS AO
  go_enter Tryz.func92,Tryz.ntmps92
  go_wp2_with fail
  go_region_held3 (fun W=>W.cell? (aB C 0)=some (.string t)/\W.cell? (aB C 1)=some (iI s.at_)) (first|(refine ⟨?_,?_⟩<;>assumption)|(simp [go_sem,↓IntWalk.iteOmega, *];done)) (fail)
  have c2:w.drew.cell? (aB C 2)=some (iI s.line):=hc 2
  have f2:w.drew.frozen? (aB C 2)=false:=hf 2
  have f1:w.drew.frozen? (aB C 1)=false:=hf 1
  have hC2:C<w.drew.heap.size:=hC
  have G3:Hid (w.drew.heap[C]?=w.heap[C]?):=Zh rfl
  have G4:Hid (∀k:Nat,w.drew.heap[k]?=w.heap[k]?):=Zh (fun _=>rfl)
  have G5:=Zh Bv
  clear Bv
  generalize w.drew=W0 at*
  go_wp2
  go_ret
  refine ⟨rfl,lF G2.out ?_ ?_ Za hsz Za Za,?_⟩
  ·have:=aJ (aJ (G3.out.trans G1.out) (i:=2) (iI (s.line+1))) (i:=1) (iI ((s.at_:Int)+1))
   simpa using this
  ·intro k hk hl
   rw [zas _ _ _ _ (by simp only [];omega),zas _ _ _ _ (by simp only [];omega)]
   exact G4.out k
  ·have h1:Below C w W0:=⟨G5.out.os,G5.out.tape,G5.out.output,G5.out.size,fun k hk=>G5.out.block k Za⟩
   exact (h1.setCell (zaq _) _).setCell (zaq _) _
 rw [if_neg hx] at hs
 have zO: ¬t[s.at_].toNat=10:=mt (AO 10).2 hx
 by_cases hy:t[s.at_]=32
 ·have Ag:t[s.at_].toNat=32:=(AO 32).1 hy
  rw [if_pos hy] at hs
  cases hs
  clear HW HN HS AO
  go_enter Tryz.func92,Tryz.ntmps92
  go_wp2_with fail
  go_region_held3 (fun W=>W.cell? (aB C 0)=some (.string t)/\W.cell? (aB C 1)=some (iI s.at_)) (first|(refine ⟨?_,?_⟩<;>assumption)|(simp [go_sem,↓IntWalk.iteOmega, *];done)) (fail)
  have f1:w.drew.frozen? (aB C 1)=false:=hf 1
  have hC2:C<w.drew.heap.size:=hC
  have G3:Hid (w.drew.heap[C]?=w.heap[C]?):=Zh rfl
  have G4:Hid (∀k:Nat,w.drew.heap[k]?=w.heap[k]?):=Zh (fun _=>rfl)
  have G5:=Zh Bv
  clear Bv
  generalize w.drew=W0 at*
  go_wp2
  go_ret
  refine ⟨rfl,lF G2.out ?_ ?_ Za hsz Za Za,?_⟩
  ·have:=aJ (G3.out.trans G1.out) (i:=1) (iI ((s.at_:Int)+1))
   simpa using this
  ·intro k hk hl
   rw [zas _ _ _ _ (by simp only [];omega)]
   exact G4.out k
  ·have h1:Below C w W0:=⟨G5.out.os,G5.out.tape,G5.out.output,G5.out.size,fun k hk=>G5.out.block k Za⟩
   exact h1.setCell (zaq _) _
 rw [if_neg hy] at hs
 have Ag: ¬t[s.at_].toNat=32:=mt (AO 32).2 hy
 clear AO
 rcases xx:lexOne (t[s.at_]::t.data.toList.drop (s.at_+1)) with _|⟨wd,rr⟩
 ·rw [xx] at hs
  cases hs
 rw [xx] at hs
 simp only [zaA] at hs
 subst hs
 unfold lexOne at xx
 simp only at xx
 rw [<-zm] at xx
 have wU: ∀p:UInt8->Bool,((t.data.toList.drop s.at_).takeWhile p).length=runL t s.at_ p:=fun p=>rfl
 have yi: ∀p:UInt8->Bool,p t[s.at_]=true->0<runL t s.at_ p:=fun p hp=>by
  unfold runL
  rw [zm,List.takeWhile_cons_of_pos hp]
  simp
 cases hl:isLet t[s.at_]
 case true=>
  rw [hl,if_pos rfl,wU] at xx
  by_cases ER:16<runL t s.at_ isPart
  ·rw [if_pos ER] at xx
   cases xx
  rw [if_neg ER] at xx
  cases xx
  rw [wU]
  have h0:=yi isPart (by simp [isPart,hl])
  clear wU yi HN HS zm
  go_enter Tryz.func92,Tryz.ntmps92
  go_wp2_with fail
  go_region_held3 (fun W=>W.cell? (aB C 0)=some (.string t)/\W.cell? (aB C 1)=some (iI s.at_)) (first|(refine ⟨?_,?_⟩<;>assumption)|(simp [go_sem,↓IntWalk.iteOmega, *];done)) (fail)
  have G5:=Zh Bv
  clear Bv
  generalize w.drew=W0 at*
  go_wp2_with (first
   |(go_at_call 129;refine (eq _ _).mono ?_;rintro e w1 ⟨rfl,u'⟩;replace u':=u'.symm;subst u')
   |(go_at_call 131;refine (dQ _ _).mono ?_;rintro e w1 ⟨rfl,u'⟩;replace u':=u'.symm;subst u')
   |(go_at_call 130;refine (HW.out _ (H.out.below G5.out) h0 Za).mono ?_;rintro e w1 ⟨rfl,yA,yH⟩;have zW:=Zh yA;have ys:=Zh (cK G5.out hC yH);clear yA yH))
  go_ret
  exact ⟨rfl,zW.out,ys.out⟩
 case false=>
 rw [hl] at xx
 simp only [zaY,if_false] at xx
 cases hd:isDig t[s.at_]
 case true=>
  rw [hd,if_pos rfl,wU] at xx
  have h0:=yi isDig hd
  have wX:((t.data.toList.drop s.at_).takeWhile isDig).length=runL t s.at_ isDig:=rfl
  have FM:(subT t s.at_ (runL t s.at_ isDig)).data.toList=(t.data.toList.drop s.at_).takeWhile isDig:=eU t s.at_ isDig
  have D6:(t.data.toList.drop s.at_).drop (runL t s.at_ isDig)=t.data.toList.drop (s.at_+runL t s.at_ isDig):=by rw [List.drop_drop]
  rw [D6] at xx
  have yZ:=fX t s.at_ isDig Za
  split at xx
  ·cases xx
  rename_i Bu
  split at xx
  ·cases xx
  rename_i yr
  simp only [zaA,Prod.mk.injEq] at xx
  obtain ⟨rfl, -⟩:=xx
  have h3: ∀hi:s.at_+runL t s.at_ isDig<t.size,isPart t[s.at_+runL t s.at_ isDig]=false:=fun hi=>by
   rw [cN hi] at yr
   simpa [headPart] using yr
  rw [wX]
  simp only [zak,zau,za0,beq_iff_eq,not_or,not_and] at Bu
  have h1:dval (subT t s.at_ (runL t s.at_ isDig)).data.toList<18446744073709551616:=by rw [FM];omega
  have h2:runL t s.at_ isDig=1\/ ∀hi:s.at_<t.size,t[s.at_]≠48:=by
   rcases (by omega:runL t s.at_ isDig=1\/1<runL t s.at_ isDig) with h|h
   ·exact .inl h
   ·exact .inr fun hi=>Bu.2 h
  clear wU yi HW HS zm Bu yr D6 FM wX
  go_enter Tryz.func92,Tryz.ntmps92
  go_wp2_with fail
  go_region_held3 (fun W=>W.cell? (aB C 0)=some (.string t)/\W.cell? (aB C 1)=some (iI s.at_)) (first|(refine ⟨?_,?_⟩<;>assumption)|(simp [go_sem,↓IntWalk.iteOmega, *];done)) (fail)
  have G5:=Zh Bv
  clear Bv
  generalize w.drew=W0 at*
  go_wp2_with (first
   |(go_at_call 129;refine (eq _ _).mono ?_;rintro e w1 ⟨rfl,u'⟩;replace u':=u'.symm;subst u')
   |(go_at_call 131;refine (dQ _ _).mono ?_;rintro e w1 ⟨rfl,u'⟩;replace u':=u'.symm;subst u')
   |(go_at_call 132;refine (HN.out _ (H.out.below G5.out) h0 h1 h2 h3).mono ?_;rintro e w1 ⟨rfl,yA,yH⟩;have zW:=Zh yA;have ys:=Zh (cK G5.out hC yH);clear yA yH))
  go_ret
  exact ⟨rfl,zW.out,ys.out⟩
 case false=>
  rw [hd] at xx
  simp only [zaY,if_false] at xx
  have yy:(t.data.toList.drop s.at_).length=t.size-s.at_:=by
   rw [List.length_drop]
   have:t.data.toList.length=t.size:=zam
   omega
  cases h2:isTwo (t.data.toList.drop s.at_)
  case true=>
   rw [if_pos ((hJ _).1 h2)] at xx
   cases xx
   have wX:((t.data.toList.drop s.at_).take 2).length=2:=by
    rcases (hJ _).1 h2 with h|h|h|h<;>rw [h]<;>rfl
   have yZ:s.at_+2<=t.size:=by
    rw [zaR,yy] at wX
    omega
   rw [wX]
   have hS:=Zh (fun W (h:LxAt W C t s)=>HS.out W h (fun _=>yZ) (fun h=>by rw [h2] at h;cases h))
   rw [if_pos h2] at hS
   clear wU yi HW HN HS zm yy wX
   go_enter Tryz.func92,Tryz.ntmps92
   go_wp2_with fail
   go_region_held3 (fun W=>W.cell? (aB C 0)=some (.string t)/\W.cell? (aB C 1)=some (iI s.at_)) (first|(refine ⟨?_,?_⟩<;>assumption)|(simp [go_sem,↓IntWalk.iteOmega, *];done)) (fail)
   have G5:=Zh Bv
   clear Bv
   generalize w.drew=W0 at*
   go_wp2_with (first
    |(go_at_call 129;refine (eq _ _).mono ?_;rintro e w1 ⟨rfl,u'⟩;replace u':=u'.symm;subst u')
    |(go_at_call 131;refine (dQ _ _).mono ?_;rintro e w1 ⟨rfl,u'⟩;replace u':=u'.symm;subst u')
    |(go_at_call 133;refine (hS.out _ (H.out.below G5.out)).mono ?_;rintro e w1 ⟨rfl,yA,yH⟩;have zW:=Zh yA;have ys:=Zh (cK G5.out hC yH);clear yA yH))
   go_ret
   exact ⟨rfl,zW.out,ys.out⟩
  case false=>
   rw [if_neg (fun h=>by rw [<-hJ,h2] at h;cases h)] at xx
   split at xx
   ·rename_i Ld
    cases xx
    have hS:=Zh (fun W (h:LxAt W C t s)=>HS.out W h (fun h=>by rw [h2] at h;cases h) (fun _=>Ld))
    rw [if_neg (by rw [h2];simp)] at hS
    clear wU yi HW HN HS zm yy Ld
    go_enter Tryz.func92,Tryz.ntmps92
    go_wp2_with fail
    go_region_held3 (fun W=>W.cell? (aB C 0)=some (.string t)/\W.cell? (aB C 1)=some (iI s.at_)) (first|(refine ⟨?_,?_⟩<;>assumption)|(simp [go_sem,↓IntWalk.iteOmega, *];done)) (fail)
    have G5:=Zh Bv
    clear Bv
    generalize w.drew=W0 at*
    go_wp2_with (first
     |(go_at_call 129;refine (eq _ _).mono ?_;rintro e w1 ⟨rfl,u'⟩;replace u':=u'.symm;subst u')
     |(go_at_call 131;refine (dQ _ _).mono ?_;rintro e w1 ⟨rfl,u'⟩;replace u':=u'.symm;subst u')
     |(go_at_call 133;refine (hS.out _ (H.out.below G5.out)).mono ?_;rintro e w1 ⟨rfl,yA,yH⟩;have zW:=Zh yA;have ys:=Zh (cK G5.out hC yH);clear yA yH))
    go_ret
    exact ⟨rfl,zW.out,ys.out⟩
   ·cases xx
inductive LxRun (t:qB):LxS->List Tok->Prop
 |stop {s:LxS} (h:s.at_=t.size):LxRun t s s.toks
 |go {s s':LxS} {l:List Tok} (h:s.at_<t.size) (hs:lxNext t s=some s') (k:LxRun t s' l):LxRun t s l
theorem fm{x:UInt8}{l wd rr:List UInt8}(h:lexOne (x::l)=some (wd,rr)):wd++rr=x::l/\0<wd.length:=by
 have tw: ∀p:UInt8->Bool,(x::l).takeWhile p++(x::l).drop ((x::l).takeWhile p).length=x::l:=fun p=>by
  have h1:=List.takeWhile_append_dropWhile (p:=p) (l:=x::l)
  have h2:(x::l).drop ((x::l).takeWhile p).length=(x::l).dropWhile p:=by
   have:=List.drop_left (l₁:=(x::l).takeWhile p) (l₂:=(x::l).dropWhile p)
   rwa [h1] at this
  rw [h2,h1]
 have hp: ∀p:UInt8->Bool,p x=true->0<((x::l).takeWhile p).length:=fun p hp=>by
  rw [List.takeWhile_cons_of_pos hp]
  simp
 unfold lexOne at h
 simp only at h
 cases hl:isLet x
 ·cases hd:isDig x
  ·simp only [hl,hd,zaY,if_false] at h
   split at h
   ·cases h
    exact ⟨List.take_append_drop 2 _,by simp⟩
   ·split at h
    ·cases h
     exact ⟨rfl,by simp⟩
    ·cases h
  ·simp only [hl,hd,zaY,if_false,if_true] at h
   split at h
   ·cases h
   split at h
   ·cases h
   ·cases h
    exact ⟨tw isDig,hp isDig hd⟩
 ·simp only [hl,if_true] at h
  split at h
  ·cases h
  ·cases h
   exact ⟨tw isPart,hp isPart (by simp [isPart,hl])⟩
theorem gV{t:qB}{s s':LxS}(h:s.at_<t.size)(hs:lxNext t s=some s'):s.at_<s'.at_:=by
 unfold lxNext at hs
 rw [cN h] at hs
 simp only at hs
 split at hs
 ·cases hs
  exact Nat.lt_succ_self _
 split at hs
 ·cases hs
  exact Nat.lt_succ_self _
 rcases xx:lexOne (t[s.at_]::t.data.toList.drop (s.at_+1)) with _|⟨wd,rr⟩
 ·rw [xx] at hs
  cases hs
 rw [xx] at hs
 cases hs
 have:=(fm xx).2
 simp [takeS]
 omega
theorem LxRun.of_go{t:qB}: ∀(n:Nat) (s:LxS) (l:List Tok),s.at_<=t.size->lexGo n (t.data.toList.drop s.at_) s.line s.toks= .inr l->LxRun t s l
 |0,s,l,_,h=>by simp [lexGo] at h
 |n+1,s,l,yZ,h=>by
  rcases (by omega:s.at_=t.size\/s.at_<t.size) with h1|h1
  ·have e:t.data.toList.drop s.at_=[]:=List.drop_eq_nil_of_le (by rw [h1];exact Nat.le_of_eq zam)
   rw [e] at h
   simp only [lexGo,Sum.inr.injEq] at h
   rw [<-h]
   exact .stop h1
  ·have hc:=cN h1
   have yl: ∀s':LxS,lxNext t s=some s'->s'.at_<=t.size->lexGo n (t.data.toList.drop s'.at_) s'.line s'.toks= .inr l->LxRun t s l:=fun s' h2 h3 h4=> .go h1 h2 (LxRun.of_go n s' l h3 h4)
   have hx:lxNext t s=lxNext t s:=rfl
   unfold lxNext at yl
   rw [hc] at yl h
   simp only [lexGo] at h yl
   by_cases g1:t[s.at_]=10
   ·simp only [g1,if_true] at h yl
    exact yl _ rfl (by simp only [];omega) (by simpa using h)
   simp only [g1,if_false] at h yl
   by_cases g2:t[s.at_]=32
   ·simp only [g2,if_true] at h yl
    exact yl _ rfl (by simp only [];omega) (by simpa using h)
   simp only [g2,if_false] at h yl
   rcases xx:lexOne (t[s.at_]::t.data.toList.drop (s.at_+1)) with _|⟨wd,rr⟩
   ·rw [xx] at h
    cases h
   rw [xx] at h yl
   simp only at h yl
   have hw:=(fm xx).1
   have hl:t.data.toList.length=t.size:=zam
   have wX:wd.length+rr.length=t.size-s.at_:=by
    have:=congrArg List.length hw
    rw [<-hc,zaO,List.length_drop,hl] at this
    exact this
   have Be:t.data.toList.drop (s.at_+wd.length)=rr:=by
    rw [<-List.drop_drop,hc,<-hw]
    simp
   have AJ:(⟨wd.toArray⟩:qB)=subT t s.at_ wd.length:=by
    apply WideShapes.bytes_inj
    have:=eO t s.at_ wd.length
    rw [hc,<-hw] at this
    simp at this
    simp [this]
   refine yl _ rfl (by simp [takeS];omega) ?_
   simp only [takeS]
   rw [Be,<-AJ]
   exact h
theorem eS{w:qW}{k i:Nat}{cs:Array qV}{t:TypeId}{z:Nat×Nat}{v:qV}(h:w.heap[k]?=some (.cells cs t z))(hv:cs[i]?=some v):w.setCell ⟨k,i,none⟩ v=w:=by
 obtain ⟨hk,e⟩:=Array.getElem?_eq_some_iff.1 h
 obtain ⟨hi,e2⟩:=Array.getElem?_eq_some_iff.1 hv
 have:(w.setCell ⟨k,i,none⟩ v).heap=w.heap:=by
  apply Array.ext_getElem?
  intro j
  by_cases hj:j=k
  ·subst hj
   rw [aJ h,h]
   have:cs.setIfInBounds i v=cs:=by
    apply Array.ext_getElem?
    intro j
    rw [zaT]
    by_cases Ak:i=j
    ·subst Ak
     simp [hi,e2]
    ·simp [Ak]
   rw [this]
  ·rw [zas _ _ _ _ hj]
 unfold World.setCell at*
 simp only at this
 rw [this]
theorem uq{w:qW}{B B' n s:Nat}{e:TypeId}{v:qV}{xs:List qV}(h:w.ownsRow B e s v n xs)(hb:B'<=B):w.ownsRow B' e s v n xs:=by
 refine ⟨h.1,?_⟩
 rcases h.2 with h1|⟨g,cap,cur,h1,h2,h3⟩
 ·exact .inl h1
 ·exact .inr ⟨g,cap,cur,h1,zal hb h2,h3⟩
theorem fE{B C:Nat}{w W W':qW}(hB:Below B w W)(h:Below C W W')(hC:B<=C:=by omega):Below B w W':=
 ⟨h.os.trans hB.os,h.tape.trans hB.tape,h.output.trans hB.output,zal hB.size h.size,fun k hk=>(h.block k Za).trans (hB.block k hk)⟩
theorem o8(t:qB)(l:List Tok)(h:lexAll t= .inr l)(w:qW):
  qC 59 #[.string t] w fun e w'=> ∃a c,e= .returned (.tuple #[.slice a l.length c,.agg #[iI 0,iI 0]])/\Below w.heap.size w w'/\w'.ownsRow w.heap.size 145 2 (.slice a l.length c) l.length (l.flatMap tkC):=by
 unfold lexAll at h
 split at h
 ·cases h
 rename_i hsz
 split at h
 ·cases h
 rename_i l' Fe
 cases h
 have hr:=Zh (LxRun.of_go _ ⟨0,1,[]⟩ _ (zaB _) (by simpa using Fe))
 have HN:=Zh (fun (C:Nat) (s s':LxS) W (h:LxAt W C t s) h1 h2=>vU (s:=s) (s':=s') (C:=C) (t:=t) W h h1 h2)
 clear Fe
 go_enter Tryz.func59,Tryz.ntmps59
 go_wp2_with fail
 go_loopw [] (fun wr=> ∃s:LxS,LxAt wr (w.heap.size+1) t s/\Below w.heap.size w wr/\LxRun t s l/\wr.heap[w.heap.size]?=some (.cells #[iI 0,iI 0] 31 (0,0))) (fun wr=>t.size-(match wr.cell? ⟨w.heap.size+1,1,none⟩ with|some v=>(intOf v).toNat|none=>0))
 case atStart=>
  refine ⟨⟨0,1,[]⟩,⟨⟨.slice none 0 0,?_,zaX _ _ _ _⟩,zaB _,by omega,by simp,by simp⟩,ab (ab (zaa _ _) _) _,hr.out,?_⟩
  ·have:=zab (w.alloc (.cells #[iI 0,iI 0] 31)) (.cells #[.string t,iI 0,iI 1,.slice none 0 0] 205)
   simpa using this
  ·rw [zac _ _ Zi]
   exact zab _ _
 case round=>
  obtain ⟨s,hS,hB,wU,hF⟩:=hrel
  obtain ⟨v,g1,g2⟩:=hS.lies
  have hc:=aa g1
  have c1:wr.cell? ⟨w.heap.size+1,1,none⟩=some (iI s.at_):=hc 1
  have HB:=Zh hB
  have HF:=Zh hF
  have HS:=Zh hS
  have yZ:=hS.le
  cases wU with
  |stop xb=>
   have c3:wr.cell? ⟨w.heap.size+1,3,none⟩=some v:=hc 3
   have G2:=Zh g2
   have d0:=aa hF
   have d1:=ai hF
   have hne: ¬w.heap.size+1=w.heap.size:=by omega
   have wY:=ac hF
   have xy:=ac g1
   clear hS hB hF g1 g2 hc
   rw [xb] at c1
   have z0:wr.setCell ⟨w.heap.size,0,none⟩ (iI 0)=wr:=eS HF.out rfl
   have z1:wr.setCell ⟨w.heap.size,1,none⟩ (iI 0)=wr:=eS HF.out rfl
   have e0:wr.cell? (aB w.heap.size 0)=some (iI 0):=d0 0
   have e1:wr.cell? (aB w.heap.size 1)=some (iI 0):=d0 1
   go_wp2
   (try simp only [Exit.inBlock,Exit.then]);refine zad (by simp [results,Tryz.results59,go_sem,↓IntWalk.iteOmega,e0,e1];try rfl) rfl ?_
   obtain ⟨a,c,rfl⟩: ∃a c,v= .slice a s.toks.length c:=by
    rcases G2.out.2 with ⟨rfl,h0⟩|⟨g,cap,cur,rfl, -⟩
    ·exact ⟨none,0,by rw [h0]⟩
    ·exact ⟨_,_,rfl⟩
   exact ⟨a,c,rfl,HB.out,uq G2.out Za⟩
  |go wY hs k=>
   have xy:=gV wY hs
   have K:=Zh k
   have SS:=Zh hs
   have hC:=ac g1
   clear hS hB hF g1 g2 hc k hs
   go_wp2_with (go_at_call 92;refine (HN.out _ _ _ _ HS.out wY SS.out).mono ?_;rintro e w1 ⟨rfl,yA,yH⟩;have zW:=Zh yA;have ys:=Zh yH;clear yA yH)
   have hL:=zW.out
   obtain ⟨v',g3, -⟩:=hL.lies
   have q1:w1.cell? ⟨w.heap.size+1,1,none⟩=some (iI (_:Int)):=aa g3 1
   refine ⟨⟨_,hL,fE HB.out ys.out,K.out,(ys.out.block _ Za).trans HF.out⟩,?_⟩
   rw [q1,c1]
   have:=hL.le
   simp [intOf]
   omega
end Go.Proofs.YtcekjfmfcefjpaaGreatDoor
