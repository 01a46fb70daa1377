/- Walks. No condition. -/
import Derived.Test.YtjmfoeajhiimnaaGreatDoorG23
set_option maxRecDepth 100000
set_option maxHeartbeats 0
set_option linter.all false
namespace Go.Proofs.YtjmfoeajhiimnaaGreatDoor
open Go.RowKit Go.Sort
def sg4:List (List UInt8):=[[60,60],[62,62],[61,61],[33,61]]
def isTwo(l:List UInt8):Bool:=sg4.any (fun p=>Lib.hasPrefix l p)
theorem ml: ∀(l:List UInt8) (c:UInt8),l.contains c=true->0<=Lib.indexByte l c
 |[],c,h=>by simp at h
 |b::l,c,h=>by
  unfold Lib.indexByte
  split
  ·omega
  ·rename_i hb
   have:l.contains c=true:=by
    simp only [List.contains_cons,zak] at h
    rcases h with h|h
    ·exact absurd (by rw [beq_iff_eq] at h ⊢;exact h.symm) hb
    ·exact h
   have:=ml l c this
   split
   ·rename_i h2
    rw [beq_iff_eq] at h2
    omega
   ·omega
theorem yce{c:UInt8}(h:signs.contains c=true):0<=Lib.indexByte ((⟨#[123,125,91,93,40,41,59,58,44,46,95,61,43,45,42,38,124,94,60]⟩:qB)).data.toList ((c.toNat:Int).toNat.toUInt8):=by
 have e:(c.toNat:Int).toNat.toUInt8=c:=by simp
 rw [e]
 exact ml _ _ h
theorem cL{C:Nat}{w W W':qW}(hB:Below w.heap.size w W)(hC:C<w.heap.size)(h:Below C W W'):Below C w W':=
 ⟨h.os.trans hB.os,h.tape.trans hB.tape,h.output.trans hB.output,zal hB.size h.size,fun k hk=>(h.block k hk).trans (hB.block k Za)⟩
theorem LxAt.lt{C:Nat}{t:qB}{s:LxS}{w:qW}(h:LxAt w C t s):C<w.heap.size:=by
 obtain ⟨v,g, -⟩:=h.lies
 exact ac g
theorem rS{C:Nat}{t:qB}{s:LxS}(w:qW)(h:LxAt w C t s)(xe:s.at_<t.size)(xr:isTwo (t.data.toList.drop s.at_)=true->s.at_+2<=t.size)(hs:isTwo (t.data.toList.drop s.at_)=false->signs.contains t[s.at_]=true):
  qC 110 #[pP C] w (Lxd C t w (.bool true) (takeS t (if isTwo (t.data.toList.drop s.at_)=true then 2 else 1) s)):=by
 have HT:=Zh (fun W h n h0 zt=>eh (s:=s) (C:=C) (t:=t) W h n h0 zt)
 have H:=Zh h
 have hC:=h.lt
 obtain ⟨v,g1,g2⟩:=h.lies
 have hc:=aa g1
 have hsz:=h.sz
 have DL:(t.extract s.at_ t.size).data.toList=t.data.toList.drop s.at_:=by
  have:=eV t s.at_ (t.size-s.at_)
  unfold subT at this
  rw [show s.at_+(t.size-s.at_)=t.size by omega] at this
  rw [this]
  exact List.take_of_length_le (by have e:t.data.toList.length=t.size:=zam;simp [e])
 have HP:=Zh (fun (p:qB) W=>yco (t.extract s.at_ t.size) p W)
 have h6:(s.at_:Int)<=t.size:=by omega
 obtain ⟨i0,hi,xx,xu,xq⟩:=zan eW
 have ix:=fun cs hn k h0 h1 w=>f9 (P:=Tryz.prog) Tryz.underlying262 Tryz.underlying9 hi xu cs hn k h0 h1 w
 rw [DL] at HP
 clear DL
 generalize t.data.toList.drop s.at_=D at*
 have yT:Hid (∀W,LxAt W C t s->s.at_+2<=t.size->qC 171 #[pP C,iI 2] W fun e w'=>e= .returned (.tuple #[])/\LxAt w' C t (takeS t 2 s)/\Below C W w'):=Zh (fun W h hh=>eh W h 2 Zd hh)
 have Hp:Hid (∀W,LxAt W C t s->qC 171 #[pP C,iI 1] W fun e w'=>e= .returned (.tuple #[])/\LxAt w' C t (takeS t 1 s)/\Below C W w'):=Zh (fun W h=>eh W h 1 Zd Za)
 clear h g1 g2 xx xq HT
 generalize hm:(if isTwo D=true then 2 else 1)=m
 have HM:=Zh hm
 clear hm
 go_enter Tryz.func110,Tryz.ntmps110
 go_wp2_with fail
 have hB:=zaa w.heap.size w
 refine zao 6 ?_;rw [zap]
 go_wp2_with fail
 have c0:(w).drew.cell? (aB C 0)=some (.string t):=(hB.cell (p:=⟨C,0,none⟩) hC).trans (hc 0)
 have c1:(w).drew.cell? (aB C 1)=some (iI s.at_):=(hB.cell (p:=⟨C,1,none⟩) hC).trans (hc 1)
 replace hB:Below w.heap.size w (w).drew:=ag hB
 go_region_held3 (fun W=>W.cell? (aB C 0)=some (.string t)/\W.cell? (aB C 1)=some (iI s.at_)) (first|(refine ⟨?_,?_⟩<;>assumption)|(simp [go_sem,↓IntWalk.iteOmega, *];done)) (first|(go_simp;go_at_call 172;refine (HP.out _ _).mono ?_;rintro e w1 ⟨rfl,u'⟩;replace u':=u'.symm;subst u'))
 clear c0 c1
 generalize (w).drew=W0 at*
 cases yb:Lib.hasPrefix D [60,60]
 case true=>
  have HB:=Zh hB
  have h2:isTwo D=true:=by simp [isTwo,sg4,yb]
  go_wp2_with (first|(go_at_call 171;refine (yT.out _ (H.out.below HB.out) (xr h2)).mono ?_;rintro e w1 ⟨rfl,yG,yI⟩;have z9:=Zh yG;have yP:=Zh (cL HB.out hC yI);clear yG yI))
  (try simp only [Exit.inBlock,Exit.then])
  go_ret
  have hm:m=2:=by rw [<-HM.out,if_pos h2]
  rw [hm]
  exact ⟨rfl,z9.out,yP.out⟩
 try simp only [yb]
 go_wp2_with fail;rw [zap]
 go_wp2_with fail
 have c0:(W0).drew.cell? (aB C 0)=some (.string t):=(hB.cell (p:=⟨C,0,none⟩) hC).trans (hc 0)
 have c1:(W0).drew.cell? (aB C 1)=some (iI s.at_):=(hB.cell (p:=⟨C,1,none⟩) hC).trans (hc 1)
 replace hB:Below w.heap.size w (W0).drew:=ag hB
 go_region_held3 (fun W=>W.cell? (aB C 0)=some (.string t)/\W.cell? (aB C 1)=some (iI s.at_)) (first|(refine ⟨?_,?_⟩<;>assumption)|(simp [go_sem,↓IntWalk.iteOmega, *];done)) (first|(go_simp;go_at_call 172;refine (HP.out _ _).mono ?_;rintro e w1 ⟨rfl,u'⟩;replace u':=u'.symm;subst u'))
 clear c0 c1
 generalize (W0).drew=W1 at*
 cases yn:Lib.hasPrefix D [62,62]
 case true=>
  have HB:=Zh hB
  have h2:isTwo D=true:=by simp [isTwo,sg4,yn]
  go_wp2_with (first|(go_at_call 171;refine (yT.out _ (H.out.below HB.out) (xr h2)).mono ?_;rintro e w1 ⟨rfl,yG,yI⟩;have z9:=Zh yG;have yP:=Zh (cL HB.out hC yI);clear yG yI))
  (try simp only [Exit.inBlock,Exit.then])
  go_ret
  have hm:m=2:=by rw [<-HM.out,if_pos h2]
  rw [hm]
  exact ⟨rfl,z9.out,yP.out⟩
 try simp only [yn]
 go_wp2_with fail;rw [zap]
 go_wp2_with fail
 have c0:(W1).drew.cell? (aB C 0)=some (.string t):=(hB.cell (p:=⟨C,0,none⟩) hC).trans (hc 0)
 have c1:(W1).drew.cell? (aB C 1)=some (iI s.at_):=(hB.cell (p:=⟨C,1,none⟩) hC).trans (hc 1)
 replace hB:Below w.heap.size w (W1).drew:=ag hB
 go_region_held3 (fun W=>W.cell? (aB C 0)=some (.string t)/\W.cell? (aB C 1)=some (iI s.at_)) (first|(refine ⟨?_,?_⟩<;>assumption)|(simp [go_sem,↓IntWalk.iteOmega, *];done)) (first|(go_simp;go_at_call 172;refine (HP.out _ _).mono ?_;rintro e w1 ⟨rfl,u'⟩;replace u':=u'.symm;subst u'))
 clear c0 c1
 generalize (W1).drew=W2 at*
 cases xA:Lib.hasPrefix D [61,61]
 case true=>
  have HB:=Zh hB
  have h2:isTwo D=true:=by simp [isTwo,sg4,xA]
  go_wp2_with (first|(go_at_call 171;refine (yT.out _ (H.out.below HB.out) (xr h2)).mono ?_;rintro e w1 ⟨rfl,yG,yI⟩;have z9:=Zh yG;have yP:=Zh (cL HB.out hC yI);clear yG yI))
  (try simp only [Exit.inBlock,Exit.then])
  go_ret
  have hm:m=2:=by rw [<-HM.out,if_pos h2]
  rw [hm]
  exact ⟨rfl,z9.out,yP.out⟩
 try simp only [xA]
 go_wp2_with fail;rw [zap]
 go_wp2_with fail
 have c0:(W2).drew.cell? (aB C 0)=some (.string t):=(hB.cell (p:=⟨C,0,none⟩) hC).trans (hc 0)
 have c1:(W2).drew.cell? (aB C 1)=some (iI s.at_):=(hB.cell (p:=⟨C,1,none⟩) hC).trans (hc 1)
 replace hB:Below w.heap.size w (W2).drew:=ag hB
 go_region_held3 (fun W=>W.cell? (aB C 0)=some (.string t)/\W.cell? (aB C 1)=some (iI s.at_)) (first|(refine ⟨?_,?_⟩<;>assumption)|(simp [go_sem,↓IntWalk.iteOmega, *];done)) (first|(go_simp;go_at_call 172;refine (HP.out _ _).mono ?_;rintro e w1 ⟨rfl,u'⟩;replace u':=u'.symm;subst u'))
 clear c0 c1
 generalize (W2).drew=W3 at*
 cases Ai:Lib.hasPrefix D [33,61]
 case true=>
  have HB:=Zh hB
  have h2:isTwo D=true:=by simp [isTwo,sg4,Ai]
  go_wp2_with (first|(go_at_call 171;refine (yT.out _ (H.out.below HB.out) (xr h2)).mono ?_;rintro e w1 ⟨rfl,yG,yI⟩;have z9:=Zh yG;have yP:=Zh (cL HB.out hC yI);clear yG yI))
  (try simp only [Exit.inBlock,Exit.then])
  go_ret
  have hm:m=2:=by rw [<-HM.out,if_pos h2]
  rw [hm]
  exact ⟨rfl,z9.out,yP.out⟩
 try simp only [Ai]
 go_wp2_with fail;rw [zap]
 go_wp2_with fail
 have yH:isTwo D=false:=by simp [isTwo,sg4,yb,yn,xA,Ai]
 have hm:m=1:=by rw [<-HM.out,yH];rfl
 obtain ⟨k,ym,HI⟩: ∃k:Int,0<=k/\Hid (∀W,qC 173 #[.string (⟨#[123,125,91,93,40,41,59,58,44,46,95,61,43,45,42,38,124,94,60]⟩:qB),.int .u8 t[s.at_].toNat] W fun e w1=>e= .returned (iI k)/\w1=W):=⟨_,yce (hs yH),Zh (fun W=>yb2 _ _ W)⟩
 have c0:(W3).drew.cell? (aB C 0)=some (.string t):=(hB.cell (p:=⟨C,0,none⟩) hC).trans (hc 0)
 have c1:(W3).drew.cell? (aB C 1)=some (iI s.at_):=(hB.cell (p:=⟨C,1,none⟩) hC).trans (hc 1)
 replace hB:Below w.heap.size w (W3).drew:=ag hB
 go_region_held3 (fun W=>W.cell? (aB C 0)=some (.string t)/\W.cell? (aB C 1)=some (iI s.at_)) (first|(refine ⟨?_,?_⟩<;>assumption)|(simp [go_sem,↓IntWalk.iteOmega, *];done)) (first|(go_simp;go_at_call 173;refine (HI.out _).mono ?_;rintro e w1 ⟨rfl,u'⟩;replace u':=u'.symm;subst u'))
 clear c0 c1
 have HB:=Zh hB
 go_wp2_with (first|(go_at_call 171;refine (Hp.out _ (H.out.below HB.out)).mono ?_;rintro e w1 ⟨rfl,yG,yI⟩;have z9:=Zh yG;have yP:=Zh (cL HB.out hC yI);clear yG yI))
 (try simp only [Exit.inBlock,Exit.then])
 go_ret
 rw [hm]
 exact ⟨rfl,z9.out,yP.out⟩
def lxNext(t:qB)(s:LxS):Option LxS:=
 match t.data.toList.drop s.at_ with
 |[]=>none
 |x::l=>if x=10 then some ⟨s.at_+1,s.line+1,s.toks⟩ else if x=32 then some ⟨s.at_+1,s.line,s.toks⟩
  else match lexOne (x::l) with
   |none=>none
   |some (wd,_)=>some (takeS t wd.length s)
theorem cP{t:qB}{a:Nat}(h:a<t.size):t.data.toList.drop a=t[a]::t.data.toList.drop (a+1):=by
 have hl:t.data.toList.length=t.size:=zam
 rw [zaS Za]
 congr 1
theorem tZ(l:List UInt8)(a b:UInt8):Lib.hasPrefix l [a,b]=decide (l.take 2=[a,b]):=by
 rw [Bool.eq_iff_iff]
 unfold Lib.hasPrefix
 rw [List.isPrefixOf_iff_prefix,List.prefix_iff_eq_take,zau]
 exact ⟨fun h=>h.symm,fun h=>h.symm⟩
theorem ii(l:List UInt8):isTwo l=true↔(l.take 2=[60,60]\/l.take 2=[62,62]\/l.take 2=[61,61]\/l.take 2=[33,61]):=by
 simp [isTwo,sg4,tZ]
theorem lL{w W:qW}{C a:Nat}{line:Int}{t:qB}{toks:List Tok}{v:qV}(h2:w.ownsRow (C+1) 119 2 v toks.length (toks.flatMap tkC))(hb:W.heap[C]?=some (.cells #[.string t,iI a,iI line,v] 180 (0,0)))
  (hk: ∀k,k≠C->k<w.heap.size->W.heap[k]?=w.heap[k]?) (ha:a<=t.size) (hs:t.size<=1048576) (hl:0<=line/\line<=a+1) (hf:toks.length<=a):LxAt W C t ⟨a,line,toks⟩:=
 ⟨⟨v,hb,ax h2 (fun g hg=>hk g (by have:=(h2.lt g hg).1;omega) (h2.lt g hg).2)⟩,ha,hs,hl,hf⟩
theorem wU{C:Nat}{t:qB}{s s':LxS}(w:qW)(h:LxAt w C t s)(xe:s.at_<t.size)(hs:lxNext t s=some s'):
  qC 64 #[pP C] w (Lxd C t w (.bool true) s'):=by
 have HW:=Zh (fun W h h0 h1=>oW (s:=s) (C:=C) (t:=t) W h h0 h1)
 have HN:=Zh (fun W h h0 h1 h2 h3=>wM (s:=s) (C:=C) (t:=t) W h h0 h1 h2 h3)
 have HS:=Zh (fun W h h1 h2=>rS (s:=s) (C:=C) (t:=t) W h xe h1 h2)
 have hC:=h.lt
 have H:=Zh h
 obtain ⟨v,g1,g2⟩:=h.lies
 have hc:=aa g1
 have hf:=ah g1
 have G1:=Zh g1
 have G2:=Zh g2
 have hsz:=h.sz
 have AR:=h.rl
 have EL:=h.few
 have c0:w.drew.cell? (aB C 0)=some (.string t):=hc 0
 have c1:w.drew.cell? (aB C 1)=some (iI s.at_):=hc 1
 have zy:=cP xe
 unfold lxNext at hs
 rw [zy] at hs
 simp only at hs
 have u':IntKind.i64.wrap ((s.at_:Int)+1)=(s.at_:Int)+1:=IntWalk.i64_in _ Za
 have Fe:IntKind.i64.wrap (s.line+1)=s.line+1:=IntWalk.i64_in _ Za
 have AV: ∀k:UInt8,t[s.at_]=k↔t[s.at_].toNat=k.toNat:=fun k=>⟨fun h=>by rw [h],fun h=>UInt8.toNat_inj.1 h⟩
 clear h g1 g2
 have By:=ag (zaa w.heap.size w)
 by_cases hx:t[s.at_]=10
 ·have AP:t[s.at_].toNat=10:=(AV 10).1 hx
  rw [if_pos hx] at hs
  cases hs
  clear HW HN HS AV
  go_enter Tryz.func64,Tryz.ntmps64
  go_wp2_with fail
  go_region_held3 (fun W=>W.cell? (aB C 0)=some (.string t)/\W.cell? (aB C 1)=some (iI s.at_)) (first|(refine ⟨?_,?_⟩<;>assumption)|(simp [go_sem,↓IntWalk.iteOmega, *];done)) (fail)
  have c2:w.drew.cell? (aB C 2)=some (iI s.line):=hc 2
  have f2:w.drew.frozen? (aB C 2)=false:=hf 2
  have f1:w.drew.frozen? (aB C 1)=false:=hf 1
  have Pt:C<w.drew.heap.size:=hC
  have G3:Hid (w.drew.heap[C]?=w.heap[C]?):=Zh rfl
  have G4:Hid (∀k:Nat,w.drew.heap[k]?=w.heap[k]?):=Zh (fun _=>rfl)
  have G5:=Zh By
  clear By
  generalize w.drew=W0 at*
  go_wp2
  go_ret
  refine ⟨rfl,lL G2.out ?_ ?_ Za hsz Za Za,?_⟩
  ·have:=aJ (aJ (G3.out.trans G1.out) (i:=2) (iI (s.line+1))) (i:=1) (iI ((s.at_:Int)+1))
   simpa using this
  ·intro k hk hl
   rw [zas _ _ _ _ (by simp only [];omega),zas _ _ _ _ (by simp only [];omega)]
   exact G4.out k
  ·have h1:Below C w W0:=⟨G5.out.os,G5.out.tape,G5.out.output,G5.out.size,fun k hk=>G5.out.block k Za⟩
   exact (h1.setCell (zaq _) _).setCell (zaq _) _
 rw [if_neg hx] at hs
 have AP: ¬t[s.at_].toNat=10:=mt (AV 10).2 hx
 by_cases hy:t[s.at_]=32
 ·have Aj:t[s.at_].toNat=32:=(AV 32).1 hy
  rw [if_pos hy] at hs
  cases hs
  clear HW HN HS AV
  go_enter Tryz.func64,Tryz.ntmps64
  go_wp2_with fail
  go_region_held3 (fun W=>W.cell? (aB C 0)=some (.string t)/\W.cell? (aB C 1)=some (iI s.at_)) (first|(refine ⟨?_,?_⟩<;>assumption)|(simp [go_sem,↓IntWalk.iteOmega, *];done)) (fail)
  have f1:w.drew.frozen? (aB C 1)=false:=hf 1
  have Pt:C<w.drew.heap.size:=hC
  have G3:Hid (w.drew.heap[C]?=w.heap[C]?):=Zh rfl
  have G4:Hid (∀k:Nat,w.drew.heap[k]?=w.heap[k]?):=Zh (fun _=>rfl)
  have G5:=Zh By
  clear By
  generalize w.drew=W0 at*
  go_wp2
  go_ret
  refine ⟨rfl,lL G2.out ?_ ?_ Za hsz Za Za,?_⟩
  ·have:=aJ (G3.out.trans G1.out) (i:=1) (iI ((s.at_:Int)+1))
   simpa using this
  ·intro k hk hl
   rw [zas _ _ _ _ (by simp only [];omega)]
   exact G4.out k
  ·have h1:Below C w W0:=⟨G5.out.os,G5.out.tape,G5.out.output,G5.out.size,fun k hk=>G5.out.block k Za⟩
   exact h1.setCell (zaq _) _
 rw [if_neg hy] at hs
 have Aj: ¬t[s.at_].toNat=32:=mt (AV 32).2 hy
 clear AV
 rcases xD:lexOne (t[s.at_]::t.data.toList.drop (s.at_+1)) with _|⟨wd,rr⟩
 ·rw [xD] at hs
  cases hs
 rw [xD] at hs
 simp only [zaA] at hs
 subst hs
 unfold lexOne at xD
 simp only at xD
 rw [<-zy] at xD
 have wY: ∀p:UInt8->Bool,((t.data.toList.drop s.at_).takeWhile p).length=runL t s.at_ p:=fun p=>rfl
 have yy: ∀p:UInt8->Bool,p t[s.at_]=true->0<runL t s.at_ p:=fun p hp=>by
  unfold runL
  rw [zy,List.takeWhile_cons_of_pos hp]
  simp
 cases hl:isLet t[s.at_]
 case true=>
  rw [hl,if_pos rfl,wY] at xD
  by_cases KF:16<runL t s.at_ isPart
  ·rw [if_pos KF] at xD
   cases xD
  rw [if_neg KF] at xD
  cases xD
  rw [wY]
  have h0:=yy isPart (by simp [isPart,hl])
  clear wY yy HN HS zy
  go_enter Tryz.func64,Tryz.ntmps64
  go_wp2_with fail
  go_region_held3 (fun W=>W.cell? (aB C 0)=some (.string t)/\W.cell? (aB C 1)=some (iI s.at_)) (first|(refine ⟨?_,?_⟩<;>assumption)|(simp [go_sem,↓IntWalk.iteOmega, *];done)) (fail)
  have G5:=Zh By
  clear By
  generalize w.drew=W0 at*
  go_wp2_with (first
   |(go_at_call 106;refine (eB _ _).mono ?_;rintro e w1 ⟨rfl,u'⟩;replace u':=u'.symm;subst u')
   |(go_at_call 108;refine (dW _ _).mono ?_;rintro e w1 ⟨rfl,u'⟩;replace u':=u'.symm;subst u')
   |(go_at_call 107;refine (HW.out _ (H.out.below G5.out) h0 Za).mono ?_;rintro e w1 ⟨rfl,yG,yI⟩;have z9:=Zh yG;have yP:=Zh (cL G5.out hC yI);clear yG yI))
  go_ret
  exact ⟨rfl,z9.out,yP.out⟩
 case false=>
 rw [hl] at xD
 simp only [zaY,if_false] at xD
 cases hd:isDig t[s.at_]
 case true=>
  rw [hd,if_pos rfl,wY] at xD
  have h0:=yy isDig hd
  have xd:((t.data.toList.drop s.at_).takeWhile isDig).length=runL t s.at_ isDig:=rfl
  have F5:(subT t s.at_ (runL t s.at_ isDig)).data.toList=(t.data.toList.drop s.at_).takeWhile isDig:=fd t s.at_ isDig
  have D6:(t.data.toList.drop s.at_).drop (runL t s.at_ isDig)=t.data.toList.drop (s.at_+runL t s.at_ isDig):=by rw [List.drop_drop]
  rw [D6] at xD
  have zt:=gh t s.at_ isDig Za
  split at xD
  ·cases xD
  rename_i Bx
  split at xD
  ·cases xD
  rename_i yB
  simp only [zaA,Prod.mk.injEq] at xD
  obtain ⟨rfl, -⟩:=xD
  have h3: ∀hi:s.at_+runL t s.at_ isDig<t.size,isPart t[s.at_+runL t s.at_ isDig]=false:=fun hi=>by
   rw [cP hi] at yB
   simpa [headPart] using yB
  rw [xd]
  simp only [zak,zau,za0,beq_iff_eq,not_or,not_and] at Bx
  have h1:dval (subT t s.at_ (runL t s.at_ isDig)).data.toList<18446744073709551616:=by rw [F5];omega
  have h2:runL t s.at_ isDig=1\/ ∀hi:s.at_<t.size,t[s.at_]≠48:=by
   rcases (by omega:runL t s.at_ isDig=1\/1<runL t s.at_ isDig) with h|h
   ·exact .inl h
   ·exact .inr fun hi=>Bx.2 h
  clear wY yy HW HS zy Bx yB D6 F5 xd
  go_enter Tryz.func64,Tryz.ntmps64
  go_wp2_with fail
  go_region_held3 (fun W=>W.cell? (aB C 0)=some (.string t)/\W.cell? (aB C 1)=some (iI s.at_)) (first|(refine ⟨?_,?_⟩<;>assumption)|(simp [go_sem,↓IntWalk.iteOmega, *];done)) (fail)
  have G5:=Zh By
  clear By
  generalize w.drew=W0 at*
  go_wp2_with (first
   |(go_at_call 106;refine (eB _ _).mono ?_;rintro e w1 ⟨rfl,u'⟩;replace u':=u'.symm;subst u')
   |(go_at_call 108;refine (dW _ _).mono ?_;rintro e w1 ⟨rfl,u'⟩;replace u':=u'.symm;subst u')
   |(go_at_call 109;refine (HN.out _ (H.out.below G5.out) h0 h1 h2 h3).mono ?_;rintro e w1 ⟨rfl,yG,yI⟩;have z9:=Zh yG;have yP:=Zh (cL G5.out hC yI);clear yG yI))
  go_ret
  exact ⟨rfl,z9.out,yP.out⟩
 case false=>
  rw [hd] at xD
  simp only [zaY,if_false] at xD
  have yE:(t.data.toList.drop s.at_).length=t.size-s.at_:=by
   rw [List.length_drop]
   have:t.data.toList.length=t.size:=zam
   omega
  cases h2:isTwo (t.data.toList.drop s.at_)
  case true=>
   rw [if_pos ((ii _).1 h2)] at xD
   cases xD
   have xd:((t.data.toList.drop s.at_).take 2).length=2:=by
    rcases (ii _).1 h2 with h|h|h|h<;>rw [h]<;>rfl
   have zt:s.at_+2<=t.size:=by
    rw [zaR,yE] at xd
    omega
   rw [xd]
   have hS:=Zh (fun W (h:LxAt W C t s)=>HS.out W h (fun _=>zt) (fun h=>by rw [h2] at h;cases h))
   rw [if_pos h2] at hS
   clear wY yy HW HN HS zy yE xd
   go_enter Tryz.func64,Tryz.ntmps64
   go_wp2_with fail
   go_region_held3 (fun W=>W.cell? (aB C 0)=some (.string t)/\W.cell? (aB C 1)=some (iI s.at_)) (first|(refine ⟨?_,?_⟩<;>assumption)|(simp [go_sem,↓IntWalk.iteOmega, *];done)) (fail)
   have G5:=Zh By
   clear By
   generalize w.drew=W0 at*
   go_wp2_with (first
    |(go_at_call 106;refine (eB _ _).mono ?_;rintro e w1 ⟨rfl,u'⟩;replace u':=u'.symm;subst u')
    |(go_at_call 108;refine (dW _ _).mono ?_;rintro e w1 ⟨rfl,u'⟩;replace u':=u'.symm;subst u')
    |(go_at_call 110;refine (hS.out _ (H.out.below G5.out)).mono ?_;rintro e w1 ⟨rfl,yG,yI⟩;have z9:=Zh yG;have yP:=Zh (cL G5.out hC yI);clear yG yI))
   go_ret
   exact ⟨rfl,z9.out,yP.out⟩
  case false=>
   rw [if_neg (fun h=>by rw [<-ii,h2] at h;cases h)] at xD
   split at xD
   ·rename_i Lv
    cases xD
    have hS:=Zh (fun W (h:LxAt W C t s)=>HS.out W h (fun h=>by rw [h2] at h;cases h) (fun _=>Lv))
    rw [if_neg (by rw [h2];simp)] at hS
    clear wY yy HW HN HS zy yE Lv
    go_enter Tryz.func64,Tryz.ntmps64
    go_wp2_with fail
    go_region_held3 (fun W=>W.cell? (aB C 0)=some (.string t)/\W.cell? (aB C 1)=some (iI s.at_)) (first|(refine ⟨?_,?_⟩<;>assumption)|(simp [go_sem,↓IntWalk.iteOmega, *];done)) (fail)
    have G5:=Zh By
    clear By
    generalize w.drew=W0 at*
    go_wp2_with (first
     |(go_at_call 106;refine (eB _ _).mono ?_;rintro e w1 ⟨rfl,u'⟩;replace u':=u'.symm;subst u')
     |(go_at_call 108;refine (dW _ _).mono ?_;rintro e w1 ⟨rfl,u'⟩;replace u':=u'.symm;subst u')
     |(go_at_call 110;refine (hS.out _ (H.out.below G5.out)).mono ?_;rintro e w1 ⟨rfl,yG,yI⟩;have z9:=Zh yG;have yP:=Zh (cL G5.out hC yI);clear yG yI))
    go_ret
    exact ⟨rfl,z9.out,yP.out⟩
   ·cases xD
inductive LxRun (t:qB):LxS->List Tok->Prop
 |stop {s:LxS} (h:s.at_=t.size):LxRun t s s.toks
 |go {s s':LxS} {l:List Tok} (h:s.at_<t.size) (hs:lxNext t s=some s') (k:LxRun t s' l):LxRun t s l
theorem fw{x:UInt8}{l wd rr:List UInt8}(h:lexOne (x::l)=some (wd,rr)):wd++rr=x::l/\0<wd.length:=by
 have tw: ∀p:UInt8->Bool,(x::l).takeWhile p++(x::l).drop ((x::l).takeWhile p).length=x::l:=fun p=>by
  have h1:=List.takeWhile_append_dropWhile (p:=p) (l:=x::l)
  have h2:(x::l).drop ((x::l).takeWhile p).length=(x::l).dropWhile p:=by
   have:=List.drop_left (l₁:=(x::l).takeWhile p) (l₂:=(x::l).dropWhile p)
   rwa [h1] at this
  rw [h2,h1]
 have hp: ∀p:UInt8->Bool,p x=true->0<((x::l).takeWhile p).length:=fun p hp=>by
  rw [List.takeWhile_cons_of_pos hp]
  simp
 unfold lexOne at h
 simp only at h
 cases hl:isLet x
 ·cases hd:isDig x
  ·simp only [hl,hd,zaY,if_false] at h
   split at h
   ·cases h
    exact ⟨List.take_append_drop 2 _,by simp⟩
   ·split at h
    ·cases h
     exact ⟨rfl,by simp⟩
    ·cases h
  ·simp only [hl,hd,zaY,if_false,if_true] at h
   split at h
   ·cases h
   split at h
   ·cases h
   ·cases h
    exact ⟨tw isDig,hp isDig hd⟩
 ·simp only [hl,if_true] at h
  split at h
  ·cases h
  ·cases h
   exact ⟨tw isPart,hp isPart (by simp [isPart,hl])⟩
theorem ia{t:qB}{s s':LxS}(h:s.at_<t.size)(hs:lxNext t s=some s'):s.at_<s'.at_:=by
 unfold lxNext at hs
 rw [cP h] at hs
 simp only at hs
 split at hs
 ·cases hs
  exact Nat.lt_succ_self _
 split at hs
 ·cases hs
  exact Nat.lt_succ_self _
 rcases xD:lexOne (t[s.at_]::t.data.toList.drop (s.at_+1)) with _|⟨wd,rr⟩
 ·rw [xD] at hs
  cases hs
 rw [xD] at hs
 cases hs
 have:=(fw xD).2
 simp [takeS]
 omega
theorem LxRun.of_go{t:qB}: ∀(n:Nat) (s:LxS) (l:List Tok),s.at_<=t.size->lexGo n (t.data.toList.drop s.at_) s.line s.toks= .inr l->LxRun t s l
 |0,s,l,_,h=>by simp [lexGo] at h
 |n+1,s,l,zt,h=>by
  rcases (by omega:s.at_=t.size\/s.at_<t.size) with h1|h1
  ·have e:t.data.toList.drop s.at_=[]:=List.drop_eq_nil_of_le (by rw [h1];exact Nat.le_of_eq zam)
   rw [e] at h
   simp only [lexGo,Sum.inr.injEq] at h
   rw [<-h]
   exact .stop h1
  ·have hc:=cP h1
   have yl: ∀s':LxS,lxNext t s=some s'->s'.at_<=t.size->lexGo n (t.data.toList.drop s'.at_) s'.line s'.toks= .inr l->LxRun t s l:=fun s' h2 h3 h4=> .go h1 h2 (LxRun.of_go n s' l h3 h4)
   have hx:lxNext t s=lxNext t s:=rfl
   unfold lxNext at yl
   rw [hc] at yl h
   simp only [lexGo] at h yl
   by_cases g1:t[s.at_]=10
   ·simp only [g1,if_true] at h yl
    exact yl _ rfl (by simp only [];omega) (by simpa using h)
   simp only [g1,if_false] at h yl
   by_cases g2:t[s.at_]=32
   ·simp only [g2,if_true] at h yl
    exact yl _ rfl (by simp only [];omega) (by simpa using h)
   simp only [g2,if_false] at h yl
   rcases xD:lexOne (t[s.at_]::t.data.toList.drop (s.at_+1)) with _|⟨wd,rr⟩
   ·rw [xD] at h
    cases h
   rw [xD] at h yl
   simp only at h yl
   have hw:=(fw xD).1
   have hl:t.data.toList.length=t.size:=zam
   have xd:wd.length+rr.length=t.size-s.at_:=by
    have:=congrArg List.length hw
    rw [<-hc,zaO,List.length_drop,hl] at this
    exact this
   have Bk:t.data.toList.drop (s.at_+wd.length)=rr:=by
    rw [<-List.drop_drop,hc,<-hw]
    simp
   have AQ:(⟨wd.toArray⟩:qB)=subT t s.at_ wd.length:=by
    apply WideShapes.bytes_inj
    have:=eV t s.at_ wd.length
    rw [hc,<-hw] at this
    simp at this
    simp [this]
   refine yl _ rfl (by simp [takeS];omega) ?_
   simp only [takeS]
   rw [Bk,<-AQ]
   exact h
theorem eZ{w:qW}{k i:Nat}{cs:Array qV}{t:TypeId}{z:Nat×Nat}{v:qV}(h:w.heap[k]?=some (.cells cs t z))(hv:cs[i]?=some v):w.setCell ⟨k,i,none⟩ v=w:=by
 obtain ⟨hk,e⟩:=Array.getElem?_eq_some_iff.1 h
 obtain ⟨hi,e2⟩:=Array.getElem?_eq_some_iff.1 hv
 have:(w.setCell ⟨k,i,none⟩ v).heap=w.heap:=by
  apply Array.ext_getElem?
  intro j
  by_cases hj:j=k
  ·subst hj
   rw [aJ h,h]
   have:cs.setIfInBounds i v=cs:=by
    apply Array.ext_getElem?
    intro j
    rw [zaT]
    by_cases Ao:i=j
    ·subst Ao
     simp [hi,e2]
    ·simp [Ao]
   rw [this]
  ·rw [zas _ _ _ _ hj]
 unfold World.setCell at*
 simp only at this
 rw [this]
theorem u5{w:qW}{B B' n s:Nat}{e:TypeId}{v:qV}{xs:List qV}(h:w.ownsRow B e s v n xs)(hb:B'<=B):w.ownsRow B' e s v n xs:=by
 refine ⟨h.1,?_⟩
 rcases h.2 with h1|⟨g,cap,cur,h1,h2,h3⟩
 ·exact .inl h1
 ·exact .inr ⟨g,cap,cur,h1,zal hb h2,h3⟩
theorem fG{B C:Nat}{w W W':qW}(hB:Below B w W)(h:Below C W W')(hC:B<=C:=by omega):Below B w W':=
 ⟨h.os.trans hB.os,h.tape.trans hB.tape,h.output.trans hB.output,zal hB.size h.size,fun k hk=>(h.block k Za).trans (hB.block k hk)⟩
theorem pz(t:qB)(l:List Tok)(h:lexAll t= .inr l)(w:qW):
  qC 36 #[.string t] w fun e w'=> ∃a c,e= .returned (.tuple #[.slice a l.length c,.agg #[iI 0,iI 0]])/\Below w.heap.size w w'/\w'.ownsRow w.heap.size 119 2 (.slice a l.length c) l.length (l.flatMap tkC):=by
 unfold lexAll at h
 split at h
 ·cases h
 rename_i hsz
 split at h
 ·cases h
 rename_i l' Fq
 cases h
 have hr:=Zh (LxRun.of_go _ ⟨0,1,[]⟩ _ (zaB _) (by simpa using Fq))
 have HN:=Zh (fun (C:Nat) (s s':LxS) W (h:LxAt W C t s) h1 h2=>wU (s:=s) (s':=s') (C:=C) (t:=t) W h h1 h2)
 clear Fq
 go_enter Tryz.func36,Tryz.ntmps36
 go_wp2_with fail
 go_loopw [] (fun wr=> ∃s:LxS,LxAt wr (w.heap.size+1) t s/\Below w.heap.size w wr/\LxRun t s l/\wr.heap[w.heap.size]?=some (.cells #[iI 0,iI 0] 34 (0,0))) (fun wr=>t.size-(match wr.cell? ⟨w.heap.size+1,1,none⟩ with|some v=>(intOf v).toNat|none=>0))
 case atStart=>
  refine ⟨⟨0,1,[]⟩,⟨⟨.slice none 0 0,?_,zaX _ _ _ _⟩,zaB _,by omega,by simp,by simp⟩,ab (ab (zaa _ _) _) _,hr.out,?_⟩
  ·have:=zab (w.alloc (.cells #[iI 0,iI 0] 34)) (.cells #[.string t,iI 0,iI 1,.slice none 0 0] 180)
   simpa using this
  ·rw [zac _ _ Zg]
   exact zab _ _
 case round=>
  obtain ⟨s,hS,hB,wY,hF⟩:=hrel
  obtain ⟨v,g1,g2⟩:=hS.lies
  have hc:=aa g1
  have c1:wr.cell? ⟨w.heap.size+1,1,none⟩=some (iI s.at_):=hc 1
  have HB:=Zh hB
  have HF:=Zh hF
  have HS:=Zh hS
  have zt:=hS.le
  cases wY with
  |stop xk=>
   have c3:wr.cell? ⟨w.heap.size+1,3,none⟩=some v:=hc 3
   have G2:=Zh g2
   have d0:=aa hF
   have d1:=ah hF
   have hne: ¬w.heap.size+1=w.heap.size:=by omega
   have xe:=ac hF
   have xE:=ac g1
   clear hS hB hF g1 g2 hc
   rw [xk] at c1
   have z0:wr.setCell ⟨w.heap.size,0,none⟩ (iI 0)=wr:=eZ HF.out rfl
   have z1:wr.setCell ⟨w.heap.size,1,none⟩ (iI 0)=wr:=eZ HF.out rfl
   have e0:wr.cell? (aB w.heap.size 0)=some (iI 0):=d0 0
   have e1:wr.cell? (aB w.heap.size 1)=some (iI 0):=d0 1
   go_wp2
   (try simp only [Exit.inBlock,Exit.then]);refine zad (by simp [results,Tryz.results36,go_sem,↓IntWalk.iteOmega,e0,e1];try rfl) rfl ?_
   obtain ⟨a,c,rfl⟩: ∃a c,v= .slice a s.toks.length c:=by
    rcases G2.out.2 with ⟨rfl,h0⟩|⟨g,cap,cur,rfl, -⟩
    ·exact ⟨none,0,by rw [h0]⟩
    ·exact ⟨_,_,rfl⟩
   exact ⟨a,c,rfl,HB.out,u5 G2.out Za⟩
  |go xe hs k=>
   have xE:=ia xe hs
   have K:=Zh k
   have SS:=Zh hs
   have hC:=ac g1
   clear hS hB hF g1 g2 hc k hs
   go_wp2_with (go_at_call 64;refine (HN.out _ _ _ _ HS.out xe SS.out).mono ?_;rintro e w1 ⟨rfl,yG,yI⟩;have z9:=Zh yG;have yP:=Zh yI;clear yG yI)
   have hL:=z9.out
   obtain ⟨v',g3, -⟩:=hL.lies
   have q1:w1.cell? ⟨w.heap.size+1,1,none⟩=some (iI (_:Int)):=aa g3 1
   refine ⟨⟨_,hL,fG HB.out yP.out,K.out,(yP.out.block _ Za).trans HF.out⟩,?_⟩
   rw [q1,c1]
   have:=hL.le
   simp [intOf]
   omega
theorem kB{P:Nat}{pe:PE}{s:PS}(w:qW)(h:PAt w P s)(d:Int)(r:PlaceD×PS)(hr:pPlace pe d s=some r):
  qC 70 #[pP P,iI d] w fun e w'=>e= .returned (.agg #[.string r.1.var,.slice none 0 0])/\Kp (·=P) w w'/\PAt w' P r.2/\r.1.parts=[]:=by
 have HC:=Zh (At.begin h)
 have xe:=h.lt
 clear h
 unfold pPlace at hr
 cases hb:pBad (pName s).2
 ·simp only [hb] at hr
  cases h1:(pIs (⟨#[46]⟩:qB) (pName s).2).1
  ·cases h2:(pIs (⟨#[91]⟩:qB) (pName s).2).1
   ·simp only [h1,h2] at hr
    have HR:=Zh hr
    clear hr
    go_enter Tryz.func70,Tryz.ntmps70
    go_wp2_with (first|(go_at_call 24;refine (fe _ (At.pt (w:=w) Zf)).mono ?_;rintro e w1 ⟨rfl,hT,hP⟩;replace HC:=Zh (At.next (w:=w) Zf hT hP);clear hP;(try (replace V1:=Zh (Has.same ZI hT)));(try (replace V2:=Zh (Has.same ZJ hT)));(try (replace V3:=Zh (Has.same ZK hT)));(try (replace HV:=Zh (ExAt.same ZE hT)));(try (replace yx:=Zh (ExAt.same ZH hT)));(try (replace HO:=Zh (ai ZL hT (fun g1 xy=>by (try simp only []);simp [Value.ownBlock] at xy;omega))));have hs:=HC.out.kp.size;have hm:=Kp.size hT;(try simp only [Zz] at hm);(repeat ((first|(with_reducible obtain ⟨hx,hy,hT⟩:=hT.peel)|(with_reducible obtain ⟨hx,hy,hT⟩:=hT.peelA));(try simp only [Zz] at hx hy);rw [hx];clear hx));(repeat (clear hT))))
    refine zao 1 ?_;rw [zap]
    go_wp2_with (first|(go_at_call 37;refine (bF _ (At.pt (w:=w) Zf)).mono ?_;rintro e w1 ⟨rfl,rfl⟩)|(go_at_call 23;refine (cB _ (At.pt (w:=w) Zf) ZB).mono ?_;rintro e w1 ⟨rfl,rfl⟩))
    have e:=HR.out
    simp only [zaY,if_false,zaA] at e
    subst e
    (try simp only [Exit.inBlock,Exit.then]);refine zad (by simp [results,Tryz.results70,go_sem,↓IntWalk.iteOmega];try rfl) rfl ?_
    suffices hC:At P w _ (pName s).2 from ⟨rfl,hC.kp,hC.pt,by simp⟩
    repeat (first|with_reducible exact HC.out|with_reducible apply At.alloc|with_reducible apply At.drew|((with_reducible apply At.own);rotate_left;omega))
   ·simp [h1,h2] at hr
  ·simp [h1] at hr
 ·simp only [hb] at hr
  have HR:=Zh hr
  clear hr
  go_enter Tryz.func70,Tryz.ntmps70
  go_wp2_with (first|(go_at_call 24;refine (fe _ (At.pt (w:=w) Zf)).mono ?_;rintro e w1 ⟨rfl,hT,hP⟩;replace HC:=Zh (At.next (w:=w) Zf hT hP);clear hP;(try (replace V1:=Zh (Has.same ZI hT)));(try (replace V2:=Zh (Has.same ZJ hT)));(try (replace V3:=Zh (Has.same ZK hT)));(try (replace HV:=Zh (ExAt.same ZE hT)));(try (replace yx:=Zh (ExAt.same ZH hT)));(try (replace HO:=Zh (ai ZL hT (fun g1 xy=>by (try simp only []);simp [Value.ownBlock] at xy;omega))));have hs:=HC.out.kp.size;have hm:=Kp.size hT;(try simp only [Zz] at hm);(repeat ((first|(with_reducible obtain ⟨hx,hy,hT⟩:=hT.peel)|(with_reducible obtain ⟨hx,hy,hT⟩:=hT.peelA));(try simp only [Zz] at hx hy);rw [hx];clear hx));(repeat (clear hT))))
  refine zao 1 ?_;rw [zap]
  go_wp2_with (first|(go_at_call 37;refine (bF _ (At.pt (w:=w) Zf)).mono ?_;rintro e w1 ⟨rfl,rfl⟩))
  have e:=HR.out
  simp only [if_true,zaA] at e
  subst e
  (try simp only [Exit.inBlock,Exit.then]);refine zad (by simp [results,Tryz.results70,go_sem,↓IntWalk.iteOmega];try rfl) rfl ?_
  suffices hC:At P w _ (pName s).2 from ⟨rfl,hC.kp,hC.pt,by simp⟩
  repeat (first|with_reducible exact HC.out|with_reducible apply At.alloc|with_reducible apply At.drew|((with_reducible apply At.own);rotate_left;omega))
theorem uO{pe:PE}{d:Int}{s:PS}{r:Ex×PS}(hr:pBinary pe d s=some r): ∃a s1 b s4 s3,pe (d+1) s=some (a,s1)/\pe (d+1) s3=some (b,s4)/\r=(.mk 3 0 (⟨#[]⟩:qB) (operator (pPeek s1)) 0 (⟨#[]⟩:qB) [] [a,b],pWant (⟨#[41]⟩:qB) s4)/\
  ((pBad s1=false/\(operator (pPeek s1)==0)=false/\s3=pNext s1)\/(pBad s1=false/\(operator (pPeek s1)==0)=true/\s3=pFail 4 s1)\/(pBad s1=true/\s1=s3)):=by
 unfold pBinary at hr
 rcases h1:pe (d+1) s with _|⟨a,s1⟩
 ·simp [h1] at hr
 simp only [h1] at hr
 cases hb:pBad s1
 ·cases ho:operator (pPeek s1)==0
  ·simp only [hb,ho,Bool.not_false,Bool.and_false,zaY,if_false,if_true] at hr
   rcases h2:pe (d+1) (pNext s1) with _|⟨b,s4⟩
   ·simp [h2] at hr
   simp only [h2,zaA] at hr
   exact ⟨a,s1,b,s4,_,rfl,h2,hr.symm,.inl ⟨hb,ho,rfl⟩⟩
  ·have hf:=gA 4 Zd s1
   simp only [hb,ho,hf,Bool.not_false,Bool.not_true,Bool.and_true,zaY,if_false,if_true] at hr
   rcases h2:pe (d+1) (pFail 4 s1) with _|⟨b,s4⟩
   ·simp [h2] at hr
   simp only [h2,zaA] at hr
   exact ⟨a,s1,b,s4,_,rfl,h2,hr.symm,.inr (.inl ⟨hb,ho,rfl⟩)⟩
 ·simp only [hb,Bool.not_true,zay,zaY,if_false] at hr
  rcases h2:pe (d+1) s1 with _|⟨b,s4⟩
  ·simp [h2] at hr
  simp only [h2,zaA] at hr
  exact ⟨a,s1,b,s4,_,rfl,h2,hr.symm,.inr (.inr ⟨hb,rfl⟩)⟩
theorem yeW{P n:Nat}{pe:PE}(HE:HEx P n pe){s:PS}(w:qW)(h:PAt w P s)(d:Int)(yZ:0<=d)(hd:d<=900)(r:Ex×PS)(hr:pBinary pe d s=some r):
  qC 116 #[pP P,iI d] w (ParX P (n+1) w r):=by
 have HX:=Zh HE
 have HC:=Zh (At.begin h)
 have xe:=h.lt
 clear h HE
 obtain ⟨a,s1,b,s4,s3,h1,h2,rfl,h3⟩:=uO hr
 have HR:=Zh h1
 have AL:=Zh h2
 clear h1 h2 hr
 have hf:=gA 4 Zd s1
 rcases h3 with ⟨hb,ho,rfl⟩|⟨hb,ho,rfl⟩|⟨hb,rfl⟩
 all_goals
  go_enter Tryz.func116,Tryz.ntmps116
  go_wp2_with ((first|(go_at_call 72;refine (HX.out _ _ _ _ (At.pt (w:=w) Zf) Za Za HR.out).mono ?_;rintro e w1 ⟨pa,pc,ka,kc,rfl,hT,hP,hv⟩;replace HC:=Zh (At.next (w:=w) Zf hT hP);clear hP;(try (replace V1:=Zh (Has.same ZI hT)));(try (replace V2:=Zh (Has.same ZJ hT)));(try (replace V3:=Zh (Has.same ZK hT)));(try (replace HV:=Zh (ExAt.same ZE hT)));(try (replace yx:=Zh (ExAt.same ZH hT)));(try (replace HO:=Zh (ai ZL hT (fun g1 xy=>by (try simp only []);simp [Value.ownBlock] at xy;omega))));have hs:=HC.out.kp.size;have hm:=Kp.size hT;(try simp only [Zz] at hm);(repeat ((first|(with_reducible obtain ⟨hx,hy,hT⟩:=hT.peel)|(with_reducible obtain ⟨hx,hy,hT⟩:=hT.peelA));(try simp only [Zz] at hx hy);rw [hx];clear hx));(repeat (clear hT));(try (have yx:=HV;clear HV));have HV:=Zh hv;clear hv;(try (replace HR:=AL;clear AL)))|(go_at_call 38;refine (ce _ (At.pt (w:=w) Zf)).mono ?_;rintro e w1 ⟨rfl,rfl⟩)|(go_at_call 181;refine (vk _ _).mono ?_;rintro e w1 ⟨rfl,rfl⟩)|(go_at_call 37;refine (bF _ (At.pt (w:=w) Zf)).mono ?_;rintro e w1 ⟨rfl,rfl⟩)|(go_at_call 39;refine (dO _ (At.pt (w:=w) Zf)).mono ?_;rintro e w1 ⟨rfl,hT,hP⟩)|(go_at_call 42;refine (dU _ (At.pt (w:=w) Zf) _ (by unfold rng;omega)).mono ?_;rintro e w1 ⟨rfl,hT,hP⟩)|(go_at_call 26;refine (cZ _ (At.pt (w:=w) Zf) _).mono ?_;rintro e w1 ⟨rfl,hT,hP⟩));(try (replace HC:=Zh (At.next (w:=w) Zf hT hP);clear hP;(try (replace V1:=Zh (Has.same ZI hT)));(try (replace V2:=Zh (Has.same ZJ hT)));(try (replace V3:=Zh (Has.same ZK hT)));(try (replace HV:=Zh (ExAt.same ZE hT)));(try (replace yx:=Zh (ExAt.same ZH hT)));(try (replace HO:=Zh (ai ZL hT (fun g1 xy=>by (try simp only []);simp [Value.ownBlock] at xy;omega))));have hs:=HC.out.kp.size;have hm:=Kp.size hT;(try simp only [Zz] at hm);(repeat ((first|(with_reducible obtain ⟨hx,hy,hT⟩:=hT.peel)|(with_reducible obtain ⟨hx,hy,hT⟩:=hT.peelA));(try simp only [Zz] at hx hy);rw [hx];clear hx));(repeat (clear hT)))))
  (try simp only [Exit.inBlock,Exit.then]);refine zad (by simp [results,Tryz.results116,go_sem,↓IntWalk.iteOmega];try rfl) rfl ?_
  have ho:=vm (pPeek s1)
  refine ⟨none,0,_,2,rfl,At.kp (w:=w) (s:=pWant (⟨#[41]⟩:qB) s4) Zf,At.pt (w:=w) Zf,?_⟩
  exact ⟨_,_,rfl,RwAt.nil _ _ _ _,ydq (ExAt.wide ZH Zc Zc) (ExAt.wide ZE Zc Zc) (by (repeat (rw [aM,if_neg Zc]));exact zab _ _) rfl rfl ⟨Zc,Zc⟩,by unfold rng;simp [Ex.kind],by simp [Ex.n],by unfold rng;simp [Ex.op];omega,by unfold rng;simp [Ex.order]⟩
end Go.Proofs.YtjmfoeajhiimnaaGreatDoor
