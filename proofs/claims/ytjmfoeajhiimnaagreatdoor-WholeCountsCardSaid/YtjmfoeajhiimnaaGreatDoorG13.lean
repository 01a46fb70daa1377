/- Walks. No condition. -/
import Derived.Lib.Space
import Derived.Shelf.Strings.Fields
import Derived.Shelf.Pu.ParseUintPublic10
import Derived.Test.YtjmfoeajhiimnaaGreatDoorProg
import Derived.Test.YtjmfoeajhiimnaaGreatDoorG12
set_option maxRecDepth 100000
set_option maxHeartbeats 0
set_option linter.all false
namespace Go.Proofs.YtjmfoeajhiimnaaGreatDoor
open Go.RowKit Go.Sort
def TokOk(t:Tok):Prop:=digits t.text=true->(∀c∈t.text.data.toList,isDig c=true)/\dval t.text.data.toList<18446744073709551616
def SpT(w:qW):Prop:= ∀c:Nat,c<256->w.cell? (aB 0 c)=some (.int .u8 (if Go.Lib.isSp (UInt8.ofNat c) then 1 else 0))
theorem SpT.block{w w':qW}(h:SpT w)(hb:w'.heap[0]?=w.heap[0]?):SpT w':=fun c hc=>by
 rw [<-h c hc]
 unfold World.cell?
 rw [hb]
theorem SpT.lt{w:qW}(h:SpT w):0<w.heap.size:=World.block_lt_of_cell? _ _ (h 0 Zd)
theorem SpT.below{w w':qW}(h:SpT w)(hb:Below w.heap.size w w'):SpT w':=h.block (hb.block _ h.lt)
structure PAt(w:qW)(P:Nat)(s:PS):Prop where
 lies: ∃v,w.heap[P]?=some (.cells #[v,iI s.line,iI s.kind] 121 (0,0))/\RwAt w (·<P) 2 TokEl v s.toks
 ne:s.toks≠[]
 ok: ∀t∈s.toks,TokOk t
 rl:rng s.line
 rk:rng s.kind
 sp:SpT w
 gp:0<P
abbrev Turned(P:Nat)(w w':qW):Prop:=Kp (·=P) w w'
theorem PAt.keep{w w':qW}{P:Nat}{s:PS}(h:PAt w P s)(hk:Kp (fun k=>P<k) w w'):PAt w' P s:=by
 obtain ⟨v,h1,h2⟩:=h.lies
 have hP:=ac h1
 exact ⟨⟨v,(hk.block P hP Za).trans h1,h2.keep hk.size (fun b hb hl=>⟨hb,hk.block b hl Za⟩) (fun _ _ _ h=>h)⟩,h.ne,h.ok,h.rl,h.rk,h.sp.block (hk.block _ h.sp.lt (by have:=h.gp;omega)),h.gp⟩
theorem PAt.mem{w:qW}{P:Nat}{s:PS}(h:PAt w P s): ∃b o c,w.heap[P]?=some (.cells #[.slice (some ⟨b,o,none⟩) s.toks.length c,iI s.line,iI s.kind] 121 (0,0))/\0<s.toks.length/\s.toks.length<=c/\c<=9223372036854775807/\b<P/\
  w.cell? (aB b o)=some (.string (pHead s).text)/\w.cell? ⟨b,o+1,none⟩=some (iI (pHead s).line)/\rng (pHead s).line/\(pHead s).text.size<=1048576/\TokOk (pHead s)/\
  RwAt w (·<P) 2 TokEl (.slice (some ⟨b,o,none⟩) s.toks.length c) s.toks:=by
 obtain ⟨⟨v,h1,h2⟩,hne,xr, -, -⟩:=h
 obtain ⟨toks,line,kind⟩:=s
 simp only at*
 match toks,hne with
 |t::l,_=>
  obtain ⟨b,o,c,rfl,g1,g2,g3,g4,cs,k1,⟨rfl,k4,k5⟩,k3⟩:=h2.head
  exact ⟨b,o,c,h1,by simp,by simpa using g1,g2,g3,by simpa [pHead] using k3 0 _ rfl,by simpa [pHead] using k3 1 _ rfl,k4,k5,xr _ (by simp [pHead]),h2⟩
theorem PAt.put{w w':qW}{P:Nat}{s s':PS}{v:qV}(h:PAt w P s)(hk:Turned P w w')(hb:w'.heap[P]?=some (.cells #[v,iI s'.line,iI s'.kind] 121 (0,0)))(hv:RwAt w (·<P) 2 TokEl v s'.toks)
  (hne:s'.toks≠[]) (xr: ∀t∈s'.toks,TokOk t) (rl:rng s'.line) (rk:rng s'.kind):PAt w' P s':=
 ⟨⟨v,hb,hv.keep hk.size (fun b hb hl=>⟨hb,hk.block b hl Za⟩) (fun _ _ _ h=>h)⟩,hne,xr,rl,rk,h.sp.block (hk.block _ h.sp.lt (by have:=h.gp;omega)),h.gp⟩
structure At(P:Nat)(w W:qW)(s:PS):Prop where
 kp:Turned P w W
 pt:PAt W P s
 lt:P<w.heap.size
theorem PAt.lt{w:qW}{P:Nat}{s:PS}(h:PAt w P s):P<w.heap.size:=by
 obtain ⟨v,h1, -⟩:=h.lies
 exact ac h1
theorem At.begin{w:qW}{P:Nat}{s:PS}(h:PAt w P s):At P w w s:=⟨Kp.refl _ _,h,h.lt⟩
theorem At.next{P:Nat}{w W W':qW}{s s':PS}(h:At P w W s)(hT:Turned P W W')(hP:PAt W' P s'):At P w W' s':=⟨h.kp.trans hT,hP,h.lt⟩
theorem At.mo{P:Nat}{w W:qW}{s:PS}(h:At P w W s)(p:Regrown):At P w (more W p) s:=⟨h.kp.trans (Kp.mo _ _),h.pt.keep (Kp.mo _ _),h.lt⟩
theorem bF{P:Nat}{s:PS}(w:qW)(h:PAt w P s):qC 37 #[pP P] w fun e w'=>e= .returned (.bool (pBad s))/\w'=w:=by
 obtain ⟨v,h1,h2⟩:=h.lies
 have hc:=aa h1
 have hk:Hid (pBad s=(s.kind !=0)):=Zh rfl
 clear h1 h2 h
 go_enter Tryz.func37,Tryz.ntmps37
 go_wp2
 go_ret
 exact ⟨by rw [hk.out];rfl,rfl⟩
theorem ce{P:Nat}{s:PS}(w:qW)(h:PAt w P s):qC 38 #[pP P] w fun e w'=>e= .returned (.string (pPeek s))/\w'=w:=by
 obtain ⟨b,o,c,h1,h2,h3,h4,h5,h6,h7, -⟩:=h.mem
 have hc:=aa h1
 have hk:Hid (pPeek s=(pHead s).text):=Zh rfl
 clear h1 h
 go_enter Tryz.func38,Tryz.ntmps38
 go_wp2
 go_ret
 exact ⟨by rw [hk.out];rfl,rfl⟩
def Par(P:Nat)(w:qW)(v:qV)(s:PS)(e:Ending)(w':qW):Prop:=e= .returned v/\Turned P w w'/\PAt w' P s
theorem dU{P:Nat}{s:PS}(w:qW)(h:PAt w P s)(k:Int)(hk:rng k):qC 42 #[pP P,iI k] w (Par P w (.tuple #[]) (pFail k s)):=by
 obtain ⟨b,o,c,h1,h2,h3,h4,h5,h6,h7,h8, -, -,h9⟩:=h.mem
 have hc:=aa h1
 have hz:=ah h1
 have HB:=Zh (fun W=>bF W (s:=s) (P:=P))
 have H:=Zh h
 have H1:=Zh h1
 have H9:=Zh h9
 clear h1 h h9
 cases hb:pBad s
 all_goals
  go_enter Tryz.func42,Tryz.ntmps42
  go_wp2_with (go_at_call 37;refine (HB.out _ H.out).mono ?_;rintro e w' ⟨rfl,rfl⟩)
  go_end0
 ·have e:pFail k s={s with line:=(pHead s).line,kind:=k}:=by simp [pFail,hb]
  rw [e]
  refine ⟨rfl,((Kp.set _ P 1 _).trans (Kp.set _ P 2 _)),H.out.put ((Kp.set _ P 1 _).trans (Kp.set _ P 2 _)) (aJ (aJ H1.out _) _) H9.out H.out.ne H.out.ok h8 hk⟩
 ·have e:pFail k s=s:=by simp [pFail,hb]
  rw [e]
  exact ⟨rfl,Kp.refl _ _,H.out⟩
theorem dO{P:Nat}{s:PS}(w:qW)(h:PAt w P s):qC 39 #[pP P] w (Par P w (.string (pPeek s)) (pNext s)):=by
 obtain ⟨b,o,c,h1,h2,h3,h4,h5,h6,h7,h8, -, -,h9⟩:=h.mem
 have hc:=aa h1
 have hz:=ah h1
 have HP:=Zh (fun W=>ce W (s:=s) (P:=P))
 have H:=Zh h
 have H1:=Zh h1
 have H9:=Zh h9
 clear h1 h h9
 rcases (by omega:1<s.toks.length\/s.toks.length<=1) with hl|hl
 all_goals
  go_enter Tryz.func39,Tryz.ntmps39
  go_wp2_with (go_at_call 38;refine (HP.out _ H.out).mono ?_;rintro e w' ⟨rfl,rfl⟩)
  go_ret
 ·have e:pNext s={s with toks:=s.toks.tail}:=by simp [pNext,hl]
  rw [e]
  refine ⟨rfl,Kp.set _ P 0 _,?_⟩
  have h0:=H.out.ne
  have h9:=H9.out
  have xr:=H.out.ok
  generalize s.toks=l at*
  match l,h0 with
  |t::l,_=>exact H.out.put (Kp.set _ P 0 _) (aJ H1.out _) h9.tail (by intro e;simp at e;subst e;simp at hl) (fun u hu=>xr u (zaK _ hu)) H.out.rl H.out.rk
 ·have e:pNext s=s:=by simp [pNext];omega
  rw [e]
  exact ⟨rfl,Kp.refl _ _,H.out⟩
theorem dl{P:Nat}{s:PS}(w:qW)(h:PAt w P s)(t:qB):qC 23 #[pP P,.string t] w (Par P w (.bool (pIs t s).1) (pIs t s).2):=by
 have HB:=Zh (fun W=>bF W (s:=s) (P:=P))
 have HP:=Zh (fun W=>ce W (s:=s) (P:=P))
 have HN:=Zh (fun W=>dO W (s:=s) (P:=P))
 have H:=Zh h
 clear h
 cases hb:pBad s
 ·cases hp:eqB (pPeek s) t
  all_goals
   have hq:=(eqS (pPeek s) t).trans hp
   go_enter Tryz.func23,Tryz.ntmps23
   go_wp2_with (first
    |(go_at_call 37;refine (HB.out _ H.out).mono ?_;rintro e w' ⟨rfl,rfl⟩)
    |(go_at_call 38;refine (HP.out _ H.out).mono ?_;rintro e w' ⟨rfl,rfl⟩)
    |(go_at_call 39;refine (HN.out _ H.out).mono ?_;rintro e w' ⟨rfl,hT,hP⟩))
   go_ret
  ·have e:pIs t s=(false,s):=by simp [pIs,hb,hp]
   rw [e]
   exact ⟨rfl,Kp.refl _ _,H.out⟩
  ·have e:pIs t s=(true,pNext s):=by simp [pIs,hb,hp]
   rw [e]
   exact ⟨rfl,hT,hP⟩
 ·have e:pIs t s=(false,s):=by simp [pIs,hb]
  rw [e]
  go_enter Tryz.func23,Tryz.ntmps23
  go_wp2_with (first
   |(go_at_call 37;refine (HB.out _ H.out).mono ?_;rintro e w' ⟨rfl,rfl⟩))
  go_ret
  exact ⟨rfl,Kp.refl _ _,H.out⟩
def kRen:Go.Shelf.Ren:=⟨fun|157=>66|229=>112|199=>113|261=>174|311=>232|312=>233|n=>n,
 fun|9=>9|31=>140|3=>3|5=>5|4=>4|119=>256|0=>0|40=>258|152=>304|21=>21|154=>306|51=>81|141=>308|196=>362|193=>359|198=>365|49=>363|194=>360|201=>368|226=>407|46=>26|227=>408|n=>n,
 fun|0=>0|6=>1|n=>n⟩
theorem kLays:Lays.n157 Tryz.prog kRen:=by constructor<;>(intros;kernel_rfl)
def uRen:Go.Shelf.Ren:=⟨fun|14=>68|16=>114|17=>115|19=>175|20=>176|21=>177|22=>178|23=>179|24=>180|25=>234|27=>236|26=>235|28=>280|29=>294|30=>298|31=>299|32=>300|33=>301|35=>275|34=>302|36=>303|37=>304|38=>305|39=>306|40=>307|n=>n,
 fun|9=>9|3=>3|22=>52|24=>185|25=>186|4=>4|34=>309|5=>5|36=>26|37=>44|0=>0|39=>311|21=>21|44=>372|47=>409|50=>412|48=>410|2=>2|52=>429|55=>431|59=>434|60=>81|20=>20|61=>435|65=>436|66=>437|67=>93|n=>n,
 fun|0=>2|1=>3|2=>5|3=>6|4=>7|n=>n⟩
theorem uLays:LaysPu.n14 Tryz.prog uRen:=by constructor<;>(intros;kernel_rfl)
theorem kN: ∀(l:List UInt8) (a:Nat),(∀c∈l,isDig c=true)->l.foldl (fun n c=>n*10+(c.toNat-48)) a<18446744073709551616->Go.Lib.parseUintM 18446744073709551615 a l= .ok (l.foldl (fun n c=>n*10+(c.toNat-48)) a)
 |[],a,_,_=>rfl
 |c::r,a,hd,hv=>by
  have hc:=hd c za3
  simp only [isDig,za0,zau] at hc
  have Gk: ∀(l:List UInt8) (a:Nat),a<=l.foldl (fun n c=>n*10+(c.toNat-48)) a:=fun l=>by
   induction l with
   |nil=>intro a;exact zaq _
   |cons x t ih=>intro a;exact zal (show a<=a*10+(x.toNat-48) by omega) (ih _)
  have FT:r.foldl (fun n c=>n*10+(c.toNat-48)) (a*10+(c.toNat-48))<18446744073709551616:=hv
  have h1:=Gk r (a*10+(c.toNat-48))
  show Go.Lib.parseUintM _ a (c::r)= .ok (r.foldl (fun n c=>n*10+(c.toNat-48)) (a*10+(c.toNat-48)))
  rw [Go.Lib.parseUintM,if_pos hc,if_neg Za,if_neg Za]
  exact kN r _ (fun x hx=>hd x (zaK _ hx)) FT
theorem ku(s:qB)(w:qW)(h0:digits s=true)(h: ∀c∈s.data.toList,isDig c=true)(h2:dval s.data.toList<18446744073709551616)(hz:s.size<=1048576):qC 68 #[.string s,iI 10,iI 64] w (Gives w (.tuple #[.int .u64 (dval s.data.toList),.nilIface])):=by
 have hne:s.data.toList≠[]:=fun e=>by
  unfold digits head? at h0
  rw [<-Array.getElem?_toList,e] at h0
  cases h0
 have hp:Go.Lib.parseUintB 64 s.data.toList= .ok (dval s.data.toList):=by
  rw [Go.Lib.parseUintB,if_neg hne]
  exact kN _ 0 h h2
 refine (Any.strconv_ParseUint_10_at64_ok uLays s Za _ hp w).mono fun e w' hh=>?_
 obtain ⟨rfl,rfl|rfl⟩:=hh
 ·exact Gives.mk rfl (zaa _ _)
 ·exact Gives.mk rfl (Go.Lib.bytesWorld_below w _ s)
def kText:qB:=(⟨#[118,97,114,32,116,104,114,101,97,100,32,115,116,114,117,99,116,32,117,110,105,111,110,32,112,97,99,107,101,100,32,117,56,32,117,49,54,32,117,51,50,32,117,54,52,32,97,56,32,97,49,54,32,97,51,50,32,97,54,52,32,97,49,50,56,32,108,101,116,32,115,101,116,32,119,114,105,116,101,32,115,116,111,114,101,32,108,111,97,100,50,32,115,116,111,114,101,50,32,102,101,110,99,101,32,105,102,32,101,108,115,101,32,119,104,105,108,101,32,112,114,105,110,116,32,114,101,97,100,32,108,111,97,100,32,97,100,100,32,115,119,97,112,32,99,97,115,32,114,108,120,32,97,99,113,32,114,101,108,32,115,99]⟩:qB)
theorem ya3:kText.data.toList.all (fun b=>decide (b.toNat<128))=true:=by kernel_rfl
theorem ya1:(Go.Lib.fields kText.data.toList).map (fun l=>Value.string ⟨l.toArray⟩)=kwList.map Value.string:=by kernel_rfl
theorem ya2:(Go.Lib.fields kText.data.toList).length=kwList.length:=by kernel_rfl
theorem ydh(s:qB)(hs:s=kText)(w:qW)(hT:SpT w):qC 66 #[.string s] w fun e w'=>
  e= .returned (.slice (aA w.heap.size) kwList.length kwList.length)/\w'=w.alloc (.cells (kwList.map Value.string).toArray 9):=by
 subst hs
 have h:=Any.strings_Fields_core kLays Zb kText w Zd (fun j b hb=>of_decide_eq_true (List.all_eq_true.1 ya3 b (zat hb))) hT
 rw [ya1,ya2] at h
 exact h
theorem yb5(l:List qB)(s:qB)(A:Nat)(hl:l.length<=1000000)(w:qW)(h: ∀j x,l[j]?=some x->w.cell? (aB A j)=some (.string x)):
  qC 111 #[.slice (aA A) l.length l.length,.string s] w fun e w'=>w'=w/\ ∃r:Int,e= .returned (iI r)/\decide (0<=r)=l.any (fun t=>eqB t s):=by
 have HC:=Zh h
 clear h
 go_enter Tryz.func111,Tryz.ntmps111
 go_wp2_with fail
 go_loopw [8] (fun v8 wr=>wr=w/\ ∃j:Nat,v8=iI j/\j<=l.length/\(l.take j).any (fun t=>eqB t s)=false) (fun v8 _=>l.length-(intOf v8).toNat)
 case atStart=>exact ⟨rfl,0,rfl,by omega,rfl⟩
 case round=>
  obtain ⟨rfl,j,rfl,hj,xW⟩:=hrel
  have HN:=Zh xW
  clear xW
  by_cases zh:j<l.length
  ·obtain ⟨x,hx⟩: ∃x,l[j]?=some x:=⟨l[j],zaC zh⟩
   have Oz:(j:Int)<l.length:=by omega
   have hc:=HC.out j x hx
   have HX:=Zh hx
   clear hx
   have hq:=eqS s x
   cases he:eqB x s
   ·have hne:eqB s x=false:=by
     rw [eqB,decide_eq_false_iff_not] at he ⊢
     exact fun e=>he e.symm
    rw [hne] at hq
    have HE:=Zh he
    clear he hne
    go_wp2_with fail
    refine ⟨⟨trivial,j+1,rfl,by omega,?_⟩,by simp [intOf];omega⟩
    rw [zaz,List.any_append,HN.out,HX.out]
    simpa using HE.out
   ·have hne:eqB s x=true:=by
     rw [eqB,zau] at he ⊢
     exact he.symm
    rw [hne] at hq
    have HE:=Zh he
    clear he hne
    go_wp2_with fail
    go_ret
    refine ⟨rfl,_,rfl,?_⟩
    rw [zaw Za]
    exact (List.any_eq_true.2 ⟨x,zat HX.out,HE.out⟩).symm
  ·obtain rfl:j=l.length:=by omega
   have Oz: ¬(l.length:Int)<l.length:=by omega
   go_wp2_with fail
   go_ret
   refine ⟨rfl,_,rfl,?_⟩
   have:=HN.out
   rw [List.take_length] at this
   rw [this]
   rfl
theorem yed(l:List qB)(s:qB)(A:Nat)(hl:l.length<=1000000)(w:qW)(h: ∀j x,l[j]?=some x->w.cell? (aB A j)=some (.string x)):
  qC 65 #[.slice (aA A) l.length l.length,.string s] w fun e w'=>w'=w/\e= .returned (.bool (l.any (fun t=>eqB t s))):=by
 have CI:=Zh (yb5 l s A hl w h)
 clear h
 go_enter Tryz.func65,Tryz.ntmps65
 go_wp2_with fail
 refine CI.out.mono ?_
 rintro e w1 ⟨rfl,r,rfl,hr⟩
 have HR:=Zh hr
 clear hr
 go_wp2_with fail
 go_ret
 exact ⟨rfl,by rw [<-HR.out];rfl⟩
theorem dP(s:qB)(w:qW)(hT:SpT w):qC 41 #[.string s] w (Gives w (.bool (keyw s))):=by
 have CF:=Zh (fun t ht=>ydh t ht w hT)
 have CC:=Zh (yed kwList s w.heap.size Zd (w.alloc (.cells (kwList.map Value.string).toArray 9)) (fun j x hx=>by
  rw [World.cell?_alloc_at _ _ _ _ rfl,List.getElem?_toArray,zaj,hx]
  rfl))
 clear hT
 go_enter Tryz.func41,Tryz.ntmps41
 go_wp2_with fail
 refine (CF.out _ Zb).mono ?_
 rintro e w1 ⟨rfl,rfl⟩
 go_wp2_with fail
 refine CC.out.mono ?_
 rintro e w1 ⟨rfl,rfl⟩
 go_wp2_with fail
 go_ret
 exact Gives.mk rfl (ab (zaa _ _) _)
theorem PAt.mo{w:qW}{P:Nat}{s:PS}(h:PAt w P s)(p:Regrown):PAt (more w p) P s:=h.keep (Kp.mo _ _)
theorem gk:rng 4:=by unfold rng;omega
theorem sR:rng 9:=by unfold rng;omega
theorem cZ{P:Nat}{s:PS}(w:qW)(h:PAt w P s)(t:qB):qC 26 #[pP P,.string t] w (Par P w (.tuple #[]) (pWant t s)):=by
 have HB:=Zh (fun W=>bF W (s:=s) (P:=P))
 have HI:=Zh (fun W h=>dl W (s:=s) (P:=P) h t)
 have HF:=Zh (fun W h=>dU W (s:=(pIs t s).2) (P:=P) h 4 gk)
 have H:=Zh h
 clear h
 cases hb:pBad s
 ·cases hp:(pIs t s).1
  all_goals
   go_enter Tryz.func26,Tryz.ntmps26
   go_wp2_with (first
    |(go_at_call 37;refine (HB.out _ H.out).mono ?_;rintro e w' ⟨rfl,rfl⟩)
    |(go_at_call 23;refine (HI.out _ H.out).mono ?_;rintro e w1 ⟨rfl,hT,hP⟩;have HT:=Zh hT;have HP:=Zh hP;clear hT hP)
    |(go_at_call 42;refine (HF.out _ HP.out).mono ?_;rintro e w2 ⟨rfl,hT,hP⟩;have yT:=Zh hT;have zZ:=Zh hP;clear hT hP))
   go_end0
  ·have e:pWant t s=pFail 4 (pIs t s).2:=by simp [pWant,hb,hp]
   rw [e]
   exact ⟨rfl,HT.out.trans yT.out,zZ.out⟩
  ·have e:pWant t s=(pIs t s).2:=by simp [pWant,hb,hp]
   rw [e]
   exact ⟨rfl,HT.out,HP.out⟩
 ·have e:pWant t s=s:=by simp [pWant,hb]
  rw [e]
  go_enter Tryz.func26,Tryz.ntmps26
  go_wp2_with (go_at_call 37;refine (HB.out _ H.out).mono ?_;rintro e w' ⟨rfl,rfl⟩)
  go_end0
  exact ⟨rfl,Kp.refl _ _,H.out⟩
theorem mu{s:qB}(h:0<s.size):head? s=some s[0]:=by
 unfold head?
 rw [zav (show 0<s.data.size from h)]
 rfl
theorem nh{s:qB}(h:0<s.size):s.toList.isEmpty=false:=by
 rw [ByteArray.toList_eq,List.isEmpty_eq_false_iff]
 intro e
 have:s.data.size=0:=by rw [<-zam,e];rfl
 have:s.size=0:=this
 omega
theorem nf{s:qB}(h: ¬0<s.size):s.toList.isEmpty=true:=by
 rw [ByteArray.toList_eq,List.isEmpty_iff]
 exact List.eq_nil_of_length_eq_zero (by have:s.size=s.data.toList.length:=Array.length_toList.symm;omega)
theorem ms{s:qB}(h: ¬0<s.size):head? s=none:=by
 unfold head?
 exact zaW (by have:s.size=s.data.size:=rfl;omega)
theorem eA(s:qB)(w:qW):qC 40 #[.string s] w fun e w'=>e= .returned (.bool (letters s))/\w'=w:=by
 by_cases h0:0<s.size
 ·have he:=nh h0
  have HL:=Zh (show letters s=(decide (97<=s[0].toNat)&&decide (s[0].toNat<=122)) by simp only [letters,mu h0];rfl)
  rcases (by omega:s[0].toNat<97\/97<=s[0].toNat) with ha|ha
  all_goals
   go_enter Tryz.func40,Tryz.ntmps40
   go_wp2
   go_ret
   refine ⟨?_,rfl⟩
   rw [HL.out]
   simp
   try omega
   try (rw [Bool.eq_iff_iff];simp;omega)
 ·have he:=nf h0
  have HL:=Zh (show letters s=false by simp only [letters,ms h0])
  go_enter Tryz.func40,Tryz.ntmps40
  go_wp2
  go_ret
  exact ⟨by rw [HL.out];rfl,rfl⟩
theorem dV(s:qB)(w:qW):qC 67 #[.string s] w fun e w'=>e= .returned (.bool (digits s))/\w'=w:=by
 by_cases h0:0<s.size
 ·have he:=nh h0
  have HL:=Zh (show digits s=(decide (48<=s[0].toNat)&&decide (s[0].toNat<=57)) by simp only [digits,mu h0];rfl)
  rcases (by omega:s[0].toNat<48\/48<=s[0].toNat) with ha|ha
  all_goals
   go_enter Tryz.func67,Tryz.ntmps67
   go_wp2
   go_ret
   refine ⟨?_,rfl⟩
   rw [HL.out]
   simp
   try omega
   try (rw [Bool.eq_iff_iff];simp;omega)
 ·have he:=nf h0
  have HL:=Zh (show digits s=false by simp only [digits,ms h0])
  go_enter Tryz.func67,Tryz.ntmps67
  go_wp2
  go_ret
  exact ⟨by rw [HL.out];rfl,rfl⟩
theorem fe{P:Nat}{s:PS}(w:qW)(h:PAt w P s):qC 24 #[pP P] w (Par P w (.string (pName s).1) (pName s).2):=by
 have HB:=Zh (fun W=>bF W (s:=s) (P:=P))
 have HP:=Zh (fun W=>ce W (s:=s) (P:=P))
 have HN:=Zh (fun W=>dO W (s:=s) (P:=P))
 have HF:=Zh (fun W h=>dU W (s:=s) (P:=P) h 4 gk)
 have H:=Zh h
 clear h
 cases hb:pBad s
 ·cases hl:letters (pPeek s)
  ·have e:pName s=((⟨#[]⟩:qB),pFail 4 s):=by simp [pName,hl]
   rw [e]
   go_enter Tryz.func24,Tryz.ntmps24
   go_wp2_with (first
    |(go_at_call 37;refine (HB.out _ H.out).mono ?_;rintro e w' ⟨rfl,rfl⟩)
    |(go_at_call 38;refine (HP.out _ H.out).mono ?_;rintro e w' ⟨rfl,rfl⟩)
    |(go_at_call 40;refine (eA _ _).mono ?_;rintro e w' ⟨rfl,rfl⟩)
    |(go_at_call 42;refine (HF.out _ H.out).mono ?_;rintro e w2 ⟨rfl,hT,hP⟩;have yT:=Zh hT;have zZ:=Zh hP;clear hT hP))
   go_ret
   exact ⟨rfl,yT.out,zZ.out⟩
  ·cases hk:keyw (pPeek s)
   all_goals
    go_enter Tryz.func24,Tryz.ntmps24
    go_wp2_with (first
     |(go_at_call 37;refine (HB.out _ H.out).mono ?_;rintro e w' ⟨rfl,rfl⟩)
     |(go_at_call 38;refine (HP.out _ H.out).mono ?_;rintro e w' ⟨rfl,rfl⟩)
     |(go_at_call 40;refine (eA _ _).mono ?_;rintro e w' ⟨rfl,rfl⟩)
     |(go_at_call 41;refine (dP _ _ H.out.sp).mono ?_;rintro e w' ⟨rfl,p,rfl⟩)
     |(go_at_call 42;refine (HF.out _ (H.out.mo p)).mono ?_;rintro e w2 ⟨rfl,hT,hP⟩;have yT:=Zh hT;have zZ:=Zh hP;clear hT hP)
     |(go_at_call 39;refine (HN.out _ (H.out.mo p)).mono ?_;rintro e w2 ⟨rfl,hT,hP⟩;have yT:=Zh hT;have zZ:=Zh hP;clear hT hP))
    go_ret
   ·have e:pName s=(pPeek s,pNext s):=by simp [pName,hb,hl,hk]
    rw [e]
    exact ⟨rfl,(Kp.mo _ _).trans yT.out,zZ.out⟩
   ·have e:pName s=((⟨#[]⟩:qB),pFail 4 s):=by simp [pName,hk]
    rw [e]
    exact ⟨rfl,(Kp.mo _ _).trans yT.out,zZ.out⟩
 ·have e:pName s=((⟨#[]⟩:qB),pFail 4 s):=by simp [pName,hb]
  rw [e]
  go_enter Tryz.func24,Tryz.ntmps24
  go_wp2_with (first
   |(go_at_call 37;refine (HB.out _ H.out).mono ?_;rintro e w' ⟨rfl,rfl⟩)
   |(go_at_call 42;refine (HF.out _ H.out).mono ?_;rintro e w2 ⟨rfl,hT,hP⟩;have yT:=Zh hT;have zZ:=Zh hP;clear hT hP))
  go_ret
  exact ⟨rfl,yT.out,zZ.out⟩
theorem ue{P:Nat}{s:PS}(w:qW)(h:PAt w P s)(most:Nat):qC 46 #[pP P,.int .u64 most] w (Par P w (.int .u64 (pNumber most s).1) (pNumber most s).2):=by
 have HB:=Zh (fun W=>bF W (s:=s) (P:=P))
 have HP:=Zh (fun W=>ce W (s:=s) (P:=P))
 have HN:=Zh (fun W=>dO W (s:=s) (P:=P))
 have Nr:=Zh (fun W h=>dU W (s:=s) (P:=P) h 4 gk)
 have Qv:=Zh (fun W h=>dU W (s:=s) (P:=P) h 9 sR)
 have H:=Zh h
 clear h
 cases hb:pBad s
 ·cases hl:digits (pPeek s)
  ·have e:pNumber most s=(0,pFail 4 s):=by simp [pNumber,hl]
   rw [e]
   go_enter Tryz.func46,Tryz.ntmps46
   go_wp2_with (first
    |(go_at_call 37;refine (HB.out _ H.out).mono ?_;rintro e w' ⟨rfl,rfl⟩)
    |(go_at_call 38;refine (HP.out _ H.out).mono ?_;rintro e w' ⟨rfl,rfl⟩)
    |(go_at_call 67;refine (dV _ _).mono ?_;rintro e w' ⟨rfl,rfl⟩)
    |(go_at_call 42;refine (Nr.out _ H.out).mono ?_;rintro e w2 ⟨rfl,hT,hP⟩;have yT:=Zh hT;have zZ:=Zh hP;clear hT hP))
   go_ret
   exact ⟨rfl,yT.out,zZ.out⟩
  ·have HK:Hid (TokOk (pHead s)):=by obtain ⟨b,o,c, -, -, -, -, -, -, -, -, -,h, -⟩:=H.out.mem;exact Zh h
   have HZ:Hid ((pPeek s).size<=1048576):=by obtain ⟨b,o,c, -, -, -, -, -, -, -, -,h, -⟩:=H.out.mem;exact Zh h
   have HU:=Zh (fun W=>ku (pPeek s) W hl (HK.out hl).1 (HK.out hl).2 HZ.out)
   generalize hd:dval (pPeek s).data.toList=m at HU
   have HD:=Zh hd
   clear hd
   rcases (by omega:most<m\/m<=most) with hm|hm
   all_goals
    go_enter Tryz.func46,Tryz.ntmps46
    go_wp2_with (first
     |(go_at_call 37;refine (HB.out _ H.out).mono ?_;rintro e w' ⟨rfl,rfl⟩)
     |(go_at_call 38;refine (HP.out _ H.out).mono ?_;rintro e w' ⟨rfl,rfl⟩)
     |(go_at_call 67;refine (dV _ _).mono ?_;rintro e w' ⟨rfl,rfl⟩)
     |(go_at_call 68;refine (HU.out _).mono ?_;rintro e w' ⟨rfl,p,rfl⟩)
     |(go_at_call 42;refine (Qv.out _ (H.out.mo p)).mono ?_;rintro e w2 ⟨rfl,hT,hP⟩;have yT:=Zh hT;have zZ:=Zh hP;clear hT hP)
     |(go_at_call 39;refine (HN.out _ (H.out.mo p)).mono ?_;rintro e w2 ⟨rfl,hT,hP⟩;have yT:=Zh hT;have zZ:=Zh hP;clear hT hP))
    go_ret
   ·have e:pNumber most s=(0,pFail 9 s):=by simp [pNumber,hb,hl,HD.out,hm]
    rw [e]
    exact ⟨rfl,(Kp.mo _ _).trans yT.out,zZ.out⟩
   ·have e:pNumber most s=(m,pNext s):=by simp [pNumber,hb,hl,HD.out,show¬most<m by omega]
    rw [e]
    exact ⟨rfl,(Kp.mo _ _).trans yT.out,zZ.out⟩
 ·have e:pNumber most s=(0,pFail 4 s):=by simp [pNumber,hb]
  rw [e]
  go_enter Tryz.func46,Tryz.ntmps46
  go_wp2_with (first
   |(go_at_call 37;refine (HB.out _ H.out).mono ?_;rintro e w' ⟨rfl,rfl⟩)
   |(go_at_call 42;refine (Nr.out _ H.out).mono ?_;rintro e w2 ⟨rfl,hT,hP⟩;have yT:=Zh hT;have zZ:=Zh hP;clear hT hP))
  go_ret
  exact ⟨rfl,yT.out,zZ.out⟩
theorem eW:(Tryz.prog.info? 9).map (fun i=>(i.zero,i.size,i.bytes))=some (some (.string ⟨#[]⟩),1,16):=by kernel_rfl
theorem vk(s:qB)(w:qW):qC 181 #[.string s] w fun e w'=>e= .returned (iI (operator s))/\w'=w:=by
 obtain ⟨i0,hi,xx,xu,xq⟩:=zan eW
 have ix:=fun cs hn k h0 h1 w=>f9 (P:=Tryz.prog) Tryz.underlying374 Tryz.underlying9 hi xu cs hn k h0 h1 w
 have HX:=Zh hi
 clear hi xx xu xq
 go_enter Tryz.func181,Tryz.ntmps181
 go_wp2
 refine zao 12 ?_
 iterate 12 (all_goals (try (rw [zap];go_wp2)))
 all_goals
  go_ret
  refine ⟨?_,rfl⟩
  simp [operator,look,operW,List.find?_cons,eqR, *]
theorem kP{t:qB}{s:PS}(h:(pIs t s).1=false):pIs t s=(false,s):=by
 unfold pIs at*
 split
 ·rfl
 ·split<;>simp_all
theorem vh{s:PS}(h:pBad s=true):pOrder s=(0,s):=by simp [pOrder,h]
theorem ybP{s:PS}(h:pBad s=true)(t:qB):(pIs t s).1=false:=by simp [pIs,h]
theorem cB{P:Nat}{s:PS}(w:qW)(h:PAt w P s){t:qB}(hn:(pIs t s).1=false):qC 23 #[pP P,.string t] w fun e w'=>e= .returned (.bool false)/\w'=w:=by
 have HC:=Zh (At.begin h)
 clear h
 cases hb:pBad s
 ·cases hp:eqB (pPeek s) t
  ·have hq:=(eqS (pPeek s) t).trans hp
   clear hn
   go_enter Tryz.func23,Tryz.ntmps23
   go_wp2_with (first|(go_at_call 37;refine (bF _ HC.out.pt).mono ?_;rintro e w1 ⟨rfl,rfl⟩)|(go_at_call 38;refine (ce _ HC.out.pt).mono ?_;rintro e w1 ⟨rfl,rfl⟩))
   go_ret
   exact ⟨rfl,rfl⟩
  ·simp [pIs,hb,hp] at hn
 ·clear hn
  go_enter Tryz.func23,Tryz.ntmps23
  go_wp2_with (first|(go_at_call 37;refine (bF _ HC.out.pt).mono ?_;rintro e w1 ⟨rfl,rfl⟩))
  go_ret
  exact ⟨rfl,rfl⟩
theorem ybO{s:PS}(hb:pBad s=false)(t:qB):(pIs t s).1=eqB (pPeek s) t:=by
 unfold pIs
 rw [hb]
 cases h:eqB (pPeek s) t<;>simp
theorem di{P:Nat}{s:PS}(w:qW)(h:PAt w P s){t:qB}(hn:(pIs t s).1=true):qC 23 #[pP P,.string t] w (Par P w (.bool true) (pNext s)):=by
 have:=dl w h t
 have e:pIs t s=(true,pNext s):=by
  unfold pIs at*
  split
  ·simp_all
  ·split<;>simp_all
 rw [e] at this
 exact this
theorem kY(s:PS):((pIs (⟨#[114,108,120]⟩:qB) s).1=true/\Hid (pOrder s=(1,pNext s)))\/((pIs (⟨#[114,108,120]⟩:qB) s).1=false/\(pIs (⟨#[97,99,113]⟩:qB) s).1=true/\Hid (pOrder s=(2,pNext s)))\/((pIs (⟨#[114,108,120]⟩:qB) s).1=false/\(pIs (⟨#[97,99,113]⟩:qB) s).1=false/\(pIs (⟨#[114,101,108]⟩:qB) s).1=true/\Hid (pOrder s=(3,pNext s)))\/
  ((pIs (⟨#[114,108,120]⟩:qB) s).1=false/\(pIs (⟨#[97,99,113]⟩:qB) s).1=false/\(pIs (⟨#[114,101,108]⟩:qB) s).1=false/\(pIs (⟨#[115,99]⟩:qB) s).1=true/\Hid (pOrder s=(4,pNext s)))\/((pIs (⟨#[114,108,120]⟩:qB) s).1=false/\(pIs (⟨#[97,99,113]⟩:qB) s).1=false/\(pIs (⟨#[114,101,108]⟩:qB) s).1=false/\(pIs (⟨#[115,99]⟩:qB) s).1=false/\Hid (pOrder s=(0,pFail 4 s))):=by
 cases hb:pBad s
 ·have hI:=ybO hb
  have e:pOrder s=match look ordW (pPeek s) with|some k=>(k,pNext s)|none=>(0,pFail 4 s):=by unfold pOrder;rw [hb];rfl
  rw [hI,hI,hI,hI,e]
  have q: ∀l:List UInt8,eqB ⟨l.toArray⟩ (pPeek s)=eqB (pPeek s) ⟨l.toArray⟩:=fun l=>by rw [eqB,eqB,decide_eq_decide];exact eq_comm
  simp only [look,ordW,List.find?_cons,q]
  cases eqB (pPeek s) (⟨#[114,108,120]⟩:qB)
  ·cases eqB (pPeek s) (⟨#[97,99,113]⟩:qB)
   ·cases eqB (pPeek s) (⟨#[114,101,108]⟩:qB)
    ·cases eqB (pPeek s) (⟨#[115,99]⟩:qB)<;>simp [Hid]
    ·simp [Hid]
   ·simp [Hid]
  ·simp [Hid]
 ·have hI:=ybP hb
  simp [hI,vh hb,pFail,hb,Hid]
theorem t7{P:Nat}{s:PS}(w:qW)(h:PAt w P s):qC 71 #[pP P] w (Par P w (iI (pOrder s).1) (pOrder s).2):=by
 obtain ⟨i0,hi,xx,xu,xq⟩:=zan eW
 have ix:=fun cs hn k h0 h1 w=>f9 (P:=Tryz.prog) Tryz.underlying262 Tryz.underlying9 hi xu cs hn k h0 h1 w
 have HX:=Zh hi
 clear hi xx xu xq
 have HC:=Zh (At.begin h)
 clear h
 rcases kY s with ⟨h1,HE⟩|⟨h1,h2,HE⟩|⟨h1,h2,h3,HE⟩|⟨h1,h2,h3,h4,HE⟩|⟨h1,h2,h3,h4,HE⟩
 all_goals
  go_enter Tryz.func71,Tryz.ntmps71
  go_wp2
  refine zao 5 ?_
  iterate 5 (try (rw [zap];go_wp2_with (first|(go_at_call 23;refine (cB _ HC.out.pt ZB).mono ?_;rintro e w1 ⟨rfl,rfl⟩)|(go_at_call 23;refine (di _ HC.out.pt ZB).mono ?_;rintro e w1 ⟨rfl,hT,hP⟩;replace HC:=Zh (HC.out.next hT hP);clear hT hP)|(go_at_call 42;refine (dU _ HC.out.pt _ (by unfold rng;omega)).mono ?_;rintro e w1 ⟨rfl,hT,hP⟩;replace HC:=Zh (HC.out.next hT hP);clear hT hP))))
  go_ret
  rw [HE.out]
  exact ⟨rfl,HC.out.kp,HC.out.pt⟩
end Go.Proofs.YtjmfoeajhiimnaaGreatDoor
