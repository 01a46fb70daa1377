/- Walks. No condition. -/
import Derived.Laws.RangeAny
import Derived.Test.YtcekjfmfcefjpaaGreatDoorProg
import Derived.Test.YtcekjfmfcefjpaaGreatDoorG02
set_option maxRecDepth 100000
set_option maxHeartbeats 0
set_option linter.all false
namespace Go.Proofs.YtcekjfmfcefjpaaGreatDoor
open Go.RowKit Go.Sort
def ltrB(c:Int):Bool:=decide (97<=c)&&decide (c<=122)
def okC(c:Int):Bool:=ltrB c||c==95||(decide (48<=c)&&decide (c<=57))
def byteAt(s:qB)(i:Nat):Nat:=if h:i<s.size then (s[i]'h).toNat else 0
def nameB(s:qB):Bool:=decide (1<=s.size/\s.size<=16)&&(ltrB (byteAt s 0)&&(List.range s.size).all (fun i=>okC (byteAt s i)))
theorem nE(s:qB)(i:Nat)(h:i<s.size):byteAt s i=(s[i]'h).toNat:=by unfold byteAt;rw [dif_pos h]
theorem lr(s:qB)(i:Nat)(h:i<s.size)(hc:okC (byteAt s i)=false):nameB s=false:=by
 unfold nameB
 have:(List.range s.size).all (fun i=>okC (byteAt s i))=false:=by
  rw [List.all_eq_false]
  exact ⟨i,List.mem_range.2 h,by simpa using hc⟩
 rw [this];simp
theorem vX(s:qB)(h1:1<=s.size)(h2:s.size<=16)(h3:ltrB (byteAt s 0)=true)(h: ∀i,i<s.size->okC (byteAt s i)=true):nameB s=true:=by
 unfold nameB
 have:(List.range s.size).all (fun i=>okC (byteAt s i))=true:=List.all_eq_true.2 fun i hi=>h i (List.mem_range.1 hi)
 rw [this,h3,zaw ⟨h1,h2⟩];rfl
theorem cG{a b:Bool}(h:a=b):Ending.returned (.bool a)= .returned (.bool b):=by rw [h]
theorem gX(c:Int)(w:qW):qC 141 #[.int .i32 c] w fun e w'=>e= .returned (.bool (ltrB c))/\w=w':=by
 by_cases h1:97<=c
 ·by_cases h2:c<=122
  ·have H:Hid (ltrB c=true):=by unfold ltrB;rw [zaw h1,zaw h2];exact Zh rfl
   go_enter Tryz.func141,Tryz.ntmps141
   go_wp2
   go_ret
   exact ⟨cG (by rw [H.out]),rfl⟩
  ·have H:Hid (ltrB c=false):=by unfold ltrB;rw [zax h2,Bool.and_false];exact Zh rfl
   go_enter Tryz.func141,Tryz.ntmps141
   go_wp2
   go_ret
   exact ⟨cG (by rw [H.out]<;>simp<;>omega),rfl⟩
 ·have H:Hid (ltrB c=false):=by unfold ltrB;rw [zax h1,zay];exact Zh rfl
  go_enter Tryz.func141,Tryz.ntmps141
  go_wp2
  go_ret
  exact ⟨cG (by rw [H.out]<;>simp<;>omega),rfl⟩
theorem iG(w:qW)(s:qB)(pos:Nat):Below w.heap.size w (w.iter s pos):=ab (zaa _ _) _
theorem uP(s:qB)(pos:Nat)(h:pos<s.size):okC ((Utf8.decode s pos).1:Nat)=okC (byteAt s pos)/\(okC (byteAt s pos)=true->(Utf8.decode s pos).2=1):=by
 rw [nE s pos h]
 by_cases ha:(s[pos]'h).toNat<128
 ·rw [decode_ascii s pos h ha]
  exact ⟨rfl,fun _=>rfl⟩
 ·have h1:=(decode_high s pos h Za).1
  have f: ∀n:Nat,128<=n->okC (n:Int)=false:=fun n hn=>by
   unfold okC ltrB
   rw [zax (show¬(n:Int)<=122 by omega),zax (show¬(n:Int)<=57 by omega),show ((n:Int)==95)=false by simp;omega]
   simp
  rw [f _ h1,f _ Za]
  exact ⟨rfl,fun h=>by cases h⟩
theorem lp(s:qB)(hs:s.size<=9223372036854775807)(w:qW):qC 102 #[.string s] w (Gives w (.bool (nameB s))):=by
 by_cases h1:s.size<1
 ·have H:Hid (nameB s=false):=by unfold nameB;rw [zax Za];exact Zh rfl
  go_enter Tryz.func102,Tryz.ntmps102
  go_wp2_with fail
  go_ret
  exact Gives.mk (cG (by rw [H.out])) (zaa _ _)
 by_cases h2:16<s.size
 ·have H:Hid (nameB s=false):=by unfold nameB;rw [zax Za];exact Zh rfl
  have h3: ¬s.size<1:=h1
  go_enter Tryz.func102,Tryz.ntmps102
  go_wp2_with fail
  go_ret
  exact Gives.mk (cG (by rw [H.out])) (zaa _ _)
 have h0:0<s.size:=by omega
 have hb:=nE s 0 h0
 cases hl:ltrB (byteAt s 0)
 ·have H:Hid (nameB s=false):=by unfold nameB;rw [hl];simp [Hid]
  rw [hb] at hl
  have N0:(s[0]'h0).toNat<256:=(s[0]'h0).toNat_lt
  have L:=gX ((s[0]'h0).toNat:Int)
  rw [hl] at L
  have HL:=Zh L
  clear L hl hb
  go_enter Tryz.func102,Tryz.ntmps102
  go_wp2_with (go_at_call 141;refine (HL.out _).mono ?_;rintro e w1 ⟨rfl,rfl⟩)
  go_ret
  exact Gives.mk (cG (by rw [H.out])) (zaa _ _)
 ·have CG:=Zh hl
  rw [hb] at hl
  have N0:(s[0]'h0).toNat<256:=(s[0]'h0).toNat_lt
  have L:=gX ((s[0]'h0).toNat:Int)
  rw [hl] at L
  have HL:=Zh L
  clear L hl hb
  go_enter Tryz.func102,Tryz.ntmps102
  go_wp2_with (go_at_call 141;refine (HL.out _).mono ?_;rintro e w1 ⟨rfl,rfl⟩)
  go_loopw [4] (fun _ w'=> ∃pos:Nat,w'=w.iter s pos/\(∀i,i<pos->okC (byteAt s i)=true)) (fun _ w'=>s.size-w'.iterPos w.heap.size)
  case atStart=>exact ⟨0,rfl,fun i hi=>by omega⟩
  case round=>
   obtain ⟨pos,rfl,xp⟩:=hrel
   by_cases hp:pos<s.size
   ·have DT: ∀ty,(Instr.next (pP w.heap.size) true ty).run Tryz.prog (w.iter s pos)=_:=fun ty=>run_next_any w s pos ty hp
    obtain ⟨zE,yt⟩:=uP s pos hp
    generalize hR:(Utf8.decode s pos).1=R at*
    generalize hW:(Utf8.decode s pos).2=W at*
    clear hR hW
    have L2:=gX (R:Int)
    cases wY:ltrB (R:Int)
    ·rw [wY] at L2
     have ys:=Zh L2
     clear L2
     by_cases Dr:(R:Int)=95
     ·have yc:okC (R:Int)=true:=by unfold okC;rw [Dr];rfl
      have b95:((R:Int) !=95)=false:=by simp [Dr]
      clear wY Dr
      have u':=yt (by rw [<-zE,yc])
      have HA:Hid (∀i,i<pos+1->okC (byteAt s i)=true):=Zh (fun i hi=>by
       rcases zaJ i pos with h|h
       ·exact xp i h
       ·obtain rfl:i=pos:=by omega
        rw [<-zE,yc])
      have HW:=Zh u'
      clear yc xp zE yt u'
      go_wp2_with (go_at_call 141;refine (ys.out _).mono ?_;rintro e w1 ⟨rfl,rfl⟩)
      go_roundw
      case rel=>exact ⟨pos+1,by rw [HW.out],HA.out⟩
      case measure=>rw [HW.out];simp;omega
     ·have b95:((R:Int) !=95)=true:=by simpa using Dr
      by_cases MN:(48:Int)<=R
      ·by_cases MM:(R:Int)<=57
       ·have yc:okC (R:Int)=true:=by unfold okC;rw [zaw MN,zaw MM];simp
        clear wY Dr
        have u':=yt (by rw [<-zE,yc])
        have HA:Hid (∀i,i<pos+1->okC (byteAt s i)=true):=Zh (fun i hi=>by
         rcases zaJ i pos with h|h
         ·exact xp i h
         ·obtain rfl:i=pos:=by omega
          rw [<-zE,yc])
        have HW:=Zh u'
        clear yc xp zE yt u'
        go_wp2_with (go_at_call 141;refine (ys.out _).mono ?_;rintro e w1 ⟨rfl,rfl⟩)
        go_roundw
        case rel=>exact ⟨pos+1,by rw [HW.out],HA.out⟩
        case measure=>rw [HW.out];simp;omega
       ·have yc:okC (R:Int)=false:=by unfold okC;rw [wY,zax MM,show ((R:Int)==95)=false by simpa using Dr];simp
        clear wY Dr
        have H:Hid (nameB s=false):=Zh (lr s pos hp (by rw [<-zE,yc]))
        clear yc xp zE yt
        go_wp2_with (go_at_call 141;refine (ys.out _).mono ?_;rintro e w1 ⟨rfl,rfl⟩)
        go_ret
        exact Gives.mk (cG (by rw [H.out])) (iG _ _ _)
      ·have yc:okC (R:Int)=false:=by unfold okC;rw [wY,zax MN,show ((R:Int)==95)=false by simpa using Dr];simp
       clear wY Dr
       have H:Hid (nameB s=false):=Zh (lr s pos hp (by rw [<-zE,yc]))
       clear yc xp zE yt
       go_wp2_with (go_at_call 141;refine (ys.out _).mono ?_;rintro e w1 ⟨rfl,rfl⟩)
       go_ret
       exact Gives.mk (cG (by rw [H.out])) (iG _ _ _)
    ·rw [wY] at L2
     have ys:=Zh L2
     clear L2
     have yc:okC (R:Int)=true:=by unfold okC;rw [wY];rfl
     clear wY
     have u':=yt (by rw [<-zE,yc])
     have HA:Hid (∀i,i<pos+1->okC (byteAt s i)=true):=Zh (fun i hi=>by
      rcases zaJ i pos with h|h
      ·exact xp i h
      ·obtain rfl:i=pos:=by omega
       rw [<-zE,yc])
     have HW:=Zh u'
     clear yc xp zE yt u'
     go_wp2_with (go_at_call 141;refine (ys.out _).mono ?_;rintro e w1 ⟨rfl,rfl⟩)
     go_roundw
     case rel=>exact ⟨pos+1,by rw [HW.out],HA.out⟩
     case measure=>rw [HW.out];simp;omega
   ·have DT: ∀ty,(Instr.next (pP w.heap.size) true ty).run Tryz.prog (w.iter s pos)=_:=fun ty=>run_next_end w s pos ty hp
    have H:Hid (nameB s=true):=Zh (vX s Za Za CG.out (fun i hi=>xp i Za))
    clear xp
    go_wp2_with fail
    go_ret
    exact Gives.mk (cG (by rw [H.out])) (iG _ _ _)
structure FdF(α:Type) where
 name:qB
 type:α
 isBits:Bool
 width:Int
structure TyF(α:Type) where
 kind:Int
 size:Int
 packed:Bool
 fields:List (FdF α)
 count:Int
 elem:List α
def Ty:Nat->Type
 |0=>Empty
 |n+1=>TyF (Ty n)
structure Raw where
 kind:Int
 size:Int
 packed:Bool
 fa:Option Addr
 fl:Nat
 fc:Nat
 count:Int
 ea:Option Addr
 el:Nat
 ec:Nat
def rng(x:Int):Prop:= -9223372036854775808<=x/\x<=9223372036854775807
def SlIn(w:qW)(a:Option Addr)(n c:Nat)(P:Nat->Nat->Prop):Prop:=
 n<=c/\c<=9223372036854775807/\(0<n-> ∃b off,a=some ⟨b,off,none⟩/\b<w.heap.size/\P b off)
def TyAt(w:qW):(n:Nat)->Ty n->Raw->Prop
 |0,t,_=>nomatch t
 |n+1,(t:TyF (Ty n)),r=>r.kind=t.kind/\r.size=t.size/\r.packed=t.packed/\r.fl=t.fields.length/\r.count=t.count/\r.el=t.elem.length/\
   rng t.kind/\rng t.size/\rng t.count/\
   SlIn w r.fa r.fl r.fc (fun b off=> ∀i f,t.fields[i]?=some f-> ∃q:Raw,TyAt w n f.type q/\rng f.width/\f.name.size<=9223372036854775807/\
    w.cell? ⟨b,off+i*9,none⟩=some (.string f.name)/\w.cell? ⟨b,off+i*9+1,none⟩=some (iI q.kind)/\w.cell? ⟨b,off+i*9+2,none⟩=some (iI q.size)/\
    w.cell? ⟨b,off+i*9+3,none⟩=some (.bool q.packed)/\w.cell? ⟨b,off+i*9+4,none⟩=some (.slice q.fa q.fl q.fc)/\w.cell? ⟨b,off+i*9+5,none⟩=some (iI q.count)/\
    w.cell? ⟨b,off+i*9+6,none⟩=some (.slice q.ea q.el q.ec)/\w.cell? ⟨b,off+i*9+7,none⟩=some (.bool f.isBits)/\w.cell? ⟨b,off+i*9+8,none⟩=some (iI f.width))/\
   SlIn w r.ea r.el r.ec (fun b off=> ∀i e,t.elem[i]?=some e-> ∃q:Raw,TyAt w n e q/\
    w.cell? ⟨b,off+i*6,none⟩=some (iI q.kind)/\w.cell? ⟨b,off+i*6+1,none⟩=some (iI q.size)/\
    w.cell? ⟨b,off+i*6+2,none⟩=some (.bool q.packed)/\w.cell? ⟨b,off+i*6+3,none⟩=some (.slice q.fa q.fl q.fc)/\w.cell? ⟨b,off+i*6+4,none⟩=some (iI q.count)/\
    w.cell? ⟨b,off+i*6+5,none⟩=some (.slice q.ea q.el q.ec))
theorem TyAt.keep{w w':qW}(h: ∀b o,b<w.heap.size->w'.cell? ⟨b,o,none⟩=w.cell? ⟨b,o,none⟩)(hz:w.heap.size<=w'.heap.size): ∀(n:Nat) (t:Ty n) (r:Raw),TyAt w n t r->TyAt w' n t r
 |0,t,_,_=>nomatch t
 |n+1,(t:TyF (Ty n)),r,⟨h1,h2,h3,h4,h5,h6,h7,h8,h9,hf,he⟩=>by
  refine ⟨h1,h2,h3,h4,h5,h6,h7,h8,h9,⟨hf.1,hf.2.1,fun hn=>?_⟩,⟨he.1,he.2.1,fun hn=>?_⟩⟩
  ·obtain ⟨b,off,ha,hb,hc⟩:=hf.2.2 hn
   refine ⟨b,off,ha,by omega,fun i f hi=>?_⟩
   obtain ⟨q,hq,g1,g2,c0,c1,c2,c3,c4,c5,c6,c7,c8⟩:=hc i f hi
   exact ⟨q,TyAt.keep h hz n f.type q hq,g1,g2,(h _ _ hb).trans c0,(h _ _ hb).trans c1,(h _ _ hb).trans c2,(h _ _ hb).trans c3,(h _ _ hb).trans c4,(h _ _ hb).trans c5,(h _ _ hb).trans c6,(h _ _ hb).trans c7,(h _ _ hb).trans c8⟩
  ·obtain ⟨b,off,ha,hb,hc⟩:=he.2.2 hn
   refine ⟨b,off,ha,by omega,fun i f hi=>?_⟩
   obtain ⟨q,hq,c0,c1,c2,c3,c4,c5⟩:=hc i f hi
   exact ⟨q,TyAt.keep h hz n f q hq,(h _ _ hb).trans c0,(h _ _ hb).trans c1,(h _ _ hb).trans c2,(h _ _ hb).trans c3,(h _ _ hb).trans c4,(h _ _ hb).trans c5⟩
theorem TyAt.below{w w':qW}(hb:Below w.heap.size w w'){n:Nat}{t:Ty n}{r:Raw}(h:TyAt w n t r):TyAt w' n t r:=
 TyAt.keep (fun b o yF=>hb.cell (p:=⟨b,o,none⟩) yF) hb.size n t r h
end Go.Proofs.YtcekjfmfcefjpaaGreatDoor
namespace Go.Proofs.YtcekjfmfcefjpaaGreatDoor
open Go.RowKit
structure Tok where
 text:qB
 line:Int
 deriving DecidableEq,Inhabited
inductive Ex where
 |mk (kind:Int) (n:Nat) (name:qB) (op order:Int) (var:qB) (parts:List (qB×List Ex)) (kids:List Ex)
namespace Ex
def kind:Ex->Int|mk k _ _ _ _ _ _ _=>k
def n:Ex->Nat|mk _ n _ _ _ _ _ _=>n
def name:Ex->qB|mk _ _ s _ _ _ _ _=>s
def op:Ex->Int|mk _ _ _ o _ _ _ _=>o
def order:Ex->Int|mk _ _ _ _ o _ _ _=>o
def var:Ex->qB|mk _ _ _ _ _ v _ _=>v
def parts:Ex->List (qB×List Ex)|mk _ _ _ _ _ _ p _=>p
def kids:Ex->List Ex|mk _ _ _ _ _ _ _ l=>l
end Ex
abbrev PartD:=qB×List Ex
structure PlaceD where
 var:qB
 parts:List PartD
inductive Sm where
 |mk (kind line:Int) (name name2:qB) (order:Int) (var:qB) (parts:List PartD) (exprs:List Ex) (thn els:List Sm)
namespace Sm
def kind:Sm->Int|mk k _ _ _ _ _ _ _ _ _=>k
def line:Sm->Int|mk _ l _ _ _ _ _ _ _ _=>l
def name:Sm->qB|mk _ _ s _ _ _ _ _ _ _=>s
def name2:Sm->qB|mk _ _ _ s _ _ _ _ _ _=>s
def order:Sm->Int|mk _ _ _ _ o _ _ _ _ _=>o
def var:Sm->qB|mk _ _ _ _ _ v _ _ _ _=>v
def parts:Sm->List PartD|mk _ _ _ _ _ _ p _ _ _=>p
def exprs:Sm->List Ex|mk _ _ _ _ _ _ _ l _ _=>l
def thn:Sm->List Sm|mk _ _ _ _ _ _ _ _ l _=>l
def els:Sm->List Sm|mk _ _ _ _ _ _ _ _ _ l=>l
end Sm
abbrev TyL:=Ty 66
structure VarD where
 name:qB
 type:TyL
structure PrgD where
 vars:List VarD
 threads:List (List Sm)
def scTy(k s:Int):TyL:=(⟨k,s,false,[],0,[]⟩:TyF (Ty 65))
def eqB(a b:qB):Bool:=decide (a=b)
def look{α:Type}(l:List (qB×α))(s:qB):Option α:=(l.find? (fun x=>eqB x.1 s)).map Prod.snd
def kwList:List qB:=[⟨#[118,97,114]⟩,⟨#[116,104,114,101,97,100]⟩,⟨#[115,116,114,117,99,116]⟩,⟨#[117,110,105,111,110]⟩,⟨#[112,97,99,107,101,100]⟩,⟨#[117,56]⟩,⟨#[117,49,54]⟩,⟨#[117,51,50]⟩,⟨#[117,54,52]⟩,⟨#[97,56]⟩,⟨#[97,49,54]⟩,⟨#[97,51,50]⟩,⟨#[97,54,52]⟩,⟨#[97,49,50,56]⟩,⟨#[108,101,116]⟩,⟨#[115,101,116]⟩,⟨#[119,114,105,116,101]⟩,⟨#[115,116,111,114,101]⟩,⟨#[108,111,97,100,50]⟩,⟨#[115,116,111,114,101,50]⟩,⟨#[102,101,110,99,101]⟩,⟨#[105,102]⟩,⟨#[101,108,115,101]⟩,⟨#[119,104,105,108,101]⟩,⟨#[112,114,105,110,116]⟩,⟨#[114,101,97,100]⟩,⟨#[108,111,97,100]⟩,⟨#[97,100,100]⟩,⟨#[115,119,97,112]⟩,⟨#[99,97,115]⟩,⟨#[114,108,120]⟩,⟨#[97,99,113]⟩,⟨#[114,101,108]⟩,⟨#[115,99]⟩]
def keyw(s:qB):Bool:=kwList.any (fun t=>eqB t s)
def isLet(c:UInt8):Bool:=decide (97<=c.toNat)&&decide (c.toNat<=122)
def isDig(c:UInt8):Bool:=decide (48<=c.toNat)&&decide (c.toNat<=57)
def isPart(c:UInt8):Bool:=isLet c||isDig c||c==95
def dval(l:List UInt8):Nat:=l.foldl (fun n c=>n*10+(c.toNat-48)) 0
def signs:List UInt8:=[123,125,91,93,40,41,59,58,44,46,95,61,43,45,42,38,124,94,60]
def headPart:List UInt8->Bool
 |[]=>false
 |c::_=>isPart c
def lexOne(l:List UInt8):Option (List UInt8×List UInt8):=
 match l with
 |[]=>none
 |x::_=>
  if isLet x then
   let t:=l.takeWhile isPart
   if 16<t.length then none else some (t,l.drop t.length)
  else if isDig x then
   let t:=l.takeWhile isDig
   let r:=l.drop t.length
   if 18446744073709551615<dval t||(decide (1<t.length)&&x==48) then none
   else if headPart r then none
   else some (t,r)
  else
   let two:=l.take 2
   if two=[60,60]\/two=[62,62]\/two=[61,61]\/two=[33,61] then some (two,l.drop 2)
   else if signs.contains x then some ([x],l.drop 1)
   else none
def lexGo:Nat->List UInt8->Int->List Tok->Sum Int (List Tok)
 |0,_,line,_=> .inl line
 |_+1,[],_,out=> .inr out
 |n+1,x::l,line,out=>
  if x=10 then lexGo n l (line+1) out
  else if x=32 then lexGo n l line out
  else match lexOne (x::l) with
   |none=> .inl line
   |some (t,r)=>lexGo n r line (out++[⟨⟨t.toArray⟩,line⟩])
def lexAll(s:qB):Sum (Int×Int) (List Tok):=
 if 1048576<s.size then .inl (0,12)
 else match lexGo (s.size+1) s.data.toList 1 [] with
  | .inl line=> .inl (line,3)
  | .inr l=> .inr l
structure PS where
 toks:List Tok
 line:Int
 kind:Int
def pBad(s:PS):Bool:=s.kind !=0
def pHead(s:PS):Tok:=s.toks.headD default
def pPeek(s:PS):qB:=(pHead s).text
def pFail(e:Int)(s:PS):PS:=if pBad s then s else {s with line:=(pHead s).line,kind:=e}
def pNext(s:PS):PS:=if s.toks.length>1 then {s with toks:=s.toks.tail} else s
def pIs(t:qB)(s:PS):Bool×PS:=if pBad s then (false,s) else if eqB (pPeek s) t then (true,pNext s) else (false,s)
def pWant(t:qB)(s:PS):PS:=if pBad s then s else if (pIs t s).1 then (pIs t s).2 else pFail 4 (pIs t s).2
def head?(s:qB):Option UInt8:=s.data[0]?
def letters(s:qB):Bool:=match head? s with|none=>false|some c=>isLet c
def digits(s:qB):Bool:=match head? s with|none=>false|some c=>isDig c
def pName(s:PS):qB×PS:=if pBad s||!letters (pPeek s)||keyw (pPeek s) then ((⟨#[]⟩:qB),pFail 4 s) else (pPeek s,pNext s)
def pNumber(most:Nat)(s:PS):Nat×PS:=
 if pBad s||!digits (pPeek s) then (0,pFail 4 s)
 else if most<dval (pPeek s).data.toList then (0,pFail 9 s)
 else (dval (pPeek s).data.toList,pNext s)
def pDeep(depth:Int)(s:PS):Bool×PS:=
 let s1:=if 64<depth then pFail 5 s else s
 (!pBad s1,s1)
def scals:List (qB×Int×Int):=[((⟨#[117,56]⟩:qB),1,1),((⟨#[117,49,54]⟩:qB),1,2),((⟨#[117,51,50]⟩:qB),1,4),((⟨#[117,54,52]⟩:qB),1,8),((⟨#[97,56]⟩:qB),2,1),((⟨#[97,49,54]⟩:qB),2,2),((⟨#[97,51,50]⟩:qB),2,4),((⟨#[97,54,52]⟩:qB),2,8),((⟨#[97,49,50,56]⟩:qB),2,16)]
def scalar(s:qB):Option (Int×Int):=look scals s
def pTyp(depth:Int)(s:PS):Option (TyL×PS):=
 if !(pDeep depth s).1 then none
 else match scalar (pPeek (pDeep depth s).2) with
  |some (k,z)=>some (scTy k z,pNext (pDeep depth s).2)
  |none=>none
def ordW:List (qB×Int):=[((⟨#[114,108,120]⟩:qB),1),((⟨#[97,99,113]⟩:qB),2),((⟨#[114,101,108]⟩:qB),3),((⟨#[115,99]⟩:qB),4)]
def pOrder(s:PS):Int×PS:=if pBad s then (0,s) else match look ordW (pPeek s) with
 |some k=>(k,pNext s)
 |none=>(0,pFail 4 s)
def operW:List (qB×Int):=[((⟨#[43]⟩:qB),1),((⟨#[45]⟩:qB),2),((⟨#[42]⟩:qB),3),((⟨#[38]⟩:qB),4),((⟨#[124]⟩:qB),5),((⟨#[94]⟩:qB),6),((⟨#[60,60]⟩:qB),7),((⟨#[62,62]⟩:qB),8),((⟨#[61,61]⟩:qB),9),((⟨#[33,61]⟩:qB),10),((⟨#[60]⟩:qB),11)]
def operator(s:qB):Int:=(look operW s).getD 0
abbrev PE:=Int->PS->Option (Ex×PS)
def pPlace(pe:PE)(depth:Int)(s:PS):Option (PlaceD×PS):=
 if pBad (pName s).2 then some (⟨(pName s).1,[]⟩,(pName s).2)
 else if (pIs (⟨#[46]⟩:qB) (pName s).2).1 then none
 else if (pIs (⟨#[91]⟩:qB) (pName s).2).1 then none
 else some (⟨(pName s).1,[]⟩,(pName s).2)
def pBinary(pe:PE)(depth:Int)(s:PS):Option (Ex×PS):=
 match pe (depth+1) s with
 |none=>none
 |some (a,s1)=>
  let op:=operator (pPeek s1)
  let s2:=if !pBad s1&&op==0 then pFail 4 s1 else s1
  let s3:=if !pBad s2 then pNext s2 else s2
  match pe (depth+1) s3 with
  |none=>none
  |some (b,s4)=>some (.mk 3 0 (⟨#[]⟩:qB) op 0 (⟨#[]⟩:qB) [] [a,b],pWant (⟨#[41]⟩:qB) s4)
def pKids(pe:PE)(depth:Int):Nat->PS->Option (List Ex×PS)
 |0,s=>some ([],s)
 |k+1,s=>match pe (depth+1) s with
  |none=>none
  |some (a,s1)=>match pKids pe depth k s1 with
   |none=>none
   |some (l,s2)=>some (a::l,s2)
def pAccess(pe:PE)(kind:Int)(kids:Nat)(depth:Int)(s:PS):Option (Ex×PS):=
 let o:=if kind !=4 then pOrder s else (0,s)
 match pPlace pe depth o.2 with
 |none=>none
 |some (x,s1)=>match pKids pe depth kids s1 with
  |none=>none
  |some (l,s2)=>some (.mk kind 0 (⟨#[]⟩:qB) 0 o.1 x.var x.parts l,s2)
def pExprF(pe:PE)(depth:Int)(s:PS):Option (Ex×PS):=
 if !(pDeep depth s).1 then none else
 let s:=(pDeep depth s).2
 if digits (pPeek s) then some (.mk 1 (pNumber 18446744073709551615 s).1 (⟨#[]⟩:qB) 0 0 (⟨#[]⟩:qB) [] [],(pNumber 18446744073709551615 s).2)
 else if letters (pPeek s)&&!keyw (pPeek s) then some (.mk 2 0 (pPeek s) 0 0 (⟨#[]⟩:qB) [] [],pNext s)
 else if (pIs (⟨#[40]⟩:qB) s).1 then pBinary pe depth (pIs (⟨#[40]⟩:qB) s).2
 else if (pIs (⟨#[114,101,97,100]⟩:qB) s).1 then none
 else if (pIs (⟨#[108,111,97,100]⟩:qB) s).1 then none
 else if (pIs (⟨#[97,100,100]⟩:qB) s).1 then none
 else if (pIs (⟨#[115,119,97,112]⟩:qB) s).1 then pAccess pe 7 1 depth (pIs (⟨#[115,119,97,112]⟩:qB) s).2
 else none
def pExpr:Nat->PE
 |0,_,_=>none
 |n+1,depth,s=>pExprF (pExpr n) depth s
def pValue(pe:PE)(depth:Int)(s:PS):Option (Ex×PS):=pe (depth+1) (pWant (⟨#[61]⟩:qB) s)
abbrev PB:=Int->PS->Option (List Sm×PS)
def pControl(pe:PE)(pb:PB)(line:Int)(depth:Int)(s:PS):Option (Sm×PS):=
 let go (kind:Int) (s:PS):Option (Sm×PS):=
  match pe (depth+1) s with
  |none=>none
  |some (e,s1)=>match pb (depth+1) s1 with
   |none=>none
   |some (t,s2)=>
    if kind==8&&(pIs (⟨#[101,108,115,101]⟩:qB) s2).1 then match pb (depth+1) (pIs (⟨#[101,108,115,101]⟩:qB) s2).2 with
     |none=>none
     |some (u,s3)=>some (.mk kind line (⟨#[]⟩:qB) (⟨#[]⟩:qB) 0 (⟨#[]⟩:qB) [] [e] t u,s3)
    else some (.mk kind line (⟨#[]⟩:qB) (⟨#[]⟩:qB) 0 (⟨#[]⟩:qB) [] [e] t [],s2)
 if (pIs (⟨#[105,102]⟩:qB) s).1 then go 8 (pIs (⟨#[105,102]⟩:qB) s).2
 else if (pIs (⟨#[119,104,105,108,101]⟩:qB) s).1 then go 9 (pIs (⟨#[119,104,105,108,101]⟩:qB) s).2
 else some (.mk 0 line (⟨#[]⟩:qB) (⟨#[]⟩:qB) 0 (⟨#[]⟩:qB) [] [] [] [],pFail 4 s)
def pStmt(pe:PE)(pb:PB)(depth:Int)(s:PS):Option (Sm×PS):=
 let line:=(pHead s).line
 let fin (r:Sm×PS):Option (Sm×PS):=some (r.1,pWant (⟨#[59]⟩:qB) r.2)
 if (pIs (⟨#[108,101,116]⟩:qB) s).1 then
  let a:=pName (pIs (⟨#[108,101,116]⟩:qB) s).2
  match pValue pe depth a.2 with
  |none=>none
  |some (e,s1)=>fin (.mk 1 line a.1 (⟨#[]⟩:qB) 0 (⟨#[]⟩:qB) [] [e] [] [],s1)
 else if (pIs (⟨#[115,101,116]⟩:qB) s).1 then
  let a:=pName (pIs (⟨#[115,101,116]⟩:qB) s).2
  match pValue pe depth a.2 with
  |none=>none
  |some (e,s1)=>fin (.mk 2 line a.1 (⟨#[]⟩:qB) 0 (⟨#[]⟩:qB) [] [e] [] [],s1)
 else if (pIs (⟨#[119,114,105,116,101]⟩:qB) s).1 then
  match pPlace pe depth (pIs (⟨#[119,114,105,116,101]⟩:qB) s).2 with
  |none=>none
  |some (x,s1)=>match pValue pe depth s1 with
   |none=>none
   |some (e,s2)=>fin (.mk 3 line (⟨#[]⟩:qB) (⟨#[]⟩:qB) 0 x.var x.parts [e] [] [],s2)
 else if (pIs (⟨#[115,116,111,114,101]⟩:qB) s).1 then none
 else if (pIs (⟨#[108,111,97,100,50]⟩:qB) s).1 then none
 else if (pIs (⟨#[115,116,111,114,101,50]⟩:qB) s).1 then none
 else if (pIs (⟨#[102,101,110,99,101]⟩:qB) s).1 then
  let o:=pOrder (pIs (⟨#[102,101,110,99,101]⟩:qB) s).2
  fin (.mk 7 line (⟨#[]⟩:qB) (⟨#[]⟩:qB) o.1 (⟨#[]⟩:qB) [] [] [] [],o.2)
 else if (pIs (⟨#[112,114,105,110,116]⟩:qB) s).1 then none
 else pControl pe pb line depth s
def pStmts(st:PS->Option (Sm×PS)):Nat->PS->List Sm->Option (List Sm×PS)
 |0,_,_=>none
 |k+1,s,out=>
  if pBad s then some (out,s)
  else if (pIs (⟨#[125]⟩:qB) s).1 then some (out,(pIs (⟨#[125]⟩:qB) s).2)
  else if 1000000<=out.length then none
  else match st s with
   |none=>none
   |some (x,s1)=>pStmts st k s1 (out++[x])
def pBlockF(pe:PE)(pb:PB)(depth:Int)(s:PS):Option (List Sm×PS):=
 if !(pDeep depth s).1 then none else
 let s:=pWant (⟨#[123]⟩:qB) (pDeep depth s).2
 pStmts (pStmt pe pb depth) (s.toks.length+1) s []
def pBlock(pe:PE):Nat->PB
 |0,_,_=>none
 |n+1,depth,s=>pBlockF pe (pBlock pe n) depth s
def pVars:Nat->PS->List VarD->Option (List VarD×PS)
 |0,_,_=>none
 |k+1,s,out=>
  if (pIs (⟨#[118,97,114]⟩:qB) s).1 then
   if 1000000<=out.length then none else
   let a:=pName (pIs (⟨#[118,97,114]⟩:qB) s).2
   match pTyp 1 a.2 with
   |none=>none
   |some (t,s1)=>pVars k (pWant (⟨#[59]⟩:qB) s1) (out++[⟨a.1,t⟩])
  else some (out,s)
def pThreads(pb:PB):Nat->PS->List (List Sm)->Option (List (List Sm)×PS)
 |0,_,_=>none
 |k+1,s,out=>
  if (pIs (⟨#[116,104,114,101,97,100]⟩:qB) s).1 then
   if 1000000<=out.length then none else
   match pb 1 (pIs (⟨#[116,104,114,101,97,100]⟩:qB) s).2 with
   |none=>none
   |some (t,s1)=>pThreads pb k s1 (out++[t])
  else some (out,s)
def pEnd(s:PS):PS:=if !pBad s&&decide (s.toks.length>1) then pFail 4 s else s
def pBegin(l:List Tok):PS:=⟨l++[⟨(⟨#[]⟩:qB),(l.getLast?.map Tok.line).getD 0⟩],0,0⟩
def noPrg:PrgD:=⟨[],[]⟩
def pProg(s:qB):Option (PrgD×Int×Int):=
 match lexAll s with
 | .inl f=>some (noPrg,f)
 | .inr l=>
  let s0:=pBegin l
  match pVars (s0.toks.length+1) s0 [] with
  |none=>none
  |some (vs,s1)=>match pThreads (pBlock (pExpr 66) 66) (s1.toks.length+1) s1 [] with
   |none=>none
   |some (ts,s2)=>
    let s3:=pEnd s2
    if s3.kind !=0 then some (noPrg,s3.line,s3.kind) else some (⟨vs,ts⟩,0,0)
def cOrder(k o:Int):Bool:=
 if k=4\/k=6 then decide (o=1)||decide (o=3)||decide (o=4)
 else if k=5\/k=15 then decide (o=1)||decide (o=2)||decide (o=4)
 else if k=16\/k=17\/k=18 then decide (1<=o)&&decide (o<=4)
 else if k=7 then decide (2<=o)&&decide (o<=4)
 else decide (o=0)
def findV(vars:List VarD)(s:qB):Option VarD:=vars.find? (fun v=>eqB v.name s)
def tyKind(t:TyL):Int:=(t:TyF (Ty 65)).kind
def tySize(t:TyL):Int:=(t:TyF (Ty 65)).size
def SoundF(n:Nat)(t:TyL):Int:=if (tyKind t=1\/tyKind t=2)/\(tySize t=1\/tySize t=2\/tySize t=4\/tySize t=8) then 0 else 1
def cFits(k:Int)(t:TyL):Bool:=
 if k=3\/k=14 then decide (tyKind t=1)
 else if k=5\/k=6 then decide (tyKind t=2)&&decide (tySize t=16)
 else decide (tyKind t=2)&&decide (tySize t<=8)
def plOk(vars:List VarD)(k:Int)(var:qB)(parts:List PartD):Bool:=
 parts.isEmpty&&match findV vars var with
 |none=>false
 |some v=>decide (SoundF 66 v.type=0)&&cFits k v.type
def cEmpty(var:qB)(parts:List PartD):Bool:=eqB var (⟨#[]⟩:qB)&&parts.isEmpty
def cKids(k:Int):Nat:=if k=3 then 2 else if k=6\/k=7 then 1 else if k=8 then 2 else 0
def cFormed(e:Ex):Bool:=
 decide (1<=e.kind)&&decide (e.kind<=8)&&(decide (e.kind=1)||decide (e.n=0))&&(decide (e.kind=2)||eqB e.name (⟨#[]⟩:qB))&&
 ((decide (e.kind=3)&&decide (1<=e.op)&&decide (e.op<=11))||(!decide (e.kind=3)&&decide (e.op=0)))&&
 (decide (4<=e.kind)||cEmpty e.var e.parts)&&decide (e.kids.length=cKids e.kind)
def cThere(loc:List qB)(x:qB):Bool:=loc.any (fun t=>eqB t x)
def xOk(vars:List VarD)(loc:List qB):Nat->Ex->Int->Bool
 |0,_,_=>false
 |n+1,e,d=>decide (d<=64)&&cFormed e&&cOrder (10+e.kind) e.order&&(!decide (e.kind=2)||cThere loc e.name)&&(!decide (4<=e.kind)||plOk vars (10+e.kind) e.var e.parts)&&e.kids.all (fun x=>xOk vars loc n x (d+1))
def cForm(x:Sm):Bool:=
 decide (1<=x.kind)&&decide (x.kind<=10)&&(decide (x.kind=1)||decide (x.kind=2)||decide (x.kind=5)||eqB x.name (⟨#[]⟩:qB))&&(decide (x.kind=5)||eqB x.name2 (⟨#[]⟩:qB))&&
 (decide (x.kind=3)||decide (x.kind=4)||decide (x.kind=5)||decide (x.kind=6)||cEmpty x.var x.parts)&&
 decide (x.exprs.length=if x.kind=6 then 2 else if x.kind=5\/x.kind=7 then 0 else 1)&&
 (decide (x.kind=8)||decide (x.kind=9)||x.thn.isEmpty)&&(decide (x.kind=8)||x.els.isEmpty)
abbrev CSt:=List qB×Int
def cSeq(f:Sm->CSt->Option CSt):List Sm->CSt->Option CSt
 |[],s=>some s
 |x::l,s=>match f x s with
  |none=>none
  |some s1=>cSeq f l s1
def cBlock(f:Sm->CSt->Option CSt)(l:List Sm)(s:CSt):Option CSt:=(cSeq f l s).map (fun s1=>(s1.1.take s.1.length,s1.2))
def cHead(vars:List VarD)(x:Sm)(s:CSt):Bool:=
 if x.kind=1 then nameB x.name&&!keyw x.name&&!cThere s.1 x.name&&decide (s.2<40)
 else if x.kind=2 then cThere s.1 x.name
 else if 3<=x.kind/\x.kind<=6 then plOk vars x.kind x.var x.parts
 else true
def cTail(x:Sm)(s:CSt):Option CSt:=
 if x.kind=1 then some (s.1++[x.name],s.2+1)
 else if x.kind=2\/x.kind=3\/x.kind=7\/x.kind=8\/x.kind=9 then some s
 else none
def cStmt(vars:List VarD):Nat->Sm->Int->CSt->Option CSt
 |0,_,_,_=>none
 |n+1,x,d,s=>
  if !(decide (d<=64)&&cForm x&&cOrder x.kind x.order&&cHead vars x s&&x.exprs.all (fun e=>xOk vars s.1 66 e (d+1))) then none
  else match cTail x s with
  |none=>none
  |some s1=>match cBlock (fun y s=>cStmt vars n y (d+1) s) x.thn s1 with
   |none=>none
   |some s2=>cBlock (fun y s=>cStmt vars n y (d+1) s) x.els s2
structure OpD where
 kind:Int
 dst:Int:= -1
 dst2:Int:= -1
 a:Int:= -1
 b:Int:= -1
 c:Int:= -1
 n:Nat:=0
 op:Int:=0
 size:Int:=0
 order:Int:=0
 to:Int:=0
 site:Int:=0
 line:Int:=0
 deriving DecidableEq,Inhabited
structure AcD where
 kind:Int
 order:Int
 line:Int
 var:qB
 parts:List PartD
structure GlD where
 name:qB
 at_:Int
 len:Int
 deriving DecidableEq,Inhabited
structure LS where
 ops:List OpD
 regs:Int
 labels:Int
 sites:List AcD
 line:Int
 locals:List (qB×Int)
def lAdd(o:OpD)(s:LS):LS:={s with ops:=s.ops++[{o with line:=s.line}]}
def lFresh(s:LS):LS:={s with regs:=s.regs+1}
def lNumber(n:Nat)(s:LS):Int×LS:=(s.regs,lAdd {kind:=1,dst:=s.regs,n:=n} (lFresh s))
def lBin(op a b:Int)(s:LS):Int×LS:=(s.regs,lAdd {kind:=3,dst:=s.regs,op:=op,a:=a,b:=b} (lFresh s))
def lFind(s:LS)(x:qB):Option Int:=(s.locals.find? (fun l=>eqB l.1 x)).map Prod.snd
def lSite(k o:Int)(var:qB)(parts:List PartD)(s:LS):Int×LS:=((s.sites.length:Int)+1,{s with sites:=s.sites++[⟨k,o,s.line,var,parts⟩]})
def lSpot(gl:List GlD)(var:qB)(parts:List PartD):Option (Int×Int):=
 if parts.isEmpty then (gl.find? (fun g=>eqB g.name var)).map (fun g=>(g.at_,g.len)) else none
def oneP(sp:Int×Int):Bool:=(decide (sp.2=1)||decide (sp.2=2)||decide (sp.2=4)||decide (sp.2=8))&&decide (0<=sp.1)&&decide (sp.1%sp.2=0)
def lAll(f:Ex->LS->Option (Int×LS)):List Ex->LS->Option (List Int×LS)
 |[],s=>some ([],s)
 |x::l,s=>match f x s with
  |none=>none
  |some (v,s1)=>match lAll f l s1 with
   |none=>none
   |some (r,s2)=>some (v::r,s2)
def lRead(sp:Int×Int)(var:qB)(parts:List PartD)(s:LS):Option (Int×LS):=
 if !oneP sp then none else
 let a:=lNumber sp.1.toNat s
 let t:=lSite 14 0 var parts a.2
 some (t.2.regs,lAdd {kind:=4,dst:=t.2.regs,a:=a.1,n:=0,size:=sp.2,site:=t.1} (lFresh t.2))
def lAtomic(e:Ex)(sp:Int×Int)(kids:List Int)(s:LS):Option (Int×LS):=
 let o:Option OpD:=
  if e.kind=5 then none
  else if e.kind=6\/e.kind=7 then (match kids with|[x]=>some {kind:=e.kind+2,b:=x}|_=>none)
  else if e.kind=8 then none
  else none
 match o with
 |none=>none
 |some o=>
  let a:=lNumber sp.1.toNat s
  let r:=a.2.regs
  let t:=lSite (10+e.kind) e.order e.var e.parts (lFresh a.2)
  some (r,lAdd {o with a:=a.1,dst:=r,size:=sp.2,order:=e.order,site:=t.1} t.2)
def lExpr(gl:List GlD):Nat->Ex->LS->Option (Int×LS)
 |0,_,_=>none
 |n+1,e,s=>
  if e.kind=1 then some (lNumber e.n s)
  else if e.kind=2 then (lFind s e.name).map (fun r=>(r,s))
  else if e.kind=3 then (match e.kids with
   |[x,y]=>(match lExpr gl n x s with
    |none=>none
    |some (a,s1)=>match lExpr gl n y s1 with
     |none=>none
     |some (b,s2)=>some (lBin e.op a b s2))
   |_=>none)
  else if e.kind=4 then none
  else match lSpot gl e.var e.parts with
   |none=>none
   |some sp=>match lAll (fun x s=>lExpr gl n x s) e.kids s with
    |none=>none
    |some (l,s1)=>lAtomic e sp l s1
def lSet(reg x:Int)(s:LS):LS:=lAdd {kind:=2,dst:=reg,a:=x} s
def lLabel(s:LS):LS:={s with labels:=s.labels+1}
def lMark(n:Int)(s:LS):LS:=lAdd {kind:=14,to:=n} s
def lJump(to reg:Int)(s:LS):LS:=if reg= -1 then lAdd {kind:=15,to:=to} s else lAdd {kind:=16,a:=reg,to:=to} s
def lSeq(f:Sm->LS->Option LS):List Sm->LS->Option LS
 |[],s=>some s
 |x::l,s=>match f x {s with line:=x.line} with
  |none=>none
  |some s1=>lSeq f l s1
def lBlock(f:Sm->LS->Option LS)(l:List Sm)(s:LS):Option LS:=(lSeq f l s).map (fun s1=>{s1 with locals:=s1.locals.take s.locals.length})
def lOne(gl:List GlD)(l:List Ex)(s:LS)(f:Int->LS->Option LS):Option LS:=match l with
 |[e]=>(match lExpr gl 66 e s with
  |none=>none
  |some (v,s1)=>f v s1)
 |_=>none
def lLet(gl:List GlD)(x:Sm)(s:LS):Option LS:=lOne gl x.exprs s (fun v s1=>some {lSet s1.regs v (lFresh s1) with locals:=s1.locals++[(x.name,s1.regs)]})
def lSetS(gl:List GlD)(x:Sm)(s:LS):Option LS:=lOne gl x.exprs s (fun v s1=>(lFind s1 x.name).map (fun r=>lSet r v s1))
def lPut(o:OpD)(k order:Int)(sp:Int×Int)(var:qB)(parts:List PartD)(s:LS):LS:=
 let a:=lNumber sp.1.toNat s
 let t:=lSite k order var parts a.2
 lAdd {o with a:=a.1,size:=sp.2,order:=order,site:=t.1} t.2
def lWrite(gl:List GlD)(x:Sm)(s:LS):Option LS:=match lSpot gl x.var x.parts with
 |none=>none
 |some sp=>if !oneP sp then none else lOne gl x.exprs s (fun v s1=>some (lPut {kind:=5,b:=v} 3 0 sp x.var x.parts s1))
def lStore(gl:List GlD)(x:Sm)(s:LS):Option LS:=match lSpot gl x.var x.parts with
 |none=>none
 |some sp=>lOne gl x.exprs s (fun v s1=>some (lPut {kind:=7,b:=v} 4 x.order sp x.var x.parts s1))
def lFence(x:Sm)(s:LS):LS:=
 let t:=lSite 7 x.order (⟨#[]⟩:qB) [] s
 lAdd {kind:=13,order:=x.order,site:=t.1} t.2
def lIf(gl:List GlD)(bl:List Sm->LS->Option LS)(x:Sm)(s:LS):Option LS:=lOne gl x.exprs (lLabel (lLabel s)) (fun v s1=>match bl x.thn (lJump (s.labels+1) v s1) with
 |none=>none
 |some s2=>match bl x.els (lMark (s.labels+1) (lJump (s.labels+2) (-1) {s2 with line:=x.line})) with
  |none=>none
  |some s4=>some (lMark (s.labels+2) {s4 with line:=x.line}))
def lWhile(gl:List GlD)(bl:List Sm->LS->Option LS)(x:Sm)(s:LS):Option LS:=lOne gl x.exprs (lMark (s.labels+1) (lLabel (lLabel s))) (fun v s1=>match bl x.thn (lJump (s.labels+2) v s1) with
 |none=>none
 |some s2=>some (lMark (s.labels+2) (lJump (s.labels+1) (-1) {s2 with line:=x.line})))
def lPrint(gl:List GlD)(x:Sm)(s:LS):Option LS:=lOne gl x.exprs s (fun v s1=>some (lAdd {kind:=18,a:=v} s1))
def lStmt(gl:List GlD):Nat->Sm->LS->Option LS
 |0,_,_=>none
 |n+1,x,s=>
  if x.kind=1 then lLet gl x s
  else if x.kind=2 then lSetS gl x s
  else if x.kind=3 then lWrite gl x s
  else if x.kind=4 then none
  else if x.kind=5 then none
  else if x.kind=6 then none
  else if x.kind=7 then some (lFence x s)
  else if x.kind=8 then lIf gl (fun l s=>lBlock (fun y s=>lStmt gl n y s) l s) x s
  else if x.kind=9 then lWhile gl (fun l s=>lBlock (fun y s=>lStmt gl n y s) l s) x s
  else if x.kind=10 then none
  else none
def lThread(gl:List GlD)(t:List Sm):Option (List OpD×Int):=
 match lBlock (fun y s=>lStmt gl 66 y s) t ⟨[],0,0,[],0,[]⟩ with
 |none=>none
 |some s=>if 16384<s.ops.length\/20000<s.regs\/20000<s.labels\/20000<s.sites.length then none else some (s.ops,s.regs)
end Go.Proofs.YtcekjfmfcefjpaaGreatDoor
