/- Walks. No condition. -/
import Derived.Laws.AppendOwn
import Derived.Handy
import Derived.Test.YtjmfoeajhiimnaaGreatDoorG11
set_option maxRecDepth 100000
set_option maxHeartbeats 0
set_option linter.all false
namespace Go.Proofs.YtjmfoeajhiimnaaGreatDoor
section
open Go.RowKit
structure Tok where
 text:qB
 line:Int
 deriving DecidableEq,Inhabited
inductive Ex where
 |mk (kind:Int) (n:Nat) (name:qB) (op order:Int) (var:qB) (parts:List (qB×List Ex)) (kids:List Ex)
namespace Ex
def kind:Ex->Int|mk k _ _ _ _ _ _ _=>k
def n:Ex->Nat|mk _ n _ _ _ _ _ _=>n
def name:Ex->qB|mk _ _ s _ _ _ _ _=>s
def op:Ex->Int|mk _ _ _ o _ _ _ _=>o
def order:Ex->Int|mk _ _ _ _ o _ _ _=>o
def var:Ex->qB|mk _ _ _ _ _ v _ _=>v
def parts:Ex->List (qB×List Ex)|mk _ _ _ _ _ _ p _=>p
def kids:Ex->List Ex|mk _ _ _ _ _ _ _ l=>l
end Ex
abbrev PartD:=qB×List Ex
structure PlaceD where
 var:qB
 parts:List PartD
inductive Sm where
 |mk (kind line:Int) (name name2:qB) (order:Int) (var:qB) (parts:List PartD) (exprs:List Ex) (thn els:List Sm)
namespace Sm
def kind:Sm->Int|mk k _ _ _ _ _ _ _ _ _=>k
def line:Sm->Int|mk _ l _ _ _ _ _ _ _ _=>l
def name:Sm->qB|mk _ _ s _ _ _ _ _ _ _=>s
def name2:Sm->qB|mk _ _ _ s _ _ _ _ _ _=>s
def order:Sm->Int|mk _ _ _ _ o _ _ _ _ _=>o
def var:Sm->qB|mk _ _ _ _ _ v _ _ _ _=>v
def parts:Sm->List PartD|mk _ _ _ _ _ _ p _ _ _=>p
def exprs:Sm->List Ex|mk _ _ _ _ _ _ _ l _ _=>l
def thn:Sm->List Sm|mk _ _ _ _ _ _ _ _ l _=>l
def els:Sm->List Sm|mk _ _ _ _ _ _ _ _ _ l=>l
end Sm
abbrev TyL:=Ty 66
structure VarD where
 name:qB
 type:TyL
structure PrgD where
 vars:List VarD
 threads:List (List Sm)
def scTy(k s:Int):TyL:=(⟨k,s,false,[],0,[]⟩:TyF (Ty 65))
def eqB(a b:qB):Bool:=decide (a=b)
def look{α:Type}(l:List (qB×α))(s:qB):Option α:=(l.find? (fun x=>eqB x.1 s)).map Prod.snd
def kwList:List qB:=[⟨#[118,97,114]⟩,⟨#[116,104,114,101,97,100]⟩,⟨#[115,116,114,117,99,116]⟩,⟨#[117,110,105,111,110]⟩,⟨#[112,97,99,107,101,100]⟩,⟨#[117,56]⟩,⟨#[117,49,54]⟩,⟨#[117,51,50]⟩,⟨#[117,54,52]⟩,⟨#[97,56]⟩,⟨#[97,49,54]⟩,⟨#[97,51,50]⟩,⟨#[97,54,52]⟩,⟨#[97,49,50,56]⟩,⟨#[108,101,116]⟩,⟨#[115,101,116]⟩,⟨#[119,114,105,116,101]⟩,⟨#[115,116,111,114,101]⟩,⟨#[108,111,97,100,50]⟩,⟨#[115,116,111,114,101,50]⟩,⟨#[102,101,110,99,101]⟩,⟨#[105,102]⟩,⟨#[101,108,115,101]⟩,⟨#[119,104,105,108,101]⟩,⟨#[112,114,105,110,116]⟩,⟨#[114,101,97,100]⟩,⟨#[108,111,97,100]⟩,⟨#[97,100,100]⟩,⟨#[115,119,97,112]⟩,⟨#[99,97,115]⟩,⟨#[114,108,120]⟩,⟨#[97,99,113]⟩,⟨#[114,101,108]⟩,⟨#[115,99]⟩]
def keyw(s:qB):Bool:=kwList.any (fun t=>eqB t s)
def isLet(c:UInt8):Bool:=decide (97<=c.toNat)&&decide (c.toNat<=122)
def isDig(c:UInt8):Bool:=decide (48<=c.toNat)&&decide (c.toNat<=57)
def isPart(c:UInt8):Bool:=isLet c||isDig c||c==95
def dval(l:List UInt8):Nat:=l.foldl (fun n c=>n*10+(c.toNat-48)) 0
def signs:List UInt8:=[123,125,91,93,40,41,59,58,44,46,95,61,43,45,42,38,124,94,60]
def headPart:List UInt8->Bool
 |[]=>false
 |c::_=>isPart c
def lexOne(l:List UInt8):Option (List UInt8×List UInt8):=
 match l with
 |[]=>none
 |x::_=>
  if isLet x then
   let t:=l.takeWhile isPart
   if 16<t.length then none else some (t,l.drop t.length)
  else if isDig x then
   let t:=l.takeWhile isDig
   let r:=l.drop t.length
   if 18446744073709551615<dval t||(decide (1<t.length)&&x==48) then none
   else if headPart r then none
   else some (t,r)
  else
   let two:=l.take 2
   if two=[60,60]\/two=[62,62]\/two=[61,61]\/two=[33,61] then some (two,l.drop 2)
   else if signs.contains x then some ([x],l.drop 1)
   else none
def lexGo:Nat->List UInt8->Int->List Tok->Sum Int (List Tok)
 |0,_,line,_=> .inl line
 |_+1,[],_,out=> .inr out
 |n+1,x::l,line,out=>
  if x=10 then lexGo n l (line+1) out
  else if x=32 then lexGo n l line out
  else match lexOne (x::l) with
   |none=> .inl line
   |some (t,r)=>lexGo n r line (out++[⟨⟨t.toArray⟩,line⟩])
def lexAll(s:qB):Sum (Int×Int) (List Tok):=
 if 1048576<s.size then .inl (0,12)
 else match lexGo (s.size+1) s.data.toList 1 [] with
  | .inl line=> .inl (line,3)
  | .inr l=> .inr l
structure PS where
 toks:List Tok
 line:Int
 kind:Int
def pBad(s:PS):Bool:=s.kind !=0
def pHead(s:PS):Tok:=s.toks.headD default
def pPeek(s:PS):qB:=(pHead s).text
def pFail(e:Int)(s:PS):PS:=if pBad s then s else {s with line:=(pHead s).line,kind:=e}
def pNext(s:PS):PS:=if s.toks.length>1 then {s with toks:=s.toks.tail} else s
def pIs(t:qB)(s:PS):Bool×PS:=if pBad s then (false,s) else if eqB (pPeek s) t then (true,pNext s) else (false,s)
def pWant(t:qB)(s:PS):PS:=if pBad s then s else if (pIs t s).1 then (pIs t s).2 else pFail 4 (pIs t s).2
def head?(s:qB):Option UInt8:=s.data[0]?
def letters(s:qB):Bool:=match head? s with|none=>false|some c=>isLet c
def digits(s:qB):Bool:=match head? s with|none=>false|some c=>isDig c
def pName(s:PS):qB×PS:=if pBad s||!letters (pPeek s)||keyw (pPeek s) then ((⟨#[]⟩:qB),pFail 4 s) else (pPeek s,pNext s)
def pNumber(most:Nat)(s:PS):Nat×PS:=
 if pBad s||!digits (pPeek s) then (0,pFail 4 s)
 else if most<dval (pPeek s).data.toList then (0,pFail 9 s)
 else (dval (pPeek s).data.toList,pNext s)
def pDeep(depth:Int)(s:PS):Bool×PS:=
 let s1:=if 64<depth then pFail 5 s else s
 (!pBad s1,s1)
def scals:List (qB×Int×Int):=[((⟨#[117,56]⟩:qB),1,1),((⟨#[117,49,54]⟩:qB),1,2),((⟨#[117,51,50]⟩:qB),1,4),((⟨#[117,54,52]⟩:qB),1,8),((⟨#[97,56]⟩:qB),2,1),((⟨#[97,49,54]⟩:qB),2,2),((⟨#[97,51,50]⟩:qB),2,4),((⟨#[97,54,52]⟩:qB),2,8),((⟨#[97,49,50,56]⟩:qB),2,16)]
def scalar(s:qB):Option (Int×Int):=look scals s
def pTyp(depth:Int)(s:PS):Option (TyL×PS):=
 if !(pDeep depth s).1 then none
 else match scalar (pPeek (pDeep depth s).2) with
  |some (k,z)=>some (scTy k z,pNext (pDeep depth s).2)
  |none=>none
def ordW:List (qB×Int):=[((⟨#[114,108,120]⟩:qB),1),((⟨#[97,99,113]⟩:qB),2),((⟨#[114,101,108]⟩:qB),3),((⟨#[115,99]⟩:qB),4)]
def pOrder(s:PS):Int×PS:=if pBad s then (0,s) else match look ordW (pPeek s) with
 |some k=>(k,pNext s)
 |none=>(0,pFail 4 s)
def operW:List (qB×Int):=[((⟨#[43]⟩:qB),1),((⟨#[45]⟩:qB),2),((⟨#[42]⟩:qB),3),((⟨#[38]⟩:qB),4),((⟨#[124]⟩:qB),5),((⟨#[94]⟩:qB),6),((⟨#[60,60]⟩:qB),7),((⟨#[62,62]⟩:qB),8),((⟨#[61,61]⟩:qB),9),((⟨#[33,61]⟩:qB),10),((⟨#[60]⟩:qB),11)]
def operator(s:qB):Int:=(look operW s).getD 0
abbrev PE:=Int->PS->Option (Ex×PS)
def pPlace(pe:PE)(depth:Int)(s:PS):Option (PlaceD×PS):=
 if pBad (pName s).2 then some (⟨(pName s).1,[]⟩,(pName s).2)
 else if (pIs (⟨#[46]⟩:qB) (pName s).2).1 then none
 else if (pIs (⟨#[91]⟩:qB) (pName s).2).1 then none
 else some (⟨(pName s).1,[]⟩,(pName s).2)
def pBinary(pe:PE)(depth:Int)(s:PS):Option (Ex×PS):=
 match pe (depth+1) s with
 |none=>none
 |some (a,s1)=>
  let op:=operator (pPeek s1)
  let s2:=if !pBad s1&&op==0 then pFail 4 s1 else s1
  let s3:=if !pBad s2 then pNext s2 else s2
  match pe (depth+1) s3 with
  |none=>none
  |some (b,s4)=>some (.mk 3 0 (⟨#[]⟩:qB) op 0 (⟨#[]⟩:qB) [] [a,b],pWant (⟨#[41]⟩:qB) s4)
def pKids(pe:PE)(depth:Int):Nat->PS->Option (List Ex×PS)
 |0,s=>some ([],s)
 |k+1,s=>match pe (depth+1) s with
  |none=>none
  |some (a,s1)=>match pKids pe depth k s1 with
   |none=>none
   |some (l,s2)=>some (a::l,s2)
def pAccess(pe:PE)(kind:Int)(kids:Nat)(depth:Int)(s:PS):Option (Ex×PS):=
 let o:=if kind !=4 then pOrder s else (0,s)
 match pPlace pe depth o.2 with
 |none=>none
 |some (x,s1)=>match pKids pe depth kids s1 with
  |none=>none
  |some (l,s2)=>some (.mk kind 0 (⟨#[]⟩:qB) 0 o.1 x.var x.parts l,s2)
def pExprF(pe:PE)(depth:Int)(s:PS):Option (Ex×PS):=
 if !(pDeep depth s).1 then none else
 let s:=(pDeep depth s).2
 if digits (pPeek s) then some (.mk 1 (pNumber 18446744073709551615 s).1 (⟨#[]⟩:qB) 0 0 (⟨#[]⟩:qB) [] [],(pNumber 18446744073709551615 s).2)
 else if letters (pPeek s)&&!keyw (pPeek s) then some (.mk 2 0 (pPeek s) 0 0 (⟨#[]⟩:qB) [] [],pNext s)
 else if (pIs (⟨#[40]⟩:qB) s).1 then pBinary pe depth (pIs (⟨#[40]⟩:qB) s).2
 else if (pIs (⟨#[114,101,97,100]⟩:qB) s).1 then none
 else if (pIs (⟨#[108,111,97,100]⟩:qB) s).1 then none
 else if (pIs (⟨#[97,100,100]⟩:qB) s).1 then pAccess pe 6 1 depth (pIs (⟨#[97,100,100]⟩:qB) s).2
 else none
def pExpr:Nat->PE
 |0,_,_=>none
 |n+1,depth,s=>pExprF (pExpr n) depth s
def pValue(pe:PE)(depth:Int)(s:PS):Option (Ex×PS):=pe (depth+1) (pWant (⟨#[61]⟩:qB) s)
abbrev PB:=Int->PS->Option (List Sm×PS)
def pControl(pe:PE)(pb:PB)(line:Int)(depth:Int)(s:PS):Option (Sm×PS):=
 if (pIs (⟨#[105,102]⟩:qB) s).1 then none
 else if (pIs (⟨#[119,104,105,108,101]⟩:qB) s).1 then match pe (depth+1) (pIs (⟨#[119,104,105,108,101]⟩:qB) s).2 with
  |none=>none
  |some (e,s1)=>match pb (depth+1) s1 with
   |none=>none
   |some (t,s2)=>some (.mk 9 line (⟨#[]⟩:qB) (⟨#[]⟩:qB) 0 (⟨#[]⟩:qB) [] [e] t [],s2)
 else none
def pStmt(pe:PE)(pb:PB)(depth:Int)(s:PS):Option (Sm×PS):=
 let line:=(pHead s).line
 let fin (r:Sm×PS):Option (Sm×PS):=some (r.1,pWant (⟨#[59]⟩:qB) r.2)
 if (pIs (⟨#[108,101,116]⟩:qB) s).1 then
  let a:=pName (pIs (⟨#[108,101,116]⟩:qB) s).2
  match pValue pe depth a.2 with
  |none=>none
  |some (e,s1)=>fin (.mk 1 line a.1 (⟨#[]⟩:qB) 0 (⟨#[]⟩:qB) [] [e] [] [],s1)
 else if (pIs (⟨#[115,101,116]⟩:qB) s).1 then
  let a:=pName (pIs (⟨#[115,101,116]⟩:qB) s).2
  match pValue pe depth a.2 with
  |none=>none
  |some (e,s1)=>fin (.mk 2 line a.1 (⟨#[]⟩:qB) 0 (⟨#[]⟩:qB) [] [e] [] [],s1)
 else if (pIs (⟨#[119,114,105,116,101]⟩:qB) s).1 then
  match pPlace pe depth (pIs (⟨#[119,114,105,116,101]⟩:qB) s).2 with
  |none=>none
  |some (x,s1)=>match pValue pe depth s1 with
   |none=>none
   |some (e,s2)=>fin (.mk 3 line (⟨#[]⟩:qB) (⟨#[]⟩:qB) 0 x.var x.parts [e] [] [],s2)
 else if (pIs (⟨#[115,116,111,114,101]⟩:qB) s).1 then none
 else if (pIs (⟨#[108,111,97,100,50]⟩:qB) s).1 then none
 else if (pIs (⟨#[115,116,111,114,101,50]⟩:qB) s).1 then none
 else if (pIs (⟨#[102,101,110,99,101]⟩:qB) s).1 then none
 else if (pIs (⟨#[112,114,105,110,116]⟩:qB) s).1 then
  match pe (depth+1) (pIs (⟨#[112,114,105,110,116]⟩:qB) s).2 with
  |none=>none
  |some (e,s1)=>fin (.mk 10 line (⟨#[]⟩:qB) (⟨#[]⟩:qB) 0 (⟨#[]⟩:qB) [] [e] [] [],s1)
 else pControl pe pb line depth s
def pStmts(st:PS->Option (Sm×PS)):Nat->PS->List Sm->Option (List Sm×PS)
 |0,_,_=>none
 |k+1,s,out=>
  if pBad s then some (out,s)
  else if (pIs (⟨#[125]⟩:qB) s).1 then some (out,(pIs (⟨#[125]⟩:qB) s).2)
  else if 1000000<=out.length then none
  else match st s with
   |none=>none
   |some (x,s1)=>pStmts st k s1 (out++[x])
def pBlockF(pe:PE)(pb:PB)(depth:Int)(s:PS):Option (List Sm×PS):=
 if !(pDeep depth s).1 then none else
 let s:=pWant (⟨#[123]⟩:qB) (pDeep depth s).2
 pStmts (pStmt pe pb depth) (s.toks.length+1) s []
def pBlock(pe:PE):Nat->PB
 |0,_,_=>none
 |n+1,depth,s=>pBlockF pe (pBlock pe n) depth s
def pVars:Nat->PS->List VarD->Option (List VarD×PS)
 |0,_,_=>none
 |k+1,s,out=>
  if (pIs (⟨#[118,97,114]⟩:qB) s).1 then
   if 1000000<=out.length then none else
   let a:=pName (pIs (⟨#[118,97,114]⟩:qB) s).2
   match pTyp 1 a.2 with
   |none=>none
   |some (t,s1)=>pVars k (pWant (⟨#[59]⟩:qB) s1) (out++[⟨a.1,t⟩])
  else some (out,s)
def pThreads(pb:PB):Nat->PS->List (List Sm)->Option (List (List Sm)×PS)
 |0,_,_=>none
 |k+1,s,out=>
  if (pIs (⟨#[116,104,114,101,97,100]⟩:qB) s).1 then
   if 1000000<=out.length then none else
   match pb 1 (pIs (⟨#[116,104,114,101,97,100]⟩:qB) s).2 with
   |none=>none
   |some (t,s1)=>pThreads pb k s1 (out++[t])
  else some (out,s)
def pEnd(s:PS):PS:=if !pBad s&&decide (s.toks.length>1) then pFail 4 s else s
def pBegin(l:List Tok):PS:=⟨l++[⟨(⟨#[]⟩:qB),(l.getLast?.map Tok.line).getD 0⟩],0,0⟩
def noPrg:PrgD:=⟨[],[]⟩
def pProg(s:qB):Option (PrgD×Int×Int):=
 match lexAll s with
 | .inl f=>some (noPrg,f)
 | .inr l=>
  let s0:=pBegin l
  match pVars (s0.toks.length+1) s0 [] with
  |none=>none
  |some (vs,s1)=>match pThreads (pBlock (pExpr 66) 66) (s1.toks.length+1) s1 [] with
   |none=>none
   |some (ts,s2)=>
    let s3:=pEnd s2
    if s3.kind !=0 then some (noPrg,s3.line,s3.kind) else some (⟨vs,ts⟩,0,0)
def cOrder(k o:Int):Bool:=
 if k=4\/k=6 then decide (o=1)||decide (o=3)||decide (o=4)
 else if k=5\/k=15 then decide (o=1)||decide (o=2)||decide (o=4)
 else if k=16\/k=17\/k=18 then decide (1<=o)&&decide (o<=4)
 else if k=7 then decide (2<=o)&&decide (o<=4)
 else decide (o=0)
def findV(vars:List VarD)(s:qB):Option VarD:=vars.find? (fun v=>eqB v.name s)
def tyKind(t:TyL):Int:=(t:TyF (Ty 65)).kind
def tySize(t:TyL):Int:=(t:TyF (Ty 65)).size
def SoundF(n:Nat)(t:TyL):Int:=if (tyKind t=1\/tyKind t=2)/\(tySize t=1\/tySize t=2\/tySize t=4\/tySize t=8) then 0 else 1
def cFits(k:Int)(t:TyL):Bool:=
 if k=3\/k=14 then decide (tyKind t=1)
 else if k=5\/k=6 then decide (tyKind t=2)&&decide (tySize t=16)
 else decide (tyKind t=2)&&decide (tySize t<=8)
def plOk(vars:List VarD)(k:Int)(var:qB)(parts:List PartD):Bool:=
 parts.isEmpty&&match findV vars var with
 |none=>false
 |some v=>decide (SoundF 66 v.type=0)&&cFits k v.type
def cEmpty(var:qB)(parts:List PartD):Bool:=eqB var (⟨#[]⟩:qB)&&parts.isEmpty
def cKids(k:Int):Nat:=if k=3 then 2 else if k=6\/k=7 then 1 else if k=8 then 2 else 0
def cFormed(e:Ex):Bool:=
 decide (1<=e.kind)&&decide (e.kind<=8)&&(decide (e.kind=1)||decide (e.n=0))&&(decide (e.kind=2)||eqB e.name (⟨#[]⟩:qB))&&
 ((decide (e.kind=3)&&decide (1<=e.op)&&decide (e.op<=11))||(!decide (e.kind=3)&&decide (e.op=0)))&&
 (decide (4<=e.kind)||cEmpty e.var e.parts)&&decide (e.kids.length=cKids e.kind)
def cThere(loc:List qB)(x:qB):Bool:=loc.any (fun t=>eqB t x)
def xOk(vars:List VarD)(loc:List qB):Nat->Ex->Int->Bool
 |0,_,_=>false
 |n+1,e,d=>decide (d<=64)&&cFormed e&&cOrder (10+e.kind) e.order&&(!decide (e.kind=2)||cThere loc e.name)&&(!decide (4<=e.kind)||plOk vars (10+e.kind) e.var e.parts)&&e.kids.all (fun x=>xOk vars loc n x (d+1))
def cForm(x:Sm):Bool:=
 decide (1<=x.kind)&&decide (x.kind<=10)&&(decide (x.kind=1)||decide (x.kind=2)||decide (x.kind=5)||eqB x.name (⟨#[]⟩:qB))&&(decide (x.kind=5)||eqB x.name2 (⟨#[]⟩:qB))&&
 (decide (x.kind=3)||decide (x.kind=4)||decide (x.kind=5)||decide (x.kind=6)||cEmpty x.var x.parts)&&
 decide (x.exprs.length=if x.kind=6 then 2 else if x.kind=5\/x.kind=7 then 0 else 1)&&
 (decide (x.kind=8)||decide (x.kind=9)||x.thn.isEmpty)&&(decide (x.kind=8)||x.els.isEmpty)
abbrev CSt:=List qB×Int
def cSeq(f:Sm->CSt->Option CSt):List Sm->CSt->Option CSt
 |[],s=>some s
 |x::l,s=>match f x s with
  |none=>none
  |some s1=>cSeq f l s1
def cBlock(f:Sm->CSt->Option CSt)(l:List Sm)(s:CSt):Option CSt:=(cSeq f l s).map (fun s1=>(s1.1.take s.1.length,s1.2))
def cHead(vars:List VarD)(x:Sm)(s:CSt):Bool:=
 if x.kind=1 then nameB x.name&&!keyw x.name&&!cThere s.1 x.name&&decide (s.2<40)
 else if x.kind=2 then cThere s.1 x.name
 else if 3<=x.kind/\x.kind<=6 then plOk vars x.kind x.var x.parts
 else true
def cTail(x:Sm)(s:CSt):Option CSt:=
 if x.kind=1 then some (s.1++[x.name],s.2+1)
 else if x.kind=2\/x.kind=3\/x.kind=9\/x.kind=10 then some s
 else none
def cStmt(vars:List VarD):Nat->Sm->Int->CSt->Option CSt
 |0,_,_,_=>none
 |n+1,x,d,s=>
  if !(decide (d<=64)&&cForm x&&cOrder x.kind x.order&&cHead vars x s&&x.exprs.all (fun e=>xOk vars s.1 66 e (d+1))) then none
  else match cTail x s with
  |none=>none
  |some s1=>match cBlock (fun y s=>cStmt vars n y (d+1) s) x.thn s1 with
   |none=>none
   |some s2=>cBlock (fun y s=>cStmt vars n y (d+1) s) x.els s2
structure OpD where
 kind:Int
 dst:Int:= -1
 dst2:Int:= -1
 a:Int:= -1
 b:Int:= -1
 c:Int:= -1
 n:Nat:=0
 op:Int:=0
 size:Int:=0
 order:Int:=0
 tO:Int:=0
 site:Int:=0
 line:Int:=0
 deriving DecidableEq,Inhabited
structure AcD where
 kind:Int
 order:Int
 line:Int
 var:qB
 parts:List PartD
structure GlD where
 name:qB
 at_:Int
 len:Int
 deriving DecidableEq,Inhabited
structure LS where
 ops:List OpD
 regs:Int
 labels:Int
 sites:List AcD
 line:Int
 locals:List (qB×Int)
def lAdd(o:OpD)(s:LS):LS:={s with ops:=s.ops++[{o with line:=s.line}]}
def lFresh(s:LS):LS:={s with regs:=s.regs+1}
def lNumber(n:Nat)(s:LS):Int×LS:=(s.regs,lAdd {kind:=1,dst:=s.regs,n:=n} (lFresh s))
def lBin(op a b:Int)(s:LS):Int×LS:=(s.regs,lAdd {kind:=3,dst:=s.regs,op:=op,a:=a,b:=b} (lFresh s))
def lFind(s:LS)(x:qB):Option Int:=(s.locals.find? (fun l=>eqB l.1 x)).map Prod.snd
def lSite(k o:Int)(var:qB)(parts:List PartD)(s:LS):Int×LS:=((s.sites.length:Int)+1,{s with sites:=s.sites++[⟨k,o,s.line,var,parts⟩]})
def lSpot(gl:List GlD)(var:qB)(parts:List PartD):Option (Int×Int):=
 if parts.isEmpty then (gl.find? (fun g=>eqB g.name var)).map (fun g=>(g.at_,g.len)) else none
def oneP(sp:Int×Int):Bool:=(decide (sp.2=1)||decide (sp.2=2)||decide (sp.2=4)||decide (sp.2=8))&&decide (0<=sp.1)&&decide (sp.1%sp.2=0)
def lAll(f:Ex->LS->Option (Int×LS)):List Ex->LS->Option (List Int×LS)
 |[],s=>some ([],s)
 |x::l,s=>match f x s with
  |none=>none
  |some (v,s1)=>match lAll f l s1 with
   |none=>none
   |some (r,s2)=>some (v::r,s2)
def lRead(sp:Int×Int)(var:qB)(parts:List PartD)(s:LS):Option (Int×LS):=
 if !oneP sp then none else
 let a:=lNumber sp.1.toNat s
 let t:=lSite 14 0 var parts a.2
 some (t.2.regs,lAdd {kind:=4,dst:=t.2.regs,a:=a.1,n:=0,size:=sp.2,site:=t.1} (lFresh t.2))
def lAtomic(e:Ex)(sp:Int×Int)(kids:List Int)(s:LS):Option (Int×LS):=
 let o:Option OpD:=
  if e.kind=5 then none
  else if e.kind=6\/e.kind=7 then (match kids with|[x]=>some {kind:=e.kind+2,b:=x}|_=>none)
  else if e.kind=8 then none
  else none
 match o with
 |none=>none
 |some o=>
  let a:=lNumber sp.1.toNat s
  let r:=a.2.regs
  let t:=lSite (10+e.kind) e.order e.var e.parts (lFresh a.2)
  some (r,lAdd {o with a:=a.1,dst:=r,size:=sp.2,order:=e.order,site:=t.1} t.2)
def lExpr(gl:List GlD):Nat->Ex->LS->Option (Int×LS)
 |0,_,_=>none
 |n+1,e,s=>
  if e.kind=1 then some (lNumber e.n s)
  else if e.kind=2 then (lFind s e.name).map (fun r=>(r,s))
  else if e.kind=3 then (match e.kids with
   |[x,y]=>(match lExpr gl n x s with
    |none=>none
    |some (a,s1)=>match lExpr gl n y s1 with
     |none=>none
     |some (b,s2)=>some (lBin e.op a b s2))
   |_=>none)
  else if e.kind=4 then none
  else match lSpot gl e.var e.parts with
   |none=>none
   |some sp=>match lAll (fun x s=>lExpr gl n x s) e.kids s with
    |none=>none
    |some (l,s1)=>lAtomic e sp l s1
def lSet(reg x:Int)(s:LS):LS:=lAdd {kind:=2,dst:=reg,a:=x} s
def lLabel(s:LS):LS:={s with labels:=s.labels+1}
def lMark(n:Int)(s:LS):LS:=lAdd {kind:=14,tO:=n} s
def lJump(tO reg:Int)(s:LS):LS:=if reg= -1 then lAdd {kind:=15,tO:=tO} s else lAdd {kind:=16,a:=reg,tO:=tO} s
def lSeq(f:Sm->LS->Option LS):List Sm->LS->Option LS
 |[],s=>some s
 |x::l,s=>match f x {s with line:=x.line} with
  |none=>none
  |some s1=>lSeq f l s1
def lBlock(f:Sm->LS->Option LS)(l:List Sm)(s:LS):Option LS:=(lSeq f l s).map (fun s1=>{s1 with locals:=s1.locals.take s.locals.length})
def lOne(gl:List GlD)(l:List Ex)(s:LS)(f:Int->LS->Option LS):Option LS:=match l with
 |[e]=>(match lExpr gl 66 e s with
  |none=>none
  |some (v,s1)=>f v s1)
 |_=>none
def lLet(gl:List GlD)(x:Sm)(s:LS):Option LS:=lOne gl x.exprs s (fun v s1=>some {lSet s1.regs v (lFresh s1) with locals:=s1.locals++[(x.name,s1.regs)]})
def lSetS(gl:List GlD)(x:Sm)(s:LS):Option LS:=lOne gl x.exprs s (fun v s1=>(lFind s1 x.name).map (fun r=>lSet r v s1))
def lPut(o:OpD)(k order:Int)(sp:Int×Int)(var:qB)(parts:List PartD)(s:LS):LS:=
 let a:=lNumber sp.1.toNat s
 let t:=lSite k order var parts a.2
 lAdd {o with a:=a.1,size:=sp.2,order:=order,site:=t.1} t.2
def lWrite(gl:List GlD)(x:Sm)(s:LS):Option LS:=match lSpot gl x.var x.parts with
 |none=>none
 |some sp=>if !oneP sp then none else lOne gl x.exprs s (fun v s1=>some (lPut {kind:=5,b:=v} 3 0 sp x.var x.parts s1))
def lStore(gl:List GlD)(x:Sm)(s:LS):Option LS:=match lSpot gl x.var x.parts with
 |none=>none
 |some sp=>lOne gl x.exprs s (fun v s1=>some (lPut {kind:=7,b:=v} 4 x.order sp x.var x.parts s1))
def lWhile(gl:List GlD)(bl:List Sm->LS->Option LS)(x:Sm)(s:LS):Option LS:=lOne gl x.exprs (lMark (s.labels+1) (lLabel (lLabel s))) (fun v s1=>match bl x.thn (lJump (s.labels+2) v s1) with
 |none=>none
 |some s2=>some (lMark (s.labels+2) (lJump (s.labels+1) (-1) {s2 with line:=x.line})))
def lPrint(gl:List GlD)(x:Sm)(s:LS):Option LS:=lOne gl x.exprs s (fun v s1=>some (lAdd {kind:=18,a:=v} s1))
def lStmt(gl:List GlD):Nat->Sm->LS->Option LS
 |0,_,_=>none
 |n+1,x,s=>
  if x.kind=1 then lLet gl x s
  else if x.kind=2 then lSetS gl x s
  else if x.kind=3 then lWrite gl x s
  else if x.kind=4 then none
  else if x.kind=5 then none
  else if x.kind=6 then none
  else if x.kind=7 then none
  else if x.kind=8 then none
  else if x.kind=9 then lWhile gl (fun l s=>lBlock (fun y s=>lStmt gl n y s) l s) x s
  else if x.kind=10 then lPrint gl x s
  else none
def lThread(gl:List GlD)(t:List Sm):Option (List OpD×Int):=
 match lBlock (fun y s=>lStmt gl 66 y s) t ⟨[],0,0,[],0,[]⟩ with
 |none=>none
 |some s=>if 16384<s.ops.length\/20000<s.regs\/20000<s.labels\/20000<s.sites.length then none else some (s.ops,s.regs)
structure LLe(s t:LS):Prop where
 ops:s.ops.length<=t.ops.length
 regs:s.regs<=t.regs
 labels:s.labels<=t.labels
 sites:s.sites.length<=t.sites.length
theorem LLe.refl(s:LS):LLe s s:=⟨zaq _,Int.le_refl _,Int.le_refl _,zaq _⟩
theorem LLe.trans{a b c:LS}(h:LLe a b)(k:LLe b c):LLe a c:=⟨zal h.ops k.ops,Int.le_trans h.regs k.regs,Int.le_trans h.labels k.labels,zal h.sites k.sites⟩
theorem LLe.add(o:OpD)(s:LS):LLe s (lAdd o s):=⟨by simp [lAdd],Int.le_refl _,Int.le_refl _,zaq _⟩
theorem LLe.fresh(s:LS):LLe s (lFresh s):=⟨zaq _,by simp [lFresh];omega,Int.le_refl _,zaq _⟩
theorem LLe.label(s:LS):LLe s (lLabel s):=⟨zaq _,Int.le_refl _,by simp [lLabel];omega,zaq _⟩
theorem LLe.site(k o:Int)(v:qB)(p:List PartD)(s:LS):LLe s (lSite k o v p s).2:=⟨zaq _,Int.le_refl _,Int.le_refl _,by simp [lSite]⟩
theorem LLe.number(n:Nat)(s:LS):LLe s (lNumber n s).2:=(LLe.fresh s).trans (LLe.add _ _)
theorem LLe.bin(op a b:Int)(s:LS):LLe s (lBin op a b s).2:=(LLe.fresh s).trans (LLe.add _ _)
theorem LLe.set(r x:Int)(s:LS):LLe s (lSet r x s):=LLe.add _ _
theorem LLe.mark(n:Int)(s:LS):LLe s (lMark n s):=LLe.add _ _
theorem LLe.jump(t r:Int)(s:LS):LLe s (lJump t r s):=by unfold lJump;split<;>exact LLe.add _ _
theorem LLe.line(l:Int)(s:LS):LLe s {s with line:=l}:=⟨zaq _,Int.le_refl _,Int.le_refl _,zaq _⟩
theorem LLe.locs(l:List (qB×Int))(s:LS):LLe s {s with locals:=l}:=⟨zaq _,Int.le_refl _,Int.le_refl _,zaq _⟩
theorem LLe.read{sp:Int×Int}{v:qB}{p:List PartD}{s:LS}{r:Int×LS}(h:lRead sp v p s=some r):LLe s r.2:=by
 unfold lRead at h
 split at h
 ·cases h
 ·cases h
  exact (LLe.number _ _).trans ((LLe.site _ _ _ _ _).trans ((LLe.fresh _).trans (LLe.add _ _)))
theorem LLe.atomic{e:Ex}{sp:Int×Int}{l:List Int}{s:LS}{r:Int×LS}(h:lAtomic e sp l s=some r):LLe s r.2:=by
 unfold lAtomic at h
 simp only at h
 split at h
 ·cases h
 ·cases h
  exact (LLe.number _ _).trans ((LLe.fresh _).trans ((LLe.site _ _ _ _ _).trans (LLe.add _ _)))
theorem LLe.all{f:Ex->LS->Option (Int×LS)}(hf: ∀x s r,f x s=some r->LLe s r.2): ∀(l:List Ex) (s:LS) (r:List Int×LS),lAll f l s=some r->LLe s r.2
 |[],s,r,h=>by cases h;exact LLe.refl _
 |x::l,s,r,h=>by
  simp only [lAll] at h
  split at h
  ·cases h
  rename_i v s1 h1
  split at h
  ·cases h
  rename_i q s2 h2
  cases h
  exact (hf x s _ h1).trans (LLe.all hf l s1 (q,s2) h2)
theorem LLe.expr{gl:List GlD}: ∀(n:Nat) (e:Ex) (s:LS) (r:Int×LS),lExpr gl n e s=some r->LLe s r.2
 |0,e,s,r,h=>by simp [lExpr] at h
 |n+1,e,s,r,h=>by
  unfold lExpr at h
  split at h
  ·cases h
   exact LLe.number _ _
  split at h
  ·rcases hf:lFind s e.name with _|q
   ·rw [hf] at h
    cases h
   ·rw [hf] at h
    cases h
    exact LLe.refl _
  split at h
  ·split at h
   ·rename_i x y hk
    split at h
    ·cases h
    rename_i a s1 h1
    split at h
    ·cases h
    rename_i b s2 h2
    cases h
    exact (LLe.expr n x s _ h1).trans ((LLe.expr n y s1 _ h2).trans (LLe.bin _ _ _ _))
   ·cases h
  split at h
  ·cases h
  split at h
  ·cases h
  split at h
  ·cases h
  rename_i l s1 h1
  exact (LLe.all (fun x s r=>LLe.expr n x s r) _ _ _ h1).trans (LLe.atomic h)
theorem LLe.seq{f:Sm->LS->Option LS}(hf: ∀x s r,f x s=some r->LLe s r): ∀(l:List Sm) (s r:LS),lSeq f l s=some r->LLe s r
 |[],s,r,h=>by cases h;exact LLe.refl _
 |x::l,s,r,h=>by
  simp only [lSeq] at h
  split at h
  ·cases h
  rename_i s1 h1
  exact (LLe.line _ _).trans ((hf x _ _ h1).trans (LLe.seq hf l s1 r h))
theorem LLe.block{f:Sm->LS->Option LS}(hf: ∀x s r,f x s=some r->LLe s r)(l:List Sm)(s r:LS)(h:lBlock f l s=some r):LLe s r:=by
 unfold lBlock at h
 rcases hq:lSeq f l s with _|s1
 ·rw [hq] at h
  cases h
 rw [hq] at h
 cases h
 exact (LLe.seq hf l s s1 hq).trans (LLe.locs _ _)
theorem bB{gl:List GlD}{l:List Ex}{s:LS}{f:Int->LS->Option LS}{r:LS}(h:lOne gl l s f=some r): ∃e v s1,l=[e]/\lExpr gl 66 e s=some (v,s1)/\f v s1=some r:=by
 unfold lOne at h
 split at h
 ·rename_i e
  split at h
  ·cases h
  rename_i v s1 h1
  exact ⟨e,v,s1,rfl,h1,h⟩
 ·cases h
theorem LLe.put(o:OpD)(k order:Int)(sp:Int×Int)(v:qB)(p:List PartD)(s:LS):LLe s (lPut o k order sp v p s):=(LLe.number _ _).trans ((LLe.site _ _ _ _ _).trans (LLe.add _ _))
theorem LLe.let_{gl:List GlD}{x:Sm}{s r:LS}(h:lLet gl x s=some r):LLe s r:=by
 obtain ⟨e,v,s1, -,h1,h2⟩:=bB h
 cases h2
 exact (LLe.expr _ _ _ _ h1).trans ((LLe.fresh _).trans ((LLe.set _ _ _).trans (LLe.locs _ _)))
theorem LLe.setS{gl:List GlD}{x:Sm}{s r:LS}(h:lSetS gl x s=some r):LLe s r:=by
 obtain ⟨e,v,s1, -,h1,h2⟩:=bB h
 rcases hf:lFind s1 x.name with _|q
 ·rw [hf] at h2
  cases h2
 ·rw [hf] at h2
  cases h2
  exact (LLe.expr _ _ _ _ h1).trans (LLe.set _ _ _)
theorem LLe.write{gl:List GlD}{x:Sm}{s r:LS}(h:lWrite gl x s=some r):LLe s r:=by
 unfold lWrite at h
 split at h
 ·cases h
 split at h
 ·cases h
 obtain ⟨e,v,s1, -,h1,h2⟩:=bB h
 cases h2
 exact (LLe.expr _ _ _ _ h1).trans (LLe.put _ _ _ _ _ _ _)
theorem LLe.store{gl:List GlD}{x:Sm}{s r:LS}(h:lStore gl x s=some r):LLe s r:=by
 unfold lStore at h
 split at h
 ·cases h
 obtain ⟨e,v,s1, -,h1,h2⟩:=bB h
 cases h2
 exact (LLe.expr _ _ _ _ h1).trans (LLe.put _ _ _ _ _ _ _)
theorem LLe.while_{gl:List GlD}{bl:List Sm->LS->Option LS}(hb: ∀l s r,bl l s=some r->LLe s r){x:Sm}{s r:LS}(h:lWhile gl bl x s=some r):LLe s r:=by
 obtain ⟨e,v,s1, -,h1,h2⟩:=bB h
 split at h2
 ·cases h2
 rename_i s2 h3
 cases h2
 exact (LLe.label _).trans ((LLe.label _).trans ((LLe.mark _ _).trans ((LLe.expr _ _ _ _ h1).trans ((LLe.jump _ _ _).trans ((hb _ _ _ h3).trans ((LLe.line _ _).trans ((LLe.jump _ _ _).trans (LLe.mark _ _))))))))
theorem LLe.print{gl:List GlD}{x:Sm}{s r:LS}(h:lPrint gl x s=some r):LLe s r:=by
 obtain ⟨e,v,s1, -,h1,h2⟩:=bB h
 cases h2
 exact (LLe.expr _ _ _ _ h1).trans (LLe.add _ _)
theorem LLe.stmt{gl:List GlD}: ∀(n:Nat) (x:Sm) (s r:LS),lStmt gl n x s=some r->LLe s r
 |0,x,s,r,h=>by simp [lStmt] at h
 |n+1,x,s,r,h=>by
  have hb:=fun l s r=>LLe.block (f:=fun y s=>lStmt gl n y s) (fun x s r=>LLe.stmt n x s r) l s r
  unfold lStmt at h
  split at h
  ·exact LLe.let_ h
  split at h
  ·exact LLe.setS h
  split at h
  ·exact LLe.write h
  split at h
  ·cases h
  split at h
  ·cases h
  split at h
  ·cases h
  split at h
  ·cases h
  split at h
  ·cases h
  split at h
  ·exact LLe.while_ hb h
  split at h
  ·exact LLe.print h
  ·cases h
end
section
open Go.RowKit Go.Sort
structure Kp(X:Nat->Prop)(w w':qW):Prop where
 os:w'.os=w.os
 tape:w'.tape=w.tape
 output:w'.output=w.output
 size:w.heap.size<=w'.heap.size
 block: ∀k,k<w.heap.size-> ¬X k->w'.heap[k]?=w.heap[k]?
section
variable{X Y:Nat->Prop}{a b c:qW}
theorem Kp.refl(X:Nat->Prop)(w:qW):Kp X w w:=⟨rfl,rfl,rfl,zaq _,fun _ _ _=>rfl⟩
theorem Kp.trans(h:Kp X a b)(k:Kp X b c):Kp X a c:=
 ⟨k.os.trans h.os,k.tape.trans h.tape,k.output.trans h.output,zal h.size k.size,fun i hi hx=>(k.block i (zar hi h.size) hx).trans (h.block i hi hx)⟩
theorem Kp.mono(h:Kp X a b)(hx: ∀k,k<a.heap.size->X k->Y k):Kp Y a b:=⟨h.os,h.tape,h.output,h.size,fun k hk hy=>h.block k hk (fun e=>hy (hx k hk e))⟩
theorem Kp.next(h:Kp X a b)(k:Kp Y b c)(hx: ∀i,i<a.heap.size->Y i->X i):Kp X a c:=
 ⟨k.os.trans h.os,k.tape.trans h.tape,k.output.trans h.output,zal h.size k.size,fun i hi hX=>(k.block i (zar hi h.size) (fun e=>hX (hx i hi e))).trans (h.block i hi hX)⟩
theorem Kp.of_below(h:Below a.heap.size a b):Kp X a b:=⟨h.os,h.tape,h.output,h.size,fun k hk _=>h.block k hk⟩
theorem Kp.below(h:Kp X a b){B:Nat}(hB:B<=a.heap.size)(hx: ∀k,k<B-> ¬X k):Below B a b:=⟨h.os,h.tape,h.output,h.size,fun k hk=>h.block k (zar hk hB) (hx k hk)⟩
theorem Kp.all(h:Kp X a b)(hx: ∀k,k<a.heap.size-> ¬X k):Below a.heap.size a b:=h.below (zaq _) hx
theorem Kp.of_grown{r:Option Nat}(h:a.grownBy b r):Kp (fun k=>some k=r) a b:=⟨h.os,h.tape,h.output,h.size,fun k hk hx=>h.block k hk hx⟩
theorem Kp.set(w:qW)(p k:Nat)(v:qV):Kp (·=p) w (w.setCell ⟨p,k,none⟩ v):=
 ⟨rfl,rfl,rfl,by simp,fun i hi hx=>zas _ _ _ _ hx⟩
theorem Kp.al(w:qW)(o:Obj):Kp X w (w.alloc o):= .of_below (ab (zaa _ _) o)
theorem Kp.mo(w:qW)(p:Regrown):Kp X w (more w p):= .of_below (au w p)
theorem Kp.dr(w:qW):Kp X w w.drew:= .of_below (ag (zaa _ _))
theorem Kp.dn(w:qW)(n:Nat):Kp X w (w.drewN n):= .of_below (nX (zaa _ _) n)
theorem Kp.cell(h:Kp X a b){k o:Nat}(hk:k<a.heap.size)(hx: ¬X k):b.cell? ⟨k,o,none⟩=a.cell? ⟨k,o,none⟩:=World.cell?_of_block (w:=a) (a:=⟨k,o,none⟩) (h.block k hk hx)
end
theorem ac{w:qW}{k:Nat}{o:Obj}(h:w.heap[k]?=some o):k<w.heap.size:=(Array.getElem?_eq_some_iff.1 h).1
theorem aa{w:qW}{k:Nat}{cs:Array qV}{t:TypeId}{z:Nat×Nat}(h:w.heap[k]?=some (.cells cs t z))(i:Nat):w.cell? ⟨k,i,none⟩=cs[i]?:=by simp [World.cell?,h]
theorem ah{w:qW}{k:Nat}{cs:Array qV}{t:TypeId}(h:w.heap[k]?=some (.cells cs t (0,0)))(i:Nat):w.frozen? ⟨k,i,none⟩=false:=by simp [World.frozen?,h]
theorem aJ{w:qW}{k i:Nat}{cs:Array qV}{t:TypeId}{z:Nat×Nat}(h:w.heap[k]?=some (.cells cs t z))(v:qV):(w.setCell ⟨k,i,none⟩ v).heap[k]?=some (.cells (cs.setIfInBounds i v) t z):=by
 simp [World.setCell,Array.getElem?_modify,h]
def putB(w:qW)(k:Nat)(cs:Array qV)(t:TypeId):qW:={w with heap:=w.heap.setIfInBounds k (.cells cs t (0,0))}
theorem bE{w:qW}{k:Nat}{cs:Array qV}{t:TypeId}(h:w.heap[k]?=some (.cells cs t (0,0))):putB w k cs t=w:=by
 obtain ⟨hk,e⟩:=Array.getElem?_eq_some_iff.1 h
 have:w.heap.setIfInBounds k (.cells cs t (0,0))=w.heap:=by
  rw [<-e]
  simp [Array.setIfInBounds,hk]
 simp [putB,this]
section
variable{α β:Type}
def Els(w:qW)(b o s:Nat)(El:α->List qV->Prop)(l:List α):Prop:=
 ∀i x,l[i]?=some x-> ∃cs:List qV,cs.length=s/\El x cs/\ ∀j v,cs[j]?=some v->w.cell? ⟨b,o+i*s+j,none⟩=some v
def RwAt(w:qW)(ok:Nat->Prop)(s:Nat)(El:α->List qV->Prop)(v:qV)(l:List α):Prop:=
 ∃a c,v= .slice a l.length c/\l.length<=c/\c<=9223372036854775807/\(0<l.length-> ∃b o,a=some ⟨b,o,none⟩/\ok b/\b<w.heap.size/\Els w b o s El l)
theorem RwAt.nil(w:qW)(ok:Nat->Prop)(s:Nat)(El:α->List qV->Prop):RwAt w ok s El (.slice none 0 0) []:=⟨none,0,rfl,zaq _,by omega,fun h=>by simp at h⟩
theorem Els.keep{w w':qW}{b o s:Nat}{El El':α->List qV->Prop}{l:List α}(h:Els w b o s El l)(hb:w'.heap[b]?=w.heap[b]?)(hE: ∀x,x∈l-> ∀cs,El x cs->El' x cs):Els w' b o s El' l:=fun i x hi=>by
 obtain ⟨cs,h1,h2,h3⟩:=h i x hi
 exact ⟨cs,h1,hE x (zat hi) cs h2,fun j v hj=>(World.cell?_of_block (w:=w) (a:=⟨b,o+i*s+j,none⟩) hb).trans (h3 j v hj)⟩
theorem RwAt.keep{w w':qW}{ok ok':Nat->Prop}{s:Nat}{El El':α->List qV->Prop}{v:qV}{l:List α}(h:RwAt w ok s El v l)(hz:w.heap.size<=w'.heap.size)
  (hb: ∀b,ok b->b<w.heap.size->ok' b/\w'.heap[b]?=w.heap[b]?) (hE: ∀x,x∈l-> ∀cs,El x cs->El' x cs):RwAt w' ok' s El' v l:=by
 obtain ⟨a,c,h1,h2,h3,h4⟩:=h
 refine ⟨a,c,h1,h2,h3,fun hn=>?_⟩
 obtain ⟨b,o,e,g1,g2,g3⟩:=h4 hn
 exact ⟨b,o,e,(hb b g1 g2).1,zar g2 hz,g3.keep (hb b g1 g2).2 hE⟩
theorem RwAt.tail{w:qW}{ok:Nat->Prop}{s:Nat}{El:α->List qV->Prop}{b o n c:Nat}{x:α}{l:List α}(h:RwAt w ok s El (.slice (some ⟨b,o,none⟩) n c) (x::l)):RwAt w ok s El (.slice (some ⟨b,o+s,none⟩) (n-1) (c-1)) l:=by
 obtain ⟨a,c',h1,h2,h3,h4⟩:=h
 simp only [Value.slice.injEq] at h1
 obtain ⟨rfl,rfl,rfl⟩:=h1
 simp at h2
 refine ⟨some ⟨b,o+s,Option.none⟩,c-1,by simp,by omega,by omega,fun hn=>?_⟩
 obtain ⟨b',o',e,g1,g2,g3⟩:=h4 Zg
 simp at e
 obtain ⟨rfl,rfl⟩:=e
 refine ⟨b,o+s,rfl,g1,g2,fun i y hi=>?_⟩
 obtain ⟨cs,k1,k2,k3⟩:=g3 (i+1) y (by simpa using hi)
 refine ⟨cs,k1,k2,fun j v hj=>?_⟩
 have:=k3 j v hj
 rwa [show o+(i+1)*s+j=o+s+i*s+j by rw [Nat.add_mul];omega] at this
theorem RwAt.head{w:qW}{ok:Nat->Prop}{s:Nat}{El:α->List qV->Prop}{v:qV}{x:α}{l:List α}(h:RwAt w ok s El v (x::l)): ∃b o c,v= .slice (some ⟨b,o,none⟩) (l.length+1) c/\l.length+1<=c/\c<=9223372036854775807/\ok b/\b<w.heap.size/\
  ∃cs:List qV,cs.length=s/\El x cs/\ ∀j u,cs[j]?=some u->w.cell? ⟨b,o+j,none⟩=some u:=by
 obtain ⟨a,c,h1,h2,h3,h4⟩:=h
 obtain ⟨b,o,rfl,g1,g2,g3⟩:=h4 Zg
 obtain ⟨cs,k1,k2,k3⟩:=g3 0 x rfl
 exact ⟨b,o,c,by simpa using h1,by simpa using h2,h3,g1,g2,cs,k1,k2,fun j u hj=>by simpa using k3 j u hj⟩
theorem RwAt.one{w:qW}{ok:Nat->Prop}{s:Nat}{El:α->List qV->Prop}{k:Nat}{cs:Array qV}{t:TypeId}{z:Nat×Nat}{x:α}(h:w.heap[k]?=some (.cells cs t z))(xr:ok k)(hs:cs.size=s)(hE:El x cs.toList):RwAt w ok s El (.slice (aA k) 1 1) [x]:=by
 refine ⟨_,1,by simp,by simp,by omega,fun _=>⟨k,0,rfl,xr,ac h,fun i y hi=>?_⟩⟩
 cases i with
 |zero=>
  simp at hi
  subst hi
  refine ⟨cs.toList,by simpa using hs,hE,fun j v hj=>?_⟩
  rw [aa h]
  simpa using hj
 |succ i=>simp at hi
end
theorem eqS(a b:qB):(a.toList==b.toList)=eqB a b:=by
 rw [ByteArray.toList_eq,ByteArray.toList_eq,Bool.eq_iff_iff,beq_iff_eq,eqB,zau]
 exact ⟨fun h=>WideShapes.bytes_inj h,fun h=>by rw [h]⟩
theorem eqR(s:qB)(l:List UInt8):eqB ⟨l.toArray⟩ s=(l==s.toList):=by
 rw [<-eqS]
 simp [ByteArray.toList_eq]
theorem f9{P:Program}{T e:TypeId}{n:Nat}{i0:TypeInfo}(hT:P.underlying T=some (.array n e))(he:P.underlying e=some .string)(hi:P.info? e=some i0)(hs:i0.size=1)(cs:Array qV)(hn:cs.size=n)(k:Int)(h0:0<=k)(h1:k<n)(w:qW):
  (Instr.index T (.agg cs) (iI k)).run P w= .ok (cs.getD k.toNat undef) w:=by
 have hk:k.toNat<cs.size:=by omega
 have e1:=run_underlying hT w
 have e2:=run_underlying he w
 simp [Instr.index,asIntOf,e1,e2,h0,h1,Go.part,isAgg,sizeOf,typeInfo,hi,hs,zav hk,Array.getD,hk]
def TokEl(t:Tok)(cs:List qV):Prop:=cs=[.string t.text,iI t.line]/\rng t.line/\t.text.size<=1048576
def ExAt(w:qW)(ok:Nat->Prop):Nat->Ex->List qV->Prop
 |0,_,_=>False
 |n+1,e,cs=> ∃pv kv,cs=[iI e.kind,.int .u64 e.n,.string e.name,iI e.op,iI e.order,.string e.var,pv,kv]/\
   RwAt w ok 2 (fun (p:PartD) cs=> ∃iv,cs=[.string p.1,iv]/\RwAt w ok 8 (ExAt w ok n) iv p.2) pv e.parts/\RwAt w ok 8 (ExAt w ok n) kv e.kids/\
   rng e.kind/\e.n<18446744073709551616/\rng e.op/\rng e.order
def PtAt(w:qW)(ok:Nat->Prop)(n:Nat)(p:PartD)(cs:List qV):Prop:= ∃iv,cs=[.string p.1,iv]/\RwAt w ok 8 (ExAt w ok n) iv p.2
def SmAt(w:qW)(ok:Nat->Prop):Nat->Sm->List qV->Prop
 |0,_,_=>False
 |n+1,x,cs=> ∃pv xv tv lv,cs=[iI x.kind,iI x.line,.string x.name,.string x.name2,iI x.order,.string x.var,pv,xv,tv,lv]/\
   RwAt w ok 2 (PtAt w ok 66) pv x.parts/\RwAt w ok 8 (ExAt w ok 66) xv x.exprs/\RwAt w ok 10 (SmAt w ok n) tv x.thn/\RwAt w ok 10 (SmAt w ok n) lv x.els/\
   rng x.kind/\rng x.line/\rng x.order
def VarAt(v:VarD)(cs:List qV):Prop:= ∃k s,v.type=scTy k s/\rng k/\rng s/\cs=[.string v.name,iI k,iI s,.bool false,.slice none 0 0,iI 0,.slice none 0 0]
section
variable{w w':qW}{ok ok':Nat->Prop}
theorem ExAt.keep(hz:w.heap.size<=w'.heap.size)(hb: ∀b,ok b->b<w.heap.size->ok' b/\w'.heap[b]?=w.heap[b]?): ∀(n:Nat) (e:Ex) (cs:List qV),ExAt w ok n e cs->ExAt w' ok' n e cs
 |0,_,_,h=>h
 |n+1,e,cs,⟨pv,kv,h1,h2,h3,h4⟩=>⟨pv,kv,h1,h2.keep hz hb (fun p _ cs ⟨iv,g1,g2⟩=>⟨iv,g1,g2.keep hz hb (fun x _=>ExAt.keep hz hb n x)⟩),h3.keep hz hb (fun x _=>ExAt.keep hz hb n x),h4⟩
theorem PtAt.keep(hz:w.heap.size<=w'.heap.size)(hb: ∀b,ok b->b<w.heap.size->ok' b/\w'.heap[b]?=w.heap[b]?){n:Nat}{p:PartD}{cs:List qV}(h:PtAt w ok n p cs):PtAt w' ok' n p cs:=by
 obtain ⟨iv,g1,g2⟩:=h
 exact ⟨iv,g1,g2.keep hz hb (fun x _=>ExAt.keep hz hb n x)⟩
theorem SmAt.keep(hz:w.heap.size<=w'.heap.size)(hb: ∀b,ok b->b<w.heap.size->ok' b/\w'.heap[b]?=w.heap[b]?): ∀(n:Nat) (e:Sm) (cs:List qV),SmAt w ok n e cs->SmAt w' ok' n e cs
 |0,_,_,h=>h
 |n+1,e,cs,⟨pv,xv,tv,lv,h1,h2,h3,h4,h5,h6⟩=>⟨pv,xv,tv,lv,h1,h2.keep hz hb (fun p _ _=>PtAt.keep hz hb),h3.keep hz hb (fun x _=>ExAt.keep hz hb 66 x),h4.keep hz hb (fun x _=>SmAt.keep hz hb n x),h5.keep hz hb (fun x _=>SmAt.keep hz hb n x),h6⟩
end
theorem ExAt.up{w:qW}{ok:Nat->Prop}: ∀(n m:Nat),n<=m-> ∀(e:Ex) (cs:List qV),ExAt w ok n e cs->ExAt w ok m e cs
 |0,_,_,_,_,h=>h.elim
 |n+1,0,hl,_,_,_=>by omega
 |n+1,m+1,hl,e,cs,⟨pv,kv,h1,h2,h3,h4⟩=>⟨pv,kv,h1,h2.keep (zaq _) (fun _ h _=>⟨h,rfl⟩) (fun p _ cs ⟨iv,g1,g2⟩=>⟨iv,g1,g2.keep (zaq _) (fun _ h _=>⟨h,rfl⟩) (fun x _=>ExAt.up n m Za x)⟩),h3.keep (zaq _) (fun _ h _=>⟨h,rfl⟩) (fun x _=>ExAt.up n m Za x),h4⟩
theorem SmAt.up{w:qW}{ok:Nat->Prop}: ∀(n m:Nat),n<=m-> ∀(e:Sm) (cs:List qV),SmAt w ok n e cs->SmAt w ok m e cs
 |0,_,_,_,_,h=>h.elim
 |n+1,0,hl,_,_,_=>by omega
 |n+1,m+1,hl,e,cs,⟨pv,xv,tv,lv,h1,h2,h3,h4,h5,h6⟩=>⟨pv,xv,tv,lv,h1,h2,h3,h4.keep (zaq _) (fun _ h _=>⟨h,rfl⟩) (fun x _=>SmAt.up n m Za x),h5.keep (zaq _) (fun _ h _=>⟨h,rfl⟩) (fun x _=>SmAt.up n m Za x),h6⟩
end
end Go.Proofs.YtjmfoeajhiimnaaGreatDoor
