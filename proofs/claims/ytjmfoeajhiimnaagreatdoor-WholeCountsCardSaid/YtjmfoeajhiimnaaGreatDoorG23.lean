/- Walks. No condition. -/
import Derived.Deep.Slices
import Derived.Laws.RangeAny
import Derived.Lib.Strings
import Derived.Deep.RegionHeld3
import Derived.Lib.Slices
import Derived.Lib.Walk
import Derived.Lib.Bytealg
import Derived.Test.YtjmfoeajhiimnaaGreatDoorProg
import Derived.Test.YtjmfoeajhiimnaaGreatDoorG15
set_option maxRecDepth 100000
set_option maxHeartbeats 0
set_option linter.all false
namespace Go.Proofs.YtjmfoeajhiimnaaGreatDoor
section
open Go.RowKit Go.Sort
theorem kX(k o:Int)(h:cOrder k o=true)(w:qW):qC 122 #[iI k,iI o] w fun e w'=>e= .returned (.bool true)/\w'=w:=by
 have hc:((k=4\/k=6)/\(o=1\/o=3\/o=4))\/((k=5\/k=15)/\(o=1\/o=2\/o=4))\/((k=16\/k=17\/k=18)/\(o=1\/o=2\/o=3\/o=4))\/(k=7/\(o=2\/o=3\/o=4))\/(¬k=4/\ ¬k=5/\ ¬k=6/\ ¬k=7/\ ¬k=15/\ ¬k=16/\ ¬k=17/\ ¬k=18/\o=0):=by
  unfold cOrder at h
  repeat' split at h
  all_goals (simp at h;omega)
 clear h
 rcases hc with ⟨h1,h2⟩|⟨h1,h2⟩|⟨h1,h2⟩|⟨h1,h2⟩|⟨h1,h2,h3,h4,h5,h6,h7,h8,rfl⟩
 ·rcases h1 with rfl|rfl<;>rcases h2 with rfl|rfl|rfl<;>(go_enter Tryz.func122,Tryz.ntmps122;go_wp2;go_ret;exact ⟨rfl,rfl⟩)
 ·rcases h1 with rfl|rfl<;>rcases h2 with rfl|rfl|rfl<;>(go_enter Tryz.func122,Tryz.ntmps122;go_wp2;go_ret;exact ⟨rfl,rfl⟩)
 ·rcases h1 with rfl|rfl|rfl<;>rcases h2 with rfl|rfl|rfl|rfl<;>(go_enter Tryz.func122,Tryz.ntmps122;go_wp2;go_ret;exact ⟨rfl,rfl⟩)
 ·subst h1;rcases h2 with rfl|rfl|rfl<;>(go_enter Tryz.func122,Tryz.ntmps122;go_wp2;go_ret;exact ⟨rfl,rfl⟩)
 ·go_enter Tryz.func122,Tryz.ntmps122;go_wp2;go_ret;exact ⟨rfl,rfl⟩
theorem cl(a:Option Addr)(c:Nat)(w:qW):qC 183 #[.agg #[.string (⟨#[]⟩:qB),.slice a 0 c]] w (Gives w (.bool true)):=by
 go_enter Tryz.func183,Tryz.ntmps183
 go_wp2
 go_ret
 exact Gives.mk rfl Z25_
def hasV(a b c:Bool)(n:Int)(t u:Bool):qV:= .agg #[.bool a,.bool b,.bool c,iI n,.bool t,.bool u]
theorem vQ(w:qW):qC 182 #[iI 1] w (Gives w (.tuple #[hasV true false false 1 false false,.bool true])):=Z6
theorem vO(w:qW):qC 182 #[iI 2] w (Gives w (.tuple #[hasV true false false 1 false false,.bool true])):=Z6
theorem vN(w:qW):qC 182 #[iI 3] w (Gives w (.tuple #[hasV false false true 1 false false,.bool true])):=Z6
theorem vM(w:qW):qC 182 #[iI 4] w (Gives w (.tuple #[hasV false false true 1 false false,.bool true])):=Z6
theorem vL(w:qW):qC 182 #[iI 5] w (Gives w (.tuple #[hasV true true true 0 false false,.bool true])):=Z6
theorem vK(w:qW):qC 182 #[iI 6] w (Gives w (.tuple #[hasV false false true 2 false false,.bool true])):=Z6
theorem vJ(w:qW):qC 182 #[iI 7] w (Gives w (.tuple #[hasV false false false 0 false false,.bool true])):=Z6
theorem vI(w:qW):qC 182 #[iI 8] w (Gives w (.tuple #[hasV false false false 1 true true,.bool true])):=Z6
theorem vH(w:qW):qC 182 #[iI 9] w (Gives w (.tuple #[hasV false false false 1 true false,.bool true])):=Z6
theorem vP(w:qW):qC 182 #[iI 10] w (Gives w (.tuple #[hasV false false false 1 false false,.bool true])):=Z6
theorem yc5(line o:Int)(nm nm2 var:qB)(pa xa ta ua:Option Addr)(pl pc xc tl tc ul uc:Nat)(w:qW):qC 121 #[.agg #[iI 1,iI line,.string nm,.string (⟨#[]⟩:qB),iI o,.string (⟨#[]⟩:qB),.slice pa 0 pc,.slice xa 1 xc,.slice ta 0 tc,.slice ua 0 uc]] w (Gives w (.bool true)):=by
 have HO:=Zh (fun w=>vQ w)
 have HE:=Zh (fun w=>cl pa pc w)
 unfold hasV at HO
 go_enter Tryz.func121,Tryz.ntmps121
 go_wp2_with (first
  |(go_at_call 182;refine (HO.out _).mono ?_;rintro e w1 ⟨rfl,p,rfl⟩)
  |(go_at_call 183;refine (HE.out _).mono ?_;rintro e w1 ⟨rfl,p2,rfl⟩))
 go_ret
 exact Gives.mk rfl Z3
theorem yc3(line o:Int)(nm nm2 var:qB)(pa xa ta ua:Option Addr)(pl pc xc tl tc ul uc:Nat)(w:qW):qC 121 #[.agg #[iI 2,iI line,.string nm,.string (⟨#[]⟩:qB),iI o,.string (⟨#[]⟩:qB),.slice pa 0 pc,.slice xa 1 xc,.slice ta 0 tc,.slice ua 0 uc]] w (Gives w (.bool true)):=by
 have HO:=Zh (fun w=>vO w)
 have HE:=Zh (fun w=>cl pa pc w)
 unfold hasV at HO
 go_enter Tryz.func121,Tryz.ntmps121
 go_wp2_with (first
  |(go_at_call 182;refine (HO.out _).mono ?_;rintro e w1 ⟨rfl,p,rfl⟩)
  |(go_at_call 183;refine (HE.out _).mono ?_;rintro e w1 ⟨rfl,p2,rfl⟩))
 go_ret
 exact Gives.mk rfl Z3
theorem yc2(line o:Int)(nm nm2 var:qB)(pa xa ta ua:Option Addr)(pl pc xc tl tc ul uc:Nat)(w:qW):qC 121 #[.agg #[iI 3,iI line,.string (⟨#[]⟩:qB),.string (⟨#[]⟩:qB),iI o,.string var,.slice pa pl pc,.slice xa 1 xc,.slice ta 0 tc,.slice ua 0 uc]] w (Gives w (.bool true)):=by
 have HO:=Zh (fun w=>vN w)
 have HE:=Zh (fun w=>cl pa pc w)
 unfold hasV at HO
 go_enter Tryz.func121,Tryz.ntmps121
 go_wp2_with (first
  |(go_at_call 182;refine (HO.out _).mono ?_;rintro e w1 ⟨rfl,p,rfl⟩)
  |(go_at_call 183;refine (HE.out _).mono ?_;rintro e w1 ⟨rfl,p2,rfl⟩))
 go_ret
 exact Gives.mk rfl Z3
theorem yc1(line o:Int)(nm nm2 var:qB)(pa xa ta ua:Option Addr)(pl pc xc tl tc ul uc:Nat)(w:qW):qC 121 #[.agg #[iI 4,iI line,.string (⟨#[]⟩:qB),.string (⟨#[]⟩:qB),iI o,.string var,.slice pa pl pc,.slice xa 1 xc,.slice ta 0 tc,.slice ua 0 uc]] w (Gives w (.bool true)):=by
 have HO:=Zh (fun w=>vM w)
 have HE:=Zh (fun w=>cl pa pc w)
 unfold hasV at HO
 go_enter Tryz.func121,Tryz.ntmps121
 go_wp2_with (first
  |(go_at_call 182;refine (HO.out _).mono ?_;rintro e w1 ⟨rfl,p,rfl⟩)
  |(go_at_call 183;refine (HE.out _).mono ?_;rintro e w1 ⟨rfl,p2,rfl⟩))
 go_ret
 exact Gives.mk rfl Z3
theorem yc0(line o:Int)(nm nm2 var:qB)(pa xa ta ua:Option Addr)(pl pc xc tl tc ul uc:Nat)(w:qW):qC 121 #[.agg #[iI 5,iI line,.string nm,.string nm2,iI o,.string var,.slice pa pl pc,.slice xa 0 xc,.slice ta 0 tc,.slice ua 0 uc]] w (Gives w (.bool true)):=by
 have HO:=Zh (fun w=>vL w)
 have HE:=Zh (fun w=>cl pa pc w)
 unfold hasV at HO
 go_enter Tryz.func121,Tryz.ntmps121
 go_wp2_with (first
  |(go_at_call 182;refine (HO.out _).mono ?_;rintro e w1 ⟨rfl,p,rfl⟩)
  |(go_at_call 183;refine (HE.out _).mono ?_;rintro e w1 ⟨rfl,p2,rfl⟩))
 go_ret
 exact Gives.mk rfl Z3
theorem ycZ(line o:Int)(nm nm2 var:qB)(pa xa ta ua:Option Addr)(pl pc xc tl tc ul uc:Nat)(w:qW):qC 121 #[.agg #[iI 6,iI line,.string (⟨#[]⟩:qB),.string (⟨#[]⟩:qB),iI o,.string var,.slice pa pl pc,.slice xa 2 xc,.slice ta 0 tc,.slice ua 0 uc]] w (Gives w (.bool true)):=by
 have HO:=Zh (fun w=>vK w)
 have HE:=Zh (fun w=>cl pa pc w)
 unfold hasV at HO
 go_enter Tryz.func121,Tryz.ntmps121
 go_wp2_with (first
  |(go_at_call 182;refine (HO.out _).mono ?_;rintro e w1 ⟨rfl,p,rfl⟩)
  |(go_at_call 183;refine (HE.out _).mono ?_;rintro e w1 ⟨rfl,p2,rfl⟩))
 go_ret
 exact Gives.mk rfl Z3
theorem ycY(line o:Int)(nm nm2 var:qB)(pa xa ta ua:Option Addr)(pl pc xc tl tc ul uc:Nat)(w:qW):qC 121 #[.agg #[iI 7,iI line,.string (⟨#[]⟩:qB),.string (⟨#[]⟩:qB),iI o,.string (⟨#[]⟩:qB),.slice pa 0 pc,.slice xa 0 xc,.slice ta 0 tc,.slice ua 0 uc]] w (Gives w (.bool true)):=by
 have HO:=Zh (fun w=>vJ w)
 have HE:=Zh (fun w=>cl pa pc w)
 unfold hasV at HO
 go_enter Tryz.func121,Tryz.ntmps121
 go_wp2_with (first
  |(go_at_call 182;refine (HO.out _).mono ?_;rintro e w1 ⟨rfl,p,rfl⟩)
  |(go_at_call 183;refine (HE.out _).mono ?_;rintro e w1 ⟨rfl,p2,rfl⟩))
 go_ret
 exact Gives.mk rfl Z3
theorem ycX(line o:Int)(nm nm2 var:qB)(pa xa ta ua:Option Addr)(pl pc xc tl tc ul uc:Nat)(w:qW):qC 121 #[.agg #[iI 8,iI line,.string (⟨#[]⟩:qB),.string (⟨#[]⟩:qB),iI o,.string (⟨#[]⟩:qB),.slice pa 0 pc,.slice xa 1 xc,.slice ta tl tc,.slice ua ul uc]] w (Gives w (.bool true)):=by
 have HO:=Zh (fun w=>vI w)
 have HE:=Zh (fun w=>cl pa pc w)
 unfold hasV at HO
 go_enter Tryz.func121,Tryz.ntmps121
 go_wp2_with (first
  |(go_at_call 182;refine (HO.out _).mono ?_;rintro e w1 ⟨rfl,p,rfl⟩)
  |(go_at_call 183;refine (HE.out _).mono ?_;rintro e w1 ⟨rfl,p2,rfl⟩))
 go_ret
 exact Gives.mk rfl Z3
theorem ycW(line o:Int)(nm nm2 var:qB)(pa xa ta ua:Option Addr)(pl pc xc tl tc ul uc:Nat)(w:qW):qC 121 #[.agg #[iI 9,iI line,.string (⟨#[]⟩:qB),.string (⟨#[]⟩:qB),iI o,.string (⟨#[]⟩:qB),.slice pa 0 pc,.slice xa 1 xc,.slice ta tl tc,.slice ua 0 uc]] w (Gives w (.bool true)):=by
 have HO:=Zh (fun w=>vH w)
 have HE:=Zh (fun w=>cl pa pc w)
 unfold hasV at HO
 go_enter Tryz.func121,Tryz.ntmps121
 go_wp2_with (first
  |(go_at_call 182;refine (HO.out _).mono ?_;rintro e w1 ⟨rfl,p,rfl⟩)
  |(go_at_call 183;refine (HE.out _).mono ?_;rintro e w1 ⟨rfl,p2,rfl⟩))
 go_ret
 exact Gives.mk rfl Z3
theorem yc4(line o:Int)(nm nm2 var:qB)(pa xa ta ua:Option Addr)(pl pc xc tl tc ul uc:Nat)(w:qW):qC 121 #[.agg #[iI 10,iI line,.string (⟨#[]⟩:qB),.string (⟨#[]⟩:qB),iI o,.string (⟨#[]⟩:qB),.slice pa 0 pc,.slice xa 1 xc,.slice ta 0 tc,.slice ua 0 uc]] w (Gives w (.bool true)):=by
 have HO:=Zh (fun w=>vP w)
 have HE:=Zh (fun w=>cl pa pc w)
 unfold hasV at HO
 go_enter Tryz.func121,Tryz.ntmps121
 go_wp2_with (first
  |(go_at_call 182;refine (HO.out _).mono ?_;rintro e w1 ⟨rfl,p,rfl⟩)
  |(go_at_call 183;refine (HE.out _).mono ?_;rintro e w1 ⟨rfl,p2,rfl⟩))
 go_ret
 exact Gives.mk rfl Z3
theorem ycU(n:Nat)(op ord:Int)(nm var:qB)(pa ka:Option Addr)(pl pc kc:Nat)(w:qW):qC 239 #[.agg #[iI 1,.int .u64 n,.string (⟨#[]⟩:qB),iI 0,iI ord,.string (⟨#[]⟩:qB),.slice pa 0 pc,.slice ka 0 kc]] w (Gives w (.bool true)):=Z61_
theorem ycT(n:Nat)(op ord:Int)(nm var:qB)(pa ka:Option Addr)(pl pc kc:Nat)(w:qW):qC 239 #[.agg #[iI 2,.int .u64 0,.string nm,iI 0,iI ord,.string (⟨#[]⟩:qB),.slice pa 0 pc,.slice ka 0 kc]] w (Gives w (.bool true)):=Z61_
theorem ycS(n:Nat)(op ord:Int)(nm var:qB)(pa ka:Option Addr)(pl pc kc:Nat)(h1:1<=op)(h2:op<=11)(w:qW):qC 239 #[.agg #[iI 3,.int .u64 0,.string (⟨#[]⟩:qB),iI op,iI ord,.string (⟨#[]⟩:qB),.slice pa 0 pc,.slice ka 2 kc]] w (Gives w (.bool true)):=Z61_
theorem ycR(n:Nat)(op ord:Int)(nm var:qB)(pa ka:Option Addr)(pl pc kc:Nat)(w:qW):qC 239 #[.agg #[iI 4,.int .u64 0,.string (⟨#[]⟩:qB),iI 0,iI ord,.string var,.slice pa pl pc,.slice ka 0 kc]] w (Gives w (.bool true)):=Z61_
theorem ycQ(n:Nat)(op ord:Int)(nm var:qB)(pa ka:Option Addr)(pl pc kc:Nat)(w:qW):qC 239 #[.agg #[iI 5,.int .u64 0,.string (⟨#[]⟩:qB),iI 0,iI ord,.string var,.slice pa pl pc,.slice ka 0 kc]] w (Gives w (.bool true)):=Z61_
theorem ycP(n:Nat)(op ord:Int)(nm var:qB)(pa ka:Option Addr)(pl pc kc:Nat)(w:qW):qC 239 #[.agg #[iI 6,.int .u64 0,.string (⟨#[]⟩:qB),iI 0,iI ord,.string var,.slice pa pl pc,.slice ka 1 kc]] w (Gives w (.bool true)):=Z61_
theorem ycO(n:Nat)(op ord:Int)(nm var:qB)(pa ka:Option Addr)(pl pc kc:Nat)(w:qW):qC 239 #[.agg #[iI 7,.int .u64 0,.string (⟨#[]⟩:qB),iI 0,iI ord,.string var,.slice pa pl pc,.slice ka 1 kc]] w (Gives w (.bool true)):=Z61_
theorem ycN(n:Nat)(op ord:Int)(nm var:qB)(pa ka:Option Addr)(pl pc kc:Nat)(w:qW):qC 239 #[.agg #[iI 8,.int .u64 0,.string (⟨#[]⟩:qB),iI 0,iI ord,.string var,.slice pa pl pc,.slice ka 2 kc]] w (Gives w (.bool true)):=Z61_
end
section
open Go.ChangeShapes Go.WideShapes Go.ChangeAt Go.RowKit
theorem rQ{w:qW}{a:Addr}{v:qV}(h:w.cell? a=some v):a=⟨a.block,a.off,none⟩:=by
 obtain ⟨b,o,s⟩:=a
 cases s with
 |none=>rfl
 |some s=>
  unfold World.cell? at h
  simp only at h
  split at h<;>simp at h
theorem rR{w:qW}{base:Nat}{a:Addr}{n:Nat}{cs:List qV}(h:w.cells? base a n=some cs):cs.length=n/\ ∀i (v:qV),cs[i]?=some v->w.cell? (a.add i)=some v:=by
 unfold World.cells? at h
 split at h
 ·have hl:=mapM_some_length h
  simp at hl
  refine ⟨hl,fun i v hv=>?_⟩
  have hi:i<n:=by
   rcases zaJ i n with hh|hh
   ·exact hh
   ·rw [List.getElem?_eq_none Za] at hv;cases hv
  have:=mapM_some_get h i i (by simp [hi])
  rw [this];exact hv
 ·cases h
def IntsAt(w:qW)(k:IntKind)(a:Option Addr)(l:List Int)(c:Nat):Prop:=
 l.length<=c/\c<=9223372036854775807/\(0<l.length-> ∃b off,a=some ⟨b,off,none⟩/\b<w.heap.size/\ ∀(i:Nat) x,l[i]?=some x->w.cell? ⟨b,off+i,none⟩=some (.int k x))/\ ∀x∈l,(Lit.int k x).wf=true
theorem IntsAt.below{w w':qW}(hb:Below w.heap.size w w'){k:IntKind}{a:Option Addr}{l:List Int}{c:Nat}(h:IntsAt w k a l c):IntsAt w' k a l c:=by
 obtain ⟨h1,h2,h3,h4⟩:=h
 refine ⟨h1,h2,fun h0=>?_,h4⟩
 obtain ⟨b,off,e,xe,hc⟩:=h3 h0
 exact ⟨b,off,e,zar xe hb.size,fun i x hi=>(hb.cell (p:=⟨b,off+i,none⟩) xe).trans (hc i x hi)⟩
section
variable{H:Type}{enc:TypeId×qV->H}{W:qW}
end
end
section
open Go.RowKit Go.Sort
theorem eB(c:UInt8)(w:qW):qC 106 #[.int .u8 c.toNat] w fun e w'=>e= .returned (.bool (isLet c))/\w'=w:=by
 have hc:=UInt8.toNat_lt c
 have HL:=Zh (show isLet c=(decide (97<=c.toNat)&&decide (c.toNat<=122)) from rfl)
 rcases (by omega:c.toNat<97\/97<=c.toNat) with ha|ha
 all_goals
  go_enter Tryz.func106,Tryz.ntmps106
  go_wp2
  go_ret
  refine ⟨?_,rfl⟩
  rw [HL.out]
  simp
  try omega
  try (rw [Bool.eq_iff_iff];simp;omega)
theorem dW(c:UInt8)(w:qW):qC 108 #[.int .u8 c.toNat] w fun e w'=>e= .returned (.bool (isDig c))/\w'=w:=by
 have hc:=UInt8.toNat_lt c
 have HL:=Zh (show isDig c=(decide (48<=c.toNat)&&decide (c.toNat<=57)) from rfl)
 rcases (by omega:c.toNat<48\/48<=c.toNat) with ha|ha
 all_goals
  go_enter Tryz.func108,Tryz.ntmps108
  go_wp2
  go_ret
  refine ⟨?_,rfl⟩
  rw [HL.out]
  simp
  try omega
  try (rw [Bool.eq_iff_iff];simp;omega)
theorem kK(c:UInt8)(w:qW):qC 170 #[.int .u8 c.toNat] w fun e w'=>e= .returned (.bool (isPart c))/\w'=w:=by
 have hc:=UInt8.toNat_lt c
 have HL:=Zh (show isPart c=(isLet c||isDig c||c==95) from rfl)
 have H5:Hid ((c==95)=decide (c.toNat=95)):=Zh (by
  rw [Bool.eq_iff_iff]
  simp
  exact ⟨fun h=>by rw [h];rfl,fun h=>UInt8.toNat_inj.1 h⟩)
 cases hl:isLet c
 all_goals
  cases hd:isDig c
 all_goals
  go_enter Tryz.func170,Tryz.ntmps170
  go_wp2_with (first
   |(go_at_call 106;refine (eB c _).mono ?_;rintro e w' ⟨rfl,rfl⟩)
   |(go_at_call 108;refine (dW c _).mono ?_;rintro e w' ⟨rfl,rfl⟩))
  go_ret
  refine ⟨?_,rfl⟩
  rw [HL.out]
  simp [hl,hd,H5.out]
  try (rw [Bool.eq_iff_iff];simp;omega)
structure LxS where
 at_:Nat
 line:Int
 toks:List Tok
def tkC(t:Tok):List qV:=[.string t.text,iI t.line]
structure LxAt(w:qW)(C:Nat)(t:qB)(s:LxS):Prop where
 lies: ∃v,w.heap[C]?=some (.cells #[.string t,iI s.at_,iI s.line,v] 180 (0,0))/\w.ownsRow (C+1) 119 2 v s.toks.length (s.toks.flatMap tkC)
 le:s.at_<=t.size
 sz:t.size<=1048576
 rl:0<=s.line/\s.line<=s.at_+1
 few:s.toks.length<=s.at_
theorem jd{p:UInt8->Bool}: ∀(l:List UInt8) (n:Nat),n<=l.length->(∀i c,i<n->l[i]?=some c->p c=true)->(∀c,l[n]?=some c->p c=false)->(l.takeWhile p).length=n
 |[],n,h,_,_=>by simp at h;simp [h]
 |x::l,0,h,_,h2=>by simp [List.takeWhile,h2 x rfl]
 |x::l,n+1,h,h1,h2=>by
  rw [List.takeWhile_cons_of_pos (h1 0 x Za rfl),za2,jd l n (by simpa using h) (fun i c hi hc=>h1 (i+1) c Za (by simpa using hc)) (fun c hc=>h2 c (by simpa using hc))]
def runL(t:qB)(a:Nat)(p:UInt8->Bool):Nat:=((t.data.toList.drop a).takeWhile p).length
theorem nS{t:qB}{i:Nat}(h:i<t.size):t.data.toList[i]?=some t[i]:=by
 rw [Array.getElem?_toList]
 exact zav (show i<t.data.size from h)
theorem jW{t:qB}{a n:Nat}{p:UInt8->Bool}(h1:a<=n)(h2:n<=t.size)(h3: ∀i (hi:i<t.size),a<=i->i<n->p t[i]=true)(h4: ∀hn:n<t.size,p t[n]=false):runL t a p=n-a:=by
 have hl:t.data.toList.length=t.size:=zam
 refine jd _ _ (by simp [hl];omega) (fun i c hi hc=>?_) (fun c hc=>?_)
 ·rw [List.getElem?_drop] at hc
  have xe:a+i<t.size:=by rw [<-hl];exact (List.getElem?_eq_some_iff.1 hc).1
  rw [nS xe] at hc
  cases hc
  exact h3 _ _ Za Za
 ·rw [List.getElem?_drop,show a+(n-a)=n by omega] at hc
  have xe:n<t.size:=by rw [<-hl];exact (List.getElem?_eq_some_iff.1 hc).1
  rw [nS xe] at hc
  cases hc
  exact h4 xe
theorem jV{C k:Nat}{t:qB}{s:LxS}{p:UInt8->Bool}(w:qW)(h:LxAt w C t s)(hk:k=170\/k=108)(HF: ∀(c:UInt8) (w:qW),Calls Tryz.prog k #[.int .u8 c.toNat] w fun e w'=>e= .returned (.bool (p c))/\w'=w):
  qC 169 #[pP C,.func (.func k) #[] #[]] w fun e w'=>e= .returned (iI (runL t s.at_ p))/\w'=w:=by
 obtain ⟨v,h1,h2⟩:=h.lies
 have hc:=aa h1
 have zt:=h.le
 have hsz:=h.sz
 have HF:=Zh HF
 clear h h1 h2
 go_enter Tryz.func169,Tryz.ntmps169
 go_wp2_with fail
 go_loopw [5] (fun v5 wr=>wr=w/\ ∃n:Nat,v5=iI n/\s.at_<=n/\n<=t.size/\ ∀i (hi:i<t.size),s.at_<=i->i<n->p t[i]=true) (fun v5 _=>t.size-(intOf v5).toNat)
 case atStart=>exact ⟨rfl,s.at_,rfl,zaq _,zt,fun i _ h1 h2=>by omega⟩
 case round=>
  obtain ⟨rfl,n,rfl,h1,h2,h3⟩:=hrel
  have H3:=Zh h3
  clear h3
  rcases (by omega:n=t.size\/n<t.size) with hn|hn
  ·subst hn
   have HR:=Zh (jW h1 h2 H3.out (fun hn=>by omega))
   go_wp2
   go_ret
   refine ⟨?_,rfl⟩
   rw [HR.out]
   simp
   omega
  ·cases hp:p t[n]
   ·have HR:=Zh (jW h1 h2 H3.out (fun hn=>hp))
    rcases hk with rfl|rfl
    all_goals
     go_wp2_with (first
      |(go_at_call 170;refine (HF.out t[n] _).mono ?_;rintro e w1 ⟨rfl,u'⟩;replace u':=u'.symm;subst u')
      |(go_at_call 108;refine (HF.out t[n] _).mono ?_;rintro e w1 ⟨rfl,u'⟩;replace u':=u'.symm;subst u'))
     go_ret
     refine ⟨?_,rfl⟩
     rw [HR.out]
     simp
     omega
   ·have HN:Hid (∀i (hi:i<t.size),s.at_<=i->i<n+1->p t[i]=true):=Zh (fun i hi g1 g2=>by
     rcases zaJ i n with g3|g3
     ·exact H3.out i hi g1 g3
     ·obtain rfl:i=n:=by omega
      exact hp)
    rcases hk with rfl|rfl
    all_goals
     go_wp2_with (first
      |(go_at_call 170;refine (HF.out t[n] _).mono ?_;rintro e w1 ⟨rfl,u'⟩;replace u':=u'.symm;subst u')
      |(go_at_call 108;refine (HF.out t[n] _).mono ?_;rintro e w1 ⟨rfl,u'⟩;replace u':=u'.symm;subst u'))
     refine ⟨⟨trivial,n+1,by simp,by omega,by omega,HN.out⟩,by simp [intOf];omega⟩
theorem jh:(Tryz.prog.info? 119).map (fun i=>(i.zero,i.size,i.bytes))=some (some (.agg #[.string ⟨#[]⟩,iI 0]),2,24):=by kernel_rfl
def subT(t:qB)(a n:Nat):qB:=t.extract a (a+n)
def takeS(t:qB)(n:Nat)(s:LxS):LxS:=⟨s.at_+n,s.line,s.toks++[⟨subT t s.at_ n,s.line⟩]⟩
theorem eh{C:Nat}{t:qB}{s:LxS}(w:qW)(h:LxAt w C t s)(n:Nat)(h0:0<n)(hn:s.at_+n<=t.size):
  qC 171 #[pP C,iI n] w fun e w'=>e= .returned (.tuple #[])/\LxAt w' C t (takeS t n s)/\Below C w w':=by
 obtain ⟨v,h1,h2⟩:=h.lies
 obtain ⟨i0,xF,xx,xu,xq⟩:=zan jh
 have hc:=aa h1
 have hf:=ah h1
 have xe:=ac h1
 have zt:=h.le
 have hsz:=h.sz
 have EL:=h.few
 have hw:IntKind.i64.wrap ((s.at_:Int)+(n:Int))=(s.at_:Int)+n:=IntWalk.i64_in _ Za
 have h5:(0:Int)<=(s.at_:Int)+n:=by omega
 have h6:(s.at_:Int)+n<=t.size:=by omega
 have h7:(s.at_:Int)<=(s.at_:Int)+n:=by omega
 have h8:((s.at_:Int)+n).toNat=s.at_+n:=by omega
 have HO:=Zh h2
 have H1:=Zh h1
 clear h1 h2
 go_enter Tryz.func171,Tryz.ntmps171
 go_wp2_with fail
 have yg:=Zh (fun W (hW:Below w.heap.size w W)=>ax HO.out (fun g hg=>hW.block g (HO.out.lt g hg).2))
 have hA:w.drew.cell? (aB C 0)=some (.string t)/\w.drew.cell? (aB C 1)=some (iI s.at_)/\w.drew.cell? (aB C 2)=some (iI s.line):=⟨hc 0,hc 1,hc 2⟩
 have hB:w.drew.cell? (aB C 3)=some v:=hc 3
 refine ae (fun W=>W.cell? (aB C 0)=some (.string t)/\W.cell? (aB C 1)=some (iI s.at_)/\W.cell? (aB C 2)=some (iI s.line)) (fun W=>W.cell? (aB C 3)=some v) 29 rfl ?_
 refine Zp 0 rfl (h:=Zp 1 rfl (h:=Zp 2 rfl (h:=Zp 3 rfl (h:=Zl 4 [26,29] rfl (h:=Zp 5 rfl (h:=Zp 6 rfl (h:=Zp 7 rfl (h:=Zt 8 rfl (h:=Zp 9 rfl (h:=Zp 10 rfl (h:=Zp 11 rfl (h:=Zt 12 rfl (h:=Zp 13 rfl (h:=Zp 14 rfl (h:=Zp 15 rfl (h:=Zt 16 rfl (h:=Zp 17 rfl (h:=Zp 18 rfl (h:=Zp 19 rfl (h:=Zp 20 rfl (h:=Zp 21 rfl (h:=Zp 22 rfl (h:=Zt 23 rfl (h:=Zp 24 rfl (h:=?_)))))))))))))))))))))))));try simp only [Zq]
 refine Zs 25 rfl fun K hK=>?_
 go_simp
 refine hK _ _ ⟨⟨(aj xe).trans (hc 0),(aj xe).trans (hc 1),(aj xe).trans (hc 2)⟩,fun _=>(aj xe).trans (hc 3)⟩ ?_
 refine Zs 26 rfl fun K hK=>?_
 refine bf (.tmp 8) (.tmp 29) 115 119 i0 _ 2 24 Tryz.underlying115 xF xx xu xq rfl Zd rfl rfl (C+1) v s.toks.length (s.toks.flatMap tkC) (yg.out _ (by repeat (first|exact zaa _ _|apply ab|apply ag))) w.heap.size #[.string (t.extract s.at_ (s.at_+n)),iI s.line] 119 (0,0) (zab _ _) ZA ZA rfl ZD Za Za Zk ?_
 intro g2 cap2 w2 hown xb xk xE
 have xo:Below w.heap.size w (w.drew.alloc (.cells #[.string (t.extract s.at_ (s.at_+n)),iI s.line] 119)):=ab (ag (zaa _ _)) _
 obtain ⟨k1,k2⟩:=uZ (yg.out _ xo) xb (b:=C) Za Zk
 have kc: ∀o,w2.cell? (aB C o)=#[Value.string t,iI s.at_,iI s.line,v][o]?:=fun o=>(k1 o).trans ((aj xe).trans (hc o))
 have kf: ∀o,w2.frozen? (aB C o)=false:=fun o=>(k2 o).trans ((ydV xe).trans (hf o))
 have HG:=Zh xb
 have xU:=Zh hown
 have FM:=Zh xk
 clear hown xb xk k1 k2 xo
 refine hK _ _ ⟨⟨kc 0,kc 1,kc 2⟩,fun _=>kc 3⟩ ?_
 clear hK K hA hB
 have hA:w2.cell? (aB C 0)=some (.string t)/\w2.cell? (aB C 1)=some (iI s.at_)/\w2.cell? (aB C 2)=some (iI s.line):=⟨kc 0,kc 1,kc 2⟩
 have hB:w2.cell? (aB C 3)=some v:=kc 3
 refine Zp 27 rfl (h:=Zp 28 rfl (h:=?_));try simp only [Zq]
 refine Zs 29 rfl fun K hK=>?_
 go_simp
 refine hK _ _ ⟨?_,fun hh=>Bool.noConfusion (hh.symm.trans (show _=true by kernel_rfl))⟩ ?_
 ·show _/\_/\_
  refine ⟨?_,?_,?_⟩<;>simp [go_sem,kc]
 refine af Zb ?_ _
 have q1:w2.cell? (aB C 1)=some (iI s.at_):=kc 1
 have f1:=kf 1
 go_wp2
 go_end0
 have hG:=HG.out
 have hO:=HO.out
 have xA:w2.heap[C]?=some (.cells #[.string t,iI s.at_,iI s.line,v] 180 (0,0)):=(hG.block C Zk (fun e=>by have:=(hO.lt C e.symm).1;omega)).trans ((zac _ _ xe).trans H1.out)
 have ea:(((takeS t n s).at_:Nat):Int)=(s.at_:Int)+n:=by simp [takeS]
 refine ⟨rfl,⟨⟨.slice (aA g2) (s.toks.length+1) cap2,?_,?_⟩,?_,hsz,?_,?_⟩,?_⟩
 ·rw [ea]
  exact aJ (aJ xA _) _
 ·have ho:=xU.out
  have Ew:=(ho.lt g2 rfl).1
  have e1:(takeS t n s).toks.flatMap tkC=s.toks.flatMap tkC++[.string (t.extract s.at_ (s.at_+n)),iI s.line]:=by simp [takeS,tkC,subT]
  have e2:(takeS t n s).toks.length=s.toks.length+1:=by simp [takeS]
  rw [e1,e2]
  refine ax ho (fun g hg=>?_)
  obtain rfl:g2=g:=by simpa [Value.ownBlock] using hg
  rw [zas _ _ _ _ (by simp only [];omega),zas _ _ _ _ (by simp only [];omega)]
 ·simp [takeS];omega
 ·have:=h.rl
  simp [takeS]
  omega
 ·simp [takeS];omega
 ·have xo:Below C w ((w.alloc (.cells #[.string (t.extract s.at_ (s.at_+n)),iI s.line] 119)).drew):=⟨rfl,rfl,rfl,by simp [World.drew],fun k hk=>zac _ _ Za⟩
  have h2:=xo.grown hG (by simp [World.drew];omega) (fun g hg=>by have:=(hO.lt g hg).1;omega)
  exact (h2.setCell (zaq _) _).setCell (zaq _) _
theorem tY(s p:qB)(w:qW):qC 230 #[.string s,.string p] w fun e w'=>e= .returned (.bool (Lib.hasPrefix s.data.toList p.data.toList))/\w'=w:=by
 rw [<-Lib.hasPrefix_of_take,<-Lib.size_eq,<-Lib.size_eq]
 go_enter Tryz.func230,Tryz.ntmps230
 go_wp2
 ·rename_i h
  go_ret
  refine ⟨?_,rfl⟩
  show Ending.returned (Value.bool ((s.extract 0 p.size).toList==p.toList))=_
  rw [Lib.extract_toList,Lib.toList_data]
  simp [h]
 ·rename_i h
  go_ret
  refine ⟨?_,rfl⟩
  show Ending.returned (Value.bool false)=_
  simp [h]
theorem yco(s p:qB)(w:qW):qC 172 #[.string s,.string p] w fun e w'=>e= .returned (.bool (Lib.hasPrefix s.data.toList p.data.toList))/\w'=w:=by
 go_enter Tryz.func172,Tryz.ntmps172
 go_wp2_with (go_at_call 230;refine (tY _ _ _).mono ?_;rintro e w1 ⟨rfl,u'⟩;replace u':=u'.symm;subst u')
 go_ret
 exact ⟨rfl,rfl⟩
theorem yb1(s:qB)(c:Int)(w:qW):qC 231 #[.string s,.int .u8 c] w fun e w'=>e= .returned (iI (Lib.indexByte s.data.toList c.toNat.toUInt8))/\w'=w:=by
 go_enter Tryz.func231,Tryz.ntmps231
 go_wp2
 rw [run_callFunc_extern Tryz.func279 Zb Zb Zb (e:=Extern.BytealgIndexByte.indexByte) Zb,Lib.run_indexByteString]
 simp only [Result.andThen]
 rw [Oper.upon_value]
 go_wp2
 go_ret
 exact ⟨rfl,rfl⟩
theorem yb2(s:qB)(c:Int)(w:qW):qC 173 #[.string s,.int .u8 c] w fun e w'=>e= .returned (iI (Lib.indexByte s.data.toList c.toNat.toUInt8))/\w'=w:=by
 go_enter Tryz.func173,Tryz.ntmps173
 go_wp2_with (go_at_call 231;refine (yb1 _ _ _).mono ?_;rintro e w1 ⟨rfl,u'⟩;replace u':=u'.symm;subst u')
 go_ret
 exact ⟨rfl,rfl⟩
theorem gh(t:qB)(a:Nat)(p:UInt8->Bool)(h:a<=t.size):a+runL t a p<=t.size:=by
 have h1:=(List.takeWhile_sublist p (l:=t.data.toList.drop a)).length_le
 have h2:t.data.toList.length=t.size:=zam
 rw [List.length_drop,h2] at h1
 unfold runL
 omega
theorem mZ{t:qB}{a b i:Nat}(h:i<(t.extract a b).size)(h2:a+i<t.size):(t.extract a b)[i]'h=t[a+i]:=by
 show (t.extract a b).data[i]'h=t.data[a+i]'h2
 have e:(t.extract a b).data=t.data.extract a b:=by simp
 have:(t.extract a b).data[i]?=t.data[a+i]?:=by
  rw [e,Array.getElem?_extract]
  have h3:i<(t.extract a b).size:=h
  rw [ByteArray.size_extract] at h3
  have hs:t.data.size=t.size:=rfl
  rw [if_pos Za]
 rw [zav (show i<(t.extract a b).data.size from h),zav (show a+i<t.data.size from h2)] at this
 exact zae this
theorem LxAt.below{w W:qW}{C:Nat}{t:qB}{s:LxS}(h:LxAt w C t s)(hb:Below w.heap.size w W):LxAt W C t s:=by
 obtain ⟨⟨v,g1,g2⟩,h2,h3,h4,h5⟩:=h
 exact ⟨⟨v,(hb.block C (ac g1)).trans g1,ax g2 (fun g hg=>hb.block g (g2.lt g hg).2)⟩,h2,h3,h4,h5⟩
theorem eV(t:qB)(a n:Nat):(subT t a n).data.toList=(t.data.toList.drop a).take n:=by
 have e:(subT t a n).data=t.data.extract a (a+n):=by simp [subT]
 rw [e,Array.toList_extract,List.extract_eq_take_drop]
 simp
theorem fd(t:qB)(a:Nat)(p:UInt8->Bool):(subT t a (runL t a p)).data.toList=(t.data.toList.drop a).takeWhile p:=by
 rw [eV]
 unfold runL
 exact ((List.prefix_iff_eq_take.1 (List.takeWhile_prefix p))).symm
def Lxd(C:Nat)(t:qB)(w:qW)(v:qV)(s:LxS)(e:Ending)(w':qW):Prop:=e= .returned v/\LxAt w' C t s/\Below C w w'
theorem oW{C:Nat}{t:qB}{s:LxS}(w:qW)(h:LxAt w C t s)(h0:0<runL t s.at_ isPart)(h1:runL t s.at_ isPart<=16):
  qC 107 #[pP C] w (Lxd C t w (.bool true) (takeS t (runL t s.at_ isPart) s)):=by
 have zt:=gh t s.at_ isPart h.le
 have HR:=Zh (fun W h=>jV (k:=170) (s:=s) (C:=C) (t:=t) (p:=isPart) W h (.inl rfl) kK)
 have HT:=Zh (fun W h=>eh (s:=s) (C:=C) (t:=t) W h (runL t s.at_ isPart) h0 zt)
 have H:=Zh h
 generalize runL t s.at_ isPart=n at*
 clear h
 go_enter Tryz.func107,Tryz.ntmps107
 go_wp2_with (first
  |(go_at_call 169;refine (HR.out _ H.out).mono ?_;rintro e w1 ⟨rfl,u'⟩;replace u':=u'.symm;subst u')
  |(go_at_call 171;refine (HT.out _ H.out).mono ?_;rintro e w1 ⟨rfl,hL,hB⟩;have HL:=Zh hL;have HB:=Zh hB;clear hL hB))
 go_ret
 exact ⟨rfl,HL.out,HB.out⟩
theorem wM{C:Nat}{t:qB}{s:LxS}(w:qW)(h:LxAt w C t s)(h0:0<runL t s.at_ isDig)(h1:dval (subT t s.at_ (runL t s.at_ isDig)).data.toList<18446744073709551616)
  (h2:runL t s.at_ isDig=1\/ ∀hi:s.at_<t.size,t[s.at_]≠48) (h3: ∀hi:s.at_+runL t s.at_ isDig<t.size,isPart t[s.at_+runL t s.at_ isDig]=false):
  qC 109 #[pP C] w (Lxd C t w (.bool true) (takeS t (runL t s.at_ isDig) s)):=by
 have zt:=gh t s.at_ isDig h.le
 have HR:=Zh (fun W h=>jV (k:=108) (s:=s) (C:=C) (t:=t) (p:=isDig) W h (.inr rfl) dW)
 have HT:=Zh (fun W h=>eh (s:=s) (C:=C) (t:=t) W h (runL t s.at_ isDig) h0 zt)
 have xw: ∀c∈(subT t s.at_ (runL t s.at_ isDig)).data.toList,isDig c=true:=by
  intro c hc
  rw [fd] at hc
  exact List.all_eq_true.1 List.all_takeWhile c hc
 have GR:digits (subT t s.at_ (runL t s.at_ isDig))=true:=by
  have e:(subT t s.at_ (runL t s.at_ isDig)).data.toList.length=runL t s.at_ isDig:=by rw [fd];rfl
  unfold digits head?
  rw [<-Array.getElem?_toList]
  rcases hq:(subT t s.at_ (runL t s.at_ isDig)).data.toList with _|⟨c,r⟩
  ·rw [hq] at e
   simp at e
   omega
  ·exact xw c (by rw [hq];simp)
 have Lg:(subT t s.at_ (runL t s.at_ isDig)).size<=1048576:=by
  have e:(subT t s.at_ (runL t s.at_ isDig)).data.toList.length=runL t s.at_ isDig:=by rw [fd];rfl
  rw [Go.Lib.size_eq,e]
  have:=h.sz
  omega
 have HP:=Zh (fun W=>ku (subT t s.at_ (runL t s.at_ isDig)) W GR xw h1 Lg)
 clear xw GR h1 Lg
 have H:=Zh h
 have KW:=Zh (fun (W:qW) (p:Regrown) (h:LxAt W C t s)=>h)
 obtain ⟨v,g1,g2⟩:=h.lies
 have hc:=aa g1
 have hsz:=h.sz
 have OB:=h.le
 have xe:=ac g1
 clear h g1 g2 KW
 generalize runL t s.at_ isDig=n at*
 have hw:IntKind.i64.wrap ((s.at_:Int)+(n:Int))=(s.at_:Int)+n:=IntWalk.i64_in _ Za
 have h5:(0:Int)<=(s.at_:Int)+n:=by omega
 have h6:(s.at_:Int)+n<=t.size:=by omega
 have h7:(s.at_:Int)<=(s.at_:Int)+n:=by omega
 have h8:((s.at_:Int)+n).toNat=s.at_+n:=by omega
 go_enter Tryz.func109,Tryz.ntmps109
 go_wp2_with (first
  |(go_at_call 169;refine (HR.out _ H.out).mono ?_;rintro e w1 ⟨rfl,u'⟩;replace u':=u'.symm;subst u'))
 have c0:w.drew.cell? (aB C 0)=some (.string t):=hc 0
 have c1:w.drew.cell? (aB C 1)=some (iI s.at_):=hc 1
 go_region_held3 (fun W=>W.cell? (aB C 0)=some (.string t)/\W.cell? (aB C 1)=some (iI s.at_)) (first|(refine ⟨?_,?_⟩<;>assumption)|(simp [go_sem,↓IntWalk.iteOmega, *];done)) (fail)
 have zZ:Hid (∀(W:qW),qC 68 #[.string (t.extract s.at_ (s.at_+n)),iI 10,iI 64] W (Gives W (.tuple #[.int .u64 (dval (subT t s.at_ n).data.toList),.nilIface]))):=HP
 clear HP c0 c1
 have DB:(t.extract s.at_ (s.at_+n)).size=n:=by rw [ByteArray.size_extract];omega
 have hx:n<=1\/(1<n/\ ∃h:0<(t.extract s.at_ (s.at_+n)).size,((t.extract s.at_ (s.at_+n))[0]'h).toNat≠48):=by
  rcases (by omega:n<=1\/1<n) with h|h
  ·exact .inl h
  ·rcases h2 with h2|h2
   ·omega
   ·refine .inr ⟨h,by omega,fun e=>h2 Za (UInt8.toNat_inj.1 ?_)⟩
    rw [mZ _ Za] at e
    exact e
 clear h2
 generalize t.extract s.at_ (s.at_+n)=tx at*
 have BO:(t.extract (s.at_+n) t.size).size=t.size-(s.at_+n):=by rw [ByteArray.size_extract];omega
 have Da: ∀hi:s.at_+n<t.size,∃h:0<(t.extract (s.at_+n) t.size).size,(t.extract (s.at_+n) t.size)[0]'h=t[s.at_+n]:=fun hi=>⟨by omega,mZ _ Za⟩
 have hr:s.at_+n=t.size\/(s.at_+n<t.size/\ ∃h:0<(t.extract (s.at_+n) t.size).size,isPart ((t.extract (s.at_+n) t.size)[0]'h)=false):=by
  rcases (by omega:s.at_+n=t.size\/s.at_+n<t.size) with h|h
  ·exact .inl h
  ·obtain ⟨g,e⟩:=Da h
   exact .inr ⟨h,g,by rw [e];exact h3 h⟩
 clear Da h3
 rcases hx with hx|⟨Eg,Cx,hx⟩
 all_goals
  go_wp2_with (first
   |(go_at_call 68;refine (zZ.out _).mono ?_;rintro e w1 ⟨rfl,p,rfl⟩))
  have hb:=aG (ag (zaa w.heap.size w)) p
  have c0:(more w.drew p).drew.cell? (aB C 0)=some (.string t):=(hb.cell (p:=⟨C,0,none⟩) xe).trans (hc 0)
  have c1:(more w.drew p).drew.cell? (aB C 1)=some (iI s.at_):=(hb.cell (p:=⟨C,1,none⟩) xe).trans (hc 1)
  have HB:=Zh hb
  clear hb
  generalize more w.drew p=W1 at*
  go_region_held3 (fun W=>W.cell? (aB C 0)=some (.string t)/\W.cell? (aB C 1)=some (iI s.at_)) (first|(refine ⟨?_,?_⟩<;>assumption)|(simp [go_sem,↓IntWalk.iteOmega, *];done)) (fail)
  have xV:Hid (Below w.heap.size w W1.drew):=Zh (ag HB.out)
  generalize W1.drew=W2 at*
  generalize t.extract (s.at_+n) t.size=rx at*
  rcases hr with hr|⟨yh,yL,IC⟩
  ·have NT:rx.toList=[]:=by
    rw [ByteArray.toList_eq]
    exact List.eq_nil_of_length_eq_zero (by have e:rx.data.toList.length=rx.size:=zam;omega)
   go_wp2_with (first
    |(go_at_call 171;refine (HT.out _ (H.out.below xV.out)).mono ?_;rintro e w1 ⟨rfl,hL,hB⟩;have HL:=Zh hL;have Ay:=Zh hB;clear hL hB))
   go_ret
   exact ⟨rfl,HL.out,⟨Ay.out.os.trans xV.out.os,Ay.out.tape.trans xV.out.tape,Ay.out.output.trans xV.out.output,zal xV.out.size Ay.out.size,fun k hk=>(Ay.out.block k hk).trans (xV.out.block k Za)⟩⟩
  ·have NT:rx.toList≠[]:=by
    rw [ByteArray.toList_eq]
    intro e0
    have e:rx.data.toList.length=rx.size:=zam
    rw [e0] at e
    simp at e
    omega
   go_wp2_with (first
    |(go_at_call 170;refine (kK _ _).mono ?_;rintro e w1 ⟨rfl,u'⟩;replace u':=u'.symm;subst u')
    |(go_at_call 171;refine (HT.out _ (H.out.below xV.out)).mono ?_;rintro e w1 ⟨rfl,hL,hB⟩;have HL:=Zh hL;have Ay:=Zh hB;clear hL hB))
   go_ret
   exact ⟨rfl,HL.out,⟨Ay.out.os.trans xV.out.os,Ay.out.tape.trans xV.out.tape,Ay.out.output.trans xV.out.output,zal xV.out.size Ay.out.size,fun k hk=>(Ay.out.block k hk).trans (xV.out.block k Za)⟩⟩
end
end Go.Proofs.YtjmfoeajhiimnaaGreatDoor
