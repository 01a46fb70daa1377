/- Walks. No condition. -/
import Derived.Laws.StructEq
import Derived.Laws.BitsAllLaws
import Derived.Test.YtcekjfmfcefjpaaGreatDoorProg
import Derived.Test.YtcekjfmfcefjpaaGreatDoorG00
set_option maxRecDepth 100000
set_option maxHeartbeats 0
set_option linter.all false
namespace Go.Proofs.YtcekjfmfcefjpaaGreatDoor
def numK(l:List Nat):Nat->Nat
 |0=>0
 |k+1=>numK l k+l.getD k 0*256^k
def Small(l:List Nat):Prop:= ∀k:Nat,l.getD k 0<256
theorem ek(l:List Nat)(h:Small l): ∀k,numK l k<256^k
 |0=>by simp [numK]
 |k+1=>by
  have h1:=ek l h k
  have h2:=h k
  have h3:l.getD k 0*256^k<=255*256^k:=Nat.mul_le_mul_right _ Za
  unfold numK
  rw [Nat.pow_succ]
  omega
theorem ycB(l:List Nat)(k:Nat)(h:l.length<=k):l.getD k 0=0:=by simp [List.getD,List.getElem?_eq_none h]
theorem vQ(l:List Nat)(k:Nat)(h:l.length<=k):numK l (k+1)=numK l k:=by
 show numK l k+l.getD k 0*256^k=numK l k
 rw [ycB l k h,Nat.zero_mul,Nat.add_zero]
theorem vR(l:List Nat)(h:l.length<=8):numK l l.length=numK l 8:=by
 have key: ∀d,numK l (l.length+d)=numK l l.length:=by
  intro d
  induction d with
  |zero=>rfl
  |succ d ih=>rw [<-Nat.add_assoc,vQ l _ Za,ih]
 have:=key (8-l.length)
 rw [<-this]
 congr 1
 omega
theorem km(k:Nat):256^k=2^(8*k):=by rw [Nat.pow_mul]
theorem vO(l:List Nat)(hl:Small l)(k:Nat)(hk:k<8):(numK l k|||(l.getD k 0*2^(8*k)%18446744073709551616))=numK l (k+1):=by
 have h1:=ek l hl k
 have h2:=ek l hl (k+1)
 have h3:256^(k+1)<=256^8:=zaQ Zg Za
 have h4:numK l (k+1)=numK l k+l.getD k 0*2^(8*k):=by rw [<-km];rfl
 rw [Nat.mod_eq_of_lt Za,Nat.or_comm,nat_join (8*k) _ _ (Nat.mul_mod_left _ _) (by rw [<-km];exact h1),h4,Nat.add_comm]
theorem vS(l:List Nat)(hl:Small l)(k:Nat)(hk:k<=8):numK l k<18446744073709551616:=by
 have h1:=ek l hl k
 have h3:256^k<=256^8:=zaQ Zg Za
 omega
end Go.Proofs.YtcekjfmfcefjpaaGreatDoor
namespace Go.Proofs.YtcekjfmfcefjpaaGreatDoor
open Go.RowKit
theorem vP(l:List Nat)(hl:Small l)(k:Nat)(hk:k<8):
  bits BinOp.or IntKind.u64 (numK l k:Int) (IntKind.u64.wrap ((l.getD k 0:Int)*2^(8*k)))=(numK l (k+1):Int):=by
 rw [oB,u64_or_nat _ _ (vS l hl k Za) (zaL _ Zg),vO l hl k hk]
def byteC(l:List Nat)(k:Nat):qV:= .int .u8 (l.getD k 0:Nat)
theorem kZ(b off cap:Nat)(l:List Nat)(hl:Small l)(h:l.length<=cap)(hm:cap<=9223372036854775807)(h2:l.length<=8)(w:qW)(hc: ∀k,k<l.length->w.cell? ⟨b,off+k,none⟩=some (byteC l k)):
  qC 50 #[.slice (some ⟨b,off,none⟩) l.length cap] w fun e w'=>e= .returned (.int .u64 (numK l 8))/\w=w':=by
 have HE:=Zh (vR l h2)
 have HL:=Zh hl
 have HC:=Zh hc
 clear hc hl
 obtain ⟨len,wX⟩: ∃len,len=l.length:=⟨_,rfl⟩
 have HN:=Zh wX
 rw [<-wX] at h h2 ⊢
 clear wX
 go_enter Tryz.func50,Tryz.ntmps50
 go_wp2
 go_loop [3,12] (fun x i=> ∃k:Nat,k<=len/\i=iI k/\x= .int .u64 (numK l k)) (fun _ i=>len-(intOf i).toNat)
 case atStart=>exact ⟨0,by omega,rfl,rfl⟩
 case round=>
  obtain ⟨k,hk,rfl,rfl⟩:=hrel
  by_cases wY:(k:Int)<len
  ·have yp:=HC.out k (by have:=HN.out;omega)
   unfold byteC at yp
   have H:=Zh (vP l HL.out k Za)
   obtain ⟨c,wZ⟩: ∃c,c=l.getD k 0:=⟨_,rfl⟩
   have hs:c<256:=by rw [wZ];exact HL.out k
   rw [<-wZ] at yp H
   clear wZ
   go_wp2
   go_round
   case rel=>exact ⟨k+1,by omega,by go_num,by rw [<-H.out]⟩
   case measure=>simp [intOf];omega
  ·obtain rfl:k=len:=by omega
   go_wp2
   go_ret
   exact ⟨sh (by rw [<-HE.out,<-HN.out]),rfl⟩
def sndB(a l:Int):Bool:=decide (0<=a/\a<=1099511627776/\0<=l/\l<=1048576)
theorem ri{a l:Int}(h:sndB a l=true):0<=a/\a<=1099511627776/\0<=l/\l<=1048576:=of_decide_eq_true h
theorem db{a b:Bool}(h:a=b):Ending.returned (.bool a)= .returned (.bool b):=by rw [h]
theorem dx(w:qW)(o:Obj):Below w.heap.size w (w.alloc o):=(zaa _ _).alloc (zaq _) _
theorem re(a l:Int)(w:qW):
  qC 127 #[.agg #[iI a,iI l]] w fun e w'=>e= .returned (.bool (sndB a l))/\Below w.heap.size w w':=by
 by_cases h1:0<=a
 case neg=>
  have H:Hid (sndB a l=false):=Zh (zax Za)
  go_enter Tryz.func127,Tryz.ntmps127
  go_wp2
  go_ret
  exact ⟨db (by rw [H.out]),dx _ _⟩
 by_cases h2:a<=1099511627776
 case neg=>
  have H:Hid (sndB a l=false):=Zh (zax Za)
  go_enter Tryz.func127,Tryz.ntmps127
  go_wp2
  go_ret
  exact ⟨db (by rw [H.out]),dx _ _⟩
 by_cases h3:0<=l
 case neg=>
  have H:Hid (sndB a l=false):=Zh (zax Za)
  go_enter Tryz.func127,Tryz.ntmps127
  go_wp2
  go_ret
  exact ⟨db (by rw [H.out]),dx _ _⟩
 by_cases h4:l<=1048576
 case neg=>
  have H:Hid (sndB a l=false):=Zh (zax Za)
  go_enter Tryz.func127,Tryz.ntmps127
  go_wp2
  go_ret
  exact ⟨db (by rw [H.out]),dx _ _⟩
 have H:Hid (sndB a l=true):=Zh (zaw Za)
 go_enter Tryz.func127,Tryz.ntmps127
 go_wp2
 go_ret
 exact ⟨db (by rw [H.out]),dx _ _⟩
theorem iu(f t:Int)(w:qW):
  qC 88 #[.agg #[iI f,iI t]] w fun e w'=>e= .returned (.bool (f==t))/\Below w.heap.size w w':=by
 go_enter Tryz.func88,Tryz.ntmps88
 go_wp2
 go_ret
 exact ⟨rfl,dx _ _⟩
def loI(a l:Int):Int:=if sndB a l then a else 0
def hiI(a l:Int):Int:=if sndB a l then a+l else 0
theorem cT{w w1:qW}{o:Obj}(h:Below (w.alloc o).heap.size (w.alloc o) w1):Below w.heap.size w w1:=bQ (dx w o) h
theorem ff(a l:Int)(w:qW):
  qC 87 #[.agg #[iI a,iI l]] w fun e w'=>e= .returned (.agg #[iI (loI a l),iI (hiI a l)])/\Below w.heap.size w w':=by
 have A1:=Zh (re a l)
 cases h:sndB a l
 ·have H1:Hid (loI a l=0):=by unfold loI;rw [h];exact Zh rfl
  have H2:Hid (hiI a l=0):=by unfold hiI;rw [h];exact Zh rfl
  rw [h] at A1
  clear h
  go_enter Tryz.func87,Tryz.ntmps87
  go_wp2_with fail
  refine (A1.out _).mono ?_
  rintro e w1 ⟨rfl,hb⟩
  have d0:=hb.cell (p:=⟨w.heap.size,0,none⟩) Zk
  have d1:=hb.cell (p:=⟨w.heap.size,1,none⟩) Zk
  have d2:=hb.cell (p:=⟨w.heap.size+1,0,none⟩) Zi
  have d3:=hb.cell (p:=⟨w.heap.size+1,1,none⟩) Zi
  have f2:=hb.frozen (p:=⟨w.heap.size+1,0,none⟩) Zi
  have f3:=hb.frozen (p:=⟨w.heap.size+1,1,none⟩) Zi
  simp at d0 d1 d2 d3 f2 f3
  have HB:=Zh (cT (cT hb))
  clear hb
  go_wp2_with fail
  rw [H1.out,H2.out]
  refine zad (v:= .agg #[iI 0,iI 0]) (by simp [results,Tryz.results87,go_sem,d2,d3]) rfl ⟨rfl,?_⟩
  exact (HB.out.setCell Zi _).setCell Zi _
 ·have H1:Hid (loI a l=a):=by unfold loI;rw [h];exact Zh rfl
  have H2:Hid (hiI a l=(a+l)):=by unfold hiI;rw [h];exact Zh rfl
  have hs:=ri h
  rw [h] at A1
  clear h
  go_enter Tryz.func87,Tryz.ntmps87
  go_wp2_with fail
  refine (A1.out _).mono ?_
  rintro e w1 ⟨rfl,hb⟩
  have d0:=hb.cell (p:=⟨w.heap.size,0,none⟩) Zk
  have d1:=hb.cell (p:=⟨w.heap.size,1,none⟩) Zk
  have d2:=hb.cell (p:=⟨w.heap.size+1,0,none⟩) Zi
  have d3:=hb.cell (p:=⟨w.heap.size+1,1,none⟩) Zi
  have f2:=hb.frozen (p:=⟨w.heap.size+1,0,none⟩) Zi
  have f3:=hb.frozen (p:=⟨w.heap.size+1,1,none⟩) Zi
  simp at d0 d1 d2 d3 f2 f3
  have HB:=Zh (cT (cT hb))
  clear hb
  go_wp2_with fail
  rw [H1.out,H2.out]
  refine zad (v:= .agg #[iI a,iI (a+l)]) (by simp [results,Tryz.results87,go_sem,d2,d3]) rfl ⟨rfl,?_⟩
  exact (HB.out.setCell Zi _).setCell Zi _
def bLo(f t g u:Int):Int:=if min t u<=max f g then 0 else max f g
def bHi(f t g u:Int):Int:=if min t u<=max f g then 0 else min t u
theorem yey(f t g u:Int)(w:qW)(h1:f<g)(h2:t<=u)(h3:t<=g):qC 89 #[.agg #[iI f,iI t],.agg #[iI g,iI u]] w fun e w'=>e= .returned (.agg #[iI (bLo f t g u),iI (bHi f t g u)])/\Below w.heap.size w w':=Z63_
theorem yex(f t g u:Int)(w:qW)(h1:f<g)(h2:t<=u)(h3:g<t):qC 89 #[.agg #[iI f,iI t],.agg #[iI g,iI u]] w fun e w'=>e= .returned (.agg #[iI (bLo f t g u),iI (bHi f t g u)])/\Below w.heap.size w w':=by
 have H1:Hid (bLo f t g u=g):=by unfold bLo;exact Zh Za
 have H2:Hid (bHi f t g u=t):=by unfold bHi;exact Zh Za
 go_enter Tryz.func89,Tryz.ntmps89
 go_wp2
 rw [H1.out,H2.out]
 refine zad (v:= .agg #[iI g,iI t]) Z55_ rfl ⟨rfl,?_⟩
 exact ((((zaa _ _).alloc (zaq _) _).alloc Zi _).alloc Zk _).alloc Zk _
theorem yew(f t g u:Int)(w:qW)(h1:f<g)(h2:u<t)(h3:u<=g):qC 89 #[.agg #[iI f,iI t],.agg #[iI g,iI u]] w fun e w'=>e= .returned (.agg #[iI (bLo f t g u),iI (bHi f t g u)])/\Below w.heap.size w w':=Z63_
theorem yev(f t g u:Int)(w:qW)(h1:f<g)(h2:u<t)(h3:g<u):qC 89 #[.agg #[iI f,iI t],.agg #[iI g,iI u]] w fun e w'=>e= .returned (.agg #[iI (bLo f t g u),iI (bHi f t g u)])/\Below w.heap.size w w':=by
 have H1:Hid (bLo f t g u=g):=by unfold bLo;exact Zh Za
 have H2:Hid (bHi f t g u=u):=by unfold bHi;exact Zh Za
 go_enter Tryz.func89,Tryz.ntmps89
 go_wp2
 rw [H1.out,H2.out]
 refine zad (v:= .agg #[iI g,iI u]) Z55_ rfl ⟨rfl,?_⟩
 exact ((((zaa _ _).alloc (zaq _) _).alloc Zi _).alloc Zk _).alloc Zk _
theorem yeu(f t g u:Int)(w:qW)(h1:g<=f)(h2:t<=u)(h3:t<=f):qC 89 #[.agg #[iI f,iI t],.agg #[iI g,iI u]] w fun e w'=>e= .returned (.agg #[iI (bLo f t g u),iI (bHi f t g u)])/\Below w.heap.size w w':=Z63_
theorem yet(f t g u:Int)(w:qW)(h1:g<=f)(h2:t<=u)(h3:f<t):qC 89 #[.agg #[iI f,iI t],.agg #[iI g,iI u]] w fun e w'=>e= .returned (.agg #[iI (bLo f t g u),iI (bHi f t g u)])/\Below w.heap.size w w':=by
 have H1:Hid (bLo f t g u=f):=by unfold bLo;exact Zh Za
 have H2:Hid (bHi f t g u=t):=by unfold bHi;exact Zh Za
 go_enter Tryz.func89,Tryz.ntmps89
 go_wp2
 rw [H1.out,H2.out]
 refine zad (v:= .agg #[iI f,iI t]) Z55_ rfl ⟨rfl,?_⟩
 exact ((((zaa _ _).alloc (zaq _) _).alloc Zi _).alloc Zk _).alloc Zk _
theorem yes(f t g u:Int)(w:qW)(h1:g<=f)(h2:u<t)(h3:u<=f):qC 89 #[.agg #[iI f,iI t],.agg #[iI g,iI u]] w fun e w'=>e= .returned (.agg #[iI (bLo f t g u),iI (bHi f t g u)])/\Below w.heap.size w w':=Z63_
theorem yer(f t g u:Int)(w:qW)(h1:g<=f)(h2:u<t)(h3:f<u):qC 89 #[.agg #[iI f,iI t],.agg #[iI g,iI u]] w fun e w'=>e= .returned (.agg #[iI (bLo f t g u),iI (bHi f t g u)])/\Below w.heap.size w w':=by
 have H1:Hid (bLo f t g u=f):=by unfold bLo;exact Zh Za
 have H2:Hid (bHi f t g u=u):=by unfold bHi;exact Zh Za
 go_enter Tryz.func89,Tryz.ntmps89
 go_wp2
 rw [H1.out,H2.out]
 refine zad (v:= .agg #[iI f,iI u]) Z55_ rfl ⟨rfl,?_⟩
 exact ((((zaa _ _).alloc (zaq _) _).alloc Zi _).alloc Zk _).alloc Zk _
theorem iE(f t g u:Int)(w:qW):
  qC 89 #[.agg #[iI f,iI t],.agg #[iI g,iI u]] w fun e w'=>e= .returned (.agg #[iI (bLo f t g u),iI (bHi f t g u)])/\Below w.heap.size w w':=by
 rcases Int.lt_or_le f g with a|a<;>rcases Int.lt_or_le u t with b|b
 ·rcases Int.lt_or_le g u with c|c
  ·exact yev f t g u w a b c
  ·exact yew f t g u w a b c
 ·rcases Int.lt_or_le g t with c|c
  ·exact yex f t g u w a b c
  ·exact yey f t g u w a b c
 ·rcases Int.lt_or_le f u with c|c
  ·exact yer f t g u w a b c
  ·exact yes f t g u w a b c
 ·rcases Int.lt_or_le f t with c|c
  ·exact yet f t g u w a b c
  ·exact yeu f t g u w a b c
end Go.Proofs.YtcekjfmfcefjpaaGreatDoor
namespace Go.Proofs.YtcekjfmfcefjpaaGreatDoor
open Go.RowKit Go.Sort
def meetsB(a l b m:Int):Bool:=!(bLo (loI a l) (hiI a l) (loI b m) (hiI b m)==bHi (loI a l) (hiI a l) (loI b m) (hiI b m))
theorem yeH{W w:qW}(h:Below W.heap.size W w)(d:Nat)(os:Array Obj):Below W.heap.size W (grow (redrawn w d) os):=bQ h (below_regrown w d os)
theorem wF(a l b m:Int)(w:qW):
  qC 52 #[.agg #[iI a,iI l],.agg #[iI b,iI m]] w fun e w'=>e= .returned (.bool (meetsB a l b m))/\Below w.heap.size w w':=by
 go_enter Tryz.func52,Tryz.ntmps52
 go_wp2_with fail
 obtain ⟨w0,yS⟩: ∃w0,w0=(w.alloc (.cells #[iI a,iI l] 38)).alloc (.cells #[iI b,iI m] 38):=⟨_,rfl⟩
 have k0:=cell_regrown (w:=w0) (a:=⟨w.heap.size,0,none⟩) (v:=iI a) (by rw [yS];simp)
 have k1:=cell_regrown (w:=w0) (a:=⟨w.heap.size,1,none⟩) (v:=iI l) (by rw [yS];simp)
 have k2:=cell_regrown (w:=w0) (a:=⟨w.heap.size+1,0,none⟩) (v:=iI b) (by rw [yS];simp)
 have k3:=cell_regrown (w:=w0) (a:=⟨w.heap.size+1,1,none⟩) (v:=iI m) (by rw [yS];simp)
 rw [<-yS]
 have HW:=Zh yS
 clear yS
 refine wp_region_quiet_below Zb Zb ?_
 repeat (go_big_quiet_step (first|(go_at_call 87;exact Calls.regrown_of (ff _ _ _))|(go_at_call 89;exact Calls.regrown_of (iE _ _ _ _ _))|(go_at_call 88;exact Calls.regrown_of (iu _ _ _))))
 refine zaE ?_
 intro _ Bc
 obtain ⟨⟨dq,osq⟩,BG⟩:=Bc
 subst BG
 go_wp2
 go_ret
 exact ⟨rfl,by rw [HW.out];exact yeH (((zaa _ _).alloc (zaq _) _).alloc Zi _) _ _⟩
theorem mr:Tryz.prog.eqGuardType Tryz.prog.depth 198=false:=by kernel_rfl
theorem pR:Tryz.prog.stoodInHeld 198=false:=by kernel_rfl
theorem m6(a b c d:Int)(w:qW):(binOp .eql 198 (.agg #[iI a,iI b]) (.agg #[iI c,iI d])).run Tryz.prog w= .ok (.bool (a==c&&b==d)) w:=by
 have h1:=pR
 by_cases h:a=c<;>by_cases k:b=d<;>simp [go_sem,h1,h,k]
def withinB(a l b m:Int):Bool:=loI a l==hiI a l||(bLo (loI a l) (hiI a l) (loI b m) (hiI b m)==loI a l&&bHi (loI a l) (hiI a l) (loI b m) (hiI b m)==hiI a l)
theorem oP(a l b m:Int)(w:qW):
  qC 49 #[.agg #[iI a,iI l],.agg #[iI b,iI m]] w fun e w'=>e= .returned (.bool (withinB a l b m))/\Below w.heap.size w w':=by
 have A1:=Zh (ff a l)
 cases he:(loI a l==hiI a l)
 ·have H:Hid (withinB a l b m=(bLo (loI a l) (hiI a l) (loI b m) (hiI b m)==loI a l&&bHi (loI a l) (hiI a l) (loI b m) (hiI b m)==hiI a l)):=by unfold withinB;rw [he];exact Zh rfl
  have e1:=iu (loI a l) (hiI a l)
  rw [he] at e1
  have E1:=Zh e1
  clear e1
  go_enter Tryz.func49,Tryz.ntmps49
  go_wp2_with fail
  refine (A1.out _).mono ?_
  rintro e w1 ⟨rfl,hb⟩
  have d2:=hb.cell (p:=⟨w.heap.size+1,0,none⟩) Zi
  have d3:=hb.cell (p:=⟨w.heap.size+1,1,none⟩) Zi
  simp at d2 d3
  have hz:w.heap.size+1<w1.heap.size:=by have:=hb.size;simp at this;omega
  have HB:=Zh (cT (cT hb))
  clear hb
  go_wp2_with fail
  obtain ⟨w0,yS⟩: ∃w0,w0=w1.alloc (.cells #[iI (loI a l),iI (hiI a l)] 198):=⟨_,rfl⟩
  have k0:=cell_regrown (w:=w0) (a:=⟨w1.heap.size,0,none⟩) (v:=iI (loI a l)) (by rw [yS];simp)
  have k1:=cell_regrown (w:=w0) (a:=⟨w1.heap.size,1,none⟩) (v:=iI (hiI a l)) (by rw [yS];simp)
  have k2:=cell_regrown (w:=w0) (a:=⟨w.heap.size+1,0,none⟩) (v:=iI b) (by rw [yS,World.cell?_alloc_lt _ _ _ hz];exact d2)
  have k3:=cell_regrown (w:=w0) (a:=⟨w.heap.size+1,1,none⟩) (v:=iI m) (by rw [yS,World.cell?_alloc_lt _ _ _ hz];exact d3)
  rw [<-yS]
  have HW:=Zh yS
  clear yS d2 d3 hz
  have hq:=m6
  have hg:=mr
  refine wp_region_quiet_below Zb Zb ?_
  repeat (go_big_quiet_step (first|(go_at_call 87;exact Calls.regrown_of (ff _ _ _))|(go_at_call 89;exact Calls.regrown_of (iE _ _ _ _ _))|(go_at_call 88;exact Calls.regrown_of (E1.out _))))
  refine zaE ?_
  intro _ Bc
  obtain ⟨⟨dq,osq⟩,BG⟩:=Bc
  subst BG
  go_wp2
  go_ret
  exact ⟨db (by rw [H.out]),by rw [HW.out];exact bQ (HB.out.alloc HB.out.size _) (below_regrown _ _ _)⟩
 ·have H:Hid (withinB a l b m=true):=by unfold withinB;rw [he];exact Zh rfl
  have e1:=iu (loI a l) (hiI a l)
  rw [he] at e1
  have E1:=Zh e1
  clear e1
  go_enter Tryz.func49,Tryz.ntmps49
  go_wp2_with fail
  refine (A1.out _).mono ?_
  rintro e w1 ⟨rfl,hb⟩
  have d2:=hb.cell (p:=⟨w.heap.size+1,0,none⟩) Zi
  have d3:=hb.cell (p:=⟨w.heap.size+1,1,none⟩) Zi
  simp at d2 d3
  have hz:w.heap.size+1<w1.heap.size:=by have:=hb.size;simp at this;omega
  have HB:=Zh (cT (cT hb))
  clear hb
  go_wp2_with fail
  obtain ⟨w0,yS⟩: ∃w0,w0=w1.alloc (.cells #[iI (loI a l),iI (hiI a l)] 198):=⟨_,rfl⟩
  have k0:=cell_regrown (w:=w0) (a:=⟨w1.heap.size,0,none⟩) (v:=iI (loI a l)) (by rw [yS];simp)
  have k1:=cell_regrown (w:=w0) (a:=⟨w1.heap.size,1,none⟩) (v:=iI (hiI a l)) (by rw [yS];simp)
  have k2:=cell_regrown (w:=w0) (a:=⟨w.heap.size+1,0,none⟩) (v:=iI b) (by rw [yS,World.cell?_alloc_lt _ _ _ hz];exact d2)
  have k3:=cell_regrown (w:=w0) (a:=⟨w.heap.size+1,1,none⟩) (v:=iI m) (by rw [yS,World.cell?_alloc_lt _ _ _ hz];exact d3)
  rw [<-yS]
  have HW:=Zh yS
  clear yS d2 d3 hz
  have hq:=m6
  have hg:=mr
  refine wp_region_quiet_below Zb Zb ?_
  repeat (go_big_quiet_step (first|(go_at_call 87;exact Calls.regrown_of (ff _ _ _))|(go_at_call 89;exact Calls.regrown_of (iE _ _ _ _ _))|(go_at_call 88;exact Calls.regrown_of (E1.out _))))
  refine zaE ?_
  intro _ Bc
  obtain ⟨⟨dq,osq⟩,BG⟩:=Bc
  subst BG
  go_wp2
  go_ret
  exact ⟨db (by rw [H.out]),by rw [HW.out];exact bQ (HB.out.alloc HB.out.size _) (below_regrown _ _ _)⟩
end Go.Proofs.YtcekjfmfcefjpaaGreatDoor
namespace Go.Proofs.YtcekjfmfcefjpaaGreatDoor
structure Ins where
 op:Int
 d:Int
 n:Int
 m:Int
 e:Int
 sz:Int
 imm:Int
def Ins.get(r:Ins)(k:Nat):Int:=match k with
 |0=>r.op
 |1=>r.d
 |2=>r.n
 |3=>r.m
 |4=>r.e
 |5=>r.sz
 |_=>r.imm
def Ins.set(r:Ins)(k:Nat)(x:Int):Ins:=match k with
 |0=>{r with op:=x}
 |1=>{r with d:=x}
 |2=>{r with n:=x}
 |3=>{r with m:=x}
 |4=>{r with e:=x}
 |5=>{r with sz:=x}
 |_=>{r with imm:=x}
def Ins.zero(op:Int):Ins:=⟨op,0,0,0,0,0,0⟩
theorem Ins.ext7{a b:Ins}(h: ∀k,k<7->a.get k=b.get k):a=b:=by
 obtain ⟨a0,a1,a2,a3,a4,a5,a6⟩:=a
 obtain ⟨b0,b1,b2,b3,b4,b5,b6⟩:=b
 have h0:a0=b0:=h 0 Za
 have h1:a1=b1:=h 1 Za
 have h2:a2=b2:=h 2 Za
 have h3:a3=b3:=h 3 Za
 have h4:a4=b4:=h 4 Za
 have h5:a5=b5:=h 5 Za
 have h6:a6=b6:=h 6 Za
 subst h0 h1 h2 h3 h4 h5 h6
 rfl
theorem Ins.get_set(r:Ins)(a b:Nat)(x:Int)(ha:a<7)(hb:b<7):(r.set a x).get b=if a=b then x else r.get b:=by
 match a,ha with
 |0,_|1,_|2,_|3,_|4,_|5,_|6,_=>
  match b,hb with
  |0,_|1,_|2,_|3,_|4,_|5,_|6,_=>rfl
theorem Ins.zero_get(op:Int)(k:Nat)(h:k<7):(Ins.zero op).get k=if k=0 then op else 0:=by
 match k,h with
 |0,_|1,_|2,_|3,_|4,_|5,_|6,_=>rfl
structure Fl where
 lo:Nat
 n:Nat
 idx:Nat
 kd:Nat
 most:Nat
def fitF(f:Fl)(x:Int):Bool:=if f.kd=1 then decide (-(2^(f.n-1):Nat)<=x)&&decide (x<(2^(f.n-1):Nat)) else decide (0<=x)&&decide (x<=f.most)
def barN(x:Int):Nat:=if x=0 then 11 else if x=1 then 9 else 10
def turnN(v:Nat):Nat:=if v%2=0 then v+1 else v-1
def putF(f:Fl)(x:Int):Nat:=if f.kd=1 then (x%(2^f.n:Nat)).toNat else if f.kd=2 then turnN x.toNat else if f.kd=3 then barN x else x.toNat
def getF(f:Fl)(v:Nat):Option Int:=
 if f.kd=3 then (if v=11 then some 0 else if v=9 then some 1 else if v=10 then some 2 else none)
 else if f.kd=1 then some (if 2^(f.n-1)<=v then (v:Int)-(2^f.n:Nat) else v)
 else if f.kd=2 then some (turnN v) else if v<=f.most then some v else none
def fl(c:Nat):Option Fl:=
 if c=100 then some ⟨0,5,1,0,31⟩ else if c=110 then some ⟨5,5,2,0,31⟩ else if c=97 then some ⟨5,5,2,0,30⟩ else if c=109 then some ⟨16,5,3,0,31⟩
 else if c=101 then some ⟨10,5,4,0,31⟩ else if c=113 then some ⟨21,2,4,0,3⟩ else if c=99 then some ⟨0,2,4,0,3⟩ else if c=107 then some ⟨12,2,4,2,3⟩
 else if c=115 then some ⟨30,2,5,0,3⟩ else if c=105 then some ⟨5,16,6,0,65535⟩ else if c=111 then some ⟨10,12,6,0,4095⟩ else if c=98 then some ⟨0,26,6,1,0⟩
 else if c=120 then some ⟨5,19,6,1,0⟩ else if c=102 then some ⟨8,4,6,3,2⟩ else none
structure FlOk(f:Fl):Prop where
 idx:0<f.idx/\f.idx<7
 hi:f.lo+f.n<=32
 lt: ∀x,fitF f x=true->putF f x<2^f.n
 back: ∀x,fitF f x=true->getF f (putF f x)=some x
 fit: ∀v x,v<2^f.n->getF f v=some x->fitF f x=true/\putF f x=v
theorem cq(lo n idx most:Nat)(h1:0<idx/\idx<7)(h2:lo+n<=32)(h3:most<2^n):FlOk ⟨lo,n,idx,0,most⟩:=by
 refine ⟨h1,h2,fun x h=>?_,fun x h=>?_,fun v x hv h=>?_⟩
 ·simp [fitF] at h
  simp [putF]
  omega
 ·simp [fitF] at h
  simp [getF,putF]
  omega
 ·simp [getF] at h
  obtain ⟨h4,rfl⟩:=h
  simp [fitF,putF]
  omega
theorem yc0:FlOk ⟨12,2,4,2,3⟩:=by
 refine ⟨by simp,by simp,fun x h=>?_,fun x h=>?_,fun v x hv h=>?_⟩
 ·simp [fitF] at h
  have:x=0\/x=1\/x=2\/x=3:=by omega
  rcases this with rfl|rfl|rfl|rfl<;>decide
 ·simp [fitF] at h
  have:x=0\/x=1\/x=2\/x=3:=by omega
  rcases this with rfl|rfl|rfl|rfl<;>decide
 ·have:v=0\/v=1\/v=2\/v=3:=by simp at hv;omega
  rcases this with rfl|rfl|rfl|rfl<;>simp [getF,turnN] at h<;>subst h<;>decide
theorem yc2:FlOk ⟨0,26,6,1,0⟩:=by
 refine ⟨by simp,by simp,fun x h=>?_,fun x h=>?_,fun v x hv h=>?_⟩
 ·simp [fitF] at h
  simp [putF]
  omega
 ·simp [fitF] at h
  simp only [getF,putF]
  simp
  omega
 ·simp only [getF] at h
  simp at h hv
  simp [fitF,putF]
  omega
theorem ycZ:FlOk ⟨5,19,6,1,0⟩:=by
 refine ⟨by simp,by simp,fun x h=>?_,fun x h=>?_,fun v x hv h=>?_⟩
 ·simp [fitF] at h
  simp [putF]
  omega
 ·simp [fitF] at h
  simp only [getF,putF]
  simp
  omega
 ·simp only [getF] at h
  simp at h hv
  simp [fitF,putF]
  omega
theorem yc1:FlOk ⟨8,4,6,3,2⟩:=by
 refine ⟨by simp,by simp,fun x h=>?_,fun x h=>?_,fun v x hv h=>?_⟩
 ·simp [fitF] at h
  have:x=0\/x=1\/x=2:=by omega
  rcases this with rfl|rfl|rfl<;>decide
 ·simp [fitF] at h
  have:x=0\/x=1\/x=2:=by omega
  rcases this with rfl|rfl|rfl<;>decide
 ·simp only [getF] at h
  simp at h
  split at h
  ·simp at h;subst h;subst v;decide
  ·split at h
   ·simp at h;subst h;subst v;decide
   ·simp at h;obtain ⟨rfl,rfl⟩:=h;decide
theorem aN(c:Nat)(f:Fl)(h:fl c=some f):FlOk f:=by
 unfold fl at h
 by_cases xO:c=100
 ·rw [if_pos xO] at h
  cases h
  exact cq _ _ _ _ Za Za Za
 rw [if_neg xO] at h
 by_cases xI:c=110
 ·rw [if_pos xI] at h
  cases h
  exact cq _ _ _ _ Za Za Za
 rw [if_neg xI] at h
 by_cases yY:c=97
 ·rw [if_pos yY] at h
  cases h
  exact cq _ _ _ _ Za Za Za
 rw [if_neg yY] at h
 by_cases xJ:c=109
 ·rw [if_pos xJ] at h
  cases h
  exact cq _ _ _ _ Za Za Za
 rw [if_neg xJ] at h
 by_cases xN:c=101
 ·rw [if_pos xN] at h
  cases h
  exact cq _ _ _ _ Za Za Za
 rw [if_neg xN] at h
 by_cases xG:c=113
 ·rw [if_pos xG] at h
  cases h
  exact cq _ _ _ _ Za Za Za
 rw [if_neg xG] at h
 by_cases yW:c=99
 ·rw [if_pos yW] at h
  cases h
  exact cq _ _ _ _ Za Za Za
 rw [if_neg yW] at h
 by_cases xK:c=107
 ·rw [if_pos xK] at h
  cases h
  exact yc0
 rw [if_neg xK] at h
 by_cases xF:c=115
 ·rw [if_pos xF] at h
  cases h
  exact cq _ _ _ _ Za Za Za
 rw [if_neg xF] at h
 by_cases xL:c=105
 ·rw [if_pos xL] at h
  cases h
  exact cq _ _ _ _ Za Za Za
 rw [if_neg xL] at h
 by_cases xH:c=111
 ·rw [if_pos xH] at h
  cases h
  exact cq _ _ _ _ Za Za Za
 rw [if_neg xH] at h
 by_cases yX:c=98
 ·rw [if_pos yX] at h
  cases h
  exact yc2
 rw [if_neg yX] at h
 by_cases xE:c=120
 ·rw [if_pos xE] at h
  cases h
  exact ycZ
 rw [if_neg xE] at h
 by_cases xM:c=102
 ·rw [if_pos xM] at h
  cases h
  exact yc1
 rw [if_neg xM] at h
 cases h
def ovr(w lo n v:Nat):Nat:=2^lo*(2^n*(w/2^(lo+n))+v)+w%2^lo
theorem fd(w lo n v j:Nat)(hv:v<2^n):(ovr w lo n v).testBit j=if lo<=j/\j<lo+n then v.testBit (j-lo) else w.testBit j:=by
 unfold ovr
 rw [Nat.testBit_two_pow_mul_add _ (zaL _ (Nat.two_pow_pos lo)),Nat.testBit_two_pow_mul_add _ hv]
 by_cases h1:j<lo
 ·rw [if_pos h1,if_neg Za,Nat.testBit_mod_two_pow]
  simp [h1]
 ·rw [if_neg h1]
  by_cases h2:j<lo+n
  ·rw [if_pos Za,if_pos Za]
  ·rw [if_neg Za,if_neg Za,Nat.testBit_div_two_pow]
   congr 1
   omega
theorem fw(w lo n j:Nat):(w/2^lo%2^n).testBit j=(decide (j<n)&&w.testBit (lo+j)):=by
 rw [Nat.testBit_mod_two_pow,Nat.testBit_div_two_pow,Nat.add_comm]
def Covers(f:Fl)(j:Nat):Prop:=f.lo<=j/\j<f.lo+f.n
def dy(f g:Fl):Prop:=(f.lo+f.n<=g.lo\/g.lo+g.n<=f.lo)/\f.idx≠g.idx
def ovrL(V:Fl->Nat):List Fl->Nat->Nat
 |[],w=>w
 |f::l,w=>ovrL V l (ovr w f.lo f.n (V f))
theorem dJ(V:Fl->Nat)(j:Nat): ∀(l:List Fl) (w:Nat),(∀f∈l,V f<2^f.n)->(∀f∈l,¬Covers f j)->(ovrL V l w).testBit j=w.testBit j
 |[],w,_,_=>rfl
 |f::l,w,hv,h=>by
  unfold ovrL
  rw [dJ V j l _ (fun g hg=>hv g (zaK _ hg)) (fun g hg=>h g (zaK _ hg)),fd _ _ _ _ _ (hv f za3),if_neg (show¬(f.lo<=j/\j<f.lo+f.n) from h f za3)]
theorem fe(V:Fl->Nat)(j:Nat): ∀(l:List Fl) (w:Nat),(∀f∈l,V f<2^f.n)->l.Pairwise dy-> ∀f∈l,Covers f j->(ovrL V l w).testBit j=(V f).testBit (j-f.lo)
 |[],w,_,_,f,hf,_=>by cases hf
 |g::l,w,hv,hp,f,hf,hc=>by
  unfold ovrL
  rw [List.pairwise_cons] at hp
  rcases List.mem_cons.mp hf with rfl|hf
  ·rw [dJ V j l _ (fun g hg=>hv g (zaK _ hg)) (fun g hg hcg=>by
    have:=(hp.1 g hg).1
    unfold Covers at hc hcg
    omega),fd _ _ _ _ _ (hv f za3),if_pos (show f.lo<=j/\j<f.lo+f.n from hc)]
  ·exact fe V j l _ (fun g hg=>hv g (zaK _ hg)) hp.2 f hf hc
def encL:List Fl->Nat->Ins->Option (Nat×Ins)
 |[],w,r=>some (w,r)
 |f::l,w,r=>if fitF f (r.get f.idx)=true then encL l (ovr w f.lo f.n (putF f (r.get f.idx))) (r.set f.idx 0) else none
def decL(w0 sb:Nat):List Fl->Ins->Nat->Option (Ins×Nat)
 |[],out,b=>some (out,b)
 |f::l,out,b=>match getF f (w0/2^f.lo%2^f.n) with
  |some x=>decL w0 sb l (out.set f.idx x) (ovr b f.lo f.n (sb/2^f.lo%2^f.n))
  |none=>none
theorem it: ∀(l:List Fl) (w:Nat) (r:Ins),(∀f∈l,FlOk f)->l.Pairwise dy-> ∀w' r',encL l w r=some (w',r')↔
  (∀f∈l,fitF f (r.get f.idx)=true)/\w'=ovrL (fun f=>putF f (r.get f.idx)) l w/\(∀k,k<7->r'.get k=if∃f∈l,f.idx=k then 0 else r.get k)
 |[],w,r,_,_,w',r'=>by
  unfold encL ovrL
  constructor
  ·intro h
   cases h
   exact ⟨fun f hf=>(by cases hf),rfl,fun k hk=>by simp⟩
  ·rintro ⟨_,rfl,h⟩
   have e:r=r':=Ins.ext7 fun k hk=>by rw [h k hk];simp
   rw [e]
 |f::l,w,r,ho,hp,w',r'=>by
  rw [List.pairwise_cons] at hp
  have hf:=ho f za3
  have hne: ∀g∈l,(r.set f.idx 0).get g.idx=r.get g.idx:=fun g hg=>by
   rw [Ins.get_set _ _ _ _ hf.idx.2 (ho g (zaK _ hg)).idx.2,if_neg (hp.1 g hg).2]
  have hV: ∀w,ovrL (fun g=>putF g ((r.set f.idx 0).get g.idx)) l w=ovrL (fun g=>putF g (r.get g.idx)) l w:=by
   have: ∀(l2:List Fl) (V V2:Fl->Nat),(∀g∈l2,V g=V2 g)-> ∀w,ovrL V l2 w=ovrL V2 l2 w:=by
    intro l2
    induction l2 with
    |nil=>intro V V2 _ w;rfl
    |cons a l2 ih=>
     intro V V2 h w
     unfold ovrL
     rw [h a za3]
     exact ih V V2 (fun g hg=>h g (zaK _ hg)) _
   exact this l _ _ fun g hg=>by rw [hne g hg]
  unfold encL
  by_cases h0:fitF f (r.get f.idx)=true
  ·rw [if_pos h0,it l _ _ (fun g hg=>ho g (zaK _ hg)) hp.2,hV]
   constructor
   ·rintro ⟨h1,h2,h3⟩
    refine ⟨fun g hg=>?_,h2,fun k hk=>?_⟩
    ·rcases List.mem_cons.mp hg with rfl|hg
     ·exact h0
     ·rw [<-hne g hg];exact h1 g hg
    ·rw [h3 k hk,Ins.get_set _ _ _ _ hf.idx.2 hk]
     by_cases e:f.idx=k
     ·rw [if_pos e,if_pos (show∃g∈f::l,g.idx=k from ⟨f,za3,e⟩)]
      simp
     ·rw [if_neg e]
      have:(∃g∈f::l,g.idx=k)↔ ∃g∈l,g.idx=k:=by
       constructor
       ·rintro ⟨g,hg,h⟩
        rcases List.mem_cons.mp hg with rfl|hg
        ·exact absurd h e
        ·exact ⟨g,hg,h⟩
       ·rintro ⟨g,hg,h⟩
        exact ⟨g,zaK _ hg,h⟩
      simp only [this]
   ·rintro ⟨h1,h2,h3⟩
    refine ⟨fun g hg=>?_,h2,fun k hk=>?_⟩
    ·rw [hne g hg];exact h1 g (zaK _ hg)
    ·rw [h3 k hk,Ins.get_set _ _ _ _ hf.idx.2 hk]
     by_cases e:f.idx=k
     ·rw [if_pos e,if_pos (show∃g∈f::l,g.idx=k from ⟨f,za3,e⟩)]
      simp
     ·rw [if_neg e]
      have:(∃g∈f::l,g.idx=k)↔ ∃g∈l,g.idx=k:=by
       constructor
       ·rintro ⟨g,hg,h⟩
        rcases List.mem_cons.mp hg with rfl|hg
        ·exact absurd h e
        ·exact ⟨g,hg,h⟩
       ·rintro ⟨g,hg,h⟩
        exact ⟨g,zaK _ hg,h⟩
      simp only [this]
  ·rw [if_neg h0]
   constructor
   ·intro h;cases h
   ·rintro ⟨h1,_⟩
    exact absurd (h1 f za3) h0
theorem iz(w0 sb:Nat): ∀(l:List Fl) (out:Ins) (b:Nat),(∀f∈l,FlOk f)->l.Pairwise dy-> ∀out' b',decL w0 sb l out b=some (out',b')↔
  (∀f∈l,getF f (w0/2^f.lo%2^f.n)=some (out'.get f.idx))/\b'=ovrL (fun f=>sb/2^f.lo%2^f.n) l b/\(∀k,k<7->(¬ ∃f∈l,f.idx=k)->out'.get k=out.get k)
 |[],out,b,_,_,out',b'=>by
  unfold decL ovrL
  constructor
  ·intro h
   cases h
   exact ⟨fun f hf=>(by cases hf),rfl,fun k hk _=>rfl⟩
  ·rintro ⟨_,rfl,h⟩
   have e:out=out':=Ins.ext7 fun k hk=>(h k hk Zi).symm
   rw [e]
 |f::l,out,b,ho,hp,out',b'=>by
  rw [List.pairwise_cons] at hp
  have hf:=ho f za3
  have NL: ¬ ∃g∈l,g.idx=f.idx:=fun ⟨g,hg,h⟩=>(hp.1 g hg).2 h.symm
  unfold decL
  cases hg:getF f (w0/2^f.lo%2^f.n) with
  |none=>
   simp only
   constructor
   ·intro h;cases h
   ·rintro ⟨h1,_⟩
    have:=h1 f za3
    rw [hg] at this
    cases this
  |some x=>
   simp only
   rw [iz w0 sb l _ _ (fun g hg=>ho g (zaK _ hg)) hp.2]
   constructor
   ·rintro ⟨h1,h2,h3⟩
    refine ⟨fun g B3=>?_,h2,fun k hk hn=>?_⟩
    ·rcases List.mem_cons.mp B3 with rfl|B3
     ·rw [hg,h3 _ hf.idx.2 NL,Ins.get_set _ _ _ _ hf.idx.2 hf.idx.2,if_pos rfl]
     ·exact h1 g B3
    ·rw [h3 k hk (fun ⟨g,B3,h⟩=>hn ⟨g,zaK _ B3,h⟩),Ins.get_set _ _ _ _ hf.idx.2 hk,if_neg (fun e=>hn ⟨f,za3,e⟩)]
   ·rintro ⟨h1,h2,h3⟩
    refine ⟨fun g B3=>h1 g (zaK _ B3),h2,fun k hk hn=>?_⟩
    rw [Ins.get_set _ _ _ _ hf.idx.2 hk]
    by_cases e:f.idx=k
    ·subst e
     have:=h1 f za3
     rw [hg] at this
     rw [if_pos rfl]
     exact (zae this).symm
    ·rw [if_neg e]
     refine h3 k hk fun ⟨g,B3,h⟩=>?_
     rcases List.mem_cons.mp B3 with rfl|B3
     ·exact e h
     ·exact hn ⟨g,B3,h⟩
theorem ydK(l:List Fl)(ho: ∀f∈l,FlOk f)(hp:l.Pairwise dy)(base op:Int)(sb w:Nat)(i:Ins):
  (∃b,decL w sb l (Ins.zero op) w=some (i,b)/\b=sb)↔i.op=op/\encL l sb i=some (w,Ins.zero op):=by
 rw [it l sb i ho hp]
 constructor
 ·rintro ⟨b,h,rfl⟩
  rw [iz w b l _ _ ho hp] at h
  obtain ⟨h1,h2,h3⟩:=h
  have hz: ¬ ∃f∈l,f.idx=0:=fun ⟨f,hf,h⟩=>by have:=(ho f hf).idx.1;omega
  have yj:i.op=op:=by
   have:=h3 0 Za hz
   exact this
  have hx: ∀f∈l,fitF f (i.get f.idx)=true/\putF f (i.get f.idx)=w/2^f.lo%2^f.n:=fun f hf=>(ho f hf).fit _ _ (zaL _ (Nat.two_pow_pos _)) (h1 f hf)
  refine ⟨yj,fun f hf=>(hx f hf).1,?_,fun k hk=>?_⟩
  ·apply Nat.eq_of_testBit_eq
   intro j
   by_cases hc: ∃f∈l,Covers f j
   ·obtain ⟨f,hf,hc⟩:=hc
    rw [fe _ j l _ (fun g hg=>(ho g hg).lt _ (hx g hg).1) hp f hf hc,(hx f hf).2,fw]
    unfold Covers at hc
    rw [zaw Za,Bool.true_and]
    congr 1
    omega
   ·have hn: ∀f∈l,¬Covers f j:=fun f hf h=>hc ⟨f,hf,h⟩
    rw [dJ _ j l _ (fun g hg=>(ho g hg).lt _ (hx g hg).1) hn]
    have this:b.testBit j=(ovrL (fun f=>b/2^f.lo%2^f.n) l w).testBit j:=congrArg (fun x=>Nat.testBit x j) h2
    rw [dJ _ j l _ (fun g hg=>zaL _ (Nat.two_pow_pos _)) hn] at this
    exact this.symm
  ·rw [Ins.zero_get _ _ hk]
   by_cases e: ∃f∈l,f.idx=k
   ·rw [if_pos e]
    obtain ⟨f,hf,h⟩:=e
    have:=(ho f hf).idx.1
    rw [if_neg Za]
   ·rw [if_neg e,h3 k hk e,Ins.zero_get _ _ hk]
 ·rintro ⟨yj,h1,h2,h3⟩
  refine ⟨sb,?_,rfl⟩
  rw [iz w sb l _ _ ho hp]
  have wY: ∀f∈l,putF f (i.get f.idx)<2^f.n:=fun f hf=>(ho f hf).lt _ (h1 f hf)
  have hw: ∀f∈l,w/2^f.lo%2^f.n=putF f (i.get f.idx):=fun f hf=>by
   apply Nat.eq_of_testBit_eq
   intro j
   rw [fw,h2]
   by_cases hj:j<f.n
   ·rw [zaw hj,Bool.true_and,fe _ _ l _ wY hp f hf (by unfold Covers;omega)]
    congr 1
    omega
   ·rw [zax hj,zay]
    exact (Nat.testBit_lt_two_pow (zar (wY f hf) (zaQ Za Za))).symm
  refine ⟨fun f hf=>by rw [hw f hf];exact (ho f hf).back _ (h1 f hf),?_,fun k hk hn=>?_⟩
  ·apply Nat.eq_of_testBit_eq
   intro j
   have F5: ∀f∈l,sb/2^f.lo%2^f.n<2^f.n:=fun f _=>zaL _ (Nat.two_pow_pos _)
   by_cases hc: ∃f∈l,Covers f j
   ·obtain ⟨f,hf,hc⟩:=hc
    rw [fe _ j l _ F5 hp f hf hc,fw]
    unfold Covers at hc
    rw [zaw Za,Bool.true_and]
    congr 1
    omega
   ·have hn: ∀f∈l,¬Covers f j:=fun f hf h=>hc ⟨f,hf,h⟩
    rw [dJ _ j l _ F5 hn,h2,dJ _ j l _ wY hn]
  ·have:=h3 k hk
   rw [if_neg hn] at this
   rw [<-this]
end Go.Proofs.YtcekjfmfcefjpaaGreatDoor
