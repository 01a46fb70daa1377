/- Walks. No condition. -/
import Derived.Deep.WholeRow
import Derived.ChangeKeysEq
import Derived.Handy
import Derived.StillTail
import Derived.Test.YtcekjfmfcefjpaaGreatDoorProg
import Derived.Test.YtcekjfmfcefjpaaGreatDoorG04
set_option maxRecDepth 100000
set_option maxHeartbeats 0
set_option linter.all false
namespace Go.Proofs.YtcekjfmfcefjpaaGreatDoor
def capB(op:Int)(f:Fl):Bool:=
 if f.idx=6 then (if f.kd=1 then decide (f.n<=26)&&decide (13<=op/\op<=16) else decide (f.most<=65535)&&(!decide (op=17\/op=18)||decide (f.most<=4095)))
 else !(f.kd==1)&&decide (f.most<=31)&&(!(f.idx==5)||decide (f.most<=3))&&(!(f.idx==4)||!decide (op=1\/op=2\/op=12\/op=14)||decide (f.most<=3))
theorem yeg:(List.range 33).all (fun k=>(fls k).all (fun f=>capB k f))=true:=by decide+kernel
theorem yef{op:Int}(h:1<=op/\op<=32): ∀f∈fls op,capB op f=true:=by
 have:=List.all_eq_true.1 yeg op.toNat (List.mem_range.2 Za)
 rw [(show ((op.toNat:Nat):Int)=op by omega)] at this
 exact List.all_eq_true.1 this
structure Facts(i:Ins):Prop where
 op:1<=i.op/\i.op<=32
 d:0<=i.d/\i.d<=31
 n:0<=i.n/\i.n<=31
 m:0<=i.m/\i.m<=31
 e:0<=i.e/\i.e<=31
 sz:0<=i.sz/\i.sz<=3
 imm: -33554432<=i.imm/\i.imm<33554432
 small: ¬(13<=i.op/\i.op<=16)->0<=i.imm/\i.imm<=65535
 page:i.op=17\/i.op=18->i.imm<=4095
 four:i.op=1\/i.op=2\/i.op=12\/i.op=14->i.e<=3
theorem dt{i:Ins}{w:Nat}(h:enc i=some w):Facts i:=by
 obtain ⟨hl,h2⟩:=(m8 i w).1 h
 have yj:=eu hl
 rw [it _ _ _ (my _) (mw _)] at h2
 obtain ⟨h3,_,h5⟩:=h2
 have key: ∀k,k<7->0<k->i.get k=0\/ ∃f∈fls i.op,f.idx=k/\fitF f (i.get k)=true/\capB i.op f=true:=by
  intro k hk h0
  by_cases hx: ∃f∈fls i.op,f.idx=k
  ·obtain ⟨f,hf,rfl⟩:=hx
   exact Or.inr ⟨f,hf,rfl,h3 f hf,yef yj f hf⟩
  ·have:=h5 k hk
   rw [if_neg hx,Ins.zero_get _ _ hk,if_neg Za] at this
   exact Or.inl this.symm
 have reg: ∀k,k<6->0<k->0<=i.get k/\i.get k<=31/\(k=5->i.get k<=3)/\(k=4->(i.op=1\/i.op=2\/i.op=12\/i.op=14)->i.get k<=3):=by
  intro k hk h0
  rcases key k Za h0 with hz|⟨f,hf,e,h6,h7⟩
  ·rw [hz];omega
  ·unfold capB at h7
   rw [if_neg Za] at h7
   unfold fitF at h6
   simp only [za0,zak,Bool.not_eq_true',zau,decide_eq_false_iff_not,beq_iff_eq,beq_eq_false_iff_ne] at h7
   rw [if_neg h7.1.1.1] at h6
   simp only [za0,zau] at h6
   omega
 have hi:(-33554432<=i.imm/\i.imm<33554432)/\(¬(13<=i.op/\i.op<=16)->0<=i.imm/\i.imm<=65535)/\(i.op=17\/i.op=18->i.imm<=4095):=by
  rcases key 6 Za Za with hz|⟨f,hf,e,h6,h7⟩
  ·have hz:i.imm=0:=hz
   omega
  ·have h6:fitF f i.imm=true:=h6
   unfold capB at h7
   rw [if_pos e] at h7
   unfold fitF at h6
   by_cases hk:f.kd=1
   ·rw [if_pos hk] at h6 h7
    simp only [za0,zau] at h6 h7
    have h8:2^(f.n-1)<=2^25:=zaQ Za Za
    omega
   ·rw [if_neg hk] at h6 h7
    simp only [za0,zak,Bool.not_eq_true',zau,decide_eq_false_iff_not] at h6 h7
    omega
 exact ⟨yj,⟨(reg 1 Za Za).1,(reg 1 Za Za).2.1⟩,⟨(reg 2 Za Za).1,(reg 2 Za Za).2.1⟩,⟨(reg 3 Za Za).1,(reg 3 Za Za).2.1⟩,
  ⟨(reg 4 Za Za).1,(reg 4 Za Za).2.1⟩,⟨(reg 5 Za Za).1,(reg 5 Za Za).2.2.1 rfl⟩,hi.1,hi.2.1,hi.2.2,(reg 4 Za Za).2.2.2 rfl⟩
end Go.Proofs.YtcekjfmfcefjpaaGreatDoor
namespace Go.Proofs.YtcekjfmfcefjpaaGreatDoor
open Go.RowKit Go.Sort
def stC(f:Nat->qV):Array qV:=((List.range 36).map f).toArray
def upd(f:Nat->qV)(k:Nat)(v:qV):Nat->qV:=fun j=>if j=k then v else f j
@[go_sem] theorem cM(f:Nat->qV):(stC f).size=36:=by simp [stC]
@[go_sem] theorem ee(f:Nat->qV)(k:Nat):(stC f)[k]?=if k<36 then some (f k) else none:=by
 unfold stC
 by_cases h:k<36<;>simp [h]
@[go_sem] theorem yfs(f:Nat->qV)(k:Nat)(h:k<(stC f).size):(stC f)[k]'h=f k:=by
 have h2:=ee f k
 rw [cM] at h
 rw [if_pos h] at h2
 exact (Array.getElem?_eq_some_iff.mp h2).2
@[go_sem] theorem yfr(f:Nat->qV)(k:Nat)(v:qV):(stC f).setIfInBounds k v=stC (upd f k v):=by
 apply Array.ext_getElem?
 intro j
 rw [zaT,cM]
 by_cases h:k=j
 ·subst h
  rw [if_pos rfl,ee]
  simp [upd]
 ·rw [if_neg h,ee,ee]
  unfold upd
  rw [if_neg (show¬j=k from fun e=>h e.symm)]
structure St where
 x:Nat->Nat
 pc:Int
 z:Bool
 c:Bool
 wa:Int
 wl:Int
def St.f(s:St)(k:Nat):qV:=if k<31 then .int .u64 (s.x k) else if k=31 then iI s.pc else if k=32 then .bool s.z else if k=33 then .bool s.c else if k=34 then iI s.wa else iI s.wl
def stV(s:St):qV:= .agg (stC s.f)
def St.zero:St:=⟨fun _=>0,0,false,false,0,0⟩
theorem dO:(Tryz.prog.info? 79).map (·.size)=some 36:=by kernel_rfl
def setX(s:St)(n:Int)(v:Nat):St:=if n=31 then s else {s with x:=fun k=>if (k:Int)=n then v else s.x k}
def getX(s:St)(n:Int):Nat:=if n=31 then 0 else s.x n.toNat
theorem ydb(s:St)(k:Nat):(s.f k).oneCell'=true:=by
 unfold St.f
 repeat' split
 all_goals rfl
theorem fR(s:St):(stC s.f).all (·.oneCell')=true:=by
 unfold stC
 simp [ydb]
theorem f_x(s:St){k:Nat}(h:k<31):s.f k= .int .u64 (s.x k):=by unfold St.f;rw [if_pos h]
theorem bm(s:St):s.f 31=iI s.pc:=rfl
theorem f_z(s:St):s.f 32= .bool s.z:=rfl
theorem f_c(s:St):s.f 33= .bool s.c:=rfl
def ao(w:qW)(B:Nat)(s:St):Prop:= ∀k,k<36->w.cell? (aB B k)=some (s.f k)/\w.frozen? (aB B k)=false
theorem mU(s:St)(n:Int)(hn:0<=n/\n<=31)(B:Nat)(w:qW)(hS:ao w B s):qC 46 #[pP B,iI n] w fun e w'=>e= .returned (.int .u64 (getX s n:Nat))/\w'=w:=by
 obtain ⟨k,rfl⟩: ∃k:Nat,n=k:=⟨n.toNat,by omega⟩
 by_cases h:k=31
 ·subst h
  go_enter Tryz.func46,Tryz.ntmps46
  go_wp2
  go_ret
  exact ⟨rfl,rfl⟩
 ·have hk:k<31:=by omega
  have hc:=(hS k Za).1
  rw [f_x s hk] at hc
  have e:getX s (k:Int)=s.x k:=by
   unfold getX
   rw [if_neg Za]
   simp
  rw [e]
  generalize s.x k=x at hc ⊢
  go_enter Tryz.func46,Tryz.ntmps46
  go_wp2
  go_ret
  exact ⟨rfl,rfl⟩
def wrB(op:Int):Bool:=decide (op=18\/op=20\/op=23\/op=24\/op=27\/op=28)
def meB(op:Int):Bool:=decide (17<=op/\op<=28)
def paB(op:Int):Bool:=decide (25<=op/\op<=28)
def exB(op:Int):Bool:=decide (21<=op/\op<=28)
def hoB(s:St)(c:Int):Bool:=if c=0 then s.z else if c=1 then !s.z else if c=2 then s.c else !s.c
theorem iF(op a b:Int)(w:qW):qC 86 #[iI op,iI a,iI b] w fun e w'=>e= .returned (.bool (decide (a<=op/\op<=b)))/\w=w':=by
 by_cases h1:a<=op
 ·by_cases h2:op<=b
  all_goals
   go_enter Tryz.func86,Tryz.ntmps86
   go_wp2
   go_ret
   exact ⟨by simp [h1,h2],rfl⟩
 ·go_enter Tryz.func86,Tryz.ntmps86
  go_wp2
  go_ret
  exact ⟨by rw [show (decide (a<=op)&&decide (op<=b))=false by simp;omega];rfl,rfl⟩
theorem gD(op:Int)(w:qW):qC 42 #[iI op] w fun e w'=>e= .returned (.bool (meB op))/\w=w':=by
 have C:=Zh (iF op 17 28)
 unfold meB
 generalize decide (17<=op/\op<=28)=b at C ⊢
 go_enter Tryz.func42,Tryz.ntmps42
 go_wp2_with (first|(go_at_call 86;refine (C.out _).mono ?_;rintro e w1 ⟨rfl,rfl⟩))
 go_ret
 exact ⟨rfl,rfl⟩
theorem dH(op:Int)(w:qW):qC 47 #[iI op] w fun e w'=>e= .returned (.bool (paB op))/\w=w':=by
 have C:=Zh (iF op 25 28)
 unfold paB
 generalize decide (25<=op/\op<=28)=b at C ⊢
 go_enter Tryz.func47,Tryz.ntmps47
 go_wp2_with (first|(go_at_call 86;refine (C.out _).mono ?_;rintro e w1 ⟨rfl,rfl⟩))
 go_ret
 exact ⟨rfl,rfl⟩
theorem eC(op:Int)(w:qW):qC 45 #[iI op] w fun e w'=>e= .returned (.bool (exB op))/\w=w':=by
 have C:=Zh (iF op 21 28)
 unfold exB
 generalize decide (21<=op/\op<=28)=b at C ⊢
 go_enter Tryz.func45,Tryz.ntmps45
 go_wp2_with (first|(go_at_call 86;refine (C.out _).mono ?_;rintro e w1 ⟨rfl,rfl⟩))
 go_ret
 exact ⟨rfl,rfl⟩
theorem dV(op:Int)(w:qW):qC 43 #[iI op] w fun e w'=>e= .returned (.bool (wrB op))/\w=w':=by
 have e:Hid (wrB op=decide (op=18\/op=20\/op=23\/op=24\/op=27\/op=28)):=Zh rfl
 generalize wrB op=b at e ⊢
 by_cases hd:op=18\/op=20\/op=23\/op=24\/op=27\/op=28
 ·obtain rfl:b=true:=by rw [e.out];exact zaw hd
  clear e
  rcases hd with rfl|rfl|rfl|rfl|rfl|rfl
  all_goals
   go_enter Tryz.func43,Tryz.ntmps43
   go_wp2
   go_ret
   exact ⟨rfl,rfl⟩
 ·obtain rfl:b=false:=by rw [e.out];exact zax hd
  clear e
  obtain ⟨h1,h2,h3,h4,h5,h6⟩:op≠18/\op≠20/\op≠23/\op≠24/\op≠27/\op≠28:=by omega
  clear hd
  go_enter Tryz.func43,Tryz.ntmps43
  go_wp2
  go_ret
  exact ⟨by simp [*],rfl⟩
theorem me(s:St)(c:Int)(B:Nat)(w:qW)(hS:ao w B s):qC 90 #[pP B,iI c] w fun e w'=>e= .returned (.bool (hoB s c))/\w=w':=by
 have hz:=(hS 32 Za).1
 have hc:=(hS 33 Za).1
 rw [f_z] at hz
 rw [f_c] at hc
 have e:Hid (hoB s c=if c=0 then s.z else if c=1 then !s.z else if c=2 then s.c else !s.c):=Zh rfl
 generalize hoB s c=b at e ⊢
 generalize s.z=z at*
 generalize s.c=cc at*
 clear hS
 have hh:c=0\/c=1\/c=2\/(c≠0/\c≠1/\c≠2):=by omega
 rcases hh with rfl|rfl|rfl|⟨h0,h1,h2⟩
 all_goals
  have e1:=e.out
  simp [*] at e1
  subst e1
  clear e
  go_enter Tryz.func90,Tryz.ntmps90
  go_wp2
  go_ret
  exact ⟨by first|rfl|simp,rfl⟩
theorem ycE(n:Int)(hn:0<=n/\n<=31)(x:Nat)(B:Nat)(w:qW)(hS: ∀k,k<36->(∃u,w.cell? (aB B k)=some u)/\w.frozen? (aB B k)=false):qC 56 #[pP B,iI n,.int .u64 x] w
  fun e w'=>e= .returned (.tuple #[])/\w'=if n=31 then w else w.setCell ⟨B,n.toNat,none⟩ (.int .u64 x):=by
 obtain ⟨k,rfl⟩: ∃k:Nat,n=k:=⟨n.toNat,by omega⟩
 by_cases h:k=31
 ·subst h
  go_enter Tryz.func56,Tryz.ntmps56
  go_wp2
  go_returns
  exact ⟨rfl,by simp⟩
 ·have hk:k<31:=by omega
  obtain ⟨⟨u,hc⟩,hf⟩:=hS k Za
  clear hS
  rw [if_neg Za]
  go_enter Tryz.func56,Tryz.ntmps56
  go_wp2
  go_returns
  exact ⟨rfl,by simp⟩
def St.ok(s:St):Prop:=(∀k,s.x k<2^64)/\rngI s.pc/\rngI s.wa/\rngI s.wl
theorem bX{s:St}(h:s.ok)(n:Int):getX s n<18446744073709551616:=by
 unfold getX
 split
 ·omega
 ·exact h.1 _
def lenI(i:Ins):Int:=if 25<=i.op/\i.op<=28 then 16 else 2^i.sz.toNat
def atN(s:St)(i:Ins):Int:=((getX s i.n:Int)+if i.op=17\/i.op=18 then i.imm*2^i.sz.toNat else 0)%18446744073709551616
def spanA(s:St)(i:Ins):Int:=if 1099511627776<=atN s i then-1 else atN s i
def spV(a l:Int):qV:= .agg #[iI a,iI l]
theorem aG{w:qW}{a:Addr}{v:qV}(h:w.cell? a=some v):a.block<w.heap.size:=by
 rcases zaJ a.block w.heap.size with hl|hl
 ·exact hl
 ·rw [World.cell?,zaW hl] at h
  simp at h
theorem ao.lt{w:qW}{B:Nat}{s:St}(h:ao w B s):B<w.heap.size:=aG (h 0 Za).1
theorem ao.below{w w':qW}{B:Nat}{s:St}(h:ao w B s)(hb:Below w.heap.size w w'):ao w' B s:=fun k hk=>
 ⟨(hb.cell (p:=⟨B,k,none⟩) h.lt).trans (h k hk).1,(hb.frozen (p:=⟨B,k,none⟩) h.lt).trans (h k hk).2⟩
theorem dW(s:St)(i:Ins)(hf:Facts i)(hs:s.ok)(B:Nat)(w:qW)(hS:ao w B s):qC 44 #[pP B,insV i] w (Gives w (spV (spanA s i) (lenI i))):=by
 have G:=Zh (fun W h=>mU s i.n hf.n B W h)
 have P:=Zh (dH i.op)
 have HS:=Zh (fun (W:qW) (h:Below w.heap.size w W)=>hS.below h)
 have e1:Hid (lenI i=if 25<=i.op/\i.op<=28 then 16 else 2^i.sz.toNat):=Zh rfl
 have e2:Hid (spanA s i=if 1099511627776<=atN s i then-1 else atN s i):=Zh rfl
 have e3:Hid (atN s i=((getX s i.n:Int)+if i.op=17\/i.op=18 then i.imm*2^i.sz.toNat else 0)%18446744073709551616):=Zh rfl
 have hg:=bX hs i.n
 unfold paB at P
 unfold spV
 generalize spanA s i=A at e2 ⊢
 generalize lenI i=L at e1 ⊢
 generalize atN s i=T at e2 e3
 have f1:=hf.op
 have f2:=hf.n
 have f3:=hf.sz
 have f4:=hf.page
 have f5:=hf.small
 clear hf hs
 obtain ⟨op,d,n,m,e,sz,imm⟩:=i
 unfold insV
 simp only at*
 generalize getX s n=g at*
 have hy: ∃y:Int,(g:Int)=y/\0<=y/\y<18446744073709551616:=⟨g,rfl,by omega,by omega⟩
 obtain ⟨y,AH,y1,y2⟩:=hy
 rw [AH] at G e3
 clear AH hg
 clear g
 have hp: ∃t:Int,(2:Int)^sz.toNat=t/\1<=t/\t<=8:=by
  have:sz=0\/sz=1\/sz=2\/sz=3:=by omega
  rcases this with rfl|rfl|rfl|rfl<;>simp
 obtain ⟨t,ht,t1,t2⟩:=hp
 rw [ht] at e1 e3
 have yj:(25<=op/\op<=28)\/(op=17\/op=18)\/(op≠17/\op≠18/\ ¬(25<=op/\op<=28)):=by omega
 have AU:1099511627776<=T\/T<1099511627776:=by omega
 rcases yj with ⟨h1,h2⟩|h1|⟨h1,h2,h3⟩
 ·have q1:=e1.out
  rw [if_pos ⟨h1,h2⟩] at q1
  subst q1
  have q2:=e2.out
  have q3:=e3.out
  rw [if_neg Za] at q3
  have q4:T=y:=by omega
  subst q4
  have n1:(op==17)=false:=by simp;omega
  have n2:(op==18)=false:=by simp;omega
  clear q3 e1 e3 e2 f4 f5
  rw [zaw ⟨h1,h2⟩] at P
  rcases AU with h|h
  ·rw [if_pos h] at q2
   subst q2
   go_enter Tryz.func44,Tryz.ntmps44
   go_wp2_with (first
    |(go_at_call 47;refine (P.out _).mono ?_;rintro e w1 ⟨rfl,rfl⟩)
    |(go_at_call 46;refine (G.out _ (HS.out _ ZZ)).mono ?_;rintro e w1 ⟨rfl,rfl⟩))
   go_returns
   exact Gives.mk Z53_ ZZ
  ·rw [if_neg Za] at q2
   subst q2
   go_enter Tryz.func44,Tryz.ntmps44
   go_wp2_with (first
    |(go_at_call 47;refine (P.out _).mono ?_;rintro e w1 ⟨rfl,rfl⟩)
    |(go_at_call 46;refine (G.out _ (HS.out _ ZZ)).mono ?_;rintro e w1 ⟨rfl,rfl⟩))
   go_returns
   exact Gives.mk Z53_ ZZ
 ·have q1:=e1.out
  rw [if_neg Za] at q1
  have q2:=e2.out
  have q3:=e3.out
  rw [if_pos h1] at q3
  have f6:=f4 h1
  have f7:=f5 Za
  have n3: ¬(25<=op/\op<=28):=by omega
  have m1:0<=imm*t:=Int.mul_nonneg f7.1 Za
  have m2:imm*t<=4095*8:=Int.mul_le_mul f6 t2 Za Za
  have q4:=q3
  rw [<-IntKind.wrap_u64] at q4
  clear f4 f5 e1 e3 e2
  rw [zax n3] at P
  clear n3
  rcases AU with h|h
  ·rw [if_pos h] at q2
   subst q2
   subst q1
   rcases h1 with rfl|rfl
   all_goals
    go_enter Tryz.func44,Tryz.ntmps44
    go_wp2_with (first
     |(go_at_call 47;refine (P.out _).mono ?_;rintro e w1 ⟨rfl,rfl⟩)
     |(go_at_call 46;refine (G.out _ (HS.out _ ZZ)).mono ?_;rintro e w1 ⟨rfl,rfl⟩))
    go_returns
    exact Gives.mk Z53_ ZZ
  ·rw [if_neg Za] at q2
   have h0:0<=T:=by omega
   subst q2
   subst q1
   rcases h1 with rfl|rfl
   all_goals
    go_enter Tryz.func44,Tryz.ntmps44
    go_wp2_with (first
     |(go_at_call 47;refine (P.out _).mono ?_;rintro e w1 ⟨rfl,rfl⟩)
     |(go_at_call 46;refine (G.out _ (HS.out _ ZZ)).mono ?_;rintro e w1 ⟨rfl,rfl⟩))
    go_returns
    exact Gives.mk Z53_ ZZ
 ·have q1:=e1.out
  rw [if_neg h3] at q1
  have q2:=e2.out
  have q3:=e3.out
  rw [if_neg Za] at q3
  have q4:T=y:=by omega
  subst q4
  have n1:(op==17)=false:=by simp;omega
  have n2:(op==18)=false:=by simp;omega
  clear q3 e1 e3 e2 f4 f5
  rw [zax h3] at P
  clear h3 h1 h2
  subst q1
  rcases AU with h|h
  ·rw [if_pos h] at q2
   subst q2
   go_enter Tryz.func44,Tryz.ntmps44
   go_wp2_with (first
    |(go_at_call 47;refine (P.out _).mono ?_;rintro e w1 ⟨rfl,rfl⟩)
    |(go_at_call 46;refine (G.out _ (HS.out _ ZZ)).mono ?_;rintro e w1 ⟨rfl,rfl⟩))
   go_returns
   exact Gives.mk Z53_ ZZ
  ·rw [if_neg Za] at q2
   subst q2
   go_enter Tryz.func44,Tryz.ntmps44
   go_wp2_with (first
    |(go_at_call 47;refine (P.out _).mono ?_;rintro e w1 ⟨rfl,rfl⟩)
    |(go_at_call 46;refine (G.out _ (HS.out _ ZZ)).mono ?_;rintro e w1 ⟨rfl,rfl⟩))
   go_returns
   exact Gives.mk Z53_ ZZ
theorem fz(s:St)(n:Int)(hn:0<=n/\n<=31)(B:Nat)(w:qW)(hS:ao w B s):qC 46 #[pP B,iI n] w (Gives w (.int .u64 (getX s n:Nat))):=
 bO ((mU s n hn B w hS).mono fun _ _ ⟨a,b⟩=>⟨a,b.symm⟩)
def takB(s:St)(i:Ins):Bool:=if i.op=13 then true else if i.op=14 then hoB s i.e else if i.op=15 then ((getX s i.d:Nat):Int)==0 else if i.op=16 then ((getX s i.d:Nat):Int) !=0 else false
def numI(s:St)(i:Ins):Int:=
 if i.op=1 then IntKind.u64.wrap (i.imm*2^(16*i.e).toNat)
 else if i.op=2 then (putN (getX s i.d) (16*i.e) 16 i.imm.toNat:Nat)
 else if i.op=3 then IntKind.u64.wrap ((getX s i.n:Int)+(getX s i.m:Int))
 else if i.op=4\/i.op=5 then IntKind.u64.wrap ((getX s i.n:Int)-(getX s i.m:Int))
 else if i.op=6 then bits .and .u64 (getX s i.n) (getX s i.m)
 else if i.op=7 then bits .or .u64 (getX s i.n) (getX s i.m)
 else if i.op=8 then bits .xor .u64 (getX s i.n) (getX s i.m)
 else if i.op=9 then IntKind.u64.wrap ((getX s i.n:Int)*(getX s i.m:Int))
 else if i.op=10 then IntKind.u64.wrap ((getX s i.n:Int)*2^((getX s i.m:Int)%64).toNat)
 else if i.op=11 then (getX s i.n:Int)/2^((getX s i.m:Int)%64).toNat
 else if i.op=12 then (if hoB s i.e then 1 else 0)
 else 0
def numB(op:Int):Bool:=decide (1<=op/\op<=12)
theorem vL(s:St)(i:Ins)(hf:Facts i)(hs:s.ok)(B:Nat)(w:qW)(hS:ao w B s):qC 54 #[pP B,insV i] w (Gives w (.tuple #[.int .u64 (numI s i),.bool (numB i.op)])):=by
 have G:=Zh (fun n hn W h=>fz s n hn B W h)
 have hn:=hf.n
 have hm:=hf.m
 have hd:=hf.d
 have HO:=Zh (fun W h=>bO (me s i.e B W h))
 have HS:=Zh (fun (W:qW) (h:Below w.heap.size w W)=>ao.below hS h)
 have gn:=bX hs i.n
 have gm:=bX hs i.m
 have gd:=bX hs i.d
 have f1:=hf.op
 have f3:=hf.four
 have f4:=hf.e
 have f5:=hf.small
 have e1:=Zh (numI.eq_1 s i)
 clear hf hs
 generalize numI s i=V at e1 ⊢
 obtain ⟨op,d,n,m,e,sz,imm⟩:=i
 unfold insV
 simp only at*
 generalize hoB s e=H at*
 have yj:op=1\/op=2\/op=3\/op=4\/op=5\/op=6\/op=7\/op=8\/op=9\/op=10\/op=11\/op=12\/(13<=op/\ ¬op=1/\ ¬op=2/\ ¬op=3/\ ¬(op=4\/op=5)/\ ¬op=6/\ ¬op=7/\ ¬op=8/\ ¬op=9/\ ¬op=10/\ ¬op=11/\ ¬op=12):=by omega
 rcases yj with rfl|rfl|rfl|rfl|rfl|rfl|rfl|rfl|rfl|rfl|rfl|rfl|⟨hh,k1,k2,k3,k4,k6,k7,k8,k9,k10,k11,k12⟩
 case inr.inr.inr.inr.inr.inr.inr.inr.inr.inr.inr.inr=>
  have q1:=e1.out
  rw [if_neg k1,if_neg k2,if_neg k3,if_neg k4,if_neg k6,if_neg k7,if_neg k8,if_neg k9,if_neg k10,if_neg k11,if_neg k12] at q1
  subst q1
  rw [show numB op=false from zax Za]
  have j1:(op==1)=false:=by simpa using k1
  have j2:(op==2)=false:=by simpa using k2
  have j3:(op==3)=false:=by simpa using k3
  have j4:(op==4)=false:=by simp;omega
  have j5:(op==5)=false:=by simp;omega
  have j6:(op==6)=false:=by simpa using k6
  have j7:(op==7)=false:=by simpa using k7
  have j8:(op==8)=false:=by simpa using k8
  have j9:(op==9)=false:=by simpa using k9
  have j10:(op==10)=false:=by simpa using k10
  have j11:(op==11)=false:=by simpa using k11
  have j12:(op==12)=false:=by simpa using k12
  clear k1 k2 k3 k4 k6 k7 k8 k9 k10 k11 k12 e1 f3 f5
  go_enter Tryz.func54,Tryz.ntmps54
  go_wp2_with fail
  refine aD Zb Zb ?_
  repeat (go_big_quiet_step (first|(go_at_call 46;exact ay (G.out _ Za _ (HS.out _ Zd)))))
  refine zaE ?_
  intro p
  go_wp2_with fail
  go_returns
  exact Gives.mk rfl Zd
 case inr.inl=>
  have q1:=e1.out
  simp at q1
  rw [show numB 2=true from zaw Za]
  have f6:=f3 Za
  have f7:=f5 Za
  obtain ⟨im,rfl⟩: ∃im:Nat,imm=im:=⟨imm.toNat,by omega⟩
  have PU:=Zh (fun W=>ycl (yeq (getX s d) im (16*e) 16 gd Za Za Za W))
  simp at q1
  clear e1 f3 f5
  go_enter Tryz.func54,Tryz.ntmps54
  go_wp2_with fail
  refine aD Zb Zb ?_
  repeat (go_big_quiet_step (first|(go_at_call 46;exact ay (G.out _ Za _ (HS.out _ Zd)))))
  refine zaE ?_
  intro p
  go_wp2_with fail
  refine aD Zb Zb ?_
  repeat (go_big_quiet_step (first|(go_at_call 46;exact ay (G.out _ Za _ (HS.out _ Zd)))|(go_at_call 91;exact ay (PU.out _))))
  refine zaE ?_
  intro p2
  go_wp2_with fail
  go_returns
  exact Gives.mk (by rw [q1];rfl) Zd
 case inr.inr.inr.inr.inr.inr.inr.inr.inr.inr.inr.inl=>
  have q1:=e1.out
  simp at q1
  rw [show numB 12=true from zaw Za]
  clear e1 f3 f5
  cases H
  all_goals
   simp at q1
   go_enter Tryz.func54,Tryz.ntmps54
   go_wp2_with fail
   refine aD Zb Zb ?_
   repeat (go_big_quiet_step (first|(go_at_call 46;exact ay (G.out _ Za _ (HS.out _ Zd)))))
   refine zaE ?_
   intro p
   go_wp2_with (first
    |(go_at_call 90;refine (HO.out _ (HS.out _ Zd)).mono ?_;rintro e w1 ⟨rfl,p1,rfl⟩))
   go_returns
   exact Gives.mk (by rw [q1];rfl) Zd
 all_goals
  have q1:=e1.out
  simp at q1
  rw [show numB _=true from zaw Za]
  try have f6:=f3 Za
  have f7:=f5 Za
  clear e1 f3 f5
  go_enter Tryz.func54,Tryz.ntmps54
  go_wp2_with fail
  refine aD Zb Zb ?_
  repeat (go_big_quiet_step (first|(go_at_call 46;exact ay (G.out _ Za _ (HS.out _ Zd)))))
  refine zaE ?_
  intro p
  go_wp2_with fail
  go_returns
  exact Gives.mk (by rw [q1];rfl) Zd
theorem pA(s:St)(i:Ins)(hf:Facts i)(hs:s.ok)(B:Nat)(w:qW)(hS:ao w B s):qC 53 #[pP B,insV i] w (Gives w (.bool (takB s i))):=by
 have G:=Zh (fun n hn W h=>fz s n hn B W h)
 have hd:=hf.d
 have HO:=Zh (fun W h=>bO (me s i.e B W h))
 have HS:=Zh (fun (W:qW) (h:Below w.heap.size w W)=>ao.below hS h)
 have gd:=bX hs i.d
 have f1:=hf.op
 have e1:=Zh (takB.eq_1 s i)
 clear hf hs
 generalize takB s i=V at e1 ⊢
 obtain ⟨op,d,n,m,e,sz,imm⟩:=i
 unfold insV
 simp only at*
 generalize hoB s e=H at*
 have yj:op=13\/op=14\/op=15\/op=16\/(¬op=13/\ ¬op=14/\ ¬op=15/\ ¬op=16):=by omega
 rcases yj with rfl|rfl|rfl|rfl|⟨k1,k2,k3,k4⟩
 case inr.inr.inr.inr=>
  have q1:=e1.out
  rw [if_neg k1,if_neg k2,if_neg k3,if_neg k4] at q1
  subst q1
  have j1:(op==13)=false:=by simpa using k1
  have j2:(op==14)=false:=by simpa using k2
  have j3:(op==15)=false:=by simpa using k3
  have j4:(op==16)=false:=by simpa using k4
  clear k1 k2 k3 k4 e1
  go_enter Tryz.func53,Tryz.ntmps53
  go_wp2_with fail
  go_ret
  exact Gives.mk rfl Zd
 all_goals
  have q1:=e1.out
  simp at q1
  clear e1
  go_enter Tryz.func53,Tryz.ntmps53
  go_wp2_with (first
   |(go_at_call 46;refine (G.out _ Za _ (HS.out _ Zd)).mono ?_;rintro e w1 ⟨rfl,p1,rfl⟩)
   |(go_at_call 90;refine (HO.out _ (HS.out _ Zd)).mono ?_;rintro e w1 ⟨rfl,p1,rfl⟩))
  go_ret
  exact Gives.mk (by rw [q1];first|rfl|simp) Zd
end Go.Proofs.YtcekjfmfcefjpaaGreatDoor
namespace Go.Proofs.YtcekjfmfcefjpaaGreatDoor
section
variable{P:Program}{ops:Array Oper}{md:Region.Mode}{C:qW->Prop}
def anyLQ(P:Program)(md:Region.Mode)(ops:Array Oper)(C:qW->Prop)(n:Nat)(L:Array Bool->Act->Prop):Nat->Array Bool->Act->Prop
 |0,listed,a=>L listed a
 |f+1,listed,a=>
  Region.ready md ops listed≠[]/\ ∀i∈Region.ready md ops listed,i<n/\qOp P ops C i (anyLQ P md ops C n L f (listed.setIfInBounds i true)) a
theorem nX{n g:Nat}{L:Array Bool->Act->Prop}{Q':Exit->Act->qW->Prop}(hL: ∀listed a w,C w->L listed a->wpAny P md ops Q' g listed a w):
  ∀(f:Nat) (listed:Array Bool) (a:Act) (w:qW),C w->anyLQ P md ops C n L f listed a->wpAny P md ops Q' (f+g) listed a w
 |0,_,_,_,hw,h=>by rw [zag];exact hL _ _ _ hw h
 |f+1,_,_,_,hw,h=>by
  rw [show f+1+g=(f+g)+1 by omega]
  exact ⟨fun h0=>absurd h0 h.1,fun i hi=>wpOp_of_qOp hw (fun a' w' Bc h'=>nX hL f _ a' w' Bc h') (h.2 i hi).2⟩
theorem yfb{n i:Nat}{oi:Oper}{v:qV}{L:Array Bool->Act->Prop}(hi:ops[i]?=some oi)(zD: ∀(j:Nat) (o:Oper) cs b,ops[j]?=some o->o.op≠ .select cs b)
  (hs:Region.sinkB md ops n=true) (hc:Region.chainB md ops n=true) (hn:n<ops.size) (zR:i<n)
  (GB: ∀listed a,L listed a-> ∀j∈Region.ready md ops listed,n<=j):
  ∀(f:Nat) (listed:Array Bool) (a:Act),HeadInv md ops n listed->
   (∀j oj,ops[j]?=some oj->j≠i->listed.getD j true=false->(∀e∈oj.after,Region.binds md e=true->e.on≠i)->oi.apart ops oj=true)->
   i∈Region.ready md ops listed->YieldsIn P ops C oi v a->
   anyLQ P md ops C n L f (listed.setIfInBounds i true) (a.put oi.dst v)->anyLQ P md ops C n L (f+1) listed a:=by
 intro f
 induction f with
 |zero=>
  intro listed a inv _ hr hy H
  have Bd:=(mem_ready.1 hr).1
  refine ⟨fun h=>(by rw [h] at hr;cases hr),fun j hj=>?_⟩
  have Aa:j<n:=by
   rcases zaJ j n with h|h
   ·exact h
   ·exact absurd hj (tail_waits hs hc hn inv _ i rfl zR Bd j h)
  refine ⟨Aa,?_⟩
  by_cases Ac:j=i
  ·subst Ac;exact hy.qOp hi H
  ·have:=GB _ _ H j (ready_mono hj Ac)
   omega
 |succ f ih=>
  intro listed a inv An hr hy H
  have Bd:=(mem_ready.1 hr).1
  refine ⟨fun h=>(by rw [h] at hr;cases hr),fun j hj=>?_⟩
  have Aa:j<n:=by
   rcases zaJ j n with h|h
   ·exact h
   ·exact absurd hj (tail_waits hs hc hn inv _ i rfl zR Bd j h)
  refine ⟨Aa,?_⟩
  by_cases Ac:j=i
  ·subst Ac;exact hy.qOp hi H
  ·have h1:=(H.2 j (ready_mono hj Ac)).2
   obtain ⟨BW,oj,Cy,xp⟩:=mem_ready.1 hj
   have Ek: ∀e∈oj.after,Region.binds md e=true->e.on≠i:=fun e he hb Ay=>by
    have h1:=xp e he hb
    rw [Ay,getD_both Bd] at h1
    cases h1
   have h2:=qOp_put Cy (An j oj Cy Ac BW Ek) (fun cs b=>zD i oi cs b hi) (fun cs b=>zD j oj cs b Cy) hy h1
   have AS: ∀k ok,ops[k]?=some ok->k≠i->(listed.setIfInBounds j true).getD k true=false->
     (∀e∈ok.after,Region.binds md e=true->e.on≠i)->oi.apart ops ok=true:=fun k ok hk Io Bd xV=>by
    refine An k ok hk Io ?_ xV
    by_cases Ab:j=k
    ·subst Ab;exact BW
    ·rw [getD_set_ne true Ab] at Bd;exact Bd
   refine qOp_mono (fun a' h3=>ih (listed.setIfInBounds j true) a' (inv.set hj Aa) AS (ready_mono hr (Ne.symm Ac)) h3.1 ?_) h2
   rw [Array.setIfInBounds_comm _ _ Ac]
   exact h3.2
theorem nZ{n g:Nat}{Lq:Act->Prop}(zD:Region.noSelect ops=true)(hs:Region.sinkB md ops n=true)(hc:Region.chainB md ops n=true)(hn:n<ops.size):
  ∀(l:List Oper) (k:Nat) (listed:Array Bool) (a:Act),(∀j,j<l.length->l[j]?=ops[k+j]?)->k+l.length=n->HeadInv md ops n listed->
  Region.lexHead md ops g l.length k listed=true->wpQuiet P ops C Lq l a->
  anyLQ P md ops C n (fun listed' a'=>Region.seqB md ops g n listed'=true/\Lq a') l.length listed a
 |[],k,listed,a,_,hk,_,hB,h=>by
  have:k=n:=by simpa using hk
  subst this
  exact ⟨by simpa [Region.lexHead] using hB,h⟩
 |o::l,k,listed,a,hl,hk,inv,hB,h=>by
  have h0:ops[k]?=some o:=by simpa using (hl 0 Zi).symm
  simp only [za2,Region.lexHead,za0] at hB
  obtain ⟨⟨hr,hf⟩,IH⟩:=hB
  have zu:k<n:=by simp only [za2] at hk;omega
  have Dd:k∈Region.ready md ops listed:=by simpa using hr
  have xw:qOp P ops C k (wpQuiet P ops C Lq l) a:=by unfold qOp;simp only [h0];exact h
  obtain ⟨v,hy,hK⟩:=yieldsIn_of_qOp h0 xw
  exact yfb h0 (Region.noSelect_spec zD) hs hc hn zu (fun listed' a' hL=>seqB_ready hL.1) l.length listed a inv (Region.free_spec h0 hf) Dd hy
   (nZ zD hs hc hn l (k+1) _ _ (fun j hj=>by have:=hl (j+1) Zk;simpa [Nat.add_assoc,Nat.add_comm 1 j] using this) (by simp only [za2] at hk;omega) (inv.set Dd zu) IH hK)
theorem so{id:Nat}{Q:Exit->Act->qW->Prop}{a:Act}{w:qW}{l:List Oper}(n:Nat)(hm:P.follows .mixedOrders=true)(hB:Region.lexTailB .any l.toArray n=true)
  (hC:C {w with drawn:=w.drawn+1})
  (h:wpQuiet P l.toArray C (fun a'=> ∀w',C w'->wpList P l.toArray Q (l.drop n) a' w') (l.take n) a):(Code.region id l.toArray true).wp P Q a w:=by
 simp only [Region.lexTailB,za0,zau] at hB
 obtain ⟨⟨⟨⟨zD,hn⟩,hs⟩,hc⟩,JH⟩:=hB
 have Ls:n<l.length:=by simpa using hn
 have zC:(l.take n).length=n:=by simp;omega
 have Is:(l.drop n).length=l.toArray.size-n:=by simp
 have inv0:HeadInv .any l.toArray n (Array.replicate l.toArray.size false):=
  ⟨by simp,fun j oj _ hl=>(by rw [getD_replicate_false] at hl;cases hl),fun t _ ht=>getD_in (by simpa using ht) (getD_replicate_false _ _)⟩
 have H:=nZ (md:= .any) (g:=l.toArray.size-n) zD hs hc hn (l.take n) 0 _ a (fun j hj=>by
  have JQ:j<n:=by rw [zC] at hj;exact hj
  simp [JQ]) (by simpa using zC) inv0 (by rw [zC];exact JH) h
 refine wp_region_any hm ?_
 have:=nX (Q':=Q) (g:=l.toArray.size-n) (fun listed a' w' Bc hL=>by
  have:=wpAny_of_seq (md:= .any) (Q':=Q) (l.drop n) n listed a' w' (fun j=>by simp [List.getElem?_drop]) (by rw [Is];exact hL.1) (hL.2 w' Bc)
  rwa [Is] at this) _ _ _ _ hC H
 rw [zC,show n+(l.toArray.size-n)=l.toArray.size by omega] at this
 exact this
end
open Go.RowKit Go.Sort
theorem fM{P:Program}{id:Nat}{Q:Exit->Act->qW->Prop}{a:Act}{w:qW}{l:List Oper}(n:Nat)(hm:P.follows .mixedOrders=true)(hB:Region.lexTailB .any l.toArray n=true)
  (h:wpQuiet P l.toArray (fun w'=> ∃p:Regrown,w'=more w p) (fun a'=> ∀p:Regrown,wpList P l.toArray Q (l.drop n) a' (more w p)) (l.take n) a):(Code.region id l.toArray true).wp P Q a w:=by
 refine so (C:=fun w'=> ∃p:Regrown,w'=more w p) n hm hB ⟨⟨w.drawn+1,#[]⟩,by unfold more;rw [grow_empty];rfl⟩ ?_
 have e:(fun a'=> ∀p:Regrown,wpList P l.toArray Q (l.drop n) a' (more w p))=(fun a'=> ∀w',(∃p:Regrown,w'=more w p)->wpList P l.toArray Q (l.drop n) a' w'):=by
  funext a'
  exact propext ⟨fun h w' ⟨p,hp⟩=>by rw [hp];exact h p,fun h p=>h _ ⟨p,rfl⟩⟩
 rw [<-e]
 exact h
end Go.Proofs.YtcekjfmfcefjpaaGreatDoor
