/- Walks. No condition. -/
import Derived.Test.YtjmfoeajhiimnaaGreatDoorG02
set_option maxRecDepth 100000
set_option maxHeartbeats 0
set_option linter.all false
namespace Go.Proofs.YtjmfoeajhiimnaaGreatDoor
open Go.RowKit Go.Sort
theorem bA{k:IntKind}{a b:Int}(h:a=b):Ending.returned (.int k a)= .returned (.int k b):=by rw [h]
theorem gV(w:qW):qC 62 #[.agg #[iI 0,iI 5,.bool false,.int .u32 0,iI 31]] w (Gives w (.int .u32 31)):=ZU
theorem mO(x:Int)(hx: -9223372036854775808<=x/\x<=9223372036854775807)(w:qW):qC 95 #[.agg #[iI 0,iI 5,.bool false,.int .u32 0,iI 31],iI x] w (Gives w (.bool (fitF ⟨0,5,1,0,31⟩ x))):=by
 have e:fitF ⟨0,5,1,0,31⟩ x=(decide (0<=x)&&decide (x<=31)):=by unfold fitF;simp
 rw [e]
 clear e
 by_cases h1:0<=x
 ·by_cases h2:x<=31
  ·rw [zaw h1,zaw h2]
   go_enter Tryz.func95,Tryz.ntmps95
   go_wp2
   go_ret
   exact Gives.mk rfl Ze
  ·rw [zaw h1,zax h2]
   go_enter Tryz.func95,Tryz.ntmps95
   go_wp2
   go_ret
   exact Gives.mk rfl Ze
 ·rw [zax h1,zay]
  go_enter Tryz.func95,Tryz.ntmps95
  go_wp2
  go_ret
  exact Gives.mk rfl Ze
theorem gN(w:qW):qC 62 #[.agg #[iI 5,iI 5,.bool false,.int .u32 0,iI 31]] w (Gives w (.int .u32 992)):=ZU
theorem mI(x:Int)(hx: -9223372036854775808<=x/\x<=9223372036854775807)(w:qW):qC 95 #[.agg #[iI 5,iI 5,.bool false,.int .u32 0,iI 31],iI x] w (Gives w (.bool (fitF ⟨5,5,2,0,31⟩ x))):=by
 have e:fitF ⟨5,5,2,0,31⟩ x=(decide (0<=x)&&decide (x<=31)):=by unfold fitF;simp
 rw [e]
 clear e
 by_cases h1:0<=x
 ·by_cases h2:x<=31
  ·rw [zaw h1,zaw h2]
   go_enter Tryz.func95,Tryz.ntmps95
   go_wp2
   go_ret
   exact Gives.mk rfl Ze
  ·rw [zaw h1,zax h2]
   go_enter Tryz.func95,Tryz.ntmps95
   go_wp2
   go_ret
   exact Gives.mk rfl Ze
 ·rw [zax h1,zay]
  go_enter Tryz.func95,Tryz.ntmps95
  go_wp2
  go_ret
  exact Gives.mk rfl Ze
theorem gY(w:qW):qC 62 #[.agg #[iI 5,iI 5,.bool false,.int .u32 0,iI 30]] w (Gives w (.int .u32 992)):=ZU
theorem mR(x:Int)(hx: -9223372036854775808<=x/\x<=9223372036854775807)(w:qW):qC 95 #[.agg #[iI 5,iI 5,.bool false,.int .u32 0,iI 30],iI x] w (Gives w (.bool (fitF ⟨5,5,2,0,30⟩ x))):=by
 have e:fitF ⟨5,5,2,0,30⟩ x=(decide (0<=x)&&decide (x<=30)):=by unfold fitF;simp
 rw [e]
 clear e
 by_cases h1:0<=x
 ·by_cases h2:x<=30
  ·rw [zaw h1,zaw h2]
   go_enter Tryz.func95,Tryz.ntmps95
   go_wp2
   go_ret
   exact Gives.mk rfl Ze
  ·rw [zaw h1,zax h2]
   go_enter Tryz.func95,Tryz.ntmps95
   go_wp2
   go_ret
   exact Gives.mk rfl Ze
 ·rw [zax h1,zay]
  go_enter Tryz.func95,Tryz.ntmps95
  go_wp2
  go_ret
  exact Gives.mk rfl Ze
theorem gO(w:qW):qC 62 #[.agg #[iI 16,iI 5,.bool false,.int .u32 0,iI 31]] w (Gives w (.int .u32 2031616)):=ZU
theorem mJ(x:Int)(hx: -9223372036854775808<=x/\x<=9223372036854775807)(w:qW):qC 95 #[.agg #[iI 16,iI 5,.bool false,.int .u32 0,iI 31],iI x] w (Gives w (.bool (fitF ⟨16,5,3,0,31⟩ x))):=by
 have e:fitF ⟨16,5,3,0,31⟩ x=(decide (0<=x)&&decide (x<=31)):=by unfold fitF;simp
 rw [e]
 clear e
 by_cases h1:0<=x
 ·by_cases h2:x<=31
  ·rw [zaw h1,zaw h2]
   go_enter Tryz.func95,Tryz.ntmps95
   go_wp2
   go_ret
   exact Gives.mk rfl Ze
  ·rw [zaw h1,zax h2]
   go_enter Tryz.func95,Tryz.ntmps95
   go_wp2
   go_ret
   exact Gives.mk rfl Ze
 ·rw [zax h1,zay]
  go_enter Tryz.func95,Tryz.ntmps95
  go_wp2
  go_ret
  exact Gives.mk rfl Ze
theorem gU(w:qW):qC 62 #[.agg #[iI 10,iI 5,.bool false,.int .u32 0,iI 31]] w (Gives w (.int .u32 31744)):=ZU
theorem mN(x:Int)(hx: -9223372036854775808<=x/\x<=9223372036854775807)(w:qW):qC 95 #[.agg #[iI 10,iI 5,.bool false,.int .u32 0,iI 31],iI x] w (Gives w (.bool (fitF ⟨10,5,4,0,31⟩ x))):=by
 have e:fitF ⟨10,5,4,0,31⟩ x=(decide (0<=x)&&decide (x<=31)):=by unfold fitF;simp
 rw [e]
 clear e
 by_cases h1:0<=x
 ·by_cases h2:x<=31
  ·rw [zaw h1,zaw h2]
   go_enter Tryz.func95,Tryz.ntmps95
   go_wp2
   go_ret
   exact Gives.mk rfl Ze
  ·rw [zaw h1,zax h2]
   go_enter Tryz.func95,Tryz.ntmps95
   go_wp2
   go_ret
   exact Gives.mk rfl Ze
 ·rw [zax h1,zay]
  go_enter Tryz.func95,Tryz.ntmps95
  go_wp2
  go_ret
  exact Gives.mk rfl Ze
theorem gL(w:qW):qC 62 #[.agg #[iI 21,iI 2,.bool false,.int .u32 0,iI 3]] w (Gives w (.int .u32 6291456)):=ZU
theorem mG(x:Int)(hx: -9223372036854775808<=x/\x<=9223372036854775807)(w:qW):qC 95 #[.agg #[iI 21,iI 2,.bool false,.int .u32 0,iI 3],iI x] w (Gives w (.bool (fitF ⟨21,2,4,0,3⟩ x))):=by
 have e:fitF ⟨21,2,4,0,3⟩ x=(decide (0<=x)&&decide (x<=3)):=by unfold fitF;simp
 rw [e]
 clear e
 by_cases h1:0<=x
 ·by_cases h2:x<=3
  ·rw [zaw h1,zaw h2]
   go_enter Tryz.func95,Tryz.ntmps95
   go_wp2
   go_ret
   exact Gives.mk rfl Ze
  ·rw [zaw h1,zax h2]
   go_enter Tryz.func95,Tryz.ntmps95
   go_wp2
   go_ret
   exact Gives.mk rfl Ze
 ·rw [zax h1,zay]
  go_enter Tryz.func95,Tryz.ntmps95
  go_wp2
  go_ret
  exact Gives.mk rfl Ze
theorem gW(w:qW):qC 62 #[.agg #[iI 0,iI 2,.bool false,.int .u32 0,iI 3]] w (Gives w (.int .u32 3)):=ZU
theorem mP(x:Int)(hx: -9223372036854775808<=x/\x<=9223372036854775807)(w:qW):qC 95 #[.agg #[iI 0,iI 2,.bool false,.int .u32 0,iI 3],iI x] w (Gives w (.bool (fitF ⟨0,2,4,0,3⟩ x))):=by
 have e:fitF ⟨0,2,4,0,3⟩ x=(decide (0<=x)&&decide (x<=3)):=by unfold fitF;simp
 rw [e]
 clear e
 by_cases h1:0<=x
 ·by_cases h2:x<=3
  ·rw [zaw h1,zaw h2]
   go_enter Tryz.func95,Tryz.ntmps95
   go_wp2
   go_ret
   exact Gives.mk rfl Ze
  ·rw [zaw h1,zax h2]
   go_enter Tryz.func95,Tryz.ntmps95
   go_wp2
   go_ret
   exact Gives.mk rfl Ze
 ·rw [zax h1,zay]
  go_enter Tryz.func95,Tryz.ntmps95
  go_wp2
  go_ret
  exact Gives.mk rfl Ze
theorem gP(w:qW):qC 62 #[.agg #[iI 12,iI 2,.bool false,.int .u32 1,iI 3]] w (Gives w (.int .u32 12288)):=ZU
theorem mK(x:Int)(hx: -9223372036854775808<=x/\x<=9223372036854775807)(w:qW):qC 95 #[.agg #[iI 12,iI 2,.bool false,.int .u32 1,iI 3],iI x] w (Gives w (.bool (fitF ⟨12,2,4,2,3⟩ x))):=by
 have e:fitF ⟨12,2,4,2,3⟩ x=(decide (0<=x)&&decide (x<=3)):=by unfold fitF;simp
 rw [e]
 clear e
 by_cases h1:0<=x
 ·by_cases h2:x<=3
  ·rw [zaw h1,zaw h2]
   go_enter Tryz.func95,Tryz.ntmps95
   go_wp2
   go_ret
   exact Gives.mk rfl Ze
  ·rw [zaw h1,zax h2]
   go_enter Tryz.func95,Tryz.ntmps95
   go_wp2
   go_ret
   exact Gives.mk rfl Ze
 ·rw [zax h1,zay]
  go_enter Tryz.func95,Tryz.ntmps95
  go_wp2
  go_ret
  exact Gives.mk rfl Ze
theorem gK(w:qW):qC 62 #[.agg #[iI 30,iI 2,.bool false,.int .u32 0,iI 3]] w (Gives w (.int .u32 3221225472)):=ZU
theorem mF(x:Int)(hx: -9223372036854775808<=x/\x<=9223372036854775807)(w:qW):qC 95 #[.agg #[iI 30,iI 2,.bool false,.int .u32 0,iI 3],iI x] w (Gives w (.bool (fitF ⟨30,2,5,0,3⟩ x))):=by
 have e:fitF ⟨30,2,5,0,3⟩ x=(decide (0<=x)&&decide (x<=3)):=by unfold fitF;simp
 rw [e]
 clear e
 by_cases h1:0<=x
 ·by_cases h2:x<=3
  ·rw [zaw h1,zaw h2]
   go_enter Tryz.func95,Tryz.ntmps95
   go_wp2
   go_ret
   exact Gives.mk rfl Ze
  ·rw [zaw h1,zax h2]
   go_enter Tryz.func95,Tryz.ntmps95
   go_wp2
   go_ret
   exact Gives.mk rfl Ze
 ·rw [zax h1,zay]
  go_enter Tryz.func95,Tryz.ntmps95
  go_wp2
  go_ret
  exact Gives.mk rfl Ze
theorem gQ(w:qW):qC 62 #[.agg #[iI 5,iI 16,.bool false,.int .u32 0,iI 65535]] w (Gives w (.int .u32 2097120)):=ZU
theorem mL(x:Int)(hx: -9223372036854775808<=x/\x<=9223372036854775807)(w:qW):qC 95 #[.agg #[iI 5,iI 16,.bool false,.int .u32 0,iI 65535],iI x] w (Gives w (.bool (fitF ⟨5,16,6,0,65535⟩ x))):=by
 have e:fitF ⟨5,16,6,0,65535⟩ x=(decide (0<=x)&&decide (x<=65535)):=by unfold fitF;simp
 rw [e]
 clear e
 by_cases h1:0<=x
 ·by_cases h2:x<=65535
  ·rw [zaw h1,zaw h2]
   go_enter Tryz.func95,Tryz.ntmps95
   go_wp2
   go_ret
   exact Gives.mk rfl Ze
  ·rw [zaw h1,zax h2]
   go_enter Tryz.func95,Tryz.ntmps95
   go_wp2
   go_ret
   exact Gives.mk rfl Ze
 ·rw [zax h1,zay]
  go_enter Tryz.func95,Tryz.ntmps95
  go_wp2
  go_ret
  exact Gives.mk rfl Ze
theorem gM(w:qW):qC 62 #[.agg #[iI 10,iI 12,.bool false,.int .u32 0,iI 4095]] w (Gives w (.int .u32 4193280)):=ZU
theorem mH(x:Int)(hx: -9223372036854775808<=x/\x<=9223372036854775807)(w:qW):qC 95 #[.agg #[iI 10,iI 12,.bool false,.int .u32 0,iI 4095],iI x] w (Gives w (.bool (fitF ⟨10,12,6,0,4095⟩ x))):=by
 have e:fitF ⟨10,12,6,0,4095⟩ x=(decide (0<=x)&&decide (x<=4095)):=by unfold fitF;simp
 rw [e]
 clear e
 by_cases h1:0<=x
 ·by_cases h2:x<=4095
  ·rw [zaw h1,zaw h2]
   go_enter Tryz.func95,Tryz.ntmps95
   go_wp2
   go_ret
   exact Gives.mk rfl Ze
  ·rw [zaw h1,zax h2]
   go_enter Tryz.func95,Tryz.ntmps95
   go_wp2
   go_ret
   exact Gives.mk rfl Ze
 ·rw [zax h1,zay]
  go_enter Tryz.func95,Tryz.ntmps95
  go_wp2
  go_ret
  exact Gives.mk rfl Ze
theorem gX(w:qW):qC 62 #[.agg #[iI 0,iI 26,.bool true,.int .u32 0,iI 0]] w (Gives w (.int .u32 67108863)):=ZU
theorem mQ(x:Int)(hx: -9223372036854775808<=x/\x<=9223372036854775807)(w:qW):qC 95 #[.agg #[iI 0,iI 26,.bool true,.int .u32 0,iI 0],iI x] w (Gives w (.bool (fitF ⟨0,26,6,1,0⟩ x))):=by
 have e:fitF ⟨0,26,6,1,0⟩ x=(decide (-33554432<=x)&&decide (x<33554432)):=by unfold fitF;simp
 rw [e]
 clear e
 by_cases h1: -33554432<=x
 ·by_cases h2:x<33554432
  ·rw [zaw h1,zaw h2]
   go_enter Tryz.func95,Tryz.ntmps95
   go_wp2
   go_ret
   exact Gives.mk rfl Ze
  ·rw [zaw h1,zax h2]
   go_enter Tryz.func95,Tryz.ntmps95
   go_wp2
   go_ret
   exact Gives.mk rfl Ze
 ·rw [zax h1,zay]
  go_enter Tryz.func95,Tryz.ntmps95
  go_wp2
  go_ret
  exact Gives.mk rfl Ze
theorem gJ(w:qW):qC 62 #[.agg #[iI 5,iI 19,.bool true,.int .u32 0,iI 0]] w (Gives w (.int .u32 16777184)):=ZU
theorem mE(x:Int)(hx: -9223372036854775808<=x/\x<=9223372036854775807)(w:qW):qC 95 #[.agg #[iI 5,iI 19,.bool true,.int .u32 0,iI 0],iI x] w (Gives w (.bool (fitF ⟨5,19,6,1,0⟩ x))):=by
 have e:fitF ⟨5,19,6,1,0⟩ x=(decide (-262144<=x)&&decide (x<262144)):=by unfold fitF;simp
 rw [e]
 clear e
 by_cases h1: -262144<=x
 ·by_cases h2:x<262144
  ·rw [zaw h1,zaw h2]
   go_enter Tryz.func95,Tryz.ntmps95
   go_wp2
   go_ret
   exact Gives.mk rfl Ze
  ·rw [zaw h1,zax h2]
   go_enter Tryz.func95,Tryz.ntmps95
   go_wp2
   go_ret
   exact Gives.mk rfl Ze
 ·rw [zax h1,zay]
  go_enter Tryz.func95,Tryz.ntmps95
  go_wp2
  go_ret
  exact Gives.mk rfl Ze
theorem gR(w:qW):qC 62 #[.agg #[iI 8,iI 4,.bool false,.int .u32 0,iI 2]] w (Gives w (.int .u32 3840)):=ZU
theorem mM(x:Int)(hx: -9223372036854775808<=x/\x<=9223372036854775807)(w:qW):qC 95 #[.agg #[iI 8,iI 4,.bool false,.int .u32 0,iI 2],iI x] w (Gives w (.bool (fitF ⟨8,4,6,3,2⟩ x))):=by
 have e:fitF ⟨8,4,6,3,2⟩ x=(decide (0<=x)&&decide (x<=2)):=by unfold fitF;simp
 rw [e]
 clear e
 by_cases h1:0<=x
 ·by_cases h2:x<=2
  ·rw [zaw h1,zaw h2]
   go_enter Tryz.func95,Tryz.ntmps95
   go_wp2
   go_ret
   exact Gives.mk rfl Ze
  ·rw [zaw h1,zax h2]
   go_enter Tryz.func95,Tryz.ntmps95
   go_wp2
   go_ret
   exact Gives.mk rfl Ze
 ·rw [zax h1,zay]
  go_enter Tryz.func95,Tryz.ntmps95
  go_wp2
  go_ret
  exact Gives.mk rfl Ze
theorem lF(c:Nat)(f:Fl)(h:fl c=some f)(w:qW):qC 62 #[.agg #[iI f.lo,iI f.n,.bool (f.kd==1),.int .u32 (if f.kd=2 then 1 else 0),iI f.most]] w (Gives w (.int .u32 ((mskN f:Nat):Int))):=by
 unfold fl at h
 by_cases xT:c=100
 ·rw [if_pos xT] at h
  cases h
  subst xT
  exact gV w
 rw [if_neg xT] at h
 by_cases xN:c=110
 ·rw [if_pos xN] at h
  cases h
  subst xN
  exact gN w
 rw [if_neg xN] at h
 by_cases zc:c=97
 ·rw [if_pos zc] at h
  cases h
  subst zc
  exact gY w
 rw [if_neg zc] at h
 by_cases xO:c=109
 ·rw [if_pos xO] at h
  cases h
  subst xO
  exact gO w
 rw [if_neg xO] at h
 by_cases xS:c=101
 ·rw [if_pos xS] at h
  cases h
  subst xS
  exact gU w
 rw [if_neg xS] at h
 by_cases xL:c=113
 ·rw [if_pos xL] at h
  cases h
  subst xL
  exact gL w
 rw [if_neg xL] at h
 by_cases y':c=99
 ·rw [if_pos y'] at h
  cases h
  subst y'
  exact gW w
 rw [if_neg y'] at h
 by_cases xP:c=107
 ·rw [if_pos xP] at h
  cases h
  subst xP
  exact gP w
 rw [if_neg xP] at h
 by_cases xK:c=115
 ·rw [if_pos xK] at h
  cases h
  subst xK
  exact gK w
 rw [if_neg xK] at h
 by_cases xQ:c=105
 ·rw [if_pos xQ] at h
  cases h
  subst xQ
  exact gQ w
 rw [if_neg xQ] at h
 by_cases xM:c=111
 ·rw [if_pos xM] at h
  cases h
  subst xM
  exact gM w
 rw [if_neg xM] at h
 by_cases za:c=98
 ·rw [if_pos za] at h
  cases h
  subst za
  exact gX w
 rw [if_neg za] at h
 by_cases xJ:c=120
 ·rw [if_pos xJ] at h
  cases h
  subst xJ
  exact gJ w
 rw [if_neg xJ] at h
 by_cases xR:c=102
 ·rw [if_pos xR] at h
  cases h
  subst xR
  exact gR w
 rw [if_neg xR] at h
 cases h
theorem ydc(c:Nat)(f:Fl)(h:fl c=some f)(x:Int)(hx: -9223372036854775808<=x/\x<=9223372036854775807)(w:qW):qC 95 #[.agg #[iI f.lo,iI f.n,.bool (f.kd==1),.int .u32 (if f.kd=2 then 1 else 0),iI f.most],iI x] w (Gives w (.bool (fitF f x))):=by
 unfold fl at h
 by_cases xT:c=100
 ·rw [if_pos xT] at h
  cases h
  subst xT
  exact mO x hx w
 rw [if_neg xT] at h
 by_cases xN:c=110
 ·rw [if_pos xN] at h
  cases h
  subst xN
  exact mI x hx w
 rw [if_neg xN] at h
 by_cases zc:c=97
 ·rw [if_pos zc] at h
  cases h
  subst zc
  exact mR x hx w
 rw [if_neg zc] at h
 by_cases xO:c=109
 ·rw [if_pos xO] at h
  cases h
  subst xO
  exact mJ x hx w
 rw [if_neg xO] at h
 by_cases xS:c=101
 ·rw [if_pos xS] at h
  cases h
  subst xS
  exact mN x hx w
 rw [if_neg xS] at h
 by_cases xL:c=113
 ·rw [if_pos xL] at h
  cases h
  subst xL
  exact mG x hx w
 rw [if_neg xL] at h
 by_cases y':c=99
 ·rw [if_pos y'] at h
  cases h
  subst y'
  exact mP x hx w
 rw [if_neg y'] at h
 by_cases xP:c=107
 ·rw [if_pos xP] at h
  cases h
  subst xP
  exact mK x hx w
 rw [if_neg xP] at h
 by_cases xK:c=115
 ·rw [if_pos xK] at h
  cases h
  subst xK
  exact mF x hx w
 rw [if_neg xK] at h
 by_cases xQ:c=105
 ·rw [if_pos xQ] at h
  cases h
  subst xQ
  exact mL x hx w
 rw [if_neg xQ] at h
 by_cases xM:c=111
 ·rw [if_pos xM] at h
  cases h
  subst xM
  exact mH x hx w
 rw [if_neg xM] at h
 by_cases za:c=98
 ·rw [if_pos za] at h
  cases h
  subst za
  exact mQ x hx w
 rw [if_neg za] at h
 by_cases xJ:c=120
 ·rw [if_pos xJ] at h
  cases h
  subst xJ
  exact mE x hx w
 rw [if_neg xJ] at h
 by_cases xR:c=102
 ·rw [if_pos xR] at h
  cases h
  subst xR
  exact mM x hx w
 rw [if_neg xR] at h
 cases h
theorem fJ(w:qW):qC 98 #[] w (Gives w (.agg #[.int .u32 11,.int .u32 9,.int .u32 10])):=by
 go_enter Tryz.func98,Tryz.ntmps98
 go_wp2
 go_returns
 exact Gives.mk rfl Ze
theorem tH(x:Int)(hx:fitF ⟨0,5,1,0,31⟩ x=true)(w:qW):qC 96 #[.agg #[iI 0,iI 5,.bool false,.int .u32 0,iI 31],.int .u8 100,iI x] w (Gives w (.int .u32 ((putF ⟨0,5,1,0,31⟩ x*2^0:Nat):Int))):=by
 have K:=Zh gV
 obtain ⟨a,ha⟩: ∃a:Nat,IntKind.u32.wrap x=a/\a<4294967296/\a%32=putF ⟨0,5,1,0,31⟩ x:=by
  simp [fitF] at hx
  refine ⟨x.toNat,?_,by omega,by simp [putF];omega⟩
  simp [IntKind.wrap,IntKind.bits,IntKind.signed];omega
 obtain ⟨h1,h2,h3⟩:=ha
 have hr:bits .and .u32 (bits .xor .u32 (a:Int) 0%4294967296) 31=((putF ⟨0,5,1,0,31⟩ x*2^0:Nat):Int):=by
  have h5:=bV (aO 100 ⟨0,5,1,0,31⟩ rfl) a 1 rfl
  rw [aL a h2,<-h3]
  rw [Int.mul_one] at h5
  exact h5
 have yL:bits .and .u32 (bits .xor .u32 (a:Int) 0) 31=((putF ⟨0,5,1,0,31⟩ x*2^0:Nat):Int):=by
  rw [aL a h2]
  rw [aL a h2] at hr
  rw [(show (a:Int)%4294967296=a by omega)] at hr
  exact hr
 have HR:=Zh hr
 clear hr h2 h3 hx yL
 go_enter Tryz.func96,Tryz.ntmps96
 go_wp2
 refine aE Zb Zb ?_
 repeat (go_big_quiet_step (first|(go_at_call 62;exact az (K.out _))))
 refine zaE ?_
 intro p
 go_wp2
 go_ret
 exact Gives.mk (bA ZZ) Ze
theorem tA(x:Int)(hx:fitF ⟨5,5,2,0,31⟩ x=true)(w:qW):qC 96 #[.agg #[iI 5,iI 5,.bool false,.int .u32 0,iI 31],.int .u8 110,iI x] w (Gives w (.int .u32 ((putF ⟨5,5,2,0,31⟩ x*2^5:Nat):Int))):=by
 have K:=Zh gN
 obtain ⟨a,ha⟩: ∃a:Nat,IntKind.u32.wrap x=a/\a<4294967296/\a%32=putF ⟨5,5,2,0,31⟩ x:=by
  simp [fitF] at hx
  refine ⟨x.toNat,?_,by omega,by simp [putF];omega⟩
  simp [IntKind.wrap,IntKind.bits,IntKind.signed];omega
 obtain ⟨h1,h2,h3⟩:=ha
 have hr:bits .and .u32 (bits .xor .u32 (a:Int) 0*32%4294967296) 992=((putF ⟨5,5,2,0,31⟩ x*2^5:Nat):Int):=by
  rw [aL a h2,<-h3]
  exact bV (aO 110 ⟨5,5,2,0,31⟩ rfl) a 32 rfl
 have HR:=Zh hr
 clear hr h2 h3 hx
 go_enter Tryz.func96,Tryz.ntmps96
 go_wp2
 refine aE Zb Zb ?_
 repeat (go_big_quiet_step (first|(go_at_call 62;exact az (K.out _))))
 refine zaE ?_
 intro p
 go_wp2
 go_ret
 exact Gives.mk (bA ZZ) Ze
theorem tM(x:Int)(hx:fitF ⟨5,5,2,0,30⟩ x=true)(w:qW):qC 96 #[.agg #[iI 5,iI 5,.bool false,.int .u32 0,iI 30],.int .u8 97,iI x] w (Gives w (.int .u32 ((putF ⟨5,5,2,0,30⟩ x*2^5:Nat):Int))):=by
 have K:=Zh gY
 obtain ⟨a,ha⟩: ∃a:Nat,IntKind.u32.wrap x=a/\a<4294967296/\a%32=putF ⟨5,5,2,0,30⟩ x:=by
  simp [fitF] at hx
  refine ⟨x.toNat,?_,by omega,by simp [putF];omega⟩
  simp [IntKind.wrap,IntKind.bits,IntKind.signed];omega
 obtain ⟨h1,h2,h3⟩:=ha
 have hr:bits .and .u32 (bits .xor .u32 (a:Int) 0*32%4294967296) 992=((putF ⟨5,5,2,0,30⟩ x*2^5:Nat):Int):=by
  rw [aL a h2,<-h3]
  exact bV (aO 97 ⟨5,5,2,0,30⟩ rfl) a 32 rfl
 have HR:=Zh hr
 clear hr h2 h3 hx
 go_enter Tryz.func96,Tryz.ntmps96
 go_wp2
 refine aE Zb Zb ?_
 repeat (go_big_quiet_step (first|(go_at_call 62;exact az (K.out _))))
 refine zaE ?_
 intro p
 go_wp2
 go_ret
 exact Gives.mk (bA ZZ) Ze
theorem tB(x:Int)(hx:fitF ⟨16,5,3,0,31⟩ x=true)(w:qW):qC 96 #[.agg #[iI 16,iI 5,.bool false,.int .u32 0,iI 31],.int .u8 109,iI x] w (Gives w (.int .u32 ((putF ⟨16,5,3,0,31⟩ x*2^16:Nat):Int))):=by
 have K:=Zh gO
 obtain ⟨a,ha⟩: ∃a:Nat,IntKind.u32.wrap x=a/\a<4294967296/\a%32=putF ⟨16,5,3,0,31⟩ x:=by
  simp [fitF] at hx
  refine ⟨x.toNat,?_,by omega,by simp [putF];omega⟩
  simp [IntKind.wrap,IntKind.bits,IntKind.signed];omega
 obtain ⟨h1,h2,h3⟩:=ha
 have hr:bits .and .u32 (bits .xor .u32 (a:Int) 0*65536%4294967296) 2031616=((putF ⟨16,5,3,0,31⟩ x*2^16:Nat):Int):=by
  rw [aL a h2,<-h3]
  exact bV (aO 109 ⟨16,5,3,0,31⟩ rfl) a 65536 rfl
 have HR:=Zh hr
 clear hr h2 h3 hx
 go_enter Tryz.func96,Tryz.ntmps96
 go_wp2
 refine aE Zb Zb ?_
 repeat (go_big_quiet_step (first|(go_at_call 62;exact az (K.out _))))
 refine zaE ?_
 intro p
 go_wp2
 go_ret
 exact Gives.mk (bA ZZ) Ze
theorem tG(x:Int)(hx:fitF ⟨10,5,4,0,31⟩ x=true)(w:qW):qC 96 #[.agg #[iI 10,iI 5,.bool false,.int .u32 0,iI 31],.int .u8 101,iI x] w (Gives w (.int .u32 ((putF ⟨10,5,4,0,31⟩ x*2^10:Nat):Int))):=by
 have K:=Zh gU
 obtain ⟨a,ha⟩: ∃a:Nat,IntKind.u32.wrap x=a/\a<4294967296/\a%32=putF ⟨10,5,4,0,31⟩ x:=by
  simp [fitF] at hx
  refine ⟨x.toNat,?_,by omega,by simp [putF];omega⟩
  simp [IntKind.wrap,IntKind.bits,IntKind.signed];omega
 obtain ⟨h1,h2,h3⟩:=ha
 have hr:bits .and .u32 (bits .xor .u32 (a:Int) 0*1024%4294967296) 31744=((putF ⟨10,5,4,0,31⟩ x*2^10:Nat):Int):=by
  rw [aL a h2,<-h3]
  exact bV (aO 101 ⟨10,5,4,0,31⟩ rfl) a 1024 rfl
 have HR:=Zh hr
 clear hr h2 h3 hx
 go_enter Tryz.func96,Tryz.ntmps96
 go_wp2
 refine aE Zb Zb ?_
 repeat (go_big_quiet_step (first|(go_at_call 62;exact az (K.out _))))
 refine zaE ?_
 intro p
 go_wp2
 go_ret
 exact Gives.mk (bA ZZ) Ze
theorem tn(x:Int)(hx:fitF ⟨21,2,4,0,3⟩ x=true)(w:qW):qC 96 #[.agg #[iI 21,iI 2,.bool false,.int .u32 0,iI 3],.int .u8 113,iI x] w (Gives w (.int .u32 ((putF ⟨21,2,4,0,3⟩ x*2^21:Nat):Int))):=by
 have K:=Zh gL
 obtain ⟨a,ha⟩: ∃a:Nat,IntKind.u32.wrap x=a/\a<4294967296/\a%4=putF ⟨21,2,4,0,3⟩ x:=by
  simp [fitF] at hx
  refine ⟨x.toNat,?_,by omega,by simp [putF];omega⟩
  simp [IntKind.wrap,IntKind.bits,IntKind.signed];omega
 obtain ⟨h1,h2,h3⟩:=ha
 have hr:bits .and .u32 (bits .xor .u32 (a:Int) 0*2097152%4294967296) 6291456=((putF ⟨21,2,4,0,3⟩ x*2^21:Nat):Int):=by
  rw [aL a h2,<-h3]
  exact bV (aO 113 ⟨21,2,4,0,3⟩ rfl) a 2097152 rfl
 have HR:=Zh hr
 clear hr h2 h3 hx
 go_enter Tryz.func96,Tryz.ntmps96
 go_wp2
 refine aE Zb Zb ?_
 repeat (go_big_quiet_step (first|(go_at_call 62;exact az (K.out _))))
 refine zaE ?_
 intro p
 go_wp2
 go_ret
 exact Gives.mk (bA ZZ) Ze
theorem tJ(x:Int)(hx:fitF ⟨0,2,4,0,3⟩ x=true)(w:qW):qC 96 #[.agg #[iI 0,iI 2,.bool false,.int .u32 0,iI 3],.int .u8 99,iI x] w (Gives w (.int .u32 ((putF ⟨0,2,4,0,3⟩ x*2^0:Nat):Int))):=by
 have K:=Zh gW
 obtain ⟨a,ha⟩: ∃a:Nat,IntKind.u32.wrap x=a/\a<4294967296/\a%4=putF ⟨0,2,4,0,3⟩ x:=by
  simp [fitF] at hx
  refine ⟨x.toNat,?_,by omega,by simp [putF];omega⟩
  simp [IntKind.wrap,IntKind.bits,IntKind.signed];omega
 obtain ⟨h1,h2,h3⟩:=ha
 have hr:bits .and .u32 (bits .xor .u32 (a:Int) 0%4294967296) 3=((putF ⟨0,2,4,0,3⟩ x*2^0:Nat):Int):=by
  have h5:=bV (aO 99 ⟨0,2,4,0,3⟩ rfl) a 1 rfl
  rw [aL a h2,<-h3]
  rw [Int.mul_one] at h5
  exact h5
 have yL:bits .and .u32 (bits .xor .u32 (a:Int) 0) 3=((putF ⟨0,2,4,0,3⟩ x*2^0:Nat):Int):=by
  rw [aL a h2]
  rw [aL a h2] at hr
  rw [(show (a:Int)%4294967296=a by omega)] at hr
  exact hr
 have HR:=Zh hr
 clear hr h2 h3 hx yL
 go_enter Tryz.func96,Tryz.ntmps96
 go_wp2
 refine aE Zb Zb ?_
 repeat (go_big_quiet_step (first|(go_at_call 62;exact az (K.out _))))
 refine zaE ?_
 intro p
 go_wp2
 go_ret
 exact Gives.mk (bA ZZ) Ze
theorem tC(x:Int)(hx:fitF ⟨12,2,4,2,3⟩ x=true)(w:qW):qC 96 #[.agg #[iI 12,iI 2,.bool false,.int .u32 1,iI 3],.int .u8 107,iI x] w (Gives w (.int .u32 ((putF ⟨12,2,4,2,3⟩ x*2^12:Nat):Int))):=by
 have K:=Zh gP
 obtain ⟨a,ha⟩: ∃a:Nat,IntKind.u32.wrap x=a/\a<4294967296/\a<4/\turnN a=putF ⟨12,2,4,2,3⟩ x:=by
  simp [fitF] at hx
  refine ⟨x.toNat,?_,by omega,by omega,by simp [putF]⟩
  simp [IntKind.wrap,IntKind.bits,IntKind.signed];omega
 obtain ⟨h1,h2,h4,h3⟩:=ha
 have hr:bits .and .u32 (bits .xor .u32 (a:Int) 1*4096%4294967296) 12288=((putF ⟨12,2,4,2,3⟩ x*2^12:Nat):Int):=by
  rw [<-h3]
  have:a=0\/a=1\/a=2\/a=3:=by omega
  rcases this with rfl|rfl|rfl|rfl<;>decide
 have HR:=Zh hr
 clear hr h2 h3 hx h4
 go_enter Tryz.func96,Tryz.ntmps96
 go_wp2
 refine aE Zb Zb ?_
 repeat (go_big_quiet_step (first|(go_at_call 62;exact az (K.out _))))
 refine zaE ?_
 intro p
 go_wp2
 go_ret
 exact Gives.mk (bA ZZ) Ze
theorem tm(x:Int)(hx:fitF ⟨30,2,5,0,3⟩ x=true)(w:qW):qC 96 #[.agg #[iI 30,iI 2,.bool false,.int .u32 0,iI 3],.int .u8 115,iI x] w (Gives w (.int .u32 ((putF ⟨30,2,5,0,3⟩ x*2^30:Nat):Int))):=by
 have K:=Zh gK
 obtain ⟨a,ha⟩: ∃a:Nat,IntKind.u32.wrap x=a/\a<4294967296/\a%4=putF ⟨30,2,5,0,3⟩ x:=by
  simp [fitF] at hx
  refine ⟨x.toNat,?_,by omega,by simp [putF];omega⟩
  simp [IntKind.wrap,IntKind.bits,IntKind.signed];omega
 obtain ⟨h1,h2,h3⟩:=ha
 have hr:bits .and .u32 (bits .xor .u32 (a:Int) 0*1073741824%4294967296) 3221225472=((putF ⟨30,2,5,0,3⟩ x*2^30:Nat):Int):=by
  rw [aL a h2,<-h3]
  exact bV (aO 115 ⟨30,2,5,0,3⟩ rfl) a 1073741824 rfl
 have HR:=Zh hr
 clear hr h2 h3 hx
 go_enter Tryz.func96,Tryz.ntmps96
 go_wp2
 refine aE Zb Zb ?_
 repeat (go_big_quiet_step (first|(go_at_call 62;exact az (K.out _))))
 refine zaE ?_
 intro p
 go_wp2
 go_ret
 exact Gives.mk (bA ZZ) Ze
theorem tD(x:Int)(hx:fitF ⟨5,16,6,0,65535⟩ x=true)(w:qW):qC 96 #[.agg #[iI 5,iI 16,.bool false,.int .u32 0,iI 65535],.int .u8 105,iI x] w (Gives w (.int .u32 ((putF ⟨5,16,6,0,65535⟩ x*2^5:Nat):Int))):=by
 have K:=Zh gQ
 obtain ⟨a,ha⟩: ∃a:Nat,IntKind.u32.wrap x=a/\a<4294967296/\a%65536=putF ⟨5,16,6,0,65535⟩ x:=by
  simp [fitF] at hx
  refine ⟨x.toNat,?_,by omega,by simp [putF];omega⟩
  simp [IntKind.wrap,IntKind.bits,IntKind.signed];omega
 obtain ⟨h1,h2,h3⟩:=ha
 have hr:bits .and .u32 (bits .xor .u32 (a:Int) 0*32%4294967296) 2097120=((putF ⟨5,16,6,0,65535⟩ x*2^5:Nat):Int):=by
  rw [aL a h2,<-h3]
  exact bV (aO 105 ⟨5,16,6,0,65535⟩ rfl) a 32 rfl
 have HR:=Zh hr
 clear hr h2 h3 hx
 go_enter Tryz.func96,Tryz.ntmps96
 go_wp2
 refine aE Zb Zb ?_
 repeat (go_big_quiet_step (first|(go_at_call 62;exact az (K.out _))))
 refine zaE ?_
 intro p
 go_wp2
 go_ret
 exact Gives.mk (bA ZZ) Ze
theorem tr(x:Int)(hx:fitF ⟨10,12,6,0,4095⟩ x=true)(w:qW):qC 96 #[.agg #[iI 10,iI 12,.bool false,.int .u32 0,iI 4095],.int .u8 111,iI x] w (Gives w (.int .u32 ((putF ⟨10,12,6,0,4095⟩ x*2^10:Nat):Int))):=by
 have K:=Zh gM
 obtain ⟨a,ha⟩: ∃a:Nat,IntKind.u32.wrap x=a/\a<4294967296/\a%4096=putF ⟨10,12,6,0,4095⟩ x:=by
  simp [fitF] at hx
  refine ⟨x.toNat,?_,by omega,by simp [putF];omega⟩
  simp [IntKind.wrap,IntKind.bits,IntKind.signed];omega
 obtain ⟨h1,h2,h3⟩:=ha
 have hr:bits .and .u32 (bits .xor .u32 (a:Int) 0*1024%4294967296) 4193280=((putF ⟨10,12,6,0,4095⟩ x*2^10:Nat):Int):=by
  rw [aL a h2,<-h3]
  exact bV (aO 111 ⟨10,12,6,0,4095⟩ rfl) a 1024 rfl
 have HR:=Zh hr
 clear hr h2 h3 hx
 go_enter Tryz.func96,Tryz.ntmps96
 go_wp2
 refine aE Zb Zb ?_
 repeat (go_big_quiet_step (first|(go_at_call 62;exact az (K.out _))))
 refine zaE ?_
 intro p
 go_wp2
 go_ret
 exact Gives.mk (bA ZZ) Ze
theorem tK(x:Int)(hx:fitF ⟨0,26,6,1,0⟩ x=true)(w:qW):qC 96 #[.agg #[iI 0,iI 26,.bool true,.int .u32 0,iI 0],.int .u8 98,iI x] w (Gives w (.int .u32 ((putF ⟨0,26,6,1,0⟩ x*2^0:Nat):Int))):=by
 have K:=Zh gX
 obtain ⟨a,ha⟩: ∃a:Nat,IntKind.u32.wrap x=a/\a<4294967296/\a%67108864=putF ⟨0,26,6,1,0⟩ x:=by
  refine ⟨(x%4294967296).toNat,?_,?_,?_⟩
  ·simp [IntKind.wrap,IntKind.bits,IntKind.signed];omega
  ·omega
  ·simp [putF];omega
 obtain ⟨h1,h2,h3⟩:=ha
 have hr:bits .and .u32 (bits .xor .u32 (a:Int) 0%4294967296) 67108863=((putF ⟨0,26,6,1,0⟩ x*2^0:Nat):Int):=by
  have h5:=bV (aO 98 ⟨0,26,6,1,0⟩ rfl) a 1 rfl
  rw [aL a h2,<-h3]
  rw [Int.mul_one] at h5
  exact h5
 have yL:bits .and .u32 (bits .xor .u32 (a:Int) 0) 67108863=((putF ⟨0,26,6,1,0⟩ x*2^0:Nat):Int):=by
  rw [aL a h2]
  rw [aL a h2] at hr
  rw [(show (a:Int)%4294967296=a by omega)] at hr
  exact hr
 have HR:=Zh hr
 clear hr h2 h3 hx yL
 go_enter Tryz.func96,Tryz.ntmps96
 go_wp2
 refine aE Zb Zb ?_
 repeat (go_big_quiet_step (first|(go_at_call 62;exact az (K.out _))))
 refine zaE ?_
 intro p
 go_wp2
 go_ret
 exact Gives.mk (bA ZZ) Ze
theorem tj(x:Int)(hx:fitF ⟨5,19,6,1,0⟩ x=true)(w:qW):qC 96 #[.agg #[iI 5,iI 19,.bool true,.int .u32 0,iI 0],.int .u8 120,iI x] w (Gives w (.int .u32 ((putF ⟨5,19,6,1,0⟩ x*2^5:Nat):Int))):=by
 have K:=Zh gJ
 obtain ⟨a,ha⟩: ∃a:Nat,IntKind.u32.wrap x=a/\a<4294967296/\a%524288=putF ⟨5,19,6,1,0⟩ x:=by
  refine ⟨(x%4294967296).toNat,?_,?_,?_⟩
  ·simp [IntKind.wrap,IntKind.bits,IntKind.signed];omega
  ·omega
  ·simp [putF];omega
 obtain ⟨h1,h2,h3⟩:=ha
 have hr:bits .and .u32 (bits .xor .u32 (a:Int) 0*32%4294967296) 16777184=((putF ⟨5,19,6,1,0⟩ x*2^5:Nat):Int):=by
  rw [aL a h2,<-h3]
  exact bV (aO 120 ⟨5,19,6,1,0⟩ rfl) a 32 rfl
 have HR:=Zh hr
 clear hr h2 h3 hx
 go_enter Tryz.func96,Tryz.ntmps96
 go_wp2
 refine aE Zb Zb ?_
 repeat (go_big_quiet_step (first|(go_at_call 62;exact az (K.out _))))
 refine zaE ?_
 intro p
 go_wp2
 go_ret
 exact Gives.mk (bA ZZ) Ze
theorem tE(x:Int)(hx:fitF ⟨8,4,6,3,2⟩ x=true)(w:qW):qC 96 #[.agg #[iI 8,iI 4,.bool false,.int .u32 0,iI 2],.int .u8 102,iI x] w (Gives w (.int .u32 ((putF ⟨8,4,6,3,2⟩ x*2^8:Nat):Int))):=by
 have K:=Zh gR
 have h:x=0\/x=1\/x=2:=by simp [fitF] at hx;omega
 clear hx
 rcases h with rfl|rfl|rfl
 ·have Cc: ∀W,(Instr.index 245 (.agg #[.int .u32 11,.int .u32 9,.int .u32 10]) (iI 0)).run Tryz.prog W= .ok (.int .u32 11) W:=fun _=>by kernel_rfl
  go_enter Tryz.func96,Tryz.ntmps96
  go_wp2_with (first|(go_at_call 98;refine (fJ _).mono ?_;rintro e w1 ⟨rfl,p1,rfl⟩))
  refine aE Zb Zb ?_
  repeat (go_big_quiet_step (first|(go_at_call 62;exact az (K.out _))))
  refine zaE ?_
  intro p
  go_wp2
  go_ret
  exact Gives.mk (bA Zd) Ze
 ·have Cc: ∀W,(Instr.index 245 (.agg #[.int .u32 11,.int .u32 9,.int .u32 10]) (iI 1)).run Tryz.prog W= .ok (.int .u32 9) W:=fun _=>by kernel_rfl
  go_enter Tryz.func96,Tryz.ntmps96
  go_wp2_with (first|(go_at_call 98;refine (fJ _).mono ?_;rintro e w1 ⟨rfl,p1,rfl⟩))
  refine aE Zb Zb ?_
  repeat (go_big_quiet_step (first|(go_at_call 62;exact az (K.out _))))
  refine zaE ?_
  intro p
  go_wp2
  go_ret
  exact Gives.mk (bA Zd) Ze
 ·have Cc: ∀W,(Instr.index 245 (.agg #[.int .u32 11,.int .u32 9,.int .u32 10]) (iI 2)).run Tryz.prog W= .ok (.int .u32 10) W:=fun _=>by kernel_rfl
  go_enter Tryz.func96,Tryz.ntmps96
  go_wp2_with (first|(go_at_call 98;refine (fJ _).mono ?_;rintro e w1 ⟨rfl,p1,rfl⟩))
  refine aE Zb Zb ?_
  repeat (go_big_quiet_step (first|(go_at_call 62;exact az (K.out _))))
  refine zaE ?_
  intro p
  go_wp2
  go_ret
  exact Gives.mk (bA Zd) Ze
theorem tL(c:Nat)(f:Fl)(h:fl c=some f)(x:Int)(hx:fitF f x=true)(w:qW):qC 96 #[.agg #[iI f.lo,iI f.n,.bool (f.kd==1),.int .u32 (if f.kd=2 then 1 else 0),iI f.most],.int .u8 c,iI x] w (Gives w (.int .u32 ((putF f x*2^f.lo:Nat):Int))):=by
 unfold fl at h
 by_cases xT:c=100
 ·rw [if_pos xT] at h
  cases h
  subst xT
  exact tH x hx w
 rw [if_neg xT] at h
 by_cases xN:c=110
 ·rw [if_pos xN] at h
  cases h
  subst xN
  exact tA x hx w
 rw [if_neg xN] at h
 by_cases zc:c=97
 ·rw [if_pos zc] at h
  cases h
  subst zc
  exact tM x hx w
 rw [if_neg zc] at h
 by_cases xO:c=109
 ·rw [if_pos xO] at h
  cases h
  subst xO
  exact tB x hx w
 rw [if_neg xO] at h
 by_cases xS:c=101
 ·rw [if_pos xS] at h
  cases h
  subst xS
  exact tG x hx w
 rw [if_neg xS] at h
 by_cases xL:c=113
 ·rw [if_pos xL] at h
  cases h
  subst xL
  exact tn x hx w
 rw [if_neg xL] at h
 by_cases y':c=99
 ·rw [if_pos y'] at h
  cases h
  subst y'
  exact tJ x hx w
 rw [if_neg y'] at h
 by_cases xP:c=107
 ·rw [if_pos xP] at h
  cases h
  subst xP
  exact tC x hx w
 rw [if_neg xP] at h
 by_cases xK:c=115
 ·rw [if_pos xK] at h
  cases h
  subst xK
  exact tm x hx w
 rw [if_neg xK] at h
 by_cases xQ:c=105
 ·rw [if_pos xQ] at h
  cases h
  subst xQ
  exact tD x hx w
 rw [if_neg xQ] at h
 by_cases xM:c=111
 ·rw [if_pos xM] at h
  cases h
  subst xM
  exact tr x hx w
 rw [if_neg xM] at h
 by_cases za:c=98
 ·rw [if_pos za] at h
  cases h
  subst za
  exact tK x hx w
 rw [if_neg za] at h
 by_cases xJ:c=120
 ·rw [if_pos xJ] at h
  cases h
  subst xJ
  exact tj x hx w
 rw [if_neg xJ] at h
 by_cases xR:c=102
 ·rw [if_pos xR] at h
  cases h
  subst xR
  exact tE x hx w
 rw [if_neg xR] at h
 cases h
end Go.Proofs.YtjmfoeajhiimnaaGreatDoor
