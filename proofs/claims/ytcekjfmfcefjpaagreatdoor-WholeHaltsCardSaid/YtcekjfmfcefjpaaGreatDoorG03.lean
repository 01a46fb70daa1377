/- Walks. No condition. -/
import Derived.Handy
import Derived.Test.YtcekjfmfcefjpaaGreatDoorProg
import Derived.Test.YtcekjfmfcefjpaaGreatDoorG02
set_option maxRecDepth 100000
set_option maxHeartbeats 0
set_option linter.all false
namespace Go.Proofs.YtcekjfmfcefjpaaGreatDoor
open Go.RowKit Go.Sort
def fvF(f:Fl):qV:= .agg #[iI f.lo,iI f.n,.bool (f.kd==1),.int .u32 (if f.kd=2 then 1 else 0),iI f.most]
theorem tP(w:qW):qC 82 #[.int .u8 100] w (Gives w (fvF ⟨0,5,1,0,31⟩)):=ZW
theorem yeX(b:Nat)(w:qW):qC 84 #[.pointer (some ⟨b,0,none⟩),.int .u8 100] w (Gives w (.pointer (some ⟨b,1,none⟩))):=ZX
theorem tJ(w:qW):qC 82 #[.int .u8 110] w (Gives w (fvF ⟨5,5,2,0,31⟩)):=ZW
theorem yeQ(b:Nat)(w:qW):qC 84 #[.pointer (some ⟨b,0,none⟩),.int .u8 110] w (Gives w (.pointer (some ⟨b,2,none⟩))):=ZX
theorem tU(w:qW):qC 82 #[.int .u8 97] w (Gives w (fvF ⟨5,5,2,0,30⟩)):=ZW
theorem ye0(b:Nat)(w:qW):qC 84 #[.pointer (some ⟨b,0,none⟩),.int .u8 97] w (Gives w (.pointer (some ⟨b,2,none⟩))):=ZX
theorem tK(w:qW):qC 82 #[.int .u8 109] w (Gives w (fvF ⟨16,5,3,0,31⟩)):=ZW
theorem yeS(b:Nat)(w:qW):qC 84 #[.pointer (some ⟨b,0,none⟩),.int .u8 109] w (Gives w (.pointer (some ⟨b,3,none⟩))):=ZX
theorem tO(w:qW):qC 82 #[.int .u8 101] w (Gives w (fvF ⟨10,5,4,0,31⟩)):=ZW
theorem yeW(b:Nat)(w:qW):qC 84 #[.pointer (some ⟨b,0,none⟩),.int .u8 101] w (Gives w (.pointer (some ⟨b,4,none⟩))):=ZX
theorem tH(w:qW):qC 82 #[.int .u8 113] w (Gives w (fvF ⟨21,2,4,0,3⟩)):=ZW
theorem yeO(b:Nat)(w:qW):qC 84 #[.pointer (some ⟨b,0,none⟩),.int .u8 113] w (Gives w (.pointer (some ⟨b,4,none⟩))):=ZX
theorem tQ(w:qW):qC 82 #[.int .u8 99] w (Gives w (fvF ⟨0,2,4,0,3⟩)):=ZW
theorem yeY(b:Nat)(w:qW):qC 84 #[.pointer (some ⟨b,0,none⟩),.int .u8 99] w (Gives w (.pointer (some ⟨b,4,none⟩))):=ZX
theorem tL(w:qW):qC 82 #[.int .u8 107] w (Gives w (fvF ⟨12,2,4,2,3⟩)):=ZW
theorem yeT(b:Nat)(w:qW):qC 84 #[.pointer (some ⟨b,0,none⟩),.int .u8 107] w (Gives w (.pointer (some ⟨b,4,none⟩))):=ZX
theorem tG(w:qW):qC 82 #[.int .u8 115] w (Gives w (fvF ⟨30,2,5,0,3⟩)):=ZW
theorem yeN(b:Nat)(w:qW):qC 84 #[.pointer (some ⟨b,0,none⟩),.int .u8 115] w (Gives w (.pointer (some ⟨b,5,none⟩))):=ZX
theorem tM(w:qW):qC 82 #[.int .u8 105] w (Gives w (fvF ⟨5,16,6,0,65535⟩)):=ZW
theorem yeU(b:Nat)(w:qW):qC 84 #[.pointer (some ⟨b,0,none⟩),.int .u8 105] w (Gives w (.pointer (some ⟨b,6,none⟩))):=ZX
theorem tI(w:qW):qC 82 #[.int .u8 111] w (Gives w (fvF ⟨10,12,6,0,4095⟩)):=ZW
theorem yeP(b:Nat)(w:qW):qC 84 #[.pointer (some ⟨b,0,none⟩),.int .u8 111] w (Gives w (.pointer (some ⟨b,6,none⟩))):=ZX
theorem tR(w:qW):qC 82 #[.int .u8 98] w (Gives w (fvF ⟨0,26,6,1,0⟩)):=ZW
theorem yeZ(b:Nat)(w:qW):qC 84 #[.pointer (some ⟨b,0,none⟩),.int .u8 98] w (Gives w (.pointer (some ⟨b,6,none⟩))):=ZX
theorem tE(w:qW):qC 82 #[.int .u8 120] w (Gives w (fvF ⟨5,19,6,1,0⟩)):=ZW
theorem yeM(b:Nat)(w:qW):qC 84 #[.pointer (some ⟨b,0,none⟩),.int .u8 120] w (Gives w (.pointer (some ⟨b,6,none⟩))):=ZX
theorem tN(w:qW):qC 82 #[.int .u8 102] w (Gives w (fvF ⟨8,4,6,3,2⟩)):=ZW
theorem yeV(b:Nat)(w:qW):qC 84 #[.pointer (some ⟨b,0,none⟩),.int .u8 102] w (Gives w (.pointer (some ⟨b,6,none⟩))):=ZX
theorem ku(c:Nat)(f:Fl)(h:fl c=some f)(w:qW):qC 82 #[.int .u8 c] w (Gives w (.agg #[iI f.lo,iI f.n,.bool (f.kd==1),.int .u32 (if f.kd=2 then 1 else 0),iI f.most])):=by
 unfold fl at h
 by_cases xO:c=100
 ·rw [if_pos xO] at h
  cases h
  subst xO
  exact tP w
 rw [if_neg xO] at h
 by_cases xI:c=110
 ·rw [if_pos xI] at h
  cases h
  subst xI
  exact tJ w
 rw [if_neg xI] at h
 by_cases yY:c=97
 ·rw [if_pos yY] at h
  cases h
  subst yY
  exact tU w
 rw [if_neg yY] at h
 by_cases xJ:c=109
 ·rw [if_pos xJ] at h
  cases h
  subst xJ
  exact tK w
 rw [if_neg xJ] at h
 by_cases xN:c=101
 ·rw [if_pos xN] at h
  cases h
  subst xN
  exact tO w
 rw [if_neg xN] at h
 by_cases xG:c=113
 ·rw [if_pos xG] at h
  cases h
  subst xG
  exact tH w
 rw [if_neg xG] at h
 by_cases yW:c=99
 ·rw [if_pos yW] at h
  cases h
  subst yW
  exact tQ w
 rw [if_neg yW] at h
 by_cases xK:c=107
 ·rw [if_pos xK] at h
  cases h
  subst xK
  exact tL w
 rw [if_neg xK] at h
 by_cases xF:c=115
 ·rw [if_pos xF] at h
  cases h
  subst xF
  exact tG w
 rw [if_neg xF] at h
 by_cases xL:c=105
 ·rw [if_pos xL] at h
  cases h
  subst xL
  exact tM w
 rw [if_neg xL] at h
 by_cases xH:c=111
 ·rw [if_pos xH] at h
  cases h
  subst xH
  exact tI w
 rw [if_neg xH] at h
 by_cases yX:c=98
 ·rw [if_pos yX] at h
  cases h
  subst yX
  exact tR w
 rw [if_neg yX] at h
 by_cases xE:c=120
 ·rw [if_pos xE] at h
  cases h
  subst xE
  exact tE w
 rw [if_neg xE] at h
 by_cases xM:c=102
 ·rw [if_pos xM] at h
  cases h
  subst xM
  exact tN w
 rw [if_neg xM] at h
 cases h
theorem nR(c:Nat)(f:Fl)(h:fl c=some f)(b:Nat)(w:qW):qC 84 #[.pointer (some ⟨b,0,none⟩),.int .u8 c] w (Gives w (.pointer (some ⟨b,f.idx,none⟩))):=by
 unfold fl at h
 by_cases xO:c=100
 ·rw [if_pos xO] at h
  cases h
  subst xO
  exact yeX b w
 rw [if_neg xO] at h
 by_cases xI:c=110
 ·rw [if_pos xI] at h
  cases h
  subst xI
  exact yeQ b w
 rw [if_neg xI] at h
 by_cases yY:c=97
 ·rw [if_pos yY] at h
  cases h
  subst yY
  exact ye0 b w
 rw [if_neg yY] at h
 by_cases xJ:c=109
 ·rw [if_pos xJ] at h
  cases h
  subst xJ
  exact yeS b w
 rw [if_neg xJ] at h
 by_cases xN:c=101
 ·rw [if_pos xN] at h
  cases h
  subst xN
  exact yeW b w
 rw [if_neg xN] at h
 by_cases xG:c=113
 ·rw [if_pos xG] at h
  cases h
  subst xG
  exact yeO b w
 rw [if_neg xG] at h
 by_cases yW:c=99
 ·rw [if_pos yW] at h
  cases h
  subst yW
  exact yeY b w
 rw [if_neg yW] at h
 by_cases xK:c=107
 ·rw [if_pos xK] at h
  cases h
  subst xK
  exact yeT b w
 rw [if_neg xK] at h
 by_cases xF:c=115
 ·rw [if_pos xF] at h
  cases h
  subst xF
  exact yeN b w
 rw [if_neg xF] at h
 by_cases xL:c=105
 ·rw [if_pos xL] at h
  cases h
  subst xL
  exact yeU b w
 rw [if_neg xL] at h
 by_cases xH:c=111
 ·rw [if_pos xH] at h
  cases h
  subst xH
  exact yeP b w
 rw [if_neg xH] at h
 by_cases yX:c=98
 ·rw [if_pos yX] at h
  cases h
  subst yX
  exact yeZ b w
 rw [if_neg yX] at h
 by_cases xE:c=120
 ·rw [if_pos xE] at h
  cases h
  subst xE
  exact yeM b w
 rw [if_neg xE] at h
 by_cases xM:c=102
 ·rw [if_pos xM] at h
  cases h
  subst xM
  exact yeV b w
 rw [if_neg xM] at h
 cases h
theorem br{k:IntKind}{a b:Int}(h:a=b):Ending.returned (.int k a)= .returned (.int k b):=by rw [h]
theorem gO(w:qW):qC 85 #[.agg #[iI 0,iI 5,.bool false,.int .u32 0,iI 31]] w (Gives w (.int .u32 31)):=ZV
theorem mM(x:Int)(hx: -9223372036854775808<=x/\x<=9223372036854775807)(w:qW):qC 123 #[.agg #[iI 0,iI 5,.bool false,.int .u32 0,iI 31],iI x] w (Gives w (.bool (fitF ⟨0,5,1,0,31⟩ x))):=by
 have e:fitF ⟨0,5,1,0,31⟩ x=(decide (0<=x)&&decide (x<=31)):=by unfold fitF;simp
 rw [e]
 clear e
 by_cases h1:0<=x
 ·by_cases h2:x<=31
  ·rw [zaw h1,zaw h2]
   go_enter Tryz.func123,Tryz.ntmps123
   go_wp2
   go_ret
   exact Gives.mk rfl Zd
  ·rw [zaw h1,zax h2]
   go_enter Tryz.func123,Tryz.ntmps123
   go_wp2
   go_ret
   exact Gives.mk rfl Zd
 ·rw [zax h1,zay]
  go_enter Tryz.func123,Tryz.ntmps123
  go_wp2
  go_ret
  exact Gives.mk rfl Zd
theorem gI(w:qW):qC 85 #[.agg #[iI 5,iI 5,.bool false,.int .u32 0,iI 31]] w (Gives w (.int .u32 992)):=ZV
theorem mG(x:Int)(hx: -9223372036854775808<=x/\x<=9223372036854775807)(w:qW):qC 123 #[.agg #[iI 5,iI 5,.bool false,.int .u32 0,iI 31],iI x] w (Gives w (.bool (fitF ⟨5,5,2,0,31⟩ x))):=by
 have e:fitF ⟨5,5,2,0,31⟩ x=(decide (0<=x)&&decide (x<=31)):=by unfold fitF;simp
 rw [e]
 clear e
 by_cases h1:0<=x
 ·by_cases h2:x<=31
  ·rw [zaw h1,zaw h2]
   go_enter Tryz.func123,Tryz.ntmps123
   go_wp2
   go_ret
   exact Gives.mk rfl Zd
  ·rw [zaw h1,zax h2]
   go_enter Tryz.func123,Tryz.ntmps123
   go_wp2
   go_ret
   exact Gives.mk rfl Zd
 ·rw [zax h1,zay]
  go_enter Tryz.func123,Tryz.ntmps123
  go_wp2
  go_ret
  exact Gives.mk rfl Zd
theorem gR(w:qW):qC 85 #[.agg #[iI 5,iI 5,.bool false,.int .u32 0,iI 30]] w (Gives w (.int .u32 992)):=ZV
theorem mP(x:Int)(hx: -9223372036854775808<=x/\x<=9223372036854775807)(w:qW):qC 123 #[.agg #[iI 5,iI 5,.bool false,.int .u32 0,iI 30],iI x] w (Gives w (.bool (fitF ⟨5,5,2,0,30⟩ x))):=by
 have e:fitF ⟨5,5,2,0,30⟩ x=(decide (0<=x)&&decide (x<=30)):=by unfold fitF;simp
 rw [e]
 clear e
 by_cases h1:0<=x
 ·by_cases h2:x<=30
  ·rw [zaw h1,zaw h2]
   go_enter Tryz.func123,Tryz.ntmps123
   go_wp2
   go_ret
   exact Gives.mk rfl Zd
  ·rw [zaw h1,zax h2]
   go_enter Tryz.func123,Tryz.ntmps123
   go_wp2
   go_ret
   exact Gives.mk rfl Zd
 ·rw [zax h1,zay]
  go_enter Tryz.func123,Tryz.ntmps123
  go_wp2
  go_ret
  exact Gives.mk rfl Zd
theorem gJ(w:qW):qC 85 #[.agg #[iI 16,iI 5,.bool false,.int .u32 0,iI 31]] w (Gives w (.int .u32 2031616)):=ZV
theorem mH(x:Int)(hx: -9223372036854775808<=x/\x<=9223372036854775807)(w:qW):qC 123 #[.agg #[iI 16,iI 5,.bool false,.int .u32 0,iI 31],iI x] w (Gives w (.bool (fitF ⟨16,5,3,0,31⟩ x))):=by
 have e:fitF ⟨16,5,3,0,31⟩ x=(decide (0<=x)&&decide (x<=31)):=by unfold fitF;simp
 rw [e]
 clear e
 by_cases h1:0<=x
 ·by_cases h2:x<=31
  ·rw [zaw h1,zaw h2]
   go_enter Tryz.func123,Tryz.ntmps123
   go_wp2
   go_ret
   exact Gives.mk rfl Zd
  ·rw [zaw h1,zax h2]
   go_enter Tryz.func123,Tryz.ntmps123
   go_wp2
   go_ret
   exact Gives.mk rfl Zd
 ·rw [zax h1,zay]
  go_enter Tryz.func123,Tryz.ntmps123
  go_wp2
  go_ret
  exact Gives.mk rfl Zd
theorem gN(w:qW):qC 85 #[.agg #[iI 10,iI 5,.bool false,.int .u32 0,iI 31]] w (Gives w (.int .u32 31744)):=ZV
theorem mL(x:Int)(hx: -9223372036854775808<=x/\x<=9223372036854775807)(w:qW):qC 123 #[.agg #[iI 10,iI 5,.bool false,.int .u32 0,iI 31],iI x] w (Gives w (.bool (fitF ⟨10,5,4,0,31⟩ x))):=by
 have e:fitF ⟨10,5,4,0,31⟩ x=(decide (0<=x)&&decide (x<=31)):=by unfold fitF;simp
 rw [e]
 clear e
 by_cases h1:0<=x
 ·by_cases h2:x<=31
  ·rw [zaw h1,zaw h2]
   go_enter Tryz.func123,Tryz.ntmps123
   go_wp2
   go_ret
   exact Gives.mk rfl Zd
  ·rw [zaw h1,zax h2]
   go_enter Tryz.func123,Tryz.ntmps123
   go_wp2
   go_ret
   exact Gives.mk rfl Zd
 ·rw [zax h1,zay]
  go_enter Tryz.func123,Tryz.ntmps123
  go_wp2
  go_ret
  exact Gives.mk rfl Zd
theorem gG(w:qW):qC 85 #[.agg #[iI 21,iI 2,.bool false,.int .u32 0,iI 3]] w (Gives w (.int .u32 6291456)):=ZV
theorem mE(x:Int)(hx: -9223372036854775808<=x/\x<=9223372036854775807)(w:qW):qC 123 #[.agg #[iI 21,iI 2,.bool false,.int .u32 0,iI 3],iI x] w (Gives w (.bool (fitF ⟨21,2,4,0,3⟩ x))):=by
 have e:fitF ⟨21,2,4,0,3⟩ x=(decide (0<=x)&&decide (x<=3)):=by unfold fitF;simp
 rw [e]
 clear e
 by_cases h1:0<=x
 ·by_cases h2:x<=3
  ·rw [zaw h1,zaw h2]
   go_enter Tryz.func123,Tryz.ntmps123
   go_wp2
   go_ret
   exact Gives.mk rfl Zd
  ·rw [zaw h1,zax h2]
   go_enter Tryz.func123,Tryz.ntmps123
   go_wp2
   go_ret
   exact Gives.mk rfl Zd
 ·rw [zax h1,zay]
  go_enter Tryz.func123,Tryz.ntmps123
  go_wp2
  go_ret
  exact Gives.mk rfl Zd
theorem gP(w:qW):qC 85 #[.agg #[iI 0,iI 2,.bool false,.int .u32 0,iI 3]] w (Gives w (.int .u32 3)):=ZV
theorem mN(x:Int)(hx: -9223372036854775808<=x/\x<=9223372036854775807)(w:qW):qC 123 #[.agg #[iI 0,iI 2,.bool false,.int .u32 0,iI 3],iI x] w (Gives w (.bool (fitF ⟨0,2,4,0,3⟩ x))):=by
 have e:fitF ⟨0,2,4,0,3⟩ x=(decide (0<=x)&&decide (x<=3)):=by unfold fitF;simp
 rw [e]
 clear e
 by_cases h1:0<=x
 ·by_cases h2:x<=3
  ·rw [zaw h1,zaw h2]
   go_enter Tryz.func123,Tryz.ntmps123
   go_wp2
   go_ret
   exact Gives.mk rfl Zd
  ·rw [zaw h1,zax h2]
   go_enter Tryz.func123,Tryz.ntmps123
   go_wp2
   go_ret
   exact Gives.mk rfl Zd
 ·rw [zax h1,zay]
  go_enter Tryz.func123,Tryz.ntmps123
  go_wp2
  go_ret
  exact Gives.mk rfl Zd
theorem gK(w:qW):qC 85 #[.agg #[iI 12,iI 2,.bool false,.int .u32 1,iI 3]] w (Gives w (.int .u32 12288)):=ZV
theorem mI(x:Int)(hx: -9223372036854775808<=x/\x<=9223372036854775807)(w:qW):qC 123 #[.agg #[iI 12,iI 2,.bool false,.int .u32 1,iI 3],iI x] w (Gives w (.bool (fitF ⟨12,2,4,2,3⟩ x))):=by
 have e:fitF ⟨12,2,4,2,3⟩ x=(decide (0<=x)&&decide (x<=3)):=by unfold fitF;simp
 rw [e]
 clear e
 by_cases h1:0<=x
 ·by_cases h2:x<=3
  ·rw [zaw h1,zaw h2]
   go_enter Tryz.func123,Tryz.ntmps123
   go_wp2
   go_ret
   exact Gives.mk rfl Zd
  ·rw [zaw h1,zax h2]
   go_enter Tryz.func123,Tryz.ntmps123
   go_wp2
   go_ret
   exact Gives.mk rfl Zd
 ·rw [zax h1,zay]
  go_enter Tryz.func123,Tryz.ntmps123
  go_wp2
  go_ret
  exact Gives.mk rfl Zd
theorem gF(w:qW):qC 85 #[.agg #[iI 30,iI 2,.bool false,.int .u32 0,iI 3]] w (Gives w (.int .u32 3221225472)):=ZV
theorem mD(x:Int)(hx: -9223372036854775808<=x/\x<=9223372036854775807)(w:qW):qC 123 #[.agg #[iI 30,iI 2,.bool false,.int .u32 0,iI 3],iI x] w (Gives w (.bool (fitF ⟨30,2,5,0,3⟩ x))):=by
 have e:fitF ⟨30,2,5,0,3⟩ x=(decide (0<=x)&&decide (x<=3)):=by unfold fitF;simp
 rw [e]
 clear e
 by_cases h1:0<=x
 ·by_cases h2:x<=3
  ·rw [zaw h1,zaw h2]
   go_enter Tryz.func123,Tryz.ntmps123
   go_wp2
   go_ret
   exact Gives.mk rfl Zd
  ·rw [zaw h1,zax h2]
   go_enter Tryz.func123,Tryz.ntmps123
   go_wp2
   go_ret
   exact Gives.mk rfl Zd
 ·rw [zax h1,zay]
  go_enter Tryz.func123,Tryz.ntmps123
  go_wp2
  go_ret
  exact Gives.mk rfl Zd
theorem gL(w:qW):qC 85 #[.agg #[iI 5,iI 16,.bool false,.int .u32 0,iI 65535]] w (Gives w (.int .u32 2097120)):=ZV
theorem mJ(x:Int)(hx: -9223372036854775808<=x/\x<=9223372036854775807)(w:qW):qC 123 #[.agg #[iI 5,iI 16,.bool false,.int .u32 0,iI 65535],iI x] w (Gives w (.bool (fitF ⟨5,16,6,0,65535⟩ x))):=by
 have e:fitF ⟨5,16,6,0,65535⟩ x=(decide (0<=x)&&decide (x<=65535)):=by unfold fitF;simp
 rw [e]
 clear e
 by_cases h1:0<=x
 ·by_cases h2:x<=65535
  ·rw [zaw h1,zaw h2]
   go_enter Tryz.func123,Tryz.ntmps123
   go_wp2
   go_ret
   exact Gives.mk rfl Zd
  ·rw [zaw h1,zax h2]
   go_enter Tryz.func123,Tryz.ntmps123
   go_wp2
   go_ret
   exact Gives.mk rfl Zd
 ·rw [zax h1,zay]
  go_enter Tryz.func123,Tryz.ntmps123
  go_wp2
  go_ret
  exact Gives.mk rfl Zd
theorem gH(w:qW):qC 85 #[.agg #[iI 10,iI 12,.bool false,.int .u32 0,iI 4095]] w (Gives w (.int .u32 4193280)):=ZV
theorem mF(x:Int)(hx: -9223372036854775808<=x/\x<=9223372036854775807)(w:qW):qC 123 #[.agg #[iI 10,iI 12,.bool false,.int .u32 0,iI 4095],iI x] w (Gives w (.bool (fitF ⟨10,12,6,0,4095⟩ x))):=by
 have e:fitF ⟨10,12,6,0,4095⟩ x=(decide (0<=x)&&decide (x<=4095)):=by unfold fitF;simp
 rw [e]
 clear e
 by_cases h1:0<=x
 ·by_cases h2:x<=4095
  ·rw [zaw h1,zaw h2]
   go_enter Tryz.func123,Tryz.ntmps123
   go_wp2
   go_ret
   exact Gives.mk rfl Zd
  ·rw [zaw h1,zax h2]
   go_enter Tryz.func123,Tryz.ntmps123
   go_wp2
   go_ret
   exact Gives.mk rfl Zd
 ·rw [zax h1,zay]
  go_enter Tryz.func123,Tryz.ntmps123
  go_wp2
  go_ret
  exact Gives.mk rfl Zd
theorem gQ(w:qW):qC 85 #[.agg #[iI 0,iI 26,.bool true,.int .u32 0,iI 0]] w (Gives w (.int .u32 67108863)):=ZV
theorem mO(x:Int)(hx: -9223372036854775808<=x/\x<=9223372036854775807)(w:qW):qC 123 #[.agg #[iI 0,iI 26,.bool true,.int .u32 0,iI 0],iI x] w (Gives w (.bool (fitF ⟨0,26,6,1,0⟩ x))):=by
 have e:fitF ⟨0,26,6,1,0⟩ x=(decide (-33554432<=x)&&decide (x<33554432)):=by unfold fitF;simp
 rw [e]
 clear e
 by_cases h1: -33554432<=x
 ·by_cases h2:x<33554432
  ·rw [zaw h1,zaw h2]
   go_enter Tryz.func123,Tryz.ntmps123
   go_wp2
   go_ret
   exact Gives.mk rfl Zd
  ·rw [zaw h1,zax h2]
   go_enter Tryz.func123,Tryz.ntmps123
   go_wp2
   go_ret
   exact Gives.mk rfl Zd
 ·rw [zax h1,zay]
  go_enter Tryz.func123,Tryz.ntmps123
  go_wp2
  go_ret
  exact Gives.mk rfl Zd
theorem gE(w:qW):qC 85 #[.agg #[iI 5,iI 19,.bool true,.int .u32 0,iI 0]] w (Gives w (.int .u32 16777184)):=ZV
theorem mC(x:Int)(hx: -9223372036854775808<=x/\x<=9223372036854775807)(w:qW):qC 123 #[.agg #[iI 5,iI 19,.bool true,.int .u32 0,iI 0],iI x] w (Gives w (.bool (fitF ⟨5,19,6,1,0⟩ x))):=by
 have e:fitF ⟨5,19,6,1,0⟩ x=(decide (-262144<=x)&&decide (x<262144)):=by unfold fitF;simp
 rw [e]
 clear e
 by_cases h1: -262144<=x
 ·by_cases h2:x<262144
  ·rw [zaw h1,zaw h2]
   go_enter Tryz.func123,Tryz.ntmps123
   go_wp2
   go_ret
   exact Gives.mk rfl Zd
  ·rw [zaw h1,zax h2]
   go_enter Tryz.func123,Tryz.ntmps123
   go_wp2
   go_ret
   exact Gives.mk rfl Zd
 ·rw [zax h1,zay]
  go_enter Tryz.func123,Tryz.ntmps123
  go_wp2
  go_ret
  exact Gives.mk rfl Zd
theorem gM(w:qW):qC 85 #[.agg #[iI 8,iI 4,.bool false,.int .u32 0,iI 2]] w (Gives w (.int .u32 3840)):=ZV
theorem mK(x:Int)(hx: -9223372036854775808<=x/\x<=9223372036854775807)(w:qW):qC 123 #[.agg #[iI 8,iI 4,.bool false,.int .u32 0,iI 2],iI x] w (Gives w (.bool (fitF ⟨8,4,6,3,2⟩ x))):=by
 have e:fitF ⟨8,4,6,3,2⟩ x=(decide (0<=x)&&decide (x<=2)):=by unfold fitF;simp
 rw [e]
 clear e
 by_cases h1:0<=x
 ·by_cases h2:x<=2
  ·rw [zaw h1,zaw h2]
   go_enter Tryz.func123,Tryz.ntmps123
   go_wp2
   go_ret
   exact Gives.mk rfl Zd
  ·rw [zaw h1,zax h2]
   go_enter Tryz.func123,Tryz.ntmps123
   go_wp2
   go_ret
   exact Gives.mk rfl Zd
 ·rw [zax h1,zay]
  go_enter Tryz.func123,Tryz.ntmps123
  go_wp2
  go_ret
  exact Gives.mk rfl Zd
theorem ly(c:Nat)(f:Fl)(h:fl c=some f)(w:qW):qC 85 #[.agg #[iI f.lo,iI f.n,.bool (f.kd==1),.int .u32 (if f.kd=2 then 1 else 0),iI f.most]] w (Gives w (.int .u32 ((mskN f:Nat):Int))):=by
 unfold fl at h
 by_cases xO:c=100
 ·rw [if_pos xO] at h
  cases h
  subst xO
  exact gO w
 rw [if_neg xO] at h
 by_cases xI:c=110
 ·rw [if_pos xI] at h
  cases h
  subst xI
  exact gI w
 rw [if_neg xI] at h
 by_cases yY:c=97
 ·rw [if_pos yY] at h
  cases h
  subst yY
  exact gR w
 rw [if_neg yY] at h
 by_cases xJ:c=109
 ·rw [if_pos xJ] at h
  cases h
  subst xJ
  exact gJ w
 rw [if_neg xJ] at h
 by_cases xN:c=101
 ·rw [if_pos xN] at h
  cases h
  subst xN
  exact gN w
 rw [if_neg xN] at h
 by_cases xG:c=113
 ·rw [if_pos xG] at h
  cases h
  subst xG
  exact gG w
 rw [if_neg xG] at h
 by_cases yW:c=99
 ·rw [if_pos yW] at h
  cases h
  subst yW
  exact gP w
 rw [if_neg yW] at h
 by_cases xK:c=107
 ·rw [if_pos xK] at h
  cases h
  subst xK
  exact gK w
 rw [if_neg xK] at h
 by_cases xF:c=115
 ·rw [if_pos xF] at h
  cases h
  subst xF
  exact gF w
 rw [if_neg xF] at h
 by_cases xL:c=105
 ·rw [if_pos xL] at h
  cases h
  subst xL
  exact gL w
 rw [if_neg xL] at h
 by_cases xH:c=111
 ·rw [if_pos xH] at h
  cases h
  subst xH
  exact gH w
 rw [if_neg xH] at h
 by_cases yX:c=98
 ·rw [if_pos yX] at h
  cases h
  subst yX
  exact gQ w
 rw [if_neg yX] at h
 by_cases xE:c=120
 ·rw [if_pos xE] at h
  cases h
  subst xE
  exact gE w
 rw [if_neg xE] at h
 by_cases xM:c=102
 ·rw [if_pos xM] at h
  cases h
  subst xM
  exact gM w
 rw [if_neg xM] at h
 cases h
theorem yc4(c:Nat)(f:Fl)(h:fl c=some f)(x:Int)(hx: -9223372036854775808<=x/\x<=9223372036854775807)(w:qW):qC 123 #[.agg #[iI f.lo,iI f.n,.bool (f.kd==1),.int .u32 (if f.kd=2 then 1 else 0),iI f.most],iI x] w (Gives w (.bool (fitF f x))):=by
 unfold fl at h
 by_cases xO:c=100
 ·rw [if_pos xO] at h
  cases h
  subst xO
  exact mM x hx w
 rw [if_neg xO] at h
 by_cases xI:c=110
 ·rw [if_pos xI] at h
  cases h
  subst xI
  exact mG x hx w
 rw [if_neg xI] at h
 by_cases yY:c=97
 ·rw [if_pos yY] at h
  cases h
  subst yY
  exact mP x hx w
 rw [if_neg yY] at h
 by_cases xJ:c=109
 ·rw [if_pos xJ] at h
  cases h
  subst xJ
  exact mH x hx w
 rw [if_neg xJ] at h
 by_cases xN:c=101
 ·rw [if_pos xN] at h
  cases h
  subst xN
  exact mL x hx w
 rw [if_neg xN] at h
 by_cases xG:c=113
 ·rw [if_pos xG] at h
  cases h
  subst xG
  exact mE x hx w
 rw [if_neg xG] at h
 by_cases yW:c=99
 ·rw [if_pos yW] at h
  cases h
  subst yW
  exact mN x hx w
 rw [if_neg yW] at h
 by_cases xK:c=107
 ·rw [if_pos xK] at h
  cases h
  subst xK
  exact mI x hx w
 rw [if_neg xK] at h
 by_cases xF:c=115
 ·rw [if_pos xF] at h
  cases h
  subst xF
  exact mD x hx w
 rw [if_neg xF] at h
 by_cases xL:c=105
 ·rw [if_pos xL] at h
  cases h
  subst xL
  exact mJ x hx w
 rw [if_neg xL] at h
 by_cases xH:c=111
 ·rw [if_pos xH] at h
  cases h
  subst xH
  exact mF x hx w
 rw [if_neg xH] at h
 by_cases yX:c=98
 ·rw [if_pos yX] at h
  cases h
  subst yX
  exact mO x hx w
 rw [if_neg yX] at h
 by_cases xE:c=120
 ·rw [if_pos xE] at h
  cases h
  subst xE
  exact mC x hx w
 rw [if_neg xE] at h
 by_cases xM:c=102
 ·rw [if_pos xM] at h
  cases h
  subst xM
  exact mK x hx w
 rw [if_neg xM] at h
 cases h
end Go.Proofs.YtcekjfmfcefjpaaGreatDoor
