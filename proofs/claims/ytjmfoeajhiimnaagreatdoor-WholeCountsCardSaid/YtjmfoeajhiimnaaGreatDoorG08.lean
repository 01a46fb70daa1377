/- Walks. No condition. -/
import Derived.Deep.RegionLawGrows
import Derived.Test.YtjmfoeajhiimnaaGreatDoorG04
set_option maxRecDepth 100000
set_option maxHeartbeats 0
set_option linter.all false
namespace Go.Proofs.YtjmfoeajhiimnaaGreatDoor
open Go.RowKit Go.Sort
def gyF(f:Fl)(v:Nat):Int:=(getF f v).getD (if f.kd=3 then 0 else v)
def gbF(f:Fl)(v:Nat):Bool:=(getF f v).isSome
theorem bz{k:IntKind}{a b:Int}{c d:Bool}(h:a=b)(h2:c=d):Ending.returned (.tuple #[.int k a,.bool c])= .returned (.tuple #[.int k b,.bool d]):=by rw [h,h2]
theorem ycE(w:Nat)(hw:w<4294967296)(W:qW):qC 60 #[.agg #[iI 0,iI 5,.bool false,.int .u32 0,iI 31],.int .u8 100,.int .u32 w] W (Gives W (.tuple #[iI (gyF ⟨0,5,1,0,31⟩ (w/2^0%2^5)),.bool (gbF ⟨0,5,1,0,31⟩ (w/2^0%2^5))])):=by
 have K:=Zh gV
 have S:=Zh mO
 have hv:bits .and .u32 (w:Int) 31=((w/2^0%2^5:Nat):Int):=by
  have h:=bI (aO 100 ⟨0,5,1,0,31⟩ rfl) w hw 1 rfl
  rw [Int.ediv_one] at h
  exact h
 have hl:w/2^0%2^5<32:=zaL _ Zd
 generalize w/2^0%2^5=v at hv hl ⊢
 have hx:bits .xor .u32 (v:Int) 0=(v:Int):=aL v Za
 have G:Hid (fitF ⟨0,5,1,0,31⟩ (v:Int)=gbF ⟨0,5,1,0,31⟩ v/\(v:Int)=gyF ⟨0,5,1,0,31⟩ v):=Zh Z5
 go_enter Tryz.func60,Tryz.ntmps60
 go_wp2
 refine aE Zb Zb ?_
 repeat (go_big_quiet_step (first|(go_at_call 62;exact az (K.out _))))
 refine zaE ?_
 intro p
 go_wp2_with (first|(go_at_call 95;refine (S.out _ Za _).mono ?_;rintro e w1 ⟨rfl,p2,rfl⟩))
 go_ret2
 exact Gives.mk (bz G.out.2 G.out.1) Ze
theorem ycy(w:Nat)(hw:w<4294967296)(W:qW):qC 60 #[.agg #[iI 5,iI 5,.bool false,.int .u32 0,iI 31],.int .u8 110,.int .u32 w] W (Gives W (.tuple #[iI (gyF ⟨5,5,2,0,31⟩ (w/2^5%2^5)),.bool (gbF ⟨5,5,2,0,31⟩ (w/2^5%2^5))])):=by
 have K:=Zh gN
 have S:=Zh mI
 have hv:bits .and .u32 (w:Int) 992/32=((w/2^5%2^5:Nat):Int):=bI (aO 110 ⟨5,5,2,0,31⟩ rfl) w hw 32 rfl
 have hl:w/2^5%2^5<32:=zaL _ Zd
 generalize w/2^5%2^5=v at hv hl ⊢
 have hx:bits .xor .u32 (v:Int) 0=(v:Int):=aL v Za
 have G:Hid (fitF ⟨5,5,2,0,31⟩ (v:Int)=gbF ⟨5,5,2,0,31⟩ v/\(v:Int)=gyF ⟨5,5,2,0,31⟩ v):=Zh Z5
 go_enter Tryz.func60,Tryz.ntmps60
 go_wp2
 refine aE Zb Zb ?_
 repeat (go_big_quiet_step (first|(go_at_call 62;exact az (K.out _))))
 refine zaE ?_
 intro p
 go_wp2_with (first|(go_at_call 95;refine (S.out _ Za _).mono ?_;rintro e w1 ⟨rfl,p2,rfl⟩))
 go_ret2
 exact Gives.mk (bz G.out.2 G.out.1) Ze
theorem ycI(w:Nat)(hw:w<4294967296)(W:qW):qC 60 #[.agg #[iI 5,iI 5,.bool false,.int .u32 0,iI 30],.int .u8 97,.int .u32 w] W (Gives W (.tuple #[iI (gyF ⟨5,5,2,0,30⟩ (w/2^5%2^5)),.bool (gbF ⟨5,5,2,0,30⟩ (w/2^5%2^5))])):=by
 have K:=Zh gY
 have S:=Zh mR
 have hv:bits .and .u32 (w:Int) 992/32=((w/2^5%2^5:Nat):Int):=bI (aO 97 ⟨5,5,2,0,30⟩ rfl) w hw 32 rfl
 have hl:w/2^5%2^5<32:=zaL _ Zd
 generalize w/2^5%2^5=v at hv hl ⊢
 have hx:bits .xor .u32 (v:Int) 0=(v:Int):=aL v Za
 have G:Hid (fitF ⟨5,5,2,0,30⟩ (v:Int)=gbF ⟨5,5,2,0,30⟩ v/\(v:Int)=gyF ⟨5,5,2,0,30⟩ v):=Zh Z5
 go_enter Tryz.func60,Tryz.ntmps60
 go_wp2
 refine aE Zb Zb ?_
 repeat (go_big_quiet_step (first|(go_at_call 62;exact az (K.out _))))
 refine zaE ?_
 intro p
 go_wp2_with (first|(go_at_call 95;refine (S.out _ Za _).mono ?_;rintro e w1 ⟨rfl,p2,rfl⟩))
 go_ret2
 exact Gives.mk (bz G.out.2 G.out.1) Ze
theorem ycz(w:Nat)(hw:w<4294967296)(W:qW):qC 60 #[.agg #[iI 16,iI 5,.bool false,.int .u32 0,iI 31],.int .u8 109,.int .u32 w] W (Gives W (.tuple #[iI (gyF ⟨16,5,3,0,31⟩ (w/2^16%2^5)),.bool (gbF ⟨16,5,3,0,31⟩ (w/2^16%2^5))])):=by
 have K:=Zh gO
 have S:=Zh mJ
 have hv:bits .and .u32 (w:Int) 2031616/65536=((w/2^16%2^5:Nat):Int):=bI (aO 109 ⟨16,5,3,0,31⟩ rfl) w hw 65536 rfl
 have hl:w/2^16%2^5<32:=zaL _ Zd
 generalize w/2^16%2^5=v at hv hl ⊢
 have hx:bits .xor .u32 (v:Int) 0=(v:Int):=aL v Za
 have G:Hid (fitF ⟨16,5,3,0,31⟩ (v:Int)=gbF ⟨16,5,3,0,31⟩ v/\(v:Int)=gyF ⟨16,5,3,0,31⟩ v):=Zh Z5
 go_enter Tryz.func60,Tryz.ntmps60
 go_wp2
 refine aE Zb Zb ?_
 repeat (go_big_quiet_step (first|(go_at_call 62;exact az (K.out _))))
 refine zaE ?_
 intro p
 go_wp2_with (first|(go_at_call 95;refine (S.out _ Za _).mono ?_;rintro e w1 ⟨rfl,p2,rfl⟩))
 go_ret2
 exact Gives.mk (bz G.out.2 G.out.1) Ze
theorem ycD(w:Nat)(hw:w<4294967296)(W:qW):qC 60 #[.agg #[iI 10,iI 5,.bool false,.int .u32 0,iI 31],.int .u8 101,.int .u32 w] W (Gives W (.tuple #[iI (gyF ⟨10,5,4,0,31⟩ (w/2^10%2^5)),.bool (gbF ⟨10,5,4,0,31⟩ (w/2^10%2^5))])):=by
 have K:=Zh gU
 have S:=Zh mN
 have hv:bits .and .u32 (w:Int) 31744/1024=((w/2^10%2^5:Nat):Int):=bI (aO 101 ⟨10,5,4,0,31⟩ rfl) w hw 1024 rfl
 have hl:w/2^10%2^5<32:=zaL _ Zd
 generalize w/2^10%2^5=v at hv hl ⊢
 have hx:bits .xor .u32 (v:Int) 0=(v:Int):=aL v Za
 have G:Hid (fitF ⟨10,5,4,0,31⟩ (v:Int)=gbF ⟨10,5,4,0,31⟩ v/\(v:Int)=gyF ⟨10,5,4,0,31⟩ v):=Zh Z5
 go_enter Tryz.func60,Tryz.ntmps60
 go_wp2
 refine aE Zb Zb ?_
 repeat (go_big_quiet_step (first|(go_at_call 62;exact az (K.out _))))
 refine zaE ?_
 intro p
 go_wp2_with (first|(go_at_call 95;refine (S.out _ Za _).mono ?_;rintro e w1 ⟨rfl,p2,rfl⟩))
 go_ret2
 exact Gives.mk (bz G.out.2 G.out.1) Ze
theorem ycw(w:Nat)(hw:w<4294967296)(W:qW):qC 60 #[.agg #[iI 21,iI 2,.bool false,.int .u32 0,iI 3],.int .u8 113,.int .u32 w] W (Gives W (.tuple #[iI (gyF ⟨21,2,4,0,3⟩ (w/2^21%2^2)),.bool (gbF ⟨21,2,4,0,3⟩ (w/2^21%2^2))])):=by
 have K:=Zh gL
 have S:=Zh mG
 have hv:bits .and .u32 (w:Int) 6291456/2097152=((w/2^21%2^2:Nat):Int):=bI (aO 113 ⟨21,2,4,0,3⟩ rfl) w hw 2097152 rfl
 have hl:w/2^21%2^2<4:=zaL _ Zd
 generalize w/2^21%2^2=v at hv hl ⊢
 have hx:bits .xor .u32 (v:Int) 0=(v:Int):=aL v Za
 have G:Hid (fitF ⟨21,2,4,0,3⟩ (v:Int)=gbF ⟨21,2,4,0,3⟩ v/\(v:Int)=gyF ⟨21,2,4,0,3⟩ v):=Zh Z5
 go_enter Tryz.func60,Tryz.ntmps60
 go_wp2
 refine aE Zb Zb ?_
 repeat (go_big_quiet_step (first|(go_at_call 62;exact az (K.out _))))
 refine zaE ?_
 intro p
 go_wp2_with (first|(go_at_call 95;refine (S.out _ Za _).mono ?_;rintro e w1 ⟨rfl,p2,rfl⟩))
 go_ret2
 exact Gives.mk (bz G.out.2 G.out.1) Ze
theorem ycF(w:Nat)(hw:w<4294967296)(W:qW):qC 60 #[.agg #[iI 0,iI 2,.bool false,.int .u32 0,iI 3],.int .u8 99,.int .u32 w] W (Gives W (.tuple #[iI (gyF ⟨0,2,4,0,3⟩ (w/2^0%2^2)),.bool (gbF ⟨0,2,4,0,3⟩ (w/2^0%2^2))])):=by
 have K:=Zh gW
 have S:=Zh mP
 have hv:bits .and .u32 (w:Int) 3=((w/2^0%2^2:Nat):Int):=by
  have h:=bI (aO 99 ⟨0,2,4,0,3⟩ rfl) w hw 1 rfl
  rw [Int.ediv_one] at h
  exact h
 have hl:w/2^0%2^2<4:=zaL _ Zd
 generalize w/2^0%2^2=v at hv hl ⊢
 have hx:bits .xor .u32 (v:Int) 0=(v:Int):=aL v Za
 have G:Hid (fitF ⟨0,2,4,0,3⟩ (v:Int)=gbF ⟨0,2,4,0,3⟩ v/\(v:Int)=gyF ⟨0,2,4,0,3⟩ v):=Zh Z5
 go_enter Tryz.func60,Tryz.ntmps60
 go_wp2
 refine aE Zb Zb ?_
 repeat (go_big_quiet_step (first|(go_at_call 62;exact az (K.out _))))
 refine zaE ?_
 intro p
 go_wp2_with (first|(go_at_call 95;refine (S.out _ Za _).mono ?_;rintro e w1 ⟨rfl,p2,rfl⟩))
 go_ret2
 exact Gives.mk (bz G.out.2 G.out.1) Ze
theorem ycA(w:Nat)(hw:w<4294967296)(W:qW):qC 60 #[.agg #[iI 12,iI 2,.bool false,.int .u32 1,iI 3],.int .u8 107,.int .u32 w] W (Gives W (.tuple #[iI (gyF ⟨12,2,4,2,3⟩ (w/2^12%2^2)),.bool (gbF ⟨12,2,4,2,3⟩ (w/2^12%2^2))])):=by
 have K:=Zh gP
 have S:=Zh mK
 have hv:bits .and .u32 (w:Int) 12288/4096=((w/2^12%2^2:Nat):Int):=bI (aO 107 ⟨12,2,4,2,3⟩ rfl) w hw 4096 rfl
 have hl:w/2^12%2^2<4:=zaL _ Zd
 generalize w/2^12%2^2=v at hv hl ⊢
 have hx:bits .xor .u32 (v:Int) 1=((turnN v:Nat):Int)/\turnN v<4:=by
  have:v=0\/v=1\/v=2\/v=3:=by omega
  rcases this with rfl|rfl|rfl|rfl<;>decide
 obtain ⟨hx,ht⟩:=hx
 have G:Hid (fitF ⟨12,2,4,2,3⟩ ((turnN v:Nat):Int)=gbF ⟨12,2,4,2,3⟩ v/\((turnN v:Nat):Int)=gyF ⟨12,2,4,2,3⟩ v):=Zh (by unfold gbF gyF getF fitF;simp;omega)
 go_enter Tryz.func60,Tryz.ntmps60
 go_wp2
 refine aE Zb Zb ?_
 repeat (go_big_quiet_step (first|(go_at_call 62;exact az (K.out _))))
 refine zaE ?_
 intro p
 go_wp2_with (first|(go_at_call 95;refine (S.out _ Za _).mono ?_;rintro e w1 ⟨rfl,p2,rfl⟩))
 go_ret2
 exact Gives.mk (bz G.out.2 G.out.1) Ze
theorem ycv(w:Nat)(hw:w<4294967296)(W:qW):qC 60 #[.agg #[iI 30,iI 2,.bool false,.int .u32 0,iI 3],.int .u8 115,.int .u32 w] W (Gives W (.tuple #[iI (gyF ⟨30,2,5,0,3⟩ (w/2^30%2^2)),.bool (gbF ⟨30,2,5,0,3⟩ (w/2^30%2^2))])):=by
 have K:=Zh gK
 have S:=Zh mF
 have hv:bits .and .u32 (w:Int) 3221225472/1073741824=((w/2^30%2^2:Nat):Int):=bI (aO 115 ⟨30,2,5,0,3⟩ rfl) w hw 1073741824 rfl
 have hl:w/2^30%2^2<4:=zaL _ Zd
 generalize w/2^30%2^2=v at hv hl ⊢
 have hx:bits .xor .u32 (v:Int) 0=(v:Int):=aL v Za
 have G:Hid (fitF ⟨30,2,5,0,3⟩ (v:Int)=gbF ⟨30,2,5,0,3⟩ v/\(v:Int)=gyF ⟨30,2,5,0,3⟩ v):=Zh Z5
 go_enter Tryz.func60,Tryz.ntmps60
 go_wp2
 refine aE Zb Zb ?_
 repeat (go_big_quiet_step (first|(go_at_call 62;exact az (K.out _))))
 refine zaE ?_
 intro p
 go_wp2_with (first|(go_at_call 95;refine (S.out _ Za _).mono ?_;rintro e w1 ⟨rfl,p2,rfl⟩))
 go_ret2
 exact Gives.mk (bz G.out.2 G.out.1) Ze
theorem ycB(w:Nat)(hw:w<4294967296)(W:qW):qC 60 #[.agg #[iI 5,iI 16,.bool false,.int .u32 0,iI 65535],.int .u8 105,.int .u32 w] W (Gives W (.tuple #[iI (gyF ⟨5,16,6,0,65535⟩ (w/2^5%2^16)),.bool (gbF ⟨5,16,6,0,65535⟩ (w/2^5%2^16))])):=by
 have K:=Zh gQ
 have S:=Zh mL
 have hv:bits .and .u32 (w:Int) 2097120/32=((w/2^5%2^16:Nat):Int):=bI (aO 105 ⟨5,16,6,0,65535⟩ rfl) w hw 32 rfl
 have hl:w/2^5%2^16<65536:=zaL _ Zd
 generalize w/2^5%2^16=v at hv hl ⊢
 have hx:bits .xor .u32 (v:Int) 0=(v:Int):=aL v Za
 have G:Hid (fitF ⟨5,16,6,0,65535⟩ (v:Int)=gbF ⟨5,16,6,0,65535⟩ v/\(v:Int)=gyF ⟨5,16,6,0,65535⟩ v):=Zh Z5
 go_enter Tryz.func60,Tryz.ntmps60
 go_wp2
 refine aE Zb Zb ?_
 repeat (go_big_quiet_step (first|(go_at_call 62;exact az (K.out _))))
 refine zaE ?_
 intro p
 go_wp2_with (first|(go_at_call 95;refine (S.out _ Za _).mono ?_;rintro e w1 ⟨rfl,p2,rfl⟩))
 go_ret2
 exact Gives.mk (bz G.out.2 G.out.1) Ze
theorem ycx(w:Nat)(hw:w<4294967296)(W:qW):qC 60 #[.agg #[iI 10,iI 12,.bool false,.int .u32 0,iI 4095],.int .u8 111,.int .u32 w] W (Gives W (.tuple #[iI (gyF ⟨10,12,6,0,4095⟩ (w/2^10%2^12)),.bool (gbF ⟨10,12,6,0,4095⟩ (w/2^10%2^12))])):=by
 have K:=Zh gM
 have S:=Zh mH
 have hv:bits .and .u32 (w:Int) 4193280/1024=((w/2^10%2^12:Nat):Int):=bI (aO 111 ⟨10,12,6,0,4095⟩ rfl) w hw 1024 rfl
 have hl:w/2^10%2^12<4096:=zaL _ Zd
 generalize w/2^10%2^12=v at hv hl ⊢
 have hx:bits .xor .u32 (v:Int) 0=(v:Int):=aL v Za
 have G:Hid (fitF ⟨10,12,6,0,4095⟩ (v:Int)=gbF ⟨10,12,6,0,4095⟩ v/\(v:Int)=gyF ⟨10,12,6,0,4095⟩ v):=Zh Z5
 go_enter Tryz.func60,Tryz.ntmps60
 go_wp2
 refine aE Zb Zb ?_
 repeat (go_big_quiet_step (first|(go_at_call 62;exact az (K.out _))))
 refine zaE ?_
 intro p
 go_wp2_with (first|(go_at_call 95;refine (S.out _ Za _).mono ?_;rintro e w1 ⟨rfl,p2,rfl⟩))
 go_ret2
 exact Gives.mk (bz G.out.2 G.out.1) Ze
theorem ycG(w:Nat)(hw:w<4294967296)(W:qW):qC 60 #[.agg #[iI 0,iI 26,.bool true,.int .u32 0,iI 0],.int .u8 98,.int .u32 w] W (Gives W (.tuple #[iI (gyF ⟨0,26,6,1,0⟩ (w/2^0%2^26)),.bool (gbF ⟨0,26,6,1,0⟩ (w/2^0%2^26))])):=by
 have K:=Zh gX
 have S:=Zh mQ
 have hv:bits .and .u32 (w:Int) 67108863=((w/2^0%2^26:Nat):Int):=by
  have h:=bI (aO 98 ⟨0,26,6,1,0⟩ rfl) w hw 1 rfl
  rw [Int.ediv_one] at h
  exact h
 have hl:w/2^0%2^26<67108864:=zaL _ Zd
 generalize w/2^0%2^26=v at hv hl ⊢
 have hx:bits .xor .u32 (v:Int) 0=(v:Int):=aL v Za
 go_enter Tryz.func60,Tryz.ntmps60
 go_wp2
 refine aE Zb Zb ?_
 repeat (go_big_quiet_step (first|(go_at_call 62;exact az (K.out _))))
 refine zaE ?_
 intro p
 by_cases h:(33554432:Int)<=v
 ·have G:Hid (fitF ⟨0,26,6,1,0⟩ ((v:Int)-67108864)=gbF ⟨0,26,6,1,0⟩ v/\((v:Int)-67108864)=gyF ⟨0,26,6,1,0⟩ v):=Zh (by unfold gbF gyF getF fitF;simp;omega)
  go_wp2_with (first|(go_at_call 95;refine (S.out _ Za _).mono ?_;rintro e w1 ⟨rfl,p2,rfl⟩))
  go_ret2
  exact Gives.mk (bz G.out.2 G.out.1) Ze
 ·have G:Hid (fitF ⟨0,26,6,1,0⟩ (v:Int)=gbF ⟨0,26,6,1,0⟩ v/\(v:Int)=gyF ⟨0,26,6,1,0⟩ v):=Zh (by unfold gbF gyF getF fitF;simp;omega)
  go_wp2_with (first|(go_at_call 95;refine (S.out _ Za _).mono ?_;rintro e w1 ⟨rfl,p2,rfl⟩))
  go_ret2
  exact Gives.mk (bz G.out.2 G.out.1) Ze
theorem ycu(w:Nat)(hw:w<4294967296)(W:qW):qC 60 #[.agg #[iI 5,iI 19,.bool true,.int .u32 0,iI 0],.int .u8 120,.int .u32 w] W (Gives W (.tuple #[iI (gyF ⟨5,19,6,1,0⟩ (w/2^5%2^19)),.bool (gbF ⟨5,19,6,1,0⟩ (w/2^5%2^19))])):=by
 have K:=Zh gJ
 have S:=Zh mE
 have hv:bits .and .u32 (w:Int) 16777184/32=((w/2^5%2^19:Nat):Int):=bI (aO 120 ⟨5,19,6,1,0⟩ rfl) w hw 32 rfl
 have hl:w/2^5%2^19<524288:=zaL _ Zd
 generalize w/2^5%2^19=v at hv hl ⊢
 have hx:bits .xor .u32 (v:Int) 0=(v:Int):=aL v Za
 go_enter Tryz.func60,Tryz.ntmps60
 go_wp2
 refine aE Zb Zb ?_
 repeat (go_big_quiet_step (first|(go_at_call 62;exact az (K.out _))))
 refine zaE ?_
 intro p
 by_cases h:(262144:Int)<=v
 ·have G:Hid (fitF ⟨5,19,6,1,0⟩ ((v:Int)-524288)=gbF ⟨5,19,6,1,0⟩ v/\((v:Int)-524288)=gyF ⟨5,19,6,1,0⟩ v):=Zh (by unfold gbF gyF getF fitF;simp;omega)
  go_wp2_with (first|(go_at_call 95;refine (S.out _ Za _).mono ?_;rintro e w1 ⟨rfl,p2,rfl⟩))
  go_ret2
  exact Gives.mk (bz G.out.2 G.out.1) Ze
 ·have G:Hid (fitF ⟨5,19,6,1,0⟩ (v:Int)=gbF ⟨5,19,6,1,0⟩ v/\(v:Int)=gyF ⟨5,19,6,1,0⟩ v):=Zh (by unfold gbF gyF getF fitF;simp;omega)
  go_wp2_with (first|(go_at_call 95;refine (S.out _ Za _).mono ?_;rintro e w1 ⟨rfl,p2,rfl⟩))
  go_ret2
  exact Gives.mk (bz G.out.2 G.out.1) Ze
theorem ycC(w:Nat)(hw:w<4294967296)(W:qW):qC 60 #[.agg #[iI 8,iI 4,.bool false,.int .u32 0,iI 2],.int .u8 102,.int .u32 w] W (Gives W (.tuple #[iI (gyF ⟨8,4,6,3,2⟩ (w/2^8%2^4)),.bool (gbF ⟨8,4,6,3,2⟩ (w/2^8%2^4))])):=by
 have K:=Zh gR
 have S:=Zh mM
 have hv:bits .and .u32 (w:Int) 3840/256=((w/2^8%2^4:Nat):Int):=bI (aO 102 ⟨8,4,6,3,2⟩ rfl) w hw 256 rfl
 have hl:w/2^8%2^4<16:=zaL _ Zd
 generalize w/2^8%2^4=v at hv hl ⊢
 go_enter Tryz.func60,Tryz.ntmps60
 go_wp2
 refine aE Zb Zb ?_
 repeat (go_big_quiet_step (first|(go_at_call 62;exact az (K.out _))))
 refine zaE ?_
 intro p
 go_wp2_with (first|(go_at_call 98;refine (fJ _).mono ?_;rintro e w1 ⟨rfl,p1,rfl⟩))
 go_loopw [22] (fun i wr=> ∃k:Nat,k<=3/\i=iI k/\(0<k->v≠11)/\(1<k->v≠9)/\(2<k->v≠10)/\ ∃p:Regrown,wr=more (W.alloc (.cells #[iI 8,iI 4,.bool false,.int .u32 0,iI 2] 163)) p) (fun i _=>3-(intOf i).toNat)
 case atStart=>exact ⟨0,by omega,rfl,by omega,by omega,by omega,bC Ze⟩
 case round=>
  obtain ⟨k,hk,rfl,n0,n1,n2,p3,rfl⟩:=hrel
  match k,hk,n0,n1,n2 with
  |0,hk,n0,n1,n2=>
   have Cc: ∀W,(Instr.index 245 (.agg #[.int .u32 11,.int .u32 9,.int .u32 10]) (iI 0)).run Tryz.prog W= .ok (.int .u32 11) W:=fun _=>by kernel_rfl
   by_cases h:v=11
   ·subst h
    go_wp2_with fail
    go_ret2
    exact Gives.mk rfl Ze
   ·have h2:((11:Int)==(v:Int))=false:=by simp;omega
    go_wp2_with fail
    go_roundw
    case rel=>exact ⟨1,by omega,rfl,by omega,by omega,by omega,bC Ze⟩
    case measure=>simp [intOf]
  |1,hk,n0,n1,n2=>
   have Cc: ∀W,(Instr.index 245 (.agg #[.int .u32 11,.int .u32 9,.int .u32 10]) (iI 1)).run Tryz.prog W= .ok (.int .u32 9) W:=fun _=>by kernel_rfl
   by_cases h:v=9
   ·subst h
    go_wp2_with fail
    go_ret2
    exact Gives.mk rfl Ze
   ·have h2:((9:Int)==(v:Int))=false:=by simp;omega
    go_wp2_with fail
    go_roundw
    case rel=>exact ⟨2,by omega,rfl,by omega,by omega,by omega,bC Ze⟩
    case measure=>simp [intOf]
  |2,hk,n0,n1,n2=>
   have Cc: ∀W,(Instr.index 245 (.agg #[.int .u32 11,.int .u32 9,.int .u32 10]) (iI 2)).run Tryz.prog W= .ok (.int .u32 10) W:=fun _=>by kernel_rfl
   by_cases h:v=10
   ·subst h
    go_wp2_with fail
    go_ret2
    exact Gives.mk rfl Ze
   ·have h2:((10:Int)==(v:Int))=false:=by simp;omega
    go_wp2_with fail
    go_roundw
    case rel=>exact ⟨3,by omega,rfl,by omega,by omega,by omega,bC Ze⟩
    case measure=>simp [intOf]
  |3,hk,n0,n1,n2=>
   have G:Hid ((0:Int)=gyF ⟨8,4,6,3,2⟩ v/\false=gbF ⟨8,4,6,3,2⟩ v):=Zh (by have:=n0 Za;have:=n1 Za;have:=n2 Za;unfold gbF gyF getF;simp [*])
   go_wp2_with fail
   go_ret2
   exact Gives.mk (bz G.out.1 G.out.2) Ze
theorem ycH(c:Nat)(f:Fl)(h:fl c=some f)(w:Nat)(hw:w<4294967296)(W:qW):qC 60 #[.agg #[iI f.lo,iI f.n,.bool (f.kd==1),.int .u32 (if f.kd=2 then 1 else 0),iI f.most],.int .u8 c,.int .u32 w] W (Gives W (.tuple #[iI (gyF f (w/2^f.lo%2^f.n)),.bool (gbF f (w/2^f.lo%2^f.n))])):=by
 unfold fl at h
 by_cases xT:c=100
 ·rw [if_pos xT] at h
  cases h
  subst xT
  exact ycE w hw W
 rw [if_neg xT] at h
 by_cases xN:c=110
 ·rw [if_pos xN] at h
  cases h
  subst xN
  exact ycy w hw W
 rw [if_neg xN] at h
 by_cases zc:c=97
 ·rw [if_pos zc] at h
  cases h
  subst zc
  exact ycI w hw W
 rw [if_neg zc] at h
 by_cases xO:c=109
 ·rw [if_pos xO] at h
  cases h
  subst xO
  exact ycz w hw W
 rw [if_neg xO] at h
 by_cases xS:c=101
 ·rw [if_pos xS] at h
  cases h
  subst xS
  exact ycD w hw W
 rw [if_neg xS] at h
 by_cases xL:c=113
 ·rw [if_pos xL] at h
  cases h
  subst xL
  exact ycw w hw W
 rw [if_neg xL] at h
 by_cases y':c=99
 ·rw [if_pos y'] at h
  cases h
  subst y'
  exact ycF w hw W
 rw [if_neg y'] at h
 by_cases xP:c=107
 ·rw [if_pos xP] at h
  cases h
  subst xP
  exact ycA w hw W
 rw [if_neg xP] at h
 by_cases xK:c=115
 ·rw [if_pos xK] at h
  cases h
  subst xK
  exact ycv w hw W
 rw [if_neg xK] at h
 by_cases xQ:c=105
 ·rw [if_pos xQ] at h
  cases h
  subst xQ
  exact ycB w hw W
 rw [if_neg xQ] at h
 by_cases xM:c=111
 ·rw [if_pos xM] at h
  cases h
  subst xM
  exact ycx w hw W
 rw [if_neg xM] at h
 by_cases za:c=98
 ·rw [if_pos za] at h
  cases h
  subst za
  exact ycG w hw W
 rw [if_neg za] at h
 by_cases xJ:c=120
 ·rw [if_pos xJ] at h
  cases h
  subst xJ
  exact ycu w hw W
 rw [if_neg xJ] at h
 by_cases xR:c=102
 ·rw [if_pos xR] at h
  cases h
  subst xR
  exact ycC w hw W
 rw [if_neg xR] at h
 cases h
theorem ycK{f:Fl}{v:Nat}(h:gbF f v=true):getF f v=some (gyF f v):=by
 unfold gbF at h
 unfold gyF
 obtain ⟨x,hx⟩:=Option.isSome_iff_exists.1 h
 rw [hx]
 rfl
theorem ycL{f:Fl}{v:Nat}(h:gbF f v=false):getF f v=none:=by
 unfold gbF at h
 simpa using h
def OInv(w wr:qW)(B R S Z:Nat)(ls:List Nat)(sb:Nat)(r:Ins):Prop:=
 Below w.heap.size w wr/\B<wr.heap.size/\R<B/\S<R/\Z<S/\w.heap.size<=Z/\LetAt wr B ls/\InsAt wr R r/\InsAt wr Z (Ins.zero 0)/\wr.cell? ⟨S,0,none⟩=some (.int .u32 sb)
theorem InsAt.far{w:qW}{Z:Nat}{z:Ins}(h:InsAt w Z z){R k:Nat}(hR:R≠Z)(v:qV):InsAt (w.setCell ⟨R,k,none⟩ v) Z z:=fun j hj=>by
 refine ⟨?_,?_⟩
 ·rw [zaH _ _ _ _ (by simp [hR])]
  exact (h j hj).1
 ·rw [zaG]
  exact (h j hj).2
theorem OInv.below{w wr w':qW}{B R S Z:Nat}{ls:List Nat}{sb:Nat}{r:Ins}(h:OInv w wr B R S Z ls sb r)(hb:Below wr.heap.size wr w'):OInv w w' B R S Z ls sb r:=by
 obtain ⟨h1,h2,h3,h4,h5,h6,h7,h8,h9,Ds⟩:=h
 exact ⟨bR h1 hb,zar h2 hb.size,h3,h4,h5,h6,h7.below h2 hb,h8.below Za hb,h9.below Za hb,(hb.cell (p:=⟨S,0,none⟩) (by show S<wr.heap.size;omega)).trans Ds⟩
theorem OInv.setc{w wr:qW}{B R S Z:Nat}{ls:List Nat}{sb:Nat}{r:Ins}(h:OInv w wr B R S Z ls sb r)(k:Nat)(hk:k<7)(x:Int):OInv w (wr.setCell ⟨R,k,none⟩ (.int .i64 x)) B R S Z ls sb (r.set k x):=by
 obtain ⟨h1,h2,h3,h4,h5,h6,h7,h8,h9,Ds⟩:=h
 refine ⟨ay h1 Zk _,by simpa using h2,h3,h4,h5,h6,h7.setc Za _,h8.setc k hk x,h9.far Za _,?_⟩
 rw [zaH _ _ _ _ (fun e=>by have:=congrArg Addr.block e;simp only at this;omega)]
 exact Ds
theorem oz{w wr:qW}{B R S Z:Nat}{ls:List Nat}{sb:Nat}{r:Ins}(h:OInv w wr B R S Z ls sb r):
  (wr.cell? ⟨Z,0,none⟩=some (.int .i64 0)/\wr.frozen? ⟨Z,0,none⟩=false)/\(wr.cell? ⟨Z,1,none⟩=some (.int .i64 0)/\wr.frozen? ⟨Z,1,none⟩=false)/\(wr.cell? ⟨Z,2,none⟩=some (.int .i64 0)/\wr.frozen? ⟨Z,2,none⟩=false)/\
  (wr.cell? ⟨Z,3,none⟩=some (.int .i64 0)/\wr.frozen? ⟨Z,3,none⟩=false)/\(wr.cell? ⟨Z,4,none⟩=some (.int .i64 0)/\wr.frozen? ⟨Z,4,none⟩=false)/\(wr.cell? ⟨Z,5,none⟩=some (.int .i64 0)/\wr.frozen? ⟨Z,5,none⟩=false)/\(wr.cell? ⟨Z,6,none⟩=some (.int .i64 0)/\wr.frozen? ⟨Z,6,none⟩=false):=by
 obtain ⟨h1,h2,h3,h4,h5,h6,h7,h8,h9,Ds⟩:=h
 exact ⟨h9 0 Za,h9 1 Za,h9 2 Za,h9 3 Za,h9 4 Za,h9 5 Za,h9 6 Za⟩
theorem InsAt.set7{X:qW}{Z:Nat}{z:Ins}(h:InsAt X Z z)(r0 r1 r2 r3 r4 r5 r6:Int):InsAt (((((((X.setCell ⟨Z,0,none⟩ (.int .i64 r0)).setCell ⟨Z,1,none⟩ (.int .i64 r1)).setCell ⟨Z,2,none⟩ (.int .i64 r2)).setCell ⟨Z,3,none⟩ (.int .i64 r3)).setCell ⟨Z,4,none⟩ (.int .i64 r4)).setCell ⟨Z,5,none⟩ (.int .i64 r5)).setCell ⟨Z,6,none⟩ (.int .i64 r6)) Z ⟨r0,r1,r2,r3,r4,r5,r6⟩:=
 ((((((h.setc 0 Za r0).setc 1 Za r1).setc 2 Za r2).setc 3 Za r3).setc 4 Za r4).setc 5 Za r5).setc 6 Za r6
def OneGives(W:qW)(op:Int)(w:Nat)(e:Ending)(W':qW):Prop:=
 ∃(r:Ins) (b:Bool),e= .returned (.tuple #[.agg #[.int .i64 r.op,.int .i64 r.d,.int .i64 r.n,.int .i64 r.m,.int .i64 r.e,.int .i64 r.sz,.int .i64 r.imm],.bool b])/\(decOne op w=if b=true then some r else none)/\ ∃p:Regrown,W'=more W p
theorem OneGives.mk_{W W':qW}{op:Int}{w:Nat}{e:Ending}(r:Ins)(b:Bool)(he:e= .returned (.tuple #[.agg #[.int .i64 r.op,.int .i64 r.d,.int .i64 r.n,.int .i64 r.m,.int .i64 r.e,.int .i64 r.sz,.int .i64 r.imm],.bool b]))(h:decOne op w=if b=true then some r else none)(hb:Below W.heap.size W W'):OneGives W op w e W':=
 ⟨r,b,he,h,bC hb⟩
theorem vz(op:Int)(w:Nat)(hw:w<4294967296)(W:qW):qC 32 #[.int .i64 op,.int .u32 w] W (OneGives W op w):=by
 have HD:Hid (decOne op w=match decL w (baseN op) (fls op) (Ins.zero op) w with
  |some (out,b)=>if b=baseN op then some out else none
  |none=>none):=Zh rfl
 have O:=Zh (fun W=>ld op W)
 have Gp:=lO op
 have Ov:=lP op
 have NS:=nZ op
 have HL:Hid (fls op=(lets op).filterMap fl):=Zh rfl
 generalize Mc:decOne op w=D at HD
 have K7:=Zh Mc
 clear Mc
 generalize baseN op=sb at*
 generalize lets op=ls at*
 have If:=Zh Gp
 go_enter Tryz.func32,Tryz.ntmps32
 go_wp2_with (first|(go_at_call 58;refine (O.out _).mono ?_;rintro e w1 ⟨rfl,p1,rfl⟩))
 obtain ⟨cp,wb,wY,zM,hsz,B3⟩:=nL (((more (W.alloc (.cells #[.int .i64 0,.int .i64 0,.int .i64 0,.int .i64 0,.int .i64 0,.int .i64 0,.int .i64 0] 83)) p1).alloc (.cells #[.int .u32 sb,.string (strB ls)] 160)).alloc (.cells #[.int .i64 op,.int .i64 0,.int .i64 0,.int .i64 0,.int .i64 0,.int .i64 0,.int .i64 0] 83)) (W.heap.size+1+p1.os.size+1+1) ZC ls (fun c hc=>(If.out c hc).1)
 have zv:OInv W wb (W.heap.size+1+p1.os.size+1+1) (W.heap.size+1+p1.os.size+1) (W.heap.size+1+p1.os.size) W.heap.size ls sb (Ins.zero op):=by
  have AD:InsAt (((more (W.alloc (.cells #[.int .i64 0,.int .i64 0,.int .i64 0,.int .i64 0,.int .i64 0,.int .i64 0,.int .i64 0] 83)) p1).alloc (.cells #[.int .u32 sb,.string (strB ls)] 160)).alloc (.cells #[.int .i64 op,.int .i64 0,.int .i64 0,.int .i64 0,.int .i64 0,.int .i64 0,.int .i64 0] 83)) (W.heap.size+1+p1.os.size+1) (Ins.zero op):=fun k hk=>by
   match k,hk with
   |0,_|1,_|2,_|3,_|4,_|5,_|6,_=>simp [go_sem,Ins.get,Ins.zero]
  have J4:InsAt (((more (W.alloc (.cells #[.int .i64 0,.int .i64 0,.int .i64 0,.int .i64 0,.int .i64 0,.int .i64 0,.int .i64 0] 83)) p1).alloc (.cells #[.int .u32 sb,.string (strB ls)] 160)).alloc (.cells #[.int .i64 op,.int .i64 0,.int .i64 0,.int .i64 0,.int .i64 0,.int .i64 0,.int .i64 0] 83)) W.heap.size (Ins.zero 0):=fun k hk=>by
   match k,hk with
   |0,_|1,_|2,_|3,_|4,_|5,_|6,_=>simp [go_sem,Ins.get,Ins.zero,(show W.heap.size<W.heap.size+1+p1.os.size by omega),(show W.heap.size<W.heap.size+1+p1.os.size+1 by omega)]
  refine ⟨?_,by omega,by omega,by omega,by omega,by omega,B3,AD.below ZC zM,J4.below ZR zM,?_⟩
  ·exact bR Ze zM
  ·refine (zM.cell (p:=⟨W.heap.size+1+p1.os.size,0,none⟩) ZC).trans ?_
   simp [go_sem]
 have E':=Zh zv
 clear zv zM B3 hsz
 rw [wY]
 clear wY
 generalize W.heap.size+1+p1.os.size+1+1=B at*
 generalize W.heap.size+1+p1.os.size+1=R at*
 generalize hS:W.heap.size+1+p1.os.size=S at*
 generalize hZ:W.heap.size=Z at*
 have Rk:Z<S:=by omega
 clear hS hZ
 go_wp2_with fail
 go_loopw [8,23] (fun v8 v23 wr=> ∃(k b:Nat) (r:Ins),k<=ls.length/\v23= .int .i64 k/\v8= .int .u32 b/\b<4294967296/\OInv W wr B R S Z ls sb r/\decL w sb (fls op) (Ins.zero op) w=decL w sb ((ls.drop k).filterMap fl) r b) (fun _ v23 _=>ls.length-(intOf v23).toNat)
 case atStart=>exact ⟨0,w,Ins.zero op,by omega,rfl,rfl,hw,E'.out,by rw [HL.out];rfl⟩
 case round=>
  obtain ⟨k,b,r,hk,rfl,rfl,hb,zv,wY⟩:=hrel
  have Co:=Zh zv
  have yj:=Zh wY
  obtain ⟨i1,i2,i3,i4,i5,i5',i6,i7,i8,i9⟩:=zv
  clear wY i1
  have z0:=(i8 0 Za).2
  have z1:=(i8 1 Za).2
  have z2:=(i8 2 Za).2
  have z3:=(i8 3 Za).2
  have z4:=(i8 4 Za).2
  have z5:=(i8 5 Za).2
  have z6:=(i8 6 Za).2
  have y0:wr.cell? ⟨Z,0,none⟩=some (.int .i64 0):=(i8 0 Za).1
  have y1:wr.cell? ⟨Z,1,none⟩=some (.int .i64 0):=(i8 1 Za).1
  have y2:wr.cell? ⟨Z,2,none⟩=some (.int .i64 0):=(i8 2 Za).1
  have y3:wr.cell? ⟨Z,3,none⟩=some (.int .i64 0):=(i8 3 Za).1
  have y4:wr.cell? ⟨Z,4,none⟩=some (.int .i64 0):=(i8 4 Za).1
  have y5:wr.cell? ⟨Z,5,none⟩=some (.int .i64 0):=(i8 5 Za).1
  have y6:wr.cell? ⟨Z,6,none⟩=some (.int .i64 0):=(i8 6 Za).1
  have Rj:Z<wr.heap.size:=by omega
  have Rr:S<wr.heap.size:=by omega
  have IY:R<wr.heap.size:=by omega
  have Rm:Z<R:=by omega
  clear i8
  by_cases xe:(k:Int)<ls.length
  ·obtain ⟨c,hc⟩:=mw ls k Za
   have xm:=i6 k c hc
   obtain ⟨GV,EO⟩:=If.out c (zat hc)
   by_cases hz:c=122
   ·subst hz
    have xq:=mU hc rfl
    have HZ:=Zh xq
    clear xq EO i6 i7 z0 z1 z2 z3 z4 z5 z6 y0 y1 y2 y3 y4 y5 y6
    go_wp2_with fail
    go_roundw
    case rel=>exact ⟨k+1,b,r,by omega,by go_num,rfl,hb,Co.out.below Ze,by rw [yj.out,HZ.out]⟩
    case measure=>simp [intOf];omega
   ·obtain ⟨f,hf⟩:=EO.resolve_left hz
    have xr:=aO c f hf
    have xu:((c:Int)==122)=false:=by simp;omega
    have zW:=xr.idx
    have IM:=(i7 f.idx zW.2).1
    have pi:=(i7 f.idx zW.2).2
    have HF:=Zh (mV hc hf)
    have zN:=Zh xr
    have PL:=Zh (fun W=>kD c f hf W)
    have AT:=Zh (fun b W=>oe c f hf b W)
    have GE:=Zh (fun W=>ycH c f hf w hw W)
    have MA:=Zh (fun W=>lF c f hf W)
    have GT:=Zh (@ycK f (w/2^f.lo%2^f.n))
    have GF:=Zh (@ycL f (w/2^f.lo%2^f.n))
    have Cp:Hid (∀l out b,decL w sb (f::l) out b=match getF f (w/2^f.lo%2^f.n) with
     |some x=>decL w sb l (out.set f.idx x) (ovr b f.lo f.n (sb/2^f.lo%2^f.n))
     |none=>none):=Zh (fun l out b=>rfl)
    generalize w/2^f.lo%2^f.n=v at*
    generalize gyF f v=y at*
    clear xr i6 i7 hf EO
    generalize (f.lo:Int)=q0 at*
    generalize (f.n:Int)=q1 at*
    generalize (f.kd==1)=q2 at*
    generalize (if f.kd=2 then (1:Int) else 0)=q3 at*
    generalize (f.most:Int)=q4 at*
    cases hg:gbF f v
    ·rw [hg] at GE
     have e1:D=none:=by
      have h1:=HD.out
      rw [yj.out,HF.out,Cp.out,GF.out hg] at h1
      exact h1
     have HE:=Zh e1
     clear e1 HD yj Cp GT GF MA
     go_wp2_with (first
      |(go_at_call 59;refine (PL.out _).mono ?_;rintro e w1 ⟨rfl,p2,rfl⟩)
      |(go_at_call 60;refine (GE.out _).mono ?_;rintro e X ⟨rfl,hX⟩;have zH:=Zh (Co.out.below (w':=X) (by obtain ⟨p,rfl⟩:=hX;repeat (first|exact zaa _ _|refine aG ?_ _|refine ab ?_ _)));have Mp:wr.heap.size<=X.heap.size:=(by obtain ⟨p,rfl⟩:=hX;simp [go_sem];omega);clear hX;obtain ⟨x0,x1,x2,x3,x4,x5,x6⟩:=oz zH.out;clear IM pi xm z0 z1 z2 z3 z4 z5 z6 y0 y1 y2 y3 y4 y5 y6 i9))
     generalize As:(((((((X.setCell ⟨Z,0,none⟩ (.int .i64 0)).setCell ⟨Z,1,none⟩ (.int .i64 0)).setCell ⟨Z,2,none⟩ (.int .i64 0)).setCell ⟨Z,3,none⟩ (.int .i64 0)).setCell ⟨Z,4,none⟩ (.int .i64 0)).setCell ⟨Z,5,none⟩ (.int .i64 0)).setCell ⟨Z,6,none⟩ (.int .i64 0))=X7
     have yw:InsAt X7 Z ⟨0,0,0,0,0,0,0⟩:=by rw [<-As];exact InsAt.set7 zH.out.2.2.2.2.2.2.2.2.1 0 0 0 0 0 0 0
     have q0:X7.cell? ⟨Z,0,none⟩=some (.int .i64 0):=(yw 0 Za).1
     have q1:X7.cell? ⟨Z,1,none⟩=some (.int .i64 0):=(yw 1 Za).1
     have q2:X7.cell? ⟨Z,2,none⟩=some (.int .i64 0):=(yw 2 Za).1
     have q3:X7.cell? ⟨Z,3,none⟩=some (.int .i64 0):=(yw 3 Za).1
     have q4:X7.cell? ⟨Z,4,none⟩=some (.int .i64 0):=(yw 4 Za).1
     have q5:X7.cell? ⟨Z,5,none⟩=some (.int .i64 0):=(yw 5 Za).1
     have q6:X7.cell? ⟨Z,6,none⟩=some (.int .i64 0):=(yw 6 Za).1
     have Ec:=Zh (show Below W.heap.size W X7 by rw [<-As];exact ay (ay (ay (ay (ay (ay (ay zH.out.1 i5' _) i5' _) i5' _) i5' _) i5' _) i5' _) i5' _)
     clear As yw
     (try simp only [Exit.inBlock,Exit.then])
     refine zad (by simp [results,Tryz.results32,go_sem,q0,q1,q2,q3,q4,q5,q6];try rfl) rfl ?_
     exact OneGives.mk_ (Ins.zero 0) false rfl (by rw [K7.out,HE.out];rfl) Ec.out
    ·rw [hg] at GE
     have HG:=Zh (GT.out hg)
     generalize Et:mskN f=mk at*
     have Dx:=Zh Et
     clear GT GF Et
     go_wp2_with (first
      |(go_at_call 59;refine (PL.out _).mono ?_;rintro e w1 ⟨rfl,p2,rfl⟩)
      |(go_at_call 60;refine (GE.out _).mono ?_;rintro e w1 ⟨rfl,p3,rfl⟩)
      |(go_at_call 61;refine (AT.out _ _).mono ?_;rintro e w1 ⟨rfl,p4,rfl⟩))
     refine aE Zb Zb ?_
     repeat (go_big_quiet_step (first|(go_at_call 62;exact az (MA.out _))))
     refine zaE ?_
     intro p5
     go_wp2_with fail
     have JE:bits .or .u32 (bits .andNot .u32 (b:Int) (mk:Int)) (bits .and .u32 (sb:Int) (mk:Int))=((ovr b f.lo f.n (sb/2^f.lo%2^f.n):Nat):Int):=by
      rw [<-Dx.out]
      exact u8 zN.out hb NS
     rw [JE]
     go_roundw
     case rel=>
      refine ⟨k+1,_,r.set f.idx y,by omega,by go_num,rfl,kQ hb (zaL _ (Nat.two_pow_pos _)) zN.out.hi,(Co.out.setc f.idx zW.2 y).below Ze,?_⟩
      rw [yj.out,HF.out,Cp.out,HG.out]
     case measure=>simp [intOf];omega
  ·have hd:ls.drop k=[]:=by rw [List.drop_eq_nil_iff];omega
   have A4:D=if b=sb then some r else none:=by
    have h1:=HD.out
    rw [yj.out,hd] at h1
    exact h1
   obtain ⟨r0,r1,r2,r3,r4,r5,r6⟩:=r
   have c0:wr.cell? ⟨R,0,none⟩=some (.int .i64 r0):=(i7 0 Za).1
   have c1:wr.cell? ⟨R,1,none⟩=some (.int .i64 r1):=(i7 1 Za).1
   have c2:wr.cell? ⟨R,2,none⟩=some (.int .i64 r2):=(i7 2 Za).1
   have c3:wr.cell? ⟨R,3,none⟩=some (.int .i64 r3):=(i7 3 Za).1
   have c4:wr.cell? ⟨R,4,none⟩=some (.int .i64 r4):=(i7 4 Za).1
   have c5:wr.cell? ⟨R,5,none⟩=some (.int .i64 r5):=(i7 5 Za).1
   have c6:wr.cell? ⟨R,6,none⟩=some (.int .i64 r6):=(i7 6 Za).1
   have hne: ¬R=Z:=by omega
   have JK: ¬S=Z:=by omega
   have Ik:=Zh A4
   clear i7 HD yj Gp i6 A4
   by_cases CY:b=sb
   all_goals
    first|(have hq:((b:Int)==(sb:Int))=true:=by simp;omega)|(have hq:((b:Int)==(sb:Int))=false:=by simp;omega)
    go_wp2_with fail
    go_region_law (fail)
    all_goals
     go_wp2_with fail
     generalize As:(((((((wr.setCell ⟨Z,0,none⟩ (.int .i64 r0)).setCell ⟨Z,1,none⟩ (.int .i64 r1)).setCell ⟨Z,2,none⟩ (.int .i64 r2)).setCell ⟨Z,3,none⟩ (.int .i64 r3)).setCell ⟨Z,4,none⟩ (.int .i64 r4)).setCell ⟨Z,5,none⟩ (.int .i64 r5)).setCell ⟨Z,6,none⟩ (.int .i64 r6))=X7
     have yw:InsAt X7 Z ⟨r0,r1,r2,r3,r4,r5,r6⟩:=by rw [<-As];exact InsAt.set7 Co.out.2.2.2.2.2.2.2.2.1 r0 r1 r2 r3 r4 r5 r6
     have q0:X7.cell? ⟨Z,0,none⟩=some (.int .i64 r0):=(yw 0 Za).1
     have q1:X7.cell? ⟨Z,1,none⟩=some (.int .i64 r1):=(yw 1 Za).1
     have q2:X7.cell? ⟨Z,2,none⟩=some (.int .i64 r2):=(yw 2 Za).1
     have q3:X7.cell? ⟨Z,3,none⟩=some (.int .i64 r3):=(yw 3 Za).1
     have q4:X7.cell? ⟨Z,4,none⟩=some (.int .i64 r4):=(yw 4 Za).1
     have q5:X7.cell? ⟨Z,5,none⟩=some (.int .i64 r5):=(yw 5 Za).1
     have q6:X7.cell? ⟨Z,6,none⟩=some (.int .i64 r6):=(yw 6 Za).1
     have Ec:=Zh (show Below W.heap.size W X7 by rw [<-As];exact ay (ay (ay (ay (ay (ay (ay Co.out.1 i5' _) i5' _) i5' _) i5' _) i5' _) i5' _) i5' _)
     clear As yw
     (try simp only [Exit.inBlock,Exit.then])
     refine zad (by simp [results,Tryz.results32,go_sem,q0,q1,q2,q3,q4,q5,q6];try rfl) rfl ?_
     first
      |exact OneGives.mk_ ⟨r0,r1,r2,r3,r4,r5,r6⟩ true (by simp [hq]) (by rw [K7.out,Ik.out,if_pos CY];rfl) (ag Ec.out)
      |exact OneGives.mk_ ⟨r0,r1,r2,r3,r4,r5,r6⟩ false (by simp [hq]) (by rw [K7.out,Ik.out,if_neg CY];rfl) (ag Ec.out)
end Go.Proofs.YtjmfoeajhiimnaaGreatDoor
