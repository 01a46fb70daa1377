/- Walks. No condition. -/
import Derived.Deep.RegionLawGrows
import Derived.Test.YtcekjfmfcefjpaaGreatDoorG04
set_option maxRecDepth 100000
set_option maxHeartbeats 0
set_option linter.all false
namespace Go.Proofs.YtcekjfmfcefjpaaGreatDoor
open Go.RowKit Go.Sort
def gyF(f:Fl)(v:Nat):Int:=(getF f v).getD (if f.kd=3 then 0 else v)
def gbF(f:Fl)(v:Nat):Bool:=(getF f v).isSome
theorem bq{k:IntKind}{a b:Int}{c d:Bool}(h:a=b)(h2:c=d):Ending.returned (.tuple #[.int k a,.bool c])= .returned (.tuple #[.int k b,.bool d]):=by rw [h,h2]
theorem ycw(w:Nat)(hw:w<4294967296)(W:qW):qC 83 #[.agg #[iI 0,iI 5,.bool false,.int .u32 0,iI 31],.int .u8 100,.int .u32 w] W (Gives W (.tuple #[iI (gyF ⟨0,5,1,0,31⟩ (w/2^0%2^5)),.bool (gbF ⟨0,5,1,0,31⟩ (w/2^0%2^5))])):=by
 have K:=Zh gO
 have S:=Zh mM
 have hv:bits .and .u32 (w:Int) 31=((w/2^0%2^5:Nat):Int):=by
  have h:=bF (aN 100 ⟨0,5,1,0,31⟩ rfl) w hw 1 rfl
  rw [Int.ediv_one] at h
  exact h
 have hl:w/2^0%2^5<32:=zaL _ Zg
 generalize w/2^0%2^5=v at hv hl ⊢
 have hx:bits .xor .u32 (v:Int) 0=(v:Int):=aM v Za
 have G:Hid (fitF ⟨0,5,1,0,31⟩ (v:Int)=gbF ⟨0,5,1,0,31⟩ v/\(v:Int)=gyF ⟨0,5,1,0,31⟩ v):=Zh Z6
 go_enter Tryz.func83,Tryz.ntmps83
 go_wp2
 refine aD Zb Zb ?_
 repeat (go_big_quiet_step (first|(go_at_call 85;exact ay (K.out _))))
 refine zaE ?_
 intro p
 go_wp2_with (first|(go_at_call 123;refine (S.out _ Za _).mono ?_;rintro e w1 ⟨rfl,p2,rfl⟩))
 go_ret2
 exact Gives.mk (bq G.out.2 G.out.1) Zd
theorem ycq(w:Nat)(hw:w<4294967296)(W:qW):qC 83 #[.agg #[iI 5,iI 5,.bool false,.int .u32 0,iI 31],.int .u8 110,.int .u32 w] W (Gives W (.tuple #[iI (gyF ⟨5,5,2,0,31⟩ (w/2^5%2^5)),.bool (gbF ⟨5,5,2,0,31⟩ (w/2^5%2^5))])):=by
 have K:=Zh gI
 have S:=Zh mG
 have hv:bits .and .u32 (w:Int) 992/32=((w/2^5%2^5:Nat):Int):=bF (aN 110 ⟨5,5,2,0,31⟩ rfl) w hw 32 rfl
 have hl:w/2^5%2^5<32:=zaL _ Zg
 generalize w/2^5%2^5=v at hv hl ⊢
 have hx:bits .xor .u32 (v:Int) 0=(v:Int):=aM v Za
 have G:Hid (fitF ⟨5,5,2,0,31⟩ (v:Int)=gbF ⟨5,5,2,0,31⟩ v/\(v:Int)=gyF ⟨5,5,2,0,31⟩ v):=Zh Z6
 go_enter Tryz.func83,Tryz.ntmps83
 go_wp2
 refine aD Zb Zb ?_
 repeat (go_big_quiet_step (first|(go_at_call 85;exact ay (K.out _))))
 refine zaE ?_
 intro p
 go_wp2_with (first|(go_at_call 123;refine (S.out _ Za _).mono ?_;rintro e w1 ⟨rfl,p2,rfl⟩))
 go_ret2
 exact Gives.mk (bq G.out.2 G.out.1) Zd
theorem ycA(w:Nat)(hw:w<4294967296)(W:qW):qC 83 #[.agg #[iI 5,iI 5,.bool false,.int .u32 0,iI 30],.int .u8 97,.int .u32 w] W (Gives W (.tuple #[iI (gyF ⟨5,5,2,0,30⟩ (w/2^5%2^5)),.bool (gbF ⟨5,5,2,0,30⟩ (w/2^5%2^5))])):=by
 have K:=Zh gR
 have S:=Zh mP
 have hv:bits .and .u32 (w:Int) 992/32=((w/2^5%2^5:Nat):Int):=bF (aN 97 ⟨5,5,2,0,30⟩ rfl) w hw 32 rfl
 have hl:w/2^5%2^5<32:=zaL _ Zg
 generalize w/2^5%2^5=v at hv hl ⊢
 have hx:bits .xor .u32 (v:Int) 0=(v:Int):=aM v Za
 have G:Hid (fitF ⟨5,5,2,0,30⟩ (v:Int)=gbF ⟨5,5,2,0,30⟩ v/\(v:Int)=gyF ⟨5,5,2,0,30⟩ v):=Zh Z6
 go_enter Tryz.func83,Tryz.ntmps83
 go_wp2
 refine aD Zb Zb ?_
 repeat (go_big_quiet_step (first|(go_at_call 85;exact ay (K.out _))))
 refine zaE ?_
 intro p
 go_wp2_with (first|(go_at_call 123;refine (S.out _ Za _).mono ?_;rintro e w1 ⟨rfl,p2,rfl⟩))
 go_ret2
 exact Gives.mk (bq G.out.2 G.out.1) Zd
theorem ycr(w:Nat)(hw:w<4294967296)(W:qW):qC 83 #[.agg #[iI 16,iI 5,.bool false,.int .u32 0,iI 31],.int .u8 109,.int .u32 w] W (Gives W (.tuple #[iI (gyF ⟨16,5,3,0,31⟩ (w/2^16%2^5)),.bool (gbF ⟨16,5,3,0,31⟩ (w/2^16%2^5))])):=by
 have K:=Zh gJ
 have S:=Zh mH
 have hv:bits .and .u32 (w:Int) 2031616/65536=((w/2^16%2^5:Nat):Int):=bF (aN 109 ⟨16,5,3,0,31⟩ rfl) w hw 65536 rfl
 have hl:w/2^16%2^5<32:=zaL _ Zg
 generalize w/2^16%2^5=v at hv hl ⊢
 have hx:bits .xor .u32 (v:Int) 0=(v:Int):=aM v Za
 have G:Hid (fitF ⟨16,5,3,0,31⟩ (v:Int)=gbF ⟨16,5,3,0,31⟩ v/\(v:Int)=gyF ⟨16,5,3,0,31⟩ v):=Zh Z6
 go_enter Tryz.func83,Tryz.ntmps83
 go_wp2
 refine aD Zb Zb ?_
 repeat (go_big_quiet_step (first|(go_at_call 85;exact ay (K.out _))))
 refine zaE ?_
 intro p
 go_wp2_with (first|(go_at_call 123;refine (S.out _ Za _).mono ?_;rintro e w1 ⟨rfl,p2,rfl⟩))
 go_ret2
 exact Gives.mk (bq G.out.2 G.out.1) Zd
theorem ycv(w:Nat)(hw:w<4294967296)(W:qW):qC 83 #[.agg #[iI 10,iI 5,.bool false,.int .u32 0,iI 31],.int .u8 101,.int .u32 w] W (Gives W (.tuple #[iI (gyF ⟨10,5,4,0,31⟩ (w/2^10%2^5)),.bool (gbF ⟨10,5,4,0,31⟩ (w/2^10%2^5))])):=by
 have K:=Zh gN
 have S:=Zh mL
 have hv:bits .and .u32 (w:Int) 31744/1024=((w/2^10%2^5:Nat):Int):=bF (aN 101 ⟨10,5,4,0,31⟩ rfl) w hw 1024 rfl
 have hl:w/2^10%2^5<32:=zaL _ Zg
 generalize w/2^10%2^5=v at hv hl ⊢
 have hx:bits .xor .u32 (v:Int) 0=(v:Int):=aM v Za
 have G:Hid (fitF ⟨10,5,4,0,31⟩ (v:Int)=gbF ⟨10,5,4,0,31⟩ v/\(v:Int)=gyF ⟨10,5,4,0,31⟩ v):=Zh Z6
 go_enter Tryz.func83,Tryz.ntmps83
 go_wp2
 refine aD Zb Zb ?_
 repeat (go_big_quiet_step (first|(go_at_call 85;exact ay (K.out _))))
 refine zaE ?_
 intro p
 go_wp2_with (first|(go_at_call 123;refine (S.out _ Za _).mono ?_;rintro e w1 ⟨rfl,p2,rfl⟩))
 go_ret2
 exact Gives.mk (bq G.out.2 G.out.1) Zd
theorem yco(w:Nat)(hw:w<4294967296)(W:qW):qC 83 #[.agg #[iI 21,iI 2,.bool false,.int .u32 0,iI 3],.int .u8 113,.int .u32 w] W (Gives W (.tuple #[iI (gyF ⟨21,2,4,0,3⟩ (w/2^21%2^2)),.bool (gbF ⟨21,2,4,0,3⟩ (w/2^21%2^2))])):=by
 have K:=Zh gG
 have S:=Zh mE
 have hv:bits .and .u32 (w:Int) 6291456/2097152=((w/2^21%2^2:Nat):Int):=bF (aN 113 ⟨21,2,4,0,3⟩ rfl) w hw 2097152 rfl
 have hl:w/2^21%2^2<4:=zaL _ Zg
 generalize w/2^21%2^2=v at hv hl ⊢
 have hx:bits .xor .u32 (v:Int) 0=(v:Int):=aM v Za
 have G:Hid (fitF ⟨21,2,4,0,3⟩ (v:Int)=gbF ⟨21,2,4,0,3⟩ v/\(v:Int)=gyF ⟨21,2,4,0,3⟩ v):=Zh Z6
 go_enter Tryz.func83,Tryz.ntmps83
 go_wp2
 refine aD Zb Zb ?_
 repeat (go_big_quiet_step (first|(go_at_call 85;exact ay (K.out _))))
 refine zaE ?_
 intro p
 go_wp2_with (first|(go_at_call 123;refine (S.out _ Za _).mono ?_;rintro e w1 ⟨rfl,p2,rfl⟩))
 go_ret2
 exact Gives.mk (bq G.out.2 G.out.1) Zd
theorem ycx(w:Nat)(hw:w<4294967296)(W:qW):qC 83 #[.agg #[iI 0,iI 2,.bool false,.int .u32 0,iI 3],.int .u8 99,.int .u32 w] W (Gives W (.tuple #[iI (gyF ⟨0,2,4,0,3⟩ (w/2^0%2^2)),.bool (gbF ⟨0,2,4,0,3⟩ (w/2^0%2^2))])):=by
 have K:=Zh gP
 have S:=Zh mN
 have hv:bits .and .u32 (w:Int) 3=((w/2^0%2^2:Nat):Int):=by
  have h:=bF (aN 99 ⟨0,2,4,0,3⟩ rfl) w hw 1 rfl
  rw [Int.ediv_one] at h
  exact h
 have hl:w/2^0%2^2<4:=zaL _ Zg
 generalize w/2^0%2^2=v at hv hl ⊢
 have hx:bits .xor .u32 (v:Int) 0=(v:Int):=aM v Za
 have G:Hid (fitF ⟨0,2,4,0,3⟩ (v:Int)=gbF ⟨0,2,4,0,3⟩ v/\(v:Int)=gyF ⟨0,2,4,0,3⟩ v):=Zh Z6
 go_enter Tryz.func83,Tryz.ntmps83
 go_wp2
 refine aD Zb Zb ?_
 repeat (go_big_quiet_step (first|(go_at_call 85;exact ay (K.out _))))
 refine zaE ?_
 intro p
 go_wp2_with (first|(go_at_call 123;refine (S.out _ Za _).mono ?_;rintro e w1 ⟨rfl,p2,rfl⟩))
 go_ret2
 exact Gives.mk (bq G.out.2 G.out.1) Zd
theorem ycs(w:Nat)(hw:w<4294967296)(W:qW):qC 83 #[.agg #[iI 12,iI 2,.bool false,.int .u32 1,iI 3],.int .u8 107,.int .u32 w] W (Gives W (.tuple #[iI (gyF ⟨12,2,4,2,3⟩ (w/2^12%2^2)),.bool (gbF ⟨12,2,4,2,3⟩ (w/2^12%2^2))])):=by
 have K:=Zh gK
 have S:=Zh mI
 have hv:bits .and .u32 (w:Int) 12288/4096=((w/2^12%2^2:Nat):Int):=bF (aN 107 ⟨12,2,4,2,3⟩ rfl) w hw 4096 rfl
 have hl:w/2^12%2^2<4:=zaL _ Zg
 generalize w/2^12%2^2=v at hv hl ⊢
 have hx:bits .xor .u32 (v:Int) 1=((turnN v:Nat):Int)/\turnN v<4:=by
  have:v=0\/v=1\/v=2\/v=3:=by omega
  rcases this with rfl|rfl|rfl|rfl<;>decide
 obtain ⟨hx,ht⟩:=hx
 have G:Hid (fitF ⟨12,2,4,2,3⟩ ((turnN v:Nat):Int)=gbF ⟨12,2,4,2,3⟩ v/\((turnN v:Nat):Int)=gyF ⟨12,2,4,2,3⟩ v):=Zh (by unfold gbF gyF getF fitF;simp;omega)
 go_enter Tryz.func83,Tryz.ntmps83
 go_wp2
 refine aD Zb Zb ?_
 repeat (go_big_quiet_step (first|(go_at_call 85;exact ay (K.out _))))
 refine zaE ?_
 intro p
 go_wp2_with (first|(go_at_call 123;refine (S.out _ Za _).mono ?_;rintro e w1 ⟨rfl,p2,rfl⟩))
 go_ret2
 exact Gives.mk (bq G.out.2 G.out.1) Zd
theorem ycn(w:Nat)(hw:w<4294967296)(W:qW):qC 83 #[.agg #[iI 30,iI 2,.bool false,.int .u32 0,iI 3],.int .u8 115,.int .u32 w] W (Gives W (.tuple #[iI (gyF ⟨30,2,5,0,3⟩ (w/2^30%2^2)),.bool (gbF ⟨30,2,5,0,3⟩ (w/2^30%2^2))])):=by
 have K:=Zh gF
 have S:=Zh mD
 have hv:bits .and .u32 (w:Int) 3221225472/1073741824=((w/2^30%2^2:Nat):Int):=bF (aN 115 ⟨30,2,5,0,3⟩ rfl) w hw 1073741824 rfl
 have hl:w/2^30%2^2<4:=zaL _ Zg
 generalize w/2^30%2^2=v at hv hl ⊢
 have hx:bits .xor .u32 (v:Int) 0=(v:Int):=aM v Za
 have G:Hid (fitF ⟨30,2,5,0,3⟩ (v:Int)=gbF ⟨30,2,5,0,3⟩ v/\(v:Int)=gyF ⟨30,2,5,0,3⟩ v):=Zh Z6
 go_enter Tryz.func83,Tryz.ntmps83
 go_wp2
 refine aD Zb Zb ?_
 repeat (go_big_quiet_step (first|(go_at_call 85;exact ay (K.out _))))
 refine zaE ?_
 intro p
 go_wp2_with (first|(go_at_call 123;refine (S.out _ Za _).mono ?_;rintro e w1 ⟨rfl,p2,rfl⟩))
 go_ret2
 exact Gives.mk (bq G.out.2 G.out.1) Zd
theorem yct(w:Nat)(hw:w<4294967296)(W:qW):qC 83 #[.agg #[iI 5,iI 16,.bool false,.int .u32 0,iI 65535],.int .u8 105,.int .u32 w] W (Gives W (.tuple #[iI (gyF ⟨5,16,6,0,65535⟩ (w/2^5%2^16)),.bool (gbF ⟨5,16,6,0,65535⟩ (w/2^5%2^16))])):=by
 have K:=Zh gL
 have S:=Zh mJ
 have hv:bits .and .u32 (w:Int) 2097120/32=((w/2^5%2^16:Nat):Int):=bF (aN 105 ⟨5,16,6,0,65535⟩ rfl) w hw 32 rfl
 have hl:w/2^5%2^16<65536:=zaL _ Zg
 generalize w/2^5%2^16=v at hv hl ⊢
 have hx:bits .xor .u32 (v:Int) 0=(v:Int):=aM v Za
 have G:Hid (fitF ⟨5,16,6,0,65535⟩ (v:Int)=gbF ⟨5,16,6,0,65535⟩ v/\(v:Int)=gyF ⟨5,16,6,0,65535⟩ v):=Zh Z6
 go_enter Tryz.func83,Tryz.ntmps83
 go_wp2
 refine aD Zb Zb ?_
 repeat (go_big_quiet_step (first|(go_at_call 85;exact ay (K.out _))))
 refine zaE ?_
 intro p
 go_wp2_with (first|(go_at_call 123;refine (S.out _ Za _).mono ?_;rintro e w1 ⟨rfl,p2,rfl⟩))
 go_ret2
 exact Gives.mk (bq G.out.2 G.out.1) Zd
theorem ycp(w:Nat)(hw:w<4294967296)(W:qW):qC 83 #[.agg #[iI 10,iI 12,.bool false,.int .u32 0,iI 4095],.int .u8 111,.int .u32 w] W (Gives W (.tuple #[iI (gyF ⟨10,12,6,0,4095⟩ (w/2^10%2^12)),.bool (gbF ⟨10,12,6,0,4095⟩ (w/2^10%2^12))])):=by
 have K:=Zh gH
 have S:=Zh mF
 have hv:bits .and .u32 (w:Int) 4193280/1024=((w/2^10%2^12:Nat):Int):=bF (aN 111 ⟨10,12,6,0,4095⟩ rfl) w hw 1024 rfl
 have hl:w/2^10%2^12<4096:=zaL _ Zg
 generalize w/2^10%2^12=v at hv hl ⊢
 have hx:bits .xor .u32 (v:Int) 0=(v:Int):=aM v Za
 have G:Hid (fitF ⟨10,12,6,0,4095⟩ (v:Int)=gbF ⟨10,12,6,0,4095⟩ v/\(v:Int)=gyF ⟨10,12,6,0,4095⟩ v):=Zh Z6
 go_enter Tryz.func83,Tryz.ntmps83
 go_wp2
 refine aD Zb Zb ?_
 repeat (go_big_quiet_step (first|(go_at_call 85;exact ay (K.out _))))
 refine zaE ?_
 intro p
 go_wp2_with (first|(go_at_call 123;refine (S.out _ Za _).mono ?_;rintro e w1 ⟨rfl,p2,rfl⟩))
 go_ret2
 exact Gives.mk (bq G.out.2 G.out.1) Zd
theorem ycy(w:Nat)(hw:w<4294967296)(W:qW):qC 83 #[.agg #[iI 0,iI 26,.bool true,.int .u32 0,iI 0],.int .u8 98,.int .u32 w] W (Gives W (.tuple #[iI (gyF ⟨0,26,6,1,0⟩ (w/2^0%2^26)),.bool (gbF ⟨0,26,6,1,0⟩ (w/2^0%2^26))])):=by
 have K:=Zh gQ
 have S:=Zh mO
 have hv:bits .and .u32 (w:Int) 67108863=((w/2^0%2^26:Nat):Int):=by
  have h:=bF (aN 98 ⟨0,26,6,1,0⟩ rfl) w hw 1 rfl
  rw [Int.ediv_one] at h
  exact h
 have hl:w/2^0%2^26<67108864:=zaL _ Zg
 generalize w/2^0%2^26=v at hv hl ⊢
 have hx:bits .xor .u32 (v:Int) 0=(v:Int):=aM v Za
 go_enter Tryz.func83,Tryz.ntmps83
 go_wp2
 refine aD Zb Zb ?_
 repeat (go_big_quiet_step (first|(go_at_call 85;exact ay (K.out _))))
 refine zaE ?_
 intro p
 by_cases h:(33554432:Int)<=v
 ·have G:Hid (fitF ⟨0,26,6,1,0⟩ ((v:Int)-67108864)=gbF ⟨0,26,6,1,0⟩ v/\((v:Int)-67108864)=gyF ⟨0,26,6,1,0⟩ v):=Zh (by unfold gbF gyF getF fitF;simp;omega)
  go_wp2_with (first|(go_at_call 123;refine (S.out _ Za _).mono ?_;rintro e w1 ⟨rfl,p2,rfl⟩))
  go_ret2
  exact Gives.mk (bq G.out.2 G.out.1) Zd
 ·have G:Hid (fitF ⟨0,26,6,1,0⟩ (v:Int)=gbF ⟨0,26,6,1,0⟩ v/\(v:Int)=gyF ⟨0,26,6,1,0⟩ v):=Zh (by unfold gbF gyF getF fitF;simp;omega)
  go_wp2_with (first|(go_at_call 123;refine (S.out _ Za _).mono ?_;rintro e w1 ⟨rfl,p2,rfl⟩))
  go_ret2
  exact Gives.mk (bq G.out.2 G.out.1) Zd
theorem ycm(w:Nat)(hw:w<4294967296)(W:qW):qC 83 #[.agg #[iI 5,iI 19,.bool true,.int .u32 0,iI 0],.int .u8 120,.int .u32 w] W (Gives W (.tuple #[iI (gyF ⟨5,19,6,1,0⟩ (w/2^5%2^19)),.bool (gbF ⟨5,19,6,1,0⟩ (w/2^5%2^19))])):=by
 have K:=Zh gE
 have S:=Zh mC
 have hv:bits .and .u32 (w:Int) 16777184/32=((w/2^5%2^19:Nat):Int):=bF (aN 120 ⟨5,19,6,1,0⟩ rfl) w hw 32 rfl
 have hl:w/2^5%2^19<524288:=zaL _ Zg
 generalize w/2^5%2^19=v at hv hl ⊢
 have hx:bits .xor .u32 (v:Int) 0=(v:Int):=aM v Za
 go_enter Tryz.func83,Tryz.ntmps83
 go_wp2
 refine aD Zb Zb ?_
 repeat (go_big_quiet_step (first|(go_at_call 85;exact ay (K.out _))))
 refine zaE ?_
 intro p
 by_cases h:(262144:Int)<=v
 ·have G:Hid (fitF ⟨5,19,6,1,0⟩ ((v:Int)-524288)=gbF ⟨5,19,6,1,0⟩ v/\((v:Int)-524288)=gyF ⟨5,19,6,1,0⟩ v):=Zh (by unfold gbF gyF getF fitF;simp;omega)
  go_wp2_with (first|(go_at_call 123;refine (S.out _ Za _).mono ?_;rintro e w1 ⟨rfl,p2,rfl⟩))
  go_ret2
  exact Gives.mk (bq G.out.2 G.out.1) Zd
 ·have G:Hid (fitF ⟨5,19,6,1,0⟩ (v:Int)=gbF ⟨5,19,6,1,0⟩ v/\(v:Int)=gyF ⟨5,19,6,1,0⟩ v):=Zh (by unfold gbF gyF getF fitF;simp;omega)
  go_wp2_with (first|(go_at_call 123;refine (S.out _ Za _).mono ?_;rintro e w1 ⟨rfl,p2,rfl⟩))
  go_ret2
  exact Gives.mk (bq G.out.2 G.out.1) Zd
theorem ycu(w:Nat)(hw:w<4294967296)(W:qW):qC 83 #[.agg #[iI 8,iI 4,.bool false,.int .u32 0,iI 2],.int .u8 102,.int .u32 w] W (Gives W (.tuple #[iI (gyF ⟨8,4,6,3,2⟩ (w/2^8%2^4)),.bool (gbF ⟨8,4,6,3,2⟩ (w/2^8%2^4))])):=by
 have K:=Zh gM
 have S:=Zh mK
 have hv:bits .and .u32 (w:Int) 3840/256=((w/2^8%2^4:Nat):Int):=bF (aN 102 ⟨8,4,6,3,2⟩ rfl) w hw 256 rfl
 have hl:w/2^8%2^4<16:=zaL _ Zg
 generalize w/2^8%2^4=v at hv hl ⊢
 go_enter Tryz.func83,Tryz.ntmps83
 go_wp2
 refine aD Zb Zb ?_
 repeat (go_big_quiet_step (first|(go_at_call 85;exact ay (K.out _))))
 refine zaE ?_
 intro p
 go_wp2_with (first|(go_at_call 126;refine (fH _).mono ?_;rintro e w1 ⟨rfl,p1,rfl⟩))
 go_loopw [22] (fun i wr=> ∃k:Nat,k<=3/\i=iI k/\(0<k->v≠11)/\(1<k->v≠9)/\(2<k->v≠10)/\ ∃p:Regrown,wr=more (W.alloc (.cells #[iI 8,iI 4,.bool false,.int .u32 0,iI 2] 188)) p) (fun i _=>3-(intOf i).toNat)
 case atStart=>exact ⟨0,by omega,rfl,by omega,by omega,by omega,bu Zd⟩
 case round=>
  obtain ⟨k,hk,rfl,n0,n1,n2,p3,rfl⟩:=hrel
  match k,hk,n0,n1,n2 with
  |0,hk,n0,n1,n2=>
   have BY: ∀W,(Instr.index 269 (.agg #[.int .u32 11,.int .u32 9,.int .u32 10]) (iI 0)).run Tryz.prog W= .ok (.int .u32 11) W:=fun _=>by kernel_rfl
   by_cases h:v=11
   ·subst h
    go_wp2_with fail
    go_ret2
    exact Gives.mk rfl Zd
   ·have h2:((11:Int)==(v:Int))=false:=by simp;omega
    go_wp2_with fail
    go_roundw
    case rel=>exact ⟨1,by omega,rfl,by omega,by omega,by omega,bu Zd⟩
    case measure=>simp [intOf]
  |1,hk,n0,n1,n2=>
   have BY: ∀W,(Instr.index 269 (.agg #[.int .u32 11,.int .u32 9,.int .u32 10]) (iI 1)).run Tryz.prog W= .ok (.int .u32 9) W:=fun _=>by kernel_rfl
   by_cases h:v=9
   ·subst h
    go_wp2_with fail
    go_ret2
    exact Gives.mk rfl Zd
   ·have h2:((9:Int)==(v:Int))=false:=by simp;omega
    go_wp2_with fail
    go_roundw
    case rel=>exact ⟨2,by omega,rfl,by omega,by omega,by omega,bu Zd⟩
    case measure=>simp [intOf]
  |2,hk,n0,n1,n2=>
   have BY: ∀W,(Instr.index 269 (.agg #[.int .u32 11,.int .u32 9,.int .u32 10]) (iI 2)).run Tryz.prog W= .ok (.int .u32 10) W:=fun _=>by kernel_rfl
   by_cases h:v=10
   ·subst h
    go_wp2_with fail
    go_ret2
    exact Gives.mk rfl Zd
   ·have h2:((10:Int)==(v:Int))=false:=by simp;omega
    go_wp2_with fail
    go_roundw
    case rel=>exact ⟨3,by omega,rfl,by omega,by omega,by omega,bu Zd⟩
    case measure=>simp [intOf]
  |3,hk,n0,n1,n2=>
   have G:Hid ((0:Int)=gyF ⟨8,4,6,3,2⟩ v/\false=gbF ⟨8,4,6,3,2⟩ v):=Zh (by have:=n0 Za;have:=n1 Za;have:=n2 Za;unfold gbF gyF getF;simp [*])
   go_wp2_with fail
   go_ret2
   exact Gives.mk (bq G.out.1 G.out.2) Zd
theorem ycz(c:Nat)(f:Fl)(h:fl c=some f)(w:Nat)(hw:w<4294967296)(W:qW):qC 83 #[.agg #[iI f.lo,iI f.n,.bool (f.kd==1),.int .u32 (if f.kd=2 then 1 else 0),iI f.most],.int .u8 c,.int .u32 w] W (Gives W (.tuple #[iI (gyF f (w/2^f.lo%2^f.n)),.bool (gbF f (w/2^f.lo%2^f.n))])):=by
 unfold fl at h
 by_cases xO:c=100
 ·rw [if_pos xO] at h
  cases h
  subst xO
  exact ycw w hw W
 rw [if_neg xO] at h
 by_cases xI:c=110
 ·rw [if_pos xI] at h
  cases h
  subst xI
  exact ycq w hw W
 rw [if_neg xI] at h
 by_cases yY:c=97
 ·rw [if_pos yY] at h
  cases h
  subst yY
  exact ycA w hw W
 rw [if_neg yY] at h
 by_cases xJ:c=109
 ·rw [if_pos xJ] at h
  cases h
  subst xJ
  exact ycr w hw W
 rw [if_neg xJ] at h
 by_cases xN:c=101
 ·rw [if_pos xN] at h
  cases h
  subst xN
  exact ycv w hw W
 rw [if_neg xN] at h
 by_cases xG:c=113
 ·rw [if_pos xG] at h
  cases h
  subst xG
  exact yco w hw W
 rw [if_neg xG] at h
 by_cases yW:c=99
 ·rw [if_pos yW] at h
  cases h
  subst yW
  exact ycx w hw W
 rw [if_neg yW] at h
 by_cases xK:c=107
 ·rw [if_pos xK] at h
  cases h
  subst xK
  exact ycs w hw W
 rw [if_neg xK] at h
 by_cases xF:c=115
 ·rw [if_pos xF] at h
  cases h
  subst xF
  exact ycn w hw W
 rw [if_neg xF] at h
 by_cases xL:c=105
 ·rw [if_pos xL] at h
  cases h
  subst xL
  exact yct w hw W
 rw [if_neg xL] at h
 by_cases xH:c=111
 ·rw [if_pos xH] at h
  cases h
  subst xH
  exact ycp w hw W
 rw [if_neg xH] at h
 by_cases yX:c=98
 ·rw [if_pos yX] at h
  cases h
  subst yX
  exact ycy w hw W
 rw [if_neg yX] at h
 by_cases xE:c=120
 ·rw [if_pos xE] at h
  cases h
  subst xE
  exact ycm w hw W
 rw [if_neg xE] at h
 by_cases xM:c=102
 ·rw [if_pos xM] at h
  cases h
  subst xM
  exact ycu w hw W
 rw [if_neg xM] at h
 cases h
theorem ycC{f:Fl}{v:Nat}(h:gbF f v=true):getF f v=some (gyF f v):=by
 unfold gbF at h
 unfold gyF
 obtain ⟨x,hx⟩:=Option.isSome_iff_exists.1 h
 rw [hx]
 rfl
theorem ycD{f:Fl}{v:Nat}(h:gbF f v=false):getF f v=none:=by
 unfold gbF at h
 simpa using h
def OInv(w wr:qW)(B R S Z:Nat)(ls:List Nat)(sb:Nat)(r:Ins):Prop:=
 Below w.heap.size w wr/\B<wr.heap.size/\R<B/\S<R/\Z<S/\w.heap.size<=Z/\LetAt wr B ls/\InsAt wr R r/\InsAt wr Z (Ins.zero 0)/\wr.cell? ⟨S,0,none⟩=some (.int .u32 sb)
theorem InsAt.far{w:qW}{Z:Nat}{z:Ins}(h:InsAt w Z z){R k:Nat}(hR:R≠Z)(v:qV):InsAt (w.setCell ⟨R,k,none⟩ v) Z z:=fun j hj=>by
 refine ⟨?_,?_⟩
 ·rw [zaH _ _ _ _ (by simp [hR])]
  exact (h j hj).1
 ·rw [zaG]
  exact (h j hj).2
theorem OInv.below{w wr w':qW}{B R S Z:Nat}{ls:List Nat}{sb:Nat}{r:Ins}(h:OInv w wr B R S Z ls sb r)(hb:Below wr.heap.size wr w'):OInv w w' B R S Z ls sb r:=by
 obtain ⟨h1,h2,h3,h4,h5,h6,h7,h8,h9,Ds⟩:=h
 exact ⟨bQ h1 hb,zar h2 hb.size,h3,h4,h5,h6,h7.below h2 hb,h8.below Za hb,h9.below Za hb,(hb.cell (p:=⟨S,0,none⟩) (by show S<wr.heap.size;omega)).trans Ds⟩
theorem OInv.setc{w wr:qW}{B R S Z:Nat}{ls:List Nat}{sb:Nat}{r:Ins}(h:OInv w wr B R S Z ls sb r)(k:Nat)(hk:k<7)(x:Int):OInv w (wr.setCell ⟨R,k,none⟩ (.int .i64 x)) B R S Z ls sb (r.set k x):=by
 obtain ⟨h1,h2,h3,h4,h5,h6,h7,h8,h9,Ds⟩:=h
 refine ⟨ax h1 Zk _,by simpa using h2,h3,h4,h5,h6,h7.setc Za _,h8.setc k hk x,h9.far Za _,?_⟩
 rw [zaH _ _ _ _ (fun e=>by have:=congrArg Addr.block e;simp only at this;omega)]
 exact Ds
theorem oz{w wr:qW}{B R S Z:Nat}{ls:List Nat}{sb:Nat}{r:Ins}(h:OInv w wr B R S Z ls sb r):
  (wr.cell? ⟨Z,0,none⟩=some (.int .i64 0)/\wr.frozen? ⟨Z,0,none⟩=false)/\(wr.cell? ⟨Z,1,none⟩=some (.int .i64 0)/\wr.frozen? ⟨Z,1,none⟩=false)/\(wr.cell? ⟨Z,2,none⟩=some (.int .i64 0)/\wr.frozen? ⟨Z,2,none⟩=false)/\
  (wr.cell? ⟨Z,3,none⟩=some (.int .i64 0)/\wr.frozen? ⟨Z,3,none⟩=false)/\(wr.cell? ⟨Z,4,none⟩=some (.int .i64 0)/\wr.frozen? ⟨Z,4,none⟩=false)/\(wr.cell? ⟨Z,5,none⟩=some (.int .i64 0)/\wr.frozen? ⟨Z,5,none⟩=false)/\(wr.cell? ⟨Z,6,none⟩=some (.int .i64 0)/\wr.frozen? ⟨Z,6,none⟩=false):=by
 obtain ⟨h1,h2,h3,h4,h5,h6,h7,h8,h9,Ds⟩:=h
 exact ⟨h9 0 Za,h9 1 Za,h9 2 Za,h9 3 Za,h9 4 Za,h9 5 Za,h9 6 Za⟩
theorem InsAt.set7{X:qW}{Z:Nat}{z:Ins}(h:InsAt X Z z)(r0 r1 r2 r3 r4 r5 r6:Int):InsAt (((((((X.setCell ⟨Z,0,none⟩ (.int .i64 r0)).setCell ⟨Z,1,none⟩ (.int .i64 r1)).setCell ⟨Z,2,none⟩ (.int .i64 r2)).setCell ⟨Z,3,none⟩ (.int .i64 r3)).setCell ⟨Z,4,none⟩ (.int .i64 r4)).setCell ⟨Z,5,none⟩ (.int .i64 r5)).setCell ⟨Z,6,none⟩ (.int .i64 r6)) Z ⟨r0,r1,r2,r3,r4,r5,r6⟩:=
 ((((((h.setc 0 Za r0).setc 1 Za r1).setc 2 Za r2).setc 3 Za r3).setc 4 Za r4).setc 5 Za r5).setc 6 Za r6
def OneGives(W:qW)(op:Int)(w:Nat)(e:Ending)(W':qW):Prop:=
 ∃(r:Ins) (b:Bool),e= .returned (.tuple #[.agg #[.int .i64 r.op,.int .i64 r.d,.int .i64 r.n,.int .i64 r.m,.int .i64 r.e,.int .i64 r.sz,.int .i64 r.imm],.bool b])/\(decOne op w=if b=true then some r else none)/\ ∃p:Regrown,W'=more W p
theorem OneGives.mk_{W W':qW}{op:Int}{w:Nat}{e:Ending}(r:Ins)(b:Bool)(he:e= .returned (.tuple #[.agg #[.int .i64 r.op,.int .i64 r.d,.int .i64 r.n,.int .i64 r.m,.int .i64 r.e,.int .i64 r.sz,.int .i64 r.imm],.bool b]))(h:decOne op w=if b=true then some r else none)(hb:Below W.heap.size W W'):OneGives W op w e W':=
 ⟨r,b,he,h,bu hb⟩
theorem uM(op:Int)(w:Nat)(hw:w<4294967296)(W:qW):qC 40 #[.int .i64 op,.int .u32 w] W (OneGives W op w):=by
 have HD:Hid (decOne op w=match decL w (baseN op) (fls op) (Ins.zero op) w with
  |some (out,b)=>if b=baseN op then some out else none
  |none=>none):=Zh rfl
 have O:=Zh (fun W=>kU op W)
 have F9:=lI op
 have N4:=lJ op
 have Nv:=nO op
 have HL:Hid (fls op=(lets op).filterMap fl):=Zh rfl
 generalize LO:decOne op w=D at HD
 have KT:=Zh LO
 clear LO
 generalize baseN op=sb at*
 generalize lets op=ls at*
 have Hs:=Zh F9
 go_enter Tryz.func40,Tryz.ntmps40
 go_wp2_with (first|(go_at_call 81;refine (O.out _).mono ?_;rintro e w1 ⟨rfl,p1,rfl⟩))
 obtain ⟨cp,wb,wU,zJ,hsz,BS⟩:=nw (((more (W.alloc (.cells #[.int .i64 0,.int .i64 0,.int .i64 0,.int .i64 0,.int .i64 0,.int .i64 0,.int .i64 0] 85)) p1).alloc (.cells #[.int .u32 sb,.string (strB ls)] 185)).alloc (.cells #[.int .i64 op,.int .i64 0,.int .i64 0,.int .i64 0,.int .i64 0,.int .i64 0,.int .i64 0] 85)) (W.heap.size+1+p1.os.size+1+1) ZG ls (fun c hc=>(Hs.out c hc).1)
 have zk:OInv W wb (W.heap.size+1+p1.os.size+1+1) (W.heap.size+1+p1.os.size+1) (W.heap.size+1+p1.os.size) W.heap.size ls sb (Ins.zero op):=by
  have zR:InsAt (((more (W.alloc (.cells #[.int .i64 0,.int .i64 0,.int .i64 0,.int .i64 0,.int .i64 0,.int .i64 0,.int .i64 0] 85)) p1).alloc (.cells #[.int .u32 sb,.string (strB ls)] 185)).alloc (.cells #[.int .i64 op,.int .i64 0,.int .i64 0,.int .i64 0,.int .i64 0,.int .i64 0,.int .i64 0] 85)) (W.heap.size+1+p1.os.size+1) (Ins.zero op):=fun k hk=>by
   match k,hk with
   |0,_|1,_|2,_|3,_|4,_|5,_|6,_=>simp [go_sem,Ins.get,Ins.zero]
  have JS:InsAt (((more (W.alloc (.cells #[.int .i64 0,.int .i64 0,.int .i64 0,.int .i64 0,.int .i64 0,.int .i64 0,.int .i64 0] 85)) p1).alloc (.cells #[.int .u32 sb,.string (strB ls)] 185)).alloc (.cells #[.int .i64 op,.int .i64 0,.int .i64 0,.int .i64 0,.int .i64 0,.int .i64 0,.int .i64 0] 85)) W.heap.size (Ins.zero 0):=fun k hk=>by
   match k,hk with
   |0,_|1,_|2,_|3,_|4,_|5,_|6,_=>simp [go_sem,Ins.get,Ins.zero,(show W.heap.size<W.heap.size+1+p1.os.size by omega),(show W.heap.size<W.heap.size+1+p1.os.size+1 by omega)]
  refine ⟨?_,by omega,by omega,by omega,by omega,by omega,BS,zR.below ZG zJ,JS.below ZR zJ,?_⟩
  ·exact bQ Zd zJ
  ·refine (zJ.cell (p:=⟨W.heap.size+1+p1.os.size,0,none⟩) ZG).trans ?_
   simp [go_sem]
 have EY:=Zh zk
 clear zk zJ BS hsz
 rw [wU]
 clear wU
 generalize W.heap.size+1+p1.os.size+1+1=B at*
 generalize W.heap.size+1+p1.os.size+1=R at*
 generalize hS:W.heap.size+1+p1.os.size=S at*
 generalize hZ:W.heap.size=Z at*
 have hZS:Z<S:=by omega
 clear hS hZ
 go_wp2_with fail
 go_loopw [8,23] (fun v8 v23 wr=> ∃(k b:Nat) (r:Ins),k<=ls.length/\v23= .int .i64 k/\v8= .int .u32 b/\b<4294967296/\OInv W wr B R S Z ls sb r/\decL w sb (fls op) (Ins.zero op) w=decL w sb ((ls.drop k).filterMap fl) r b) (fun _ v23 _=>ls.length-(intOf v23).toNat)
 case atStart=>exact ⟨0,w,Ins.zero op,by omega,rfl,rfl,hw,EY.out,by rw [HL.out];rfl⟩
 case round=>
  obtain ⟨k,b,r,hk,rfl,rfl,hb,zk,wU⟩:=hrel
  have Ck:=Zh zk
  have xZ:=Zh wU
  obtain ⟨i1,i2,i3,i4,i5,i5',i6,i7,i8,i9⟩:=zk
  clear wU i1
  have z0:=(i8 0 Za).2
  have z1:=(i8 1 Za).2
  have z2:=(i8 2 Za).2
  have z3:=(i8 3 Za).2
  have z4:=(i8 4 Za).2
  have z5:=(i8 5 Za).2
  have z6:=(i8 6 Za).2
  have y0:wr.cell? ⟨Z,0,none⟩=some (.int .i64 0):=(i8 0 Za).1
  have y1:wr.cell? ⟨Z,1,none⟩=some (.int .i64 0):=(i8 1 Za).1
  have y2:wr.cell? ⟨Z,2,none⟩=some (.int .i64 0):=(i8 2 Za).1
  have y3:wr.cell? ⟨Z,3,none⟩=some (.int .i64 0):=(i8 3 Za).1
  have y4:wr.cell? ⟨Z,4,none⟩=some (.int .i64 0):=(i8 4 Za).1
  have y5:wr.cell? ⟨Z,5,none⟩=some (.int .i64 0):=(i8 5 Za).1
  have y6:wr.cell? ⟨Z,6,none⟩=some (.int .i64 0):=(i8 6 Za).1
  have hZr:Z<wr.heap.size:=by omega
  have hSr:S<wr.heap.size:=by omega
  have IB:R<wr.heap.size:=by omega
  have hZR:Z<R:=by omega
  clear i8
  by_cases wY:(k:Int)<ls.length
  ·obtain ⟨c,hc⟩:=mu ls k Za
   have xe:=i6 k c hc
   obtain ⟨GG,EH⟩:=Hs.out c (zat hc)
   by_cases hz:c=122
   ·subst hz
    have xk:=mS hc rfl
    have HZ:=Zh xk
    clear xk EH i6 i7 z0 z1 z2 z3 z4 z5 z6 y0 y1 y2 y3 y4 y5 y6
    go_wp2_with fail
    go_roundw
    case rel=>exact ⟨k+1,b,r,by omega,by go_num,rfl,hb,Ck.out.below Zd,by rw [xZ.out,HZ.out]⟩
    case measure=>simp [intOf];omega
   ·obtain ⟨f,hf⟩:=EH.resolve_left hz
    have xo:=aN c f hf
    have xm:((c:Int)==122)=false:=by simp;omega
    have zS:=xo.idx
    have It:=(i7 f.idx zS.2).1
    have pi:=(i7 f.idx zS.2).2
    have HF:=Zh (mT hc hf)
    have zK:=Zh xo
    have PL:=Zh (fun W=>ku c f hf W)
    have AT:=Zh (fun b W=>nR c f hf b W)
    have GE:=Zh (fun W=>ycz c f hf w hw W)
    have MA:=Zh (fun W=>ly c f hf W)
    have GT:=Zh (@ycC f (w/2^f.lo%2^f.n))
    have GF:=Zh (@ycD f (w/2^f.lo%2^f.n))
    have Cl:Hid (∀l out b,decL w sb (f::l) out b=match getF f (w/2^f.lo%2^f.n) with
     |some x=>decL w sb l (out.set f.idx x) (ovr b f.lo f.n (sb/2^f.lo%2^f.n))
     |none=>none):=Zh (fun l out b=>rfl)
    generalize w/2^f.lo%2^f.n=v at*
    generalize gyF f v=y at*
    clear xo i6 i7 hf EH
    generalize (f.lo:Int)=q0 at*
    generalize (f.n:Int)=q1 at*
    generalize (f.kd==1)=q2 at*
    generalize (if f.kd=2 then (1:Int) else 0)=q3 at*
    generalize (f.most:Int)=q4 at*
    cases hg:gbF f v
    ·rw [hg] at GE
     have e1:D=none:=by
      have h1:=HD.out
      rw [xZ.out,HF.out,Cl.out,GF.out hg] at h1
      exact h1
     have HE:=Zh e1
     clear e1 HD xZ Cl GT GF MA
     go_wp2_with (first
      |(go_at_call 82;refine (PL.out _).mono ?_;rintro e w1 ⟨rfl,p2,rfl⟩)
      |(go_at_call 83;refine (GE.out _).mono ?_;rintro e X ⟨rfl,hX⟩;have zw:=Zh (Ck.out.below (w':=X) (by obtain ⟨p,rfl⟩:=hX;repeat (first|exact zaa _ _|refine aF ?_ _|refine ab ?_ _)));have L6:wr.heap.size<=X.heap.size:=(by obtain ⟨p,rfl⟩:=hX;simp [go_sem];omega);clear hX;obtain ⟨x0,x1,x2,x3,x4,x5,x6⟩:=oz zw.out;clear It pi xe z0 z1 z2 z3 z4 z5 z6 y0 y1 y2 y3 y4 y5 y6 i9))
     generalize Aq:(((((((X.setCell ⟨Z,0,none⟩ (.int .i64 0)).setCell ⟨Z,1,none⟩ (.int .i64 0)).setCell ⟨Z,2,none⟩ (.int .i64 0)).setCell ⟨Z,3,none⟩ (.int .i64 0)).setCell ⟨Z,4,none⟩ (.int .i64 0)).setCell ⟨Z,5,none⟩ (.int .i64 0)).setCell ⟨Z,6,none⟩ (.int .i64 0))=X7
     have yq:InsAt X7 Z ⟨0,0,0,0,0,0,0⟩:=by rw [<-Aq];exact InsAt.set7 zw.out.2.2.2.2.2.2.2.2.1 0 0 0 0 0 0 0
     have q0:X7.cell? ⟨Z,0,none⟩=some (.int .i64 0):=(yq 0 Za).1
     have q1:X7.cell? ⟨Z,1,none⟩=some (.int .i64 0):=(yq 1 Za).1
     have q2:X7.cell? ⟨Z,2,none⟩=some (.int .i64 0):=(yq 2 Za).1
     have q3:X7.cell? ⟨Z,3,none⟩=some (.int .i64 0):=(yq 3 Za).1
     have q4:X7.cell? ⟨Z,4,none⟩=some (.int .i64 0):=(yq 4 Za).1
     have q5:X7.cell? ⟨Z,5,none⟩=some (.int .i64 0):=(yq 5 Za).1
     have q6:X7.cell? ⟨Z,6,none⟩=some (.int .i64 0):=(yq 6 Za).1
     have D':=Zh (show Below W.heap.size W X7 by rw [<-Aq];exact ax (ax (ax (ax (ax (ax (ax zw.out.1 i5' _) i5' _) i5' _) i5' _) i5' _) i5' _) i5' _)
     clear Aq yq
     (try simp only [Exit.inBlock,Exit.then])
     refine zad (by simp [results,Tryz.results40,go_sem,q0,q1,q2,q3,q4,q5,q6];try rfl) rfl ?_
     exact OneGives.mk_ (Ins.zero 0) false rfl (by rw [KT.out,HE.out];rfl) D'.out
    ·rw [hg] at GE
     have HG:=Zh (GT.out hg)
     generalize Ep:mskN f=mk at*
     have Dx:=Zh Ep
     clear GT GF Ep
     go_wp2_with (first
      |(go_at_call 82;refine (PL.out _).mono ?_;rintro e w1 ⟨rfl,p2,rfl⟩)
      |(go_at_call 83;refine (GE.out _).mono ?_;rintro e w1 ⟨rfl,p3,rfl⟩)
      |(go_at_call 84;refine (AT.out _ _).mono ?_;rintro e w1 ⟨rfl,p4,rfl⟩))
     refine aD Zb Zb ?_
     repeat (go_big_quiet_step (first|(go_at_call 85;exact ay (MA.out _))))
     refine zaE ?_
     intro p5
     go_wp2_with fail
     have Jm:bits .or .u32 (bits .andNot .u32 (b:Int) (mk:Int)) (bits .and .u32 (sb:Int) (mk:Int))=((ovr b f.lo f.n (sb/2^f.lo%2^f.n):Nat):Int):=by
      rw [<-Dx.out]
      exact uu zK.out hb Nv
     rw [Jm]
     go_roundw
     case rel=>
      refine ⟨k+1,_,r.set f.idx y,by omega,by go_num,rfl,kJ hb (zaL _ (Nat.two_pow_pos _)) zK.out.hi,(Ck.out.setc f.idx zS.2 y).below Zd,?_⟩
      rw [xZ.out,HF.out,Cl.out,HG.out]
     case measure=>simp [intOf];omega
  ·have hd:ls.drop k=[]:=by rw [List.drop_eq_nil_iff];omega
   have AV:D=if b=sb then some r else none:=by
    have h1:=HD.out
    rw [xZ.out,hd] at h1
    exact h1
   obtain ⟨r0,r1,r2,r3,r4,r5,r6⟩:=r
   have c0:wr.cell? ⟨R,0,none⟩=some (.int .i64 r0):=(i7 0 Za).1
   have c1:wr.cell? ⟨R,1,none⟩=some (.int .i64 r1):=(i7 1 Za).1
   have c2:wr.cell? ⟨R,2,none⟩=some (.int .i64 r2):=(i7 2 Za).1
   have c3:wr.cell? ⟨R,3,none⟩=some (.int .i64 r3):=(i7 3 Za).1
   have c4:wr.cell? ⟨R,4,none⟩=some (.int .i64 r4):=(i7 4 Za).1
   have c5:wr.cell? ⟨R,5,none⟩=some (.int .i64 r5):=(i7 5 Za).1
   have c6:wr.cell? ⟨R,6,none⟩=some (.int .i64 r6):=(i7 6 Za).1
   have hne: ¬R=Z:=by omega
   have Jt: ¬S=Z:=by omega
   have Hy:=Zh AV
   clear i7 HD xZ F9 i6 AV
   by_cases CV:b=sb
   all_goals
    first|(have hq:((b:Int)==(sb:Int))=true:=by simp;omega)|(have hq:((b:Int)==(sb:Int))=false:=by simp;omega)
    go_wp2_with fail
    go_region_law (fail)
    all_goals
     go_wp2_with fail
     generalize Aq:(((((((wr.setCell ⟨Z,0,none⟩ (.int .i64 r0)).setCell ⟨Z,1,none⟩ (.int .i64 r1)).setCell ⟨Z,2,none⟩ (.int .i64 r2)).setCell ⟨Z,3,none⟩ (.int .i64 r3)).setCell ⟨Z,4,none⟩ (.int .i64 r4)).setCell ⟨Z,5,none⟩ (.int .i64 r5)).setCell ⟨Z,6,none⟩ (.int .i64 r6))=X7
     have yq:InsAt X7 Z ⟨r0,r1,r2,r3,r4,r5,r6⟩:=by rw [<-Aq];exact InsAt.set7 Ck.out.2.2.2.2.2.2.2.2.1 r0 r1 r2 r3 r4 r5 r6
     have q0:X7.cell? ⟨Z,0,none⟩=some (.int .i64 r0):=(yq 0 Za).1
     have q1:X7.cell? ⟨Z,1,none⟩=some (.int .i64 r1):=(yq 1 Za).1
     have q2:X7.cell? ⟨Z,2,none⟩=some (.int .i64 r2):=(yq 2 Za).1
     have q3:X7.cell? ⟨Z,3,none⟩=some (.int .i64 r3):=(yq 3 Za).1
     have q4:X7.cell? ⟨Z,4,none⟩=some (.int .i64 r4):=(yq 4 Za).1
     have q5:X7.cell? ⟨Z,5,none⟩=some (.int .i64 r5):=(yq 5 Za).1
     have q6:X7.cell? ⟨Z,6,none⟩=some (.int .i64 r6):=(yq 6 Za).1
     have D':=Zh (show Below W.heap.size W X7 by rw [<-Aq];exact ax (ax (ax (ax (ax (ax (ax Ck.out.1 i5' _) i5' _) i5' _) i5' _) i5' _) i5' _) i5' _)
     clear Aq yq
     (try simp only [Exit.inBlock,Exit.then])
     refine zad (by simp [results,Tryz.results40,go_sem,q0,q1,q2,q3,q4,q5,q6];try rfl) rfl ?_
     first
      |exact OneGives.mk_ ⟨r0,r1,r2,r3,r4,r5,r6⟩ true (by simp [hq]) (by rw [KT.out,Hy.out,if_pos CV];rfl) (ag D'.out)
      |exact OneGives.mk_ ⟨r0,r1,r2,r3,r4,r5,r6⟩ false (by simp [hq]) (by rw [KT.out,Hy.out,if_neg CV];rfl) (ag D'.out)
end Go.Proofs.YtcekjfmfcefjpaaGreatDoor
