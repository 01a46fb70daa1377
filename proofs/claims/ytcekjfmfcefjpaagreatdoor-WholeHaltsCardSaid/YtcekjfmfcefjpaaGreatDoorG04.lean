/- Walks. No condition. -/
import Derived.Test.YtcekjfmfcefjpaaGreatDoorProg
import Derived.Test.YtcekjfmfcefjpaaGreatDoorG03
set_option maxRecDepth 100000
set_option maxHeartbeats 0
set_option linter.all false
namespace Go.Proofs.YtcekjfmfcefjpaaGreatDoor
open Go.RowKit Go.Sort
theorem fH(w:qW):qC 126 #[] w (Gives w (.agg #[.int .u32 11,.int .u32 9,.int .u32 10])):=by
 go_enter Tryz.func126,Tryz.ntmps126
 go_wp2
 go_returns
 exact Gives.mk rfl Zd
theorem sR(x:Int)(hx:fitF ⟨0,5,1,0,31⟩ x=true)(w:qW):qC 124 #[.agg #[iI 0,iI 5,.bool false,.int .u32 0,iI 31],.int .u8 100,iI x] w (Gives w (.int .u32 ((putF ⟨0,5,1,0,31⟩ x*2^0:Nat):Int))):=by
 have K:=Zh gO
 obtain ⟨a,ha⟩: ∃a:Nat,IntKind.u32.wrap x=a/\a<4294967296/\a%32=putF ⟨0,5,1,0,31⟩ x:=by
  simp [fitF] at hx
  refine ⟨x.toNat,?_,by omega,by simp [putF];omega⟩
  simp [IntKind.wrap,IntKind.bits,IntKind.signed];omega
 obtain ⟨h1,h2,h3⟩:=ha
 have hr:bits .and .u32 (bits .xor .u32 (a:Int) 0%4294967296) 31=((putF ⟨0,5,1,0,31⟩ x*2^0:Nat):Int):=by
  have h5:=bU (aN 100 ⟨0,5,1,0,31⟩ rfl) a 1 rfl
  rw [aM a h2,<-h3]
  rw [Int.mul_one] at h5
  exact h5
 have yx:bits .and .u32 (bits .xor .u32 (a:Int) 0) 31=((putF ⟨0,5,1,0,31⟩ x*2^0:Nat):Int):=by
  rw [aM a h2]
  rw [aM a h2] at hr
  rw [(show (a:Int)%4294967296=a by omega)] at hr
  exact hr
 have HR:=Zh hr
 clear hr h2 h3 hx yx
 go_enter Tryz.func124,Tryz.ntmps124
 go_wp2
 refine aD Zb Zb ?_
 repeat (go_big_quiet_step (first|(go_at_call 85;exact ay (K.out _))))
 refine zaE ?_
 intro p
 go_wp2
 go_ret
 exact Gives.mk (br Z0) Zd
theorem sK(x:Int)(hx:fitF ⟨5,5,2,0,31⟩ x=true)(w:qW):qC 124 #[.agg #[iI 5,iI 5,.bool false,.int .u32 0,iI 31],.int .u8 110,iI x] w (Gives w (.int .u32 ((putF ⟨5,5,2,0,31⟩ x*2^5:Nat):Int))):=by
 have K:=Zh gI
 obtain ⟨a,ha⟩: ∃a:Nat,IntKind.u32.wrap x=a/\a<4294967296/\a%32=putF ⟨5,5,2,0,31⟩ x:=by
  simp [fitF] at hx
  refine ⟨x.toNat,?_,by omega,by simp [putF];omega⟩
  simp [IntKind.wrap,IntKind.bits,IntKind.signed];omega
 obtain ⟨h1,h2,h3⟩:=ha
 have hr:bits .and .u32 (bits .xor .u32 (a:Int) 0*32%4294967296) 992=((putF ⟨5,5,2,0,31⟩ x*2^5:Nat):Int):=by
  rw [aM a h2,<-h3]
  exact bU (aN 110 ⟨5,5,2,0,31⟩ rfl) a 32 rfl
 have HR:=Zh hr
 clear hr h2 h3 hx
 go_enter Tryz.func124,Tryz.ntmps124
 go_wp2
 refine aD Zb Zb ?_
 repeat (go_big_quiet_step (first|(go_at_call 85;exact ay (K.out _))))
 refine zaE ?_
 intro p
 go_wp2
 go_ret
 exact Gives.mk (br Z0) Zd
theorem sX(x:Int)(hx:fitF ⟨5,5,2,0,30⟩ x=true)(w:qW):qC 124 #[.agg #[iI 5,iI 5,.bool false,.int .u32 0,iI 30],.int .u8 97,iI x] w (Gives w (.int .u32 ((putF ⟨5,5,2,0,30⟩ x*2^5:Nat):Int))):=by
 have K:=Zh gR
 obtain ⟨a,ha⟩: ∃a:Nat,IntKind.u32.wrap x=a/\a<4294967296/\a%32=putF ⟨5,5,2,0,30⟩ x:=by
  simp [fitF] at hx
  refine ⟨x.toNat,?_,by omega,by simp [putF];omega⟩
  simp [IntKind.wrap,IntKind.bits,IntKind.signed];omega
 obtain ⟨h1,h2,h3⟩:=ha
 have hr:bits .and .u32 (bits .xor .u32 (a:Int) 0*32%4294967296) 992=((putF ⟨5,5,2,0,30⟩ x*2^5:Nat):Int):=by
  rw [aM a h2,<-h3]
  exact bU (aN 97 ⟨5,5,2,0,30⟩ rfl) a 32 rfl
 have HR:=Zh hr
 clear hr h2 h3 hx
 go_enter Tryz.func124,Tryz.ntmps124
 go_wp2
 refine aD Zb Zb ?_
 repeat (go_big_quiet_step (first|(go_at_call 85;exact ay (K.out _))))
 refine zaE ?_
 intro p
 go_wp2
 go_ret
 exact Gives.mk (br Z0) Zd
theorem sL(x:Int)(hx:fitF ⟨16,5,3,0,31⟩ x=true)(w:qW):qC 124 #[.agg #[iI 16,iI 5,.bool false,.int .u32 0,iI 31],.int .u8 109,iI x] w (Gives w (.int .u32 ((putF ⟨16,5,3,0,31⟩ x*2^16:Nat):Int))):=by
 have K:=Zh gJ
 obtain ⟨a,ha⟩: ∃a:Nat,IntKind.u32.wrap x=a/\a<4294967296/\a%32=putF ⟨16,5,3,0,31⟩ x:=by
  simp [fitF] at hx
  refine ⟨x.toNat,?_,by omega,by simp [putF];omega⟩
  simp [IntKind.wrap,IntKind.bits,IntKind.signed];omega
 obtain ⟨h1,h2,h3⟩:=ha
 have hr:bits .and .u32 (bits .xor .u32 (a:Int) 0*65536%4294967296) 2031616=((putF ⟨16,5,3,0,31⟩ x*2^16:Nat):Int):=by
  rw [aM a h2,<-h3]
  exact bU (aN 109 ⟨16,5,3,0,31⟩ rfl) a 65536 rfl
 have HR:=Zh hr
 clear hr h2 h3 hx
 go_enter Tryz.func124,Tryz.ntmps124
 go_wp2
 refine aD Zb Zb ?_
 repeat (go_big_quiet_step (first|(go_at_call 85;exact ay (K.out _))))
 refine zaE ?_
 intro p
 go_wp2
 go_ret
 exact Gives.mk (br Z0) Zd
theorem sQ(x:Int)(hx:fitF ⟨10,5,4,0,31⟩ x=true)(w:qW):qC 124 #[.agg #[iI 10,iI 5,.bool false,.int .u32 0,iI 31],.int .u8 101,iI x] w (Gives w (.int .u32 ((putF ⟨10,5,4,0,31⟩ x*2^10:Nat):Int))):=by
 have K:=Zh gN
 obtain ⟨a,ha⟩: ∃a:Nat,IntKind.u32.wrap x=a/\a<4294967296/\a%32=putF ⟨10,5,4,0,31⟩ x:=by
  simp [fitF] at hx
  refine ⟨x.toNat,?_,by omega,by simp [putF];omega⟩
  simp [IntKind.wrap,IntKind.bits,IntKind.signed];omega
 obtain ⟨h1,h2,h3⟩:=ha
 have hr:bits .and .u32 (bits .xor .u32 (a:Int) 0*1024%4294967296) 31744=((putF ⟨10,5,4,0,31⟩ x*2^10:Nat):Int):=by
  rw [aM a h2,<-h3]
  exact bU (aN 101 ⟨10,5,4,0,31⟩ rfl) a 1024 rfl
 have HR:=Zh hr
 clear hr h2 h3 hx
 go_enter Tryz.func124,Tryz.ntmps124
 go_wp2
 refine aD Zb Zb ?_
 repeat (go_big_quiet_step (first|(go_at_call 85;exact ay (K.out _))))
 refine zaE ?_
 intro p
 go_wp2
 go_ret
 exact Gives.mk (br Z0) Zd
theorem sG(x:Int)(hx:fitF ⟨21,2,4,0,3⟩ x=true)(w:qW):qC 124 #[.agg #[iI 21,iI 2,.bool false,.int .u32 0,iI 3],.int .u8 113,iI x] w (Gives w (.int .u32 ((putF ⟨21,2,4,0,3⟩ x*2^21:Nat):Int))):=by
 have K:=Zh gG
 obtain ⟨a,ha⟩: ∃a:Nat,IntKind.u32.wrap x=a/\a<4294967296/\a%4=putF ⟨21,2,4,0,3⟩ x:=by
  simp [fitF] at hx
  refine ⟨x.toNat,?_,by omega,by simp [putF];omega⟩
  simp [IntKind.wrap,IntKind.bits,IntKind.signed];omega
 obtain ⟨h1,h2,h3⟩:=ha
 have hr:bits .and .u32 (bits .xor .u32 (a:Int) 0*2097152%4294967296) 6291456=((putF ⟨21,2,4,0,3⟩ x*2^21:Nat):Int):=by
  rw [aM a h2,<-h3]
  exact bU (aN 113 ⟨21,2,4,0,3⟩ rfl) a 2097152 rfl
 have HR:=Zh hr
 clear hr h2 h3 hx
 go_enter Tryz.func124,Tryz.ntmps124
 go_wp2
 refine aD Zb Zb ?_
 repeat (go_big_quiet_step (first|(go_at_call 85;exact ay (K.out _))))
 refine zaE ?_
 intro p
 go_wp2
 go_ret
 exact Gives.mk (br Z0) Zd
theorem sU(x:Int)(hx:fitF ⟨0,2,4,0,3⟩ x=true)(w:qW):qC 124 #[.agg #[iI 0,iI 2,.bool false,.int .u32 0,iI 3],.int .u8 99,iI x] w (Gives w (.int .u32 ((putF ⟨0,2,4,0,3⟩ x*2^0:Nat):Int))):=by
 have K:=Zh gP
 obtain ⟨a,ha⟩: ∃a:Nat,IntKind.u32.wrap x=a/\a<4294967296/\a%4=putF ⟨0,2,4,0,3⟩ x:=by
  simp [fitF] at hx
  refine ⟨x.toNat,?_,by omega,by simp [putF];omega⟩
  simp [IntKind.wrap,IntKind.bits,IntKind.signed];omega
 obtain ⟨h1,h2,h3⟩:=ha
 have hr:bits .and .u32 (bits .xor .u32 (a:Int) 0%4294967296) 3=((putF ⟨0,2,4,0,3⟩ x*2^0:Nat):Int):=by
  have h5:=bU (aN 99 ⟨0,2,4,0,3⟩ rfl) a 1 rfl
  rw [aM a h2,<-h3]
  rw [Int.mul_one] at h5
  exact h5
 have yx:bits .and .u32 (bits .xor .u32 (a:Int) 0) 3=((putF ⟨0,2,4,0,3⟩ x*2^0:Nat):Int):=by
  rw [aM a h2]
  rw [aM a h2] at hr
  rw [(show (a:Int)%4294967296=a by omega)] at hr
  exact hr
 have HR:=Zh hr
 clear hr h2 h3 hx yx
 go_enter Tryz.func124,Tryz.ntmps124
 go_wp2
 refine aD Zb Zb ?_
 repeat (go_big_quiet_step (first|(go_at_call 85;exact ay (K.out _))))
 refine zaE ?_
 intro p
 go_wp2
 go_ret
 exact Gives.mk (br Z0) Zd
theorem sM(x:Int)(hx:fitF ⟨12,2,4,2,3⟩ x=true)(w:qW):qC 124 #[.agg #[iI 12,iI 2,.bool false,.int .u32 1,iI 3],.int .u8 107,iI x] w (Gives w (.int .u32 ((putF ⟨12,2,4,2,3⟩ x*2^12:Nat):Int))):=by
 have K:=Zh gK
 obtain ⟨a,ha⟩: ∃a:Nat,IntKind.u32.wrap x=a/\a<4294967296/\a<4/\turnN a=putF ⟨12,2,4,2,3⟩ x:=by
  simp [fitF] at hx
  refine ⟨x.toNat,?_,by omega,by omega,by simp [putF]⟩
  simp [IntKind.wrap,IntKind.bits,IntKind.signed];omega
 obtain ⟨h1,h2,h4,h3⟩:=ha
 have hr:bits .and .u32 (bits .xor .u32 (a:Int) 1*4096%4294967296) 12288=((putF ⟨12,2,4,2,3⟩ x*2^12:Nat):Int):=by
  rw [<-h3]
  have:a=0\/a=1\/a=2\/a=3:=by omega
  rcases this with rfl|rfl|rfl|rfl<;>decide
 have HR:=Zh hr
 clear hr h2 h3 hx h4
 go_enter Tryz.func124,Tryz.ntmps124
 go_wp2
 refine aD Zb Zb ?_
 repeat (go_big_quiet_step (first|(go_at_call 85;exact ay (K.out _))))
 refine zaE ?_
 intro p
 go_wp2
 go_ret
 exact Gives.mk (br Z0) Zd
theorem sF(x:Int)(hx:fitF ⟨30,2,5,0,3⟩ x=true)(w:qW):qC 124 #[.agg #[iI 30,iI 2,.bool false,.int .u32 0,iI 3],.int .u8 115,iI x] w (Gives w (.int .u32 ((putF ⟨30,2,5,0,3⟩ x*2^30:Nat):Int))):=by
 have K:=Zh gF
 obtain ⟨a,ha⟩: ∃a:Nat,IntKind.u32.wrap x=a/\a<4294967296/\a%4=putF ⟨30,2,5,0,3⟩ x:=by
  simp [fitF] at hx
  refine ⟨x.toNat,?_,by omega,by simp [putF];omega⟩
  simp [IntKind.wrap,IntKind.bits,IntKind.signed];omega
 obtain ⟨h1,h2,h3⟩:=ha
 have hr:bits .and .u32 (bits .xor .u32 (a:Int) 0*1073741824%4294967296) 3221225472=((putF ⟨30,2,5,0,3⟩ x*2^30:Nat):Int):=by
  rw [aM a h2,<-h3]
  exact bU (aN 115 ⟨30,2,5,0,3⟩ rfl) a 1073741824 rfl
 have HR:=Zh hr
 clear hr h2 h3 hx
 go_enter Tryz.func124,Tryz.ntmps124
 go_wp2
 refine aD Zb Zb ?_
 repeat (go_big_quiet_step (first|(go_at_call 85;exact ay (K.out _))))
 refine zaE ?_
 intro p
 go_wp2
 go_ret
 exact Gives.mk (br Z0) Zd
theorem sN(x:Int)(hx:fitF ⟨5,16,6,0,65535⟩ x=true)(w:qW):qC 124 #[.agg #[iI 5,iI 16,.bool false,.int .u32 0,iI 65535],.int .u8 105,iI x] w (Gives w (.int .u32 ((putF ⟨5,16,6,0,65535⟩ x*2^5:Nat):Int))):=by
 have K:=Zh gL
 obtain ⟨a,ha⟩: ∃a:Nat,IntKind.u32.wrap x=a/\a<4294967296/\a%65536=putF ⟨5,16,6,0,65535⟩ x:=by
  simp [fitF] at hx
  refine ⟨x.toNat,?_,by omega,by simp [putF];omega⟩
  simp [IntKind.wrap,IntKind.bits,IntKind.signed];omega
 obtain ⟨h1,h2,h3⟩:=ha
 have hr:bits .and .u32 (bits .xor .u32 (a:Int) 0*32%4294967296) 2097120=((putF ⟨5,16,6,0,65535⟩ x*2^5:Nat):Int):=by
  rw [aM a h2,<-h3]
  exact bU (aN 105 ⟨5,16,6,0,65535⟩ rfl) a 32 rfl
 have HR:=Zh hr
 clear hr h2 h3 hx
 go_enter Tryz.func124,Tryz.ntmps124
 go_wp2
 refine aD Zb Zb ?_
 repeat (go_big_quiet_step (first|(go_at_call 85;exact ay (K.out _))))
 refine zaE ?_
 intro p
 go_wp2
 go_ret
 exact Gives.mk (br Z0) Zd
theorem sI(x:Int)(hx:fitF ⟨10,12,6,0,4095⟩ x=true)(w:qW):qC 124 #[.agg #[iI 10,iI 12,.bool false,.int .u32 0,iI 4095],.int .u8 111,iI x] w (Gives w (.int .u32 ((putF ⟨10,12,6,0,4095⟩ x*2^10:Nat):Int))):=by
 have K:=Zh gH
 obtain ⟨a,ha⟩: ∃a:Nat,IntKind.u32.wrap x=a/\a<4294967296/\a%4096=putF ⟨10,12,6,0,4095⟩ x:=by
  simp [fitF] at hx
  refine ⟨x.toNat,?_,by omega,by simp [putF];omega⟩
  simp [IntKind.wrap,IntKind.bits,IntKind.signed];omega
 obtain ⟨h1,h2,h3⟩:=ha
 have hr:bits .and .u32 (bits .xor .u32 (a:Int) 0*1024%4294967296) 4193280=((putF ⟨10,12,6,0,4095⟩ x*2^10:Nat):Int):=by
  rw [aM a h2,<-h3]
  exact bU (aN 111 ⟨10,12,6,0,4095⟩ rfl) a 1024 rfl
 have HR:=Zh hr
 clear hr h2 h3 hx
 go_enter Tryz.func124,Tryz.ntmps124
 go_wp2
 refine aD Zb Zb ?_
 repeat (go_big_quiet_step (first|(go_at_call 85;exact ay (K.out _))))
 refine zaE ?_
 intro p
 go_wp2
 go_ret
 exact Gives.mk (br Z0) Zd
theorem sV(x:Int)(hx:fitF ⟨0,26,6,1,0⟩ x=true)(w:qW):qC 124 #[.agg #[iI 0,iI 26,.bool true,.int .u32 0,iI 0],.int .u8 98,iI x] w (Gives w (.int .u32 ((putF ⟨0,26,6,1,0⟩ x*2^0:Nat):Int))):=by
 have K:=Zh gQ
 obtain ⟨a,ha⟩: ∃a:Nat,IntKind.u32.wrap x=a/\a<4294967296/\a%67108864=putF ⟨0,26,6,1,0⟩ x:=by
  refine ⟨(x%4294967296).toNat,?_,?_,?_⟩
  ·simp [IntKind.wrap,IntKind.bits,IntKind.signed];omega
  ·omega
  ·simp [putF];omega
 obtain ⟨h1,h2,h3⟩:=ha
 have hr:bits .and .u32 (bits .xor .u32 (a:Int) 0%4294967296) 67108863=((putF ⟨0,26,6,1,0⟩ x*2^0:Nat):Int):=by
  have h5:=bU (aN 98 ⟨0,26,6,1,0⟩ rfl) a 1 rfl
  rw [aM a h2,<-h3]
  rw [Int.mul_one] at h5
  exact h5
 have yx:bits .and .u32 (bits .xor .u32 (a:Int) 0) 67108863=((putF ⟨0,26,6,1,0⟩ x*2^0:Nat):Int):=by
  rw [aM a h2]
  rw [aM a h2] at hr
  rw [(show (a:Int)%4294967296=a by omega)] at hr
  exact hr
 have HR:=Zh hr
 clear hr h2 h3 hx yx
 go_enter Tryz.func124,Tryz.ntmps124
 go_wp2
 refine aD Zb Zb ?_
 repeat (go_big_quiet_step (first|(go_at_call 85;exact ay (K.out _))))
 refine zaE ?_
 intro p
 go_wp2
 go_ret
 exact Gives.mk (br Z0) Zd
theorem sE(x:Int)(hx:fitF ⟨5,19,6,1,0⟩ x=true)(w:qW):qC 124 #[.agg #[iI 5,iI 19,.bool true,.int .u32 0,iI 0],.int .u8 120,iI x] w (Gives w (.int .u32 ((putF ⟨5,19,6,1,0⟩ x*2^5:Nat):Int))):=by
 have K:=Zh gE
 obtain ⟨a,ha⟩: ∃a:Nat,IntKind.u32.wrap x=a/\a<4294967296/\a%524288=putF ⟨5,19,6,1,0⟩ x:=by
  refine ⟨(x%4294967296).toNat,?_,?_,?_⟩
  ·simp [IntKind.wrap,IntKind.bits,IntKind.signed];omega
  ·omega
  ·simp [putF];omega
 obtain ⟨h1,h2,h3⟩:=ha
 have hr:bits .and .u32 (bits .xor .u32 (a:Int) 0*32%4294967296) 16777184=((putF ⟨5,19,6,1,0⟩ x*2^5:Nat):Int):=by
  rw [aM a h2,<-h3]
  exact bU (aN 120 ⟨5,19,6,1,0⟩ rfl) a 32 rfl
 have HR:=Zh hr
 clear hr h2 h3 hx
 go_enter Tryz.func124,Tryz.ntmps124
 go_wp2
 refine aD Zb Zb ?_
 repeat (go_big_quiet_step (first|(go_at_call 85;exact ay (K.out _))))
 refine zaE ?_
 intro p
 go_wp2
 go_ret
 exact Gives.mk (br Z0) Zd
theorem sO(x:Int)(hx:fitF ⟨8,4,6,3,2⟩ x=true)(w:qW):qC 124 #[.agg #[iI 8,iI 4,.bool false,.int .u32 0,iI 2],.int .u8 102,iI x] w (Gives w (.int .u32 ((putF ⟨8,4,6,3,2⟩ x*2^8:Nat):Int))):=by
 have K:=Zh gM
 have h:x=0\/x=1\/x=2:=by simp [fitF] at hx;omega
 clear hx
 rcases h with rfl|rfl|rfl
 ·have BY: ∀W,(Instr.index 269 (.agg #[.int .u32 11,.int .u32 9,.int .u32 10]) (iI 0)).run Tryz.prog W= .ok (.int .u32 11) W:=fun _=>by kernel_rfl
  go_enter Tryz.func124,Tryz.ntmps124
  go_wp2_with (first|(go_at_call 126;refine (fH _).mono ?_;rintro e w1 ⟨rfl,p1,rfl⟩))
  refine aD Zb Zb ?_
  repeat (go_big_quiet_step (first|(go_at_call 85;exact ay (K.out _))))
  refine zaE ?_
  intro p
  go_wp2
  go_ret
  exact Gives.mk (br Zg) Zd
 ·have BY: ∀W,(Instr.index 269 (.agg #[.int .u32 11,.int .u32 9,.int .u32 10]) (iI 1)).run Tryz.prog W= .ok (.int .u32 9) W:=fun _=>by kernel_rfl
  go_enter Tryz.func124,Tryz.ntmps124
  go_wp2_with (first|(go_at_call 126;refine (fH _).mono ?_;rintro e w1 ⟨rfl,p1,rfl⟩))
  refine aD Zb Zb ?_
  repeat (go_big_quiet_step (first|(go_at_call 85;exact ay (K.out _))))
  refine zaE ?_
  intro p
  go_wp2
  go_ret
  exact Gives.mk (br Zg) Zd
 ·have BY: ∀W,(Instr.index 269 (.agg #[.int .u32 11,.int .u32 9,.int .u32 10]) (iI 2)).run Tryz.prog W= .ok (.int .u32 10) W:=fun _=>by kernel_rfl
  go_enter Tryz.func124,Tryz.ntmps124
  go_wp2_with (first|(go_at_call 126;refine (fH _).mono ?_;rintro e w1 ⟨rfl,p1,rfl⟩))
  refine aD Zb Zb ?_
  repeat (go_big_quiet_step (first|(go_at_call 85;exact ay (K.out _))))
  refine zaE ?_
  intro p
  go_wp2
  go_ret
  exact Gives.mk (br Zg) Zd
theorem sW(c:Nat)(f:Fl)(h:fl c=some f)(x:Int)(hx:fitF f x=true)(w:qW):qC 124 #[.agg #[iI f.lo,iI f.n,.bool (f.kd==1),.int .u32 (if f.kd=2 then 1 else 0),iI f.most],.int .u8 c,iI x] w (Gives w (.int .u32 ((putF f x*2^f.lo:Nat):Int))):=by
 unfold fl at h
 by_cases xO:c=100
 ·rw [if_pos xO] at h
  cases h
  subst xO
  exact sR x hx w
 rw [if_neg xO] at h
 by_cases xI:c=110
 ·rw [if_pos xI] at h
  cases h
  subst xI
  exact sK x hx w
 rw [if_neg xI] at h
 by_cases yY:c=97
 ·rw [if_pos yY] at h
  cases h
  subst yY
  exact sX x hx w
 rw [if_neg yY] at h
 by_cases xJ:c=109
 ·rw [if_pos xJ] at h
  cases h
  subst xJ
  exact sL x hx w
 rw [if_neg xJ] at h
 by_cases xN:c=101
 ·rw [if_pos xN] at h
  cases h
  subst xN
  exact sQ x hx w
 rw [if_neg xN] at h
 by_cases xG:c=113
 ·rw [if_pos xG] at h
  cases h
  subst xG
  exact sG x hx w
 rw [if_neg xG] at h
 by_cases yW:c=99
 ·rw [if_pos yW] at h
  cases h
  subst yW
  exact sU x hx w
 rw [if_neg yW] at h
 by_cases xK:c=107
 ·rw [if_pos xK] at h
  cases h
  subst xK
  exact sM x hx w
 rw [if_neg xK] at h
 by_cases xF:c=115
 ·rw [if_pos xF] at h
  cases h
  subst xF
  exact sF x hx w
 rw [if_neg xF] at h
 by_cases xL:c=105
 ·rw [if_pos xL] at h
  cases h
  subst xL
  exact sN x hx w
 rw [if_neg xL] at h
 by_cases xH:c=111
 ·rw [if_pos xH] at h
  cases h
  subst xH
  exact sI x hx w
 rw [if_neg xH] at h
 by_cases yX:c=98
 ·rw [if_pos yX] at h
  cases h
  subst yX
  exact sV x hx w
 rw [if_neg yX] at h
 by_cases xE:c=120
 ·rw [if_pos xE] at h
  cases h
  subst xE
  exact sE x hx w
 rw [if_neg xE] at h
 by_cases xM:c=102
 ·rw [if_pos xM] at h
  cases h
  subst xM
  exact sO x hx w
 rw [if_neg xM] at h
 cases h
def rngI(x:Int):Prop:= -9223372036854775808<=x/\x<=9223372036854775807
def Ins.rng(r:Ins):Prop:= ∀k,k<7->rngI (r.get k)
theorem Ins.rng_set{r:Ins}(h:r.rng)(k:Nat)(hk:k<7){x:Int}(hx:rngI x):(r.set k x).rng:=fun j hj=>by
 rw [Ins.get_set _ _ _ _ hk hj]
 split
 ·exact hx
 ·exact h j hj
def InsAt(w:qW)(R:Nat)(r:Ins):Prop:= ∀k,k<7->w.cell? ⟨R,k,none⟩=some (iI (r.get k))/\w.frozen? ⟨R,k,none⟩=false
theorem InsAt.below{w w':qW}{R:Nat}{r:Ins}(h:InsAt w R r)(hR:R<w.heap.size)(hb:Below w.heap.size w w'):InsAt w' R r:=fun k hk=>
 ⟨(hb.cell (p:=⟨R,k,none⟩) hR).trans (h k hk).1,(hb.frozen (p:=⟨R,k,none⟩) hR).trans (h k hk).2⟩
theorem InsAt.setc{w:qW}{R:Nat}{r:Ins}(h:InsAt w R r)(k:Nat)(hk:k<7)(x:Int):InsAt (w.setCell ⟨R,k,none⟩ (iI x)) R (r.set k x):=fun j hj=>by
 refine ⟨?_,?_⟩
 ·rw [Ins.get_set _ _ _ _ hk hj]
  by_cases e:k=j
  ·subst e
   rw [if_pos rfl]
   exact zaF _ _ _ (h k hk).1
  ·rw [if_neg e,zaH _ _ _ _ (by simp [e])]
   exact (h j hj).1
 ·rw [zaG]
  exact (h j hj).2
def LetAt(w:qW)(B:Nat)(ls:List Nat):Prop:= ∀(j x:Nat),ls[j]?=some x->w.cell? ⟨B,j,none⟩=some (.int .u8 x)
theorem LetAt.below{w w':qW}{B:Nat}{ls:List Nat}(h:LetAt w B ls)(hB:B<w.heap.size)(hb:Below w.heap.size w w'):LetAt w' B ls:=fun j x hx=>
 (hb.cell (p:=⟨B,j,none⟩) hB).trans (h j x hx)
theorem LetAt.setc{w:qW}{B:Nat}{ls:List Nat}(h:LetAt w B ls){R k:Nat}(hR:R≠B)(v:qV):LetAt (w.setCell ⟨R,k,none⟩ v) B ls:=fun j x hx=>by
 rw [zaH _ _ _ _ (by simp [hR])]
 exact h j x hx
theorem yah:(List.range 33).all (fun k=>(lets k).all (fun c=>decide (c<256)&&(c==122||(fl c).isSome)))=true:=by decide+kernel
theorem lI(op:Int): ∀c∈lets op,c<256/\(c=122\/ ∃f,fl c=some f):=by
 intro c hc
 have h:=eu (List.ne_nil_of_mem hc)
 have h2:=List.all_eq_true.1 yah op.toNat (List.mem_range.2 Za)
 have e:(op.toNat:Int)=op:=by omega
 rw [e] at h2
 have h3:=List.all_eq_true.1 h2 c hc
 simp only [za0,zau,zak,beq_iff_eq] at h3
 exact ⟨h3.1,h3.2.imp id fun h=>Option.isSome_iff_exists.1 h⟩
theorem yag:(List.range 33).all (fun k=>decide ((lets k).length<=4))=true:=by decide+kernel
theorem lJ(op:Int):(lets op).length<=4:=by
 by_cases h:lets op=[]
 ·rw [h];simp
 ·have h:=eu h
  have h2:=List.all_eq_true.1 yag op.toNat (List.mem_range.2 Za)
  have e:(op.toNat:Int)=op:=by omega
  rw [e] at h2
  simpa using h2
theorem pF{ls:List Nat}(h:ls≠[]):(strB ls).toList.isEmpty=false:=by
 rw [ByteArray.toList_eq]
 unfold strB
 cases ls with
 |nil=>exact absurd rfl h
 |cons a l=>rfl
theorem mS{ls:List Nat}{k c:Nat}(h:ls[k]?=some c)(hc:fl c=none):(ls.drop k).filterMap fl=(ls.drop (k+1)).filterMap fl:=by
 obtain ⟨wY,e⟩:=List.getElem?_eq_some_iff.mp h
 rw [zaS wY,List.filterMap_cons,e,hc]
theorem mT{ls:List Nat}{k c:Nat}{f:Fl}(h:ls[k]?=some c)(hc:fl c=some f):(ls.drop k).filterMap fl=f::(ls.drop (k+1)).filterMap fl:=by
 obtain ⟨wY,e⟩:=List.getElem?_eq_some_iff.mp h
 rw [zaS wY,List.filterMap_cons,e,hc]
theorem mu{α:Type}(l:List α)(k:Nat)(h:k<l.length): ∃x,l[k]?=some x:=⟨l[k],zaC h⟩
def EInv(w wr:qW)(B R:Nat)(ls:List Nat)(op:Int)(r:Ins):Prop:=
 Below w.heap.size w wr/\B<wr.heap.size/\R<B/\w.heap.size<R/\LetAt wr B ls/\InsAt wr R r/\wr.cell? ⟨w.heap.size,0,none⟩=some (iI op)
theorem EInv.below{w wr w':qW}{B R:Nat}{ls:List Nat}{op:Int}{r:Ins}(h:EInv w wr B R ls op r)(hb:Below wr.heap.size wr w'):EInv w w' B R ls op r:=by
 obtain ⟨h1,h2,h3,h4,h5,h6,h7⟩:=h
 exact ⟨bQ h1 hb,zar h2 hb.size,h3,h4,h5.below h2 hb,h6.below Za hb,(hb.cell (p:=⟨w.heap.size,0,none⟩) (by show w.heap.size<wr.heap.size;omega)).trans h7⟩
theorem EInv.setc{w wr:qW}{B R:Nat}{ls:List Nat}{op:Int}{r:Ins}(h:EInv w wr B R ls op r)(k:Nat)(hk:k<7)(x:Int):EInv w (wr.setCell ⟨R,k,none⟩ (iI x)) B R ls op (r.set k x):=by
 obtain ⟨h1,h2,h3,h4,h5,h6,h7⟩:=h
 refine ⟨ax h1 Zk _,by simpa using h2,h3,h4,h5.setc Za _,h6.setc k hk x,?_⟩
 rw [zaH _ _ _ _ (fun e=>by have:=congrArg Addr.block e;simp only at this;omega)]
 exact h7
theorem m7(i:Ins)(hi:i.rng)(w:qW):qC 80 #[.agg #[iI i.op,iI i.d,iI i.n,iI i.m,iI i.e,iI i.sz,iI i.imm]] w
  (Gives w (.tuple #[.int .u32 (((enc i).getD 0:Nat):Int),iI (if (enc i).isSome then 0 else 2)])):=by
 have HI:=Zh hi
 have HN:Hid (enc i=enc i):=Zh rfl
 have H0:Hid (lets i.op≠[]->enc i=match encL (fls i.op) (baseN i.op) i with
  |some (w,r)=>if restB i.op r=true then some w else none
  |none=>none):=Zh (fun h=>(if_neg h:enc i=_).trans rfl)
 have H1:Hid (lets i.op=[]->enc i=none):=Zh (fun h=>by unfold enc;rw [if_pos h])
 have O:=Zh (fun W=>kU i.op W)
 have F9:=lI i.op
 have N4:=lJ i.op
 have HB:=Zh (nO i.op)
 have HL:Hid (fls i.op=(lets i.op).filterMap fl):=Zh rfl
 generalize hV:(((enc i).getD 0:Nat):Int)=V
 generalize hE:(if (enc i).isSome then (0:Int) else 2)=E
 have HV:=Zh hV
 have HE:=Zh hE
 clear hi hV hE HN
 generalize baseN i.op=b at*
 generalize lets i.op=ls at*
 by_cases hn:ls=[]
 ·have e:=H1.out hn
  rw [e] at HV HE
  have v1:=HV.out
  have e1:=HE.out
  simp at v1 e1
  subst v1 e1 hn
  clear H0 H1 HL HV HE
  obtain ⟨op,d,n,m,e,sz,imm⟩:=i
  simp only at O ⊢
  have hs:(strB []).toList.isEmpty=true:=by rw [ByteArray.toList_eq];rfl
  go_enter Tryz.func80,Tryz.ntmps80
  go_wp2_with (first|(go_at_call 81;refine (O.out _).mono ?_;rintro e w1 ⟨rfl,p1,rfl⟩))
  go_ret2
  exact Gives.mk rfl Zd
 ·have HC:=H0.out hn
  have hs:=pF hn
  have Hs:=Zh F9
  clear H0 H1
  obtain ⟨op,d,n,m,e,sz,imm⟩:=i
  simp only at O HC HB HL ⊢
  go_enter Tryz.func80,Tryz.ntmps80
  go_wp2_with (first|(go_at_call 81;refine (O.out _).mono ?_;rintro e w1 ⟨rfl,p1,rfl⟩))
  obtain ⟨cp,wb,wU,zJ,hsz,BS⟩:=nw (((more (w.alloc (.cells #[iI op,iI d,iI n,iI m,iI e,iI sz,iI imm] 85)) p1).alloc (.cells #[.int .u32 b,.string (strB ls)] 185)).alloc (.cells #[iI op,iI d,iI n,iI m,iI e,iI sz,iI imm] 85)) (w.heap.size+1+p1.os.size+1+1) ZG ls (fun c hc=>(Hs.out c hc).1)
  have zk:EInv w wb (w.heap.size+1+p1.os.size+1+1) (w.heap.size+1+p1.os.size+1) ls op ⟨op,d,n,m,e,sz,imm⟩:=by
   have zR:InsAt (((more (w.alloc (.cells #[iI op,iI d,iI n,iI m,iI e,iI sz,iI imm] 85)) p1).alloc (.cells #[.int .u32 b,.string (strB ls)] 185)).alloc (.cells #[iI op,iI d,iI n,iI m,iI e,iI sz,iI imm] 85)) (w.heap.size+1+p1.os.size+1) ⟨op,d,n,m,e,sz,imm⟩:=fun k hk=>by
    match k,hk with
    |0,_|1,_|2,_|3,_|4,_|5,_|6,_=>simp [go_sem,Ins.get]
   refine ⟨?_,by omega,by omega,by omega,BS,zR.below ZG zJ,?_⟩
   ·exact bQ Zd zJ
   ·refine (zJ.cell (p:=⟨w.heap.size,0,none⟩) ZR).trans ?_
    simp [go_sem,(show w.heap.size<w.heap.size+1+p1.os.size by omega),(show w.heap.size<w.heap.size+1+p1.os.size+1 by omega)]
  have EY:=Zh zk
  clear zk zJ BS hsz
  rw [wU]
  clear wU
  generalize w.heap.size+1+p1.os.size+1+1=B at*
  generalize hR:w.heap.size+1+p1.os.size+1=R at*
  have hwR:w.heap.size<R:=by omega
  clear hR
  go_wp2_with fail
  go_loopw [5,24] (fun v5 v24 wr=> ∃(k W:Nat) (r:Ins),k<=ls.length/\v24=iI k/\v5= .int .u32 W/\W<4294967296/\r.rng/\EInv w wr B R ls op r/\encL (fls op) b ⟨op,d,n,m,e,sz,imm⟩=encL ((ls.drop k).filterMap fl) W r) (fun _ v24 _=>ls.length-(intOf v24).toNat)
  case atStart=>exact ⟨0,b,⟨op,d,n,m,e,sz,imm⟩,by omega,rfl,rfl,HB.out,HI.out,EY.out,by rw [HL.out];rfl⟩
  case round=>
   obtain ⟨k,W,r,hk,rfl,rfl,hW,Be,zk,wU⟩:=hrel
   have Ck:=Zh zk
   have xZ:=Zh wU
   have AF:=Zh Be
   obtain ⟨i1,i2,i3,i4,i5,i6,i7⟩:=zk
   clear wU Be i1
   by_cases wY:(k:Int)<ls.length
   ·obtain ⟨c,hc⟩:=mu ls k Za
    have xe:=i5 k c hc
    obtain ⟨GG,EH⟩:=Hs.out c (zat hc)
    by_cases hz:c=122
    ·subst hz
     have xk:=mS hc rfl
     have HZ:=Zh xk
     clear xk EH i5 i6
     go_wp2_with fail
     go_roundw
     case rel=>exact ⟨k+1,W,r,by omega,by go_num,rfl,hW,AF.out,Ck.out.below Zd,by rw [xZ.out,HZ.out]⟩
     case measure=>simp [intOf];omega
    ·obtain ⟨f,hf⟩:=EH.resolve_left hz
     have xo:=aN c f hf
     have xm:((c:Int)==122)=false:=by simp;omega
     have zS:=xo.idx
     have It:=(i6 f.idx zS.2).1
     have pi:=(i6 f.idx zS.2).2
     have AI:=AF.out f.idx zS.2
     have HF:=Zh (mT hc hf)
     have zK:=Zh xo
     have PL:=Zh (fun W=>ku c f hf W)
     have AT:=Zh (fun b W=>nR c f hf b W)
     have FI:=Zh (fun W=>yc4 c f hf (r.get f.idx) AI W)
     have MA:=Zh (fun W=>ly c f hf W)
     have PU:=Zh (fun h W=>sW c f hf (r.get f.idx) h W)
     have HX:Hid (∃x,r.get f.idx=x):=Zh ⟨_,rfl⟩
     clear xo i5 i6 hf EH
     generalize hx:r.get f.idx=x at*
     have Hx:=Zh hx
     clear hx
     generalize (f.lo:Int)=q0 at*
     generalize (f.n:Int)=q1 at*
     generalize (f.kd==1)=q2 at*
     generalize (if f.kd=2 then (1:Int) else 0)=q3 at*
     generalize (f.most:Int)=q4 at*
     by_cases y9:fitF f x=true
     ·have PU2:=Zh (PU.out y9)
      have EZ:=Zh y9
      rw [y9] at FI
      generalize Lk:putF f x*2^f.lo=pv at*
      generalize Ep:mskN f=mk at*
      have HPV:=Zh Lk
      have Dx:=Zh Ep
      clear Lk Ep PU y9
      go_wp2_with (first
       |(go_at_call 82;refine (PL.out _).mono ?_;rintro e w1 ⟨rfl,p2,rfl⟩)
       |(go_at_call 84;refine (AT.out _ _).mono ?_;rintro e w1 ⟨rfl,p3,rfl⟩))
      refine aD Zb Zb ?_
      repeat (go_big_quiet_step (first|(go_at_call 123;exact ay (FI.out _))))
      refine zaE ?_
      intro p4
      go_wp2
      refine aD Zb Zb ?_
      repeat (go_big_quiet_step (first|(go_at_call 85;exact ay (MA.out _))|(go_at_call 124;exact ay (PU2.out _))))
      refine zaE ?_
      intro p5
      go_wp2_with fail
      have Jm:bits .or .u32 (bits .andNot .u32 (W:Int) (mk:Int)) (pv:Int)=((ovr W f.lo f.n (putF f x):Nat):Int):=by
       rw [<-Dx.out,<-HPV.out]
       exact kK zK.out hW (zK.out.lt x EZ.out)
      rw [Jm]
      go_roundw
      case rel=>
       refine ⟨k+1,_,r.set f.idx 0,by omega,by go_num,rfl,kJ hW (zK.out.lt x EZ.out) zK.out.hi,Ins.rng_set AF.out f.idx zS.2 (by unfold rngI;omega),(Ck.out.setc f.idx zS.2 0).below Zd,?_⟩
       rw [xZ.out,HF.out]
       show (if fitF f (r.get f.idx)=true then _ else _)=_
       rw [Hx.out,if_pos EZ.out]
      case measure=>simp [intOf];omega
     ·have DU:enc ⟨op,d,n,m,e,sz,imm⟩=none:=by
       rw [HC,xZ.out,HF.out]
       have e1:encL (f::(ls.drop (k+1)).filterMap fl) W r=none:=by
        show (if fitF f (r.get f.idx)=true then _ else _)=_
        rw [Hx.out,if_neg y9]
       rw [e1]
      rw [DU] at HV HE
      have v1:=HV.out
      have e1:=HE.out
      simp at v1 e1
      subst v1 e1
      rw [(by simpa using y9:fitF f x=false)] at FI
      clear HC DU HV HE PU y9 MA
      go_wp2_with (first
       |(go_at_call 82;refine (PL.out _).mono ?_;rintro e w1 ⟨rfl,p2,rfl⟩)
       |(go_at_call 84;refine (AT.out _ _).mono ?_;rintro e w1 ⟨rfl,p3,rfl⟩))
      refine aD Zb Zb ?_
      repeat (go_big_quiet_step (first|(go_at_call 123;exact ay (FI.out _))))
      refine zaE ?_
      intro p4
      go_wp2
      go_ret2
      exact Gives.mk rfl (by repeat (first|exact Ck.out.1|exact zaa _ _|refine aF ?_ _|refine ab ?_ _))
   ·have hd:ls.drop k=[]:=by rw [List.drop_eq_nil_iff];omega
    have AV:enc ⟨op,d,n,m,e,sz,imm⟩=if restB op r=true then some W else none:=by
     rw [HC,xZ.out,hd]
     rfl
    obtain ⟨r0,r1,r2,r3,r4,r5,r6⟩:=r
    have c0:wr.cell? ⟨R,0,none⟩=some (iI r0):=(i6 0 Za).1
    have c1:wr.cell? ⟨R,1,none⟩=some (iI r1):=(i6 1 Za).1
    have c2:wr.cell? ⟨R,2,none⟩=some (iI r2):=(i6 2 Za).1
    have c3:wr.cell? ⟨R,3,none⟩=some (iI r3):=(i6 3 Za).1
    have c4:wr.cell? ⟨R,4,none⟩=some (iI r4):=(i6 4 Za).1
    have c5:wr.cell? ⟨R,5,none⟩=some (iI r5):=(i6 5 Za).1
    have c6:wr.cell? ⟨R,6,none⟩=some (iI r6):=(i6 6 Za).1
    clear i6 HC xZ AF F9
    by_cases hr:restB op ⟨r0,r1,r2,r3,r4,r5,r6⟩=true
    ·rw [AV,if_pos hr] at HV HE
     have v1:=HV.out
     have e1:=HE.out
     simp at v1 e1
     subst v1 e1
     have hz:=(fZ _ _).1 hr
     cases hz
     clear AV hr HV HE
     go_wp2_with fail
     all_goals (go_ret2;exact Gives.mk rfl (by repeat (first|exact Ck.out.1|exact zaa _ _|refine aF ?_ _|refine ab ?_ _)))
    ·rw [AV,if_neg hr] at HV HE
     have v1:=HV.out
     have e1:=HE.out
     simp at v1 e1
     subst v1 e1
     have hz: ¬(r0=op/\r1=0/\r2=0/\r3=0/\r4=0/\r5=0/\r6=0):=by
      intro h
      obtain ⟨rfl,rfl,rfl,rfl,rfl,rfl,rfl⟩:=h
      exact hr (by simp [restB])
     clear AV hr HV HE
     go_wp2_with fail
     all_goals (go_ret2;exact Gives.mk rfl (by repeat (first|exact Ck.out.1|exact zaa _ _|refine aF ?_ _|refine ab ?_ _)))
def insV(r:Ins):qV:= .agg #[iI r.op,iI r.d,iI r.n,iI r.m,iI r.e,iI r.sz,iI r.imm]
end Go.Proofs.YtcekjfmfcefjpaaGreatDoor
namespace Go.Proofs.YtcekjfmfcefjpaaGreatDoor
open Go.RowKit
theorem wH(n:Int)(h:n<1):mask n=0:=by
 unfold mask cA
 rw [show n.toNat=0 by omega]
 rfl
theorem wJ(n:Int)(h:64<=n):mask n=18446744073709551615:=by
 unfold mask cA
 rw [show min n.toNat 64=64 by omega]
theorem wI(n:Int)(h:1<=n)(h2:n<64):IntKind.u64.wrap (IntKind.u64.wrap (2^n.toNat)-1)=(mask n:Int):=by
 have h3:2^n.toNat<=2^63:=zaQ Zg Za
 have h4:0<2^n.toNat:=Nat.two_pow_pos _
 have e:((2:Int)^n.toNat)=((2^n.toNat:Nat):Int):=by simp
 unfold mask cA
 rw [show min n.toNat 64=n.toNat by omega,IntKind.wrap_u64,IntKind.wrap_u64,e]
 generalize 2^n.toNat=t at*
 omega
theorem eg{k:IntKind}{a b:Int}(h:a=b):Ending.returned (.int k a)= .returned (.int k b):=by rw [h]
theorem dS(n:Int)(h0: -9223372036854775808<=n)(h1:n<=9223372036854775807)(w:qW):
  qC 48 #[iI n] w fun e w'=>e= .returned (.int .u64 (mask n))/\w=w':=by
 by_cases hn:n<1
 ·have H:=Zh (wH n hn)
  go_enter Tryz.func48,Tryz.ntmps48
  go_wp2
  go_ret
  exact ⟨eg (by rw [H.out];rfl),rfl⟩
 by_cases hm:64<=n
 ·have H:=Zh (wJ n hm)
  go_enter Tryz.func48,Tryz.ntmps48
  go_wp2
  go_ret
  exact ⟨eg (by rw [H.out];rfl),rfl⟩
 ·have H:=Zh (wI n Za Za)
  go_enter Tryz.func48,Tryz.ntmps48
  go_wp2
  go_ret
  exact ⟨eg H.out,rfl⟩
theorem ybH(p:Int)(w:qW)(h:0<=p)(h2:p<64):
  qC 128 #[iI p] w fun e w'=>e= .returned (.bool true)/\w=w':=by
 go_enter Tryz.func128,Tryz.ntmps128
 go_wp2
 go_ret
 exact ⟨rfl,rfl⟩
theorem ybI(p:Int)(w:qW)(h:p<0\/64<=p):
  qC 128 #[iI p] w fun e w'=>e= .returned (.bool false)/\w=w':=by
 rcases Int.lt_or_le p 0 with h1|h1
 ·clear h
  go_enter Tryz.func128,Tryz.ntmps128
  go_wp2
  go_ret
  exact ⟨rfl,rfl⟩
 ·have h2: ¬p<64:=by omega
  clear h
  go_enter Tryz.func128,Tryz.ntmps128
  go_wp2
  go_ret
  exact ⟨rfl,rfl⟩
theorem lx(x p:Nat):(x:Int)*2^p=((x*2^p:Nat):Int):=by
 rw [Int.natCast_mul];simp
theorem iM(x:Nat):IntKind.u64.wrap (x:Int)=((x%18446744073709551616:Nat):Int):=by
 rw [IntKind.wrap_u64];omega
theorem sP(x v:Nat)(p n:Int)(hx:x<18446744073709551616)(hv:v<18446744073709551616)(h2:0<=p)(h3:p<64):
  bits BinOp.or IntKind.u64 (bits BinOp.andNot IntKind.u64 (↑x) (IntKind.u64.wrap (↑(mask n)*2^p.toNat))) (IntKind.u64.wrap (bits BinOp.and IntKind.u64 ↑v ↑(mask n)*2^p.toNat))=(putN x p n v:Int):=by
 have hm: ∀y:Nat,y%18446744073709551616<18446744073709551616:=fun y=>zaL _ Zg
 rw [u64_and_nat _ _ hv (fi n),lx,lx,iM,iM,u64_andNot_nat _ _ hx (hm _),u64_or_nat _ _ (Nat.lt_of_le_of_lt Nat.and_le_left hx) (hm _)]
 unfold putN
 rw [if_pos ⟨h2,h3⟩]
theorem yeq(x v:Nat)(p n:Int)(hx:x<2^64)(hv:v<2^64)(h0: -9223372036854775808<=n)(h1:n<=9223372036854775807)(w:qW):
  qC 91 #[.int .u64 x,iI p,iI n,.int .u64 v] w fun e w'=>e= .returned (.int .u64 (putN x p n v))/\Drew w w':=by
 by_cases hp:0<=p/\p<64
 ·have H:=Zh (sP x v p n hx hv hp.1 hp.2)
  obtain ⟨h2,h3⟩:=hp
  clear hx hv
  go_enter Tryz.func91,Tryz.ntmps91
  go_wp2_with (go_at_call 128;refine (ybH _ _ Za Za).mono ?_;rintro e w' ⟨rfl,rfl⟩)
  go_quiet ((go_at_call 48;exact sw (dS _ Za Za _)))
  go_wp2
  go_ret
  exact ⟨eg H.out,Drew.mk_ _ _⟩
 ·have H:Hid (putN x p n v=x):=by unfold putN;rw [if_neg hp];exact Zh rfl
  have h4:p<0\/64<=p:=by omega
  have H4:=Zh h4
  clear hp h4 hx hv
  go_enter Tryz.func91,Tryz.ntmps91
  go_wp2_with (go_at_call 128;refine (ybI _ _ H4.out).mono ?_;rintro e w' ⟨rfl,rfl⟩)
  go_ret
  exact ⟨eg (by rw [H.out]),Drew.refl _⟩
end Go.Proofs.YtcekjfmfcefjpaaGreatDoor
