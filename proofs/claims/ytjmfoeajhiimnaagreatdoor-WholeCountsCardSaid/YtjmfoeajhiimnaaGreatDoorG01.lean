/- Walks. No condition. -/
import Derived.Laws.StructEq
import Derived.ProofKit
import Derived.OpenShut
import Derived.Laws.BitsAllLaws
import Derived.Test.YtjmfoeajhiimnaaGreatDoorG00
set_option maxRecDepth 100000
set_option maxHeartbeats 0
set_option linter.all false
namespace Go.Proofs.YtjmfoeajhiimnaaGreatDoor
section
open Go.RowKit Go.Sort
def meetsB(a l b m:Int):Bool:=!(bLo (loI a l) (hiI a l) (loI b m) (hiI b m)==bHi (loI a l) (hiI a l) (loI b m) (hiI b m))
theorem ye0{W w:qW}(h:Below W.heap.size W w)(d:Nat)(os:Array Obj):Below W.heap.size W (grow (redrawn w d) os):=bR h (below_regrown w d os)
theorem yas(a l b m:Int)(w:qW):
  qC 164 #[.agg #[iI a,iI l],.agg #[iI b,iI m]] w fun e w'=>e= .returned (.bool (meetsB a l b m))/\Below w.heap.size w w':=by
 go_enter Tryz.func164,Tryz.ntmps164
 go_wp2_with fail
 obtain ⟨w0,zj⟩: ∃w0,w0=(w.alloc (.cells #[iI a,iI l] 67)).alloc (.cells #[iI b,iI m] 67):=⟨_,rfl⟩
 have k0:=cell_regrown (w:=w0) (a:=⟨w.heap.size,0,none⟩) (v:=iI a) (by rw [zj];simp)
 have k1:=cell_regrown (w:=w0) (a:=⟨w.heap.size,1,none⟩) (v:=iI l) (by rw [zj];simp)
 have k2:=cell_regrown (w:=w0) (a:=⟨w.heap.size+1,0,none⟩) (v:=iI b) (by rw [zj];simp)
 have k3:=cell_regrown (w:=w0) (a:=⟨w.heap.size+1,1,none⟩) (v:=iI m) (by rw [zj];simp)
 rw [<-zj]
 have HW:=Zh zj
 clear zj
 refine wp_region_quiet_below Zb Zb ?_
 repeat (go_big_quiet_step (first|(go_at_call 225;exact Calls.regrown_of (fm _ _ _))|(go_at_call 227;exact Calls.regrown_of (iK _ _ _ _ _))|(go_at_call 226;exact Calls.regrown_of (iz _ _ _))))
 refine zaE ?_
 intro _ Az
 obtain ⟨⟨dq,osq⟩,BJ⟩:=Az
 subst BJ
 go_wp2
 go_ret
 exact ⟨rfl,by rw [HW.out];exact ye0 (((zaa _ _).alloc (zaq _) _).alloc Zg _) _ _⟩
theorem mv:Tryz.prog.eqGuardType Tryz.prog.depth 354=false:=by kernel_rfl
theorem ql:Tryz.prog.stoodInHeld 354=false:=by kernel_rfl
theorem na(a b c d:Int)(w:qW):(binOp .eql 354 (.agg #[iI a,iI b]) (.agg #[iI c,iI d])).run Tryz.prog w= .ok (.bool (a==c&&b==d)) w:=by
 have h1:=ql
 by_cases h:a=c<;>by_cases k:b=d<;>simp [go_sem,h1,h,k]
def withinB(a l b m:Int):Bool:=loI a l==hiI a l||(bLo (loI a l) (hiI a l) (loI b m) (hiI b m)==loI a l&&bHi (loI a l) (hiI a l) (loI b m) (hiI b m)==hiI a l)
theorem o8(a l b m:Int)(w:qW):
  qC 161 #[.agg #[iI a,iI l],.agg #[iI b,iI m]] w fun e w'=>e= .returned (.bool (withinB a l b m))/\Below w.heap.size w w':=by
 have A1:=Zh (fm a l)
 cases he:(loI a l==hiI a l)
 ·have H:Hid (withinB a l b m=(bLo (loI a l) (hiI a l) (loI b m) (hiI b m)==loI a l&&bHi (loI a l) (hiI a l) (loI b m) (hiI b m)==hiI a l)):=by unfold withinB;rw [he];exact Zh rfl
  have e1:=iz (loI a l) (hiI a l)
  rw [he] at e1
  have E1:=Zh e1
  clear e1
  go_enter Tryz.func161,Tryz.ntmps161
  go_wp2_with fail
  refine (A1.out _).mono ?_
  rintro e w1 ⟨rfl,hb⟩
  have d2:=hb.cell (p:=⟨w.heap.size+1,0,none⟩) Zg
  have d3:=hb.cell (p:=⟨w.heap.size+1,1,none⟩) Zg
  simp at d2 d3
  have hz:w.heap.size+1<w1.heap.size:=by have:=hb.size;simp at this;omega
  have HB:=Zh (cW (cW hb))
  clear hb
  go_wp2_with fail
  obtain ⟨w0,zj⟩: ∃w0,w0=w1.alloc (.cells #[iI (loI a l),iI (hiI a l)] 354):=⟨_,rfl⟩
  have k0:=cell_regrown (w:=w0) (a:=⟨w1.heap.size,0,none⟩) (v:=iI (loI a l)) (by rw [zj];simp)
  have k1:=cell_regrown (w:=w0) (a:=⟨w1.heap.size,1,none⟩) (v:=iI (hiI a l)) (by rw [zj];simp)
  have k2:=cell_regrown (w:=w0) (a:=⟨w.heap.size+1,0,none⟩) (v:=iI b) (by rw [zj,World.cell?_alloc_lt _ _ _ hz];exact d2)
  have k3:=cell_regrown (w:=w0) (a:=⟨w.heap.size+1,1,none⟩) (v:=iI m) (by rw [zj,World.cell?_alloc_lt _ _ _ hz];exact d3)
  rw [<-zj]
  have HW:=Zh zj
  clear zj d2 d3 hz
  have hq:=na
  have hg:=mv
  refine wp_region_quiet_below Zb Zb ?_
  repeat (go_big_quiet_step (first|(go_at_call 225;exact Calls.regrown_of (fm _ _ _))|(go_at_call 227;exact Calls.regrown_of (iK _ _ _ _ _))|(go_at_call 226;exact Calls.regrown_of (E1.out _))))
  refine zaE ?_
  intro _ Az
  obtain ⟨⟨dq,osq⟩,BJ⟩:=Az
  subst BJ
  go_wp2
  go_ret
  exact ⟨db (by rw [H.out]),by rw [HW.out];exact bR (HB.out.alloc HB.out.size _) (below_regrown _ _ _)⟩
 ·have H:Hid (withinB a l b m=true):=by unfold withinB;rw [he];exact Zh rfl
  have e1:=iz (loI a l) (hiI a l)
  rw [he] at e1
  have E1:=Zh e1
  clear e1
  go_enter Tryz.func161,Tryz.ntmps161
  go_wp2_with fail
  refine (A1.out _).mono ?_
  rintro e w1 ⟨rfl,hb⟩
  have d2:=hb.cell (p:=⟨w.heap.size+1,0,none⟩) Zg
  have d3:=hb.cell (p:=⟨w.heap.size+1,1,none⟩) Zg
  simp at d2 d3
  have hz:w.heap.size+1<w1.heap.size:=by have:=hb.size;simp at this;omega
  have HB:=Zh (cW (cW hb))
  clear hb
  go_wp2_with fail
  obtain ⟨w0,zj⟩: ∃w0,w0=w1.alloc (.cells #[iI (loI a l),iI (hiI a l)] 354):=⟨_,rfl⟩
  have k0:=cell_regrown (w:=w0) (a:=⟨w1.heap.size,0,none⟩) (v:=iI (loI a l)) (by rw [zj];simp)
  have k1:=cell_regrown (w:=w0) (a:=⟨w1.heap.size,1,none⟩) (v:=iI (hiI a l)) (by rw [zj];simp)
  have k2:=cell_regrown (w:=w0) (a:=⟨w.heap.size+1,0,none⟩) (v:=iI b) (by rw [zj,World.cell?_alloc_lt _ _ _ hz];exact d2)
  have k3:=cell_regrown (w:=w0) (a:=⟨w.heap.size+1,1,none⟩) (v:=iI m) (by rw [zj,World.cell?_alloc_lt _ _ _ hz];exact d3)
  rw [<-zj]
  have HW:=Zh zj
  clear zj d2 d3 hz
  have hq:=na
  have hg:=mv
  refine wp_region_quiet_below Zb Zb ?_
  repeat (go_big_quiet_step (first|(go_at_call 225;exact Calls.regrown_of (fm _ _ _))|(go_at_call 227;exact Calls.regrown_of (iK _ _ _ _ _))|(go_at_call 226;exact Calls.regrown_of (E1.out _))))
  refine zaE ?_
  intro _ Az
  obtain ⟨⟨dq,osq⟩,BJ⟩:=Az
  subst BJ
  go_wp2
  go_ret
  exact ⟨db (by rw [H.out]),by rw [HW.out];exact bR (HB.out.alloc HB.out.size _) (below_regrown _ _ _)⟩
end
section
open Go.ChangeShapes Go.WideShapes Go.ChangeAt Go.RowKit
section
variable{H:Type}{enc:TypeId×qV->H}{P:Program}
theorem jg(hl:laidOutB P=true){W W':qW}(hb:Below W.heap.size W W'): ∀{ts:List TypeId} {vs:List qV} {ds:List (DataW H)} {ps:List MemPlace},
  (ts.all fun t=>P.readableRec t&&decide (t<P.types.size))=true->DataW.TrodAll enc P W 0 (fun _=>true) true ts vs ds ps->(∀x∈ps,x.block<W.heap.size)->
  DataW.TrodAll enc P W' 0 (fun b=>decide (b<W.heap.size)) true ts vs ds ps
 |[],_,_,_,_,h,_=>by
  obtain ⟨rfl,rfl,rfl⟩:=trodAll_nil h
  exact trodAll_mk0
 |t::ts,_,_,_,hr,h,xe=>by
  obtain ⟨v,vs',d,ds',p,q,rfl,rfl,rfl,h0,h1⟩:=trodAll_cons h
  simp only [List.all_cons,za0,zau] at hr
  exact trodAll_cons_mk (Below.trod hl hr.1.1 hr.1.2 h0 hb fun x hx=>xe x (List.mem_append_left _ hx)) (jg hl hb hr.2 h1 fun x hx=>xe x (List.mem_append_right _ hx))
theorem yaU{f:Func}{s:ChangeSpec}{apart fresh Dq:Bool}{W W':qW}{args:Array qV}{ds gs:List (DataW H)}{before:List MemPlace}{tb:TypeId}
  (hW:DataW.Whole enc P f.params.toList s.vars apart W args.toList ds gs before) (hs:s.vars=[]) (pi:(s.fn H (ds++gs)).results=[.lit (.bool true)]) (OM:(s.fn H (ds++gs)).args=ds)
  (OJ:(s.fn H (ds++gs)).vars=[]) (hl:laidOutB P=true) (F8:(f.params.toList.all fun t=>P.readableRec t&&decide (t<P.types.size))=true)
  (NV:f.resultTypes=#[tb]) (Jx:P.underlying tb=some .bool) (hb:Below W.heap.size W W'):s.post enc P f apart fresh Dq false W args (.bool true) W':=by
 have xe:=hW.lt
 obtain ⟨p,q,hA,hV,rfl,_,_⟩:=hW
 have Pe:=hV
 rw [hs] at hV
 cases gs with
 |cons g gs=>exact absurd hV (by simp [DataW.TrodVars])
 |nil=>
  have hq:q=[]:=hV
  subst hq
  refine ⟨ds,[],_,[],p,[],⟨p,[],hA,Pe,rfl,‹_›,‹_›⟩,?_,?_,?_,hb.frame _,fun h=>by cases h⟩
  ·rw [pi,NV]
   exact trodAll_cons_mk (shut_bool Jx _) trodAll_mk0
  ·rw [OM]
   exact jg hl hb F8 hA fun x hx=>xe x (List.mem_append_left _ hx)
  ·rw [OJ,hs]
   rfl
end
theorem gH{n:Int}(h:(Lit.int .u8 n).wf=true): ∃m:Nat,n=m/\m<256:=by
 have h1:0<=n/\n<=255:=by simpa [Lit.wf,IntKind.min,IntKind.max,IntKind.bits,IntKind.signed] using h
 exact ⟨n.toNat,by omega,by omega⟩
theorem ki{n:Int}(h:(Lit.int .i64 n).wf=true): -9223372036854775808<=n/\n<=9223372036854775807:=bounds_i64 h
end
section
structure Ins where
 op:Int
 d:Int
 n:Int
 m:Int
 e:Int
 sz:Int
 imm:Int
def Ins.get(r:Ins)(k:Nat):Int:=match k with
 |0=>r.op
 |1=>r.d
 |2=>r.n
 |3=>r.m
 |4=>r.e
 |5=>r.sz
 |_=>r.imm
def Ins.set(r:Ins)(k:Nat)(x:Int):Ins:=match k with
 |0=>{r with op:=x}
 |1=>{r with d:=x}
 |2=>{r with n:=x}
 |3=>{r with m:=x}
 |4=>{r with e:=x}
 |5=>{r with sz:=x}
 |_=>{r with imm:=x}
def Ins.zero(op:Int):Ins:=⟨op,0,0,0,0,0,0⟩
theorem Ins.ext7{a b:Ins}(h: ∀k,k<7->a.get k=b.get k):a=b:=by
 obtain ⟨a0,a1,a2,a3,a4,a5,a6⟩:=a
 obtain ⟨b0,b1,b2,b3,b4,b5,b6⟩:=b
 have h0:a0=b0:=h 0 Za
 have h1:a1=b1:=h 1 Za
 have h2:a2=b2:=h 2 Za
 have h3:a3=b3:=h 3 Za
 have h4:a4=b4:=h 4 Za
 have h5:a5=b5:=h 5 Za
 have h6:a6=b6:=h 6 Za
 subst h0 h1 h2 h3 h4 h5 h6
 rfl
theorem Ins.get_set(r:Ins)(a b:Nat)(x:Int)(ha:a<7)(hb:b<7):(r.set a x).get b=if a=b then x else r.get b:=by
 match a,ha with
 |0,_|1,_|2,_|3,_|4,_|5,_|6,_=>
  match b,hb with
  |0,_|1,_|2,_|3,_|4,_|5,_|6,_=>rfl
theorem Ins.zero_get(op:Int)(k:Nat)(h:k<7):(Ins.zero op).get k=if k=0 then op else 0:=by
 match k,h with
 |0,_|1,_|2,_|3,_|4,_|5,_|6,_=>rfl
structure Fl where
 lo:Nat
 n:Nat
 idx:Nat
 kd:Nat
 most:Nat
def fitF(f:Fl)(x:Int):Bool:=if f.kd=1 then decide (-(2^(f.n-1):Nat)<=x)&&decide (x<(2^(f.n-1):Nat)) else decide (0<=x)&&decide (x<=f.most)
def barN(x:Int):Nat:=if x=0 then 11 else if x=1 then 9 else 10
def turnN(v:Nat):Nat:=if v%2=0 then v+1 else v-1
def putF(f:Fl)(x:Int):Nat:=if f.kd=1 then (x%(2^f.n:Nat)).toNat else if f.kd=2 then turnN x.toNat else if f.kd=3 then barN x else x.toNat
def getF(f:Fl)(v:Nat):Option Int:=
 if f.kd=3 then (if v=11 then some 0 else if v=9 then some 1 else if v=10 then some 2 else none)
 else if f.kd=1 then some (if 2^(f.n-1)<=v then (v:Int)-(2^f.n:Nat) else v)
 else if f.kd=2 then some (turnN v) else if v<=f.most then some v else none
def fl(c:Nat):Option Fl:=
 if c=100 then some ⟨0,5,1,0,31⟩ else if c=110 then some ⟨5,5,2,0,31⟩ else if c=97 then some ⟨5,5,2,0,30⟩ else if c=109 then some ⟨16,5,3,0,31⟩
 else if c=101 then some ⟨10,5,4,0,31⟩ else if c=113 then some ⟨21,2,4,0,3⟩ else if c=99 then some ⟨0,2,4,0,3⟩ else if c=107 then some ⟨12,2,4,2,3⟩
 else if c=115 then some ⟨30,2,5,0,3⟩ else if c=105 then some ⟨5,16,6,0,65535⟩ else if c=111 then some ⟨10,12,6,0,4095⟩ else if c=98 then some ⟨0,26,6,1,0⟩
 else if c=120 then some ⟨5,19,6,1,0⟩ else if c=102 then some ⟨8,4,6,3,2⟩ else none
structure FlOk(f:Fl):Prop where
 idx:0<f.idx/\f.idx<7
 hi:f.lo+f.n<=32
 lt: ∀x,fitF f x=true->putF f x<2^f.n
 back: ∀x,fitF f x=true->getF f (putF f x)=some x
 fit: ∀v x,v<2^f.n->getF f v=some x->fitF f x=true/\putF f x=v
theorem cu(lo n idx most:Nat)(h1:0<idx/\idx<7)(h2:lo+n<=32)(h3:most<2^n):FlOk ⟨lo,n,idx,0,most⟩:=by
 refine ⟨h1,h2,fun x h=>?_,fun x h=>?_,fun v x hv h=>?_⟩
 ·simp [fitF] at h
  simp [putF]
  omega
 ·simp [fitF] at h
  simp [getF,putF]
  omega
 ·simp [getF] at h
  obtain ⟨h4,rfl⟩:=h
  simp [fitF,putF]
  omega
theorem yc8:FlOk ⟨12,2,4,2,3⟩:=by
 refine ⟨by simp,by simp,fun x h=>?_,fun x h=>?_,fun v x hv h=>?_⟩
 ·simp [fitF] at h
  have:x=0\/x=1\/x=2\/x=3:=by omega
  rcases this with rfl|rfl|rfl|rfl<;>decide
 ·simp [fitF] at h
  have:x=0\/x=1\/x=2\/x=3:=by omega
  rcases this with rfl|rfl|rfl|rfl<;>decide
 ·have:v=0\/v=1\/v=2\/v=3:=by simp at hv;omega
  rcases this with rfl|rfl|rfl|rfl<;>simp [getF,turnN] at h<;>subst h<;>decide
theorem yda:FlOk ⟨0,26,6,1,0⟩:=by
 refine ⟨by simp,by simp,fun x h=>?_,fun x h=>?_,fun v x hv h=>?_⟩
 ·simp [fitF] at h
  simp [putF]
  omega
 ·simp [fitF] at h
  simp only [getF,putF]
  simp
  omega
 ·simp only [getF] at h
  simp at h hv
  simp [fitF,putF]
  omega
theorem yc7:FlOk ⟨5,19,6,1,0⟩:=by
 refine ⟨by simp,by simp,fun x h=>?_,fun x h=>?_,fun v x hv h=>?_⟩
 ·simp [fitF] at h
  simp [putF]
  omega
 ·simp [fitF] at h
  simp only [getF,putF]
  simp
  omega
 ·simp only [getF] at h
  simp at h hv
  simp [fitF,putF]
  omega
theorem yc9:FlOk ⟨8,4,6,3,2⟩:=by
 refine ⟨by simp,by simp,fun x h=>?_,fun x h=>?_,fun v x hv h=>?_⟩
 ·simp [fitF] at h
  have:x=0\/x=1\/x=2:=by omega
  rcases this with rfl|rfl|rfl<;>decide
 ·simp [fitF] at h
  have:x=0\/x=1\/x=2:=by omega
  rcases this with rfl|rfl|rfl<;>decide
 ·simp only [getF] at h
  simp at h
  split at h
  ·simp at h;subst h;subst v;decide
  ·split at h
   ·simp at h;subst h;subst v;decide
   ·simp at h;obtain ⟨rfl,rfl⟩:=h;decide
theorem aO(c:Nat)(f:Fl)(h:fl c=some f):FlOk f:=by
 unfold fl at h
 by_cases xT:c=100
 ·rw [if_pos xT] at h
  cases h
  exact cu _ _ _ _ Za Za Za
 rw [if_neg xT] at h
 by_cases xN:c=110
 ·rw [if_pos xN] at h
  cases h
  exact cu _ _ _ _ Za Za Za
 rw [if_neg xN] at h
 by_cases zc:c=97
 ·rw [if_pos zc] at h
  cases h
  exact cu _ _ _ _ Za Za Za
 rw [if_neg zc] at h
 by_cases xO:c=109
 ·rw [if_pos xO] at h
  cases h
  exact cu _ _ _ _ Za Za Za
 rw [if_neg xO] at h
 by_cases xS:c=101
 ·rw [if_pos xS] at h
  cases h
  exact cu _ _ _ _ Za Za Za
 rw [if_neg xS] at h
 by_cases xL:c=113
 ·rw [if_pos xL] at h
  cases h
  exact cu _ _ _ _ Za Za Za
 rw [if_neg xL] at h
 by_cases y':c=99
 ·rw [if_pos y'] at h
  cases h
  exact cu _ _ _ _ Za Za Za
 rw [if_neg y'] at h
 by_cases xP:c=107
 ·rw [if_pos xP] at h
  cases h
  exact yc8
 rw [if_neg xP] at h
 by_cases xK:c=115
 ·rw [if_pos xK] at h
  cases h
  exact cu _ _ _ _ Za Za Za
 rw [if_neg xK] at h
 by_cases xQ:c=105
 ·rw [if_pos xQ] at h
  cases h
  exact cu _ _ _ _ Za Za Za
 rw [if_neg xQ] at h
 by_cases xM:c=111
 ·rw [if_pos xM] at h
  cases h
  exact cu _ _ _ _ Za Za Za
 rw [if_neg xM] at h
 by_cases za:c=98
 ·rw [if_pos za] at h
  cases h
  exact yda
 rw [if_neg za] at h
 by_cases xJ:c=120
 ·rw [if_pos xJ] at h
  cases h
  exact yc7
 rw [if_neg xJ] at h
 by_cases xR:c=102
 ·rw [if_pos xR] at h
  cases h
  exact yc9
 rw [if_neg xR] at h
 cases h
def ovr(w lo n v:Nat):Nat:=2^lo*(2^n*(w/2^(lo+n))+v)+w%2^lo
theorem fj(w lo n v j:Nat)(hv:v<2^n):(ovr w lo n v).testBit j=if lo<=j/\j<lo+n then v.testBit (j-lo) else w.testBit j:=by
 unfold ovr
 rw [Nat.testBit_two_pow_mul_add _ (zaL _ (Nat.two_pow_pos lo)),Nat.testBit_two_pow_mul_add _ hv]
 by_cases h1:j<lo
 ·rw [if_pos h1,if_neg Za,Nat.testBit_mod_two_pow]
  simp [h1]
 ·rw [if_neg h1]
  by_cases h2:j<lo+n
  ·rw [if_pos Za,if_pos Za]
  ·rw [if_neg Za,if_neg Za,Nat.testBit_div_two_pow]
   congr 1
   omega
theorem fy(w lo n j:Nat):(w/2^lo%2^n).testBit j=(decide (j<n)&&w.testBit (lo+j)):=by
 rw [Nat.testBit_mod_two_pow,Nat.testBit_div_two_pow,Nat.add_comm]
def Covers(f:Fl)(j:Nat):Prop:=f.lo<=j/\j<f.lo+f.n
def dB(f g:Fl):Prop:=(f.lo+f.n<=g.lo\/g.lo+g.n<=f.lo)/\f.idx≠g.idx
def ovrL(V:Fl->Nat):List Fl->Nat->Nat
 |[],w=>w
 |f::l,w=>ovrL V l (ovr w f.lo f.n (V f))
theorem dM(V:Fl->Nat)(j:Nat): ∀(l:List Fl) (w:Nat),(∀f∈l,V f<2^f.n)->(∀f∈l,¬Covers f j)->(ovrL V l w).testBit j=w.testBit j
 |[],w,_,_=>rfl
 |f::l,w,hv,h=>by
  unfold ovrL
  rw [dM V j l _ (fun g hg=>hv g (zaK _ hg)) (fun g hg=>h g (zaK _ hg)),fj _ _ _ _ _ (hv f za3),if_neg (show¬(f.lo<=j/\j<f.lo+f.n) from h f za3)]
theorem fk(V:Fl->Nat)(j:Nat): ∀(l:List Fl) (w:Nat),(∀f∈l,V f<2^f.n)->l.Pairwise dB-> ∀f∈l,Covers f j->(ovrL V l w).testBit j=(V f).testBit (j-f.lo)
 |[],w,_,_,f,hf,_=>by cases hf
 |g::l,w,hv,hp,f,hf,hc=>by
  unfold ovrL
  rw [List.pairwise_cons] at hp
  rcases List.mem_cons.mp hf with rfl|hf
  ·rw [dM V j l _ (fun g hg=>hv g (zaK _ hg)) (fun g hg OU=>by
    have:=(hp.1 g hg).1
    unfold Covers at hc OU
    omega),fj _ _ _ _ _ (hv f za3),if_pos (show f.lo<=j/\j<f.lo+f.n from hc)]
  ·exact fk V j l _ (fun g hg=>hv g (zaK _ hg)) hp.2 f hf hc
def encL:List Fl->Nat->Ins->Option (Nat×Ins)
 |[],w,r=>some (w,r)
 |f::l,w,r=>if fitF f (r.get f.idx)=true then encL l (ovr w f.lo f.n (putF f (r.get f.idx))) (r.set f.idx 0) else none
def decL(w0 sb:Nat):List Fl->Ins->Nat->Option (Ins×Nat)
 |[],out,b=>some (out,b)
 |f::l,out,b=>match getF f (w0/2^f.lo%2^f.n) with
  |some x=>decL w0 sb l (out.set f.idx x) (ovr b f.lo f.n (sb/2^f.lo%2^f.n))
  |none=>none
theorem iy: ∀(l:List Fl) (w:Nat) (r:Ins),(∀f∈l,FlOk f)->l.Pairwise dB-> ∀w' r',encL l w r=some (w',r')↔
  (∀f∈l,fitF f (r.get f.idx)=true)/\w'=ovrL (fun f=>putF f (r.get f.idx)) l w/\(∀k,k<7->r'.get k=if∃f∈l,f.idx=k then 0 else r.get k)
 |[],w,r,_,_,w',r'=>by
  unfold encL ovrL
  constructor
  ·intro h
   cases h
   exact ⟨fun f hf=>(by cases hf),rfl,fun k hk=>by simp⟩
  ·rintro ⟨_,rfl,h⟩
   have e:r=r':=Ins.ext7 fun k hk=>by rw [h k hk];simp
   rw [e]
 |f::l,w,r,ho,hp,w',r'=>by
  rw [List.pairwise_cons] at hp
  have hf:=ho f za3
  have hne: ∀g∈l,(r.set f.idx 0).get g.idx=r.get g.idx:=fun g hg=>by
   rw [Ins.get_set _ _ _ _ hf.idx.2 (ho g (zaK _ hg)).idx.2,if_neg (hp.1 g hg).2]
  have hV: ∀w,ovrL (fun g=>putF g ((r.set f.idx 0).get g.idx)) l w=ovrL (fun g=>putF g (r.get g.idx)) l w:=by
   have: ∀(l2:List Fl) (V V2:Fl->Nat),(∀g∈l2,V g=V2 g)-> ∀w,ovrL V l2 w=ovrL V2 l2 w:=by
    intro l2
    induction l2 with
    |nil=>intro V V2 _ w;rfl
    |cons a l2 ih=>
     intro V V2 h w
     unfold ovrL
     rw [h a za3]
     exact ih V V2 (fun g hg=>h g (zaK _ hg)) _
   exact this l _ _ fun g hg=>by rw [hne g hg]
  unfold encL
  by_cases h0:fitF f (r.get f.idx)=true
  ·rw [if_pos h0,iy l _ _ (fun g hg=>ho g (zaK _ hg)) hp.2,hV]
   constructor
   ·rintro ⟨h1,h2,h3⟩
    refine ⟨fun g hg=>?_,h2,fun k hk=>?_⟩
    ·rcases List.mem_cons.mp hg with rfl|hg
     ·exact h0
     ·rw [<-hne g hg];exact h1 g hg
    ·rw [h3 k hk,Ins.get_set _ _ _ _ hf.idx.2 hk]
     by_cases e:f.idx=k
     ·rw [if_pos e,if_pos (show∃g∈f::l,g.idx=k from ⟨f,za3,e⟩)]
      simp
     ·rw [if_neg e]
      have:(∃g∈f::l,g.idx=k)↔ ∃g∈l,g.idx=k:=by
       constructor
       ·rintro ⟨g,hg,h⟩
        rcases List.mem_cons.mp hg with rfl|hg
        ·exact absurd h e
        ·exact ⟨g,hg,h⟩
       ·rintro ⟨g,hg,h⟩
        exact ⟨g,zaK _ hg,h⟩
      simp only [this]
   ·rintro ⟨h1,h2,h3⟩
    refine ⟨fun g hg=>?_,h2,fun k hk=>?_⟩
    ·rw [hne g hg];exact h1 g (zaK _ hg)
    ·rw [h3 k hk,Ins.get_set _ _ _ _ hf.idx.2 hk]
     by_cases e:f.idx=k
     ·rw [if_pos e,if_pos (show∃g∈f::l,g.idx=k from ⟨f,za3,e⟩)]
      simp
     ·rw [if_neg e]
      have:(∃g∈f::l,g.idx=k)↔ ∃g∈l,g.idx=k:=by
       constructor
       ·rintro ⟨g,hg,h⟩
        rcases List.mem_cons.mp hg with rfl|hg
        ·exact absurd h e
        ·exact ⟨g,hg,h⟩
       ·rintro ⟨g,hg,h⟩
        exact ⟨g,zaK _ hg,h⟩
      simp only [this]
  ·rw [if_neg h0]
   constructor
   ·intro h;cases h
   ·rintro ⟨h1,_⟩
    exact absurd (h1 f za3) h0
theorem iC(w0 sb:Nat): ∀(l:List Fl) (out:Ins) (b:Nat),(∀f∈l,FlOk f)->l.Pairwise dB-> ∀out' b',decL w0 sb l out b=some (out',b')↔
  (∀f∈l,getF f (w0/2^f.lo%2^f.n)=some (out'.get f.idx))/\b'=ovrL (fun f=>sb/2^f.lo%2^f.n) l b/\(∀k,k<7->(¬ ∃f∈l,f.idx=k)->out'.get k=out.get k)
 |[],out,b,_,_,out',b'=>by
  unfold decL ovrL
  constructor
  ·intro h
   cases h
   exact ⟨fun f hf=>(by cases hf),rfl,fun k hk _=>rfl⟩
  ·rintro ⟨_,rfl,h⟩
   have e:out=out':=Ins.ext7 fun k hk=>(h k hk Zg).symm
   rw [e]
 |f::l,out,b,ho,hp,out',b'=>by
  rw [List.pairwise_cons] at hp
  have hf:=ho f za3
  have Oc: ¬ ∃g∈l,g.idx=f.idx:=fun ⟨g,hg,h⟩=>(hp.1 g hg).2 h.symm
  unfold decL
  cases hg:getF f (w0/2^f.lo%2^f.n) with
  |none=>
   simp only
   constructor
   ·intro h;cases h
   ·rintro ⟨h1,_⟩
    have:=h1 f za3
    rw [hg] at this
    cases this
  |some x=>
   simp only
   rw [iC w0 sb l _ _ (fun g hg=>ho g (zaK _ hg)) hp.2]
   constructor
   ·rintro ⟨h1,h2,h3⟩
    refine ⟨fun g Ce=>?_,h2,fun k hk hn=>?_⟩
    ·rcases List.mem_cons.mp Ce with rfl|Ce
     ·rw [hg,h3 _ hf.idx.2 Oc,Ins.get_set _ _ _ _ hf.idx.2 hf.idx.2,if_pos rfl]
     ·exact h1 g Ce
    ·rw [h3 k hk (fun ⟨g,Ce,h⟩=>hn ⟨g,zaK _ Ce,h⟩),Ins.get_set _ _ _ _ hf.idx.2 hk,if_neg (fun e=>hn ⟨f,za3,e⟩)]
   ·rintro ⟨h1,h2,h3⟩
    refine ⟨fun g Ce=>h1 g (zaK _ Ce),h2,fun k hk hn=>?_⟩
    rw [Ins.get_set _ _ _ _ hf.idx.2 hk]
    by_cases e:f.idx=k
    ·subst e
     have:=h1 f za3
     rw [hg] at this
     rw [if_pos rfl]
     exact (zae this).symm
    ·rw [if_neg e]
     refine h3 k hk fun ⟨g,Ce,h⟩=>?_
     rcases List.mem_cons.mp Ce with rfl|Ce
     ·exact e h
     ·exact hn ⟨g,Ce,h⟩
theorem ydQ(l:List Fl)(ho: ∀f∈l,FlOk f)(hp:l.Pairwise dB)(base op:Int)(sb w:Nat)(i:Ins):
  (∃b,decL w sb l (Ins.zero op) w=some (i,b)/\b=sb)↔i.op=op/\encL l sb i=some (w,Ins.zero op):=by
 rw [iy l sb i ho hp]
 constructor
 ·rintro ⟨b,h,rfl⟩
  rw [iC w b l _ _ ho hp] at h
  obtain ⟨h1,h2,h3⟩:=h
  have hz: ¬ ∃f∈l,f.idx=0:=fun ⟨f,hf,h⟩=>by have:=(ho f hf).idx.1;omega
  have yi:i.op=op:=by
   have:=h3 0 Za hz
   exact this
  have hx: ∀f∈l,fitF f (i.get f.idx)=true/\putF f (i.get f.idx)=w/2^f.lo%2^f.n:=fun f hf=>(ho f hf).fit _ _ (zaL _ (Nat.two_pow_pos _)) (h1 f hf)
  refine ⟨yi,fun f hf=>(hx f hf).1,?_,fun k hk=>?_⟩
  ·apply Nat.eq_of_testBit_eq
   intro j
   by_cases hc: ∃f∈l,Covers f j
   ·obtain ⟨f,hf,hc⟩:=hc
    rw [fk _ j l _ (fun g hg=>(ho g hg).lt _ (hx g hg).1) hp f hf hc,(hx f hf).2,fy]
    unfold Covers at hc
    rw [zaw Za,Bool.true_and]
    congr 1
    omega
   ·have hn: ∀f∈l,¬Covers f j:=fun f hf h=>hc ⟨f,hf,h⟩
    rw [dM _ j l _ (fun g hg=>(ho g hg).lt _ (hx g hg).1) hn]
    have this:b.testBit j=(ovrL (fun f=>b/2^f.lo%2^f.n) l w).testBit j:=congrArg (fun x=>Nat.testBit x j) h2
    rw [dM _ j l _ (fun g hg=>zaL _ (Nat.two_pow_pos _)) hn] at this
    exact this.symm
  ·rw [Ins.zero_get _ _ hk]
   by_cases e: ∃f∈l,f.idx=k
   ·rw [if_pos e]
    obtain ⟨f,hf,h⟩:=e
    have:=(ho f hf).idx.1
    rw [if_neg Za]
   ·rw [if_neg e,h3 k hk e,Ins.zero_get _ _ hk]
 ·rintro ⟨yi,h1,h2,h3⟩
  refine ⟨sb,?_,rfl⟩
  rw [iC w sb l _ _ ho hp]
  have xe: ∀f∈l,putF f (i.get f.idx)<2^f.n:=fun f hf=>(ho f hf).lt _ (h1 f hf)
  have hw: ∀f∈l,w/2^f.lo%2^f.n=putF f (i.get f.idx):=fun f hf=>by
   apply Nat.eq_of_testBit_eq
   intro j
   rw [fy,h2]
   by_cases hj:j<f.n
   ·rw [zaw hj,Bool.true_and,fk _ _ l _ xe hp f hf (by unfold Covers;omega)]
    congr 1
    omega
   ·rw [zax hj,zay]
    exact (Nat.testBit_lt_two_pow (zar (xe f hf) (zaQ Za Za))).symm
  refine ⟨fun f hf=>by rw [hw f hf];exact (ho f hf).back _ (h1 f hf),?_,fun k hk hn=>?_⟩
  ·apply Nat.eq_of_testBit_eq
   intro j
   have Gl: ∀f∈l,sb/2^f.lo%2^f.n<2^f.n:=fun f _=>zaL _ (Nat.two_pow_pos _)
   by_cases hc: ∃f∈l,Covers f j
   ·obtain ⟨f,hf,hc⟩:=hc
    rw [fk _ j l _ Gl hp f hf hc,fy]
    unfold Covers at hc
    rw [zaw Za,Bool.true_and]
    congr 1
    omega
   ·have hn: ∀f∈l,¬Covers f j:=fun f hf h=>hc ⟨f,hf,h⟩
    rw [dM _ j l _ Gl hn,h2,dM _ j l _ xe hn]
  ·have:=h3 k hk
   rw [if_neg hn] at this
   rw [<-this]
def shp(k:Nat):Nat×List Nat:=match k with
 |1=>(3531603968,[100,105,113])
 |2=>(4068474880,[100,105,113])
 |3=>(2332033024,[100,110,109])
 |4=>(3405774848,[100,110,109])
 |5=>(3942645760,[100,110,109])
 |6=>(2315255808,[100,110,109])
 |7=>(2852126720,[100,110,109])
 |8=>(3388997632,[100,110,109])
 |9=>(2600500224,[100,110,109])
 |10=>(2596282368,[100,110,109])
 |11=>(2596283392,[100,110,109])
 |12=>(2594113504,[100,107])
 |13=>(335544320,[98])
 |14=>(1409286144,[120,99])
 |15=>(3019898880,[100,120])
 |16=>(3036676096,[100,120])
 |17=>(960495616,[100,97,111,115])
 |18=>(956301312,[100,97,111,115])
 |19=>(148896768,[100,97,115])
 |20=>(144702464,[100,97,115])
 |21=>(140475392,[100,97,115])
 |22=>(140508160,[100,97,115])
 |23=>(134249472,[100,97,115,109])
 |24=>(134282240,[100,97,115,109])
 |25=>(3363766272,[100,97,101])
 |26=>(3363799040,[100,97,101])
 |27=>(3357540352,[100,97,101,109])
 |28=>(3357573120,[100,97,101,109])
 |29=>(3573756095,[102])
 |30=>(3573759839,[122])
 |31=>(3556769793,[105])
 |32=>(3558866944,[105])
 |_=>(0,[])
def baseN(op:Int):Nat:=if 0<=op then (shp op.toNat).1 else 0
def lets(op:Int):List Nat:=if 0<=op then (shp op.toNat).2 else []
def fls(op:Int):List Fl:=(lets op).filterMap fl
theorem fZ: ∀k,32<k->shp k=(0,[]):=by
 intro k h
 unfold shp
 split<;>first|rfl|omega
theorem eC{op:Int}(h:lets op≠[]):1<=op/\op<=32:=by
 unfold lets at h
 split at h
 ·rename_i h0
  refine ⟨?_,?_⟩
  ·rcases Nat.eq_zero_or_pos op.toNat with e|e
   ·rw [e] at h
    exact absurd rfl h
   ·omega
  ·rcases zaJ 32 op.toNat with e|e
   ·rw [fZ _ e] at h
    exact absurd rfl h
   ·omega
 ·exact absurd rfl h
def apartB(f g:Fl):Bool:=(decide (f.lo+f.n<=g.lo)||decide (g.lo+g.n<=f.lo))&&!(f.idx==g.idx)
def pairB:List Fl->Bool
 |[]=>true
 |f::l=>l.all (apartB f)&&pairB l
theorem kO: ∀l,pairB l=true->l.Pairwise dB
 |[],_=>List.Pairwise.nil
 |f::l,h=>by
  unfold pairB at h
  rw [za0] at h
  refine List.pairwise_cons.2 ⟨fun g hg=>?_,kO l h.2⟩
  have:=List.all_eq_true.1 h.1 g hg
  unfold apartB at this
  unfold dB
  simpa using this
theorem uI:(List.range 33).all (fun k=>pairB (fls k))=true:=by decide+kernel
theorem ye4:(List.range 33).all (fun k=>decide (baseN k<4294967296))=true:=by decide+kernel
theorem mz(op:Int):(fls op).Pairwise dB:=by
 by_cases h:lets op=[]
 ·unfold fls
  rw [h]
  exact List.Pairwise.nil
 ·have:=eC h
  have h2:=List.all_eq_true.1 uI op.toNat (List.mem_range.2 Za)
  have e:(op.toNat:Int)=op:=by omega
  rw [e] at h2
  exact kO _ h2
theorem mA(op:Int): ∀f∈fls op,FlOk f:=by
 intro f hf
 unfold fls at hf
 obtain ⟨c,_,hc⟩:=List.mem_filterMap.1 hf
 exact aO c f hc
theorem nZ(op:Int):baseN op<4294967296:=by
 by_cases h:0<=op/\op<=32
 ·have h2:=List.all_eq_true.1 ye4 op.toNat (List.mem_range.2 Za)
  have e:(op.toNat:Int)=op:=by omega
  rw [e] at h2
  simpa using h2
 ·unfold baseN
  split
  ·rw [fZ _ Za]
   omega
  ·omega
def restB(op:Int)(r:Ins):Bool:=r.op==op&&r.d==0&&r.n==0&&r.m==0&&r.e==0&&r.sz==0&&r.imm==0
theorem gq(op:Int)(r:Ins):restB op r=true↔r=Ins.zero op:=by
 obtain ⟨a0,a1,a2,a3,a4,a5,a6⟩:=r
 unfold restB Ins.zero
 simp [and_assoc]
def enc(i:Ins):Option Nat:=if lets i.op=[] then none else match encL (fls i.op) (baseN i.op) i with
 |some (w,r)=>if restB i.op r=true then some w else none
 |none=>none
theorem nc(i:Ins)(w:Nat):enc i=some w↔lets i.op≠[]/\encL (fls i.op) (baseN i.op) i=some (w,Ins.zero i.op):=by
 unfold enc
 by_cases h:lets i.op=[]
 ·rw [if_pos h]
  simp [h]
 ·rw [if_neg h]
  cases he:encL (fls i.op) (baseN i.op) i with
  |none=>simp
  |some q=>
   obtain ⟨v,r⟩:=q
   simp only
   by_cases hr:restB i.op r=true
   ·rw [if_pos hr]
    have:=(gq _ _).1 hr
    subst this
    simp [h]
   ·rw [if_neg hr]
    simp only [zaA,Prod.mk.injEq,reduceCtorEq,false_iff,not_and,ne_eq]
    intro _ _ e
    exact hr ((gq _ _).2 e)
def decOne(op:Int)(w:Nat):Option Ins:=match decL w (baseN op) (fls op) (Ins.zero op) w with
 |some (out,b)=>if b=baseN op then some out else none
 |none=>none
theorem ydR(op:Int)(w:Nat)(i:Ins)(yi:lets op≠[]):decOne op w=some i↔i.op=op/\enc i=some w:=by
 have h:=ydQ (fls op) (mA op) (mz op) 0 op (baseN op) w i
 have e:decOne op w=some i↔ ∃b,decL w (baseN op) (fls op) (Ins.zero op) w=some (i,b)/\b=baseN op:=by
  unfold decOne
  cases hd:decL w (baseN op) (fls op) (Ins.zero op) w with
  |none=>simp
  |some q=>
   obtain ⟨out,b⟩:=q
   simp only
   by_cases hb:b=baseN op
   ·rw [if_pos hb]
    simp [hb]
   ·rw [if_neg hb]
    simp only [reduceCtorEq,zaA,Prod.mk.injEq,false_iff,not_exists,not_and]
    rintro b' ⟨_,rfl⟩
    exact hb
 rw [e,h,nc]
 constructor
 ·rintro ⟨rfl,h2⟩
  exact ⟨rfl,yi,h2⟩
 ·rintro ⟨rfl,_,h2⟩
  exact ⟨rfl,h2⟩
def decF(w:Nat):Option Ins:=(List.range 32).findSome? (fun k=>decOne ((k+1:Nat):Int) w)
theorem yaJ: ∀k,k<32->lets ((k+1:Nat):Int)≠[]:=by decide
theorem ydP{w:Nat}{i:Ins}(h:decF w=some i):enc i=some w:=by
 unfold decF at h
 obtain ⟨k,hk,h⟩:=List.exists_of_findSome?_eq_some h
 exact ((ydR _ w i (yaJ k (List.mem_range.1 hk))).1 h).2
end
section
open Go.RowKit Go.Sort
def more(w:qW)(p:Regrown):qW:=grow (redrawn w p.d) p.os
def moreCell(w:qW)(p:Regrown)(a:Addr):Option qV:=(more w p).cell? a
def moreFrozen(w:qW)(p:Regrown)(a:Addr):Bool:=(more w p).frozen? a
theorem au(w:qW)(p:Regrown):Below w.heap.size w (more w p):=below_regrown w p.d p.os
theorem bC{w w':qW}(h:Below w.heap.size w w'): ∃p:Regrown,w'=more w p:=regrown_of_below h
@[go_sem] theorem aZ(w:qW)(p:Regrown):(more w p).heap.size=w.heap.size+p.os.size:=by simp [more,grow,redrawn]
@[go_sem] theorem dd(w:qW)(p:Regrown)(a:Addr):(more w p).cell? a=if a.block<w.heap.size then w.cell? a else moreCell w p a:=by
 split
 ·exact (au w p).cell ‹_›
 ·rfl
@[go_sem] theorem yfS(w:qW)(p:Regrown)(a:Addr):(more w p).frozen? a=if a.block<w.heap.size then w.frozen? a else moreFrozen w p a:=by
 split
 ·exact (au w p).frozen ‹_›
 ·rfl
def moreSet(w:qW)(p:Regrown)(a:Addr)(v:qV):qW:=(more w p).setCell a v
@[go_sem] theorem yfR(w:qW)(p:Regrown)(a:Addr)(v:qV):(more w p).setCell a v=if a.block<w.heap.size then more (w.setCell a v) p else moreSet w p a v:=by
 by_cases h:a.block<w.heap.size
 ·rw [if_pos h]
  unfold more grow redrawn World.setCell
  simp only
  congr 1
  apply Array.ext_getElem?
  intro k
  simp only [Array.getElem?_modify,Array.getElem?_append,Array.size_modify]
  by_cases hk:k<w.heap.size
  ·simp [hk]
  ·have: ¬a.block=k:=by omega
   simp [hk,this]
 ·rw [if_neg h];rfl
@[go_sem] theorem aV(w:qW)(c:Array qV)(t:TypeId)(n i:Nat):(w.alloc (.cells c t)).cell? ⟨n,i,none⟩=if n<w.heap.size then w.cell? ⟨n,i,none⟩ else if n=w.heap.size then c[i]? else none:=by
 by_cases h:n<w.heap.size
 ·rw [if_pos h,World.cell?_alloc_past _ _ _ h]
 ·rw [if_neg h]
  by_cases h2:n=w.heap.size
  ·rw [if_pos h2,World.cell?_alloc_at _ _ _ _ h2]
  ·rw [if_neg h2]
   have:(w.alloc (.cells c t)).heap[n]?=none:=zaW Zk
   simp [World.cell?,this]
@[go_sem] theorem d8(w:qW)(c:Array qV)(t:TypeId)(n i:Nat):(w.alloc (.cells c t)).frozen? ⟨n,i,none⟩=if n<w.heap.size then w.frozen? ⟨n,i,none⟩ else false:=by
 by_cases h:n<w.heap.size
 ·rw [if_pos h,World.frozen?_alloc_past _ _ _ h]
 ·rw [if_neg h]
  by_cases h2:n=w.heap.size
  ·exact World.frozen?_alloc_at _ _ _ _ h2
  ·have:(w.alloc (.cells c t)).heap[n]?=none:=zaW Zk
   simp [World.frozen?,this]
def allocSet(w:qW)(c:Array qV)(t:TypeId)(n i:Nat)(v:qV):qW:=(w.alloc (.cells c t)).setCell ⟨n,i,none⟩ v
@[go_sem] theorem yfT(w:qW)(c:Array qV)(t:TypeId)(n i:Nat)(v:qV):(w.alloc (.cells c t)).setCell ⟨n,i,none⟩ v=
  if n<w.heap.size then (w.setCell ⟨n,i,none⟩ v).alloc (.cells c t) else if n=w.heap.size then w.alloc (.cells (c.setIfInBounds i v) t) else allocSet w c t n i v:=by
 by_cases h:n<w.heap.size
 ·rw [if_pos h,World.setCell_alloc_past _ _ _ _ h]
 ·rw [if_neg h]
  by_cases h2:n=w.heap.size
  ·rw [if_pos h2,World.setCell_alloc_at _ _ _ _ _ h2]
  ·rw [if_neg h2];rfl
theorem yab(w:qW)(p q:Regrown): ∃r,more (more w p) q=more w r:=bC (bR (au w p) (au _ q))
def Gives(w:qW)(v:qV)(e:Ending)(w':qW):Prop:=e= .returned v/\ ∃p:Regrown,w'=more w p
theorem Gives.mk{w w':qW}{v:qV}{e:Ending}(h:e= .returned v)(hb:Below w.heap.size w w'):Gives w v e w':=⟨h,bC hb⟩
theorem Gives.below{w w':qW}{v:qV}{e:Ending}(h:Gives w v e w'):Below w.heap.size w w':=by
 obtain ⟨_,p,rfl⟩:=h
 exact au w p
theorem yct{P:Program}{f:FuncId}{args:Array qV}{w:qW}{v:qV}(h:Calls P f args w fun e w'=>e= .returned v/\Drew w w'):Calls P f args w (Gives w v):=
 h.mono fun _ _ ⟨he,hd⟩=>Gives.mk he hd.below
theorem bP{P:Program}{f:FuncId}{args:Array qV}{w:qW}{v:qV}(h:Calls P f args w fun e w'=>e= .returned v/\w=w'):Calls P f args w (Gives w v):=
 h.mono fun _ _ ⟨he,hd⟩=>Gives.mk he (yeZ hd)
theorem ab{a w:qW}(h:Below a.heap.size a w)(o:Obj):Below a.heap.size a (w.alloc o):=h.alloc h.size o
theorem aG{a w:qW}(h:Below a.heap.size a w)(p:Regrown):Below a.heap.size a (more w p):=bR h (au w p)
theorem ag{a w:qW}(h:Below a.heap.size a w):Below a.heap.size a w.drew:=⟨h.os,h.tape,h.output,h.size,h.block⟩
theorem nX{a w:qW}(h:Below a.heap.size a w)(n:Nat):Below a.heap.size a (w.drewN n):=⟨h.os,h.tape,h.output,h.size,h.block⟩
theorem ay{a w:qW}(h:Below a.heap.size a w){p:Addr}(hp:a.heap.size<=p.block)(v:qV):Below a.heap.size a (w.setCell p v):=h.setCell hp v
section
variable{P:Program}{f:FuncId}{args:Array qV}{w:qW}{v:qV}
theorem az{p:Regrown}(h:Calls P f args (more w p) (Gives (more w p) v)):Calls P f args (more w p) fun e w''=>e= .returned v/\ ∃r:Regrown,w''=more w r:=
 h.mono fun _ _ ⟨he,q,hq⟩=>⟨he,by rw [hq];exact yab w p q⟩
end
theorem aE{P:Program}{id:Nat}{Q:Exit->Act->qW->Prop}{a:Act}{w:qW}{l:List Oper}(hm:P.follows .mixedOrders=true)(hB:Region.lexB .any l.toArray=true)
  (h:wpQuiet P l.toArray (fun w'=> ∃p:Regrown,w'=more w p) (fun a'=> ∀p:Regrown,Q .normal a' (more w p)) l a):(Code.region id l.toArray true).wp P Q a w:=by
 refine wp_region_quiet (C:=fun w'=> ∃p:Regrown,w'=more w p) hm hB ⟨⟨w.drawn+1,#[]⟩,by unfold more;rw [grow_empty];rfl⟩ ?_
 have e:(fun a'=> ∀p:Regrown,Q .normal a' (more w p))=(fun a'=> ∀w',(∃p:Regrown,w'=more w p)->Q .normal a' w'):=by
  funext a'
  exact propext ⟨fun h w' ⟨p,hp⟩=>by rw [hp];exact h p,fun h p=>h _ ⟨p,rfl⟩⟩
 rw [<-e]
 simpa using h
end
end Go.Proofs.YtjmfoeajhiimnaaGreatDoor
