/- Walks. No condition. -/
import Derived.Test.YtcekjfmfcefjpaaGreatDoorG06
set_option maxRecDepth 100000
set_option maxHeartbeats 0
set_option linter.all false
namespace Go.Proofs.YtcekjfmfcefjpaaGreatDoor
open Go.RowKit Go.Sort
inductive Onto_Flow (B:Nat) (w:qW):qW->Prop
 |refl:Onto_Flow B w w
 |set {w1:qW} (h:Onto_Flow B w w1) (k:Nat) (v:qV):Onto_Flow B w (w1.setCell ⟨B,k,none⟩ v)
 |more {w1:qW} (h:Onto_Flow B w w1) (p:Regrown):Onto_Flow B w (more w1 p)
 |alloc {w1:qW} (h:Onto_Flow B w w1) (o:Obj):Onto_Flow B w (w1.alloc o)
theorem Onto_Flow.trans{B:Nat}{a b c:qW}(h:Onto_Flow B a b)(k:Onto_Flow B b c):Onto_Flow B a c:=by
 induction k with
 |refl=>exact h
 |set _ k v ih=>exact ih.set k v
 |more _ p ih=>exact ih.more p
 |alloc _ o ih=>exact ih.alloc o
theorem Onto_Flow.size{B:Nat}{a b:qW}(h:Onto_Flow B a b):a.heap.size<=b.heap.size:=by
 induction h with
 |refl=>exact zaq _
 |set _ k v ih=>simpa using ih
 |more _ p ih=>rw [aZ];omega
 |alloc _ o ih=>simp;omega
theorem Onto_Flow.cell{B:Nat}{a b:qW}(h:Onto_Flow B a b){c k:Nat}(hc:c<a.heap.size)(hB:c≠B):b.cell? (aB c k)=a.cell? (aB c k):=Z69_
theorem Onto_Flow.frozen{B:Nat}{a b:qW}(h:Onto_Flow B a b){c k:Nat}(hc:c<a.heap.size):b.frozen? (aB c k)=a.frozen? (aB c k):=Z70_
theorem Onto_Flow.under{B:Nat}{w a b:qW}(h:Onto_Flow B a b)(hb:Below w.heap.size w a)(hB:w.heap.size<=B):Below w.heap.size w b:=by
 induction h with
 |refl=>exact hb
 |set _ k v ih=>exact ax ih hB v
 |more _ p ih=>exact aF ih p
 |alloc _ o ih=>exact ab ih o
theorem cE{w:qW}{B:Nat}{s:St}(h:ao w B s)(o:Obj):ao (w.alloc o) B s:=h.below ((zaa _ _).alloc (zaq _) o)
theorem dC{w:qW}{B:Nat}{s t:St}(h:ao w B s)(k:Nat)(v:qV)(hk:k<36)(hv:t.f k=v)(ho: ∀j,j<36->j≠k->t.f j=s.f j):ao (w.setCell ⟨B,k,none⟩ v) B t:=fun j hj=>by
 refine ⟨?_,by rw [zaG];exact (h j hj).2⟩
 by_cases e:j=k
 ·subst e
  rw [zaF _ _ _ (h j hj).1,hv]
 ·rw [zaH _ _ _ _ (fun h2=>e (congrArg Addr.off h2).symm),(h j hj).1,ho j hj e]
theorem bY(s:St){k:Nat}(h: ¬k<31):s.f k=if k=31 then iI s.pc else if k=32 then .bool s.z else if k=33 then .bool s.c else if k=34 then iI s.wa else iI s.wl:=by
 unfold St.f
 rw [if_neg h]
theorem qO{w:qW}{B:Nat}{s:St}(h:ao w B s)(n v:Nat)(hn:n<31):ao (w.setCell ⟨B,n,none⟩ (.int .u64 (v:Nat))) B (setX s (n:Int) v):=by
 have e:setX s (n:Int) v={s with x:=fun k=>if (k:Int)=n then v else s.x k}:=by unfold setX;rw [if_neg Za]
 rw [e]
 refine dC h n _ Za ?_ ?_
 ·rw [f_x _ hn];simp
 ·intro j hj Aa
  by_cases h1:j<31
  ·rw [f_x _ h1,f_x _ h1]
   simp only
   rw [if_neg Za]
  ·rw [bY _ h1,bY _ h1]
theorem co{w:qW}{B:Nat}{s:St}(h:ao w B s)(v:Int):ao (w.setCell ⟨B,31,none⟩ (iI v)) B {s with pc:=v}:=by
 refine dC h 31 _ Za rfl ?_
 intro j hj Aa
 by_cases h1:j<31
 ·rw [f_x _ h1,f_x _ h1]
 ·rw [bY _ h1,bY _ h1,if_neg Aa,if_neg Aa]
theorem js{w:qW}{B:Nat}{s:St}(h:ao w B s)(v:Bool):ao (w.setCell ⟨B,32,none⟩ (.bool v)) B {s with z:=v}:=by
 refine dC h 32 _ Za rfl ?_
 intro j hj Aa
 by_cases h1:j<31
 ·rw [f_x _ h1,f_x _ h1]
 ·rw [bY _ h1,bY _ h1,if_neg Aa,if_neg Aa]
theorem jt{w:qW}{B:Nat}{s:St}(h:ao w B s)(v:Bool):ao (w.setCell ⟨B,33,none⟩ (.bool v)) B {s with c:=v}:=by
 refine dC h 33 _ Za rfl ?_
 intro j hj Aa
 by_cases h1:j<31
 ·rw [f_x _ h1,f_x _ h1]
 ·rw [bY _ h1,bY _ h1,if_neg Aa,if_neg Aa]
theorem d9{w:qW}{B:Nat}{s:St}(h:ao w B s)(a l:Int):ao ((w.setCell ⟨B,34,none⟩ (iI a)).setCell ⟨B,35,none⟩ (iI l)) B {s with wa:=a,wl:=l}:=by
 have h1:ao (w.setCell ⟨B,34,none⟩ (iI a)) B {s with wa:=a}:=by
  refine dC h 34 _ Za rfl ?_
  intro j hj Aa
  by_cases h1:j<31
  ·rw [f_x _ h1,f_x _ h1]
  ·rw [bY _ h1,bY _ h1,if_neg Aa,if_neg Aa]
 refine dC h1 35 _ Za rfl ?_
 intro j hj Aa
 by_cases h2:j<31
 ·rw [f_x _ h2,f_x _ h2]
 ·rw [bY _ h2,bY _ h2]
  have:j=31\/j=32\/j=33\/j=34:=by omega
  rcases this with rfl|rfl|rfl|rfl<;>rfl
theorem ni(w:qW):w.drew=more w ⟨w.drawn+1,#[]⟩:=by
 unfold more
 rw [grow_empty]
 rfl
theorem eQ{w:qW}{B:Nat}{s:St}(h:ao w B s):ao w.drew B s:=by
 rw [ni]
 exact aU h _
theorem Onto_Flow.drew{B:Nat}{a w:qW}(h:Onto_Flow B a w):Onto_Flow B a w.drew:=by
 rw [ni]
 exact h.more _
def accS(s:St)(i:Ins)(g0 g1:Nat)(fits:Bool):St:=
 if wrB i.op then (if exB i.op then {setX s i.m (if fits then 0 else 1) with wa:=0,wl:=0} else s)
 else if paB i.op then {setX (setX s i.d g0) i.e g1 with wa:=spanA s i,wl:=lenI i}
 else if exB i.op then {setX s i.d (g0&&&mask (8*lenI i)) with wa:=spanA s i,wl:=lenI i}
 else setX s i.d (g0&&&mask (8*lenI i))
theorem sH(s:St)(n:Int)(v:Nat)(B:Nat)(hn:0<=n/\n<=31)(w:qW)(hS:ao w B s):qC 56 #[pP B,iI n,.int .u64 (v:Nat)] w fun e w'=>e= .returned (.tuple #[])/\Onto_Flow B w w'/\ao w' B (setX s n v):=by
 refine (ycE n hn v B w (fun k hk=>⟨⟨_,(hS k hk).1⟩,(hS k hk).2⟩)).mono ?_
 rintro e w' ⟨rfl,rfl⟩
 by_cases h:n=31
 ·subst h
  exact ⟨rfl,Onto_Flow.refl,by rw [if_pos rfl];exact hS⟩
 ·rw [if_neg h]
  obtain ⟨k,rfl⟩: ∃k:Nat,n=k:=⟨n.toNat,by omega⟩
  exact ⟨rfl,Onto_Flow.refl.set _ _,qO hS k v Za⟩
theorem eh(s:St)(n:Int)(v:Nat)(x:Int)(hx:x=(v:Int))(B:Nat)(hn:0<=n/\n<=31)(w:qW)(hS:ao w B s):qC 56 #[pP B,iI n,.int .u64 x] w fun e w'=>e= .returned (.tuple #[])/\Onto_Flow B w w'/\ao w' B (setX s n v):=by
 subst hx
 exact sH s n v B hn w hS
def Two(w:qW)(b:Nat)(u v:qV):Prop:=w.cell? (aB b 0)=some u/\w.cell? (aB b 1)=some v
theorem Two.onto{B:Nat}{w w':qW}{b:Nat}{u v:qV}(h:Two w b u v)(ho:Onto_Flow B w w')(hb:b≠B):Two w' b u v:=⟨(ho.cell (aG h.1) hb).trans h.1,(ho.cell (aG h.2) hb).trans h.2⟩
theorem IAt.onto{B:Nat}{w w':qW}{b:Nat}{i:Ins}(h:IAt w b i)(ho:Onto_Flow B w w')(hb:b≠B):IAt w' b i:=by
 have hl:b<w.heap.size:=aG h.1
 have hc: ∀j,w'.cell? (aB b j)=w.cell? (aB b j):=fun j=>ho.cell hl hb
 unfold IAt at*
 simp only [hc]
 exact h
theorem yfj(s:St)(i:Ins)(hf:Facts i)(hs:s.ok)(g0 g1:Nat)(h0:g0<18446744073709551616)(fits:Bool)(hw:wrB i.op=true)(hx:exB i.op=true)(B:Nat)(w:qW)(hS:ao w B s):qC 55 #[pP B,insV i,.agg #[.int .u64 (g0:Nat),.int .u64 (g1:Nat)],.bool fits] w
  fun e w'=>e= .returned (.tuple #[])/\Onto_Flow B w w'/\ao w' B (accS s i g0 g1 fits):=by
 have er:accS s i g0 g1 fits={setX s i.m (if fits then 0 else 1) with wa:=0,wl:=0}:=by unfold accS;simp [hw,hx]
 rw [er]
 clear er
 have hB:B<w.heap.size:=hS.lt
 have WR:=Zh (fun W=>dV i.op W)
 have EX:=Zh (fun W=>eC i.op W)
 have PA:=Zh (fun W=>dH i.op W)
 have WH:=Zh (fun W h=>dW s i hf hs B W h)
 have PU:=Zh (fun (t:St) (n:Int) (v:Nat) (x:Int) (hx:x=(v:Int)) (hn:0<=n/\n<=31) W h=>eh t n v x hx B hn W h)
 have HS:=Zh hS
 have hl:=dg hf
 have MK:=Zh (fun W=>bO (dS (8*lenI i) Za Za W))
 have hd:=hf.d
 have he:=hf.e
 have hm:=hf.m
 rw [hw] at WR
 rw [hx] at EX
 clear hw hx
 generalize spanA s i=SA at*
 generalize lenI i=L at*
 clear hs hf hS
 obtain ⟨op,d,n,m,e,sz,imm⟩:=i
 unfold insV spV at*
 simp only at*
 cases fits
 ·go_enter Tryz.func55,Tryz.ntmps55
  go_upto_region 10 with (first
   |(go_at_call 44;refine (WH.out _ Z48_).mono ?_;rintro e w9 ⟨rfl,p,rfl⟩)
   |(go_at_call 43;refine (WR.out _).mono ?_;rintro e w9 ⟨rfl,rfl⟩)
   |(go_at_call 47;refine (PA.out _).mono ?_;rintro e w9 ⟨rfl,rfl⟩)
   |(go_at_call 45;refine (EX.out _).mono ?_;rintro e w9 ⟨rfl,rfl⟩)
   |(go_at_call 56;refine (PU.out s m 1 1 rfl hm _ ?_).mono ?_;(repeat (first|with_reducible exact HS.out|with_reducible refine aU ?_ _|with_reducible refine cE ?_ _));rintro e w2 ⟨rfl,ho_w2,hs_w2⟩))
  have q34:=(hs_w2 34 Za).1
  have u34:=(hs_w2 34 Za).2
  have q35:=(hs_w2 35 Za).1
  have u35:=(hs_w2 35 Za).2
  go_wp2_with fail
  go_returns
  refine ⟨rfl,?_,d9 hs_w2 0 0⟩
  refine Onto_Flow.set (Onto_Flow.set (Onto_Flow.trans ?_ ho_w2) _ _) _ _
  repeat (first|with_reducible exact Onto_Flow.refl|with_reducible refine Onto_Flow.more ?_ _|with_reducible refine Onto_Flow.alloc ?_ _)
 ·go_enter Tryz.func55,Tryz.ntmps55
  go_upto_region 10 with (first
   |(go_at_call 44;refine (WH.out _ Z48_).mono ?_;rintro e w9 ⟨rfl,p,rfl⟩)
   |(go_at_call 43;refine (WR.out _).mono ?_;rintro e w9 ⟨rfl,rfl⟩)
   |(go_at_call 47;refine (PA.out _).mono ?_;rintro e w9 ⟨rfl,rfl⟩)
   |(go_at_call 45;refine (EX.out _).mono ?_;rintro e w9 ⟨rfl,rfl⟩)
   |(go_at_call 56;refine (PU.out s m 0 0 rfl hm _ ?_).mono ?_;(repeat (first|with_reducible exact HS.out|with_reducible refine aU ?_ _|with_reducible refine cE ?_ _));rintro e w2 ⟨rfl,ho_w2,hs_w2⟩))
  have q34:=(hs_w2 34 Za).1
  have u34:=(hs_w2 34 Za).2
  have q35:=(hs_w2 35 Za).1
  have u35:=(hs_w2 35 Za).2
  go_wp2_with fail
  go_returns
  refine ⟨rfl,?_,d9 hs_w2 0 0⟩
  refine Onto_Flow.set (Onto_Flow.set (Onto_Flow.trans ?_ ho_w2) _ _) _ _
  repeat (first|with_reducible exact Onto_Flow.refl|with_reducible refine Onto_Flow.more ?_ _|with_reducible refine Onto_Flow.alloc ?_ _)
theorem yfk(s:St)(i:Ins)(hf:Facts i)(hs:s.ok)(g0 g1:Nat)(h0:g0<18446744073709551616)(fits:Bool)(hw:wrB i.op=true)(hx:exB i.op=false)(B:Nat)(w:qW)(hS:ao w B s):qC 55 #[pP B,insV i,.agg #[.int .u64 (g0:Nat),.int .u64 (g1:Nat)],.bool fits] w
  fun e w'=>e= .returned (.tuple #[])/\Onto_Flow B w w'/\ao w' B (accS s i g0 g1 fits):=by
 have er:accS s i g0 g1 fits=s:=by unfold accS;simp [hw,hx]
 rw [er]
 clear er
 have hB:B<w.heap.size:=hS.lt
 have WR:=Zh (fun W=>dV i.op W)
 have EX:=Zh (fun W=>eC i.op W)
 have PA:=Zh (fun W=>dH i.op W)
 have WH:=Zh (fun W h=>dW s i hf hs B W h)
 have PU:=Zh (fun (t:St) (n:Int) (v:Nat) (x:Int) (hx:x=(v:Int)) (hn:0<=n/\n<=31) W h=>eh t n v x hx B hn W h)
 have HS:=Zh hS
 have hl:=dg hf
 have MK:=Zh (fun W=>bO (dS (8*lenI i) Za Za W))
 have hd:=hf.d
 have he:=hf.e
 have hm:=hf.m
 rw [hw] at WR
 rw [hx] at EX
 clear hw hx
 generalize spanA s i=SA at*
 generalize lenI i=L at*
 clear hs hf hS
 obtain ⟨op,d,n,m,e,sz,imm⟩:=i
 unfold insV spV at*
 simp only at*
 go_enter Tryz.func55,Tryz.ntmps55
 go_wp2_with (first
  |(go_at_call 44;refine (WH.out _ Z48_).mono ?_;rintro e w9 ⟨rfl,p,rfl⟩)
  |(go_at_call 43;refine (WR.out _).mono ?_;rintro e w9 ⟨rfl,rfl⟩)
  |(go_at_call 47;refine (PA.out _).mono ?_;rintro e w9 ⟨rfl,rfl⟩)
  |(go_at_call 45;refine (EX.out _).mono ?_;rintro e w9 ⟨rfl,rfl⟩))
 go_returns
 refine ⟨rfl,?_,?_⟩
 ·repeat (first|with_reducible exact Onto_Flow.refl|with_reducible refine Onto_Flow.more ?_ _|with_reducible refine Onto_Flow.alloc ?_ _)
 ·repeat (first|with_reducible exact HS.out|with_reducible refine aU ?_ _|with_reducible refine cE ?_ _)
theorem yfi(s:St)(i:Ins)(hf:Facts i)(hs:s.ok)(g0 g1:Nat)(h0:g0<18446744073709551616)(fits:Bool)(hw:wrB i.op=false)(hp:paB i.op=false)(hx:exB i.op=true)(B:Nat)(w:qW)(hS:ao w B s):qC 55 #[pP B,insV i,.agg #[.int .u64 (g0:Nat),.int .u64 (g1:Nat)],.bool fits] w
  fun e w'=>e= .returned (.tuple #[])/\Onto_Flow B w w'/\ao w' B (accS s i g0 g1 fits):=by
 have er:accS s i g0 g1 fits={setX s i.d (g0&&&mask (8*lenI i)) with wa:=spanA s i,wl:=lenI i}:=by unfold accS;simp [hw,hp,hx]
 rw [er]
 clear er
 have hB:B<w.heap.size:=hS.lt
 have WR:=Zh (fun W=>dV i.op W)
 have EX:=Zh (fun W=>eC i.op W)
 have PA:=Zh (fun W=>dH i.op W)
 have WH:=Zh (fun W h=>dW s i hf hs B W h)
 have PU:=Zh (fun (t:St) (n:Int) (v:Nat) (x:Int) (hx:x=(v:Int)) (hn:0<=n/\n<=31) W h=>eh t n v x hx B hn W h)
 have HS:=Zh hS
 have hl:=dg hf
 have MK:=Zh (fun W=>bO (dS (8*lenI i) Za Za W))
 have hd:=hf.d
 have he:=hf.e
 have hm:=hf.m
 rw [hw] at WR
 rw [hp] at PA
 rw [hx] at EX
 clear hw hx hp
 generalize spanA s i=SA at*
 generalize lenI i=L at*
 clear hs hf hS
 obtain ⟨op,d,n,m,e,sz,imm⟩:=i
 unfold insV spV at*
 simp only at*
 go_enter Tryz.func55,Tryz.ntmps55
 go_upto_region 2 with (first
  |(go_at_call 44;refine (WH.out _ Z48_).mono ?_;rintro e w9 ⟨rfl,p,rfl⟩)
  |(go_at_call 43;refine (WR.out _).mono ?_;rintro e w9 ⟨rfl,rfl⟩)
  |(go_at_call 47;refine (PA.out _).mono ?_;rintro e w9 ⟨rfl,rfl⟩)
  |(go_at_call 45;refine (EX.out _).mono ?_;rintro e w9 ⟨rfl,rfl⟩))
 have HX:Hid (bits .and .u64 (g0:Nat) (mask (8*L):Nat)=((g0&&&mask (8*L):Nat):Int)):=Zh (u64_and_nat _ _ h0 (fi _))
 refine fM 10 Zb Zb ?_
 simp only [List.take_succ_cons,List.take_zero,List.drop_succ_cons,List.drop_zero]
 repeat (go_big_quiet_step (first|(go_at_call 48;exact ay (MK.out _))))
 refine zaE ?_
 intro p10
 go_upto_region 3 with (go_at_call 56;refine (PU.out s d _ _ HX.out hd _ ?_).mono ?_;(repeat (first|with_reducible exact HS.out|with_reducible refine aU ?_ _|with_reducible refine cE ?_ _));rintro e w2 ⟨rfl,ho_w2,hs_w2⟩)
 have i0:w2.cell? (aB w.heap.size 0)=some (iI op):=(ho_w2.cell ZO Za).trans (by simp [go_sem,↓IntWalk.iteOmega])
 have p0:w2.cell? ⟨w.heap.size+1+1+p.os.size,0,none⟩=some (iI SA):=(ho_w2.cell ZO Za).trans (by simp [go_sem,↓IntWalk.iteOmega])
 have p1:w2.cell? ⟨w.heap.size+1+1+p.os.size,1,none⟩=some (iI L):=(ho_w2.cell ZO Za).trans (by simp [go_sem,↓IntWalk.iteOmega])
 have q34:=(hs_w2 34 Za).1
 have u34:=(hs_w2 34 Za).2
 have q35:=(hs_w2 35 Za).1
 have u35:=(hs_w2 35 Za).2
 go_wp2_with (go_at_call 45;refine (EX.out _).mono ?_;rintro e w9 ⟨rfl,rfl⟩)
 go_returns
 refine ⟨rfl,?_,d9 hs_w2 SA L⟩
 refine Onto_Flow.set (Onto_Flow.set (Onto_Flow.trans ?_ ho_w2) _ _) _ _
 repeat (first|with_reducible exact Onto_Flow.refl|with_reducible refine Onto_Flow.more ?_ _|with_reducible refine Onto_Flow.alloc ?_ _)
theorem yfm(s:St)(i:Ins)(hf:Facts i)(hs:s.ok)(g0 g1:Nat)(h0:g0<18446744073709551616)(fits:Bool)(hw:wrB i.op=false)(hp:paB i.op=false)(hx:exB i.op=false)(B:Nat)(w:qW)(hS:ao w B s):qC 55 #[pP B,insV i,.agg #[.int .u64 (g0:Nat),.int .u64 (g1:Nat)],.bool fits] w
  fun e w'=>e= .returned (.tuple #[])/\Onto_Flow B w w'/\ao w' B (accS s i g0 g1 fits):=by
 have er:accS s i g0 g1 fits=setX s i.d (g0&&&mask (8*lenI i)):=by unfold accS;simp [hw,hp,hx]
 rw [er]
 clear er
 have hB:B<w.heap.size:=hS.lt
 have WR:=Zh (fun W=>dV i.op W)
 have EX:=Zh (fun W=>eC i.op W)
 have PA:=Zh (fun W=>dH i.op W)
 have WH:=Zh (fun W h=>dW s i hf hs B W h)
 have PU:=Zh (fun (t:St) (n:Int) (v:Nat) (x:Int) (hx:x=(v:Int)) (hn:0<=n/\n<=31) W h=>eh t n v x hx B hn W h)
 have HS:=Zh hS
 have hl:=dg hf
 have MK:=Zh (fun W=>bO (dS (8*lenI i) Za Za W))
 have hd:=hf.d
 have he:=hf.e
 have hm:=hf.m
 rw [hw] at WR
 rw [hp] at PA
 rw [hx] at EX
 clear hw hx hp
 generalize spanA s i=SA at*
 generalize lenI i=L at*
 clear hs hf hS
 obtain ⟨op,d,n,m,e,sz,imm⟩:=i
 unfold insV spV at*
 simp only at*
 go_enter Tryz.func55,Tryz.ntmps55
 go_upto_region 2 with (first
  |(go_at_call 44;refine (WH.out _ Z48_).mono ?_;rintro e w9 ⟨rfl,p,rfl⟩)
  |(go_at_call 43;refine (WR.out _).mono ?_;rintro e w9 ⟨rfl,rfl⟩)
  |(go_at_call 47;refine (PA.out _).mono ?_;rintro e w9 ⟨rfl,rfl⟩)
  |(go_at_call 45;refine (EX.out _).mono ?_;rintro e w9 ⟨rfl,rfl⟩))
 have HX:Hid (bits .and .u64 (g0:Nat) (mask (8*L):Nat)=((g0&&&mask (8*L):Nat):Int)):=Zh (u64_and_nat _ _ h0 (fi _))
 refine fM 10 Zb Zb ?_
 simp only [List.take_succ_cons,List.take_zero,List.drop_succ_cons,List.drop_zero]
 repeat (go_big_quiet_step (first|(go_at_call 48;exact ay (MK.out _))))
 refine zaE ?_
 intro p10
 go_upto_region 3 with (go_at_call 56;refine (PU.out s d _ _ HX.out hd _ ?_).mono ?_;(repeat (first|with_reducible exact HS.out|with_reducible refine aU ?_ _|with_reducible refine cE ?_ _));rintro e w2 ⟨rfl,ho_w2,hs_w2⟩)
 have i0:w2.cell? (aB w.heap.size 0)=some (iI op):=(ho_w2.cell ZO Za).trans (by simp [go_sem,↓IntWalk.iteOmega])
 have p0:w2.cell? ⟨w.heap.size+1+1+p.os.size,0,none⟩=some (iI SA):=(ho_w2.cell ZO Za).trans (by simp [go_sem,↓IntWalk.iteOmega])
 have p1:w2.cell? ⟨w.heap.size+1+1+p.os.size,1,none⟩=some (iI L):=(ho_w2.cell ZO Za).trans (by simp [go_sem,↓IntWalk.iteOmega])
 go_wp2_with (go_at_call 45;refine (EX.out _).mono ?_;rintro e w9 ⟨rfl,rfl⟩)
 go_returns
 refine ⟨rfl,?_,hs_w2⟩
 refine Onto_Flow.trans ?_ ho_w2
 repeat (first|with_reducible exact Onto_Flow.refl|with_reducible refine Onto_Flow.more ?_ _|with_reducible refine Onto_Flow.alloc ?_ _)
theorem yfg(s:St)(i:Ins)(hf:Facts i)(hs:s.ok)(g0 g1:Nat)(h0:g0<18446744073709551616)(fits:Bool)(hp:paB i.op=false)(B:Nat)(w:qW)(hS:ao w B s):qC 55 #[pP B,insV i,.agg #[.int .u64 (g0:Nat),.int .u64 (g1:Nat)],.bool fits] w
  fun e w'=>e= .returned (.tuple #[])/\Onto_Flow B w w'/\ao w' B (accS s i g0 g1 fits):=by
 cases hw:wrB i.op
 ·cases hx:exB i.op
  ·exact yfm s i hf hs g0 g1 h0 fits hw hp hx B w hS
  ·exact yfi s i hf hs g0 g1 h0 fits hw hp hx B w hS
 ·cases hx:exB i.op
  ·exact yfk s i hf hs g0 g1 h0 fits hw hx B w hS
  ·exact yfj s i hf hs g0 g1 h0 fits hw hx B w hS
theorem ph{B:Nat}{w w':qW}{b n:Nat}(h:w.there b 0 n)(hb:b<w.heap.size)(ho:Onto_Flow B w w')(hB:b≠B):w'.there b 0 n:=fun j hj=>by
 rw [ho.cell hb hB,ho.frozen hb]
 exact h j hj
structure NextW(w wx:qW)(s:St)(i:Ins)(g0 g1:Nat):Prop where
 st:ao wx w.heap.size s
 ins:IAt wx (w.heap.size+1) i
 got:Two wx (w.heap.size+1+1) (.int .u64 (g0:Nat)) (.int .u64 (g1:Nat))
 res:wx.there (w.heap.size+1+1+1) 0 36
 rlt:w.heap.size+1+1+1<wx.heap.size
 below:Below w.heap.size w wx
theorem NextW.onto{w wx wy:qW}{s t:St}{i:Ins}{g0 g1:Nat}(h:NextW w wx s i g0 g1)(ho:Onto_Flow w.heap.size wx wy)(ht:ao wy w.heap.size t):NextW w wy t i g0 g1:=
 ⟨ht,h.ins.onto ho Za,h.got.onto ho Za,ph h.res h.rlt ho Za,zar h.rlt ho.size,ho.under h.below (zaq _)⟩
theorem NextW.more{w wx:qW}{s:St}{i:Ins}{g0 g1:Nat}(h:NextW w wx s i g0 g1)(p:Regrown):NextW w (more wx p) s i g0 g1:=h.onto (Onto_Flow.refl.more p) (aU h.st p)
theorem pj(w:qW)(c:Array qV)(t:TypeId):(w.alloc (.cells c t)).there w.heap.size 0 c.size:=fun j hj=>by
 rw [aR,dU,if_neg Za,if_pos rfl,if_neg Za]
 simp [hj]
theorem vT(w:qW)(s:St)(i:Ins)(g0 g1:Nat)(c:Array qV)(hc:c.size=36):NextW w ((((w.alloc (.cells (stC s.f) 79)).alloc (.cells #[iI i.op,iI i.d,iI i.n,iI i.m,iI i.e,iI i.sz,iI i.imm] 85)).alloc (.cells #[.int .u64 (g0:Nat),.int .u64 (g1:Nat)] 40)).alloc (.cells c 79)) s i g0 g1:=by
 refine ⟨?_,?_,?_,?_,?_,?_⟩
 ·exact cE (cE (cE (jv w s _) _) _) _
 ·refine IAt.below (IAt.below (ig (w.alloc (.cells (stC s.f) 79)) i 85 (w.heap.size+1) Zi) (ab (zaa _ _) _)) (ab (zaa _ _) _)
 ·unfold Two
  simp [aR]
 ·have h:=pj (((w.alloc (.cells (stC s.f) 79)).alloc (.cells #[iI i.op,iI i.d,iI i.n,iI i.m,iI i.e,iI i.sz,iI i.imm] 85)).alloc (.cells #[.int .u64 (g0:Nat),.int .u64 (g1:Nat)] 40)) c 79
  rw [hc] at h
  simpa using h
 ·simp
 ·exact ab (ab (ab (ab (zaa _ _) _) _) _) _
theorem aW{P:Program}{c:Code}{Q:Exit->Act->qW->Prop}{a:Act}{wx:qW}(R:qW->Prop)(h:R wx)(k: ∀wy,R wy->c.wp P Q a wy):c.wp P Q a wx:=k wx h
def stL(s:St):List qV:=(List.range 36).map s.f
theorem qQ{w:qW}{B:Nat}{s:St}(h:ao w B s):w.rangeAt B 0 ((List.range 36).map s.f):=fun j v hv=>by
 have hj:j<36:=by
  have:=(List.getElem?_eq_some_iff.1 hv).1
  simpa using this
 rw [zaj,List.getElem?_range hj] at hv
 simp at hv
 subst hv
 rw [zag]
 exact (h j hj).1
theorem cf{a:qW}{b:Nat}(hb:a.heap.size<=b): ∀(vs:List qV) (o:Nat) (w:qW),Below a.heap.size a w->Below a.heap.size a (w.setCells b o vs)
 |[],_,_,h=>h
 |v::r,o,w,h=>cf hb r (o+1) _ (ax h hb v)
theorem cu{Y:qW}{r:Nat}{q:Int}{tmps:Array qV}{s:St}(hY:Y.there r 0 36)(h8:tmps.getD 8 undef=pP r)(h9:tmps.getD 9 undef=iI q):
  (results Tryz.f23 tmps).run Tryz.prog (Y.setCells r 0 (stL s))= .ok (.tuple #[stV s,iI q]) (Y.setCells r 0 (stL s)):=by
 have hr:(World.setCells Y r 0 (stL s)).rangeAt r 0 (stL s):=World.rangeAt_setCells_same Y r 0 _ (by simpa [stL] using hY)
 have hl:=run_loadVar_mid (P:=Tryz.prog) (World.setCells Y r 0 (stL s)) r 0 79 (stL s) _ hr Tryz.underlying79 rfl (by simpa [stL] using dO)
 have:=f8 (fn:=Tryz.f23) (t:=9) (show Tryz.f23.results=#[.cell 8 79,.tmp 9] from rfl) h8 hl
 rw [h9] at this
 exact this
theorem cm{ops:Array Oper}{rest:List Oper}{op:Oper}{a:Act}{w:qW}{Q:Exit->Act->qW->Prop}{s:St}{b:Nat}(x:Operand)(hgd:op.guard=none)(ho:op.op= .load 79 x)(hx:a.eval x=pP b)(hS:ao w b s)
  (h:wpList Tryz.prog ops Q rest (a.put op.dst (stV s)) w):wpList Tryz.prog ops Q (op::rest) a w:=
 wpList_load_mid hgd 79 x ho b 0 hx ((List.range 36).map s.f) _ (qQ hS) Tryz.underlying79 rfl (by simpa using dO) h
theorem cl{ops:Array Oper}{rest:List Oper}{op:Oper}{a:Act}{w:qW}{Q:Exit->Act->qW->Prop}{s:St}{b:Nat}(x y:Operand)(hgd:op.guard=none)(ho:op.op= .store 79 x y)(hx:a.eval x=pP b)(hy:a.eval y=stV s)(ht:w.there b 0 36)
  (h:wpList Tryz.prog ops Q rest (a.put op.dst undef) (w.setCells b 0 (stL s))):wpList Tryz.prog ops Q (op::rest) a w:=by
 refine wpList_store_mid hgd 79 x y ho b 0 (stC s.f) hx hy (by rw [cM];exact ht) (by rw [cM];exact dO) (fR s) ?_
 exact h
theorem u64_in(x:Int):0<=IntKind.u64.wrap x/\IntKind.u64.wrap x<18446744073709551616:=by
 rw [IntKind.wrap_u64]
 omega
def inU(y:Int):Prop:=0<=y/\y<18446744073709551616
theorem ybK(c:Prop)[Decidable c]{a b:Int}(h1:inU a)(h2:inU b):inU (if c then a else b):=by
 by_cases h:c
 ·rw [if_pos h];exact h1
 ·rw [if_neg h];exact h2
theorem kY(s:St)(i:Ins)(hf:Facts i)(hs:s.ok):0<=numI s i/\numI s i<18446744073709551616:=by
 have gn:=bX hs i.n
 have gm:=bX hs i.m
 have gd:=bX hs i.d
 have zG:=sZ (getX s i.d) (16*i.e) 16 i.imm.toNat gd
 show inU (numI s i)
 unfold numI
 repeat' (with_reducible refine ybK _ ?_ ?_)
 all_goals unfold inU
 all_goals first
  |exact u64_in _
  |omega
  |skip
 ·have h1:(0:Int)<=(getX s i.n:Int)/2^((getX s i.m:Int)%64).toNat:=Int.ediv_nonneg Za (Int.le_of_lt (Int.pow_pos Za))
  have h2:(getX s i.n:Int)/2^((getX s i.m:Int)%64).toNat<=(getX s i.n:Int):=Int.ediv_le_self _ Za
  omega
def bodyS(s:St)(i:Ins)(g0 g1:Nat)(fits:Bool):St:=
 if i.op=30 then {s with wa:=0,wl:=0}
 else if meB i.op then accS s i g0 g1 fits
 else if numB i.op then setX (if i.op=5 then {s with z:=numI s i==0,c:=decide (getX s i.m<=getX s i.n)} else s) i.d (numI s i).toNat
 else s
def nextS(s:St)(i:Ins)(g0 g1:Nat)(fits:Bool):St:={bodyS s i g0 g1 fits with pc:=wrap64 (if takB s i then s.pc+i.imm else s.pc+1)}

end Go.Proofs.YtcekjfmfcefjpaaGreatDoor
