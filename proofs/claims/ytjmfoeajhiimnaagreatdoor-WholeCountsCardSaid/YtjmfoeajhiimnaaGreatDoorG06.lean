/- Walks. No condition. -/
import Derived.Test.YtjmfoeajhiimnaaGreatDoorG05
set_option maxRecDepth 100000
set_option maxHeartbeats 0
set_option linter.all false
namespace Go.Proofs.YtjmfoeajhiimnaaGreatDoor
open Go.RowKit Go.Sort
inductive Onto_Flow (B:Nat) (w:qW):qW->Prop
 |refl:Onto_Flow B w w
 |set {w1:qW} (h:Onto_Flow B w w1) (k:Nat) (v:qV):Onto_Flow B w (w1.setCell ⟨B,k,none⟩ v)
 |more {w1:qW} (h:Onto_Flow B w w1) (p:Regrown):Onto_Flow B w (more w1 p)
 |alloc {w1:qW} (h:Onto_Flow B w w1) (o:Obj):Onto_Flow B w (w1.alloc o)
theorem Onto_Flow.trans{B:Nat}{a b c:qW}(h:Onto_Flow B a b)(k:Onto_Flow B b c):Onto_Flow B a c:=by
 induction k with
 |refl=>exact h
 |set _ k v ih=>exact ih.set k v
 |more _ p ih=>exact ih.more p
 |alloc _ o ih=>exact ih.alloc o
theorem Onto_Flow.size{B:Nat}{a b:qW}(h:Onto_Flow B a b):a.heap.size<=b.heap.size:=by
 induction h with
 |refl=>exact zaq _
 |set _ k v ih=>simpa using ih
 |more _ p ih=>rw [aZ];omega
 |alloc _ o ih=>simp;omega
theorem Onto_Flow.cell{B:Nat}{a b:qW}(h:Onto_Flow B a b){c k:Nat}(hc:c<a.heap.size)(hB:c≠B):b.cell? (aB c k)=a.cell? (aB c k):=Z69_
theorem Onto_Flow.frozen{B:Nat}{a b:qW}(h:Onto_Flow B a b){c k:Nat}(hc:c<a.heap.size):b.frozen? (aB c k)=a.frozen? (aB c k):=Z70_
theorem Onto_Flow.under{B:Nat}{w a b:qW}(h:Onto_Flow B a b)(hb:Below w.heap.size w a)(hB:w.heap.size<=B):Below w.heap.size w b:=by
 induction h with
 |refl=>exact hb
 |set _ k v ih=>exact ay ih hB v
 |more _ p ih=>exact aG ih p
 |alloc _ o ih=>exact ab ih o
theorem cH{w:qW}{B:Nat}{s:St}(h:ao w B s)(o:Obj):ao (w.alloc o) B s:=h.below ((zaa _ _).alloc (zaq _) o)
theorem dF{w:qW}{B:Nat}{s t:St}(h:ao w B s)(k:Nat)(v:qV)(hk:k<36)(hv:t.f k=v)(ho: ∀j,j<36->j≠k->t.f j=s.f j):ao (w.setCell ⟨B,k,none⟩ v) B t:=fun j hj=>by
 refine ⟨?_,by rw [zaG];exact (h j hj).2⟩
 by_cases e:j=k
 ·subst e
  rw [zaF _ _ _ (h j hj).1,hv]
 ·rw [zaH _ _ _ _ (fun h2=>e (congrArg Addr.off h2).symm),(h j hj).1,ho j hj e]
theorem bZ(s:St){k:Nat}(h: ¬k<31):s.f k=if k=31 then iI s.pc else if k=32 then .bool s.z else if k=33 then .bool s.c else if k=34 then iI s.wa else iI s.wl:=by
 unfold St.f
 rw [if_neg h]
theorem ro{w:qW}{B:Nat}{s:St}(h:ao w B s)(n v:Nat)(hn:n<31):ao (w.setCell ⟨B,n,none⟩ (.int .u64 (v:Nat))) B (setX s (n:Int) v):=by
 have e:setX s (n:Int) v={s with x:=fun k=>if (k:Int)=n then v else s.x k}:=by unfold setX;rw [if_neg Za]
 rw [e]
 refine dF h n _ Za ?_ ?_
 ·rw [f_x _ hn];simp
 ·intro j hj Af
  by_cases h1:j<31
  ·rw [f_x _ h1,f_x _ h1]
   simp only
   rw [if_neg Za]
  ·rw [bZ _ h1,bZ _ h1]
theorem cr{w:qW}{B:Nat}{s:St}(h:ao w B s)(v:Int):ao (w.setCell ⟨B,31,none⟩ (iI v)) B {s with pc:=v}:=by
 refine dF h 31 _ Za rfl ?_
 intro j hj Af
 by_cases h1:j<31
 ·rw [f_x _ h1,f_x _ h1]
 ·rw [bZ _ h1,bZ _ h1,if_neg Af,if_neg Af]
theorem jx{w:qW}{B:Nat}{s:St}(h:ao w B s)(v:Bool):ao (w.setCell ⟨B,32,none⟩ (.bool v)) B {s with z:=v}:=by
 refine dF h 32 _ Za rfl ?_
 intro j hj Af
 by_cases h1:j<31
 ·rw [f_x _ h1,f_x _ h1]
 ·rw [bZ _ h1,bZ _ h1,if_neg Af,if_neg Af]
theorem jy{w:qW}{B:Nat}{s:St}(h:ao w B s)(v:Bool):ao (w.setCell ⟨B,33,none⟩ (.bool v)) B {s with c:=v}:=by
 refine dF h 33 _ Za rfl ?_
 intro j hj Af
 by_cases h1:j<31
 ·rw [f_x _ h1,f_x _ h1]
 ·rw [bZ _ h1,bZ _ h1,if_neg Af,if_neg Af]
theorem ei{w:qW}{B:Nat}{s:St}(h:ao w B s)(a l:Int):ao ((w.setCell ⟨B,34,none⟩ (iI a)).setCell ⟨B,35,none⟩ (iI l)) B {s with wa:=a,wl:=l}:=by
 have h1:ao (w.setCell ⟨B,34,none⟩ (iI a)) B {s with wa:=a}:=by
  refine dF h 34 _ Za rfl ?_
  intro j hj Af
  by_cases h1:j<31
  ·rw [f_x _ h1,f_x _ h1]
  ·rw [bZ _ h1,bZ _ h1,if_neg Af,if_neg Af]
 refine dF h1 35 _ Za rfl ?_
 intro j hj Af
 by_cases h2:j<31
 ·rw [f_x _ h2,f_x _ h2]
 ·rw [bZ _ h2,bZ _ h2]
  have:j=31\/j=32\/j=33\/j=34:=by omega
  rcases this with rfl|rfl|rfl|rfl<;>rfl
theorem nr(w:qW):w.drew=more w ⟨w.drawn+1,#[]⟩:=by
 unfold more
 rw [grow_empty]
 rfl
theorem eX{w:qW}{B:Nat}{s:St}(h:ao w B s):ao w.drew B s:=by
 rw [nr]
 exact aW h _
theorem Onto_Flow.drew{B:Nat}{a w:qW}(h:Onto_Flow B a w):Onto_Flow B a w.drew:=by
 rw [nr]
 exact h.more _
def accS(s:St)(i:Ins)(g0 g1:Nat)(fits:Bool):St:=
 if wrB i.op then (if exB i.op then {setX s i.m (if fits then 0 else 1) with wa:=0,wl:=0} else s)
 else if paB i.op then {setX (setX s i.d g0) i.e g1 with wa:=spanA s i,wl:=lenI i}
 else if exB i.op then {setX s i.d (g0&&&mask (8*lenI i)) with wa:=spanA s i,wl:=lenI i}
 else setX s i.d (g0&&&mask (8*lenI i))
theorem tq(s:St)(n:Int)(v:Nat)(B:Nat)(hn:0<=n/\n<=31)(w:qW)(hS:ao w B s):qC 168 #[pP B,iI n,.int .u64 (v:Nat)] w fun e w'=>e= .returned (.tuple #[])/\Onto_Flow B w w'/\ao w' B (setX s n v):=by
 refine (ycM n hn v B w (fun k hk=>⟨⟨_,(hS k hk).1⟩,(hS k hk).2⟩)).mono ?_
 rintro e w' ⟨rfl,rfl⟩
 by_cases h:n=31
 ·subst h
  exact ⟨rfl,Onto_Flow.refl,by rw [if_pos rfl];exact hS⟩
 ·rw [if_neg h]
  obtain ⟨k,rfl⟩: ∃k:Nat,n=k:=⟨n.toNat,by omega⟩
  exact ⟨rfl,Onto_Flow.refl.set _ _,ro hS k v Za⟩
theorem ew(s:St)(n:Int)(v:Nat)(x:Int)(hx:x=(v:Int))(B:Nat)(hn:0<=n/\n<=31)(w:qW)(hS:ao w B s):qC 168 #[pP B,iI n,.int .u64 x] w fun e w'=>e= .returned (.tuple #[])/\Onto_Flow B w w'/\ao w' B (setX s n v):=by
 subst hx
 exact tq s n v B hn w hS
def Two(w:qW)(b:Nat)(u v:qV):Prop:=w.cell? (aB b 0)=some u/\w.cell? (aB b 1)=some v
theorem Two.onto{B:Nat}{w w':qW}{b:Nat}{u v:qV}(h:Two w b u v)(ho:Onto_Flow B w w')(hb:b≠B):Two w' b u v:=⟨(ho.cell (aF h.1) hb).trans h.1,(ho.cell (aF h.2) hb).trans h.2⟩
theorem IAt.onto{B:Nat}{w w':qW}{b:Nat}{i:Ins}(h:IAt w b i)(ho:Onto_Flow B w w')(hb:b≠B):IAt w' b i:=by
 have hl:b<w.heap.size:=aF h.1
 have hc: ∀j,w'.cell? (aB b j)=w.cell? (aB b j):=fun j=>ho.cell hl hb
 unfold IAt at*
 simp only [hc]
 exact h
theorem yfz(s:St)(i:Ins)(hf:Facts i)(hs:s.ok)(g0 g1:Nat)(h0:g0<18446744073709551616)(fits:Bool)(hw:wrB i.op=true)(hx:exB i.op=true)(B:Nat)(w:qW)(hS:ao w B s):qC 167 #[pP B,insV i,.agg #[.int .u64 (g0:Nat),.int .u64 (g1:Nat)],.bool fits] w
  fun e w'=>e= .returned (.tuple #[])/\Onto_Flow B w w'/\ao w' B (accS s i g0 g1 fits):=by
 have er:accS s i g0 g1 fits={setX s i.m (if fits then 0 else 1) with wa:=0,wl:=0}:=by unfold accS;simp [hw,hx]
 rw [er]
 clear er
 have hB:B<w.heap.size:=hS.lt
 have WR:=Zh (fun W=>d9 i.op W)
 have EX:=Zh (fun W=>eI i.op W)
 have PA:=Zh (fun W=>dK i.op W)
 have WH:=Zh (fun W h=>ed s i hf hs B W h)
 have PU:=Zh (fun (t:St) (n:Int) (v:Nat) (x:Int) (hx:x=(v:Int)) (hn:0<=n/\n<=31) W h=>ew t n v x hx B hn W h)
 have HS:=Zh hS
 have hl:=dg hf
 have MK:=Zh (fun W=>bP (dY (8*lenI i) Za Za W))
 have hd:=hf.d
 have he:=hf.e
 have hm:=hf.m
 rw [hw] at WR
 rw [hx] at EX
 clear hw hx
 generalize spanA s i=SA at*
 generalize lenI i=L at*
 clear hs hf hS
 obtain ⟨op,d,n,m,e,sz,imm⟩:=i
 unfold insV spV at*
 simp only at*
 cases fits
 ·go_enter Tryz.func167,Tryz.ntmps167
  go_upto_region 10 with (first
   |(go_at_call 156;refine (WH.out _ Z48_).mono ?_;rintro e w9 ⟨rfl,p,rfl⟩)
   |(go_at_call 155;refine (WR.out _).mono ?_;rintro e w9 ⟨rfl,rfl⟩)
   |(go_at_call 159;refine (PA.out _).mono ?_;rintro e w9 ⟨rfl,rfl⟩)
   |(go_at_call 157;refine (EX.out _).mono ?_;rintro e w9 ⟨rfl,rfl⟩)
   |(go_at_call 168;refine (PU.out s m 1 1 rfl hm _ ?_).mono ?_;(repeat (first|with_reducible exact HS.out|with_reducible refine aW ?_ _|with_reducible refine cH ?_ _));rintro e w2 ⟨rfl,ho_w2,hs_w2⟩))
  have q34:=(hs_w2 34 Za).1
  have u34:=(hs_w2 34 Za).2
  have q35:=(hs_w2 35 Za).1
  have u35:=(hs_w2 35 Za).2
  go_wp2_with fail
  go_returns
  refine ⟨rfl,?_,ei hs_w2 0 0⟩
  refine Onto_Flow.set (Onto_Flow.set (Onto_Flow.trans ?_ ho_w2) _ _) _ _
  repeat (first|with_reducible exact Onto_Flow.refl|with_reducible refine Onto_Flow.more ?_ _|with_reducible refine Onto_Flow.alloc ?_ _)
 ·go_enter Tryz.func167,Tryz.ntmps167
  go_upto_region 10 with (first
   |(go_at_call 156;refine (WH.out _ Z48_).mono ?_;rintro e w9 ⟨rfl,p,rfl⟩)
   |(go_at_call 155;refine (WR.out _).mono ?_;rintro e w9 ⟨rfl,rfl⟩)
   |(go_at_call 159;refine (PA.out _).mono ?_;rintro e w9 ⟨rfl,rfl⟩)
   |(go_at_call 157;refine (EX.out _).mono ?_;rintro e w9 ⟨rfl,rfl⟩)
   |(go_at_call 168;refine (PU.out s m 0 0 rfl hm _ ?_).mono ?_;(repeat (first|with_reducible exact HS.out|with_reducible refine aW ?_ _|with_reducible refine cH ?_ _));rintro e w2 ⟨rfl,ho_w2,hs_w2⟩))
  have q34:=(hs_w2 34 Za).1
  have u34:=(hs_w2 34 Za).2
  have q35:=(hs_w2 35 Za).1
  have u35:=(hs_w2 35 Za).2
  go_wp2_with fail
  go_returns
  refine ⟨rfl,?_,ei hs_w2 0 0⟩
  refine Onto_Flow.set (Onto_Flow.set (Onto_Flow.trans ?_ ho_w2) _ _) _ _
  repeat (first|with_reducible exact Onto_Flow.refl|with_reducible refine Onto_Flow.more ?_ _|with_reducible refine Onto_Flow.alloc ?_ _)
theorem yfA(s:St)(i:Ins)(hf:Facts i)(hs:s.ok)(g0 g1:Nat)(h0:g0<18446744073709551616)(fits:Bool)(hw:wrB i.op=true)(hx:exB i.op=false)(B:Nat)(w:qW)(hS:ao w B s):qC 167 #[pP B,insV i,.agg #[.int .u64 (g0:Nat),.int .u64 (g1:Nat)],.bool fits] w
  fun e w'=>e= .returned (.tuple #[])/\Onto_Flow B w w'/\ao w' B (accS s i g0 g1 fits):=by
 have er:accS s i g0 g1 fits=s:=by unfold accS;simp [hw,hx]
 rw [er]
 clear er
 have hB:B<w.heap.size:=hS.lt
 have WR:=Zh (fun W=>d9 i.op W)
 have EX:=Zh (fun W=>eI i.op W)
 have PA:=Zh (fun W=>dK i.op W)
 have WH:=Zh (fun W h=>ed s i hf hs B W h)
 have PU:=Zh (fun (t:St) (n:Int) (v:Nat) (x:Int) (hx:x=(v:Int)) (hn:0<=n/\n<=31) W h=>ew t n v x hx B hn W h)
 have HS:=Zh hS
 have hl:=dg hf
 have MK:=Zh (fun W=>bP (dY (8*lenI i) Za Za W))
 have hd:=hf.d
 have he:=hf.e
 have hm:=hf.m
 rw [hw] at WR
 rw [hx] at EX
 clear hw hx
 generalize spanA s i=SA at*
 generalize lenI i=L at*
 clear hs hf hS
 obtain ⟨op,d,n,m,e,sz,imm⟩:=i
 unfold insV spV at*
 simp only at*
 go_enter Tryz.func167,Tryz.ntmps167
 go_wp2_with (first
  |(go_at_call 156;refine (WH.out _ Z48_).mono ?_;rintro e w9 ⟨rfl,p,rfl⟩)
  |(go_at_call 155;refine (WR.out _).mono ?_;rintro e w9 ⟨rfl,rfl⟩)
  |(go_at_call 159;refine (PA.out _).mono ?_;rintro e w9 ⟨rfl,rfl⟩)
  |(go_at_call 157;refine (EX.out _).mono ?_;rintro e w9 ⟨rfl,rfl⟩))
 go_returns
 refine ⟨rfl,?_,?_⟩
 ·repeat (first|with_reducible exact Onto_Flow.refl|with_reducible refine Onto_Flow.more ?_ _|with_reducible refine Onto_Flow.alloc ?_ _)
 ·repeat (first|with_reducible exact HS.out|with_reducible refine aW ?_ _|with_reducible refine cH ?_ _)
theorem yfy(s:St)(i:Ins)(hf:Facts i)(hs:s.ok)(g0 g1:Nat)(h0:g0<18446744073709551616)(fits:Bool)(hw:wrB i.op=false)(hp:paB i.op=false)(hx:exB i.op=true)(B:Nat)(w:qW)(hS:ao w B s):qC 167 #[pP B,insV i,.agg #[.int .u64 (g0:Nat),.int .u64 (g1:Nat)],.bool fits] w
  fun e w'=>e= .returned (.tuple #[])/\Onto_Flow B w w'/\ao w' B (accS s i g0 g1 fits):=by
 have er:accS s i g0 g1 fits={setX s i.d (g0&&&mask (8*lenI i)) with wa:=spanA s i,wl:=lenI i}:=by unfold accS;simp [hw,hp,hx]
 rw [er]
 clear er
 have hB:B<w.heap.size:=hS.lt
 have WR:=Zh (fun W=>d9 i.op W)
 have EX:=Zh (fun W=>eI i.op W)
 have PA:=Zh (fun W=>dK i.op W)
 have WH:=Zh (fun W h=>ed s i hf hs B W h)
 have PU:=Zh (fun (t:St) (n:Int) (v:Nat) (x:Int) (hx:x=(v:Int)) (hn:0<=n/\n<=31) W h=>ew t n v x hx B hn W h)
 have HS:=Zh hS
 have hl:=dg hf
 have MK:=Zh (fun W=>bP (dY (8*lenI i) Za Za W))
 have hd:=hf.d
 have he:=hf.e
 have hm:=hf.m
 rw [hw] at WR
 rw [hp] at PA
 rw [hx] at EX
 clear hw hx hp
 generalize spanA s i=SA at*
 generalize lenI i=L at*
 clear hs hf hS
 obtain ⟨op,d,n,m,e,sz,imm⟩:=i
 unfold insV spV at*
 simp only at*
 go_enter Tryz.func167,Tryz.ntmps167
 go_upto_region 2 with (first
  |(go_at_call 156;refine (WH.out _ Z48_).mono ?_;rintro e w9 ⟨rfl,p,rfl⟩)
  |(go_at_call 155;refine (WR.out _).mono ?_;rintro e w9 ⟨rfl,rfl⟩)
  |(go_at_call 159;refine (PA.out _).mono ?_;rintro e w9 ⟨rfl,rfl⟩)
  |(go_at_call 157;refine (EX.out _).mono ?_;rintro e w9 ⟨rfl,rfl⟩))
 have HX:Hid (bits .and .u64 (g0:Nat) (mask (8*L):Nat)=((g0&&&mask (8*L):Nat):Int)):=Zh (u64_and_nat _ _ h0 (fs _))
 refine fO 10 Zb Zb ?_
 simp only [List.take_succ_cons,List.take_zero,List.drop_succ_cons,List.drop_zero]
 repeat (go_big_quiet_step (first|(go_at_call 160;exact az (MK.out _))))
 refine zaE ?_
 intro p10
 go_upto_region 3 with (go_at_call 168;refine (PU.out s d _ _ HX.out hd _ ?_).mono ?_;(repeat (first|with_reducible exact HS.out|with_reducible refine aW ?_ _|with_reducible refine cH ?_ _));rintro e w2 ⟨rfl,ho_w2,hs_w2⟩)
 have i0:w2.cell? (aB w.heap.size 0)=some (iI op):=(ho_w2.cell ZN Za).trans (by simp [go_sem,↓IntWalk.iteOmega])
 have p0:w2.cell? ⟨w.heap.size+1+1+p.os.size,0,none⟩=some (iI SA):=(ho_w2.cell ZN Za).trans (by simp [go_sem,↓IntWalk.iteOmega])
 have p1:w2.cell? ⟨w.heap.size+1+1+p.os.size,1,none⟩=some (iI L):=(ho_w2.cell ZN Za).trans (by simp [go_sem,↓IntWalk.iteOmega])
 have q34:=(hs_w2 34 Za).1
 have u34:=(hs_w2 34 Za).2
 have q35:=(hs_w2 35 Za).1
 have u35:=(hs_w2 35 Za).2
 go_wp2_with (go_at_call 157;refine (EX.out _).mono ?_;rintro e w9 ⟨rfl,rfl⟩)
 go_returns
 refine ⟨rfl,?_,ei hs_w2 SA L⟩
 refine Onto_Flow.set (Onto_Flow.set (Onto_Flow.trans ?_ ho_w2) _ _) _ _
 repeat (first|with_reducible exact Onto_Flow.refl|with_reducible refine Onto_Flow.more ?_ _|with_reducible refine Onto_Flow.alloc ?_ _)
theorem yfC(s:St)(i:Ins)(hf:Facts i)(hs:s.ok)(g0 g1:Nat)(h0:g0<18446744073709551616)(fits:Bool)(hw:wrB i.op=false)(hp:paB i.op=false)(hx:exB i.op=false)(B:Nat)(w:qW)(hS:ao w B s):qC 167 #[pP B,insV i,.agg #[.int .u64 (g0:Nat),.int .u64 (g1:Nat)],.bool fits] w
  fun e w'=>e= .returned (.tuple #[])/\Onto_Flow B w w'/\ao w' B (accS s i g0 g1 fits):=by
 have er:accS s i g0 g1 fits=setX s i.d (g0&&&mask (8*lenI i)):=by unfold accS;simp [hw,hp,hx]
 rw [er]
 clear er
 have hB:B<w.heap.size:=hS.lt
 have WR:=Zh (fun W=>d9 i.op W)
 have EX:=Zh (fun W=>eI i.op W)
 have PA:=Zh (fun W=>dK i.op W)
 have WH:=Zh (fun W h=>ed s i hf hs B W h)
 have PU:=Zh (fun (t:St) (n:Int) (v:Nat) (x:Int) (hx:x=(v:Int)) (hn:0<=n/\n<=31) W h=>ew t n v x hx B hn W h)
 have HS:=Zh hS
 have hl:=dg hf
 have MK:=Zh (fun W=>bP (dY (8*lenI i) Za Za W))
 have hd:=hf.d
 have he:=hf.e
 have hm:=hf.m
 rw [hw] at WR
 rw [hp] at PA
 rw [hx] at EX
 clear hw hx hp
 generalize spanA s i=SA at*
 generalize lenI i=L at*
 clear hs hf hS
 obtain ⟨op,d,n,m,e,sz,imm⟩:=i
 unfold insV spV at*
 simp only at*
 go_enter Tryz.func167,Tryz.ntmps167
 go_upto_region 2 with (first
  |(go_at_call 156;refine (WH.out _ Z48_).mono ?_;rintro e w9 ⟨rfl,p,rfl⟩)
  |(go_at_call 155;refine (WR.out _).mono ?_;rintro e w9 ⟨rfl,rfl⟩)
  |(go_at_call 159;refine (PA.out _).mono ?_;rintro e w9 ⟨rfl,rfl⟩)
  |(go_at_call 157;refine (EX.out _).mono ?_;rintro e w9 ⟨rfl,rfl⟩))
 have HX:Hid (bits .and .u64 (g0:Nat) (mask (8*L):Nat)=((g0&&&mask (8*L):Nat):Int)):=Zh (u64_and_nat _ _ h0 (fs _))
 refine fO 10 Zb Zb ?_
 simp only [List.take_succ_cons,List.take_zero,List.drop_succ_cons,List.drop_zero]
 repeat (go_big_quiet_step (first|(go_at_call 160;exact az (MK.out _))))
 refine zaE ?_
 intro p10
 go_upto_region 3 with (go_at_call 168;refine (PU.out s d _ _ HX.out hd _ ?_).mono ?_;(repeat (first|with_reducible exact HS.out|with_reducible refine aW ?_ _|with_reducible refine cH ?_ _));rintro e w2 ⟨rfl,ho_w2,hs_w2⟩)
 have i0:w2.cell? (aB w.heap.size 0)=some (iI op):=(ho_w2.cell ZN Za).trans (by simp [go_sem,↓IntWalk.iteOmega])
 have p0:w2.cell? ⟨w.heap.size+1+1+p.os.size,0,none⟩=some (iI SA):=(ho_w2.cell ZN Za).trans (by simp [go_sem,↓IntWalk.iteOmega])
 have p1:w2.cell? ⟨w.heap.size+1+1+p.os.size,1,none⟩=some (iI L):=(ho_w2.cell ZN Za).trans (by simp [go_sem,↓IntWalk.iteOmega])
 go_wp2_with (go_at_call 157;refine (EX.out _).mono ?_;rintro e w9 ⟨rfl,rfl⟩)
 go_returns
 refine ⟨rfl,?_,hs_w2⟩
 refine Onto_Flow.trans ?_ ho_w2
 repeat (first|with_reducible exact Onto_Flow.refl|with_reducible refine Onto_Flow.more ?_ _|with_reducible refine Onto_Flow.alloc ?_ _)
theorem yfw(s:St)(i:Ins)(hf:Facts i)(hs:s.ok)(g0 g1:Nat)(h0:g0<18446744073709551616)(fits:Bool)(hp:paB i.op=false)(B:Nat)(w:qW)(hS:ao w B s):qC 167 #[pP B,insV i,.agg #[.int .u64 (g0:Nat),.int .u64 (g1:Nat)],.bool fits] w
  fun e w'=>e= .returned (.tuple #[])/\Onto_Flow B w w'/\ao w' B (accS s i g0 g1 fits):=by
 cases hw:wrB i.op
 ·cases hx:exB i.op
  ·exact yfC s i hf hs g0 g1 h0 fits hw hp hx B w hS
  ·exact yfy s i hf hs g0 g1 h0 fits hw hp hx B w hS
 ·cases hx:exB i.op
  ·exact yfA s i hf hs g0 g1 h0 fits hw hx B w hS
  ·exact yfz s i hf hs g0 g1 h0 fits hw hx B w hS
theorem pE{B:Nat}{w w':qW}{b n:Nat}(h:w.there b 0 n)(hb:b<w.heap.size)(ho:Onto_Flow B w w')(hB:b≠B):w'.there b 0 n:=fun j hj=>by
 rw [ho.cell hb hB,ho.frozen hb]
 exact h j hj
structure NextW(w wx:qW)(s:St)(i:Ins)(g0 g1:Nat):Prop where
 st:ao wx w.heap.size s
 ins:IAt wx (w.heap.size+1) i
 got:Two wx (w.heap.size+1+1) (.int .u64 (g0:Nat)) (.int .u64 (g1:Nat))
 res:wx.there (w.heap.size+1+1+1) 0 36
 rlt:w.heap.size+1+1+1<wx.heap.size
 below:Below w.heap.size w wx
theorem NextW.onto{w wx wy:qW}{s t:St}{i:Ins}{g0 g1:Nat}(h:NextW w wx s i g0 g1)(ho:Onto_Flow w.heap.size wx wy)(ht:ao wy w.heap.size t):NextW w wy t i g0 g1:=
 ⟨ht,h.ins.onto ho Za,h.got.onto ho Za,pE h.res h.rlt ho Za,zar h.rlt ho.size,ho.under h.below (zaq _)⟩
theorem NextW.more{w wx:qW}{s:St}{i:Ins}{g0 g1:Nat}(h:NextW w wx s i g0 g1)(p:Regrown):NextW w (more wx p) s i g0 g1:=h.onto (Onto_Flow.refl.more p) (aW h.st p)
theorem pF(w:qW)(c:Array qV)(t:TypeId):(w.alloc (.cells c t)).there w.heap.size 0 c.size:=fun j hj=>by
 rw [aV,d8,if_neg Za,if_pos rfl,if_neg Za]
 simp [hj]
theorem wT(w:qW)(s:St)(i:Ins)(g0 g1:Nat)(c:Array qV)(hc:c.size=36):NextW w ((((w.alloc (.cells (stC s.f) 78)).alloc (.cells #[iI i.op,iI i.d,iI i.n,iI i.m,iI i.e,iI i.sz,iI i.imm] 83)).alloc (.cells #[.int .u64 (g0:Nat),.int .u64 (g1:Nat)] 171)).alloc (.cells c 78)) s i g0 g1:=by
 refine ⟨?_,?_,?_,?_,?_,?_⟩
 ·exact cH (cH (cH (jA w s _) _) _) _
 ·refine IAt.below (IAt.below (ip (w.alloc (.cells (stC s.f) 78)) i 83 (w.heap.size+1) Zg) (ab (zaa _ _) _)) (ab (zaa _ _) _)
 ·unfold Two
  simp [aV]
 ·have h:=pF (((w.alloc (.cells (stC s.f) 78)).alloc (.cells #[iI i.op,iI i.d,iI i.n,iI i.m,iI i.e,iI i.sz,iI i.imm] 83)).alloc (.cells #[.int .u64 (g0:Nat),.int .u64 (g1:Nat)] 171)) c 78
  rw [hc] at h
  simpa using h
 ·simp
 ·exact ab (ab (ab (ab (zaa _ _) _) _) _) _
theorem aY{P:Program}{c:Code}{Q:Exit->Act->qW->Prop}{a:Act}{wx:qW}(R:qW->Prop)(h:R wx)(k: ∀wy,R wy->c.wp P Q a wy):c.wp P Q a wx:=k wx h
def stL(s:St):List qV:=(List.range 36).map s.f
theorem rt{w:qW}{B:Nat}{s:St}(h:ao w B s):w.rangeAt B 0 ((List.range 36).map s.f):=fun j v hv=>by
 have hj:j<36:=by
  have:=(List.getElem?_eq_some_iff.1 hv).1
  simpa using this
 rw [zaj,List.getElem?_range hj] at hv
 simp at hv
 subst hv
 rw [zag]
 exact (h j hj).1
theorem cm{a:qW}{b:Nat}(hb:a.heap.size<=b): ∀(vs:List qV) (o:Nat) (w:qW),Below a.heap.size a w->Below a.heap.size a (w.setCells b o vs)
 |[],_,_,h=>h
 |v::r,o,w,h=>cm hb r (o+1) _ (ay h hb v)
theorem cA{Y:qW}{r:Nat}{q:Int}{tmps:Array qV}{s:St}(hY:Y.there r 0 36)(h8:tmps.getD 8 undef=pP r)(h9:tmps.getD 9 undef=iI q):
  (results Tryz.f105 tmps).run Tryz.prog (Y.setCells r 0 (stL s))= .ok (.tuple #[stV s,iI q]) (Y.setCells r 0 (stL s)):=by
 have hr:(World.setCells Y r 0 (stL s)).rangeAt r 0 (stL s):=World.rangeAt_setCells_same Y r 0 _ (by simpa [stL] using hY)
 have hl:=run_loadVar_mid (P:=Tryz.prog) (World.setCells Y r 0 (stL s)) r 0 78 (stL s) _ hr Tryz.underlying78 rfl (by simpa [stL] using dS)
 have:=gu (fn:=Tryz.f105) (t:=9) (show Tryz.f105.results=#[.cell 8 78,.tmp 9] from rfl) h8 hl
 rw [h9] at this
 exact this
theorem co{ops:Array Oper}{rest:List Oper}{op:Oper}{a:Act}{w:qW}{Q:Exit->Act->qW->Prop}{s:St}{b:Nat}(x:Operand)(hgd:op.guard=none)(ho:op.op= .load 78 x)(hx:a.eval x=pP b)(hS:ao w b s)
  (h:wpList Tryz.prog ops Q rest (a.put op.dst (stV s)) w):wpList Tryz.prog ops Q (op::rest) a w:=
 wpList_load_mid hgd 78 x ho b 0 hx ((List.range 36).map s.f) _ (rt hS) Tryz.underlying78 rfl (by simpa using dS) h
theorem cn{ops:Array Oper}{rest:List Oper}{op:Oper}{a:Act}{w:qW}{Q:Exit->Act->qW->Prop}{s:St}{b:Nat}(x y:Operand)(hgd:op.guard=none)(ho:op.op= .store 78 x y)(hx:a.eval x=pP b)(hy:a.eval y=stV s)(ht:w.there b 0 36)
  (h:wpList Tryz.prog ops Q rest (a.put op.dst undef) (w.setCells b 0 (stL s))):wpList Tryz.prog ops Q (op::rest) a w:=by
 refine wpList_store_mid hgd 78 x y ho b 0 (stC s.f) hx hy (by rw [cO];exact ht) (by rw [cO];exact dS) (fT s) ?_
 exact h
theorem u64_in(x:Int):0<=IntKind.u64.wrap x/\IntKind.u64.wrap x<18446744073709551616:=by
 rw [IntKind.wrap_u64]
 omega
def inU(y:Int):Prop:=0<=y/\y<18446744073709551616
theorem ycd(c:Prop)[Decidable c]{a b:Int}(h1:inU a)(h2:inU b):inU (if c then a else b):=by
 by_cases h:c
 ·rw [if_pos h];exact h1
 ·rw [if_neg h];exact h2
theorem lm(s:St)(i:Ins)(hf:Facts i)(hs:s.ok):0<=numI s i/\numI s i<18446744073709551616:=by
 have gn:=bY hs i.n
 have gm:=bY hs i.m
 have gd:=bY hs i.d
 have BR:=tO (getX s i.d) (16*i.e) 16 i.imm.toNat gd
 show inU (numI s i)
 unfold numI
 repeat' (with_reducible refine ycd _ ?_ ?_)
 all_goals unfold inU
 all_goals first
  |exact u64_in _
  |omega
  |skip
 ·have h1:(0:Int)<=(getX s i.n:Int)/2^((getX s i.m:Int)%64).toNat:=Int.ediv_nonneg Za (Int.le_of_lt (Int.pow_pos Za))
  have h2:(getX s i.n:Int)/2^((getX s i.m:Int)%64).toNat<=(getX s i.n:Int):=Int.ediv_le_self _ Za
  omega
def bodyS(s:St)(i:Ins)(g0 g1:Nat)(fits:Bool):St:=
 if i.op=30 then {s with wa:=0,wl:=0}
 else if meB i.op then accS s i g0 g1 fits
 else if numB i.op then setX (if i.op=5 then {s with z:=numI s i==0,c:=decide (getX s i.m<=getX s i.n)} else s) i.d (numI s i).toNat
 else s
def nextS(s:St)(i:Ins)(g0 g1:Nat)(fits:Bool):St:={bodyS s i g0 g1 fits with pc:=wrap64 (if takB s i then s.pc+i.imm else s.pc+1)}

end Go.Proofs.YtjmfoeajhiimnaaGreatDoor
