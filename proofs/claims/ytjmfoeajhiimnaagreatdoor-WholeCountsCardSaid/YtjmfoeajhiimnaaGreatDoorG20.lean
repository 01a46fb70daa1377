/- Walks. No condition. -/
import Derived.Test.YtjmfoeajhiimnaaGreatDoorG19
set_option maxRecDepth 100000
set_option maxHeartbeats 0
set_option linter.all false
namespace Go.Proofs.YtjmfoeajhiimnaaGreatDoor
open Go.RowKit Go.Sort
theorem yeD:(Tryz.prog.info? 277).map (fun i=>(i.zero,i.size,i.bytes))=some (some (.agg #[iI 0,iI 0]),2,16):=by kernel_rfl
theorem jS(v:qV)(W:qW):(Instr.typeAssert (.iface 277 v) 20 277 false).run Tryz.prog W= .ok v W:=by kernel_rfl
section
variable{w0 W W' w:qW}{M:Nat}{F F1:Nat->Prop}{fv uv:qV}{P:Pool}
theorem PoX.put{W2:qW}(h:PoX w0 M F fv uv W P)(r:Rw)(hr:r∈poR P){v':qV}{n':Nat}{xs':List qV}(hk:Kp (fun k=>(fld (poC fv uv P) r.ix).ownBlock=some k) W W2)(hown:W2.ownsRow (M+1) r.e r.sz v' n' xs')(hg: ∀k,v'.ownBlock=some k->(fld (poC fv uv P) r.ix).ownBlock=some k\/W.heap.size<=k)
  {fv' uv':qV} {P':Pool} (e1:(poC fv uv P).setIfInBounds r.ix v'=poC fv' uv' P') (e2:(poR P).map (fun q=>if q.ix=r.ix then {q with n:=n',xs:=xs'} else q)=poR P') (hf:PFin P'):
  ∃F',PoX w0 M F' fv' uv' (W2.setCell ⟨M,r.ix,none⟩ v') P'/\Kp F W (W2.setCell ⟨M,r.ix,none⟩ v')/\Rq F F' W.heap.size:=by
 have Cc:r.ix<(poC fv uv P).size:=by
  simp only [poR,zaM,zaN,or_false] at hr
  rcases hr with rfl|rfl<;>simp [poC]
 obtain ⟨p1,p2,p3⟩:=h.ob.put hr Cc hk hown hg
 rw [e1,e2] at p1 p3
 have xp:Kp F W (W2.setCell ⟨M,r.ix,none⟩ v'):=p2.mono (fun k _ e=>(h.ft k).2 e)
 exact ⟨fun k=>foot M (poC fv' uv' P') (poR P') k,⟨p1,fun k=>Iff.rfl,aI h.bl xp (fun k e=>(h.inb e).1),h.le,hf⟩,xp,⟨fun k hk=>(p3 k hk).imp (fun e=>(h.ft k).2 e) id⟩⟩
theorem PoX.app{X W2:qW}{g cap:Nat}(h:PoX w0 M F fv uv W P)(r:Rw)(hr:r∈poR P){new:List qV}(hx:Kp (fun _=>False) W X)(xb:X.grownBy W2 (fld (poC fv uv P) r.ix).ownBlock)(hown:W2.ownsRow (M+1) r.e r.sz (.slice (aA g) (r.n+1) cap) (r.n+1) (r.xs++new))(xk:(fld (poC fv uv P) r.ix).ownBlock=some g\/g=X.heap.size)
  {fv' uv':qV} {P':Pool} (e1:(poC fv uv P).setIfInBounds r.ix (.slice (aA g) (r.n+1) cap)=poC fv' uv' P') (e2:(poR P).map (fun q=>if q.ix=r.ix then {q with n:=r.n+1,xs:=r.xs++new} else q)=poR P') (hf:PFin P'):
  ∃F',PoX w0 M F' fv' uv' (W2.setCell ⟨M,r.ix,none⟩ (.slice (aA g) (r.n+1) cap)) P'/\Kp F W (W2.setCell ⟨M,r.ix,none⟩ (.slice (aA g) (r.n+1) cap))/\Rq F F' W.heap.size:=by
 refine h.put r hr ((hx.mono (fun _ _ e=>e.elim)).trans ((Kp.of_grown xb).mono (fun k _ e=>e.symm))) hown (fun k hk=>?_) e1 e2 hf
 obtain rfl:g=k:=by simpa [Value.ownBlock] using hk
 have:=hx.size
 rcases xk with e|e
 ·exact .inl e
 ·exact .inr Za
theorem ub{P:Pool}(x:Int×Int):(poR P).map (fun q=>if q.ix=1 then {q with n:=P.used.length+1,xs:=P.used.flatMap bzC++bzC x} else q)=poR {P with used:=P.used++[x]}:=by simp [poR]
theorem ud{P:Pool}(x:Int):(poR P).map (fun q=>if q.ix=0 then {q with n:=P.free.length+1,xs:=P.free.flatMap numC++numC x} else q)=poR {P with free:=P.free++[x]}:=by simp [poR]
theorem s9(w:qW)(h:PoX w0 M F fv uv w P)(x:Int×Int)(hf:PFin {P with used:=P.used++[x]}):qC 329 #[.pointer (some ⟨M,1,none⟩),.iface 277 (.agg #[iI x.1,iI x.2])] w (fun e w'=>e= .returned (.tuple #[])/\ ∃F' g c,PoX w0 M F' fv (.slice (aA g) (P.used.length+1) c) w' {P with used:=P.used++[x]}/\Kp F w w'/\Rq F F' w.heap.size):=by
 obtain ⟨i0,xF,xx,xu,xq⟩:=zan yeD
 have j':=h.bd
 have q1: ∀j,w.cell? (aB M j)=(#[fv,uv,iI P.next,iI P.most]:Array qV)[j]?:=aa h.ob.out
 have qf:=ah h.ob.out
 have yO:=h.own1
 have HW:=Zh h
 have xB:=Zh yO
 have Fs:=hf.used
 simp only [zaO,za2,zaV] at Fs
 clear h yO
 have NM:=jS
 go_enter Tryz.func329,Tryz.ntmps329
 go_wp2_with fail
 have hA:True:=trivial
 have hB:w.drew.cell? (aB M 1)=some uv:=q1 1
 refine ae (fun W=>True) (fun W=>W.cell? (aB M 1)=some uv) 9 rfl ?_
 refine Zp 0 rfl (h:=Zp 1 rfl (h:=Zp 2 rfl (h:=Zl 3 [7,9] rfl (h:=Zp 4 rfl (h:=Zp 5 rfl (h:=?_))))));try simp only [Zq]
 refine Zs 6 rfl fun K hK=>?_
 go_simp
 refine hK _ _ ⟨trivial,fun _=>(aj j'.2).trans (q1 1)⟩ ?_
 refine Zs 7 rfl fun K hK=>?_
 refine bf (.tmp 7) (.tmp 10) 217 277 i0 _ 2 16 Tryz.underlying217 xF xx xu xq rfl Zd rfl rfl (M+1) uv P.used.length (P.used.flatMap bzC) (ax xB.out (fun g hg=>zac _ _ (xB.out.lt g hg).2)) w.heap.size #[iI x.1,iI x.2] 277 (0,0) (zab _ _) ZA ZA rfl ZD Za Za Zc ?_
 intro g2 cap2 w2 hown xb xk xE
 have hD:=Zh (HW.out.app ⟨1,277,2,P.used.length,P.used.flatMap bzC⟩ (.tail _ (.head _)) (new:=bzC x) ((Kp.dr w).trans (Kp.al _ _)) xb hown xk (P':={P with used:=P.used++[x]}) rfl (ub x) hf)
 have wZ:Kp (fun k=>uv.ownBlock=some k) (w.drew.alloc _) w2:=(Kp.of_grown xb).mono (fun k _ e=>e.symm)
 have kc: ∀j,w2.cell? (aB M j)=(#[fv,uv,iI P.next,iI P.most]:Array qV)[j]?:=fun j=>((wZ.cell Zc (fun e=>by have:=(xB.out.lt _ e).1;omega)).trans (aj j'.2)).trans (q1 j)
 have kf: ∀j,w2.frozen? (aB M j)=false:=ah ((wZ.block M Zc (fun e=>by have:=(xB.out.lt _ e).1;omega)).trans ((zac _ _ j'.2).trans HW.out.ob.out))
 clear hown xb xk wZ
 refine hK _ _ ⟨trivial,fun _=>kc 1⟩ ?_
 clear hK K hA hB
 have hA:True:=trivial
 have hB:w2.cell? (aB M 1)=some uv:=kc 1
 refine Zp 8 rfl (h:=?_);try simp only [Zq]
 refine Zs 9 rfl fun K hK=>?_
 go_simp
 refine hK _ _ ⟨trivial,fun hh=>Bool.noConfusion (hh.symm.trans (show _=true by kernel_rfl))⟩ ?_
 refine af Zb ?_ _
 go_wp2_with fail
 go_end0
 obtain ⟨F1,C0,zg,yh⟩:=hD.out
 exact ⟨rfl,F1,⟨g2,cap2,C0⟩,zg,yh⟩
theorem mq(w:qW)(h:Po w0 M F w P)(x:Int×Int)(hf:PFin {P with used:=P.used++[x]}):qC 135 #[.iface 279 (.pointer (some ⟨M,1,none⟩)),.iface 277 (.agg #[iI x.1,iI x.2])] w (PoD w0 M F w {P with used:=qPush P.used x} (.tuple #[])):=by
 obtain ⟨fv,uv,h⟩:=h
 have c1:=Zh (s9 w h x hf)
 have Fs:=hf.used
 simp only [zaO,za2,zaV] at Fs
 clear h
 go_enter Tryz.func135,Tryz.ntmps135
 go_wp2_with fail
 go_at_call 329
 refine c1.out.mono ?_
 rintro e w1 ⟨rfl,F1,g,c,hx,hk,hr⟩
 have Bl:w1.cell? (aB M 1)=some (.slice (aA g) (P.used.length+1) c):=by rw [aa hx.ob.out];rfl
 have L0:=fun k=>kq k w1 M _ _ _ Bl
 have HX:=Zh hx
 have HK:=Zh hk
 have HR:=Zh hr
 clear hx hk hr Bl
 go_wp2_with fail
 go_at_call 325
 refine (lS _ _ _ _).mono ?_
 rintro e w2 ⟨rfl,p,rfl⟩
 have c2:=Zh (pm (P:={P with used:=P.used++[x]}) (g:=g) (c:=c) (more w1 p) (by have:=HX.out.below (au w1 p);simp only [zaO,za2,zaV];exact this) P.used.length Zg)
 go_wp2_with fail
 go_at_call 211
 refine c2.out.mono ?_
 rintro e w3 ⟨rfl,Ln,An⟩
 have PF:=Zh Ln
 have Qp:=Zh An
 clear Ln An
 go_wp2_with fail
 go_end0
 refine ⟨rfl,F1,⟨fv,.slice (aA g) (P.used.length+1) c,?_⟩,HK.out.next ((Kp.mo (X:=F1) w1 p).trans Qp.out) (fun k hk e=>(HR.out.r k e).elim id (fun e=>by omega)),HR.out⟩
 have:=PF.out
 simp only [zaO,za2,zaV] at this
 exact this
end
section
variable{w0 W W' w:qW}{M:Nat}{F F1:Nat->Prop}{fv uv:qV}{P:Pool}
def DnD(w0:qW)(M:Nat)(F:Nat->Prop)(fv:qV)(g c N:Nat)(P:Pool)(w:qW)(T:List (Int×Int))(e:Ending)(w':qW):Prop:= ∃b:Bool,e= .returned (.bool b)/\PoX w0 M F fv (.slice (aA g) N c) w' {P with used:=T}/\Kp F w w'
theorem kr: ∀(f:Nat) (q:List (Int×Int)) (i n:Nat),(qDown f q i n).length=q.length:=by
 intro f
 induction f with
 |zero=>exact fun _ _ _=>rfl
 |succ f ih=>
  intro q i n
  unfold qDown
  simp only []
  repeat' split
  all_goals first|rfl|rw [ih,bQ]
theorem ti{f i n:Nat}{q T:List (Int×Int)}(h:qDown f q i n=T)(hn:n<=2*i+1):q=T:=by
 cases f with
 |zero=>exact h
 |succ f=>rw [<-h,qDown,if_pos hn]
theorem gx{f i n j:Nat}{q T:List (Int×Int)}(h:qDown f q i n=T)(hf:n<=i+f)(hn: ¬n<=2*i+1)(hj:(if 2*i+2<n/\qLess q (2*i+2) (2*i+1)=true then 2*i+2 else 2*i+1)=j):
  (if (!qLess q j i)=true then q else qDown (f-1) (qSwap q i j) j n)=T:=by
 obtain ⟨m,rfl⟩: ∃m,f=m+1:=⟨f-1,by omega⟩
 rw [<-h,qDown,if_neg hn]
 simp only [hj,Nat.add_sub_cancel]
theorem ydI{g c N:Nat}(w:qW)(h:PoX w0 M F fv (.slice (aA g) N c) w P)(hN:P.used.length=N)(n:Nat)(hn:n<=N)(f:Nat)(hf:n<=f):qC 208 #[.iface 279 (.pointer (some ⟨M,1,none⟩)),iI 0,iI n] w (DnD w0 M F fv g c N P w (qDown f P.used 0 n)):=by
 have Gn : ∀ (k : Nat) (W : qW), W.cell? (aB M 1) = some (.slice (aA g) N c) -> (Go.method (k + 1) 279 (.pointer (some ⟨M, 1, none⟩)) "Less").run Tryz.prog W = .ok (326, .slice (aA g) N c) W := fun k W hc => kn k W M _ _ _ hc
 have Gm : ∀ (k : Nat) (W : qW), W.cell? (aB M 1) = some (.slice (aA g) N c) -> (Go.method (k + 1) 279 (.pointer (some ⟨M, 1, none⟩)) "Swap").run Tryz.prog W = .ok (327, .slice (aA g) N c) W := fun k W hc => gw k W M _ _ _ hc
 have Am:=h.fin.used
 rw [hN] at Am
 have HB:=Zh h
 have Au:F g:=(h.ft g).2 (.inr ⟨_,.tail _ (.head _),rfl⟩)
 generalize hT:qDown f P.used 0 n=T
 have HT:=Zh hT
 clear h hT
 go_enter Tryz.func208,Tryz.ntmps208
 go_wp2_with fail
 go_loopw [7] (fun v7 wr=> ∃(i f:Nat) (q:List (Int×Int)),v7=iI i/\i<=n/\n<=i+f/\q.length=N/\Hid (PoX w0 M F fv (.slice (aA g) N c) wr {P with used:=q})/\Hid (Kp F w wr)/\Hid (qDown f q i n=T)) (fun v7 _=>n-(intOf v7).toNat)
 case atStart=>exact ⟨0,f,P.used,rfl,zaB _,by omega,hN,HB,Zh (Kp.refl _ _),HT⟩
 case round=>
  obtain ⟨i,f,q,rfl,hi,hf,hq,HB,HK,HT⟩:=hrel
  clear hN
  obtain ⟨i',pi⟩:=HB.out.rules
  have j':=HB.out.bd
  have Bl:wr.cell? (aB M 1)=some (.slice (aA g) N c):=by rw [aa HB.out.ob.out];rfl
  have BP: ∀p,(more wr p).cell? (aB M 1)=some (.slice (aA g) N c):=fun p=>by rw [dd,if_pos j'.2];exact Bl
  have LD: ∀p p2,(more (more wr p) p2).cell? (aB M 1)=some (.slice (aA g) N c):=fun p p2=>by rw [dd,if_pos (by simp only [aZ];omega)];exact BP p
  have L0:=fun k=>Gn k wr Bl
  have L1:=fun k p=>Gn k (more wr p) (BP p)
  have S1:=fun k p=>Gm k (more wr p) (BP p)
  have S2:=fun k p p2=>Gm k (more (more wr p) p2) (LD p p2)
  have CL:=Zh (fun (W:qW) (hb:Below wr.heap.size wr W) i k hi hk=>lQ W g c q (B:=M+1) (e:=277) (by have h9:=(HB.out.below hb).own1;simp only [hq] at h9 ⊢;exact h9) i k hi hk)
  have CS:=Zh (fun (W:qW) (hb:Below wr.heap.size wr W) i k hi hk=>fS W M g c q (by have h9:=(HB.out.below hb).own1;simp only [hq] at h9 ⊢;exact h9) i k hi hk)
  rw [hq] at CL CS
  clear Bl BP LD Gn Gm i' pi
  by_cases h1:n<=2*i+1
  ·have BQ:=ti HT.out h1
   subst BQ
   go_wp2_with fail
   go_ret
   exact ⟨_,rfl,HB.out,HK.out⟩
  ·by_cases h2:2*i+2<n
   ·cases yn:qLess q (2*i+2) (2*i+1)
    ·have xz:=Zh (gx (j:=2*i+1) HT.out hf h1 (by rw [if_neg (by rintro ⟨e,e2⟩;rw [yn] at e2;cases e2)]))
     have C1:=Zh (fun (W:qW) xo=>CL.out W xo (2*i+2) (2*i+1) Za Za)
     rw [yn] at C1
     cases xA:qLess q (2*i+1) i
     ·have C2:=Zh (fun (W:qW) xo=>CL.out W xo (2*i+1) i Za Za)
      rw [xA] at C2
      clear CL CS
      go_wp2_with fail
      go_at_call 326
      refine (C1.out _ Zr).mono ?_
      rintro e w1 ⟨rfl,p,rfl⟩
      go_wp2_with fail
      go_at_call 326
      refine (C2.out _ Zr).mono ?_
      rintro e w1 ⟨rfl,p,rfl⟩
      go_wp2_with fail
      go_ret
      have BQ:q=T:=by rw [<-xz.out,if_pos (by rw [xA];rfl)]
      subst BQ
      exact ⟨_,rfl,HB.out.below Zr,((by repeat (first|with_reducible exact HK.out|with_reducible apply Kp.more)):Kp F w _)⟩
     ·have C2:=Zh (fun (W:qW) xo=>CL.out W xo (2*i+1) i Za Za)
      rw [xA] at C2
      have C3:=Zh (fun (W:qW) xo=>CS.out W xo i (2*i+1) Za Za)
      clear CL CS
      go_wp2_with fail
      go_at_call 326
      refine (C1.out _ Zr).mono ?_
      rintro e w1 ⟨rfl,p,rfl⟩
      go_wp2_with fail
      go_at_call 326
      refine (C2.out _ Zr).mono ?_
      rintro e w1 ⟨rfl,p,rfl⟩
      go_wp2_with fail
      go_at_call 327
      refine (C3.out _ Zr).mono ?_
      intro e w1 hD
      obtain rfl:=hD.1
      have HD:=Zh hD
      clear hD
      go_wp2_with fail
      refine ⟨⟨2*i+1,f-1,qSwap q i (2*i+1),by go_num,by omega,by omega,by rw [bQ];exact hq,Zh ?_,Zh ?_,Zh ?_⟩,by simp [intOf];omega⟩
      ·subst hq
       exact PoX.quD (P:={P with used:=q}) (g:=g) (c:=c) (HB.out.below Zr) (q':=qSwap q i (2*i+1)) (W2:=w1) (r:= .tuple #[]) (e:= .returned (.tuple #[])) HD.out (bQ q i (2*i+1))
      ·exact ((by repeat (first|with_reducible exact HK.out|with_reducible apply Kp.more):Kp F w _)).trans (HD.out.2.1.mono (fun k _ e=>e ▸ Au))
      ·rw [<-xz.out,if_neg (by rw [xA];decide)]
    ·have xz:=Zh (gx (j:=2*i+2) HT.out hf h1 (by rw [if_pos ⟨h2,yn⟩]))
     have C1:=Zh (fun (W:qW) xo=>CL.out W xo (2*i+2) (2*i+1) Za Za)
     rw [yn] at C1
     cases xA:qLess q (2*i+2) i
     ·have C2:=Zh (fun (W:qW) xo=>CL.out W xo (2*i+2) i Za Za)
      rw [xA] at C2
      clear CL CS
      go_wp2_with fail
      go_at_call 326
      refine (C1.out _ Zr).mono ?_
      rintro e w1 ⟨rfl,p,rfl⟩
      go_wp2_with fail
      go_at_call 326
      refine (C2.out _ Zr).mono ?_
      rintro e w1 ⟨rfl,p,rfl⟩
      go_wp2_with fail
      go_ret
      have BQ:q=T:=by rw [<-xz.out,if_pos (by rw [xA];rfl)]
      subst BQ
      exact ⟨_,rfl,HB.out.below Zr,((by repeat (first|with_reducible exact HK.out|with_reducible apply Kp.more)):Kp F w _)⟩
     ·have C2:=Zh (fun (W:qW) xo=>CL.out W xo (2*i+2) i Za Za)
      rw [xA] at C2
      have C3:=Zh (fun (W:qW) xo=>CS.out W xo i (2*i+2) Za Za)
      clear CL CS
      go_wp2_with fail
      go_at_call 326
      refine (C1.out _ Zr).mono ?_
      rintro e w1 ⟨rfl,p,rfl⟩
      go_wp2_with fail
      go_at_call 326
      refine (C2.out _ Zr).mono ?_
      rintro e w1 ⟨rfl,p,rfl⟩
      go_wp2_with fail
      go_at_call 327
      refine (C3.out _ Zr).mono ?_
      intro e w1 hD
      obtain rfl:=hD.1
      have HD:=Zh hD
      clear hD
      go_wp2_with fail
      refine ⟨⟨2*i+2,f-1,qSwap q i (2*i+2),by go_num,by omega,by omega,by rw [bQ];exact hq,Zh ?_,Zh ?_,Zh ?_⟩,by simp [intOf];omega⟩
      ·subst hq
       exact PoX.quD (P:={P with used:=q}) (g:=g) (c:=c) (HB.out.below Zr) (q':=qSwap q i (2*i+2)) (W2:=w1) (r:= .tuple #[]) (e:= .returned (.tuple #[])) HD.out (bQ q i (2*i+2))
      ·exact ((by repeat (first|with_reducible exact HK.out|with_reducible apply Kp.more):Kp F w _)).trans (HD.out.2.1.mono (fun k _ e=>e ▸ Au))
      ·rw [<-xz.out,if_neg (by rw [xA];decide)]
   ·have xz:=Zh (gx (j:=2*i+1) HT.out hf h1 (by rw [if_neg (by rintro ⟨e,e2⟩;exact h2 e)]))
    cases xA:qLess q (2*i+1) i
    ·have C2:=Zh (fun (W:qW) xo=>CL.out W xo (2*i+1) i Za Za)
     rw [xA] at C2
     clear CL CS
     go_wp2_with fail
     go_at_call 326
     refine (C2.out _ Zr).mono ?_
     rintro e w1 ⟨rfl,p,rfl⟩
     go_wp2_with fail
     go_ret
     have BQ:q=T:=by rw [<-xz.out,if_pos (by rw [xA];rfl)]
     subst BQ
     exact ⟨_,rfl,HB.out.below Zr,((by repeat (first|with_reducible exact HK.out|with_reducible apply Kp.more)):Kp F w _)⟩
    ·have C2:=Zh (fun (W:qW) xo=>CL.out W xo (2*i+1) i Za Za)
     rw [xA] at C2
     have C3:=Zh (fun (W:qW) xo=>CS.out W xo i (2*i+1) Za Za)
     clear CL CS
     go_wp2_with fail
     go_at_call 326
     refine (C2.out _ Zr).mono ?_
     rintro e w1 ⟨rfl,p,rfl⟩
     go_wp2_with fail
     go_at_call 327
     refine (C3.out _ Zr).mono ?_
     intro e w1 hD
     obtain rfl:=hD.1
     have HD:=Zh hD
     clear hD
     go_wp2_with fail
     refine ⟨⟨2*i+1,f-1,qSwap q i (2*i+1),by go_num,by omega,by omega,by rw [bQ];exact hq,Zh ?_,Zh ?_,Zh ?_⟩,by simp [intOf];omega⟩
     ·subst hq
      exact PoX.quD (P:={P with used:=q}) (g:=g) (c:=c) (HB.out.below Zr) (q':=qSwap q i (2*i+1)) (W2:=w1) (r:= .tuple #[]) (e:= .returned (.tuple #[])) HD.out (bQ q i (2*i+1))
     ·exact ((by repeat (first|with_reducible exact HK.out|with_reducible apply Kp.more):Kp F w _)).trans (HD.out.2.1.mono (fun k _ e=>e ▸ Au))
     ·rw [<-xz.out,if_neg (by rw [xA];decide)]
end
section
variable{w0 W W' w:qW}{M:Nat}{F F1:Nat->Prop}{fv uv:qV}{P:Pool}
def PoE(w0:qW)(M:Nat)(F:Nat->Prop)(fv:qV)(w:qW)(P':Pool)(r:qV)(e:Ending)(w':qW):Prop:=
 e= .returned r/\ ∃F',(∃uv',PoX w0 M F' fv uv' w' P')/\Kp F w w'/\Rq F F' w.heap.size
theorem t9(P:Pool){n:Nat}(hn:n<=P.used.length):(poR P).map (fun q=>if q.ix=1 then {q with n:=n,xs:=(P.used.flatMap bzC).take (n*2)} else q)=poR {P with used:=P.used.take n}:=by
 have e:(P.used.take n).flatMap bzC=(P.used.flatMap bzC).take (n*2):=by
  have: ∀(l:List (Int×Int)) (n:Nat),(l.take n).flatMap bzC=(l.flatMap bzC).take (n*2):=by
   intro l
   induction l with
   |nil=>intro n;simp
   |cons x l ih=>
    intro n
    cases n with
    |zero=>simp
    |succ n=>rw [List.take_succ_cons,zaf,zaf,ih n,show (n+1)*2=(bzC x).length+n*2 by simp [bzC];omega,List.take_length_add_append]
  exact this _ _
 simp [poR,e,Nat.min_eq_left hn]
theorem td{g c n:Nat}(w:qW)(h:PoX w0 M F fv (.slice (aA g) (n+1) c) w P)(hN:P.used.length=n+1):qC 328 #[.pointer (some ⟨M,1,none⟩)] w (PoE w0 M F fv w {P with used:=P.used.take n} (.iface 277 (.agg #[iI (qGet P.used n).1,iI (qGet P.used n).2]))):=by
 have j':=h.bd
 have q1: ∀j,w.cell? (aB M j)=(#[fv,.slice (aA g) (n+1) c,iI P.next,iI P.most]:Array qV)[j]?:=aa h.ob.out
 have qf:=ah h.ob.out
 have hown:=h.own1
 rw [hN] at hown
 have hx:=dy hown (dJ (show n<P.used.length by omega))
 have hg:=(hown.lt g rfl)
 obtain ⟨_,c2,e2,Bx,yB, -⟩:=aC hown
 injection e2 with e2 e3 e4
 subst e4
 have Am:=h.fin.used
 have HD:=Zh (h.put ⟨1,277,2,P.used.length,P.used.flatMap bzC⟩ (.tail _ (.head _)) (Kp.refl _ _) (v':= .slice (aA g) n c) (fi hown Za) (fun k hk=> .inl hk) (fv':=fv) (uv':= .slice (aA g) n c) (P':={P with used:=P.used.take n}) rfl (t9 P Za) ⟨h.fin.free,by simp;omega,h.fin.next,h.fin.most⟩)
 clear h hown e2
 generalize qGet P.used n=x at*
 go_enter Tryz.func328,Tryz.ntmps328
 go_wp2_with fail
 go_ret
 obtain ⟨F',h1,h2,h3⟩:=HD.out
 exact ⟨rfl,F',⟨_,h1⟩,h2,h3⟩
theorem ycn(w:qW)(h:PoX w0 M F fv uv w P)(h0:0<P.used.length):qC 132 #[.iface 279 (.pointer (some ⟨M,1,none⟩))] w (PoE w0 M F fv w {P with used:=(qPop P.used).1} (.iface 277 (.agg #[iI (qPop P.used).2.1,iI (qPop P.used).2.2]))):=by
 obtain ⟨n,hN⟩: ∃n,P.used.length=n+1:=⟨P.used.length-1,by omega⟩
 obtain ⟨a,c,rfl,IG,Dn,Er,xk⟩:=aC h.own1
 obtain ⟨g,rfl⟩: ∃g,a=aA g:=by
  cases a with
  |none=>have h9:P.used.length=0:=(Er rfl).1;omega
  |some p=>exact ⟨p.block,by rw [xk p rfl]⟩
 clear Er xk
 have Am:=h.fin.used
 have hr:qDown (n+1) (qSwap P.used 0 n) 0 n=qDown P.used.length (qSwap P.used 0 (P.used.length-1)) 0 (P.used.length-1):=by rw [hN];rfl
 have Gb:qPop P.used=((qDown (n+1) (qSwap P.used 0 n) 0 n).take n,qGet (qDown (n+1) (qSwap P.used 0 n) 0 n) n):=by
  unfold qPop
  rw [<-hr]
  simp only [hN,Nat.add_sub_cancel]
 rw [Gb]
 simp only []
 have Bl:w.cell? (aB M 1)=some (.slice (aA g) P.used.length c):=by rw [aa h.ob.out];rfl
 have L0:=fun k=>kq k w M _ _ _ Bl
 have j':=h.bd
 have BP: ∀p,(more w p).cell? (aB M 1)=some (.slice (aA g) P.used.length c):=fun p=>by rw [dd,if_pos j'.2];exact Bl
 have S1:=fun k p=>gw k (more w p) M _ _ _ (BP p)
 have Au:Hid (F g):=Zh ((h.ft g).2 (.inr ⟨_,.tail _ (.head _),rfl⟩))
 have HX:=Zh h
 clear h hr Gb Bl BP
 go_enter Tryz.func132,Tryz.ntmps132
 go_wp2_with fail
 go_at_call 325
 refine (lS _ _ _ _).mono ?_
 rintro e w1 ⟨rfl,p,rfl⟩
 have C1:=Zh (fS (more w p) M g c P.used (HX.out.below (au w p)).own1 0 n Za Za)
 rw [hN] at C1 S1
 simp only [hN]
 go_wp2_with fail
 go_at_call 327
 refine C1.out.mono ?_
 intro e w1 hD
 obtain rfl:=hD.1
 have Eg:=PoX.quD (P:=P) (g:=g) (c:=c) (HX.out.below (au w p)) (q':=qSwap P.used 0 n) (W2:=w1) (r:= .tuple #[]) (e:= .returned (.tuple #[])) (by rw [hN];exact hD) (bQ _ _ _)
 have Aa:Hid (Kp F w w1):=Zh (((Kp.refl F w).more p).trans (hD.2.1.mono (fun k _ e=>e ▸ Au.out)))
 rw [hN] at Eg
 have C2:=Zh (ydI w1 Eg (by rw [<-hN];exact bQ _ _ _) n Za (n+1) Za)
 clear hD C1 Eg
 go_wp2_with fail
 go_at_call 208
 refine C2.out.mono ?_
 rintro e w2 ⟨b,rfl,AP,xZ⟩
 have BF:Hid (Kp F w w2):=Zh (Aa.out.trans xZ)
 have C3:=Zh (td w2 AP (by simp only [kr];rw [bQ];exact hN))
 clear AP xZ C2 Aa
 go_wp2_with fail
 go_at_call 328
 refine C3.out.mono ?_
 intro e w3 hD
 obtain rfl:=hD.1
 have HD:=Zh hD
 clear hD
 go_wp2_with fail
 go_ret
 obtain ⟨-,F',h1,h2,h3⟩:=HD.out
 exact ⟨rfl,F',h1,BF.out.trans h2,⟨fun k hk=>(h3.r k hk).imp id (fun e=>by have:=BF.out.size;omega)⟩⟩
end
theorem eQ{P:Program}{ops:Array Oper}{Q:Exit->Act->qW->Prop}{md:Region.Mode}{S:Array Bool->qW->Prop}(i:Nat){oi:Oper}{fuel:Nat}{listed:Array Bool}{a:Act}{w:qW}(hi:ops[i]?=some oi)(hr:Region.ready md ops listed=[i])(hw:Region.wanted oi (yielded ops a.tmps)=true)
  (h: ∀K:Act->qW->Prop,(∀a' w',S (listed.setIfInBounds i true) w'->wpAnyG P md ops Q S fuel (listed.setIfInBounds i true) a' w'->K a' w')->Oper.wp P oi a w K Q):wpAnyG P md ops Q S (fuel+1) listed a w:=by
 refine ⟨fun h0=>(by rw [hr] at h0;cases h0),fun j hj=>?_⟩
 rw [hr] at hj
 obtain rfl:j=i:=by simpa using hj
 have h1:=h (fun a' w'=>S (listed.setIfInBounds j true) w'/\wpAnyG P md ops Q S fuel (listed.setIfInBounds j true) a' w') (fun a' w' h1 h2=>⟨h1,h2⟩)
 unfold wpOp
 simp only [hi,hw,if_true]
 exact .inl h1
def bub{α:Type}(lt:α->α->Bool)(d:α):Nat->List α->List α
 |0,l=>l
 |j+1,l=>if lt (l.getD (j+1) d) (l.getD j d) then bub lt d j ((l.set (j+1) (l.getD j d)).set j (l.getD (j+1) d)) else l
def isortN{α:Type}(lt:α->α->Bool)(d:α):Nat->Nat->List α->List α
 |0,_,l=>l
 |f+1,i,l=>if i<l.length then isortN lt d f (i+1) (bub lt d i l) else l
def isort{α:Type}(lt:α->α->Bool)(d:α)(l:List α):List α:=isortN lt d l.length 1 l
theorem yeI{α:Type}(lt:α->α->Bool)(d:α): ∀(j:Nat) (l:List α),(bub lt d j l).length=l.length:=by
 intro j
 induction j with
 |zero=>exact fun _=>rfl
 |succ j ih=>
  intro l
  unfold bub
  split
  ·rw [ih];simp
  ·rfl
theorem ig{α:Type}(lt:α->α->Bool)(d:α): ∀(f i:Nat) (l:List α),(isortN lt d f i l).length=l.length:=by
 intro f
 induction f with
 |zero=>exact fun _ _=>rfl
 |succ f ih=>
  intro i l
  unfold isortN
  split
  ·rw [ih,yeI]
  ·rfl
theorem mb{α:Type}{lt:α->α->Bool}{d:α}{f i:Nat}{l T:List α}(h:isortN lt d f i l=T)(hi: ¬i<l.length):l=T:=by
 cases f with
 |zero=>exact h
 |succ f=>rw [<-h,isortN,if_neg hi]
theorem ma{α:Type}{lt:α->α->Bool}{d:α}{f i:Nat}{l T:List α}(h:isortN lt d f i l=T)(hi:i<l.length)(hf:l.length<=i+f):isortN lt d (f-1) (i+1) (bub lt d i l)=T:=by
 obtain ⟨m,rfl⟩: ∃m,f=m+1:=⟨f-1,by omega⟩
 rw [<-h,isortN,if_pos hi]
 rfl
def lenN(n:Nat):Int:=if n=0 then 0 else if n<2 then 1 else if n<4 then 2 else if n<8 then 3 else 4
theorem yaP(n:Nat)(hn:n<=12)(w:qW):qC 275 #[.int .u64 n] w (Gives w (iI (lenN n))):=by
 have h:n=0\/n=1\/n=2\/n=3\/n=4\/n=5\/n=6\/n=7\/n=8\/n=9\/n=10\/n=11\/n=12:=by omega
 rcases h with rfl|rfl|rfl|rfl|rfl|rfl|rfl|rfl|rfl|rfl|rfl|rfl|rfl
 all_goals
  go_enter Tryz.func275,Tryz.ntmps275
  go_wp2_with fail
  go_ret
  exact Gives.mk Zb (zaa _ _)
theorem lR(n:Nat)(hn:n<=12)(w:qW):qC 210 #[.int .u64 n] w (Gives w (iI (lenN n))):=by
 have c1:=Zh (yaP n hn w)
 generalize lenN n=v at*
 go_enter Tryz.func210,Tryz.ntmps210
 go_wp2_with (go_at_call 275;refine c1.out.mono ?_;rintro e w1 ⟨rfl,p,rfl⟩)
 go_ret
 exact Gives.mk rfl Zr
def RoD(w:qW)(B g c n:Nat)(e1:TypeId)(z:Nat)(xs:List qV)(r:qV)(e:Ending)(w':qW):Prop:=
 e= .returned r/\Kp (fun k=>k=g) w w'/\w'.ownsRow B e1 z (.slice (aA g) n c) n xs
def ltD(a b:Int):Bool:=decide (b<a)
theorem yaN(a b:Int)(ha:0<=a/\a<=100000)(hb:0<=b/\b<=100000)(w:qW):qC 134 #[iI a,iI b] w (Gives w (iI (b-a))):=by
 go_enter Tryz.func134,Tryz.ntmps134
 go_wp2_with fail
 go_ret
 exact Gives.mk rfl (zaa _ _)
theorem cS{w:qW}{B n c g:Nat}{e:TypeId}{l:List Int}(h:w.ownsRow B e 1 (.slice (aA g) n c) n (l.flatMap numC)){i:Nat}(hi:i<l.length):w.cell? (aB g i)=some (iI (l.getD i 0)):=by
 have hy:l[i]?=some (l.getD i 0):=by rw [zaU,zaC hi];rfl
 have h0:=h.cells (g:=g) rfl (i*1+0) _ (by rw [bJ (f:=numC) (z:=1) (fun _=>rfl) hy 0 Za];rfl)
 rw [bN] at h0
 simpa using h0
theorem gG(l:List Int)(i:Nat)(hi:i<l.length)(x:Int):(l.flatMap numC).set i (iI x)=(l.set i x).flatMap numC:=by
 have h1:=dt (f:=numC) (z:=1) (fun _=>rfl) 0 l i 0 x (iI x) hi Za rfl
 simpa using h1.symm
theorem aR{x:Int}(h0: -9223372036854775808<=x)(h1:x<=9223372036854775807):IntKind.i64.wrap x=x:=by
 simp [IntKind.wrap,IntKind.signed,IntKind.bits,IntKind.min,IntKind.max]
 omega
theorem ybS(w:qW)(B g c:Nat)(l:List Int)(h:w.ownsRow B 3 1 (.slice (aA g) l.length c) l.length (l.flatMap numC))(hl:l.length<=2000)(hr: ∀x∈l,0<=x/\x<=100000):qC 266 #[.slice (aA g) l.length c,iI 0,iI l.length,.func (.func 134) #[] #[]] w (RoD w B g c l.length 3 1 ((isort ltD 0 l).flatMap numC) (.tuple #[])):=by
 have HO:=Zh h
 obtain ⟨_,c2,e2,Bx,yB, -⟩:=aC h
 injection e2 with e2 e3 e4
 subst e4
 generalize hT:isort ltD 0 l=T
 have HT:Hid (isortN ltD 0 l.length 1 l=T):=Zh hT
 have HR:=Zh hr
 clear h hT hr e2
 generalize hn:l.length=n at*
 go_enter Tryz.func266,Tryz.ntmps266
 go_wp2_with fail
 go_loopw [8] (fun v8 wr=> ∃(i f:Nat) (q:List Int),v8=iI i/\1<=i/\i<=n+1/\n<=i+f/\q.length=n/\Hid (wr.ownsRow B 3 1 (.slice (aA g) n c) n (q.flatMap numC))/\Hid (Kp (fun k=>k=g) w wr)/\Hid (isortN ltD 0 f i q=T)/\Hid (∀x∈q,0<=x/\x<=100000)) (fun v8 _=>n+1-(intOf v8).toNat)
 case atStart=>exact ⟨1,n,l,rfl,zaq _,by omega,by omega,hn,HO,Zh (Kp.refl _ _),HT,HR⟩
 case round=>
  obtain ⟨i,f,q,rfl,Bm,EF,hf,hq,HO,HK,HT,HR⟩:=hrel
  clear hn
  by_cases AD:i<n
  ·have xz:=Zh (ma HT.out Za Za)
   go_wp2_with fail
   go_loopw [9] (fun v9 wy=> ∃(j:Nat) (qj:List Int),v9=iI j/\j<=i/\qj.length=n/\Hid (wy.ownsRow B 3 1 (.slice (aA g) n c) n (qj.flatMap numC))/\Hid (Kp (fun k=>k=g) w wy)/\Hid (bub ltD 0 j qj=bub ltD 0 i q)/\Hid (∀x∈qj,0<=x/\x<=100000)) (fun v9 _=>(intOf v9).toNat)
   case atStart=>exact ⟨i,q,rfl,zaq _,hq,HO,HK,Zh rfl,HR⟩
   case round=>
    obtain ⟨j,qj,rfl,hj,Ei,HO,HK,HB,HR⟩:=hrel
    have yd:=(HO.out.lt g rfl).2
    by_cases Dk:j=0
    ·subst Dk
     go_wp2_with fail
     have hA:True:=trivial
     have hB:True:=trivial
     refine ae (fun W=>True) (fun W=>True) 16 rfl ?_
     refine Zp 0 rfl (h:=Zp 1 rfl (h:=Zp 2 rfl (h:=?_)));try simp only [Zq]
     refine Zp 3 rfl (h:=Zn 4 rfl (h:=?_));try simp only [Zq]
     refine Zn 5 rfl (h:=Zn 6 rfl (h:=?_));try simp only [Zq]
     refine Zn 7 rfl (h:=Zn 8 rfl (h:=?_));try simp only [Zq]
     refine Zn 9 rfl (h:=Zn 10 rfl (h:=?_));try simp only [Zq]
     refine Zn 11 rfl (h:=Zn 12 rfl (h:=?_));try simp only [Zq]
     refine Zn 13 rfl (h:=Zn 14 rfl (h:=?_));try simp only [Zq]
     refine Zn 15 rfl (h:=?_);try simp only [Zq]
     refine Zs 16 rfl fun K hK=>?_
     go_simp
     refine hK _ _ ⟨trivial,fun _=>trivial⟩ ?_
     clear hK K
     refine af Zb ?_ _
     go_wp2_with fail
     have yb:qj=bub ltD 0 i q:=by rw [<-HB.out];rfl
     refine ⟨⟨i+1,f-1,qj,by go_num,by omega,by omega,by omega,Ei,Zh (ax HO.out (fun _ _=>rfl)),Zh (HK.out.trans (Kp.dr _)),Zh (by rw [yb];exact xz.out),HR⟩,by simp [intOf];omega⟩
    ·obtain ⟨k,zQ⟩: ∃k,j=k+1:=⟨j-1,by omega⟩
     have AQ:(j:Int)-1=(k:Int):=by omega
     have Js:IntKind.i64.wrap (k:Int)=(k:Int):=aR Za Za
     have Cb:j<n:=by omega
     have zq:(0:Int)<(j:Int):=by omega
     have Ge:0<j:=by omega
     have ym:k<n:=by omega
     have hx:=cS HO.out (i:=j) Za
     have hy:=cS HO.out (i:=k) Za
     have xH: ∀m,m<n->qj.getD m 0∈qj:=fun m hm=>by rw [zaU,zaC Za];exact List.getElem_mem _
     have AO:=HR.out _ (xH j Za)
     have Fc:=HR.out _ (xH k Za)
     have Ah:=cJ HO.out
     have yF:Hid (bub ltD 0 j qj=if ltD (qj.getD j 0) (qj.getD k 0) then bub ltD 0 k ((qj.set j (qj.getD k 0)).set k (qj.getD j 0)) else qj):=Zh (by rw [zQ,bub])
     generalize hX:qj.getD j 0=x at*
     generalize hY:qj.getD k 0=y at*
     have HX:=Zh hX
     have HY:=Zh hY
     clear hX hY xH
     have HJ:=Zh zQ
     clear zQ
     have CL:=Zh (fun W=>yaN x y AO Fc W)
     have AU:Hid (ltD x y=decide (y-x<0)):=Zh (by unfold ltD;exact decide_eq_decide.2 Za)
     go_wp2_with fail
     have hA:wr.drew.cell? (aB g j)=some (iI x)/\wr.drew.cell? (aB g k)=some (iI y):=⟨hx,hy⟩
     have hB:True:=trivial
     refine ae (fun W=>W.cell? (aB g j)=some (iI x)/\W.cell? (aB g k)=some (iI y)) (fun W=>True) 16 rfl ?_
     refine Zp 0 rfl (h:=Zp 1 rfl (h:=Zp 2 rfl (h:=?_)));try simp only [Zq]
     refine Zp 3 rfl (h:=Zp 4 rfl (h:=Zp 5 rfl (h:=?_)));try simp only [Zq]
     refine Zp 6 rfl (h:=Zp 7 rfl (h:=Zt 8 rfl (h:=?_)));try simp only [Zq]
     refine Zp 9 rfl (h:=Zp 10 rfl (h:=Zp 11 rfl (h:=?_)));try simp only [Zq]
     refine Zp 12 rfl (h:=Zt 13 rfl (h:=?_));try simp only [Zq]
     refine eQ 14 rfl Zb (by rfl) (fun K hK=>?_)
     go_simp
     go_at_call 134
     refine (CL.out _).mono ?_
     rintro e w1 ⟨rfl,p,rfl⟩
     have ye:(more wr.drew p).cell? (aB g j)=some (iI x)/\(more wr.drew p).cell? (aB g k)=some (iI y):=⟨((au wr.drew p).cell (p:=⟨g,j,none⟩) yd).trans hA.1,((au wr.drew p).cell (p:=⟨g,k,none⟩) yd).trans hA.2⟩
     refine hK _ _ ⟨ye,fun _=>trivial⟩ ?_
     clear hK K hA
     have hA:=ye
     refine Zp 15 rfl (h:=?_);try simp only [Zq]
     refine Zs 16 rfl fun K hK=>?_
     go_simp
     refine hK _ _ ⟨ye,fun _=>trivial⟩ ?_
     clear hK K
     refine af Zb ?_ _
     clear hA ye hB hx hy Ah
     by_cases xe:y-x<0
     ·go_wp2_with fail
      refine aS (R:=fun W=>W.ownsRow B 3 1 (.slice (aA g) n c) n (qj.flatMap numC)/\Kp (fun k=>k=g) w W) ⟨ax HO.out (fun b hb=>by
       have AG:g=b:=by simpa [Value.ownBlock] using hb
       subst AG
       exact (au wr.drew p).block g yd),(HK.out.trans (Kp.dr _)).more p⟩ ?_
      rintro W ⟨ho,hk⟩
      have hx:=cS ho (i:=j) Za
      have hy:=cS ho (i:=k) Za
      have Ah:=cJ ho
      rw [HX.out] at hx
      rw [HY.out] at hy
      have HO:=Zh ho
      have HK:=Zh hk
      have yd:=(ho.lt g rfl).2
      clear ho hk CL
      have hA:True:=trivial
      have hB:W.drew.cell? (aB g j)=some (iI x)/\W.drew.cell? (aB g k)=some (iI y):=⟨hx,hy⟩
      refine ae (fun W=>True) (fun W=>W.cell? (aB g j)=some (iI x)/\W.cell? (aB g k)=some (iI y)) 15 rfl ?_
      refine Zp 0 rfl (h:=Zp 1 rfl (h:=Zp 2 rfl (h:=?_)));try simp only [Zq]
      refine Zp 3 rfl (h:=Zp 4 rfl (h:=Zp 5 rfl (h:=?_)));try simp only [Zq]
      refine Zp 6 rfl (h:=Zp 7 rfl (h:=Zp 8 rfl (h:=?_)));try simp only [Zq]
      refine Zl 9 [15] rfl (h:=Zp 10 rfl (h:=Zp 11 rfl (h:=?_)));try simp only [Zq]
      refine Zp 12 rfl (h:=Zl 13 [15] rfl (h:=Zp 14 rfl (h:=?_)));try simp only [Zq]
      refine Zs 15 rfl fun K hK=>?_
      have y7:=Zh (ax (w':=(W.setCell ⟨g,j,none⟩ (iI y)).drew) (bH HO.out j Za (iI y)) (fun _ _=>rfl))
      have zP:=Zh ((Kp.set W g j (iI y)).trans (Kp.dr _))
      go_simp
      refine hK _ _ ⟨trivial,fun hh=>Bool.noConfusion (hh.symm.trans (show _=true by kernel_rfl))⟩ ?_
      clear hK K hA hB hx hy Ah
      generalize (W.setCell ⟨g,j,none⟩ (iI y)).drew=W2 at y7 zP ⊢
      replace y7:=Zh (gG qj j Za y ▸ y7.out)
      have Aj:=cS y7.out (i:=k) Zk
      have Ah:=cJ y7.out
      have hA:True:=trivial
      have hB:True:=trivial
      have Oa:=Zh (bH y7.out k Za (iI x))
      have zO:=Zh (Kp.set W2 g k (iI x))
      refine cY 16 (v:=?_) rfl Zb Zb Zb (fun _ _ _ h=>h) Zd Zb (Or.inl ⟨by rfl,?_⟩) ⟨trivial,fun hh=>Bool.noConfusion (hh.symm.trans (show _=true by kernel_rfl))⟩ ?_
      rotate_left 1
      ·intro W hW;go_simp;(try with_reducible rfl)
      try simp only [Zq]
      refine Zs 17 rfl fun K hK=>?_
      go_simp
      refine hK _ _ ⟨trivial,fun hh=>Bool.noConfusion (hh.symm.trans (show _=true by kernel_rfl))⟩ ?_
      clear hK K
      refine af Zb ?_ _
      go_wp2_with fail
      have Eu:ltD x y=true:=by rw [AU.out];exact zaw xe
      refine ⟨⟨k,(qj.set j y).set k x,rfl,by omega,by simp;exact Ei,Zh ?_,Zh ?_,Zh ?_,Zh ?_⟩,by simp [intOf];omega⟩
      ·have:=Oa.out
       rw [gG _ k Zk x] at this
       exact this
      ·exact HK.out.trans (zP.out.trans zO.out)
      ·rw [<-HB.out,yF.out,if_pos Eu]
      ·intro z hz
       rcases List.mem_or_eq_of_mem_set hz with h2|h2
       ·rcases List.mem_or_eq_of_mem_set h2 with h3|h3
        ·exact HR.out z h3
        ·exact h3 ▸ Fc
       ·exact h2 ▸ AO
     ·go_wp2_with fail
      have Eu:ltD x y=false:=by rw [AU.out];exact zax xe
      have yb:qj=bub ltD 0 i q:=by rw [<-HB.out,yF.out,if_neg (by rw [Eu];decide)]
      refine ⟨⟨i+1,f-1,qj,by go_num,by omega,by omega,by omega,Ei,Zh (ax HO.out (fun b hb=>by
       have AG:g=b:=by simpa [Value.ownBlock] using hb
       subst AG
       exact (au wr.drew p).block g yd)),Zh ((HK.out.trans (Kp.dr _)).more p),Zh (by rw [yb];exact xz.out),HR⟩,by simp [intOf];omega⟩
  ·go_wp2_with fail
   go_end0
   have BQ:=mb HT.out Za
   subst BQ
   exact ⟨rfl,HK.out,HO.out⟩
def cmpI(a b:Int):Int:=if a<b then-1 else if b<a then 1 else 0
def orI(x y:Int):Int:=if x=0 then y else x
def cmpV(a b:Tri):Int:=orI (cmpI a.2.1 b.2.1) (cmpI a.1 b.1)
def ltV(a b:Tri):Bool:=decide (cmpV a b<0)
theorem wV(a:Int)(w:qW):qC 131 #[iI a] w (Gives w (.bool false)):=by
 go_enter Tryz.func131,Tryz.ntmps131
 go_wp2_with fail
 go_ret
 exact Gives.mk ZC (zaa _ _)
theorem nM(a b:Int)(w:qW):qC 84 #[iI a,iI b] w (Gives w (iI (cmpI a b))):=by
 have c1:=Zh (fun x W=>wV x W)
 by_cases h1:a<b
 ·have hv:cmpI a b= -1:=by unfold cmpI;rw [if_pos h1]
  rw [hv]
  clear hv
  go_enter Tryz.func84,Tryz.ntmps84
  go_wp2_with (go_at_call 131;refine (c1.out _ _).mono ?_;rintro e w1 ⟨rfl,p,rfl⟩)
  go_ret
  exact Gives.mk rfl Zr
 ·by_cases h2:b<a
  ·have hv:cmpI a b=1:=by unfold cmpI;rw [if_neg h1,if_pos h2]
   rw [hv]
   clear hv
   go_enter Tryz.func84,Tryz.ntmps84
   go_wp2_with (go_at_call 131;refine (c1.out _ _).mono ?_;rintro e w1 ⟨rfl,p,rfl⟩)
   go_ret
   exact Gives.mk rfl Zr
  ·have hv:cmpI a b=0:=by unfold cmpI;rw [if_neg h1,if_neg h2]
   rw [hv]
   clear hv
   go_enter Tryz.func84,Tryz.ntmps84
   go_wp2_with (go_at_call 131;refine (c1.out _ _).mono ?_;rintro e w1 ⟨rfl,p,rfl⟩)
   go_ret
   exact Gives.mk rfl Zr
theorem vj(x y:Int)(g:Nat)(w:qW)(h0:w.cell? (aB g 0)=some (iI x))(h1:w.cell? (aB g 1)=some (iI y)):qC 83 #[.slice (aA g) 2 2] w (Gives w (iI (orI x y))):=by
 by_cases hx:x=0
 ·subst hx
  have hv:orI 0 y=y:=rfl
  rw [hv]
  clear hv
  go_enter Tryz.func83,Tryz.ntmps83
  go_wp2_with fail
  refine zao 3 ?_
  rw [zap]
  go_wp2_with fail
  rw [zap]
  by_cases hy:y=0
  ·subst hy
   go_wp2_with fail
   rw [zap]
   go_wp2_with fail
   go_ret
   exact Gives.mk rfl (zaa _ _)
  ·have Aj:(y !=0)=true:=by simpa using hy
   go_wp2_with fail
   go_ret
   exact Gives.mk rfl (zaa _ _)
 ·have hv:orI x y=x:=if_neg hx
  have AP:(x !=0)=true:=by simpa using hx
  rw [hv]
  clear hv
  go_enter Tryz.func83,Tryz.ntmps83
  go_wp2_with fail
  refine zao 3 ?_
  rw [zap]
  go_wp2_with fail
  go_ret
  exact Gives.mk rfl (zaa _ _)
theorem yfm(x y:Tri)(w:qW):qC 82 #[.agg #[iI x.1,iI x.2.1,iI x.2.2],.agg #[iI y.1,iI y.2.1,iI y.2.2]] w (Gives w (iI (cmpV x y))):=by
 have c1:=Zh (nM x.2.1 y.2.1)
 have c2:=Zh (nM x.1 y.1)
 have c3:=Zh (fun g W h0 h1=>vj (cmpI x.2.1 y.2.1) (cmpI x.1 y.1) g W h0 h1)
 have hv:cmpV x y=orI (cmpI x.2.1 y.2.1) (cmpI x.1 y.1):=rfl
 rw [hv]
 clear hv
 generalize orI (cmpI x.2.1 y.2.1) (cmpI x.1 y.1)=v at*
 generalize cmpI x.2.1 y.2.1=a at*
 generalize cmpI x.1 y.1=b at*
 go_enter Tryz.func82,Tryz.ntmps82
 go_wp2_with fail
 refine ae (fun W=>(∀i,W.cell? (aB w.heap.size i)=(#[iI x.1,iI x.2.1,iI x.2.2]:Array qV)[i]?)/\ ∀i,W.cell? ⟨w.heap.size+1,i,none⟩=(#[iI y.1,iI y.2.1,iI y.2.2]:Array qV)[i]?) (fun W=>True) 12 rfl ?_
 refine Zp 0 rfl (h:=Zt 1 rfl (h:=Zp 2 rfl (h:=Zt 3 rfl (h:=Zp 5 rfl (h:=Zt 6 rfl (h:=Zp 7 rfl (h:=Zt 8 rfl (h:=?_))))))));try simp only [Zq]
 refine Zs 4 rfl fun K hK=>?_
 go_simp
 go_at_call 84
 refine (c1.out _).mono ?_
 rintro e w1 ⟨rfl,p,rfl⟩
 refine hK _ _ Zw ?_
 clear hK K
 refine Zs 9 rfl fun K hK=>?_
 go_simp
 go_at_call 84
 refine (c2.out _).mono ?_
 rintro e w1 ⟨rfl,p,rfl⟩
 refine hK _ _ Zw ?_
 clear hK K
 refine Zs 10 rfl fun K hK=>?_
 go_simp
 refine hK _ _ Zw ?_
 clear hK K
 refine Zs 11 rfl fun K hK=>?_
 go_simp
 go_at_call 83
 refine (c3.out _ _ ?_ ?_).mono ?_
 ·simp [go_sem]
 ·simp [go_sem]
 rintro e w1 ⟨rfl,p,rfl⟩
 refine hK _ _ Zw ?_
 clear hK K
 refine Zs 12 rfl fun K hK=>?_
 go_simp
 refine hK _ _ Zw ?_
 clear hK K
 refine af Zb ?_ _
 go_wp2_with fail
 go_ret
 exact Gives.mk rfl Zr
end Go.Proofs.YtjmfoeajhiimnaaGreatDoor
