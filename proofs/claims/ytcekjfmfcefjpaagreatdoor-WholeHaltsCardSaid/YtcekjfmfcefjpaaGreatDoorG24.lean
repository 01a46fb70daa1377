/- Walks. No condition. -/
import Derived.Test.YtcekjfmfcefjpaaGreatDoorG23
set_option maxRecDepth 100000
set_option maxHeartbeats 0
set_option linter.all false
namespace Go.Proofs.YtcekjfmfcefjpaaGreatDoor
open Go.RowKit Go.Sort
def tvC(x:Tri):List qV:=[iI x.1,iI x.2.1,iI x.2.2]
theorem dA{w:qW}{B n c g:Nat}{e:TypeId}{l:List Tri}(h:w.ownsRow B e 3 (.slice (aA g) n c) n (l.flatMap tvC)){i:Nat}(hi:i<l.length):w.cell? ⟨g,i*3,none⟩=some (iI (l.getD i (0,0,0)).1)/\w.cell? ⟨g,i*3+1,none⟩=some (iI (l.getD i (0,0,0)).2.1)/\w.cell? ⟨g,i*3+2,none⟩=some (iI (l.getD i (0,0,0)).2.2):=by
 have hy:l[i]?=some (l.getD i (0,0,0)):=by rw [zaU,zaC hi];rfl
 have h0:=h.cells (g:=g) rfl (i*3+0) _ (by rw [bG (f:=tvC) (z:=3) (fun _=>rfl) hy 0 Za];rfl)
 have h1:=h.cells (g:=g) rfl (i*3+1) _ (by rw [bG (f:=tvC) (z:=3) (fun _=>rfl) hy 1 Za];rfl)
 have h2:=h.cells (g:=g) rfl (i*3+2) _ (by rw [bG (f:=tvC) (z:=3) (fun _=>rfl) hy 2 Za];rfl)
 rw [bK] at h0 h1 h2
 exact ⟨h0,h1,h2⟩
theorem iY(l:List Tri)(i:Nat)(hi:i<l.length)(x:Tri):(((l.flatMap tvC).set (i*3) (iI x.1)).set (i*3+1) (iI x.2.1)).set (i*3+2) (iI x.2.2)=(l.set i x).flatMap tvC:=by
 have h1:=dl (f:=tvC) (z:=3) (fun _=>rfl) (0,0,0) l i 0 (x.1,(l.getD i (0,0,0)).2.1,(l.getD i (0,0,0)).2.2) (iI x.1) hi Za rfl
 have h2:=dl (f:=tvC) (z:=3) (fun _=>rfl) (0,0,0) (l.set i (x.1,(l.getD i (0,0,0)).2.1,(l.getD i (0,0,0)).2.2)) i 1 (x.1,x.2.1,(l.getD i (0,0,0)).2.2) (iI x.2.1) (by simpa using hi) Za (by simp [hi,tvC])
 have h3:=dl (f:=tvC) (z:=3) (fun _=>rfl) (0,0,0) ((l.set i (x.1,(l.getD i (0,0,0)).2.1,(l.getD i (0,0,0)).2.2)).set i (x.1,x.2.1,(l.getD i (0,0,0)).2.2)) i 2 x (iI x.2.2) (by simpa using hi) Za (by simp [hi,tvC])
 rw [Nat.add_zero] at h1
 rw [<-h1,<-h2,<-h3]
 simp
theorem ybq(w:qW)(B g c:Nat)(l:List Tri)(h:w.ownsRow B 235 3 (.slice (aA g) l.length c) l.length (l.flatMap tvC))(hl:l.length<=2000):qC 213 #[.slice (aA g) l.length c,iI 0,iI l.length,.func (.func 110) #[] #[]] w (RoD w B g c l.length 235 3 ((isort ltV (0,0,0) l).flatMap tvC) (.tuple #[])):=by
 have HO:=Zh h
 obtain ⟨_,c2,e2,Bu,yr, -⟩:=az h
 injection e2 with e2 e3 e4
 subst e4
 generalize hT:isort ltV (0,0,0) l=T
 have HT:Hid (isortN ltV (0,0,0) l.length 1 l=T):=Zh hT
 clear h hT e2
 generalize hn:l.length=n at*
 go_enter Tryz.func213,Tryz.ntmps213
 go_wp2_with fail
 go_loopw [8] (fun v8 wr=> ∃(i f:Nat) (q:List Tri),v8=iI i/\1<=i/\i<=n+1/\n<=i+f/\q.length=n/\Hid (wr.ownsRow B 235 3 (.slice (aA g) n c) n (q.flatMap tvC))/\Hid (Kp (fun k=>k=g) w wr)/\Hid (isortN ltV (0,0,0) f i q=T)) (fun v8 _=>n+1-(intOf v8).toNat)
 case atStart=>exact ⟨1,n,l,rfl,zaq _,by omega,by omega,hn,HO,Zh (Kp.refl _ _),HT⟩
 case round=>
  obtain ⟨i,f,q,rfl,Br,Ez,hf,hq,HO,HK,HT⟩:=hrel
  clear hn
  by_cases zR:i<n
  ·have xw:=Zh (lX HT.out Za Za)
   go_wp2_with fail
   go_loopw [9] (fun v9 wy=> ∃(j:Nat) (qj:List Tri),v9=iI j/\j<=i/\qj.length=n/\Hid (wy.ownsRow B 235 3 (.slice (aA g) n c) n (qj.flatMap tvC))/\Hid (Kp (fun k=>k=g) w wy)/\Hid (bub ltV (0,0,0) j qj=bub ltV (0,0,0) i q)) (fun v9 _=>(intOf v9).toNat)
   case atStart=>exact ⟨i,q,rfl,zaq _,hq,HO,HK,Zh rfl⟩
   case round=>
    obtain ⟨j,qj,rfl,hj,Ee,HO,HK,HB⟩:=hrel
    have xY:=(HO.out.lt g rfl).2
    by_cases Dk:j=0
    ·subst Dk
     go_wp2_with fail
     have hA:True:=trivial
     have hB:True:=trivial
     refine ae (fun W=>True) (fun W=>True) 16 rfl ?_
     refine Zp 0 rfl (h:=Zp 1 rfl (h:=Zp 2 rfl (h:=?_)));try simp only [Zq]
     refine Zp 3 rfl (h:=Zn 4 rfl (h:=?_));try simp only [Zq]
     refine Zn 5 rfl (h:=Zn 6 rfl (h:=?_));try simp only [Zq]
     refine Zn 7 rfl (h:=Zn 8 rfl (h:=?_));try simp only [Zq]
     refine Zn 9 rfl (h:=Zn 10 rfl (h:=?_));try simp only [Zq]
     refine Zn 11 rfl (h:=Zn 12 rfl (h:=?_));try simp only [Zq]
     refine Zn 13 rfl (h:=Zn 14 rfl (h:=?_));try simp only [Zq]
     refine Zn 15 rfl (h:=?_);try simp only [Zq]
     refine Zs 16 rfl fun K hK=>?_
     go_simp
     refine hK _ _ ⟨trivial,fun _=>trivial⟩ ?_
     clear hK K
     refine af Zb ?_ _
     go_wp2_with fail
     have xX:qj=bub ltV (0,0,0) i q:=by rw [<-HB.out];rfl
     refine ⟨⟨i+1,f-1,qj,by go_num,by omega,by omega,by omega,Ee,Zh (aw HO.out (fun _ _=>rfl)),Zh (HK.out.trans (Kp.dr _)),Zh (by rw [xX];exact xw.out)⟩,by simp [intOf];omega⟩
    ·obtain ⟨k,Ab⟩: ∃k,j=k+1:=⟨j-1,by omega⟩
     have AJ:(j:Int)-1=(k:Int):=by omega
     have FB:IntKind.i64.wrap (k:Int)=(k:Int):=a7 Za Za
     have BX:j<n:=by omega
     have zh:(0:Int)<(j:Int):=by omega
     have Jl:0<j:=by omega
     have yd:k<n:=by omega
     have hx:=dA HO.out (i:=j) Za
     have hy:=dA HO.out (i:=k) Za
     have Ad:=cH HO.out
     have yz:Hid (bub ltV (0,0,0) j qj=if ltV (qj.getD j (0,0,0)) (qj.getD k (0,0,0)) then bub ltV (0,0,0) k ((qj.set j (qj.getD k (0,0,0))).set k (qj.getD j (0,0,0))) else qj):=Zh (by rw [Ab,bub])
     generalize hX:qj.getD j (0,0,0)=x at*
     generalize hY:qj.getD k (0,0,0)=y at*
     have HX:=Zh hX
     have HY:=Zh hY
     clear hX hY
     have HJ:=Zh Ab
     clear Ab
     have CL:=Zh (fun W=>ye3 x y W)
     have AN:Hid (ltV x y=decide (cmpV x y<0)):=Zh rfl
     go_wp2_with fail
     have hA:(wr.drew.cell? ⟨g,j*3,none⟩=some (iI x.1)/\wr.drew.cell? ⟨g,j*3+1,none⟩=some (iI x.2.1)/\wr.drew.cell? ⟨g,j*3+2,none⟩=some (iI x.2.2))/\(wr.drew.cell? ⟨g,k*3,none⟩=some (iI y.1)/\wr.drew.cell? ⟨g,k*3+1,none⟩=some (iI y.2.1)/\wr.drew.cell? ⟨g,k*3+2,none⟩=some (iI y.2.2)):=⟨hx,hy⟩
     have hB:True:=trivial
     refine ae (fun W=>(W.cell? ⟨g,j*3,none⟩=some (iI x.1)/\W.cell? ⟨g,j*3+1,none⟩=some (iI x.2.1)/\W.cell? ⟨g,j*3+2,none⟩=some (iI x.2.2))/\(W.cell? ⟨g,k*3,none⟩=some (iI y.1)/\W.cell? ⟨g,k*3+1,none⟩=some (iI y.2.1)/\W.cell? ⟨g,k*3+2,none⟩=some (iI y.2.2))) (fun W=>True) 16 rfl ?_
     refine Zp 0 rfl (h:=Zp 1 rfl (h:=Zp 2 rfl (h:=?_)));try simp only [Zq]
     refine Zp 3 rfl (h:=Zp 4 rfl (h:=Zp 5 rfl (h:=?_)));try simp only [Zq]
     refine Zp 6 rfl (h:=Zp 7 rfl (h:=Zt 8 rfl (h:=?_)));try simp only [Zq]
     refine Zp 9 rfl (h:=Zp 10 rfl (h:=Zp 11 rfl (h:=?_)));try simp only [Zq]
     refine Zp 12 rfl (h:=Zt 13 rfl (h:=?_));try simp only [Zq]
     refine eJ 14 rfl Zb (by rfl) (fun K hK=>?_)
     go_simp
     go_at_call 110
     refine (CL.out _).mono ?_
     rintro e w1 ⟨rfl,p,rfl⟩
     have ya:((more wr.drew p).cell? ⟨g,j*3,none⟩=some (iI x.1)/\(more wr.drew p).cell? ⟨g,j*3+1,none⟩=some (iI x.2.1)/\(more wr.drew p).cell? ⟨g,j*3+2,none⟩=some (iI x.2.2))/\((more wr.drew p).cell? ⟨g,k*3,none⟩=some (iI y.1)/\(more wr.drew p).cell? ⟨g,k*3+1,none⟩=some (iI y.2.1)/\(more wr.drew p).cell? ⟨g,k*3+2,none⟩=some (iI y.2.2)):=⟨⟨((av wr.drew p).cell (p:=⟨g,j*3,none⟩) xY).trans hA.1.1,((av wr.drew p).cell (p:=⟨g,j*3+1,none⟩) xY).trans hA.1.2.1,((av wr.drew p).cell (p:=⟨g,j*3+2,none⟩) xY).trans hA.1.2.2⟩,⟨((av wr.drew p).cell (p:=⟨g,k*3,none⟩) xY).trans hA.2.1,((av wr.drew p).cell (p:=⟨g,k*3+1,none⟩) xY).trans hA.2.2.1,((av wr.drew p).cell (p:=⟨g,k*3+2,none⟩) xY).trans hA.2.2.2⟩⟩
     refine hK _ _ ⟨ya,fun _=>trivial⟩ ?_
     clear hK K hA
     have hA:=ya
     refine Zp 15 rfl (h:=?_);try simp only [Zq]
     refine Zs 16 rfl fun K hK=>?_
     go_simp
     refine hK _ _ ⟨ya,fun _=>trivial⟩ ?_
     clear hK K
     refine af Zb ?_ _
     clear hA ya hB hx hy Ad
     by_cases wY:cmpV x y<0
     ·go_wp2_with fail
      refine aT (R:=fun W=>W.ownsRow B 235 3 (.slice (aA g) n c) n (qj.flatMap tvC)/\Kp (fun k=>k=g) w W) ⟨aw HO.out (fun b hb=>by
       have AA:g=b:=by simpa [Value.ownBlock] using hb
       subst AA
       exact (av wr.drew p).block g xY),(HK.out.trans (Kp.dr _)).more p⟩ ?_
      rintro W ⟨ho,hk⟩
      have hx:=dA ho (i:=j) Za
      have hy:=dA ho (i:=k) Za
      have Ad:=cH ho
      rw [HX.out] at hx
      rw [HY.out] at hy
      have HO:=Zh ho
      have HK:=Zh hk
      have xY:=(ho.lt g rfl).2
      clear ho hk CL
      have hA:True:=trivial
      have hB:(W.drew.cell? ⟨g,j*3,none⟩=some (iI x.1)/\W.drew.cell? ⟨g,j*3+1,none⟩=some (iI x.2.1)/\W.drew.cell? ⟨g,j*3+2,none⟩=some (iI x.2.2))/\(W.drew.cell? ⟨g,k*3,none⟩=some (iI y.1)/\W.drew.cell? ⟨g,k*3+1,none⟩=some (iI y.2.1)/\W.drew.cell? ⟨g,k*3+2,none⟩=some (iI y.2.2)):=⟨hx,hy⟩
      refine ae (fun W=>True) (fun W=>(W.cell? ⟨g,j*3,none⟩=some (iI x.1)/\W.cell? ⟨g,j*3+1,none⟩=some (iI x.2.1)/\W.cell? ⟨g,j*3+2,none⟩=some (iI x.2.2))/\(W.cell? ⟨g,k*3,none⟩=some (iI y.1)/\W.cell? ⟨g,k*3+1,none⟩=some (iI y.2.1)/\W.cell? ⟨g,k*3+2,none⟩=some (iI y.2.2))) 15 rfl ?_
      refine Zp 0 rfl (h:=Zp 1 rfl (h:=Zp 2 rfl (h:=?_)));try simp only [Zq]
      refine Zp 3 rfl (h:=Zp 4 rfl (h:=Zp 5 rfl (h:=?_)));try simp only [Zq]
      refine Zp 6 rfl (h:=Zp 7 rfl (h:=Zp 8 rfl (h:=?_)));try simp only [Zq]
      refine Zl 9 [15] rfl (h:=Zp 10 rfl (h:=Zp 11 rfl (h:=?_)));try simp only [Zq]
      refine Zp 12 rfl (h:=Zl 13 [15] rfl (h:=Zp 14 rfl (h:=?_)));try simp only [Zq]
      refine Zs 15 rfl fun K hK=>?_
      have yR:=Zh (aw (w':=(((W.setCell ⟨g,j*3,none⟩ (iI y.1)).setCell ⟨g,j*3+1,none⟩ (iI y.2.1)).setCell ⟨g,j*3+2,none⟩ (iI y.2.2)).drew) (bE (bE (bE HO.out (j*3) Za (iI y.1)) (j*3+1) Za (iI y.2.1)) (j*3+2) Za (iI y.2.2)) (fun _ _=>rfl))
      have zH:=Zh (((Kp.set W g (j*3) (iI y.1)).trans ((Kp.set _ g (j*3+1) (iI y.2.1)).trans (Kp.set _ g (j*3+2) (iI y.2.2)))).trans (Kp.dr (((W.setCell ⟨g,j*3,none⟩ (iI y.1)).setCell ⟨g,j*3+1,none⟩ (iI y.2.1)).setCell ⟨g,j*3+2,none⟩ (iI y.2.2))))
      go_simp
      refine hK _ _ ⟨trivial,fun hh=>Bool.noConfusion (hh.symm.trans (show _=true by kernel_rfl))⟩ ?_
      clear hK K hA hB hx hy Ad
      generalize (((W.setCell ⟨g,j*3,none⟩ (iI y.1)).setCell ⟨g,j*3+1,none⟩ (iI y.2.1)).setCell ⟨g,j*3+2,none⟩ (iI y.2.2)).drew=W2 at yR zH ⊢
      replace yR:=Zh (iY qj j Za y ▸ yR.out)
      have Ag:=dA yR.out (i:=k) Zk
      have Ad:=cH yR.out
      have hA:True:=trivial
      have hB:True:=trivial
      have FC:=Zh (bE (bE (bE yR.out (k*3) Za (iI x.1)) (k*3+1) Za (iI x.2.1)) (k*3+2) Za (iI x.2.2))
      have zM:=Zh ((Kp.set W2 g (k*3) (iI x.1)).trans ((Kp.set _ g (k*3+1) (iI x.2.1)).trans (Kp.set _ g (k*3+2) (iI x.2.2))))
      refine cX 16 (v:=?_) rfl Zb Zb Zb (fun _ _ _ h=>h) Zg Zb (Or.inl ⟨by rfl,?_⟩) ⟨trivial,fun hh=>Bool.noConfusion (hh.symm.trans (show _=true by kernel_rfl))⟩ ?_
      rotate_left 1
      ·intro W hW;go_simp;(try with_reducible rfl)
      try simp only [Zq]
      refine Zs 17 rfl fun K hK=>?_
      go_simp
      refine hK _ _ ⟨trivial,fun hh=>Bool.noConfusion (hh.symm.trans (show _=true by kernel_rfl))⟩ ?_
      clear hK K
      refine af Zb ?_ _
      go_wp2_with fail
      have Es:ltV x y=true:=by rw [AN.out];exact zaw wY
      refine ⟨⟨k,(qj.set j y).set k x,rfl,by omega,by simp;exact Ee,Zh ?_,Zh ?_,Zh ?_⟩,by simp [intOf];omega⟩
      ·have:=FC.out
       rw [iY _ k Zk x] at this
       exact this
      ·exact HK.out.trans (zH.out.trans zM.out)
      ·rw [<-HB.out,yz.out,if_pos Es]
     ·go_wp2_with fail
      have Es:ltV x y=false:=by rw [AN.out];exact zax wY
      have xX:qj=bub ltV (0,0,0) i q:=by rw [<-HB.out,yz.out,if_neg (by rw [Es];decide)]
      refine ⟨⟨i+1,f-1,qj,by go_num,by omega,by omega,by omega,Ee,Zh (aw HO.out (fun b hb=>by
       have AA:g=b:=by simpa [Value.ownBlock] using hb
       subst AA
       exact (av wr.drew p).block g xY)),Zh ((HK.out.trans (Kp.dr _)).more p),Zh (by rw [xX];exact xw.out)⟩,by simp [intOf];omega⟩
  ·go_wp2_with fail
   go_end0
   have BL:=lY HT.out Za
   subst BL
   exact ⟨rfl,HK.out,HO.out⟩
theorem ybs(w:qW)(c:Nat):qC 267 #[.slice none 0 0,iI 0,iI 0,.func (.func 157) #[] #[]] w (Gives w (.tuple #[])):=by
 go_enter Tryz.func267,Tryz.ntmps267
 go_wp2_with fail
 refine zao 1 ?_
 rw [zap]
 go_wp2_with fail
 go_end0
 exact Gives.mk rfl (zaa _ _)
theorem ybr(w:qW)(a:Option Addr)(c:Nat):qC 213 #[.slice a 20 c,iI 20,iI 20,.func (.func 110) #[] #[]] w (Gives w (.tuple #[])):=by
 go_enter Tryz.func213,Tryz.ntmps213
 go_wp2_with fail
 refine zao 1 ?_
 rw [zap]
 go_wp2_with fail
 go_end0
 exact Gives.mk rfl (zaa _ _)
def SoD(w:qW)(B g c n:Nat)(e1:TypeId)(z:Nat)(xs:List qV)(e:Ending)(w':qW):Prop:=
 e= .returned (.tuple #[])/\Kp (fun k=>k=g) w w'/\w'.ownsRow B e1 z (.slice (aA g) n c) n xs
theorem jB(w:qW):qC 156 #[.slice none 0 0,.func (.func 157) #[] #[]] w (Gives w (.tuple #[])):=by
 have c1:=Zh (fun W=>lL 0 Za W)
 have c2:=Zh (fun W=>ybs W 0)
 have c3:Hid (∀W,qC 216 #[.slice none 0 0,iI 0,iI 0,iI (lenN 0),.func (.func 157) #[] #[]] W (Gives W (.tuple #[]))):=Zh (fun W=>by
  go_enter Tryz.func216,Tryz.ntmps216
  go_wp2_with fail
  refine zao 1 ?_
  rw [zap]
  go_wp2_with (go_at_call 267;refine (c2.out _).mono ?_;rintro e w1 ⟨rfl,p,rfl⟩)
  go_end0
  exact Gives.mk rfl Zv)
 go_enter Tryz.func156,Tryz.ntmps156
 go_wp2_with fail
 go_at_call 217
 refine (c1.out _).mono ?_
 rintro e w1 ⟨rfl,p,rfl⟩
 go_wp2_with fail
 go_at_call 216
 refine (c3.out _).mono ?_
 rintro e w1 ⟨rfl,p,rfl⟩
 go_wp2_with fail
 go_end0
 exact Gives.mk rfl Zv
theorem jA(w:qW)(B g c:Nat)(l:List Int)(h:w.ownsRow B 3 1 (.slice (aA g) l.length c) l.length (l.flatMap numC))(hl:l.length<=12)(hr: ∀x∈l,0<=x/\x<=100000):qC 156 #[.slice (aA g) l.length c,.func (.func 157) #[] #[]] w (SoD w B g c l.length 3 1 ((isort ltD 0 l).flatMap numC)):=by
 have c1:=Zh (fun W=>lL l.length hl W)
 have xY:=(h.lt g rfl).2
 have c2:=Zh (fun W (hb:Below w.heap.size w W)=>ybp W B g c l (aw h (fun b xr=>by
  have AA:g=b:=by simpa [Value.ownBlock] using xr
  subst AA
  exact hb.block g xY)) Za hr)
 clear h hr
 generalize l.length=n at*
 generalize lenN n=lv at*
 generalize (isort ltD 0 l).flatMap numC=xs at*
 have c3:Hid (∀W,Below w.heap.size w W->qC 216 #[.slice (aA g) n c,iI 0,iI n,iI lv,.func (.func 157) #[] #[]] W (RoD W B g c n 3 1 xs (.tuple #[]))):=Zh (fun W hb=>by
  have HB:=Zh hb
  clear hb
  go_enter Tryz.func216,Tryz.ntmps216
  go_wp2_with fail
  refine zao 1 ?_
  rw [zap]
  go_wp2_with fail
  go_at_call 267
  refine (c2.out _ HB.out).mono ?_
  intro e w1 hD
  obtain rfl:=hD.1
  have HD:=Zh hD
  clear hD
  go_wp2_with fail
  go_end0
  exact HD.out)
 clear c2
 go_enter Tryz.func156,Tryz.ntmps156
 go_wp2_with fail
 go_at_call 217
 refine (c1.out _).mono ?_
 rintro e w1 ⟨rfl,p,rfl⟩
 go_wp2_with fail
 go_at_call 216
 refine (c3.out _ Zv).mono ?_
 intro e w1 hD
 obtain rfl:=hD.1
 have HD:=Zh hD
 clear hD
 go_wp2_with fail
 go_end0
 exact ⟨rfl,(Kp.mo w p).trans HD.out.2.1,HD.out.2.2⟩
theorem qP(w:qW)(B g c:Nat)(l:List Tri)(h:w.ownsRow B 235 3 (.slice (aA g) l.length c) l.length (l.flatMap tvC))(hl:l.length<=20):qC 109 #[.slice (aA g) l.length c,.func (.func 110) #[] #[]] w (SoD w B g c l.length 235 3 ((isort ltV (0,0,0) l).flatMap tvC)):=by
 have c2:=Zh (ybq w B g c l h Za)
 clear h
 generalize hn:l.length=n at*
 generalize (isort ltV (0,0,0) l).flatMap tvC=xs at*
 have c3:Hid (qC 153 #[.slice (aA g) n c,iI n,.func (.func 110) #[] #[]] w (SoD w B g c n 235 3 xs)):=Zh (by
  clear hn
  by_cases MS:n=20
  ·subst MS
   have c4:=Zh (fun W=>ybr W (aA g) c)
   go_enter Tryz.func153,Tryz.ntmps153
   go_wp2_with fail
   refine zao 2 ?_
   rw [zap]
   go_wp2_with fail
   go_at_call 213
   refine c2.out.mono ?_
   intro e w1 hD
   obtain rfl:=hD.1
   have HD:=Zh hD
   clear hD
   go_wp2_with fail
   rw [zap]
   go_wp2_with fail
   go_at_call 213
   refine (c4.out _).mono ?_
   rintro e w2 ⟨rfl,p,rfl⟩
   go_wp2_with fail
   refine zao 1 ?_
   rw [zap]
   go_wp2_with fail
   go_end0
   have xY:=(HD.out.2.2.lt g rfl).2
   exact ⟨rfl,HD.out.2.1.trans (Kp.mo w1 p),aw HD.out.2.2 (fun b xr=>by
    have AA:g=b:=by simpa [Value.ownBlock] using xr
    subst AA
    exact (av w1 p).block g xY)⟩
  ·have wY:n<20:=by omega
   go_enter Tryz.func153,Tryz.ntmps153
   go_wp2_with fail
   refine zao 1 ?_
   rw [zap]
   go_wp2_with fail
   go_at_call 213
   refine c2.out.mono ?_
   intro e w1 hD
   obtain rfl:=hD.1
   have HD:=Zh hD
   clear hD
   go_wp2_with fail
   refine zao 1 ?_
   rw [zap]
   go_wp2_with fail
   go_end0
   exact HD.out)
 clear c2
 go_enter Tryz.func109,Tryz.ntmps109
 go_wp2_with fail
 go_at_call 153
 refine c3.out.mono ?_
 intro e w1 hD
 obtain rfl:=hD.1
 have HD:=Zh hD
 clear hD
 go_wp2_with fail
 go_end0
 exact HD.out
theorem ybj:(Tryz.prog.info? 235).map (fun i=>(i.zero,i.size,i.bytes))=some (some (.agg #[iI 0,iI 0,iI 0]),3,24):=by kernel_rfl
theorem rZ(p:Addr)(n c:Nat)(w:qW):(binOp BinOp.eql 178 (.slice (some p) n c) (.slice none 0 0)).run Tryz.prog w= .ok (.bool false) w:=by kernel_rfl
theorem yd4(w:qW)(g c:Nat)(l:List Tri)(h0:0<l.length)(hl:l.length<=2000)(hg:g<w.heap.size)(hR:RowC w g (l.flatMap tvC))(hc:l.length<=c)(yr:c<=9223372036854775807):qC 108 #[.slice (aA g) l.length c] w (fun e w'=> ∃g' c',e= .returned (.slice (aA g') l.length c')/\Below w.heap.size w w'/\w'.ownsRow w.heap.size 235 3 (.slice (aA g') l.length c') l.length (l.flatMap tvC)):=by
 obtain ⟨i0,xz,xq,xm,xk⟩:=zan ybj
 have wX:(l.flatMap tvC).length=l.length*3:=by
  clear h0 hl hR hc
  induction l with
  |nil=>rfl
  |cons x l ih=>rw [zaf,zaO,ih];simp [tvC];omega
 have h1: ∀u∈l.flatMap tvC,u.oneCell'=true:=by
  intro u hu
  obtain ⟨x, -,hx⟩:=List.mem_flatMap.1 hu
  simp only [tvC,zaM,zaN,or_false] at hx
  rcases hx with rfl|rfl|rfl<;>rfl
 generalize BB:l.flatMap tvC=xs at*
 clear BB
 generalize l.length=n at*
 have HR:=Zh hR
 have H1:=Zh h1
 clear hR h1
 have Ay:=rZ ⟨g,0,none⟩ n c
 go_enter Tryz.func108,Tryz.ntmps108
 go_wp2_with (at_builtin;refine wpList_append_own_at (w:=w.alloc (.cells #[] 235)) (hgd:=rfl) (s:= .tmp 5) (x:= .tmp 6) (t:=178) (ho:=rfl) (base:=w.heap.size) (e:=235) (i:=i0) (z:=_) (size:=3) (bytes:=24) (ht:=Tryz.underlying178) (hi:=xz) (hz:=xq) (hsize:=xm) (hby:=xk) (hzs:=rfl) (hsz:=by decide) (v:= .slice (aA w.heap.size) 0 0) (n:=0) (xs:=[]) (hs:=rfl) (hown:=⟨rfl,.inr ⟨w.heap.size,0,#[],rfl,zaq _,zab _ _,zaq _,by unfold maxLen;omega,rfl,rfl⟩⟩) (ad:=⟨g,0,none⟩) (m:=n) (c:=c) (news:=xs) (hx:=rfl) (hl:=wX) (hnews:=fun j u hu=>by rw [bK];exact ((ab (zaa _ w) _).cell (p:=⟨g,j,none⟩) hg).trans (HR.out j u hu)) (h1:=H1.out) (h63:=by unfold maxLen;omega) (hbytes:=by omega) (hbase:=by simp [go_sem]) (h:=?_);intro v' w' h2 h3 _ h5;obtain ⟨g2,cap,rfl,_,wY⟩:=h2.form Za;have HO:=Zh h2;have HG:=Zh h3;clear h2 h3 h5)
 go_ret
 have ho:=HO.out
 simp only [zag,List.nil_append] at ho
 refine ⟨g2,cap,by simp,?_,ho⟩
 refine (ab (zaa w.heap.size w) (.cells #[] 235)).grown HG.out ZG (fun b hb=>?_)
 simp [Value.ownBlock] at hb
 omega
theorem sC(q:List (Int×Int)):(qPop q).1.length=q.length-1:=by
 unfold qPop
 simp only [zaR,jY,bP]
 omega
theorem t9: ∀(n:Nat) (at_:Int) (fr:List Int) (us:List (Int×Int)),fr.length<=(pDrain n at_ fr us).1.length:=by
 intro n
 induction n with
 |zero=>exact fun _ _ _=>zaq _
 |succ n ih=>
  intro at_ fr us
  cases us with
  |nil=>exact zaq _
  |cons x us=>
   simp only [pDrain]
   split
   ·refine zal ?_ (ih _ _ _)
    simp
   ·exact zaq _
def lenV:qV->Nat
 | .slice _ n _=>n
 |_=>0
theorem rV(x y:Int)(W:qW):(Instr.field 294 (.agg #[iI x,iI y]) 1).run Tryz.prog W= .ok (iI y) W:=by kernel_rfl
section
variable{w0 W W' w:qW}{M:Nat}{F F1:Nat->Prop}{fv uv:qV}{P:Pool}
theorem PoX.frD{g c:Nat}{l':List Int}{e:Ending}{W2:qW}(h:PoX w0 M F (.slice (aA g) P.free.length c) uv W P)(hD:SoD W (M+1) g c P.free.length 3 1 (l'.flatMap numC) e W2)(hl:l'.length=P.free.length):PoX w0 M F (.slice (aA g) P.free.length c) uv W2 {P with free:=l'}:=by
 obtain ⟨-,hk,ho⟩:=hD
 have hF:F g:=(h.ft g).2 (.inr ⟨_,.head _,rfl⟩)
 have hb:=h.ob.turn (r:=⟨0,3,1,P.free.length,P.free.flatMap numC⟩) (.head _) (hk.mono (fun k _ e=>by rw [e];rfl)) ho
 have e2:(poR P).map (fun q=>if q.ix=0 then {q with xs:=l'.flatMap numC} else q)=poR {P with free:=l'}:=by simp [poR,hl]
 rw [e2] at hb
 refine ⟨hb,fun k=>?_,aH h.bl hk (fun k e=>e ▸ (h.inb hF).1),h.le,⟨by rw [hl];exact h.fin.free,h.fin.used,h.fin.next,h.fin.most⟩⟩
 rw [h.ft]
 refine or_congr Iff.rfl ⟨?_,?_⟩
 all_goals
  rintro ⟨r,hr,hk⟩
  simp only [poR,zaM,zaN,or_false] at hr
  rcases hr with rfl|rfl
  ·exact ⟨_,.head _,hk⟩
  ·exact ⟨_,.tail _ (.head _),hk⟩
theorem nz(w:qW)(h:Po w0 M F w P)(at_:Int)(R:List Int×List (Int×Int))(hR:pDrain P.used.length at_ P.free P.used=R)(hl:R.1.length<=12)(hr: ∀x∈R.1,0<=x/\x<=100000):qC 113 #[pP M,iI at_] w (PoD w0 M F w {P with free:=isort ltD 0 R.1,used:=R.2} (.tuple #[])):=by
 obtain ⟨i1,Br,AH,Bm,Ag⟩:=zan ia
 have HM:=Zh (PoA.begin h)
 have HR:=Zh hR
 have AF:=Zh hr
 have Mo:=PoA.begin h
 obtain ⟨_,_,h0⟩:=h
 have xS:=h0.fin
 clear h0 hR hr Mo
 have Nq:=jL
 have hfd:=rV
 go_enter Tryz.func113,Tryz.ntmps113
 go_wp2_with fail
 go_loopw [] (fun wr=> ∃(fr:List Int) (us:List (Int×Int)) (F1:Nat->Prop),Hid (PoA w0 M F w wr F1 {P with free:=fr,used:=us})/\Hid (pDrain us.length at_ fr us=R)) (fun wr=>match wr.cell? (aB M 1) with|some v=>lenV v|none=>0)
 case atStart=>exact ⟨P.free,P.used,F,HM,HR⟩
 case round=>
  obtain ⟨fr,us,F1,HM,HR⟩:=hrel
  obtain ⟨fv,uv,hx⟩:=HM.out.po
  have j':=hx.bd
  have Gs:=hx.fin
  have Ir:us.length<=2000:=Gs.used
  have Bb:fr.length<=12:=zal (by have:=t9 us.length at_ fr us;rw [HR.out] at this;exact this) hl
  obtain ⟨ua,uc,rfl,ul,ucm,unl,uat⟩:=az hx.own1
  have q1: ∀j,wr.cell? (aB M j)=(#[fv,.slice ua us.length uc,iI P.next,iI P.most]:Array qV)[j]?:=aa hx.ob.out
  have Aw:wr.cell? (aB M 1)=some (.slice ua us.length uc):=q1 1
  cases us with
  |nil=>
   have GU:R=(fr,[]):=HR.out.symm
   obtain ⟨fa,fc,rfl,fl,fcm,fnl,fat⟩:=az hx.own0
   have Jy:wr.cell? (aB M 0)=some (.slice fa fr.length fc):=q1 0
   have HX:=Zh hx
   have Ar:R.1=fr:=by rw [GU]
   have y':R.2=[]:=by rw [GU]
   rw [Ar] at AF
   clear hx q1 uat
   cases fa with
   |none=>
    have zI:fr.length=0:=(fnl rfl).1
    have xR:fr=[]:=List.length_eq_zero_iff.1 zI
    have J5:fc=0:=(fnl rfl).2
    subst xR J5
    have c1:=Zh (fun W=>jB W)
    go_wp2_with fail
    go_at_call 156
    refine (c1.out _).mono ?_
    rintro e w1 ⟨rfl,p,rfl⟩
    go_wp2_with fail
    go_end0
    rw [Ar,y']
    exact (HM.out.bel (av _ _)).fin
   |some p=>
    obtain ⟨g0,rfl⟩: ∃g0,p=⟨g0,0,none⟩:=⟨p.block,fat p rfl⟩
    have c1:=Zh (jA wr (M+1) g0 fc fr HX.out.own0 Bb AF.out)
    clear fnl fat
    go_wp2_with fail
    go_at_call 156
    refine c1.out.mono ?_
    intro e w1 hD
    obtain rfl:=hD.1
    have zw:=PoX.frD (P:={P with free:=fr,used:=[]}) (g:=g0) (c:=fc) HX.out hD (gZ ltD 0 fr.length 1 fr)
    have HK:=Zh hD.2.1
    have zN:F1 g0:=(HX.out.ft g0).2 (.inr ⟨_,.head _,rfl⟩)
    have Ea:=Zh zw
    clear hD zw
    go_wp2_with fail
    go_end0
    rw [Ar,y']
    refine ⟨rfl,F1,⟨_,_,Ea.out⟩,HM.out.kp.next (HK.out.mono (fun k _ e=>e ▸ zN)) (fun k hk e=>(HM.out.rel.r k e).elim id (fun e=>by omega)),HM.out.rel⟩
  |cons x us'=>
   have Cs:0<(x::us').length:=Nat.succ_pos _
   rcases ua with _|⟨ug,uo,ui⟩
   ·exact absurd (unl rfl).1 Zi
   obtain ⟨rfl,rfl⟩:uo=0/\ui=none:=by
    have h9:=uat _ rfl
    injection h9 with h9 Ds IM
    exact ⟨Ds,IM⟩
   have yC:=(dw hx.own1 (i:=0) (y:=x) rfl).1
   rw [Nat.zero_mul] at yC
   by_cases wY:x.1<at_
   ·have xw:Hid (pDrain us'.length at_ (fr++[(qPop (x::us')).2.2]) (qPop (x::us')).1=R):=Zh (by
     have:=HR.out
     simp only [za2,pDrain,if_pos wY] at this
     exact this)
    have BM:=sC (x::us')
    simp only [za2,Nat.add_sub_cancel] at BM
    generalize Li:qPop (x::us')=qp at*
    have HQP:=Zh Li
    clear Li
    have Nh:us'.length+1=(x::us').length:=rfl
    generalize hus:(x::us').length=m at*
    clear unl uat
    go_wp2_with fail
    have Jy:=q1 0
    have HX:=Zh hx
    clear q1 hx yC
    refine ae (fun W=>True) (fun W=>W.cell? (aB M 0)=some fv) 16 rfl ?_
    have hB:wr.drew.cell? (aB M 0)=some fv:=Jy
    have hA:True:=trivial
    refine Zp 0 rfl (h:=Zp 1 rfl (h:=Zp 2 rfl (h:=Zp 3 rfl (h:=Zl 4 [13,16] rfl (h:=Zp 5 rfl (h:=Zp 6 rfl (h:=Zp 7 rfl (h:=Zp 8 rfl (h:=?_)))))))));try simp only [Zq]
    refine Zs 9 rfl fun K hK=>?_
    go_simp
    go_at_call 155
    refine (ybU wr.drew (HX.out.below (ag (zaa wr.heap.size wr))) Zi).mono ?_
    rintro e w1 ⟨rfl,F2,⟨uv2,zO⟩,xT,yx⟩
    simp only [HQP.out] at zO ⊢
    have AW:=zO.bd
    have q2: ∀j,w1.cell? (aB M j)=(#[fv,uv2,iI P.next,iI P.most]:Array qV)[j]?:=aa zO.ob.out
    have qf2:=ai zO.ob.out
    obtain ⟨va,vc,rfl,vl,vcm,vnl,vat⟩:=az zO.own1
    clear vnl vat
    have yG:=zO.own0
    have Ea:=Zh zO
    have xu:=Zh yG
    have BA:=Zh xT
    have AG:=Zh yx
    refine hK _ _ ⟨trivial,fun _=>q2 0⟩ ?_
    clear hK K hB zO yG xT yx
    have hB:w1.cell? (aB M 0)=some fv:=q2 0
    refine Zp 10 rfl (h:=Zp 11 rfl (h:=?_));try simp only [Zq]
    refine Zs 12 rfl fun K hK=>?_
    go_simp
    have ya:(w1.alloc (.cells #[iI qp.2.2] 3)).cell? (aB M 0)=some fv:=by rw [aR,if_pos AW.2];exact q2 0
    refine hK _ _ ⟨trivial,fun _=>ya⟩ ?_
    have CM:PFin {P with free:=fr++[qp.2.2],used:=qp.1}:=⟨by simp;omega,by simp only;omega,xS.next,xS.most⟩
    have Ad:=xu.out
    simp only at Ad
    refine Zs 13 rfl fun K hK=>?_
    refine a8 (.tmp 25) (.tmp 33) 55 3 i1 _ 1 8 Tryz.underlying55 Br AH Bm Ag rfl Zg rfl rfl (M+1) fv fr.length (fr.flatMap numC) (aw Ad (fun g hg=>zac _ _ (Ad.lt g hg).2)) w1.heap.size #[iI qp.2.2] 3 (0,0) (zab _ _) ZB ZB rfl ZL Za Za Zc ?_
    intro g4 cap4 w4 hown wW xb JC
    have hD:=Zh (Ea.out.app ⟨0,3,1,fr.length,fr.flatMap numC⟩ (.head _) (new:=numC qp.2.2) (Kp.al w1 _) wW hown xb (fv':= .slice (aA g4) (fr.length+1) cap4) (P':={P with free:=fr++[qp.2.2],used:=qp.1}) rfl (tA _) CM)
    have wT:Kp (fun k=>fv.ownBlock=some k) (w1.alloc _) w4:=(Kp.of_grown wW).mono (fun k _ e=>e.symm)
    have kc: ∀j,w4.cell? (aB M j)=(#[fv,.slice va qp.1.length vc,iI P.next,iI P.most]:Array qV)[j]?:=fun j=>((wT.cell Zc (fun e=>by have:=(Ad.lt _ e).1;omega)).trans (by rw [aR,if_pos AW.2])).trans (q2 j)
    have kf: ∀j,w4.frozen? (aB M j)=false:=ai ((wT.block M Zc (fun e=>by have:=(Ad.lt _ e).1;omega)).trans ((zac _ _ AW.2).trans Ea.out.ob.out))
    clear hown wW xb wT
    refine hK _ _ ⟨trivial,fun _=>kc 0⟩ ?_
    clear hK K hB ya
    have hB:w4.cell? (aB M 0)=some fv:=kc 0
    refine Zp 14 rfl (h:=Zp 15 rfl (h:=?_));try simp only [Zq]
    refine Zs 16 rfl fun K hK=>?_
    go_simp
    refine hK _ _ ⟨trivial,fun hh=>Bool.noConfusion (hh.symm.trans (show _=true by kernel_rfl))⟩ ?_
    clear hK K hB hA
    have Jx:(w4.setCell ⟨M,0,none⟩ (.slice (aA g4) (fr.length+1) cap4)).cell? (aB M 1)=some (.slice va qp.1.length vc):=(zaH _ _ _ _ Zi).trans (kc 1)
    refine af Zb ?_ _
    go_wp2_with fail
    obtain ⟨F3,Kd,AQ,DL⟩:=hD.out
    have xh:Kp F1 wr w1:=(Kp.dr wr).trans BA.out
    have hz:wr.heap.size<=w1.heap.size:=xh.size
    refine ⟨⟨fr++[qp.2.2],qp.1,F3,Zh ⟨⟨_,_,Kd⟩,?_,?_⟩,Zh ?_⟩,?_⟩
    ·have h5:Kp F1 wr _:=xh.next AQ (fun k hk e=>(AG.out.r k e).elim id (fun e=>by have:wr.drew.heap.size=wr.heap.size:=rfl;omega))
     exact HM.out.kp.next h5 (fun k hk e=>(HM.out.rel.r k e).elim id (fun e=>by omega))
    ·exact (HM.out.rel.trans AG.out HM.out.kp.size).trans DL (zal HM.out.kp.size hz)
    ·rw [BM]
     exact xw.out
    ·rw [Jx,Aw]
     simp only [lenV]
     omega
   ·have GU:R=(fr,x::us'):=by
     have:=HR.out
     simp only [za2,pDrain,if_neg wY] at this
     exact this.symm
    obtain ⟨fa,fc,rfl,fl,fcm,fnl,fat⟩:=az hx.own0
    have Jy:wr.cell? (aB M 0)=some (.slice fa fr.length fc):=q1 0
    have HX:=Zh hx
    have Ar:R.1=fr:=by rw [GU]
    have y':R.2=(x::us'):=by rw [GU]
    rw [Ar] at AF
    clear hx q1 uat
    cases fa with
    |none=>
     have zI:fr.length=0:=(fnl rfl).1
     have xR:fr=[]:=List.length_eq_zero_iff.1 zI
     have J5:fc=0:=(fnl rfl).2
     subst xR J5
     have c1:=Zh (fun W=>jB W)
     go_wp2_with fail
     go_at_call 156
     refine (c1.out _).mono ?_
     rintro e w1 ⟨rfl,p,rfl⟩
     go_wp2_with fail
     go_end0
     rw [Ar,y']
     exact (HM.out.bel (av _ _)).fin
    |some p=>
     obtain ⟨g0,rfl⟩: ∃g0,p=⟨g0,0,none⟩:=⟨p.block,fat p rfl⟩
     have c1:=Zh (jA wr (M+1) g0 fc fr HX.out.own0 Bb AF.out)
     clear fnl fat
     go_wp2_with fail
     go_at_call 156
     refine c1.out.mono ?_
     intro e w1 hD
     obtain rfl:=hD.1
     have zw:=PoX.frD (P:={P with free:=fr,used:=(x::us')}) (g:=g0) (c:=fc) HX.out hD (gZ ltD 0 fr.length 1 fr)
     have HK:=Zh hD.2.1
     have zN:F1 g0:=(HX.out.ft g0).2 (.inr ⟨_,.head _,rfl⟩)
     have Ea:=Zh zw
     clear hD zw
     go_wp2_with fail
     go_end0
     rw [Ar,y']
     refine ⟨rfl,F1,⟨_,_,Ea.out⟩,HM.out.kp.next (HK.out.mono (fun k _ e=>e ▸ zN)) (fun k hk e=>(HM.out.rel.r k e).elim id (fun e=>by omega)),HM.out.rel⟩
end
end Go.Proofs.YtcekjfmfcefjpaaGreatDoor
