/- Walks. No condition. -/
import Derived.Test.YtjmfoeajhiimnaaGreatDoorG20
set_option maxRecDepth 100000
set_option maxHeartbeats 0
set_option linter.all false
namespace Go.Proofs.YtjmfoeajhiimnaaGreatDoor
open Go.RowKit Go.Sort
def tvC(x:Tri):List qV:=[iI x.1,iI x.2.1,iI x.2.2]
theorem dD{w:qW}{B n c g:Nat}{e:TypeId}{l:List Tri}(h:w.ownsRow B e 3 (.slice (aA g) n c) n (l.flatMap tvC)){i:Nat}(hi:i<l.length):w.cell? ⟨g,i*3,none⟩=some (iI (l.getD i (0,0,0)).1)/\w.cell? ⟨g,i*3+1,none⟩=some (iI (l.getD i (0,0,0)).2.1)/\w.cell? ⟨g,i*3+2,none⟩=some (iI (l.getD i (0,0,0)).2.2):=by
 have hy:l[i]?=some (l.getD i (0,0,0)):=by rw [zaU,zaC hi];rfl
 have h0:=h.cells (g:=g) rfl (i*3+0) _ (by rw [bJ (f:=tvC) (z:=3) (fun _=>rfl) hy 0 Za];rfl)
 have h1:=h.cells (g:=g) rfl (i*3+1) _ (by rw [bJ (f:=tvC) (z:=3) (fun _=>rfl) hy 1 Za];rfl)
 have h2:=h.cells (g:=g) rfl (i*3+2) _ (by rw [bJ (f:=tvC) (z:=3) (fun _=>rfl) hy 2 Za];rfl)
 rw [bN] at h0 h1 h2
 exact ⟨h0,h1,h2⟩
theorem je(l:List Tri)(i:Nat)(hi:i<l.length)(x:Tri):(((l.flatMap tvC).set (i*3) (iI x.1)).set (i*3+1) (iI x.2.1)).set (i*3+2) (iI x.2.2)=(l.set i x).flatMap tvC:=by
 have h1:=dt (f:=tvC) (z:=3) (fun _=>rfl) (0,0,0) l i 0 (x.1,(l.getD i (0,0,0)).2.1,(l.getD i (0,0,0)).2.2) (iI x.1) hi Za rfl
 have h2:=dt (f:=tvC) (z:=3) (fun _=>rfl) (0,0,0) (l.set i (x.1,(l.getD i (0,0,0)).2.1,(l.getD i (0,0,0)).2.2)) i 1 (x.1,x.2.1,(l.getD i (0,0,0)).2.2) (iI x.2.1) (by simpa using hi) Za (by simp [hi,tvC])
 have h3:=dt (f:=tvC) (z:=3) (fun _=>rfl) (0,0,0) ((l.set i (x.1,(l.getD i (0,0,0)).2.1,(l.getD i (0,0,0)).2.2)).set i (x.1,x.2.1,(l.getD i (0,0,0)).2.2)) i 2 x (iI x.2.2) (by simpa using hi) Za (by simp [hi,tvC])
 rw [Nat.add_zero] at h1
 rw [<-h1,<-h2,<-h3]
 simp
theorem ybT(w:qW)(B g c:Nat)(l:List Tri)(h:w.ownsRow B 210 3 (.slice (aA g) l.length c) l.length (l.flatMap tvC))(hl:l.length<=2000):qC 206 #[.slice (aA g) l.length c,iI 0,iI l.length,.func (.func 82) #[] #[]] w (RoD w B g c l.length 210 3 ((isort ltV (0,0,0) l).flatMap tvC) (.tuple #[])):=by
 have HO:=Zh h
 obtain ⟨_,c2,e2,Bx,yB, -⟩:=aC h
 injection e2 with e2 e3 e4
 subst e4
 generalize hT:isort ltV (0,0,0) l=T
 have HT:Hid (isortN ltV (0,0,0) l.length 1 l=T):=Zh hT
 clear h hT e2
 generalize hn:l.length=n at*
 go_enter Tryz.func206,Tryz.ntmps206
 go_wp2_with fail
 go_loopw [8] (fun v8 wr=> ∃(i f:Nat) (q:List Tri),v8=iI i/\1<=i/\i<=n+1/\n<=i+f/\q.length=n/\Hid (wr.ownsRow B 210 3 (.slice (aA g) n c) n (q.flatMap tvC))/\Hid (Kp (fun k=>k=g) w wr)/\Hid (isortN ltV (0,0,0) f i q=T)) (fun v8 _=>n+1-(intOf v8).toNat)
 case atStart=>exact ⟨1,n,l,rfl,zaq _,by omega,by omega,hn,HO,Zh (Kp.refl _ _),HT⟩
 case round=>
  obtain ⟨i,f,q,rfl,Bm,EF,hf,hq,HO,HK,HT⟩:=hrel
  clear hn
  by_cases AD:i<n
  ·have xz:=Zh (ma HT.out Za Za)
   go_wp2_with fail
   go_loopw [9] (fun v9 wy=> ∃(j:Nat) (qj:List Tri),v9=iI j/\j<=i/\qj.length=n/\Hid (wy.ownsRow B 210 3 (.slice (aA g) n c) n (qj.flatMap tvC))/\Hid (Kp (fun k=>k=g) w wy)/\Hid (bub ltV (0,0,0) j qj=bub ltV (0,0,0) i q)) (fun v9 _=>(intOf v9).toNat)
   case atStart=>exact ⟨i,q,rfl,zaq _,hq,HO,HK,Zh rfl⟩
   case round=>
    obtain ⟨j,qj,rfl,hj,Ei,HO,HK,HB⟩:=hrel
    have yd:=(HO.out.lt g rfl).2
    by_cases Dk:j=0
    ·subst Dk
     go_wp2_with fail
     have hA:True:=trivial
     have hB:True:=trivial
     refine ae (fun W=>True) (fun W=>True) 16 rfl ?_
     refine Zp 0 rfl (h:=Zp 1 rfl (h:=Zp 2 rfl (h:=?_)));try simp only [Zq]
     refine Zp 3 rfl (h:=Zn 4 rfl (h:=?_));try simp only [Zq]
     refine Zn 5 rfl (h:=Zn 6 rfl (h:=?_));try simp only [Zq]
     refine Zn 7 rfl (h:=Zn 8 rfl (h:=?_));try simp only [Zq]
     refine Zn 9 rfl (h:=Zn 10 rfl (h:=?_));try simp only [Zq]
     refine Zn 11 rfl (h:=Zn 12 rfl (h:=?_));try simp only [Zq]
     refine Zn 13 rfl (h:=Zn 14 rfl (h:=?_));try simp only [Zq]
     refine Zn 15 rfl (h:=?_);try simp only [Zq]
     refine Zs 16 rfl fun K hK=>?_
     go_simp
     refine hK _ _ ⟨trivial,fun _=>trivial⟩ ?_
     clear hK K
     refine af Zb ?_ _
     go_wp2_with fail
     have yb:qj=bub ltV (0,0,0) i q:=by rw [<-HB.out];rfl
     refine ⟨⟨i+1,f-1,qj,by go_num,by omega,by omega,by omega,Ei,Zh (ax HO.out (fun _ _=>rfl)),Zh (HK.out.trans (Kp.dr _)),Zh (by rw [yb];exact xz.out)⟩,by simp [intOf];omega⟩
    ·obtain ⟨k,zQ⟩: ∃k,j=k+1:=⟨j-1,by omega⟩
     have AQ:(j:Int)-1=(k:Int):=by omega
     have Js:IntKind.i64.wrap (k:Int)=(k:Int):=aR Za Za
     have Cb:j<n:=by omega
     have zq:(0:Int)<(j:Int):=by omega
     have Ge:0<j:=by omega
     have ym:k<n:=by omega
     have hx:=dD HO.out (i:=j) Za
     have hy:=dD HO.out (i:=k) Za
     have Ah:=cJ HO.out
     have yF:Hid (bub ltV (0,0,0) j qj=if ltV (qj.getD j (0,0,0)) (qj.getD k (0,0,0)) then bub ltV (0,0,0) k ((qj.set j (qj.getD k (0,0,0))).set k (qj.getD j (0,0,0))) else qj):=Zh (by rw [zQ,bub])
     generalize hX:qj.getD j (0,0,0)=x at*
     generalize hY:qj.getD k (0,0,0)=y at*
     have HX:=Zh hX
     have HY:=Zh hY
     clear hX hY
     have HJ:=Zh zQ
     clear zQ
     have CL:=Zh (fun W=>yfm x y W)
     have AU:Hid (ltV x y=decide (cmpV x y<0)):=Zh rfl
     go_wp2_with fail
     have hA:(wr.drew.cell? ⟨g,j*3,none⟩=some (iI x.1)/\wr.drew.cell? ⟨g,j*3+1,none⟩=some (iI x.2.1)/\wr.drew.cell? ⟨g,j*3+2,none⟩=some (iI x.2.2))/\(wr.drew.cell? ⟨g,k*3,none⟩=some (iI y.1)/\wr.drew.cell? ⟨g,k*3+1,none⟩=some (iI y.2.1)/\wr.drew.cell? ⟨g,k*3+2,none⟩=some (iI y.2.2)):=⟨hx,hy⟩
     have hB:True:=trivial
     refine ae (fun W=>(W.cell? ⟨g,j*3,none⟩=some (iI x.1)/\W.cell? ⟨g,j*3+1,none⟩=some (iI x.2.1)/\W.cell? ⟨g,j*3+2,none⟩=some (iI x.2.2))/\(W.cell? ⟨g,k*3,none⟩=some (iI y.1)/\W.cell? ⟨g,k*3+1,none⟩=some (iI y.2.1)/\W.cell? ⟨g,k*3+2,none⟩=some (iI y.2.2))) (fun W=>True) 16 rfl ?_
     refine Zp 0 rfl (h:=Zp 1 rfl (h:=Zp 2 rfl (h:=?_)));try simp only [Zq]
     refine Zp 3 rfl (h:=Zp 4 rfl (h:=Zp 5 rfl (h:=?_)));try simp only [Zq]
     refine Zp 6 rfl (h:=Zp 7 rfl (h:=Zt 8 rfl (h:=?_)));try simp only [Zq]
     refine Zp 9 rfl (h:=Zp 10 rfl (h:=Zp 11 rfl (h:=?_)));try simp only [Zq]
     refine Zp 12 rfl (h:=Zt 13 rfl (h:=?_));try simp only [Zq]
     refine eQ 14 rfl Zb (by rfl) (fun K hK=>?_)
     go_simp
     go_at_call 82
     refine (CL.out _).mono ?_
     rintro e w1 ⟨rfl,p,rfl⟩
     have ye:((more wr.drew p).cell? ⟨g,j*3,none⟩=some (iI x.1)/\(more wr.drew p).cell? ⟨g,j*3+1,none⟩=some (iI x.2.1)/\(more wr.drew p).cell? ⟨g,j*3+2,none⟩=some (iI x.2.2))/\((more wr.drew p).cell? ⟨g,k*3,none⟩=some (iI y.1)/\(more wr.drew p).cell? ⟨g,k*3+1,none⟩=some (iI y.2.1)/\(more wr.drew p).cell? ⟨g,k*3+2,none⟩=some (iI y.2.2)):=⟨⟨((au wr.drew p).cell (p:=⟨g,j*3,none⟩) yd).trans hA.1.1,((au wr.drew p).cell (p:=⟨g,j*3+1,none⟩) yd).trans hA.1.2.1,((au wr.drew p).cell (p:=⟨g,j*3+2,none⟩) yd).trans hA.1.2.2⟩,⟨((au wr.drew p).cell (p:=⟨g,k*3,none⟩) yd).trans hA.2.1,((au wr.drew p).cell (p:=⟨g,k*3+1,none⟩) yd).trans hA.2.2.1,((au wr.drew p).cell (p:=⟨g,k*3+2,none⟩) yd).trans hA.2.2.2⟩⟩
     refine hK _ _ ⟨ye,fun _=>trivial⟩ ?_
     clear hK K hA
     have hA:=ye
     refine Zp 15 rfl (h:=?_);try simp only [Zq]
     refine Zs 16 rfl fun K hK=>?_
     go_simp
     refine hK _ _ ⟨ye,fun _=>trivial⟩ ?_
     clear hK K
     refine af Zb ?_ _
     clear hA ye hB hx hy Ah
     by_cases xe:cmpV x y<0
     ·go_wp2_with fail
      refine aS (R:=fun W=>W.ownsRow B 210 3 (.slice (aA g) n c) n (qj.flatMap tvC)/\Kp (fun k=>k=g) w W) ⟨ax HO.out (fun b hb=>by
       have AG:g=b:=by simpa [Value.ownBlock] using hb
       subst AG
       exact (au wr.drew p).block g yd),(HK.out.trans (Kp.dr _)).more p⟩ ?_
      rintro W ⟨ho,hk⟩
      have hx:=dD ho (i:=j) Za
      have hy:=dD ho (i:=k) Za
      have Ah:=cJ ho
      rw [HX.out] at hx
      rw [HY.out] at hy
      have HO:=Zh ho
      have HK:=Zh hk
      have yd:=(ho.lt g rfl).2
      clear ho hk CL
      have hA:True:=trivial
      have hB:(W.drew.cell? ⟨g,j*3,none⟩=some (iI x.1)/\W.drew.cell? ⟨g,j*3+1,none⟩=some (iI x.2.1)/\W.drew.cell? ⟨g,j*3+2,none⟩=some (iI x.2.2))/\(W.drew.cell? ⟨g,k*3,none⟩=some (iI y.1)/\W.drew.cell? ⟨g,k*3+1,none⟩=some (iI y.2.1)/\W.drew.cell? ⟨g,k*3+2,none⟩=some (iI y.2.2)):=⟨hx,hy⟩
      refine ae (fun W=>True) (fun W=>(W.cell? ⟨g,j*3,none⟩=some (iI x.1)/\W.cell? ⟨g,j*3+1,none⟩=some (iI x.2.1)/\W.cell? ⟨g,j*3+2,none⟩=some (iI x.2.2))/\(W.cell? ⟨g,k*3,none⟩=some (iI y.1)/\W.cell? ⟨g,k*3+1,none⟩=some (iI y.2.1)/\W.cell? ⟨g,k*3+2,none⟩=some (iI y.2.2))) 15 rfl ?_
      refine Zp 0 rfl (h:=Zp 1 rfl (h:=Zp 2 rfl (h:=?_)));try simp only [Zq]
      refine Zp 3 rfl (h:=Zp 4 rfl (h:=Zp 5 rfl (h:=?_)));try simp only [Zq]
      refine Zp 6 rfl (h:=Zp 7 rfl (h:=Zp 8 rfl (h:=?_)));try simp only [Zq]
      refine Zl 9 [15] rfl (h:=Zp 10 rfl (h:=Zp 11 rfl (h:=?_)));try simp only [Zq]
      refine Zp 12 rfl (h:=Zl 13 [15] rfl (h:=Zp 14 rfl (h:=?_)));try simp only [Zq]
      refine Zs 15 rfl fun K hK=>?_
      have y7:=Zh (ax (w':=(((W.setCell ⟨g,j*3,none⟩ (iI y.1)).setCell ⟨g,j*3+1,none⟩ (iI y.2.1)).setCell ⟨g,j*3+2,none⟩ (iI y.2.2)).drew) (bH (bH (bH HO.out (j*3) Za (iI y.1)) (j*3+1) Za (iI y.2.1)) (j*3+2) Za (iI y.2.2)) (fun _ _=>rfl))
      have zP:=Zh (((Kp.set W g (j*3) (iI y.1)).trans ((Kp.set _ g (j*3+1) (iI y.2.1)).trans (Kp.set _ g (j*3+2) (iI y.2.2)))).trans (Kp.dr (((W.setCell ⟨g,j*3,none⟩ (iI y.1)).setCell ⟨g,j*3+1,none⟩ (iI y.2.1)).setCell ⟨g,j*3+2,none⟩ (iI y.2.2))))
      go_simp
      refine hK _ _ ⟨trivial,fun hh=>Bool.noConfusion (hh.symm.trans (show _=true by kernel_rfl))⟩ ?_
      clear hK K hA hB hx hy Ah
      generalize (((W.setCell ⟨g,j*3,none⟩ (iI y.1)).setCell ⟨g,j*3+1,none⟩ (iI y.2.1)).setCell ⟨g,j*3+2,none⟩ (iI y.2.2)).drew=W2 at y7 zP ⊢
      replace y7:=Zh (je qj j Za y ▸ y7.out)
      have Aj:=dD y7.out (i:=k) Zk
      have Ah:=cJ y7.out
      have hA:True:=trivial
      have hB:True:=trivial
      have Oa:=Zh (bH (bH (bH y7.out (k*3) Za (iI x.1)) (k*3+1) Za (iI x.2.1)) (k*3+2) Za (iI x.2.2))
      have zO:=Zh ((Kp.set W2 g (k*3) (iI x.1)).trans ((Kp.set _ g (k*3+1) (iI x.2.1)).trans (Kp.set _ g (k*3+2) (iI x.2.2))))
      refine cY 16 (v:=?_) rfl Zb Zb Zb (fun _ _ _ h=>h) Zd Zb (Or.inl ⟨by rfl,?_⟩) ⟨trivial,fun hh=>Bool.noConfusion (hh.symm.trans (show _=true by kernel_rfl))⟩ ?_
      rotate_left 1
      ·intro W hW;go_simp;(try with_reducible rfl)
      try simp only [Zq]
      refine Zs 17 rfl fun K hK=>?_
      go_simp
      refine hK _ _ ⟨trivial,fun hh=>Bool.noConfusion (hh.symm.trans (show _=true by kernel_rfl))⟩ ?_
      clear hK K
      refine af Zb ?_ _
      go_wp2_with fail
      have Eu:ltV x y=true:=by rw [AU.out];exact zaw xe
      refine ⟨⟨k,(qj.set j y).set k x,rfl,by omega,by simp;exact Ei,Zh ?_,Zh ?_,Zh ?_⟩,by simp [intOf];omega⟩
      ·have:=Oa.out
       rw [je _ k Zk x] at this
       exact this
      ·exact HK.out.trans (zP.out.trans zO.out)
      ·rw [<-HB.out,yF.out,if_pos Eu]
     ·go_wp2_with fail
      have Eu:ltV x y=false:=by rw [AU.out];exact zax xe
      have yb:qj=bub ltV (0,0,0) i q:=by rw [<-HB.out,yF.out,if_neg (by rw [Eu];decide)]
      refine ⟨⟨i+1,f-1,qj,by go_num,by omega,by omega,by omega,Ei,Zh (ax HO.out (fun b hb=>by
       have AG:g=b:=by simpa [Value.ownBlock] using hb
       subst AG
       exact (au wr.drew p).block g yd)),Zh ((HK.out.trans (Kp.dr _)).more p),Zh (by rw [yb];exact xz.out)⟩,by simp [intOf];omega⟩
  ·go_wp2_with fail
   go_end0
   have BQ:=mb HT.out Za
   subst BQ
   exact ⟨rfl,HK.out,HO.out⟩
theorem ybV(w:qW)(c:Nat):qC 266 #[.slice none 0 0,iI 0,iI 0,.func (.func 134) #[] #[]] w (Gives w (.tuple #[])):=by
 go_enter Tryz.func266,Tryz.ntmps266
 go_wp2_with fail
 refine zao 1 ?_
 rw [zap]
 go_wp2_with fail
 go_end0
 exact Gives.mk rfl (zaa _ _)
theorem ybU(w:qW)(a:Option Addr)(c:Nat):qC 206 #[.slice a 20 c,iI 20,iI 20,.func (.func 82) #[] #[]] w (Gives w (.tuple #[])):=by
 go_enter Tryz.func206,Tryz.ntmps206
 go_wp2_with fail
 refine zao 1 ?_
 rw [zap]
 go_wp2_with fail
 go_end0
 exact Gives.mk rfl (zaa _ _)
def SoD(w:qW)(B g c n:Nat)(e1:TypeId)(z:Nat)(xs:List qV)(e:Ending)(w':qW):Prop:=
 e= .returned (.tuple #[])/\Kp (fun k=>k=g) w w'/\w'.ownsRow B e1 z (.slice (aA g) n c) n xs
theorem jF(w:qW):qC 133 #[.slice none 0 0,.func (.func 134) #[] #[]] w (Gives w (.tuple #[])):=by
 have c1:=Zh (fun W=>lR 0 Za W)
 have c2:=Zh (fun W=>ybV W 0)
 have c3:Hid (∀W,qC 209 #[.slice none 0 0,iI 0,iI 0,iI (lenN 0),.func (.func 134) #[] #[]] W (Gives W (.tuple #[]))):=Zh (fun W=>by
  go_enter Tryz.func209,Tryz.ntmps209
  go_wp2_with fail
  refine zao 1 ?_
  rw [zap]
  go_wp2_with (go_at_call 266;refine (c2.out _).mono ?_;rintro e w1 ⟨rfl,p,rfl⟩)
  go_end0
  exact Gives.mk rfl Zr)
 go_enter Tryz.func133,Tryz.ntmps133
 go_wp2_with fail
 go_at_call 210
 refine (c1.out _).mono ?_
 rintro e w1 ⟨rfl,p,rfl⟩
 go_wp2_with fail
 go_at_call 209
 refine (c3.out _).mono ?_
 rintro e w1 ⟨rfl,p,rfl⟩
 go_wp2_with fail
 go_end0
 exact Gives.mk rfl Zr
theorem jE(w:qW)(B g c:Nat)(l:List Int)(h:w.ownsRow B 3 1 (.slice (aA g) l.length c) l.length (l.flatMap numC))(hl:l.length<=12)(hr: ∀x∈l,0<=x/\x<=100000):qC 133 #[.slice (aA g) l.length c,.func (.func 134) #[] #[]] w (SoD w B g c l.length 3 1 ((isort ltD 0 l).flatMap numC)):=by
 have c1:=Zh (fun W=>lR l.length hl W)
 have yd:=(h.lt g rfl).2
 have c2:=Zh (fun W (hb:Below w.heap.size w W)=>ybS W B g c l (ax h (fun b xA=>by
  have AG:g=b:=by simpa [Value.ownBlock] using xA
  subst AG
  exact hb.block g yd)) Za hr)
 clear h hr
 generalize l.length=n at*
 generalize lenN n=lv at*
 generalize (isort ltD 0 l).flatMap numC=xs at*
 have c3:Hid (∀W,Below w.heap.size w W->qC 209 #[.slice (aA g) n c,iI 0,iI n,iI lv,.func (.func 134) #[] #[]] W (RoD W B g c n 3 1 xs (.tuple #[]))):=Zh (fun W hb=>by
  have HB:=Zh hb
  clear hb
  go_enter Tryz.func209,Tryz.ntmps209
  go_wp2_with fail
  refine zao 1 ?_
  rw [zap]
  go_wp2_with fail
  go_at_call 266
  refine (c2.out _ HB.out).mono ?_
  intro e w1 hD
  obtain rfl:=hD.1
  have HD:=Zh hD
  clear hD
  go_wp2_with fail
  go_end0
  exact HD.out)
 clear c2
 go_enter Tryz.func133,Tryz.ntmps133
 go_wp2_with fail
 go_at_call 210
 refine (c1.out _).mono ?_
 rintro e w1 ⟨rfl,p,rfl⟩
 go_wp2_with fail
 go_at_call 209
 refine (c3.out _ Zr).mono ?_
 intro e w1 hD
 obtain rfl:=hD.1
 have HD:=Zh hD
 clear hD
 go_wp2_with fail
 go_end0
 exact ⟨rfl,(Kp.mo w p).trans HD.out.2.1,HD.out.2.2⟩
theorem rq(w:qW)(B g c:Nat)(l:List Tri)(h:w.ownsRow B 210 3 (.slice (aA g) l.length c) l.length (l.flatMap tvC))(hl:l.length<=20):qC 81 #[.slice (aA g) l.length c,.func (.func 82) #[] #[]] w (SoD w B g c l.length 210 3 ((isort ltV (0,0,0) l).flatMap tvC)):=by
 have c2:=Zh (ybT w B g c l h Za)
 clear h
 generalize hn:l.length=n at*
 generalize (isort ltV (0,0,0) l).flatMap tvC=xs at*
 have c3:Hid (qC 130 #[.slice (aA g) n c,iI n,.func (.func 82) #[] #[]] w (SoD w B g c n 210 3 xs)):=Zh (by
  clear hn
  by_cases FC:n=20
  ·subst FC
   have c4:=Zh (fun W=>ybU W (aA g) c)
   go_enter Tryz.func130,Tryz.ntmps130
   go_wp2_with fail
   refine zao 2 ?_
   rw [zap]
   go_wp2_with fail
   go_at_call 206
   refine c2.out.mono ?_
   intro e w1 hD
   obtain rfl:=hD.1
   have HD:=Zh hD
   clear hD
   go_wp2_with fail
   rw [zap]
   go_wp2_with fail
   go_at_call 206
   refine (c4.out _).mono ?_
   rintro e w2 ⟨rfl,p,rfl⟩
   go_wp2_with fail
   refine zao 1 ?_
   rw [zap]
   go_wp2_with fail
   go_end0
   have yd:=(HD.out.2.2.lt g rfl).2
   exact ⟨rfl,HD.out.2.1.trans (Kp.mo w1 p),ax HD.out.2.2 (fun b xA=>by
    have AG:g=b:=by simpa [Value.ownBlock] using xA
    subst AG
    exact (au w1 p).block g yd)⟩
  ·have xe:n<20:=by omega
   go_enter Tryz.func130,Tryz.ntmps130
   go_wp2_with fail
   refine zao 1 ?_
   rw [zap]
   go_wp2_with fail
   go_at_call 206
   refine c2.out.mono ?_
   intro e w1 hD
   obtain rfl:=hD.1
   have HD:=Zh hD
   clear hD
   go_wp2_with fail
   refine zao 1 ?_
   rw [zap]
   go_wp2_with fail
   go_end0
   exact HD.out)
 clear c2
 go_enter Tryz.func81,Tryz.ntmps81
 go_wp2_with fail
 go_at_call 130
 refine c3.out.mono ?_
 intro e w1 hD
 obtain rfl:=hD.1
 have HD:=Zh hD
 clear hD
 go_wp2_with fail
 go_end0
 exact HD.out
theorem ybN:(Tryz.prog.info? 210).map (fun i=>(i.zero,i.size,i.bytes))=some (some (.agg #[iI 0,iI 0,iI 0]),3,24):=by kernel_rfl
theorem sO(p:Addr)(n c:Nat)(w:qW):(binOp BinOp.eql 153 (.slice (some p) n c) (.slice none 0 0)).run Tryz.prog w= .ok (.bool false) w:=by kernel_rfl
theorem yeo(w:qW)(g c:Nat)(l:List Tri)(h0:0<l.length)(hl:l.length<=2000)(hg:g<w.heap.size)(hR:RowC w g (l.flatMap tvC))(hc:l.length<=c)(yB:c<=9223372036854775807):qC 80 #[.slice (aA g) l.length c] w (fun e w'=> ∃g' c',e= .returned (.slice (aA g') l.length c')/\Below w.heap.size w w'/\w'.ownsRow w.heap.size 210 3 (.slice (aA g') l.length c') l.length (l.flatMap tvC)):=by
 obtain ⟨i0,xF,xx,xu,xq⟩:=zan ybN
 have xd:(l.flatMap tvC).length=l.length*3:=by
  clear h0 hl hR hc
  induction l with
  |nil=>rfl
  |cons x l ih=>rw [zaf,zaO,ih];simp [tvC];omega
 have h1: ∀u∈l.flatMap tvC,u.oneCell'=true:=by
  intro u hu
  obtain ⟨x, -,hx⟩:=List.mem_flatMap.1 hu
  simp only [tvC,zaM,zaN,or_false] at hx
  rcases hx with rfl|rfl|rfl<;>rfl
 generalize DB:l.flatMap tvC=xs at*
 clear DB
 generalize l.length=n at*
 have HR:=Zh hR
 have H1:=Zh h1
 clear hR h1
 have AE:=sO ⟨g,0,none⟩ n c
 go_enter Tryz.func80,Tryz.ntmps80
 go_wp2_with (at_builtin;refine wpList_append_own_at (w:=w.alloc (.cells #[] 210)) (hgd:=rfl) (s:= .tmp 5) (x:= .tmp 6) (t:=153) (ho:=rfl) (base:=w.heap.size) (e:=210) (i:=i0) (z:=_) (size:=3) (bytes:=24) (ht:=Tryz.underlying153) (hi:=xF) (hz:=xx) (hsize:=xu) (hby:=xq) (hzs:=rfl) (hsz:=by decide) (v:= .slice (aA w.heap.size) 0 0) (n:=0) (xs:=[]) (hs:=rfl) (hown:=⟨rfl,.inr ⟨w.heap.size,0,#[],rfl,zaq _,zab _ _,zaq _,by unfold maxLen;omega,rfl,rfl⟩⟩) (ad:=⟨g,0,none⟩) (m:=n) (c:=c) (news:=xs) (hx:=rfl) (hl:=xd) (hnews:=fun j u hu=>by rw [bN];exact ((ab (zaa _ w) _).cell (p:=⟨g,j,none⟩) hg).trans (HR.out j u hu)) (h1:=H1.out) (h63:=by unfold maxLen;omega) (hbytes:=by omega) (hbase:=by simp [go_sem]) (h:=?_);intro v' w' h2 h3 _ h5;obtain ⟨g2,cap,rfl,_,xe⟩:=h2.form Za;have HO:=Zh h2;have HG:=Zh h3;clear h2 h3 h5)
 go_ret
 have ho:=HO.out
 simp only [zag,List.nil_append] at ho
 refine ⟨g2,cap,by simp,?_,ho⟩
 refine (ab (zaa w.heap.size w) (.cells #[] 210)).grown HG.out ZC (fun b hb=>?_)
 simp [Value.ownBlock] at hb
 omega
theorem tg(q:List (Int×Int)):(qPop q).1.length=q.length-1:=by
 unfold qPop
 simp only [zaR,kr,bQ]
 omega
theorem uM: ∀(n:Nat) (at_:Int) (fr:List Int) (us:List (Int×Int)),fr.length<=(pDrain n at_ fr us).1.length:=by
 intro n
 induction n with
 |zero=>exact fun _ _ _=>zaq _
 |succ n ih=>
  intro at_ fr us
  cases us with
  |nil=>exact zaq _
  |cons x us=>
   simp only [pDrain]
   split
   ·refine zal ?_ (ih _ _ _)
    simp
   ·exact zaq _
def lenV:qV->Nat
 | .slice _ n _=>n
 |_=>0
theorem sK(x y:Int)(W:qW):(Instr.field 277 (.agg #[iI x,iI y]) 1).run Tryz.prog W= .ok (iI y) W:=by kernel_rfl
section
variable{w0 W W' w:qW}{M:Nat}{F F1:Nat->Prop}{fv uv:qV}{P:Pool}
theorem PoX.frD{g c:Nat}{l':List Int}{e:Ending}{W2:qW}(h:PoX w0 M F (.slice (aA g) P.free.length c) uv W P)(hD:SoD W (M+1) g c P.free.length 3 1 (l'.flatMap numC) e W2)(hl:l'.length=P.free.length):PoX w0 M F (.slice (aA g) P.free.length c) uv W2 {P with free:=l'}:=by
 obtain ⟨-,hk,ho⟩:=hD
 have hF:F g:=(h.ft g).2 (.inr ⟨_,.head _,rfl⟩)
 have hb:=h.ob.turn (r:=⟨0,3,1,P.free.length,P.free.flatMap numC⟩) (.head _) (hk.mono (fun k _ e=>by rw [e];rfl)) ho
 have e2:(poR P).map (fun q=>if q.ix=0 then {q with xs:=l'.flatMap numC} else q)=poR {P with free:=l'}:=by simp [poR,hl]
 rw [e2] at hb
 refine ⟨hb,fun k=>?_,aI h.bl hk (fun k e=>e ▸ (h.inb hF).1),h.le,⟨by rw [hl];exact h.fin.free,h.fin.used,h.fin.next,h.fin.most⟩⟩
 rw [h.ft]
 refine or_congr Iff.rfl ⟨?_,?_⟩
 all_goals
  rintro ⟨r,hr,hk⟩
  simp only [poR,zaM,zaN,or_false] at hr
  rcases hr with rfl|rfl
  ·exact ⟨_,.head _,hk⟩
  ·exact ⟨_,.tail _ (.head _),hk⟩
theorem nN(w:qW)(h:Po w0 M F w P)(at_:Int)(R:List Int×List (Int×Int))(hR:pDrain P.used.length at_ P.free P.used=R)(hl:R.1.length<=12)(hr: ∀x∈R.1,0<=x/\x<=100000):qC 85 #[pP M,iI at_] w (PoD w0 M F w {P with free:=isort ltD 0 R.1,used:=R.2} (.tuple #[])):=by
 obtain ⟨i1,Bm,AN,Bs,Aj⟩:=zan ij
 have HM:=Zh (PoA.begin h)
 have HR:=Zh hR
 have AK:=Zh hr
 have MM:=PoA.begin h
 obtain ⟨_,_,h0⟩:=h
 have xY:=h0.fin
 clear h0 hR hr MM
 have NM:=jS
 have OK:=sK
 go_enter Tryz.func85,Tryz.ntmps85
 go_wp2_with fail
 go_loopw [] (fun wr=> ∃(fr:List Int) (us:List (Int×Int)) (F1:Nat->Prop),Hid (PoA w0 M F w wr F1 {P with free:=fr,used:=us})/\Hid (pDrain us.length at_ fr us=R)) (fun wr=>match wr.cell? (aB M 1) with|some v=>lenV v|none=>0)
 case atStart=>exact ⟨P.free,P.used,F,HM,HR⟩
 case round=>
  obtain ⟨fr,us,F1,HM,HR⟩:=hrel
  obtain ⟨fv,uv,hx⟩:=HM.out.po
  have j':=hx.bd
  have GJ:=hx.fin
  have Fs:us.length<=2000:=GJ.used
  have Bh:fr.length<=12:=zal (by have:=uM us.length at_ fr us;rw [HR.out] at this;exact this) hl
  obtain ⟨ua,uc,rfl,ul,ucm,unl,uat⟩:=aC hx.own1
  have q1: ∀j,wr.cell? (aB M j)=(#[fv,.slice ua us.length uc,iI P.next,iI P.most]:Array qV)[j]?:=aa hx.ob.out
  have Bd:wr.cell? (aB M 1)=some (.slice ua us.length uc):=q1 1
  cases us with
  |nil=>
   have Hd:R=(fr,[]):=HR.out.symm
   obtain ⟨fa,fc,rfl,fl,fcm,fnl,fat⟩:=aC hx.own0
   have JP:wr.cell? (aB M 0)=some (.slice fa fr.length fc):=q1 0
   have HX:=Zh hx
   have zS:R.1=fr:=by rw [Hd]
   have y9:R.2=[]:=by rw [Hd]
   rw [zS] at AK
   clear hx q1 uat
   cases fa with
   |none=>
    have zX:fr.length=0:=(fnl rfl).1
    have ya:fr=[]:=List.length_eq_zero_iff.1 zX
    have IP:fc=0:=(fnl rfl).2
    subst ya IP
    have c1:=Zh (fun W=>jF W)
    go_wp2_with fail
    go_at_call 133
    refine (c1.out _).mono ?_
    rintro e w1 ⟨rfl,p,rfl⟩
    go_wp2_with fail
    go_end0
    rw [zS,y9]
    exact (HM.out.bel (au _ _)).fin
   |some p=>
    obtain ⟨g0,rfl⟩: ∃g0,p=⟨g0,0,none⟩:=⟨p.block,fat p rfl⟩
    have c1:=Zh (jE wr (M+1) g0 fc fr HX.out.own0 Bh AK.out)
    clear fnl fat
    go_wp2_with fail
    go_at_call 133
    refine c1.out.mono ?_
    intro e w1 hD
    obtain rfl:=hD.1
    have zH:=PoX.frD (P:={P with free:=fr,used:=[]}) (g:=g0) (c:=fc) HX.out hD (ig ltD 0 fr.length 1 fr)
    have HK:=Zh hD.2.1
    have Au:F1 g0:=(HX.out.ft g0).2 (.inr ⟨_,.head _,rfl⟩)
    have Ed:=Zh zH
    clear hD zH
    go_wp2_with fail
    go_end0
    rw [zS,y9]
    refine ⟨rfl,F1,⟨_,_,Ed.out⟩,HM.out.kp.next (HK.out.mono (fun k _ e=>e ▸ Au)) (fun k hk e=>(HM.out.rel.r k e).elim id (fun e=>by omega)),HM.out.rel⟩
  |cons x us'=>
   have Cx:0<(x::us').length:=Nat.succ_pos _
   rcases ua with _|⟨ug,uo,ui⟩
   ·exact absurd (unl rfl).1 Zg
   obtain ⟨rfl,rfl⟩:uo=0/\ui=none:=by
    have h9:=uat _ rfl
    injection h9 with h9 Ds Ja
    exact ⟨Ds,Ja⟩
   have yt:=(dy hx.own1 (i:=0) (y:=x) rfl).1
   rw [Nat.zero_mul] at yt
   by_cases xe:x.1<at_
   ·have xz:Hid (pDrain us'.length at_ (fr++[(qPop (x::us')).2.2]) (qPop (x::us')).1=R):=Zh (by
     have:=HR.out
     simp only [za2,pDrain,if_pos xe] at this
     exact this)
    have AA:=tg (x::us')
    simp only [za2,Nat.add_sub_cancel] at AA
    generalize LC:qPop (x::us')=qp at*
    have P4:=Zh LC
    clear LC
    have NC:us'.length+1=(x::us').length:=rfl
    generalize QP:(x::us').length=m at*
    clear unl uat
    go_wp2_with fail
    have JP:=q1 0
    have HX:=Zh hx
    clear q1 hx yt
    refine ae (fun W=>True) (fun W=>W.cell? (aB M 0)=some fv) 16 rfl ?_
    have hB:wr.drew.cell? (aB M 0)=some fv:=JP
    have hA:True:=trivial
    refine Zp 0 rfl (h:=Zp 1 rfl (h:=Zp 2 rfl (h:=Zp 3 rfl (h:=Zl 4 [13,16] rfl (h:=Zp 5 rfl (h:=Zp 6 rfl (h:=Zp 7 rfl (h:=Zp 8 rfl (h:=?_)))))))));try simp only [Zq]
    refine Zs 9 rfl fun K hK=>?_
    go_simp
    go_at_call 132
    refine (ycn wr.drew (HX.out.below (ag (zaa wr.heap.size wr))) Zg).mono ?_
    rintro e w1 ⟨rfl,F2,⟨uv2,AP⟩,xZ,yL⟩
    simp only [P4.out] at AP ⊢
    have A5:=AP.bd
    have q2: ∀j,w1.cell? (aB M j)=(#[fv,uv2,iI P.next,iI P.most]:Array qV)[j]?:=aa AP.ob.out
    have qf2:=ah AP.ob.out
    obtain ⟨va,vc,rfl,vl,vcm,vnl,vat⟩:=aC AP.own1
    clear vnl vat
    have yO:=AP.own0
    have Ed:=Zh AP
    have xB:=Zh yO
    have BF:=Zh xZ
    have AL:=Zh yL
    refine hK _ _ ⟨trivial,fun _=>q2 0⟩ ?_
    clear hK K hB AP yO xZ yL
    have hB:w1.cell? (aB M 0)=some fv:=q2 0
    refine Zp 10 rfl (h:=Zp 11 rfl (h:=?_));try simp only [Zq]
    refine Zs 12 rfl fun K hK=>?_
    go_simp
    have ye:(w1.alloc (.cells #[iI qp.2.2] 3)).cell? (aB M 0)=some fv:=by rw [aV,if_pos A5.2];exact q2 0
    refine hK _ _ ⟨trivial,fun _=>ye⟩ ?_
    have CU:PFin {P with free:=fr++[qp.2.2],used:=qp.1}:=⟨by simp;omega,by simp only;omega,xY.next,xY.most⟩
    have Ah:=xB.out
    simp only at Ah
    refine Zs 13 rfl fun K hK=>?_
    refine bf (.tmp 25) (.tmp 33) 46 3 i1 _ 1 8 Tryz.underlying46 Bm AN Bs Aj rfl Zd rfl rfl (M+1) fv fr.length (fr.flatMap numC) (ax Ah (fun g hg=>zac _ _ (Ah.lt g hg).2)) w1.heap.size #[iI qp.2.2] 3 (0,0) (zab _ _) ZA ZA rfl ZD Za Za Zc ?_
    intro g4 cap4 w4 hown xb xk JS
    have hD:=Zh (Ed.out.app ⟨0,3,1,fr.length,fr.flatMap numC⟩ (.head _) (new:=numC qp.2.2) (Kp.al w1 _) xb hown xk (fv':= .slice (aA g4) (fr.length+1) cap4) (P':={P with free:=fr++[qp.2.2],used:=qp.1}) rfl (ud _) CU)
    have wZ:Kp (fun k=>fv.ownBlock=some k) (w1.alloc _) w4:=(Kp.of_grown xb).mono (fun k _ e=>e.symm)
    have kc: ∀j,w4.cell? (aB M j)=(#[fv,.slice va qp.1.length vc,iI P.next,iI P.most]:Array qV)[j]?:=fun j=>((wZ.cell Zc (fun e=>by have:=(Ah.lt _ e).1;omega)).trans (by rw [aV,if_pos A5.2])).trans (q2 j)
    have kf: ∀j,w4.frozen? (aB M j)=false:=ah ((wZ.block M Zc (fun e=>by have:=(Ah.lt _ e).1;omega)).trans ((zac _ _ A5.2).trans Ed.out.ob.out))
    clear hown xb xk wZ
    refine hK _ _ ⟨trivial,fun _=>kc 0⟩ ?_
    clear hK K hB ye
    have hB:w4.cell? (aB M 0)=some fv:=kc 0
    refine Zp 14 rfl (h:=Zp 15 rfl (h:=?_));try simp only [Zq]
    refine Zs 16 rfl fun K hK=>?_
    go_simp
    refine hK _ _ ⟨trivial,fun hh=>Bool.noConfusion (hh.symm.trans (show _=true by kernel_rfl))⟩ ?_
    clear hK K hB hA
    have JO:(w4.setCell ⟨M,0,none⟩ (.slice (aA g4) (fr.length+1) cap4)).cell? (aB M 1)=some (.slice va qp.1.length vc):=(zaH _ _ _ _ Zg).trans (kc 1)
    refine af Zb ?_ _
    go_wp2_with fail
    obtain ⟨F3,Ko,An,IC⟩:=hD.out
    have xp:Kp F1 wr w1:=(Kp.dr wr).trans BF.out
    have hz:wr.heap.size<=w1.heap.size:=xp.size
    refine ⟨⟨fr++[qp.2.2],qp.1,F3,Zh ⟨⟨_,_,Ko⟩,?_,?_⟩,Zh ?_⟩,?_⟩
    ·have h5:Kp F1 wr _:=xp.next An (fun k hk e=>(AL.out.r k e).elim id (fun e=>by have:wr.drew.heap.size=wr.heap.size:=rfl;omega))
     exact HM.out.kp.next h5 (fun k hk e=>(HM.out.rel.r k e).elim id (fun e=>by omega))
    ·exact (HM.out.rel.trans AL.out HM.out.kp.size).trans IC (zal HM.out.kp.size hz)
    ·rw [AA]
     exact xz.out
    ·rw [JO,Bd]
     simp only [lenV]
     omega
   ·have Hd:R=(fr,x::us'):=by
     have:=HR.out
     simp only [za2,pDrain,if_neg xe] at this
     exact this.symm
    obtain ⟨fa,fc,rfl,fl,fcm,fnl,fat⟩:=aC hx.own0
    have JP:wr.cell? (aB M 0)=some (.slice fa fr.length fc):=q1 0
    have HX:=Zh hx
    have zS:R.1=fr:=by rw [Hd]
    have y9:R.2=(x::us'):=by rw [Hd]
    rw [zS] at AK
    clear hx q1 uat
    cases fa with
    |none=>
     have zX:fr.length=0:=(fnl rfl).1
     have ya:fr=[]:=List.length_eq_zero_iff.1 zX
     have IP:fc=0:=(fnl rfl).2
     subst ya IP
     have c1:=Zh (fun W=>jF W)
     go_wp2_with fail
     go_at_call 133
     refine (c1.out _).mono ?_
     rintro e w1 ⟨rfl,p,rfl⟩
     go_wp2_with fail
     go_end0
     rw [zS,y9]
     exact (HM.out.bel (au _ _)).fin
    |some p=>
     obtain ⟨g0,rfl⟩: ∃g0,p=⟨g0,0,none⟩:=⟨p.block,fat p rfl⟩
     have c1:=Zh (jE wr (M+1) g0 fc fr HX.out.own0 Bh AK.out)
     clear fnl fat
     go_wp2_with fail
     go_at_call 133
     refine c1.out.mono ?_
     intro e w1 hD
     obtain rfl:=hD.1
     have zH:=PoX.frD (P:={P with free:=fr,used:=(x::us')}) (g:=g0) (c:=fc) HX.out hD (ig ltD 0 fr.length 1 fr)
     have HK:=Zh hD.2.1
     have Au:F1 g0:=(HX.out.ft g0).2 (.inr ⟨_,.head _,rfl⟩)
     have Ed:=Zh zH
     clear hD zH
     go_wp2_with fail
     go_end0
     rw [zS,y9]
     refine ⟨rfl,F1,⟨_,_,Ed.out⟩,HM.out.kp.next (HK.out.mono (fun k _ e=>e ▸ Au)) (fun k hk e=>(HM.out.rel.r k e).elim id (fun e=>by omega)),HM.out.rel⟩
end
section
variable{w0 W W' w:qW}{M:Nat}{F F1:Nat->Prop}{fv uv:qV}{P:Pool}
theorem wN: ∀(l:List Int) (n:Nat),(l.take n).flatMap numC=(l.flatMap numC).take (n*1):=by
 intro l
 induction l with
 |nil=>intro n;simp
 |cons x l ih=>
  intro n
  cases n with
  |zero=>simp
  |succ n=>rw [List.take_succ_cons,zaf,zaf,ih n,show (n+1)*1=(numC x).length+n*1 by simp [numC];omega,List.take_length_add_append]
theorem t8(P:Pool){n:Nat}(hn:n<=P.free.length):(poR P).map (fun q=>if q.ix=0 then {q with n:=n,xs:=(P.free.flatMap numC).take (n*1)} else q)=poR {P with free:=P.free.take n}:=by
 simp only [poR,List.map_cons,List.map_nil,if_pos,wN]
 simp [Nat.min_eq_left hn]
theorem Po.next(h:PoX w0 M F fv uv w P)(x:Int)(hx:0<=x/\x<=2000):PoX w0 M F fv uv (w.setCell ⟨M,2,none⟩ (iI x)) {P with next:=x}/\Kp F w (w.setCell ⟨M,2,none⟩ (iI x)):=by
 have hk:Kp (fun k=>k=M) w (w.setCell ⟨M,2,none⟩ (iI x)):=Kp.set w M 2 (iI x)
 have hi: ∀r∈poR P,r.ix≠2:=by
  intro r hr
  simp only [poR,zaM,zaN,or_false] at hr
  rcases hr with rfl|rfl<;>simp
 refine ⟨⟨h.ob.set 2 _ hi,fun k=>?_,aI h.bl hk (fun k e=>e ▸ h.le),h.le,⟨h.fin.free,h.fin.used,hx,h.fin.most⟩⟩,hk.mono (fun k _ e=>e ▸ h.inF)⟩
 rw [h.ft]
 exact (iq (v:=iI x) hi).symm
theorem pT(w:qW)(h:Po w0 M F w P)(tt x:Int)(P':Pool)(hT:pTake tt P=(some x,P'))(hu:P.used.length<2000)(hn:P.next<2000):qC 86 #[pP M,iI tt] w (PoD w0 M F w P' (.tuple #[iI x,.bool true])):=by
 obtain ⟨fv,uv,h⟩:=h
 have xY:=h.fin
 obtain ⟨fa,fc,rfl,fl,fcm,fnl,fat⟩:=aC h.own0
 have j':=h.bd
 have q1: ∀j,w.cell? (aB M j)=(#[.slice fa P.free.length fc,uv,iI P.next,iI P.most]:Array qV)[j]?:=aa h.ob.out
 have qf:=ah h.ob.out
 by_cases h0:P.free.length=0
 ·have zX:P.free=[]:=List.length_eq_zero_iff.1 h0
  unfold pTake at hT
  rw [zX] at hT
  simp only [List.getLast?_nil] at hT
  by_cases hm:P.most<=P.next
  ·rw [if_pos hm] at hT
   cases hT
  ·rw [if_neg hm] at hT
   injection hT with hx hP
   obtain rfl:=zae hx
   subst hP
   obtain ⟨h1,wZ⟩:=Po.next h (P.next+1) ⟨by have:=xY.next.1;omega,by omega⟩
   have HX:=Zh h1
   have HK:=Zh wZ
   have DS:=xY.next
   have IF:=xY.most
   rw [h0] at q1
   clear h h1 wZ fnl fat fl
   go_enter Tryz.func86,Tryz.ntmps86
   go_wp2_with fail
   have hA:w.drew.cell? (aB M 2)=some (iI P.next)/\w.drew.cell? (aB M 3)=some (iI P.most):=⟨q1 2,q1 3⟩
   have hB:True:=trivial
   refine ae (fun W=>W.cell? (aB M 2)=some (iI P.next)/\W.cell? (aB M 3)=some (iI P.most)) (fun W=>True) 20 rfl ?_
   refine Zp 0 rfl (h:=Zp 1 rfl (h:=Zp 2 rfl (h:=Zt 3 rfl (h:=Zp 4 rfl (h:=Zp 5 rfl (h:=Zp 6 rfl (h:=Zt 7 rfl (h:=Zp 8 rfl (h:=?_)))))))));try simp only [Zq]
   refine af Zb ?_ _
   go_wp2_with fail
   go_at_call 135
   refine (mq (P:={P with next:=P.next+1}) (x:=(tt,P.next)) ((w.setCell ⟨M,2,none⟩ (iI (P.next+1))).drew) ⟨_,_,HX.out.below (ag (zaa _ _))⟩ ⟨HX.out.fin.free,by simp;omega,HX.out.fin.next,HX.out.fin.most⟩).mono ?_
   intro e w1 hD
   obtain rfl:=hD.1
   have HD:=Zh hD
   clear hD
   go_wp2_with fail
   refine zad (by simp [results,Tryz.results86,go_sem];try rfl) rfl ?_
   obtain ⟨-,F',g1,g2,g3⟩:=HD.out
   have hz:(w.setCell ⟨M,2,none⟩ (iI (P.next+1))).drew.heap.size=w.heap.size:=a9 _ _ _
   refine ⟨rfl,F',by rw [zX] at g1;exact g1,(HK.out.trans (Kp.dr _)).trans g2,⟨fun k hk=>(g3.r k hk).imp id (fun e=>by omega)⟩⟩
 ·obtain ⟨n,hN⟩: ∃n,P.free.length=n+1:=⟨P.free.length-1,by omega⟩
  rcases fa with _|⟨g,uo,ui⟩
  ·exact absurd (fnl rfl).1 h0
  obtain ⟨rfl,rfl⟩:uo=0/\ui=none:=by
   have h9:=fat _ rfl
   injection h9 with h9 Ds Ja
   exact ⟨Ds,Ja⟩
  have yd:P.free.getLast?=some (P.free.getD n 0):=by
   rw [List.getLast?_eq_getElem?,hN,Nat.add_sub_cancel,zaU,zaC Za]
   rfl
  unfold pTake at hT
  rw [yd] at hT
  simp only at hT
  injection hT with hx hP
  obtain rfl:=zae hx
  subst hP
  have hown:=h.own0
  have QJ:=cS hown (i:=n) Za
  rw [hN] at hown q1
  obtain ⟨F',h1,h2,h3⟩:=h.put ⟨0,3,1,P.free.length,P.free.flatMap numC⟩ (.head _) (Kp.refl _ _) (v':= .slice (aA g) n fc) (fi hown Za) (fun k hk=> .inl hk) (fv':= .slice (aA g) n fc) (uv':=uv) (P':={P with free:=P.free.take n}) rfl (t8 P Za) ⟨by have:=h.fin.free;simp;omega,h.fin.used,h.fin.next,h.fin.most⟩
  have HX:=Zh h1
  have HK:=Zh h2
  have HR:=Zh h3
  have Am:=h.fin.free
  rw [hN] at Am fl
  have IL:Hid (P.free.dropLast=P.free.take n):=Zh (by rw [List.dropLast_eq_take,hN,Nat.add_sub_cancel])
  generalize Rn:P.free.getD n 0=x at*
  clear h h1 h2 h3 fnl fat hown yd
  go_enter Tryz.func86,Tryz.ntmps86
  go_wp2_with fail
  go_at_call 135
  refine (mq (P:={P with free:=P.free.take n}) (x:=(tt,x)) (w.setCell ⟨M,0,none⟩ (.slice (aA g) n fc)) ⟨_,_,HX.out⟩ ⟨HX.out.fin.free,by simp;omega,HX.out.fin.next,HX.out.fin.most⟩).mono ?_
  intro e w1 hD
  obtain rfl:=hD.1
  have HD:=Zh hD
  clear hD
  go_wp2_with fail
  refine zad (by simp [results,Tryz.results86,go_sem];try rfl) rfl ?_
  obtain ⟨-,F2,g1,g2,g3⟩:=HD.out
  rw [IL.out]
  have hz:(w.setCell ⟨M,0,none⟩ (.slice (aA g) n fc)).heap.size=w.heap.size:=a9 _ _ _
  refine ⟨rfl,F2,g1,HK.out.next g2 (fun k hk e=>(HR.out.r k e).elim id (fun e=>by omega)),HR.out.trans g3 Za⟩
end
end Go.Proofs.YtjmfoeajhiimnaaGreatDoor
