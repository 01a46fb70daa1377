/- Walks. No condition. -/
import Derived.Deep.WholeRow
import Derived.ChangeKeysEq
import Derived.Handy
import Derived.Test.YtjmfoeajhiimnaaGreatDoorProg
import Derived.Test.YtjmfoeajhiimnaaGreatDoorG03
set_option maxRecDepth 100000
set_option maxHeartbeats 0
set_option linter.all false
namespace Go.Proofs.YtjmfoeajhiimnaaGreatDoor
section
open Go.RowKit Go.Sort
def rngI(x:Int):Prop:= -9223372036854775808<=x/\x<=9223372036854775807
def Ins.rng(r:Ins):Prop:= ∀k,k<7->rngI (r.get k)
theorem Ins.rng_set{r:Ins}(h:r.rng)(k:Nat)(hk:k<7){x:Int}(hx:rngI x):(r.set k x).rng:=fun j hj=>by
 rw [Ins.get_set _ _ _ _ hk hj]
 split
 ·exact hx
 ·exact h j hj
def InsAt(w:qW)(R:Nat)(r:Ins):Prop:= ∀k,k<7->w.cell? ⟨R,k,none⟩=some (iI (r.get k))/\w.frozen? ⟨R,k,none⟩=false
theorem InsAt.below{w w':qW}{R:Nat}{r:Ins}(h:InsAt w R r)(hR:R<w.heap.size)(hb:Below w.heap.size w w'):InsAt w' R r:=fun k hk=>
 ⟨(hb.cell (p:=⟨R,k,none⟩) hR).trans (h k hk).1,(hb.frozen (p:=⟨R,k,none⟩) hR).trans (h k hk).2⟩
theorem InsAt.setc{w:qW}{R:Nat}{r:Ins}(h:InsAt w R r)(k:Nat)(hk:k<7)(x:Int):InsAt (w.setCell ⟨R,k,none⟩ (iI x)) R (r.set k x):=fun j hj=>by
 refine ⟨?_,?_⟩
 ·rw [Ins.get_set _ _ _ _ hk hj]
  by_cases e:k=j
  ·subst e
   rw [if_pos rfl]
   exact zaF _ _ _ (h k hk).1
  ·rw [if_neg e,zaH _ _ _ _ (by simp [e])]
   exact (h j hj).1
 ·rw [zaG]
  exact (h j hj).2
def LetAt(w:qW)(B:Nat)(ls:List Nat):Prop:= ∀(j x:Nat),ls[j]?=some x->w.cell? ⟨B,j,none⟩=some (.int .u8 x)
theorem LetAt.below{w w':qW}{B:Nat}{ls:List Nat}(h:LetAt w B ls)(hB:B<w.heap.size)(hb:Below w.heap.size w w'):LetAt w' B ls:=fun j x hx=>
 (hb.cell (p:=⟨B,j,none⟩) hB).trans (h j x hx)
theorem LetAt.setc{w:qW}{B:Nat}{ls:List Nat}(h:LetAt w B ls){R k:Nat}(hR:R≠B)(v:qV):LetAt (w.setCell ⟨R,k,none⟩ v) B ls:=fun j x hx=>by
 rw [zaH _ _ _ _ (by simp [hR])]
 exact h j x hx
theorem yaL:(List.range 33).all (fun k=>(lets k).all (fun c=>decide (c<256)&&(c==122||(fl c).isSome)))=true:=by decide+kernel
theorem lO(op:Int): ∀c∈lets op,c<256/\(c=122\/ ∃f,fl c=some f):=by
 intro c hc
 have h:=eC (List.ne_nil_of_mem hc)
 have h2:=List.all_eq_true.1 yaL op.toNat (List.mem_range.2 Za)
 have e:(op.toNat:Int)=op:=by omega
 rw [e] at h2
 have h3:=List.all_eq_true.1 h2 c hc
 simp only [za0,zau,zak,beq_iff_eq] at h3
 exact ⟨h3.1,h3.2.imp id fun h=>Option.isSome_iff_exists.1 h⟩
theorem yaK:(List.range 33).all (fun k=>decide ((lets k).length<=4))=true:=by decide+kernel
theorem lP(op:Int):(lets op).length<=4:=by
 by_cases h:lets op=[]
 ·rw [h];simp
 ·have h:=eC h
  have h2:=List.all_eq_true.1 yaK op.toNat (List.mem_range.2 Za)
  have e:(op.toNat:Int)=op:=by omega
  rw [e] at h2
  simpa using h2
theorem pW{ls:List Nat}(h:ls≠[]):(strB ls).toList.isEmpty=false:=by
 rw [ByteArray.toList_eq]
 unfold strB
 cases ls with
 |nil=>exact absurd rfl h
 |cons a l=>rfl
theorem mU{ls:List Nat}{k c:Nat}(h:ls[k]?=some c)(hc:fl c=none):(ls.drop k).filterMap fl=(ls.drop (k+1)).filterMap fl:=by
 obtain ⟨xe,e⟩:=List.getElem?_eq_some_iff.mp h
 rw [zaS xe,List.filterMap_cons,e,hc]
theorem mV{ls:List Nat}{k c:Nat}{f:Fl}(h:ls[k]?=some c)(hc:fl c=some f):(ls.drop k).filterMap fl=f::(ls.drop (k+1)).filterMap fl:=by
 obtain ⟨xe,e⟩:=List.getElem?_eq_some_iff.mp h
 rw [zaS xe,List.filterMap_cons,e,hc]
theorem mw{α:Type}(l:List α)(k:Nat)(h:k<l.length): ∃x,l[k]?=some x:=⟨l[k],zaC h⟩
def EInv(w wr:qW)(B R:Nat)(ls:List Nat)(op:Int)(r:Ins):Prop:=
 Below w.heap.size w wr/\B<wr.heap.size/\R<B/\w.heap.size<R/\LetAt wr B ls/\InsAt wr R r/\wr.cell? ⟨w.heap.size,0,none⟩=some (iI op)
theorem EInv.below{w wr w':qW}{B R:Nat}{ls:List Nat}{op:Int}{r:Ins}(h:EInv w wr B R ls op r)(hb:Below wr.heap.size wr w'):EInv w w' B R ls op r:=by
 obtain ⟨h1,h2,h3,h4,h5,h6,h7⟩:=h
 exact ⟨bR h1 hb,zar h2 hb.size,h3,h4,h5.below h2 hb,h6.below Za hb,(hb.cell (p:=⟨w.heap.size,0,none⟩) (by show w.heap.size<wr.heap.size;omega)).trans h7⟩
theorem EInv.setc{w wr:qW}{B R:Nat}{ls:List Nat}{op:Int}{r:Ins}(h:EInv w wr B R ls op r)(k:Nat)(hk:k<7)(x:Int):EInv w (wr.setCell ⟨R,k,none⟩ (iI x)) B R ls op (r.set k x):=by
 obtain ⟨h1,h2,h3,h4,h5,h6,h7⟩:=h
 refine ⟨ay h1 Zk _,by simpa using h2,h3,h4,h5.setc Za _,h6.setc k hk x,?_⟩
 rw [zaH _ _ _ _ (fun e=>by have:=congrArg Addr.block e;simp only at this;omega)]
 exact h7
theorem nb(i:Ins)(hi:i.rng)(w:qW):qC 57 #[.agg #[iI i.op,iI i.d,iI i.n,iI i.m,iI i.e,iI i.sz,iI i.imm]] w
  (Gives w (.tuple #[.int .u32 (((enc i).getD 0:Nat):Int),iI (if (enc i).isSome then 0 else 2)])):=by
 have HI:=Zh hi
 have HN:Hid (enc i=enc i):=Zh rfl
 have H0:Hid (lets i.op≠[]->enc i=match encL (fls i.op) (baseN i.op) i with
  |some (w,r)=>if restB i.op r=true then some w else none
  |none=>none):=Zh (fun h=>(if_neg h:enc i=_).trans rfl)
 have H1:Hid (lets i.op=[]->enc i=none):=Zh (fun h=>by unfold enc;rw [if_pos h])
 have O:=Zh (fun W=>ld i.op W)
 have Gp:=lO i.op
 have Ov:=lP i.op
 have HB:=Zh (nZ i.op)
 have HL:Hid (fls i.op=(lets i.op).filterMap fl):=Zh rfl
 generalize hV:(((enc i).getD 0:Nat):Int)=V
 generalize hE:(if (enc i).isSome then (0:Int) else 2)=E
 have HV:=Zh hV
 have HE:=Zh hE
 clear hi hV hE HN
 generalize baseN i.op=b at*
 generalize lets i.op=ls at*
 by_cases hn:ls=[]
 ·have e:=H1.out hn
  rw [e] at HV HE
  have v1:=HV.out
  have e1:=HE.out
  simp at v1 e1
  subst v1 e1 hn
  clear H0 H1 HL HV HE
  obtain ⟨op,d,n,m,e,sz,imm⟩:=i
  simp only at O ⊢
  have hs:(strB []).toList.isEmpty=true:=by rw [ByteArray.toList_eq];rfl
  go_enter Tryz.func57,Tryz.ntmps57
  go_wp2_with (first|(go_at_call 58;refine (O.out _).mono ?_;rintro e w1 ⟨rfl,p1,rfl⟩))
  go_ret2
  exact Gives.mk rfl Ze
 ·have HC:=H0.out hn
  have hs:=pW hn
  have If:=Zh Gp
  clear H0 H1
  obtain ⟨op,d,n,m,e,sz,imm⟩:=i
  simp only at O HC HB HL ⊢
  go_enter Tryz.func57,Tryz.ntmps57
  go_wp2_with (first|(go_at_call 58;refine (O.out _).mono ?_;rintro e w1 ⟨rfl,p1,rfl⟩))
  obtain ⟨cp,wb,wY,zM,hsz,B3⟩:=nL (((more (w.alloc (.cells #[iI op,iI d,iI n,iI m,iI e,iI sz,iI imm] 83)) p1).alloc (.cells #[.int .u32 b,.string (strB ls)] 160)).alloc (.cells #[iI op,iI d,iI n,iI m,iI e,iI sz,iI imm] 83)) (w.heap.size+1+p1.os.size+1+1) ZC ls (fun c hc=>(If.out c hc).1)
  have zv:EInv w wb (w.heap.size+1+p1.os.size+1+1) (w.heap.size+1+p1.os.size+1) ls op ⟨op,d,n,m,e,sz,imm⟩:=by
   have AD:InsAt (((more (w.alloc (.cells #[iI op,iI d,iI n,iI m,iI e,iI sz,iI imm] 83)) p1).alloc (.cells #[.int .u32 b,.string (strB ls)] 160)).alloc (.cells #[iI op,iI d,iI n,iI m,iI e,iI sz,iI imm] 83)) (w.heap.size+1+p1.os.size+1) ⟨op,d,n,m,e,sz,imm⟩:=fun k hk=>by
    match k,hk with
    |0,_|1,_|2,_|3,_|4,_|5,_|6,_=>simp [go_sem,Ins.get]
   refine ⟨?_,by omega,by omega,by omega,B3,AD.below ZC zM,?_⟩
   ·exact bR Ze zM
   ·refine (zM.cell (p:=⟨w.heap.size,0,none⟩) ZR).trans ?_
    simp [go_sem,(show w.heap.size<w.heap.size+1+p1.os.size by omega),(show w.heap.size<w.heap.size+1+p1.os.size+1 by omega)]
  have E':=Zh zv
  clear zv zM B3 hsz
  rw [wY]
  clear wY
  generalize w.heap.size+1+p1.os.size+1+1=B at*
  generalize hR:w.heap.size+1+p1.os.size+1=R at*
  have QL:w.heap.size<R:=by omega
  clear hR
  go_wp2_with fail
  go_loopw [5,24] (fun v5 v24 wr=> ∃(k W:Nat) (r:Ins),k<=ls.length/\v24=iI k/\v5= .int .u32 W/\W<4294967296/\r.rng/\EInv w wr B R ls op r/\encL (fls op) b ⟨op,d,n,m,e,sz,imm⟩=encL ((ls.drop k).filterMap fl) W r) (fun _ v24 _=>ls.length-(intOf v24).toNat)
  case atStart=>exact ⟨0,b,⟨op,d,n,m,e,sz,imm⟩,by omega,rfl,rfl,HB.out,HI.out,E'.out,by rw [HL.out];rfl⟩
  case round=>
   obtain ⟨k,W,r,hk,rfl,rfl,hW,Bk,zv,wY⟩:=hrel
   have Co:=Zh zv
   have yj:=Zh wY
   have AK:=Zh Bk
   obtain ⟨i1,i2,i3,i4,i5,i6,i7⟩:=zv
   clear wY Bk i1
   by_cases xe:(k:Int)<ls.length
   ·obtain ⟨c,hc⟩:=mw ls k Za
    have xm:=i5 k c hc
    obtain ⟨GV,EO⟩:=If.out c (zat hc)
    by_cases hz:c=122
    ·subst hz
     have xq:=mU hc rfl
     have HZ:=Zh xq
     clear xq EO i5 i6
     go_wp2_with fail
     go_roundw
     case rel=>exact ⟨k+1,W,r,by omega,by go_num,rfl,hW,AK.out,Co.out.below Ze,by rw [yj.out,HZ.out]⟩
     case measure=>simp [intOf];omega
    ·obtain ⟨f,hf⟩:=EO.resolve_left hz
     have xr:=aO c f hf
     have xu:((c:Int)==122)=false:=by simp;omega
     have zW:=xr.idx
     have IM:=(i6 f.idx zW.2).1
     have pi:=(i6 f.idx zW.2).2
     have AO:=AK.out f.idx zW.2
     have HF:=Zh (mV hc hf)
     have zN:=Zh xr
     have PL:=Zh (fun W=>kD c f hf W)
     have AT:=Zh (fun b W=>oe c f hf b W)
     have FI:=Zh (fun W=>ydc c f hf (r.get f.idx) AO W)
     have MA:=Zh (fun W=>lF c f hf W)
     have PU:=Zh (fun h W=>tL c f hf (r.get f.idx) h W)
     have HX:Hid (∃x,r.get f.idx=x):=Zh ⟨_,rfl⟩
     clear xr i5 i6 hf EO
     generalize hx:r.get f.idx=x at*
     have Hx:=Zh hx
     clear hx
     generalize (f.lo:Int)=q0 at*
     generalize (f.n:Int)=q1 at*
     generalize (f.kd==1)=q2 at*
     generalize (if f.kd=2 then (1:Int) else 0)=q3 at*
     generalize (f.most:Int)=q4 at*
     by_cases zi:fitF f x=true
     ·have PU2:=Zh (PU.out zi)
      have Fa:=Zh zi
      rw [zi] at FI
      generalize LE:putF f x*2^f.lo=pv at*
      generalize Et:mskN f=mk at*
      have P5:=Zh LE
      have Dx:=Zh Et
      clear LE Et PU zi
      go_wp2_with (first
       |(go_at_call 59;refine (PL.out _).mono ?_;rintro e w1 ⟨rfl,p2,rfl⟩)
       |(go_at_call 61;refine (AT.out _ _).mono ?_;rintro e w1 ⟨rfl,p3,rfl⟩))
      refine aE Zb Zb ?_
      repeat (go_big_quiet_step (first|(go_at_call 95;exact az (FI.out _))))
      refine zaE ?_
      intro p4
      go_wp2
      refine aE Zb Zb ?_
      repeat (go_big_quiet_step (first|(go_at_call 62;exact az (MA.out _))|(go_at_call 96;exact az (PU2.out _))))
      refine zaE ?_
      intro p5
      go_wp2_with fail
      have JE:bits .or .u32 (bits .andNot .u32 (W:Int) (mk:Int)) (pv:Int)=((ovr W f.lo f.n (putF f x):Nat):Int):=by
       rw [<-Dx.out,<-P5.out]
       exact kR zN.out hW (zN.out.lt x Fa.out)
      rw [JE]
      go_roundw
      case rel=>
       refine ⟨k+1,_,r.set f.idx 0,by omega,by go_num,rfl,kQ hW (zN.out.lt x Fa.out) zN.out.hi,Ins.rng_set AK.out f.idx zW.2 (by unfold rngI;omega),(Co.out.setc f.idx zW.2 0).below Ze,?_⟩
       rw [yj.out,HF.out]
       show (if fitF f (r.get f.idx)=true then _ else _)=_
       rw [Hx.out,if_pos Fa.out]
      case measure=>simp [intOf];omega
     ·have DT:enc ⟨op,d,n,m,e,sz,imm⟩=none:=by
       rw [HC,yj.out,HF.out]
       have e1:encL (f::(ls.drop (k+1)).filterMap fl) W r=none:=by
        show (if fitF f (r.get f.idx)=true then _ else _)=_
        rw [Hx.out,if_neg zi]
       rw [e1]
      rw [DT] at HV HE
      have v1:=HV.out
      have e1:=HE.out
      simp at v1 e1
      subst v1 e1
      rw [(by simpa using zi:fitF f x=false)] at FI
      clear HC DT HV HE PU zi MA
      go_wp2_with (first
       |(go_at_call 59;refine (PL.out _).mono ?_;rintro e w1 ⟨rfl,p2,rfl⟩)
       |(go_at_call 61;refine (AT.out _ _).mono ?_;rintro e w1 ⟨rfl,p3,rfl⟩))
      refine aE Zb Zb ?_
      repeat (go_big_quiet_step (first|(go_at_call 95;exact az (FI.out _))))
      refine zaE ?_
      intro p4
      go_wp2
      go_ret2
      exact Gives.mk rfl (by repeat (first|exact Co.out.1|exact zaa _ _|refine aG ?_ _|refine ab ?_ _))
   ·have hd:ls.drop k=[]:=by rw [List.drop_eq_nil_iff];omega
    have A4:enc ⟨op,d,n,m,e,sz,imm⟩=if restB op r=true then some W else none:=by
     rw [HC,yj.out,hd]
     rfl
    obtain ⟨r0,r1,r2,r3,r4,r5,r6⟩:=r
    have c0:wr.cell? ⟨R,0,none⟩=some (iI r0):=(i6 0 Za).1
    have c1:wr.cell? ⟨R,1,none⟩=some (iI r1):=(i6 1 Za).1
    have c2:wr.cell? ⟨R,2,none⟩=some (iI r2):=(i6 2 Za).1
    have c3:wr.cell? ⟨R,3,none⟩=some (iI r3):=(i6 3 Za).1
    have c4:wr.cell? ⟨R,4,none⟩=some (iI r4):=(i6 4 Za).1
    have c5:wr.cell? ⟨R,5,none⟩=some (iI r5):=(i6 5 Za).1
    have c6:wr.cell? ⟨R,6,none⟩=some (iI r6):=(i6 6 Za).1
    clear i6 HC yj AK Gp
    by_cases hr:restB op ⟨r0,r1,r2,r3,r4,r5,r6⟩=true
    ·rw [A4,if_pos hr] at HV HE
     have v1:=HV.out
     have e1:=HE.out
     simp at v1 e1
     subst v1 e1
     have hz:=(gq _ _).1 hr
     cases hz
     clear A4 hr HV HE
     go_wp2_with fail
     all_goals (go_ret2;exact Gives.mk rfl (by repeat (first|exact Co.out.1|exact zaa _ _|refine aG ?_ _|refine ab ?_ _)))
    ·rw [A4,if_neg hr] at HV HE
     have v1:=HV.out
     have e1:=HE.out
     simp at v1 e1
     subst v1 e1
     have hz: ¬(r0=op/\r1=0/\r2=0/\r3=0/\r4=0/\r5=0/\r6=0):=by
      intro h
      obtain ⟨rfl,rfl,rfl,rfl,rfl,rfl,rfl⟩:=h
      exact hr (by simp [restB])
     clear A4 hr HV HE
     go_wp2_with fail
     all_goals (go_ret2;exact Gives.mk rfl (by repeat (first|exact Co.out.1|exact zaa _ _|refine aG ?_ _|refine ab ?_ _)))
def insV(r:Ins):qV:= .agg #[iI r.op,iI r.d,iI r.n,iI r.m,iI r.e,iI r.sz,iI r.imm]
end
section
open Go.RowKit
theorem yau(n:Int)(h:n<1):mask n=0:=by
 unfold mask cD
 rw [show n.toNat=0 by omega]
 rfl
theorem yaw(n:Int)(h:64<=n):mask n=18446744073709551615:=by
 unfold mask cD
 rw [show min n.toNat 64=64 by omega]
theorem yav(n:Int)(h:1<=n)(h2:n<64):IntKind.u64.wrap (IntKind.u64.wrap (2^n.toNat)-1)=(mask n:Int):=by
 have h3:2^n.toNat<=2^63:=zaQ Zd Za
 have h4:0<2^n.toNat:=Nat.two_pow_pos _
 have e:((2:Int)^n.toNat)=((2^n.toNat:Nat):Int):=by simp
 unfold mask cD
 rw [show min n.toNat 64=n.toNat by omega,IntKind.wrap_u64,IntKind.wrap_u64,e]
 generalize 2^n.toNat=t at*
 omega
theorem eu{k:IntKind}{a b:Int}(h:a=b):Ending.returned (.int k a)= .returned (.int k b):=by rw [h]
theorem dY(n:Int)(h0: -9223372036854775808<=n)(h1:n<=9223372036854775807)(w:qW):
  qC 160 #[iI n] w fun e w'=>e= .returned (.int .u64 (mask n))/\w=w':=by
 by_cases hn:n<1
 ·have H:=Zh (yau n hn)
  go_enter Tryz.func160,Tryz.ntmps160
  go_wp2
  go_ret
  exact ⟨eu (by rw [H.out];rfl),rfl⟩
 by_cases hm:64<=n
 ·have H:=Zh (yaw n hm)
  go_enter Tryz.func160,Tryz.ntmps160
  go_wp2
  go_ret
  exact ⟨eu (by rw [H.out];rfl),rfl⟩
 ·have H:=Zh (yav n Za Za)
  go_enter Tryz.func160,Tryz.ntmps160
  go_wp2
  go_ret
  exact ⟨eu H.out,rfl⟩
theorem yca(p:Int)(w:qW)(h:0<=p)(h2:p<64):
  qC 278 #[iI p] w fun e w'=>e= .returned (.bool true)/\w=w':=by
 go_enter Tryz.func278,Tryz.ntmps278
 go_wp2
 go_ret
 exact ⟨rfl,rfl⟩
theorem ycb(p:Int)(w:qW)(h:p<0\/64<=p):
  qC 278 #[iI p] w fun e w'=>e= .returned (.bool false)/\w=w':=by
 rcases Int.lt_or_le p 0 with h1|h1
 ·clear h
  go_enter Tryz.func278,Tryz.ntmps278
  go_wp2
  go_ret
  exact ⟨rfl,rfl⟩
 ·have h2: ¬p<64:=by omega
  clear h
  go_enter Tryz.func278,Tryz.ntmps278
  go_wp2
  go_ret
  exact ⟨rfl,rfl⟩
theorem lE(x p:Nat):(x:Int)*2^p=((x*2^p:Nat):Int):=by
 rw [Int.natCast_mul];simp
theorem iS(x:Nat):IntKind.u64.wrap (x:Int)=((x%18446744073709551616:Nat):Int):=by
 rw [IntKind.wrap_u64];omega
theorem tF(x v:Nat)(p n:Int)(hx:x<18446744073709551616)(hv:v<18446744073709551616)(h2:0<=p)(h3:p<64):
  bits BinOp.or IntKind.u64 (bits BinOp.andNot IntKind.u64 (↑x) (IntKind.u64.wrap (↑(mask n)*2^p.toNat))) (IntKind.u64.wrap (bits BinOp.and IntKind.u64 ↑v ↑(mask n)*2^p.toNat))=(putN x p n v:Int):=by
 have hm: ∀y:Nat,y%18446744073709551616<18446744073709551616:=fun y=>zaL _ Zd
 rw [u64_and_nat _ _ hv (fs n),lE,lE,iS,iS,u64_andNot_nat _ _ hx (hm _),u64_or_nat _ _ (Nat.lt_of_le_of_lt Nat.and_le_left hx) (hm _)]
 unfold putN
 rw [if_pos ⟨h2,h3⟩]
theorem yeJ(x v:Nat)(p n:Int)(hx:x<2^64)(hv:v<2^64)(h0: -9223372036854775808<=n)(h1:n<=9223372036854775807)(w:qW):
  qC 229 #[.int .u64 x,iI p,iI n,.int .u64 v] w fun e w'=>e= .returned (.int .u64 (putN x p n v))/\Drew w w':=by
 by_cases hp:0<=p/\p<64
 ·have H:=Zh (tF x v p n hx hv hp.1 hp.2)
  obtain ⟨h2,h3⟩:=hp
  clear hx hv
  go_enter Tryz.func229,Tryz.ntmps229
  go_wp2_with (go_at_call 278;refine (yca _ _ Za Za).mono ?_;rintro e w' ⟨rfl,rfl⟩)
  go_quiet ((go_at_call 160;exact s8 (dY _ Za Za _)))
  go_wp2
  go_ret
  exact ⟨eu H.out,Drew.mk_ _ _⟩
 ·have H:Hid (putN x p n v=x):=by unfold putN;rw [if_neg hp];exact Zh rfl
  have h4:p<0\/64<=p:=by omega
  have H4:=Zh h4
  clear hp h4 hx hv
  go_enter Tryz.func229,Tryz.ntmps229
  go_wp2_with (go_at_call 278;refine (ycb _ _ H4.out).mono ?_;rintro e w' ⟨rfl,rfl⟩)
  go_ret
  exact ⟨eu (by rw [H.out]),Drew.refl _⟩
end
section
def capB(op:Int)(f:Fl):Bool:=
 if f.idx=6 then (if f.kd=1 then decide (f.n<=26)&&decide (13<=op/\op<=16) else decide (f.most<=65535)&&(!decide (op=17\/op=18)||decide (f.most<=4095)))
 else !(f.kd==1)&&decide (f.most<=31)&&(!(f.idx==5)||decide (f.most<=3))&&(!(f.idx==4)||!decide (op=1\/op=2\/op=12\/op=14)||decide (f.most<=3))
theorem yez:(List.range 33).all (fun k=>(fls k).all (fun f=>capB k f))=true:=by decide+kernel
theorem yey{op:Int}(h:1<=op/\op<=32): ∀f∈fls op,capB op f=true:=by
 have:=List.all_eq_true.1 yez op.toNat (List.mem_range.2 Za)
 rw [(show ((op.toNat:Nat):Int)=op by omega)] at this
 exact List.all_eq_true.1 this
structure Facts(i:Ins):Prop where
 op:1<=i.op/\i.op<=32
 d:0<=i.d/\i.d<=31
 n:0<=i.n/\i.n<=31
 m:0<=i.m/\i.m<=31
 e:0<=i.e/\i.e<=31
 sz:0<=i.sz/\i.sz<=3
 imm: -33554432<=i.imm/\i.imm<33554432
 small: ¬(13<=i.op/\i.op<=16)->0<=i.imm/\i.imm<=65535
 page:i.op=17\/i.op=18->i.imm<=4095
 four:i.op=1\/i.op=2\/i.op=12\/i.op=14->i.e<=3
theorem dv{i:Ins}{w:Nat}(h:enc i=some w):Facts i:=by
 obtain ⟨hl,h2⟩:=(nc i w).1 h
 have yi:=eC hl
 rw [iy _ _ _ (mA _) (mz _)] at h2
 obtain ⟨h3,_,h5⟩:=h2
 have key: ∀k,k<7->0<k->i.get k=0\/ ∃f∈fls i.op,f.idx=k/\fitF f (i.get k)=true/\capB i.op f=true:=by
  intro k hk h0
  by_cases hx: ∃f∈fls i.op,f.idx=k
  ·obtain ⟨f,hf,rfl⟩:=hx
   exact Or.inr ⟨f,hf,rfl,h3 f hf,yey yi f hf⟩
  ·have:=h5 k hk
   rw [if_neg hx,Ins.zero_get _ _ hk,if_neg Za] at this
   exact Or.inl this.symm
 have reg: ∀k,k<6->0<k->0<=i.get k/\i.get k<=31/\(k=5->i.get k<=3)/\(k=4->(i.op=1\/i.op=2\/i.op=12\/i.op=14)->i.get k<=3):=by
  intro k hk h0
  rcases key k Za h0 with hz|⟨f,hf,e,h6,h7⟩
  ·rw [hz];omega
  ·unfold capB at h7
   rw [if_neg Za] at h7
   unfold fitF at h6
   simp only [za0,zak,Bool.not_eq_true',zau,decide_eq_false_iff_not,beq_iff_eq,beq_eq_false_iff_ne] at h7
   rw [if_neg h7.1.1.1] at h6
   simp only [za0,zau] at h6
   omega
 have hi:(-33554432<=i.imm/\i.imm<33554432)/\(¬(13<=i.op/\i.op<=16)->0<=i.imm/\i.imm<=65535)/\(i.op=17\/i.op=18->i.imm<=4095):=by
  rcases key 6 Za Za with hz|⟨f,hf,e,h6,h7⟩
  ·have hz:i.imm=0:=hz
   omega
  ·have h6:fitF f i.imm=true:=h6
   unfold capB at h7
   rw [if_pos e] at h7
   unfold fitF at h6
   by_cases hk:f.kd=1
   ·rw [if_pos hk] at h6 h7
    simp only [za0,zau] at h6 h7
    have h8:2^(f.n-1)<=2^25:=zaQ Za Za
    omega
   ·rw [if_neg hk] at h6 h7
    simp only [za0,zak,Bool.not_eq_true',zau,decide_eq_false_iff_not] at h6 h7
    omega
 exact ⟨yi,⟨(reg 1 Za Za).1,(reg 1 Za Za).2.1⟩,⟨(reg 2 Za Za).1,(reg 2 Za Za).2.1⟩,⟨(reg 3 Za Za).1,(reg 3 Za Za).2.1⟩,
  ⟨(reg 4 Za Za).1,(reg 4 Za Za).2.1⟩,⟨(reg 5 Za Za).1,(reg 5 Za Za).2.2.1 rfl⟩,hi.1,hi.2.1,hi.2.2,(reg 4 Za Za).2.2.2 rfl⟩
end
section
open Go.RowKit Go.Sort
def stC(f:Nat->qV):Array qV:=((List.range 36).map f).toArray
def upd(f:Nat->qV)(k:Nat)(v:qV):Nat->qV:=fun j=>if j=k then v else f j
@[go_sem] theorem cO(f:Nat->qV):(stC f).size=36:=by simp [stC]
@[go_sem] theorem ep(f:Nat->qV)(k:Nat):(stC f)[k]?=if k<36 then some (f k) else none:=by
 unfold stC
 by_cases h:k<36<;>simp [h]
@[go_sem] theorem yfK(f:Nat->qV)(k:Nat)(h:k<(stC f).size):(stC f)[k]'h=f k:=by
 have h2:=ep f k
 rw [cO] at h
 rw [if_pos h] at h2
 exact (Array.getElem?_eq_some_iff.mp h2).2
@[go_sem] theorem yfJ(f:Nat->qV)(k:Nat)(v:qV):(stC f).setIfInBounds k v=stC (upd f k v):=by
 apply Array.ext_getElem?
 intro j
 rw [zaT,cO]
 by_cases h:k=j
 ·subst h
  rw [if_pos rfl,ep]
  simp [upd]
 ·rw [if_neg h,ep,ep]
  unfold upd
  rw [if_neg (show¬j=k from fun e=>h e.symm)]
structure St where
 x:Nat->Nat
 pc:Int
 z:Bool
 c:Bool
 wa:Int
 wl:Int
def St.f(s:St)(k:Nat):qV:=if k<31 then .int .u64 (s.x k) else if k=31 then iI s.pc else if k=32 then .bool s.z else if k=33 then .bool s.c else if k=34 then iI s.wa else iI s.wl
def stV(s:St):qV:= .agg (stC s.f)
def St.zero:St:=⟨fun _=>0,0,false,false,0,0⟩
theorem dS:(Tryz.prog.info? 78).map (·.size)=some 36:=by kernel_rfl
def setX(s:St)(n:Int)(v:Nat):St:=if n=31 then s else {s with x:=fun k=>if (k:Int)=n then v else s.x k}
def getX(s:St)(n:Int):Nat:=if n=31 then 0 else s.x n.toNat
theorem ydj(s:St)(k:Nat):(s.f k).oneCell'=true:=by
 unfold St.f
 repeat' split
 all_goals rfl
theorem fT(s:St):(stC s.f).all (·.oneCell')=true:=by
 unfold stC
 simp [ydj]
theorem f_x(s:St){k:Nat}(h:k<31):s.f k= .int .u64 (s.x k):=by unfold St.f;rw [if_pos h]
theorem bt(s:St):s.f 31=iI s.pc:=rfl
theorem f_z(s:St):s.f 32= .bool s.z:=rfl
theorem f_c(s:St):s.f 33= .bool s.c:=rfl
def ao(w:qW)(B:Nat)(s:St):Prop:= ∀k,k<36->w.cell? (aB B k)=some (s.f k)/\w.frozen? (aB B k)=false
theorem mW(s:St)(n:Int)(hn:0<=n/\n<=31)(B:Nat)(w:qW)(hS:ao w B s):qC 158 #[pP B,iI n] w fun e w'=>e= .returned (.int .u64 (getX s n:Nat))/\w'=w:=by
 obtain ⟨k,rfl⟩: ∃k:Nat,n=k:=⟨n.toNat,by omega⟩
 by_cases h:k=31
 ·subst h
  go_enter Tryz.func158,Tryz.ntmps158
  go_wp2
  go_ret
  exact ⟨rfl,rfl⟩
 ·have hk:k<31:=by omega
  have hc:=(hS k Za).1
  rw [f_x s hk] at hc
  have e:getX s (k:Int)=s.x k:=by
   unfold getX
   rw [if_neg Za]
   simp
  rw [e]
  generalize s.x k=x at hc ⊢
  go_enter Tryz.func158,Tryz.ntmps158
  go_wp2
  go_ret
  exact ⟨rfl,rfl⟩
def wrB(op:Int):Bool:=decide (op=18\/op=20\/op=23\/op=24\/op=27\/op=28)
def meB(op:Int):Bool:=decide (17<=op/\op<=28)
def paB(op:Int):Bool:=decide (25<=op/\op<=28)
def exB(op:Int):Bool:=decide (21<=op/\op<=28)
def hoB(s:St)(c:Int):Bool:=if c=0 then s.z else if c=1 then !s.z else if c=2 then s.c else !s.c
theorem iL(op a b:Int)(w:qW):qC 224 #[iI op,iI a,iI b] w fun e w'=>e= .returned (.bool (decide (a<=op/\op<=b)))/\w=w':=by
 by_cases h1:a<=op
 ·by_cases h2:op<=b
  all_goals
   go_enter Tryz.func224,Tryz.ntmps224
   go_wp2
   go_ret
   exact ⟨by simp [h1,h2],rfl⟩
 ·go_enter Tryz.func224,Tryz.ntmps224
  go_wp2
  go_ret
  exact ⟨by rw [show (decide (a<=op)&&decide (op<=b))=false by simp;omega];rfl,rfl⟩
theorem gI(op:Int)(w:qW):qC 154 #[iI op] w fun e w'=>e= .returned (.bool (meB op))/\w=w':=by
 have C:=Zh (iL op 17 28)
 unfold meB
 generalize decide (17<=op/\op<=28)=b at C ⊢
 go_enter Tryz.func154,Tryz.ntmps154
 go_wp2_with (first|(go_at_call 224;refine (C.out _).mono ?_;rintro e w1 ⟨rfl,rfl⟩))
 go_ret
 exact ⟨rfl,rfl⟩
theorem dK(op:Int)(w:qW):qC 159 #[iI op] w fun e w'=>e= .returned (.bool (paB op))/\w=w':=by
 have C:=Zh (iL op 25 28)
 unfold paB
 generalize decide (25<=op/\op<=28)=b at C ⊢
 go_enter Tryz.func159,Tryz.ntmps159
 go_wp2_with (first|(go_at_call 224;refine (C.out _).mono ?_;rintro e w1 ⟨rfl,rfl⟩))
 go_ret
 exact ⟨rfl,rfl⟩
theorem eI(op:Int)(w:qW):qC 157 #[iI op] w fun e w'=>e= .returned (.bool (exB op))/\w=w':=by
 have C:=Zh (iL op 21 28)
 unfold exB
 generalize decide (21<=op/\op<=28)=b at C ⊢
 go_enter Tryz.func157,Tryz.ntmps157
 go_wp2_with (first|(go_at_call 224;refine (C.out _).mono ?_;rintro e w1 ⟨rfl,rfl⟩))
 go_ret
 exact ⟨rfl,rfl⟩
theorem d9(op:Int)(w:qW):qC 155 #[iI op] w fun e w'=>e= .returned (.bool (wrB op))/\w=w':=by
 have e:Hid (wrB op=decide (op=18\/op=20\/op=23\/op=24\/op=27\/op=28)):=Zh rfl
 generalize wrB op=b at e ⊢
 by_cases hd:op=18\/op=20\/op=23\/op=24\/op=27\/op=28
 ·obtain rfl:b=true:=by rw [e.out];exact zaw hd
  clear e
  rcases hd with rfl|rfl|rfl|rfl|rfl|rfl
  all_goals
   go_enter Tryz.func155,Tryz.ntmps155
   go_wp2
   go_ret
   exact ⟨rfl,rfl⟩
 ·obtain rfl:b=false:=by rw [e.out];exact zax hd
  clear e
  obtain ⟨h1,h2,h3,h4,h5,h6⟩:op≠18/\op≠20/\op≠23/\op≠24/\op≠27/\op≠28:=by omega
  clear hd
  go_enter Tryz.func155,Tryz.ntmps155
  go_wp2
  go_ret
  exact ⟨by simp [*],rfl⟩
theorem mr(s:St)(c:Int)(B:Nat)(w:qW)(hS:ao w B s):qC 228 #[pP B,iI c] w fun e w'=>e= .returned (.bool (hoB s c))/\w=w':=by
 have hz:=(hS 32 Za).1
 have hc:=(hS 33 Za).1
 rw [f_z] at hz
 rw [f_c] at hc
 have e:Hid (hoB s c=if c=0 then s.z else if c=1 then !s.z else if c=2 then s.c else !s.c):=Zh rfl
 generalize hoB s c=b at e ⊢
 generalize s.z=z at*
 generalize s.c=cc at*
 clear hS
 have hh:c=0\/c=1\/c=2\/(c≠0/\c≠1/\c≠2):=by omega
 rcases hh with rfl|rfl|rfl|⟨h0,h1,h2⟩
 all_goals
  have e1:=e.out
  simp [*] at e1
  subst e1
  clear e
  go_enter Tryz.func228,Tryz.ntmps228
  go_wp2
  go_ret
  exact ⟨by first|rfl|simp,rfl⟩
theorem ycM(n:Int)(hn:0<=n/\n<=31)(x:Nat)(B:Nat)(w:qW)(hS: ∀k,k<36->(∃u,w.cell? (aB B k)=some u)/\w.frozen? (aB B k)=false):qC 168 #[pP B,iI n,.int .u64 x] w
  fun e w'=>e= .returned (.tuple #[])/\w'=if n=31 then w else w.setCell ⟨B,n.toNat,none⟩ (.int .u64 x):=by
 obtain ⟨k,rfl⟩: ∃k:Nat,n=k:=⟨n.toNat,by omega⟩
 by_cases h:k=31
 ·subst h
  go_enter Tryz.func168,Tryz.ntmps168
  go_wp2
  go_returns
  exact ⟨rfl,by simp⟩
 ·have hk:k<31:=by omega
  obtain ⟨⟨u,hc⟩,hf⟩:=hS k Za
  clear hS
  rw [if_neg Za]
  go_enter Tryz.func168,Tryz.ntmps168
  go_wp2
  go_returns
  exact ⟨rfl,by simp⟩
def St.ok(s:St):Prop:=(∀k,s.x k<2^64)/\rngI s.pc/\rngI s.wa/\rngI s.wl
theorem bY{s:St}(h:s.ok)(n:Int):getX s n<18446744073709551616:=by
 unfold getX
 split
 ·omega
 ·exact h.1 _
def lenI(i:Ins):Int:=if 25<=i.op/\i.op<=28 then 16 else 2^i.sz.toNat
def atN(s:St)(i:Ins):Int:=((getX s i.n:Int)+if i.op=17\/i.op=18 then i.imm*2^i.sz.toNat else 0)%18446744073709551616
def spanA(s:St)(i:Ins):Int:=if 1099511627776<=atN s i then-1 else atN s i
def spV(a l:Int):qV:= .agg #[iI a,iI l]
theorem aF{w:qW}{a:Addr}{v:qV}(h:w.cell? a=some v):a.block<w.heap.size:=by
 rcases zaJ a.block w.heap.size with hl|hl
 ·exact hl
 ·rw [World.cell?,zaW hl] at h
  simp at h
theorem ao.lt{w:qW}{B:Nat}{s:St}(h:ao w B s):B<w.heap.size:=aF (h 0 Za).1
theorem ao.below{w w':qW}{B:Nat}{s:St}(h:ao w B s)(hb:Below w.heap.size w w'):ao w' B s:=fun k hk=>
 ⟨(hb.cell (p:=⟨B,k,none⟩) h.lt).trans (h k hk).1,(hb.frozen (p:=⟨B,k,none⟩) h.lt).trans (h k hk).2⟩
theorem ed(s:St)(i:Ins)(hf:Facts i)(hs:s.ok)(B:Nat)(w:qW)(hS:ao w B s):qC 156 #[pP B,insV i] w (Gives w (spV (spanA s i) (lenI i))):=by
 have G:=Zh (fun W h=>mW s i.n hf.n B W h)
 have P:=Zh (dK i.op)
 have HS:=Zh (fun (W:qW) (h:Below w.heap.size w W)=>hS.below h)
 have e1:Hid (lenI i=if 25<=i.op/\i.op<=28 then 16 else 2^i.sz.toNat):=Zh rfl
 have e2:Hid (spanA s i=if 1099511627776<=atN s i then-1 else atN s i):=Zh rfl
 have e3:Hid (atN s i=((getX s i.n:Int)+if i.op=17\/i.op=18 then i.imm*2^i.sz.toNat else 0)%18446744073709551616):=Zh rfl
 have hg:=bY hs i.n
 unfold paB at P
 unfold spV
 generalize spanA s i=A at e2 ⊢
 generalize lenI i=L at e1 ⊢
 generalize atN s i=T at e2 e3
 have f1:=hf.op
 have f2:=hf.n
 have f3:=hf.sz
 have f4:=hf.page
 have f5:=hf.small
 clear hf hs
 obtain ⟨op,d,n,m,e,sz,imm⟩:=i
 unfold insV
 simp only at*
 generalize getX s n=g at*
 have hy: ∃y:Int,(g:Int)=y/\0<=y/\y<18446744073709551616:=⟨g,rfl,by omega,by omega⟩
 obtain ⟨y,AN,y1,y2⟩:=hy
 rw [AN] at G e3
 clear AN hg
 clear g
 have hp: ∃t:Int,(2:Int)^sz.toNat=t/\1<=t/\t<=8:=by
  have:sz=0\/sz=1\/sz=2\/sz=3:=by omega
  rcases this with rfl|rfl|rfl|rfl<;>simp
 obtain ⟨t,ht,t1,t2⟩:=hp
 rw [ht] at e1 e3
 have yi:(25<=op/\op<=28)\/(op=17\/op=18)\/(op≠17/\op≠18/\ ¬(25<=op/\op<=28)):=by omega
 have EM:1099511627776<=T\/T<1099511627776:=by omega
 rcases yi with ⟨h1,h2⟩|h1|⟨h1,h2,h3⟩
 ·have q1:=e1.out
  rw [if_pos ⟨h1,h2⟩] at q1
  subst q1
  have q2:=e2.out
  have q3:=e3.out
  rw [if_neg Za] at q3
  have q4:T=y:=by omega
  subst q4
  have n1:(op==17)=false:=by simp;omega
  have n2:(op==18)=false:=by simp;omega
  clear q3 e1 e3 e2 f4 f5
  rw [zaw ⟨h1,h2⟩] at P
  rcases EM with h|h
  ·rw [if_pos h] at q2
   subst q2
   go_enter Tryz.func156,Tryz.ntmps156
   go_wp2_with (first
    |(go_at_call 159;refine (P.out _).mono ?_;rintro e w1 ⟨rfl,rfl⟩)
    |(go_at_call 158;refine (G.out _ (HS.out _ ZY)).mono ?_;rintro e w1 ⟨rfl,rfl⟩))
   go_returns
   exact Gives.mk Z53_ ZY
  ·rw [if_neg Za] at q2
   subst q2
   go_enter Tryz.func156,Tryz.ntmps156
   go_wp2_with (first
    |(go_at_call 159;refine (P.out _).mono ?_;rintro e w1 ⟨rfl,rfl⟩)
    |(go_at_call 158;refine (G.out _ (HS.out _ ZY)).mono ?_;rintro e w1 ⟨rfl,rfl⟩))
   go_returns
   exact Gives.mk Z53_ ZY
 ·have q1:=e1.out
  rw [if_neg Za] at q1
  have q2:=e2.out
  have q3:=e3.out
  rw [if_pos h1] at q3
  have f6:=f4 h1
  have f7:=f5 Za
  have n3: ¬(25<=op/\op<=28):=by omega
  have m1:0<=imm*t:=Int.mul_nonneg f7.1 Za
  have m2:imm*t<=4095*8:=Int.mul_le_mul f6 t2 Za Za
  have q4:=q3
  rw [<-IntKind.wrap_u64] at q4
  clear f4 f5 e1 e3 e2
  rw [zax n3] at P
  clear n3
  rcases EM with h|h
  ·rw [if_pos h] at q2
   subst q2
   subst q1
   rcases h1 with rfl|rfl
   all_goals
    go_enter Tryz.func156,Tryz.ntmps156
    go_wp2_with (first
     |(go_at_call 159;refine (P.out _).mono ?_;rintro e w1 ⟨rfl,rfl⟩)
     |(go_at_call 158;refine (G.out _ (HS.out _ ZY)).mono ?_;rintro e w1 ⟨rfl,rfl⟩))
    go_returns
    exact Gives.mk Z53_ ZY
  ·rw [if_neg Za] at q2
   have h0:0<=T:=by omega
   subst q2
   subst q1
   rcases h1 with rfl|rfl
   all_goals
    go_enter Tryz.func156,Tryz.ntmps156
    go_wp2_with (first
     |(go_at_call 159;refine (P.out _).mono ?_;rintro e w1 ⟨rfl,rfl⟩)
     |(go_at_call 158;refine (G.out _ (HS.out _ ZY)).mono ?_;rintro e w1 ⟨rfl,rfl⟩))
    go_returns
    exact Gives.mk Z53_ ZY
 ·have q1:=e1.out
  rw [if_neg h3] at q1
  have q2:=e2.out
  have q3:=e3.out
  rw [if_neg Za] at q3
  have q4:T=y:=by omega
  subst q4
  have n1:(op==17)=false:=by simp;omega
  have n2:(op==18)=false:=by simp;omega
  clear q3 e1 e3 e2 f4 f5
  rw [zax h3] at P
  clear h3 h1 h2
  subst q1
  rcases EM with h|h
  ·rw [if_pos h] at q2
   subst q2
   go_enter Tryz.func156,Tryz.ntmps156
   go_wp2_with (first
    |(go_at_call 159;refine (P.out _).mono ?_;rintro e w1 ⟨rfl,rfl⟩)
    |(go_at_call 158;refine (G.out _ (HS.out _ ZY)).mono ?_;rintro e w1 ⟨rfl,rfl⟩))
   go_returns
   exact Gives.mk Z53_ ZY
  ·rw [if_neg Za] at q2
   subst q2
   go_enter Tryz.func156,Tryz.ntmps156
   go_wp2_with (first
    |(go_at_call 159;refine (P.out _).mono ?_;rintro e w1 ⟨rfl,rfl⟩)
    |(go_at_call 158;refine (G.out _ (HS.out _ ZY)).mono ?_;rintro e w1 ⟨rfl,rfl⟩))
   go_returns
   exact Gives.mk Z53_ ZY
theorem fA(s:St)(n:Int)(hn:0<=n/\n<=31)(B:Nat)(w:qW)(hS:ao w B s):qC 158 #[pP B,iI n] w (Gives w (.int .u64 (getX s n:Nat))):=
 bP ((mW s n hn B w hS).mono fun _ _ ⟨a,b⟩=>⟨a,b.symm⟩)
def takB(s:St)(i:Ins):Bool:=if i.op=13 then true else if i.op=14 then hoB s i.e else if i.op=15 then ((getX s i.d:Nat):Int)==0 else if i.op=16 then ((getX s i.d:Nat):Int) !=0 else false
def numI(s:St)(i:Ins):Int:=
 if i.op=1 then IntKind.u64.wrap (i.imm*2^(16*i.e).toNat)
 else if i.op=2 then (putN (getX s i.d) (16*i.e) 16 i.imm.toNat:Nat)
 else if i.op=3 then IntKind.u64.wrap ((getX s i.n:Int)+(getX s i.m:Int))
 else if i.op=4\/i.op=5 then IntKind.u64.wrap ((getX s i.n:Int)-(getX s i.m:Int))
 else if i.op=6 then bits .and .u64 (getX s i.n) (getX s i.m)
 else if i.op=7 then bits .or .u64 (getX s i.n) (getX s i.m)
 else if i.op=8 then bits .xor .u64 (getX s i.n) (getX s i.m)
 else if i.op=9 then IntKind.u64.wrap ((getX s i.n:Int)*(getX s i.m:Int))
 else if i.op=10 then IntKind.u64.wrap ((getX s i.n:Int)*2^((getX s i.m:Int)%64).toNat)
 else if i.op=11 then (getX s i.n:Int)/2^((getX s i.m:Int)%64).toNat
 else if i.op=12 then (if hoB s i.e then 1 else 0)
 else 0
def numB(op:Int):Bool:=decide (1<=op/\op<=12)
theorem wL(s:St)(i:Ins)(hf:Facts i)(hs:s.ok)(B:Nat)(w:qW)(hS:ao w B s):qC 166 #[pP B,insV i] w (Gives w (.tuple #[.int .u64 (numI s i),.bool (numB i.op)])):=by
 have G:=Zh (fun n hn W h=>fA s n hn B W h)
 have hn:=hf.n
 have hm:=hf.m
 have hd:=hf.d
 have HO:=Zh (fun W h=>bP (mr s i.e B W h))
 have HS:=Zh (fun (W:qW) (h:Below w.heap.size w W)=>ao.below hS h)
 have gn:=bY hs i.n
 have gm:=bY hs i.m
 have gd:=bY hs i.d
 have f1:=hf.op
 have f3:=hf.four
 have f4:=hf.e
 have f5:=hf.small
 have e1:=Zh (numI.eq_1 s i)
 clear hf hs
 generalize numI s i=V at e1 ⊢
 obtain ⟨op,d,n,m,e,sz,imm⟩:=i
 unfold insV
 simp only at*
 generalize hoB s e=H at*
 have yi:op=1\/op=2\/op=3\/op=4\/op=5\/op=6\/op=7\/op=8\/op=9\/op=10\/op=11\/op=12\/(13<=op/\ ¬op=1/\ ¬op=2/\ ¬op=3/\ ¬(op=4\/op=5)/\ ¬op=6/\ ¬op=7/\ ¬op=8/\ ¬op=9/\ ¬op=10/\ ¬op=11/\ ¬op=12):=by omega
 rcases yi with rfl|rfl|rfl|rfl|rfl|rfl|rfl|rfl|rfl|rfl|rfl|rfl|⟨hh,k1,k2,k3,k4,k6,k7,k8,k9,k10,k11,k12⟩
 case inr.inr.inr.inr.inr.inr.inr.inr.inr.inr.inr.inr=>
  have q1:=e1.out
  rw [if_neg k1,if_neg k2,if_neg k3,if_neg k4,if_neg k6,if_neg k7,if_neg k8,if_neg k9,if_neg k10,if_neg k11,if_neg k12] at q1
  subst q1
  rw [show numB op=false from zax Za]
  have j1:(op==1)=false:=by simpa using k1
  have j2:(op==2)=false:=by simpa using k2
  have j3:(op==3)=false:=by simpa using k3
  have j4:(op==4)=false:=by simp;omega
  have j5:(op==5)=false:=by simp;omega
  have j6:(op==6)=false:=by simpa using k6
  have j7:(op==7)=false:=by simpa using k7
  have j8:(op==8)=false:=by simpa using k8
  have j9:(op==9)=false:=by simpa using k9
  have j10:(op==10)=false:=by simpa using k10
  have j11:(op==11)=false:=by simpa using k11
  have j12:(op==12)=false:=by simpa using k12
  clear k1 k2 k3 k4 k6 k7 k8 k9 k10 k11 k12 e1 f3 f5
  go_enter Tryz.func166,Tryz.ntmps166
  go_wp2_with fail
  refine aE Zb Zb ?_
  repeat (go_big_quiet_step (first|(go_at_call 158;exact az (G.out _ Za _ (HS.out _ Ze)))))
  refine zaE ?_
  intro p
  go_wp2_with fail
  go_returns
  exact Gives.mk rfl Ze
 case inr.inl=>
  have q1:=e1.out
  simp at q1
  rw [show numB 2=true from zaw Za]
  have f6:=f3 Za
  have f7:=f5 Za
  obtain ⟨im,rfl⟩: ∃im:Nat,imm=im:=⟨imm.toNat,by omega⟩
  have PU:=Zh (fun W=>yct (yeJ (getX s d) im (16*e) 16 gd Za Za Za W))
  simp at q1
  clear e1 f3 f5
  go_enter Tryz.func166,Tryz.ntmps166
  go_wp2_with fail
  refine aE Zb Zb ?_
  repeat (go_big_quiet_step (first|(go_at_call 158;exact az (G.out _ Za _ (HS.out _ Ze)))))
  refine zaE ?_
  intro p
  go_wp2_with fail
  refine aE Zb Zb ?_
  repeat (go_big_quiet_step (first|(go_at_call 158;exact az (G.out _ Za _ (HS.out _ Ze)))|(go_at_call 229;exact az (PU.out _))))
  refine zaE ?_
  intro p2
  go_wp2_with fail
  go_returns
  exact Gives.mk (by rw [q1];rfl) Ze
 case inr.inr.inr.inr.inr.inr.inr.inr.inr.inr.inr.inl=>
  have q1:=e1.out
  simp at q1
  rw [show numB 12=true from zaw Za]
  clear e1 f3 f5
  cases H
  all_goals
   simp at q1
   go_enter Tryz.func166,Tryz.ntmps166
   go_wp2_with fail
   refine aE Zb Zb ?_
   repeat (go_big_quiet_step (first|(go_at_call 158;exact az (G.out _ Za _ (HS.out _ Ze)))))
   refine zaE ?_
   intro p
   go_wp2_with (first
    |(go_at_call 228;refine (HO.out _ (HS.out _ Ze)).mono ?_;rintro e w1 ⟨rfl,p1,rfl⟩))
   go_returns
   exact Gives.mk (by rw [q1];rfl) Ze
 all_goals
  have q1:=e1.out
  simp at q1
  rw [show numB _=true from zaw Za]
  try have f6:=f3 Za
  have f7:=f5 Za
  clear e1 f3 f5
  go_enter Tryz.func166,Tryz.ntmps166
  go_wp2_with fail
  refine aE Zb Zb ?_
  repeat (go_big_quiet_step (first|(go_at_call 158;exact az (G.out _ Za _ (HS.out _ Ze)))))
  refine zaE ?_
  intro p
  go_wp2_with fail
  go_returns
  exact Gives.mk (by rw [q1];rfl) Ze
theorem pR(s:St)(i:Ins)(hf:Facts i)(hs:s.ok)(B:Nat)(w:qW)(hS:ao w B s):qC 165 #[pP B,insV i] w (Gives w (.bool (takB s i))):=by
 have G:=Zh (fun n hn W h=>fA s n hn B W h)
 have hd:=hf.d
 have HO:=Zh (fun W h=>bP (mr s i.e B W h))
 have HS:=Zh (fun (W:qW) (h:Below w.heap.size w W)=>ao.below hS h)
 have gd:=bY hs i.d
 have f1:=hf.op
 have e1:=Zh (takB.eq_1 s i)
 clear hf hs
 generalize takB s i=V at e1 ⊢
 obtain ⟨op,d,n,m,e,sz,imm⟩:=i
 unfold insV
 simp only at*
 generalize hoB s e=H at*
 have yi:op=13\/op=14\/op=15\/op=16\/(¬op=13/\ ¬op=14/\ ¬op=15/\ ¬op=16):=by omega
 rcases yi with rfl|rfl|rfl|rfl|⟨k1,k2,k3,k4⟩
 case inr.inr.inr.inr=>
  have q1:=e1.out
  rw [if_neg k1,if_neg k2,if_neg k3,if_neg k4] at q1
  subst q1
  have j1:(op==13)=false:=by simpa using k1
  have j2:(op==14)=false:=by simpa using k2
  have j3:(op==15)=false:=by simpa using k3
  have j4:(op==16)=false:=by simpa using k4
  clear k1 k2 k3 k4 e1
  go_enter Tryz.func165,Tryz.ntmps165
  go_wp2_with fail
  go_ret
  exact Gives.mk rfl Ze
 all_goals
  have q1:=e1.out
  simp at q1
  clear e1
  go_enter Tryz.func165,Tryz.ntmps165
  go_wp2_with (first
   |(go_at_call 158;refine (G.out _ Za _ (HS.out _ Ze)).mono ?_;rintro e w1 ⟨rfl,p1,rfl⟩)
   |(go_at_call 228;refine (HO.out _ (HS.out _ Ze)).mono ?_;rintro e w1 ⟨rfl,p1,rfl⟩))
  go_ret
  exact Gives.mk (by rw [q1];first|rfl|simp) Ze
end
end Go.Proofs.YtjmfoeajhiimnaaGreatDoor
