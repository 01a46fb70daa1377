/- Walks. No condition. -/
import Derived.Test.YtjmfoeajhiimnaaGreatDoorG06
set_option maxRecDepth 100000
set_option maxHeartbeats 0
set_option linter.all false
namespace Go.Proofs.YtjmfoeajhiimnaaGreatDoor
open Go.RowKit Go.Sort
theorem lr(s:St)(i:Ins)(hi:i.rng)(hs:s.ok)(g0 g1:Nat)(h0:g0<18446744073709551616)(fits:Bool)(v:Nat)(h:enc i=some v)(hp:paB i.op=false)(w:qW):qC 105 #[stV s,insV i,.agg #[.int .u64 (g0:Nat),.int .u64 (g1:Nat)],.bool fits] w (Gives w (.tuple #[stV (nextS s i g0 g1 fits),iI 0])):=by
 have hf:=dv h
 have SO:=Zh (fun W=>fU i hi W)
 rw [h] at SO
 have ME:=Zh (fun W=>bP (gI i.op W))
 have TK:=Zh (fun W h=>pR s i hf hs w.heap.size W h)
 have NU:=Zh (fun W h=>wL s i hf hs w.heap.size W h)
 have AC:=Zh (fun W h=>yfw s i hf hs g0 g1 h0 fits hp w.heap.size W h)
 have G:=Zh (fun (t:St) n hn W h=>fA t n hn w.heap.size W h)
 have PU:=Zh (fun (t:St) (n:Int) (v:Nat) (x:Int) (hx:x=(v:Int)) (hn:0<=n/\n<=31) W h=>ew t n v x hx w.heap.size hn W h)
 have H0:=Zh (fun c hc=>wT w s i g0 g1 c hc)
 have hd:=hf.d
 have hn:=hf.n
 have hm:=hf.m
 have yi:=hf.op
 have Oa:=lm s i hf hs
 have e1:=Zh (nextS.eq_1 s i g0 g1 fits)
 have e2:=Zh (bodyS.eq_1 s i g0 g1 fits)
 have xC:=hs.2.1
 have J5:=hf.imm
 unfold rngI at xC
 generalize nextS s i g0 g1 fits=T at e1 ⊢
 generalize bodyS s i g0 g1 fits=S1 at e1 e2
 generalize accS s i g0 g1 fits=SA at AC e2
 generalize takB s i=tk at*
 generalize numI s i=x at*
 clear hi hs hf h hp
 obtain ⟨op,d,n,m,e,sz,imm⟩:=i
 have hT:stV T= .agg (stC T.f):=rfl
 rw [hT]
 clear hT
 unfold insV at*
 rw [show stV s= .agg (stC s.f) from rfl]
 simp only at*
 go_enter Tryz.func105,Tryz.ntmps105
 go_upto_region 1 with fail
 refine aY (R:=fun W=>NextW w W s ⟨op,d,n,m,e,sz,imm⟩ g0 g1) (H0.out _ rfl) ?_
 intro wx hN
 clear H0
 have hI:=hN.ins
 unfold IAt at hI
 obtain ⟨i0,i1,i2,i3,i4,i5,i6⟩:=hI
 have hG:=hN.got
 unfold Two at hG
 obtain ⟨k0,k1⟩:=hG
 have q31:=(hN.st 31 Za).1
 have u31:=(hN.st 31 Za).2
 rw [bt] at q31
 have lz:=hN.rlt
 have HN:=Zh hN
 clear hN
 cases tk
 ·go_upto_region 7 with (first
   |(go_at_call 153;refine (SO.out _).mono ?_;rintro e w9 ⟨rfl,p,rfl⟩)
   |(go_at_call 165;refine (TK.out _ ?_).mono ?_;(repeat (first|with_reducible exact HN.out.st|with_reducible refine aW ?_ _));rintro e w9 ⟨rfl,p2,rfl⟩)
   |(go_at_call 166;refine (NU.out _ ?_).mono ?_;(repeat (first|with_reducible exact HN.out.st|with_reducible refine aW ?_ _));rintro e w9 ⟨rfl,p3,rfl⟩))
  refine aY (R:=fun W=>NextW w W s ⟨op,d,n,m,e,sz,imm⟩ g0 g1) (((HN.out.more p).more p2).more p3) ?_
  intro wy hN
  clear HN lz i0 i1 i2 i3 i4 i5 i6 k0 k1 q31 u31 SO TK NU
  have hI:=hN.ins
  unfold IAt at hI
  obtain ⟨i0,i1,i2,i3,i4,i5,i6⟩:=hI
  have hG:=hN.got
  unfold Two at hG
  obtain ⟨k0,k1⟩:=hG
  have q31:=(hN.st 31 Za).1
  have u31:=(hN.st 31 Za).2
  rw [bt] at q31
  have lz:=hN.rlt
  have HN:=Zh hN
  clear hN
  have f1:=e1.out
  simp only [zaY,if_false,if_true] at f1
  have F1:=Zh f1
  clear f1 e1
  generalize wrap64 (s.pc+1)=nx at F1 ⊢
  by_cases zT:op=30
  ·subst zT
   have f2:=e2.out
   simp only [if_true] at f2
   have q34:=(HN.out.st 34 Za).1
   have q35:=(HN.out.st 35 Za).1
   have u34:=(HN.out.st 34 Za).2
   have u35:=(HN.out.st 35 Za).2
   go_upto_region 15 with fail
   refine aY (R:=fun W=>NextW w W S1 ⟨30,d,n,m,e,sz,imm⟩ g0 g1) (HN.out.onto ((Onto_Flow.refl.set 34 _).set 35 _) (by rw [f2];exact ei HN.out.st 0 0)) ?_
   intro wf hN
   clear q34 q35 u34 u35
   clear HN lz i0 i1 i2 i3 i4 i5 i6 k0 k1 q31 u31
   have q31:=(hN.st 31 Za).1
   have u31:=(hN.st 31 Za).2
   rw [bt] at q31
   have lz:=hN.rlt
   have HN:=Zh hN
   clear hN
   go_upto_region 16 with fail
   refine aY (R:=fun W=>NextW w W {S1 with pc:=nx} ⟨30,d,n,m,e,sz,imm⟩ g0 g1) (HN.out.onto (Onto_Flow.refl.set 31 _) (cr HN.out.st nx)) ?_
   intro wz hN
   clear HN q31 u31 lz
   rw [<-F1.out] at hN
   have HN:=Zh hN
   clear hN
   refine wp_region_lit ?_
   refine co (s:=T) (b:=w.heap.size) (.tmp 4) rfl rfl rfl HN.out.st ?_
   go_frame
   refine cn (s:=T) (b:=w.heap.size+1+1+1) (.tmp 8) (.tmp 68) rfl rfl ?h1xa ?h2xa ?h3xa ?h4xa
   case h1xa=>rfl
   case h3xa=>exact HN.out.res
   case h2xa=>
    generalize stV T=Z
    rfl
   generalize stV T=Z
   generalize hX:World.setCells wz (w.heap.size+1+1+1) 0 (stL T)=X
   go_wp2_with fail
   subst hX
   refine zad (v:= .tuple #[stV T,iI 0]) ?hresxa rfl ?postxa
   case hresxa=>
    refine cA (q:=0) (s:=T) ?raxa ?rbxa ?rcxa
    case raxa=>exact HN.out.res
    case rbxa=>rfl
    case rcxa=>rfl
   case postxa=>exact Gives.mk rfl (cm Za _ _ _ HN.out.below)
  ·by_cases xH:meB op=true
   ·have f2:=e2.out
    rw [if_neg zT,if_pos xH] at f2
    have b30:(op==30)=false:=by simpa using zT
    rw [xH] at ME
    go_upto_region 15 with (first
     |(go_at_call 154;refine (ME.out _).mono ?_;rintro e w9 ⟨rfl,p,rfl⟩)
     |(go_at_call 167;refine (AC.out _ ?_).mono ?_;(repeat (first|with_reducible exact HN.out.st|with_reducible refine aW ?_ _));rintro e w2 ⟨rfl,ho_w2,hs_w2⟩))
    refine aY (R:=fun W=>NextW w W S1 ⟨op,d,n,m,e,sz,imm⟩ g0 g1) ((HN.out.more p).onto ho_w2 (by rw [f2];exact hs_w2)) ?_
    intro wf hN
    clear ho_w2 hs_w2
    clear HN lz i0 i1 i2 i3 i4 i5 i6 k0 k1 q31 u31
    have q31:=(hN.st 31 Za).1
    have u31:=(hN.st 31 Za).2
    rw [bt] at q31
    have lz:=hN.rlt
    have HN:=Zh hN
    clear hN
    go_upto_region 16 with fail
    refine aY (R:=fun W=>NextW w W {S1 with pc:=nx} ⟨op,d,n,m,e,sz,imm⟩ g0 g1) (HN.out.onto (Onto_Flow.refl.set 31 _) (cr HN.out.st nx)) ?_
    intro wz hN
    clear HN q31 u31 lz
    rw [<-F1.out] at hN
    have HN:=Zh hN
    clear hN
    refine wp_region_lit ?_
    refine co (s:=T) (b:=w.heap.size) (.tmp 4) rfl rfl rfl HN.out.st ?_
    go_frame
    refine cn (s:=T) (b:=w.heap.size+1+1+1) (.tmp 8) (.tmp 68) rfl rfl ?h1xb ?h2xb ?h3xb ?h4xb
    case h1xb=>rfl
    case h3xb=>exact HN.out.res
    case h2xb=>
     generalize stV T=Z
     rfl
    generalize stV T=Z
    generalize hX:World.setCells wz (w.heap.size+1+1+1) 0 (stL T)=X
    go_wp2_with fail
    subst hX
    refine zad (v:= .tuple #[stV T,iI 0]) ?hresxb rfl ?postxb
    case hresxb=>
     refine cA (q:=0) (s:=T) ?raxb ?rbxb ?rcxb
     case raxb=>exact HN.out.res
     case rbxb=>rfl
     case rcxb=>rfl
    case postxb=>exact Gives.mk rfl (cm Za _ _ _ HN.out.below)
   ·by_cases AS:numB op=true
    ·by_cases h5:op=5
     ·subst h5
      have f2:=e2.out
      rw [if_neg zT,if_neg xH,if_pos AS,if_pos rfl] at f2
      rw [Bool.not_eq_true] at xH
      rw [xH] at ME
      rw [AS]
      have q32:=(HN.out.st 32 Za).1
      have u32:=(HN.out.st 32 Za).2
      have q33:=(HN.out.st 33 Za).1
      have u33:=(HN.out.st 33 Za).2
      go_upto_region 13 with (first
       |(go_at_call 154;refine (ME.out _).mono ?_;rintro e w9 ⟨rfl,p,rfl⟩))
      go_cut [] from 51 to 61 (fun W=>NextW w W {s with z:=x==0,c:=decide (getX s m<=getX s n)} ⟨5,d,n,m,e,sz,imm⟩ g0 g1)
      case first=>
       go_region_held3 (fun W=>W.cell? ⟨w.heap.size+1,2,none⟩=some (iI n)/\W.cell? ⟨w.heap.size+1,3,none⟩=some (iI m)) (first|(simp [go_sem,↓IntWalk.iteOmega,i2,i3];done)|(simp [go_sem,↓IntWalk.iteOmega,i2,i3];omega)) (first
        |(go_at_call 158;refine (G.out s _ Za _ ?_).mono ?_;(repeat (first|with_reducible exact HN.out.st|with_reducible refine aW ?_ _|with_reducible refine eX ?_));rintro e w9 ⟨rfl,p4,rfl⟩))
       all_goals
        go_wp2_with fail
        go_meet
        refine HN.out.onto ?_ ?_
        ·repeat (first|with_reducible exact Onto_Flow.refl|with_reducible refine Onto_Flow.more ?_ _|with_reducible refine Onto_Flow.drew ?_|with_reducible refine Onto_Flow.set ?_ _ _)
        ·repeat (first|with_reducible refine aW ?_ _|with_reducible refine eX ?_)
         exact jy (s:={s with z:=x==0}) (jx HN.out.st (x==0)) (decide (getX s m<=getX s n))
      case rest=>
       clear HN lz i0 i1 i2 i3 i4 i5 i6 k0 k1 q31 u31 q32 u32 q33 u33
       have hN:=hcut
       clear hcut
       have hI:=hN.ins
       unfold IAt at hI
       obtain ⟨i0,i1,i2,i3,i4,i5,i6⟩:=hI
       have hG:=hN.got
       unfold Two at hG
       obtain ⟨k0,k1⟩:=hG
       have q31:=(hN.st 31 Za).1
       have u31:=(hN.st 31 Za).2
       rw [bt] at q31
       have lz:=hN.rlt
       have HN:=Zh hN
       clear hN
       go_upto_region 15 with (first
        |(go_at_call 168;refine (PU.out {s with z:=x==0,c:=decide (getX s m<=getX s n)} d x.toNat x Za hd _ ?_).mono ?_;(repeat (first|with_reducible exact HN.out.st|with_reducible refine aW ?_ _));rintro e w2 ⟨rfl,ho_w2,hs_w2⟩))
       refine aY (R:=fun W=>NextW w W S1 ⟨5,d,n,m,e,sz,imm⟩ g0 g1) (HN.out.onto ho_w2 (by rw [f2];exact hs_w2)) ?_
       intro wf hN
       clear ho_w2 hs_w2
       clear HN lz i0 i1 i2 i3 i4 i5 i6 k0 k1 q31 u31
       have q31:=(hN.st 31 Za).1
       have u31:=(hN.st 31 Za).2
       rw [bt] at q31
       have lz:=hN.rlt
       have HN:=Zh hN
       clear hN
       go_upto_region 16 with fail
       refine aY (R:=fun W=>NextW w W {S1 with pc:=nx} ⟨5,d,n,m,e,sz,imm⟩ g0 g1) (HN.out.onto (Onto_Flow.refl.set 31 _) (cr HN.out.st nx)) ?_
       intro wz hN
       clear HN q31 u31 lz
       rw [<-F1.out] at hN
       have HN:=Zh hN
       clear hN
       refine wp_region_lit ?_
       refine co (s:=T) (b:=w.heap.size) (.tmp 4) rfl rfl rfl HN.out.st ?_
       go_frame
       refine cn (s:=T) (b:=w.heap.size+1+1+1) (.tmp 8) (.tmp 68) rfl rfl ?h1xe ?h2xe ?h3xe ?h4xe
       case h1xe=>rfl
       case h3xe=>exact HN.out.res
       case h2xe=>
        generalize stV T=Z
        rfl
       generalize stV T=Z
       generalize hX:World.setCells wz (w.heap.size+1+1+1) 0 (stL T)=X
       go_wp2_with fail
       subst hX
       refine zad (v:= .tuple #[stV T,iI 0]) ?hresxe rfl ?postxe
       case hresxe=>
        refine cA (q:=0) (s:=T) ?raxe ?rbxe ?rcxe
        case raxe=>exact HN.out.res
        case rbxe=>rfl
        case rcxe=>rfl
       case postxe=>exact Gives.mk rfl (cm Za _ _ _ HN.out.below)
     ·have f2:=e2.out
      rw [if_neg zT,if_neg xH,if_pos AS,if_neg h5] at f2
      have b30:(op==30)=false:=by simpa using zT
      have b5:(op==5)=false:=by simpa using h5
      rw [Bool.not_eq_true] at xH
      rw [xH] at ME
      rw [AS]
      go_upto_region 15 with (first
       |(go_at_call 154;refine (ME.out _).mono ?_;rintro e w9 ⟨rfl,p,rfl⟩)
       |(go_at_call 168;refine (PU.out s d x.toNat x Za hd _ ?_).mono ?_;(repeat (first|with_reducible exact HN.out.st|with_reducible refine aW ?_ _));rintro e w2 ⟨rfl,ho_w2,hs_w2⟩))
      refine aY (R:=fun W=>NextW w W S1 ⟨op,d,n,m,e,sz,imm⟩ g0 g1) ((HN.out.more p).onto ho_w2 (by rw [f2];exact hs_w2)) ?_
      intro wf hN
      clear ho_w2 hs_w2
      clear HN lz i0 i1 i2 i3 i4 i5 i6 k0 k1 q31 u31
      have q31:=(hN.st 31 Za).1
      have u31:=(hN.st 31 Za).2
      rw [bt] at q31
      have lz:=hN.rlt
      have HN:=Zh hN
      clear hN
      go_upto_region 16 with fail
      refine aY (R:=fun W=>NextW w W {S1 with pc:=nx} ⟨op,d,n,m,e,sz,imm⟩ g0 g1) (HN.out.onto (Onto_Flow.refl.set 31 _) (cr HN.out.st nx)) ?_
      intro wz hN
      clear HN q31 u31 lz
      rw [<-F1.out] at hN
      have HN:=Zh hN
      clear hN
      refine wp_region_lit ?_
      refine co (s:=T) (b:=w.heap.size) (.tmp 4) rfl rfl rfl HN.out.st ?_
      go_frame
      refine cn (s:=T) (b:=w.heap.size+1+1+1) (.tmp 8) (.tmp 68) rfl rfl ?h1xd ?h2xd ?h3xd ?h4xd
      case h1xd=>rfl
      case h3xd=>exact HN.out.res
      case h2xd=>
       generalize stV T=Z
       rfl
      generalize stV T=Z
      generalize hX:World.setCells wz (w.heap.size+1+1+1) 0 (stL T)=X
      go_wp2_with fail
      subst hX
      refine zad (v:= .tuple #[stV T,iI 0]) ?hresxd rfl ?postxd
      case hresxd=>
       refine cA (q:=0) (s:=T) ?raxd ?rbxd ?rcxd
       case raxd=>exact HN.out.res
       case rbxd=>rfl
       case rcxd=>rfl
      case postxd=>exact Gives.mk rfl (cm Za _ _ _ HN.out.below)
    ·have f2:=e2.out
     rw [if_neg zT,if_neg xH,if_neg AS] at f2
     have b30:(op==30)=false:=by simpa using zT
     rw [Bool.not_eq_true] at xH AS
     rw [xH] at ME
     rw [AS]
     go_upto_region 15 with (first
      |(go_at_call 154;refine (ME.out _).mono ?_;rintro e w9 ⟨rfl,p,rfl⟩))
     refine aY (R:=fun W=>NextW w W S1 ⟨op,d,n,m,e,sz,imm⟩ g0 g1) (by rw [f2];exact HN.out.more p) ?_
     intro wf hN
     clear HN lz i0 i1 i2 i3 i4 i5 i6 k0 k1 q31 u31
     have q31:=(hN.st 31 Za).1
     have u31:=(hN.st 31 Za).2
     rw [bt] at q31
     have lz:=hN.rlt
     have HN:=Zh hN
     clear hN
     go_upto_region 16 with fail
     refine aY (R:=fun W=>NextW w W {S1 with pc:=nx} ⟨op,d,n,m,e,sz,imm⟩ g0 g1) (HN.out.onto (Onto_Flow.refl.set 31 _) (cr HN.out.st nx)) ?_
     intro wz hN
     clear HN q31 u31 lz
     rw [<-F1.out] at hN
     have HN:=Zh hN
     clear hN
     refine wp_region_lit ?_
     refine co (s:=T) (b:=w.heap.size) (.tmp 4) rfl rfl rfl HN.out.st ?_
     go_frame
     refine cn (s:=T) (b:=w.heap.size+1+1+1) (.tmp 8) (.tmp 68) rfl rfl ?h1xc ?h2xc ?h3xc ?h4xc
     case h1xc=>rfl
     case h3xc=>exact HN.out.res
     case h2xc=>
      generalize stV T=Z
      rfl
     generalize stV T=Z
     generalize hX:World.setCells wz (w.heap.size+1+1+1) 0 (stL T)=X
     go_wp2_with fail
     subst hX
     refine zad (v:= .tuple #[stV T,iI 0]) ?hresxc rfl ?postxc
     case hresxc=>
      refine cA (q:=0) (s:=T) ?raxc ?rbxc ?rcxc
      case raxc=>exact HN.out.res
      case rbxc=>rfl
      case rcxc=>rfl
     case postxc=>exact Gives.mk rfl (cm Za _ _ _ HN.out.below)
 ·go_upto_region 7 with (first
   |(go_at_call 153;refine (SO.out _).mono ?_;rintro e w9 ⟨rfl,p,rfl⟩)
   |(go_at_call 165;refine (TK.out _ ?_).mono ?_;(repeat (first|with_reducible exact HN.out.st|with_reducible refine aW ?_ _));rintro e w9 ⟨rfl,p2,rfl⟩)
   |(go_at_call 166;refine (NU.out _ ?_).mono ?_;(repeat (first|with_reducible exact HN.out.st|with_reducible refine aW ?_ _));rintro e w9 ⟨rfl,p3,rfl⟩))
  refine aY (R:=fun W=>NextW w W s ⟨op,d,n,m,e,sz,imm⟩ g0 g1) (((HN.out.more p).more p2).more p3) ?_
  intro wy hN
  clear HN lz i0 i1 i2 i3 i4 i5 i6 k0 k1 q31 u31 SO TK NU
  have hI:=hN.ins
  unfold IAt at hI
  obtain ⟨i0,i1,i2,i3,i4,i5,i6⟩:=hI
  have hG:=hN.got
  unfold Two at hG
  obtain ⟨k0,k1⟩:=hG
  have q31:=(hN.st 31 Za).1
  have u31:=(hN.st 31 Za).2
  rw [bt] at q31
  have lz:=hN.rlt
  have HN:=Zh hN
  clear hN
  have f1:=e1.out
  simp only [zaY,if_false,if_true] at f1
  have F1:=Zh f1
  clear f1 e1
  generalize wrap64 (s.pc+imm)=nx at F1 ⊢
  by_cases zT:op=30
  ·subst zT
   have f2:=e2.out
   simp only [if_true] at f2
   have q34:=(HN.out.st 34 Za).1
   have q35:=(HN.out.st 35 Za).1
   have u34:=(HN.out.st 34 Za).2
   have u35:=(HN.out.st 35 Za).2
   go_upto_region 15 with fail
   refine aY (R:=fun W=>NextW w W S1 ⟨30,d,n,m,e,sz,imm⟩ g0 g1) (HN.out.onto ((Onto_Flow.refl.set 34 _).set 35 _) (by rw [f2];exact ei HN.out.st 0 0)) ?_
   intro wf hN
   clear q34 q35 u34 u35
   clear HN lz i0 i1 i2 i3 i4 i5 i6 k0 k1 q31 u31
   have q31:=(hN.st 31 Za).1
   have u31:=(hN.st 31 Za).2
   rw [bt] at q31
   have lz:=hN.rlt
   have HN:=Zh hN
   clear hN
   go_upto_region 16 with fail
   refine aY (R:=fun W=>NextW w W {S1 with pc:=nx} ⟨30,d,n,m,e,sz,imm⟩ g0 g1) (HN.out.onto (Onto_Flow.refl.set 31 _) (cr HN.out.st nx)) ?_
   intro wz hN
   clear HN q31 u31 lz
   rw [<-F1.out] at hN
   have HN:=Zh hN
   clear hN
   refine wp_region_lit ?_
   refine co (s:=T) (b:=w.heap.size) (.tmp 4) rfl rfl rfl HN.out.st ?_
   go_frame
   refine cn (s:=T) (b:=w.heap.size+1+1+1) (.tmp 8) (.tmp 68) rfl rfl ?h1ya ?h2ya ?h3ya ?h4ya
   case h1ya=>rfl
   case h3ya=>exact HN.out.res
   case h2ya=>
    generalize stV T=Z
    rfl
   generalize stV T=Z
   generalize hX:World.setCells wz (w.heap.size+1+1+1) 0 (stL T)=X
   go_wp2_with fail
   subst hX
   refine zad (v:= .tuple #[stV T,iI 0]) ?hresya rfl ?postya
   case hresya=>
    refine cA (q:=0) (s:=T) ?raya ?rbya ?rcya
    case raya=>exact HN.out.res
    case rbya=>rfl
    case rcya=>rfl
   case postya=>exact Gives.mk rfl (cm Za _ _ _ HN.out.below)
  ·by_cases xH:meB op=true
   ·have f2:=e2.out
    rw [if_neg zT,if_pos xH] at f2
    have b30:(op==30)=false:=by simpa using zT
    rw [xH] at ME
    go_upto_region 15 with (first
     |(go_at_call 154;refine (ME.out _).mono ?_;rintro e w9 ⟨rfl,p,rfl⟩)
     |(go_at_call 167;refine (AC.out _ ?_).mono ?_;(repeat (first|with_reducible exact HN.out.st|with_reducible refine aW ?_ _));rintro e w2 ⟨rfl,ho_w2,hs_w2⟩))
    refine aY (R:=fun W=>NextW w W S1 ⟨op,d,n,m,e,sz,imm⟩ g0 g1) ((HN.out.more p).onto ho_w2 (by rw [f2];exact hs_w2)) ?_
    intro wf hN
    clear ho_w2 hs_w2
    clear HN lz i0 i1 i2 i3 i4 i5 i6 k0 k1 q31 u31
    have q31:=(hN.st 31 Za).1
    have u31:=(hN.st 31 Za).2
    rw [bt] at q31
    have lz:=hN.rlt
    have HN:=Zh hN
    clear hN
    go_upto_region 16 with fail
    refine aY (R:=fun W=>NextW w W {S1 with pc:=nx} ⟨op,d,n,m,e,sz,imm⟩ g0 g1) (HN.out.onto (Onto_Flow.refl.set 31 _) (cr HN.out.st nx)) ?_
    intro wz hN
    clear HN q31 u31 lz
    rw [<-F1.out] at hN
    have HN:=Zh hN
    clear hN
    refine wp_region_lit ?_
    refine co (s:=T) (b:=w.heap.size) (.tmp 4) rfl rfl rfl HN.out.st ?_
    go_frame
    refine cn (s:=T) (b:=w.heap.size+1+1+1) (.tmp 8) (.tmp 68) rfl rfl ?h1yb ?h2yb ?h3yb ?h4yb
    case h1yb=>rfl
    case h3yb=>exact HN.out.res
    case h2yb=>
     generalize stV T=Z
     rfl
    generalize stV T=Z
    generalize hX:World.setCells wz (w.heap.size+1+1+1) 0 (stL T)=X
    go_wp2_with fail
    subst hX
    refine zad (v:= .tuple #[stV T,iI 0]) ?hresyb rfl ?postyb
    case hresyb=>
     refine cA (q:=0) (s:=T) ?rayb ?rbyb ?rcyb
     case rayb=>exact HN.out.res
     case rbyb=>rfl
     case rcyb=>rfl
    case postyb=>exact Gives.mk rfl (cm Za _ _ _ HN.out.below)
   ·by_cases AS:numB op=true
    ·by_cases h5:op=5
     ·subst h5
      have f2:=e2.out
      rw [if_neg zT,if_neg xH,if_pos AS,if_pos rfl] at f2
      rw [Bool.not_eq_true] at xH
      rw [xH] at ME
      rw [AS]
      have q32:=(HN.out.st 32 Za).1
      have u32:=(HN.out.st 32 Za).2
      have q33:=(HN.out.st 33 Za).1
      have u33:=(HN.out.st 33 Za).2
      go_upto_region 13 with (first
       |(go_at_call 154;refine (ME.out _).mono ?_;rintro e w9 ⟨rfl,p,rfl⟩))
      go_cut [] from 51 to 61 (fun W=>NextW w W {s with z:=x==0,c:=decide (getX s m<=getX s n)} ⟨5,d,n,m,e,sz,imm⟩ g0 g1)
      case first=>
       go_region_held3 (fun W=>W.cell? ⟨w.heap.size+1,2,none⟩=some (iI n)/\W.cell? ⟨w.heap.size+1,3,none⟩=some (iI m)) (first|(simp [go_sem,↓IntWalk.iteOmega,i2,i3];done)|(simp [go_sem,↓IntWalk.iteOmega,i2,i3];omega)) (first
        |(go_at_call 158;refine (G.out s _ Za _ ?_).mono ?_;(repeat (first|with_reducible exact HN.out.st|with_reducible refine aW ?_ _|with_reducible refine eX ?_));rintro e w9 ⟨rfl,p4,rfl⟩))
       all_goals
        go_wp2_with fail
        go_meet
        refine HN.out.onto ?_ ?_
        ·repeat (first|with_reducible exact Onto_Flow.refl|with_reducible refine Onto_Flow.more ?_ _|with_reducible refine Onto_Flow.drew ?_|with_reducible refine Onto_Flow.set ?_ _ _)
        ·repeat (first|with_reducible refine aW ?_ _|with_reducible refine eX ?_)
         exact jy (s:={s with z:=x==0}) (jx HN.out.st (x==0)) (decide (getX s m<=getX s n))
      case rest=>
       clear HN lz i0 i1 i2 i3 i4 i5 i6 k0 k1 q31 u31 q32 u32 q33 u33
       have hN:=hcut
       clear hcut
       have hI:=hN.ins
       unfold IAt at hI
       obtain ⟨i0,i1,i2,i3,i4,i5,i6⟩:=hI
       have hG:=hN.got
       unfold Two at hG
       obtain ⟨k0,k1⟩:=hG
       have q31:=(hN.st 31 Za).1
       have u31:=(hN.st 31 Za).2
       rw [bt] at q31
       have lz:=hN.rlt
       have HN:=Zh hN
       clear hN
       go_upto_region 15 with (first
        |(go_at_call 168;refine (PU.out {s with z:=x==0,c:=decide (getX s m<=getX s n)} d x.toNat x Za hd _ ?_).mono ?_;(repeat (first|with_reducible exact HN.out.st|with_reducible refine aW ?_ _));rintro e w2 ⟨rfl,ho_w2,hs_w2⟩))
       refine aY (R:=fun W=>NextW w W S1 ⟨5,d,n,m,e,sz,imm⟩ g0 g1) (HN.out.onto ho_w2 (by rw [f2];exact hs_w2)) ?_
       intro wf hN
       clear ho_w2 hs_w2
       clear HN lz i0 i1 i2 i3 i4 i5 i6 k0 k1 q31 u31
       have q31:=(hN.st 31 Za).1
       have u31:=(hN.st 31 Za).2
       rw [bt] at q31
       have lz:=hN.rlt
       have HN:=Zh hN
       clear hN
       go_upto_region 16 with fail
       refine aY (R:=fun W=>NextW w W {S1 with pc:=nx} ⟨5,d,n,m,e,sz,imm⟩ g0 g1) (HN.out.onto (Onto_Flow.refl.set 31 _) (cr HN.out.st nx)) ?_
       intro wz hN
       clear HN q31 u31 lz
       rw [<-F1.out] at hN
       have HN:=Zh hN
       clear hN
       refine wp_region_lit ?_
       refine co (s:=T) (b:=w.heap.size) (.tmp 4) rfl rfl rfl HN.out.st ?_
       go_frame
       refine cn (s:=T) (b:=w.heap.size+1+1+1) (.tmp 8) (.tmp 68) rfl rfl ?h1ye ?h2ye ?h3ye ?h4ye
       case h1ye=>rfl
       case h3ye=>exact HN.out.res
       case h2ye=>
        generalize stV T=Z
        rfl
       generalize stV T=Z
       generalize hX:World.setCells wz (w.heap.size+1+1+1) 0 (stL T)=X
       go_wp2_with fail
       subst hX
       refine zad (v:= .tuple #[stV T,iI 0]) ?hresye rfl ?postye
       case hresye=>
        refine cA (q:=0) (s:=T) ?raye ?rbye ?rcye
        case raye=>exact HN.out.res
        case rbye=>rfl
        case rcye=>rfl
       case postye=>exact Gives.mk rfl (cm Za _ _ _ HN.out.below)
     ·have f2:=e2.out
      rw [if_neg zT,if_neg xH,if_pos AS,if_neg h5] at f2
      have b30:(op==30)=false:=by simpa using zT
      have b5:(op==5)=false:=by simpa using h5
      rw [Bool.not_eq_true] at xH
      rw [xH] at ME
      rw [AS]
      go_upto_region 15 with (first
       |(go_at_call 154;refine (ME.out _).mono ?_;rintro e w9 ⟨rfl,p,rfl⟩)
       |(go_at_call 168;refine (PU.out s d x.toNat x Za hd _ ?_).mono ?_;(repeat (first|with_reducible exact HN.out.st|with_reducible refine aW ?_ _));rintro e w2 ⟨rfl,ho_w2,hs_w2⟩))
      refine aY (R:=fun W=>NextW w W S1 ⟨op,d,n,m,e,sz,imm⟩ g0 g1) ((HN.out.more p).onto ho_w2 (by rw [f2];exact hs_w2)) ?_
      intro wf hN
      clear ho_w2 hs_w2
      clear HN lz i0 i1 i2 i3 i4 i5 i6 k0 k1 q31 u31
      have q31:=(hN.st 31 Za).1
      have u31:=(hN.st 31 Za).2
      rw [bt] at q31
      have lz:=hN.rlt
      have HN:=Zh hN
      clear hN
      go_upto_region 16 with fail
      refine aY (R:=fun W=>NextW w W {S1 with pc:=nx} ⟨op,d,n,m,e,sz,imm⟩ g0 g1) (HN.out.onto (Onto_Flow.refl.set 31 _) (cr HN.out.st nx)) ?_
      intro wz hN
      clear HN q31 u31 lz
      rw [<-F1.out] at hN
      have HN:=Zh hN
      clear hN
      refine wp_region_lit ?_
      refine co (s:=T) (b:=w.heap.size) (.tmp 4) rfl rfl rfl HN.out.st ?_
      go_frame
      refine cn (s:=T) (b:=w.heap.size+1+1+1) (.tmp 8) (.tmp 68) rfl rfl ?h1yd ?h2yd ?h3yd ?h4yd
      case h1yd=>rfl
      case h3yd=>exact HN.out.res
      case h2yd=>
       generalize stV T=Z
       rfl
      generalize stV T=Z
      generalize hX:World.setCells wz (w.heap.size+1+1+1) 0 (stL T)=X
      go_wp2_with fail
      subst hX
      refine zad (v:= .tuple #[stV T,iI 0]) ?hresyd rfl ?postyd
      case hresyd=>
       refine cA (q:=0) (s:=T) ?rayd ?rbyd ?rcyd
       case rayd=>exact HN.out.res
       case rbyd=>rfl
       case rcyd=>rfl
      case postyd=>exact Gives.mk rfl (cm Za _ _ _ HN.out.below)
    ·have f2:=e2.out
     rw [if_neg zT,if_neg xH,if_neg AS] at f2
     have b30:(op==30)=false:=by simpa using zT
     rw [Bool.not_eq_true] at xH AS
     rw [xH] at ME
     rw [AS]
     go_upto_region 15 with (first
      |(go_at_call 154;refine (ME.out _).mono ?_;rintro e w9 ⟨rfl,p,rfl⟩))
     refine aY (R:=fun W=>NextW w W S1 ⟨op,d,n,m,e,sz,imm⟩ g0 g1) (by rw [f2];exact HN.out.more p) ?_
     intro wf hN
     clear HN lz i0 i1 i2 i3 i4 i5 i6 k0 k1 q31 u31
     have q31:=(hN.st 31 Za).1
     have u31:=(hN.st 31 Za).2
     rw [bt] at q31
     have lz:=hN.rlt
     have HN:=Zh hN
     clear hN
     go_upto_region 16 with fail
     refine aY (R:=fun W=>NextW w W {S1 with pc:=nx} ⟨op,d,n,m,e,sz,imm⟩ g0 g1) (HN.out.onto (Onto_Flow.refl.set 31 _) (cr HN.out.st nx)) ?_
     intro wz hN
     clear HN q31 u31 lz
     rw [<-F1.out] at hN
     have HN:=Zh hN
     clear hN
     refine wp_region_lit ?_
     refine co (s:=T) (b:=w.heap.size) (.tmp 4) rfl rfl rfl HN.out.st ?_
     go_frame
     refine cn (s:=T) (b:=w.heap.size+1+1+1) (.tmp 8) (.tmp 68) rfl rfl ?h1yc ?h2yc ?h3yc ?h4yc
     case h1yc=>rfl
     case h3yc=>exact HN.out.res
     case h2yc=>
      generalize stV T=Z
      rfl
     generalize stV T=Z
     generalize hX:World.setCells wz (w.heap.size+1+1+1) 0 (stL T)=X
     go_wp2_with fail
     subst hX
     refine zad (v:= .tuple #[stV T,iI 0]) ?hresyc rfl ?postyc
     case hresyc=>
      refine cA (q:=0) (s:=T) ?rayc ?rbyc ?rcyc
      case rayc=>exact HN.out.res
      case rbyc=>rfl
      case rcyc=>rfl
     case postyc=>exact Gives.mk rfl (cm Za _ _ _ HN.out.below)
end Go.Proofs.YtjmfoeajhiimnaaGreatDoor
