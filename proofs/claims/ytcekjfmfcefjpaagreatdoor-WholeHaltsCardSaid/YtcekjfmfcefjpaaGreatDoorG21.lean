/- Walks. No condition. -/
import Derived.Test.YtcekjfmfcefjpaaGreatDoorG20
set_option maxRecDepth 100000
set_option maxHeartbeats 0
set_option linter.all false
namespace Go.Proofs.YtcekjfmfcefjpaaGreatDoor
open Go.RowKit Go.Sort
section
variable{w0 W W' w:qW}{M:Nat}{F F1:Nat->Prop}{pv:qV}{s:ES}{o:OpD}{K:Nat}{pl:List Int}{g c:Nat}
theorem qL(hP:PlB w0 pv pl g c)(w:qW)(h:Em w0 M F pv w s)(o:OpD)(hk:o.kind=13)(hq:o.order=2)(hl:rng o.line)(hf:EFin (eStep pl o s)):qC 121 #[pP M,.agg (opC o).toArray] w (EmD w0 M F pv w (eStep pl o s) (.tuple #[])):=by
 have CS:=zCS (M:=M) hP
 have CT:=zCT (M:=M) hP
 have CK:=zCK (M:=M) hP
 have CF:=zCF (M:=M) hP
 have HP:=Zh hP
 have he:eStep pl o s=eAt o.site ⟨29,0,0,0,0,0,1⟩ {s with line:=o.line}:=by
  unfold eStep
  simp only [hk]
  simp [hq,nI]
  try rfl
 rw [he] at hf ⊢
 clear he
 have h1:=h.line o.line hl
 obtain ⟨ov,sv,lv,bv,B,i',pi,oa,oc,rfl⟩:=h.rules
 have j':=h.bd
 have Dq:=Zh (fun k (hk:F k)=>(h.inb hk).2)
 have xh:Kp F w (w.setCell ⟨M,4,none⟩ (iI o.line)):=(Kp.set w M 4 (iI o.line)).mono (fun k _ e=>by obtain ⟨_,_,_,_,_,hx⟩:=h;rw [e];exact hx.inF.1)
 refine Calls.mono ?_ (fun e W hh=>EmD.pre xh (aY _ _ _) hh)
 have hsz:=aY w ⟨M,4,none⟩ (iI o.line)
 have HB:=Zh (EmB.begin2 h1 o hsz)
 have Bq: ∀j:Int,(o.kind==j)=((13:Int)==j):=fun j=>by rw [hk]
 have zH: ∀j:Int,decide (o.kind=j)=decide ((13:Int)=j):=fun j=>by rw [hk]
 have As:=Zh hk
 have zF:(o.order==2)=true:=by simpa using hq
 have zQ:decide (o.order=2)=true:=by simpa using hq
 clear hq
 generalize {s with line:=o.line}=s1 at*
 clear h hP hk xh
 unfold opC
 go_enter Tryz.func121,Tryz.ntmps121
 go_wp2_with fail
 generalize w.setCell ⟨M,4,none⟩ (iI o.line)=wl at*
 rw [<-hsz] at HB ⊢
 clear i' pi j' hsz
 obtain ⟨ov,sv,lv,bv,B,i',pi,oa,oc,rfl⟩:=h1.rules
 have j':=h1.bd
 (go_at_call 172;refine (cV _ (Zm:EmB _ _ _ _ wl _ _ _ _ _).a.em o.site ⟨29,0,0,0,0,0,1⟩ hf).mono ?_;intro e w1 hD;have hN:=EmB.nx hD Zm;clear hD HB;(try clear i' pi j');obtain ⟨rfl,F2,sv,lv,bv,B,oa,oc,i',pi,j',HB⟩:=hN)
 go_wp2_with fail
 go_end0
 exact ZS
theorem qN(hP:PlB w0 pv pl g c)(w:qW)(h:Em w0 M F pv w s)(o:OpD)(hk:o.kind=13)(hq:o.order≠2)(hl:rng o.line)(hf:EFin (eStep pl o s)):qC 121 #[pP M,.agg (opC o).toArray] w (EmD w0 M F pv w (eStep pl o s) (.tuple #[])):=by
 have CS:=zCS (M:=M) hP
 have CT:=zCT (M:=M) hP
 have CK:=zCK (M:=M) hP
 have CF:=zCF (M:=M) hP
 have HP:=Zh hP
 have he:eStep pl o s=eAt o.site ⟨29,0,0,0,0,0,0⟩ {s with line:=o.line}:=by
  unfold eStep
  simp only [hk]
  simp [hq,nI]
  try rfl
 rw [he] at hf ⊢
 clear he
 have h1:=h.line o.line hl
 obtain ⟨ov,sv,lv,bv,B,i',pi,oa,oc,rfl⟩:=h.rules
 have j':=h.bd
 have Dq:=Zh (fun k (hk:F k)=>(h.inb hk).2)
 have xh:Kp F w (w.setCell ⟨M,4,none⟩ (iI o.line)):=(Kp.set w M 4 (iI o.line)).mono (fun k _ e=>by obtain ⟨_,_,_,_,_,hx⟩:=h;rw [e];exact hx.inF.1)
 refine Calls.mono ?_ (fun e W hh=>EmD.pre xh (aY _ _ _) hh)
 have hsz:=aY w ⟨M,4,none⟩ (iI o.line)
 have HB:=Zh (EmB.begin2 h1 o hsz)
 have Bq: ∀j:Int,(o.kind==j)=((13:Int)==j):=fun j=>by rw [hk]
 have zH: ∀j:Int,decide (o.kind=j)=decide ((13:Int)=j):=fun j=>by rw [hk]
 have As:=Zh hk
 have zF:(o.order==2)=false:=by simpa using hq
 have zQ:decide (o.order=2)=false:=by simpa using hq
 clear hq
 generalize {s with line:=o.line}=s1 at*
 clear h hP hk xh
 unfold opC
 go_enter Tryz.func121,Tryz.ntmps121
 go_wp2_with fail
 generalize w.setCell ⟨M,4,none⟩ (iI o.line)=wl at*
 rw [<-hsz] at HB ⊢
 clear i' pi j' hsz
 obtain ⟨ov,sv,lv,bv,B,i',pi,oa,oc,rfl⟩:=h1.rules
 have j':=h1.bd
 (go_at_call 172;refine (cV _ (Zm:EmB _ _ _ _ wl _ _ _ _ _).a.em o.site ⟨29,0,0,0,0,0,0⟩ hf).mono ?_;intro e w1 hD;have hN:=EmB.nx hD Zm;clear hD HB;(try clear i' pi j');obtain ⟨rfl,F2,sv,lv,bv,B,oa,oc,i',pi,j',HB⟩:=hN)
 go_wp2_with fail
 go_end0
 exact ZS
theorem qJ(hP:PlB w0 pv pl g c)(w:qW)(h:Em w0 M F pv w s)(o:OpD)(hk:o.kind=15) (hl:rng o.line)(hf:EFin (eStep pl o s)):qC 121 #[pP M,.agg (opC o).toArray] w (EmD w0 M F pv w (eStep pl o s) (.tuple #[])):=by
 have CS:=zCS (M:=M) hP
 have CT:=zCT (M:=M) hP
 have CK:=zCK (M:=M) hP
 have CF:=zCF (M:=M) hP
 have HP:=Zh hP
 have he:eStep pl o s=eJump pl o {s with line:=o.line}:=by
  unfold eStep
  simp only [hk]
  simp
  try rfl
 rw [he] at hf ⊢
 clear he
 have h1:=h.line o.line hl
 obtain ⟨ov,sv,lv,bv,B,i',pi,oa,oc,rfl⟩:=h.rules
 have j':=h.bd
 have Dq:=Zh (fun k (hk:F k)=>(h.inb hk).2)
 have xh:Kp F w (w.setCell ⟨M,4,none⟩ (iI o.line)):=(Kp.set w M 4 (iI o.line)).mono (fun k _ e=>by obtain ⟨_,_,_,_,_,hx⟩:=h;rw [e];exact hx.inF.1)
 refine Calls.mono ?_ (fun e W hh=>EmD.pre xh (aY _ _ _) hh)
 have hsz:=aY w ⟨M,4,none⟩ (iI o.line)
 have HB:=Zh (EmB.begin2 h1 o hsz)
 have Bq: ∀j:Int,(o.kind==j)=((15:Int)==j):=fun j=>by rw [hk]
 have zH: ∀j:Int,decide (o.kind=j)=decide ((15:Int)=j):=fun j=>by rw [hk]
 have As:=Zh hk
 generalize {s with line:=o.line}=s1 at*
 clear h hP hk xh
 unfold opC
 go_enter Tryz.func121,Tryz.ntmps121
 go_wp2_with fail
 generalize w.setCell ⟨M,4,none⟩ (iI o.line)=wl at*
 rw [<-hsz] at HB ⊢
 clear i' pi j' hsz
 obtain ⟨ov,sv,lv,bv,B,i',pi,oa,oc,rfl⟩:=h1.rules
 have j':=h1.bd
 (go_at_call 173;refine (yaW HP.out _ (Zm:EmB _ _ _ _ wl _ _ _ _ _).a.em o As.out hf).mono ?_;intro e w1 hD;have hN:=EmB.nx hD Zm;clear hD HB;(try clear i' pi j');obtain ⟨rfl,F2,sv,lv,bv,B,oa,oc,i',pi,j',HB⟩:=hN)
 go_wp2_with fail
 go_end0
 exact ZS
theorem qI(hP:PlB w0 pv pl g c)(w:qW)(h:Em w0 M F pv w s)(o:OpD)(hk:o.kind=16)(ha:plR pl o.a)(hl:rng o.line)(hf:EFin (eStep pl o s)):qC 121 #[pP M,.agg (opC o).toArray] w (EmD w0 M F pv w (eStep pl o s) (.tuple #[])):=by
 have CS:=zCS (M:=M) hP
 have CT:=zCT (M:=M) hP
 have CK:=zCK (M:=M) hP
 have CF:=zCF (M:=M) hP
 have HP:=Zh hP
 have he:eStep pl o s=eJump pl o {s with line:=o.line}:=by
  unfold eStep
  simp only [hk]
  simp
  try rfl
 rw [he] at hf ⊢
 clear he
 have h1:=h.line o.line hl
 obtain ⟨ov,sv,lv,bv,B,i',pi,oa,oc,rfl⟩:=h.rules
 have j':=h.bd
 have Dq:=Zh (fun k (hk:F k)=>(h.inb hk).2)
 have xh:Kp F w (w.setCell ⟨M,4,none⟩ (iI o.line)):=(Kp.set w M 4 (iI o.line)).mono (fun k _ e=>by obtain ⟨_,_,_,_,_,hx⟩:=h;rw [e];exact hx.inF.1)
 refine Calls.mono ?_ (fun e W hh=>EmD.pre xh (aY _ _ _) hh)
 have hsz:=aY w ⟨M,4,none⟩ (iI o.line)
 have HB:=Zh (EmB.begin2 h1 o hsz)
 have Bq: ∀j:Int,(o.kind==j)=((16:Int)==j):=fun j=>by rw [hk]
 have zH: ∀j:Int,decide (o.kind=j)=decide ((16:Int)=j):=fun j=>by rw [hk]
 have As:=Zh hk
 generalize {s with line:=o.line}=s1 at*
 clear h hP hk xh
 unfold opC
 go_enter Tryz.func121,Tryz.ntmps121
 go_wp2_with fail
 generalize w.setCell ⟨M,4,none⟩ (iI o.line)=wl at*
 rw [<-hsz] at HB ⊢
 clear i' pi j' hsz
 obtain ⟨ov,sv,lv,bv,B,i',pi,oa,oc,rfl⟩:=h1.rules
 have j':=h1.bd
 (go_at_call 173;refine (yaV HP.out _ (Zm:EmB _ _ _ _ wl _ _ _ _ _).a.em o ha As.out hf).mono ?_;intro e w1 hD;have hN:=EmB.nx hD Zm;clear hD HB;(try clear i' pi j');obtain ⟨rfl,F2,sv,lv,bv,B,oa,oc,i',pi,j',HB⟩:=hN)
 go_wp2_with fail
 go_end0
 exact ZS
end
section
variable{w0 W W' w:qW}{M:Nat}{F F1:Nat->Prop}{pv:qV}{s:ES}{o:OpD}{K:Nat}{pl:List Int}{g c:Nat}
theorem qK(hP:PlB w0 pv pl g c)(w:qW)(h:Em w0 M F pv w s)(o:OpD)(hk:o.kind=14)(zz:rng o.to)(hl:rng o.line)(hf:EFin (eStep pl o s)):qC 121 #[pP M,.agg (opC o).toArray] w (EmD w0 M F pv w (eStep pl o s) (.tuple #[])):=by
 have CS:=zCS (M:=M) hP
 have CT:=zCT (M:=M) hP
 have CK:=zCK (M:=M) hP
 have CF:=zCF (M:=M) hP
 have HP:=Zh hP
 have he:eStep pl o s={{s with line:=o.line} with labels:=(o.to,({s with line:=o.line}.out.length:Int))::{s with line:=o.line}.labels}:=by
  unfold eStep
  simp only [hk]
  simp
  try rfl
 rw [he] at hf ⊢
 clear he
 have h1:=h.line o.line hl
 obtain ⟨ov,sv,lv,bv,B,i',pi,oa,oc,rfl⟩:=h.rules
 have j':=h.bd
 have Dq:=Zh (fun k (hk:F k)=>(h.inb hk).2)
 have xh:Kp F w (w.setCell ⟨M,4,none⟩ (iI o.line)):=(Kp.set w M 4 (iI o.line)).mono (fun k _ e=>by obtain ⟨_,_,_,_,_,hx⟩:=h;rw [e];exact hx.inF.1)
 refine Calls.mono ?_ (fun e W hh=>EmD.pre xh (aY _ _ _) hh)
 have hsz:=aY w ⟨M,4,none⟩ (iI o.line)
 have HB:=Zh (EmB.begin2 h1 o hsz)
 have Bq: ∀j:Int,(o.kind==j)=((14:Int)==j):=fun j=>by rw [hk]
 have zH: ∀j:Int,decide (o.kind=j)=decide ((14:Int)=j):=fun j=>by rw [hk]
 have As:=Zh hk
 generalize {s with line:=o.line}=s1 at*
 clear h hP hk xh
 unfold opC
 go_enter Tryz.func121,Tryz.ntmps121
 go_wp2_with fail
 generalize w.setCell ⟨M,4,none⟩ (iI o.line)=wl at*
 rw [<-hsz] at HB ⊢
 clear i' pi j' hsz
 obtain ⟨ov,sv,lv,bv,B,i',pi,oa,oc,rfl⟩:=h1.rules
 have j':=h1.bd
 have Bt:=hf.out
 have Bb:=hf.labels
 simp only [za2] at Bt Bb
 obtain ⟨Nk,Nj⟩:=zz
 refine aT (R:=fun W=>EmB w0 M F pv wl W F s1 o wl.heap.size/\Kp (fun _=>False) wl W) ⟨HB.out,Kp.al _ _⟩ ?_
 clear i' pi j' HB
 rintro W ⟨hM,y7⟩
 obtain ⟨ov,sv,lv,bv,B,hx⟩:=hM.a.em
 obtain ⟨oa,oc,rfl, -⟩:=az (hx.ob.own ⟨1,85,7,s1.out.length,s1.out.flatMap insC⟩ (by simp [emR]))
 have q1: ∀j,W.cell? (aB M j)=(#[pv,.slice oa s1.out.length oc,sv,lv,iI s1.line,.map (some B),bv,iI s1.e]:Array qV)[j]?:=aa hx.ob.out
 have qk: ∀i,W.cell? (aB wl.heap.size i)=(#[iI o.kind,iI o.dst,iI o.dst2,iI o.a,iI o.b,iI o.c,.int .u64 o.n,iI o.op,iI o.size,iI o.order,iI o.to,iI o.site,iI o.line]:Array qV)[i]?:=aa hM.box
 have j':=hx.bd
 have xW:=ac hM.box
 have hBK:B≠wl.heap.size:=fun e=>hM.no (e ▸ hx.inF.2)
 have HW:=Zh hx
 have yI:=Zh y7
 clear hx hM y7
 have hA:(∀i,W.drew.cell? (aB wl.heap.size i)=(#[iI o.kind,iI o.dst,iI o.dst2,iI o.a,iI o.b,iI o.c,.int .u64 o.n,iI o.op,iI o.size,iI o.order,iI o.to,iI o.site,iI o.line]:Array qV)[i]?)/\W.drew.cell? (aB M 1)=some (.slice oa s1.out.length oc)/\W.drew.cell? (aB M 5)=some (.map (some B)):=⟨qk,q1 1,q1 5⟩
 refine ae (fun W=>(∀i,W.cell? (aB wl.heap.size i)=(#[iI o.kind,iI o.dst,iI o.dst2,iI o.a,iI o.b,iI o.c,.int .u64 o.n,iI o.op,iI o.size,iI o.order,iI o.to,iI o.site,iI o.line]:Array qV)[i]?)/\W.cell? (aB M 1)=some (.slice oa s1.out.length oc)/\W.cell? (aB M 5)=some (.map (some B))) (fun W=>True) 11 rfl ?_
 have hB:True:=trivial
 refine Zp 0 rfl (h:=Zp 1 rfl (h:=Zp 2 rfl (h:=Zt 3 rfl (h:=Zp 4 rfl (h:=Zt 5 rfl (h:=Zp 6 rfl (h:=Zp 7 rfl (h:=Zp 8 rfl (h:=Zt 9 rfl (h:=Zp 10 rfl (h:=?_)))))))))));try simp only [Zq]
 refine Zs 11 rfl fun K hK=>?_
 refine qy rfl _ _ _ rfl B s1.labels.length (eLook s1.labels) rfl (HW.out.map.keep (show W.drew.heap[B]?=W.heap[B]? from rfl)) (by unfold maxLen;omega) o.to rfl (by simp [Lit.wf,IntKind.min,IntKind.max,IntKind.signed,IntKind.bits];omega) (s1.out.length:Int) rfl (by simp [Lit.wf,IntKind.min,IntKind.max,IntKind.signed,IntKind.bits];omega) ?_
 intro W2 DY wW
 obtain ⟨hE,GW⟩:=HW.out.label (Kp.dr W) DY wW hf
 refine hK _ _ ⟨⟨fun i=>(GW.cell xW (fun e=>hBK e.symm)).trans (qk i),(GW.cell j'.2.1 Za).trans (q1 1),(GW.cell j'.2.1 Za).trans (q1 5)⟩,fun _=>trivial⟩ ?_
 refine af Zb ?_ _
 have HE:=Zh hE
 have Ht:=Zh GW
 clear hE GW DY wW hK K hA qk q1
 go_wp2_with fail
 go_end0
 refine ⟨rfl,F,⟨_,_,_,_,_,HE.out⟩,(yI.out.mono (fun _ _ e=>e.elim)).trans (Ht.out.mono (fun i _ e=>e ▸ HW.out.inF.2)),Rq.refl _ _⟩
end
def plB(pl:List Int)(r:Int):Bool:=decide (0<=r)&&decide (r.toNat<pl.length)&&decide (0<=pl.getD r.toNat 0)&&decide (pl.getD r.toNat 0<=100)
theorem aQ{pl:List Int}{r:Int}(h:plB pl r=true):plR pl r:=by
 simp only [plB,za0,zau] at h
 exact ⟨h.1.1.1,h.1.1.2,h.1.2,h.2⟩
def rngB(x:Int):Bool:=decide (-9223372036854775808<=x)&&decide (x<=9223372036854775807)
theorem bT{x:Int}(h:rngB x=true):rng x:=by
 simp only [rngB,za0,zau] at h
 exact h
def szB(n:Int):Bool:=decide (n=1)||decide (n=2)||decide (n=4)||decide (n=8)||decide (n=16)
theorem jj{n:Int}(h:szB n=true):n=1\/n=2\/n=4\/n=8\/n=16:=by
 simp only [szB,zak,zau] at h
 omega
def opK(pl:List Int)(o:OpD):Bool:=
 if o.kind=1 then plB pl o.dst else
 if o.kind=2 then plB pl o.a&&plB pl o.dst else
 if o.kind=3 then plB pl o.a&&plB pl o.b&&plB pl o.dst else
 if o.kind=5 then plB pl o.a&&plB pl o.b&&szB o.size else
 if o.kind=9 then plB pl o.a&&plB pl o.b&&plB pl o.dst&&szB o.size else
 if o.kind=13 then true else
 if o.kind=14 then true else
 if o.kind=15 then true else
 if o.kind=16 then plB pl o.a else
 false
def opOk(pl:List Int)(o:OpD):Bool:=rngB o.line&&rngB o.to&&decide (o.n<18446744073709551616)&&opK pl o
section
variable{w0 W W' w:qW}{M:Nat}{F F1:Nat->Prop}{pv:qV}{s:ES}{o:OpD}{K:Nat}{pl:List Int}{g c:Nat}
theorem qz(hP:PlB w0 pv pl g c)(w:qW)(h:Em w0 M F pv w s)(o:OpD)(xo:opOk pl o=true)(hf:EFin (eStep pl o s)):qC 121 #[pP M,.agg (opC o).toArray] w (EmD w0 M F pv w (eStep pl o s) (.tuple #[])):=by
 simp only [opOk,za0,zau] at xo
 obtain ⟨⟨⟨hl,ht⟩,hn⟩,hk⟩:=xo
 replace hl:=bT hl
 replace ht:=bT ht
 unfold opK at hk
 by_cases yd:o.kind=1
 ·rw [if_pos yd] at hk
  have r0:=hk
  exact qH hP w h o yd (aQ r0) hn hl hf
 rw [if_neg yd] at hk
 by_cases wT:o.kind=2
 ·rw [if_pos wT] at hk
  simp only [za0] at hk
  obtain ⟨r0,r1⟩:=hk
  exact qG hP w h o wT (aQ r0) (aQ r1) hl hf
 rw [if_neg wT] at hk
 by_cases xT:o.kind=3
 ·rw [if_pos xT] at hk
  simp only [za0] at hk
  obtain ⟨⟨r0,r1⟩,r2⟩:=hk
  exact qF hP w h o xT (aQ r0) (aQ r1) (aQ r2) hl hf
 rw [if_neg xT] at hk
 by_cases AQ:o.kind=5
 ·rw [if_pos AQ] at hk
  simp only [za0] at hk
  obtain ⟨⟨r0,r1⟩,r2⟩:=hk
  exact qE hP w h o AQ (aQ r0) (aQ r1) hn (jj r2) hl hf
 rw [if_neg AQ] at hk
 by_cases A9:o.kind=9
 ·rw [if_pos A9] at hk
  simp only [za0] at hk
  obtain ⟨⟨⟨r0,r1⟩,r2⟩,r3⟩:=hk
  exact qD hP w h o A9 (aQ r0) (aQ r1) (aQ r2) (jj r3) hl hf
 rw [if_neg A9] at hk
 by_cases DX:o.kind=13
 ·rw [if_pos DX] at hk
  by_cases hq:o.order=2
  ·exact qL hP w h o DX hq hl hf
  ·exact qN hP w h o DX hq hl hf
 rw [if_neg DX] at hk
 by_cases CH:o.kind=14
 ·rw [if_pos CH] at hk
  exact qK hP w h o CH ht hl hf
 rw [if_neg CH] at hk
 by_cases Ey:o.kind=15
 ·rw [if_pos Ey] at hk
  exact qJ hP w h o Ey hl hf
 rw [if_neg Ey] at hk
 by_cases z9:o.kind=16
 ·rw [if_pos z9] at hk
  have r0:=hk
  exact qI hP w h o z9 (aQ r0) hl hf
 rw [if_neg z9] at hk
 cases hk
theorem ELe.brs_(s:ES)(b:Int×Int):ELe s {s with brs:=s.brs++[b]}:=⟨zaq _,zaq _,zaq _,zaq _,by simp,rfl,rfl⟩
theorem ELe.labels_(s:ES)(b:Int×Int):ELe s {s with labels:=b::s.labels}:=⟨zaq _,zaq _,zaq _,by simp,zaq _,rfl,rfl⟩
theorem ELe.step(xo:opOk pl o=true)(s:ES):ELe {s with line:=o.line} (eStep pl o s):=by
 simp only [opOk,za0,zau] at xo
 obtain ⟨⟨⟨hl,ht⟩,hn⟩,hk⟩:=xo
 clear hl ht hn
 unfold opK at hk
 unfold eStep
 generalize {s with line:=o.line}=s1
 simp only []
 by_cases yd:o.kind=1
 ·rw [if_pos yd] at hk
  have r0:=hk
  simp only [yd,Int.reduceEq,if_true,if_false,or_self,or_true,true_or,or_false,false_or,reduceIte,false_and,true_and,eE (aQ r0),eF (aQ r0)]
  (repeat (first|exact ELe.refl _|(refine ELe.trans ?_ (ELe.add _ _))|(refine ELe.trans ?_ (ELe.at_ _ _ _))|(refine ELe.trans ?_ (ELe.cst _ _ _))|(refine ELe.trans ?_ (ELe.brs_ _ _))|(refine ELe.trans ?_ (ELe.labels_ _ _))|split))
 rw [if_neg yd] at hk
 by_cases wT:o.kind=2
 ·rw [if_pos wT] at hk
  simp only [za0] at hk
  obtain ⟨r0,r1⟩:=hk
  simp only [wT,Int.reduceEq,if_true,if_false,or_self,or_true,true_or,or_false,false_or,reduceIte,false_and,true_and,bn (aQ r0),fA (aQ r1),eMove]
  (repeat (first|exact ELe.refl _|(refine ELe.trans ?_ (ELe.add _ _))|(refine ELe.trans ?_ (ELe.at_ _ _ _))|(refine ELe.trans ?_ (ELe.cst _ _ _))|(refine ELe.trans ?_ (ELe.brs_ _ _))|(refine ELe.trans ?_ (ELe.labels_ _ _))|split))
 rw [if_neg wT] at hk
 by_cases xT:o.kind=3
 ·rw [if_pos xT] at hk
  simp only [za0] at hk
  obtain ⟨⟨r0,r1⟩,r2⟩:=hk
  simp only [xT,Int.reduceEq,if_true,if_false,or_self,or_true,true_or,or_false,false_or,reduceIte,false_and,true_and,eBin,bn (aQ r0),bn (aQ r1),eE (aQ r2),eF (aQ r2)]
  (repeat (first|exact ELe.refl _|(refine ELe.trans ?_ (ELe.add _ _))|(refine ELe.trans ?_ (ELe.at_ _ _ _))|(refine ELe.trans ?_ (ELe.cst _ _ _))|(refine ELe.trans ?_ (ELe.brs_ _ _))|(refine ELe.trans ?_ (ELe.labels_ _ _))|split))
 rw [if_neg xT] at hk
 by_cases AQ:o.kind=5
 ·rw [if_pos AQ] at hk
  simp only [za0] at hk
  obtain ⟨⟨r0,r1⟩,r2⟩:=hk
  simp only [AQ,Int.reduceEq,if_true,if_false,or_self,or_true,true_or,or_false,false_or,reduceIte,false_and,true_and,eStore,eAddr,bn (aQ r0),bn (aQ r1)]
  (repeat (first|exact ELe.refl _|(refine ELe.trans ?_ (ELe.add _ _))|(refine ELe.trans ?_ (ELe.at_ _ _ _))|(refine ELe.trans ?_ (ELe.cst _ _ _))|(refine ELe.trans ?_ (ELe.brs_ _ _))|(refine ELe.trans ?_ (ELe.labels_ _ _))|split))
 rw [if_neg AQ] at hk
 by_cases A9:o.kind=9
 ·rw [if_pos A9] at hk
  simp only [za0] at hk
  obtain ⟨⟨⟨r0,r1⟩,r2⟩,r3⟩:=hk
  simp only [A9,Int.reduceEq,if_true,if_false,or_self,or_true,true_or,or_false,false_or,reduceIte,false_and,true_and,eChange,bn (aQ r0),bn (aQ r1),fA (aQ r2),eMove,eBack]
  (repeat (first|exact ELe.refl _|(refine ELe.trans ?_ (ELe.add _ _))|(refine ELe.trans ?_ (ELe.at_ _ _ _))|(refine ELe.trans ?_ (ELe.cst _ _ _))|(refine ELe.trans ?_ (ELe.brs_ _ _))|(refine ELe.trans ?_ (ELe.labels_ _ _))|split))
 rw [if_neg A9] at hk
 by_cases DX:o.kind=13
 ·rw [if_pos DX] at hk
  simp only [DX,Int.reduceEq,if_true,if_false,or_self,or_true,true_or,or_false,false_or,reduceIte,false_and,true_and]
  (repeat (first|exact ELe.refl _|(refine ELe.trans ?_ (ELe.add _ _))|(refine ELe.trans ?_ (ELe.at_ _ _ _))|(refine ELe.trans ?_ (ELe.cst _ _ _))|(refine ELe.trans ?_ (ELe.brs_ _ _))|(refine ELe.trans ?_ (ELe.labels_ _ _))|split))
 rw [if_neg DX] at hk
 by_cases CH:o.kind=14
 ·rw [if_pos CH] at hk
  simp only [CH,Int.reduceEq,if_true,if_false,or_self,or_true,true_or,or_false,false_or,reduceIte,false_and,true_and]
  (repeat (first|exact ELe.refl _|(refine ELe.trans ?_ (ELe.add _ _))|(refine ELe.trans ?_ (ELe.at_ _ _ _))|(refine ELe.trans ?_ (ELe.cst _ _ _))|(refine ELe.trans ?_ (ELe.brs_ _ _))|(refine ELe.trans ?_ (ELe.labels_ _ _))|split))
 rw [if_neg CH] at hk
 by_cases Ey:o.kind=15
 ·rw [if_pos Ey] at hk
  simp only [Ey,Int.reduceEq,if_true,if_false,or_self,or_true,true_or,or_false,false_or,reduceIte,false_and,true_and,eJump]
  (repeat (first|exact ELe.refl _|(refine ELe.trans ?_ (ELe.add _ _))|(refine ELe.trans ?_ (ELe.at_ _ _ _))|(refine ELe.trans ?_ (ELe.cst _ _ _))|(refine ELe.trans ?_ (ELe.brs_ _ _))|(refine ELe.trans ?_ (ELe.labels_ _ _))|split))
 rw [if_neg Ey] at hk
 by_cases z9:o.kind=16
 ·rw [if_pos z9] at hk
  have r0:=hk
  simp only [z9,Int.reduceEq,if_true,if_false,or_self,or_true,true_or,or_false,false_or,reduceIte,false_and,true_and,eJump,bn (aQ r0)]
  (repeat (first|exact ELe.refl _|(refine ELe.trans ?_ (ELe.add _ _))|(refine ELe.trans ?_ (ELe.at_ _ _ _))|(refine ELe.trans ?_ (ELe.cst _ _ _))|(refine ELe.trans ?_ (ELe.brs_ _ _))|(refine ELe.trans ?_ (ELe.labels_ _ _))|split))
 rw [if_neg z9] at hk
 cases hk
end
theorem bE{w:qW}{B s n c g:Nat}{e:TypeId}{xs:List qV}(h:w.ownsRow B e s (.slice (aA g) n c) n xs)(i:Nat)(hi:i<n*s)(u:qV):(w.setCell ⟨g,i,none⟩ u).ownsRow B e s (.slice (aA g) n c) n (xs.set i u):=by
 refine ⟨by rw [List.length_set];exact h.1,?_⟩
 rcases h.2 with ⟨e1, -⟩|⟨g1,cap,cur,e1,h2,h3,h4,h5,h6,h7⟩
 ·cases e1
 ·right
  injection e1 with e1 e3 e4
  obtain rfl:g=g1:=by simpa using e1
  subst e4
  refine ⟨g,c,cur.setIfInBounds i u,rfl,h2,aJ h3 u,h4,h5,by rw [Array.size_setIfInBounds];exact h6,?_⟩
  rw [<-h7,Array.toList_setIfInBounds,List.take_set]
theorem ydp(w:qW)(pv:qV)(F:Nat->Prop)(hF: ∀k,F k↔k=w.heap.size+1\/k=w.heap.size):Em w (w.heap.size+1) F pv ((w.alloc (.map #[] 0)).alloc (.cells #[pv,.slice none 0 0,.slice none 0 0,.slice none 0 0,iI 0,.map (some w.heap.size),.slice none 0 0,iI 0] 263)) ⟨[],[],[],0,[],[],0⟩:=by
 have hown: ∀(W:qW) e sz,W.ownsRow (w.heap.size+1+1) e sz (.slice none 0 0) 0 []:=fun W e sz=>zaX _ _ _ _
 refine ⟨.slice none 0 0,.slice none 0 0,.slice none 0 0,.slice none 0 0,w.heap.size,⟨⟨aI ZG,?_,?_,?_⟩,?_,⟨by omega,zaq _⟩,?_,?_,?_,by omega,⟨by simp,by simp,by simp,by simp,by simp,rfl,⟨show (-9223372036854775808:Int)<=0 by decide,show (0:Int)<=9223372036854775807 by decide⟩⟩⟩⟩
 ·intro r hr
  simp only [emR,zaM,zaN,or_false] at hr
  rcases hr with rfl|rfl|rfl|rfl<;>exact hown _ _ _
 ·simp [emR]
 ·intro r hr q hq hne k hk
  simp only [emR,zaM,zaN,or_false] at hr
  rcases hr with rfl|rfl|rfl|rfl<;>cases hk
 ·exact (l9 w).below (ab (zaa _ _) _)
 ·intro r hr e
  simp only [emR,zaM,zaN,or_false] at hr
  rcases hr with rfl|rfl|rfl|rfl<;>cases e
 ·intro k
  rw [hF]
  unfold foot
  constructor
  ·rintro (rfl|rfl)
   ·exact .inl (.inl rfl)
   ·exact .inr rfl
  ·rintro ((rfl|⟨r,hr,hk⟩)|rfl)
   ·exact .inl rfl
   ·simp only [emR,zaM,zaN,or_false] at hr
    rcases hr with rfl|rfl|rfl|rfl<;>cases hk
   ·exact .inr rfl
 ·exact ab (ab (zaa _ _) _) _
theorem ydu(L:List (Int×Int)): ∀(l:List (Int×Int)) (out:List Ins) (e:Int),(ePatch L l out e).2=0->e=0/\ ∀b∈l,(eLook L b.2).isSome=true:=by
 intro l
 induction l with
 |nil=>exact fun out e h=>⟨h,fun b hb=>by cases hb⟩
 |cons b l ih=>
  intro out e h
  have h1:=ih _ _ h
  by_cases hs:(eLook L b.2).isSome=true
  ·rw [if_pos hs] at h1
   exact ⟨h1.1,fun x hx=>(List.mem_cons.1 hx).elim (fun e=>e ▸ hs) (h1.2 x)⟩
  ·rw [if_neg hs] at h1
   exact absurd h1.1 Zg
def ePat(L:List (Int×Int))(out:List Ins)(b:Int×Int):List Ins:=out.set b.1.toNat {out.getD b.1.toNat (nI 0) with imm:=(eLook L b.2).getD 0-b.1}
theorem ydv(L:List (Int×Int)): ∀(l:List (Int×Int)) (out:List Ins) (e:Int),(ePatch L l out e).1=l.foldl (ePat L) out:=by
 intro l
 induction l with
 |nil=>exact fun _ _=>rfl
 |cons b l ih=>exact fun out e=>ih _ _
theorem nd(L:List (Int×Int))(out:List Ins)(b:Int×Int):(ePat L out b).length=out.length:=by simp [ePat]
theorem ydt(L:List (Int×Int))(l:List (Int×Int))(out:List Ins):(l.foldl (ePat L) out).length=out.length:=by
 induction l generalizing out with
 |nil=>rfl
 |cons b l ih=>exact (ih _).trans (nd _ _ _)
theorem ydw{L:List (Int×Int)}{k v:Int}(h:eLook L k=some v):(k,v)∈L:=by
 unfold eLook at h
 rw [za1] at h
 obtain ⟨x,hx,rfl⟩:=h
 have:=List.find?_some hx
 simp only [zau] at this
 exact this ▸ List.mem_of_find?_eq_some hx
theorem dl{α β:Type}{f:α->List β}{z:Nat}(hz: ∀x,(f x).length=z)(d:α): ∀(l:List α) (j k:Nat) (x:α) (u:β),j<l.length->k<z->(f x)=(f (l.getD j d)).set k u->(l.set j x).flatMap f=(l.flatMap f).set (j*z+k) u:=by
 intro l
 induction l with
 |nil=>intro j k x u h;simp at h
 |cons y l ih=>
  intro j k x u hj hk hx
  cases j with
  |zero=>
   simp only [List.set_cons_zero,zaf,List.getD_cons_zero,Nat.zero_mul,zag] at hx ⊢
   rw [hx,List.set_append_left _ _ (by rw [hz];omega)]
  |succ j=>
   simp only [List.set_cons_succ,zaf,List.getD_cons_succ,za2] at hx hj ⊢
   rw [ih j k x u Za hk hx,List.set_append_right _ _ (by rw [hz,Nat.add_mul];omega),hz,show (j+1)*z+k-z=j*z+k by rw [Nat.add_mul];omega]
def eFine(s:ES):Bool:=decide (s.out.length<=100000)&&decide (s.sites.length<=100000)&&decide (s.lines.length<=100000)&&decide (s.labels.length<=20000)&&decide (s.brs.length<=20000)&&decide (s.e=0)&&
 s.brs.all (fun b=>decide (0<=b.1)&&decide (b.1.toNat<s.out.length)&&rngB b.2)&&s.labels.all (fun q=>decide (0<=q.2)&&decide (q.2<=300000))
def eAll(ops:List OpD)(pl:List Int)(priv:Nat):ES:=ops.foldl (fun s o=>eStep pl o s) (eCst 28 priv ⟨[],[],[],0,[],[],0⟩)
def eOk(ops:List OpD)(pl:List Int)(priv:Nat):Bool:=ops.all (opOk pl)&&eFine (eAdd (nI 31) (eAll ops pl priv))
structure ELn(s s':ES):Prop where
 out:s.out.length<=s'.out.length
 sites:s.sites.length<=s'.sites.length
 lines:s.lines.length<=s'.lines.length
 labels:s.labels.length<=s'.labels.length
 brs:s.brs.length<=s'.brs.length
 e:s.e=s'.e
theorem ELe.n{s s':ES}(h:ELe s s'):ELn s s':=⟨h.out,h.sites,h.lines,h.labels,h.brs,h.e⟩
theorem ELn.refl(s:ES):ELn s s:=(ELe.refl s).n
theorem ELn.trans{a b c:ES}(h:ELn a b)(k:ELn b c):ELn a c:=
 ⟨zal h.out k.out,zal h.sites k.sites,zal h.lines k.lines,zal h.labels k.labels,zal h.brs k.brs,h.e.trans k.e⟩
theorem ELn.step{pl:List Int}{o:OpD}(xo:opOk pl o=true)(s:ES):ELn s (eStep pl o s):=by
 have h:=(ELe.step xo s).n
 exact ⟨h.out,h.sites,h.lines,h.labels,h.brs,h.e⟩
theorem ELn.all{pl:List Int}: ∀(l:List OpD) (s:ES),l.all (opOk pl)=true->ELn s (l.foldl (fun s o=>eStep pl o s) s):=by
 intro l
 induction l with
 |nil=>exact fun s _=>ELn.refl s
 |cons o l ih=>
  intro s h
  simp only [List.all_cons,za0] at h
  exact (ELn.step h.1 s).trans (ih _ h.2)
theorem ELn.fin{s s':ES}(h:ELn s s')(hf:eFine s'=true)(hl:rng s.line):EFin s:=by
 simp only [eFine,za0,zau] at hf
 obtain ⟨⟨⟨⟨⟨⟨⟨h1,h2⟩,h3⟩,h4⟩,h5⟩,h6⟩, -⟩, -⟩:=hf
 have:=h.out
 have:=h.sites
 have:=h.lines
 have:=h.labels
 have:=h.brs
 exact ⟨by omega,by omega,by omega,by omega,by omega,h.e.trans h6,hl⟩
theorem jq{pl:List Int}{o:OpD}(xo:opOk pl o=true)(s:ES):rng (eStep pl o s).line:=by
 rw [<-(ELe.step xo s).line]
 simp only [opOk,za0] at xo
 exact bT xo.1.1.1
section
variable{w0 W W' w:qW}{M:Nat}{F F1:Nat->Prop}{pv:qV}{s:ES}{o:OpD}{K:Nat}{pl:List Int}{g c:Nat}
theorem Em.bl(h:Em w0 M F pv W s):Below w0.heap.size w0 W:=by
 obtain ⟨_,_,_,_,_,h⟩:=h
 exact h.bl
theorem Ob.inRow{t:TypeId}{cs:Array qV}{rs:List Rw}(h:Ob M t cs rs W){r:Rw}(hr:r∈rs){g c i:Nat}(hv:fld cs r.ix= .slice (aA g) r.n c)(hi:i<r.n*r.sz)(u:qV):
  Ob M t cs (rs.map (fun q=>if q.ix=r.ix then {q with xs:=r.xs.set i u} else q)) (W.setCell ⟨g,i,none⟩ u):=by
 have ho:=h.own r hr
 have hg:(fld cs r.ix).ownBlock=some g:=by rw [hv];rfl
 have Fg:=(ho.lt g hg).1
 have Ay: ∀q∈rs,q.ix=r.ix->q=r:=fun q hq e=>by
  obtain ⟨a,ha,rfl⟩:=zaP hq
  obtain ⟨b,hb,rfl⟩:=zaP hr
  rcases Nat.lt_trichotomy a b with hl|rfl|hl
  ·exact absurd e (List.pairwise_iff_getElem.1 h.ix a b ha hb hl)
  ·rfl
  ·exact absurd e.symm (List.pairwise_iff_getElem.1 h.ix b a hb ha hl)
 refine ⟨((Kp.set W g i u).block M h.lt Za).trans h.out,?_,?_,?_⟩
 ·intro q hq
  obtain ⟨q0,yC,rfl⟩:=List.mem_map.1 hq
  by_cases he:q0.ix=r.ix
  ·obtain rfl:=Ay q0 yC he
   simp only [if_true]
   rw [hv]
   rw [hv] at ho
   exact bE ho i hi u
  ·simp only [if_neg he]
   exact ah (h.own q0 yC) (Kp.set W g i u) (fun k hk e=>h.apart q0 yC r hr he k hk (e ▸ hg))
 ·rw [List.pairwise_map]
  refine h.ix.imp (fun {a b} GN=>?_)
  split<;>split<;>simpa using GN
 ·intro q hq q' De hne k hk
  obtain ⟨q0,yC,rfl⟩:=List.mem_map.1 hq
  obtain ⟨q1,zF,rfl⟩:=List.mem_map.1 De
  have e0: ∀x:Rw,(if x.ix=r.ix then {x with xs:=r.xs.set i u} else x).ix=x.ix:=fun x=>by split<;>rfl
  rw [e0] at hk hne ⊢
  rw [e0] at hne
  exact h.apart q0 yC q1 zF hne k hk
theorem EmX.patch{sv lv bv:qV}{B g c n:Nat}(hn:s.out.length=n)(h:EmX w0 M F pv (.slice (aA g) n c) sv lv bv B W s){i:Nat}(hi:i<n*7){u:qV}{out:List Ins}(hl:out.length=s.out.length)(he:out.flatMap insC=(s.out.flatMap insC).set i u):
  EmX w0 M F pv (.slice (aA g) n c) sv lv bv B (W.setCell ⟨g,i,none⟩ u) {s with out:=out}:=by
 subst hn
 have hm:(⟨1,85,7,s.out.length,s.out.flatMap insC⟩:Rw)∈emR s:=by simp [emR]
 have Bn:=h.ob.inRow hm (g:=g) (c:=c) (i:=i) rfl hi u
 have e2:(emR s).map (fun q=>if q.ix=1 then {q with xs:=(s.out.flatMap insC).set i u} else q)=emR {s with out:=out}:=by
  simp [emR,hl,he]
 rw [e2] at Bn
 have hF:F g:=(h.ft g).2 (.inl (.inr ⟨_,hm,rfl⟩))
 have hg:=h.inb hF
 have xS:=h.fin
 have hgB:g≠B:=fun e=>h.no _ hm (by rw [<-e];rfl)
 refine ⟨Bn,h.map.keep ((Kp.set W g i u).block B h.map.lt (fun e=>hgB e.symm)),h.lt,?_,?_,h.bl.setCell hg.1 u,h.le,⟨by rw [hl];exact xS.out,xS.sites,xS.lines,xS.labels,xS.brs,xS.e,xS.line⟩⟩
 ·intro r hr e
  simp only [emR,zaM,zaN,or_false] at hr
  rcases hr with rfl|rfl|rfl|rfl
  ·exact h.no _ hm e
  ·exact h.no ⟨2,3,1,s.sites.length,s.sites.flatMap numC⟩ (by simp [emR]) e
  ·exact h.no ⟨3,3,1,s.lines.length,s.lines.flatMap numC⟩ (by simp [emR]) e
  ·exact h.no ⟨6,267,2,s.brs.length,s.brs.flatMap brC⟩ (by simp [emR]) e
 ·intro k
  rw [h.ft]
  refine or_congr (or_congr Iff.rfl ?_) Iff.rfl
  constructor
  all_goals
   rintro ⟨r,hr,hk⟩
   simp only [emR,zaM,zaN,or_false] at hr
   rcases hr with rfl|rfl|rfl|rfl
   ·exact ⟨_,.head _,hk⟩
   ·exact ⟨_,.tail _ (.head _),hk⟩
   ·exact ⟨_,.tail _ (.tail _ (.head _)),hk⟩
   ·exact ⟨_,.tail _ (.tail _ (.tail _ (.head _))),hk⟩
end
end Go.Proofs.YtcekjfmfcefjpaaGreatDoor
