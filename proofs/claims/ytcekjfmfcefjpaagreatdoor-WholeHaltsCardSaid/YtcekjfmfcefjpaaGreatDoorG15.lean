/- Walks. No condition. -/
import Derived.Test.YtcekjfmfcefjpaaGreatDoorG14
set_option maxRecDepth 100000
set_option maxHeartbeats 0
set_option linter.all false
namespace Go.Proofs.YtcekjfmfcefjpaaGreatDoor
open Go.RowKit Go.Sort
theorem PAt.mo{w:qW}{P:Nat}{s:PS}(h:PAt w P s)(p:Regrown):PAt (more w p) P s:=h.keep (Kp.mo _ _)
theorem fY:rng 4:=by unfold rng;omega
theorem se:rng 9:=by unfold rng;omega
theorem cY{P:Nat}{s:PS}(w:qW)(h:PAt w P s)(t:qB):qC 34 #[pP P,.string t] w (Par P w (.tuple #[]) (pWant t s)):=by
 have HB:=Zh (fun W=>bA W (s:=s) (P:=P))
 have HI:=Zh (fun W h=>di W (s:=s) (P:=P) h t)
 have HF:=Zh (fun W h=>dm W (s:=(pIs t s).2) (P:=P) h 4 fY)
 have H:=Zh h
 clear h
 cases hb:pBad s
 ·cases hp:(pIs t s).1
  all_goals
   go_enter Tryz.func34,Tryz.ntmps34
   go_wp2_with (first
    |(go_at_call 60;refine (HB.out _ H.out).mono ?_;rintro e w' ⟨rfl,rfl⟩)
    |(go_at_call 31;refine (HI.out _ H.out).mono ?_;rintro e w1 ⟨rfl,hT,hP⟩;have HT:=Zh hT;have HP:=Zh hP;clear hT hP)
    |(go_at_call 65;refine (HF.out _ HP.out).mono ?_;rintro e w2 ⟨rfl,hT,hP⟩;have yM:=Zh hT;have zU:=Zh hP;clear hT hP))
   go_end0
  ·have e:pWant t s=pFail 4 (pIs t s).2:=by simp [pWant,hb,hp]
   rw [e]
   exact ⟨rfl,HT.out.trans yM.out,zU.out⟩
  ·have e:pWant t s=(pIs t s).2:=by simp [pWant,hb,hp]
   rw [e]
   exact ⟨rfl,HT.out,HP.out⟩
 ·have e:pWant t s=s:=by simp [pWant,hb]
  rw [e]
  go_enter Tryz.func34,Tryz.ntmps34
  go_wp2_with (go_at_call 60;refine (HB.out _ H.out).mono ?_;rintro e w' ⟨rfl,rfl⟩)
  go_end0
  exact ⟨rfl,Kp.refl _ _,H.out⟩
theorem mq{s:qB}(h:0<s.size):head? s=some s[0]:=by
 unfold head?
 rw [zav (show 0<s.data.size from h)]
 rfl
theorem na{s:qB}(h:0<s.size):s.toList.isEmpty=false:=by
 rw [ByteArray.toList_eq,List.isEmpty_eq_false_iff]
 intro e
 have:s.data.size=0:=by rw [<-zam,e];rfl
 have:s.size=0:=this
 omega
theorem m9{s:qB}(h: ¬0<s.size):s.toList.isEmpty=true:=by
 rw [ByteArray.toList_eq,List.isEmpty_iff]
 exact List.eq_nil_of_length_eq_zero (by have:s.size=s.data.toList.length:=Array.length_toList.symm;omega)
theorem mm{s:qB}(h: ¬0<s.size):head? s=none:=by
 unfold head?
 exact zaW (by have:s.size=s.data.size:=rfl;omega)
theorem ep(s:qB)(w:qW):qC 63 #[.string s] w fun e w'=>e= .returned (.bool (letters s))/\w'=w:=by
 by_cases h0:0<s.size
 ·have he:=na h0
  have HL:=Zh (show letters s=(decide (97<=s[0].toNat)&&decide (s[0].toNat<=122)) by simp only [letters,mq h0];rfl)
  rcases (by omega:s[0].toNat<97\/97<=s[0].toNat) with ha|ha
  all_goals
   go_enter Tryz.func63,Tryz.ntmps63
   go_wp2
   go_ret
   refine ⟨?_,rfl⟩
   rw [HL.out]
   simp
   try omega
   try (rw [Bool.eq_iff_iff];simp;omega)
 ·have he:=m9 h0
  have HL:=Zh (show letters s=false by simp only [letters,mm h0])
  go_enter Tryz.func63,Tryz.ntmps63
  go_wp2
  go_ret
  exact ⟨by rw [HL.out];rfl,rfl⟩
theorem dP(s:qB)(w:qW):qC 95 #[.string s] w fun e w'=>e= .returned (.bool (digits s))/\w'=w:=by
 by_cases h0:0<s.size
 ·have he:=na h0
  have HL:=Zh (show digits s=(decide (48<=s[0].toNat)&&decide (s[0].toNat<=57)) by simp only [digits,mq h0];rfl)
  rcases (by omega:s[0].toNat<48\/48<=s[0].toNat) with ha|ha
  all_goals
   go_enter Tryz.func95,Tryz.ntmps95
   go_wp2
   go_ret
   refine ⟨?_,rfl⟩
   rw [HL.out]
   simp
   try omega
   try (rw [Bool.eq_iff_iff];simp;omega)
 ·have he:=m9 h0
  have HL:=Zh (show digits s=false by simp only [digits,mm h0])
  go_enter Tryz.func95,Tryz.ntmps95
  go_wp2
  go_ret
  exact ⟨by rw [HL.out];rfl,rfl⟩
theorem eV{P:Nat}{s:PS}(w:qW)(h:PAt w P s):qC 32 #[pP P] w (Par P w (.string (pName s).1) (pName s).2):=by
 have HB:=Zh (fun W=>bA W (s:=s) (P:=P))
 have HP:=Zh (fun W=>bZ W (s:=s) (P:=P))
 have HN:=Zh (fun W=>dK W (s:=s) (P:=P))
 have HF:=Zh (fun W h=>dm W (s:=s) (P:=P) h 4 fY)
 have H:=Zh h
 clear h
 cases hb:pBad s
 ·cases hl:letters (pPeek s)
  ·have e:pName s=((⟨#[]⟩:qB),pFail 4 s):=by simp [pName,hl]
   rw [e]
   go_enter Tryz.func32,Tryz.ntmps32
   go_wp2_with (first
    |(go_at_call 60;refine (HB.out _ H.out).mono ?_;rintro e w' ⟨rfl,rfl⟩)
    |(go_at_call 61;refine (HP.out _ H.out).mono ?_;rintro e w' ⟨rfl,rfl⟩)
    |(go_at_call 63;refine (ep _ _).mono ?_;rintro e w' ⟨rfl,rfl⟩)
    |(go_at_call 65;refine (HF.out _ H.out).mono ?_;rintro e w2 ⟨rfl,hT,hP⟩;have yM:=Zh hT;have zU:=Zh hP;clear hT hP))
   go_ret
   exact ⟨rfl,yM.out,zU.out⟩
  ·cases hk:keyw (pPeek s)
   all_goals
    go_enter Tryz.func32,Tryz.ntmps32
    go_wp2_with (first
     |(go_at_call 60;refine (HB.out _ H.out).mono ?_;rintro e w' ⟨rfl,rfl⟩)
     |(go_at_call 61;refine (HP.out _ H.out).mono ?_;rintro e w' ⟨rfl,rfl⟩)
     |(go_at_call 63;refine (ep _ _).mono ?_;rintro e w' ⟨rfl,rfl⟩)
     |(go_at_call 64;refine (dL _ _ H.out.sp).mono ?_;rintro e w' ⟨rfl,p,rfl⟩)
     |(go_at_call 65;refine (HF.out _ (H.out.mo p)).mono ?_;rintro e w2 ⟨rfl,hT,hP⟩;have yM:=Zh hT;have zU:=Zh hP;clear hT hP)
     |(go_at_call 62;refine (HN.out _ (H.out.mo p)).mono ?_;rintro e w2 ⟨rfl,hT,hP⟩;have yM:=Zh hT;have zU:=Zh hP;clear hT hP))
    go_ret
   ·have e:pName s=(pPeek s,pNext s):=by simp [pName,hb,hl,hk]
    rw [e]
    exact ⟨rfl,(Kp.mo _ _).trans yM.out,zU.out⟩
   ·have e:pName s=((⟨#[]⟩:qB),pFail 4 s):=by simp [pName,hk]
    rw [e]
    exact ⟨rfl,(Kp.mo _ _).trans yM.out,zU.out⟩
 ·have e:pName s=((⟨#[]⟩:qB),pFail 4 s):=by simp [pName,hb]
  rw [e]
  go_enter Tryz.func32,Tryz.ntmps32
  go_wp2_with (first
   |(go_at_call 60;refine (HB.out _ H.out).mono ?_;rintro e w' ⟨rfl,rfl⟩)
   |(go_at_call 65;refine (HF.out _ H.out).mono ?_;rintro e w2 ⟨rfl,hT,hP⟩;have yM:=Zh hT;have zU:=Zh hP;clear hT hP))
  go_ret
  exact ⟨rfl,yM.out,zU.out⟩
theorem tB{P:Nat}{s:PS}(w:qW)(h:PAt w P s)(most:Nat):qC 69 #[pP P,.int .u64 most] w (Par P w (.int .u64 (pNumber most s).1) (pNumber most s).2):=by
 have HB:=Zh (fun W=>bA W (s:=s) (P:=P))
 have HP:=Zh (fun W=>bZ W (s:=s) (P:=P))
 have HN:=Zh (fun W=>dK W (s:=s) (P:=P))
 have M3:=Zh (fun W h=>dm W (s:=s) (P:=P) h 4 fY)
 have HF9:=Zh (fun W h=>dm W (s:=s) (P:=P) h 9 se)
 have H:=Zh h
 clear h
 cases hb:pBad s
 ·cases hl:digits (pPeek s)
  ·have e:pNumber most s=(0,pFail 4 s):=by simp [pNumber,hl]
   rw [e]
   go_enter Tryz.func69,Tryz.ntmps69
   go_wp2_with (first
    |(go_at_call 60;refine (HB.out _ H.out).mono ?_;rintro e w' ⟨rfl,rfl⟩)
    |(go_at_call 61;refine (HP.out _ H.out).mono ?_;rintro e w' ⟨rfl,rfl⟩)
    |(go_at_call 95;refine (dP _ _).mono ?_;rintro e w' ⟨rfl,rfl⟩)
    |(go_at_call 65;refine (M3.out _ H.out).mono ?_;rintro e w2 ⟨rfl,hT,hP⟩;have yM:=Zh hT;have zU:=Zh hP;clear hT hP))
   go_ret
   exact ⟨rfl,yM.out,zU.out⟩
  ·have HK:Hid (TokOk (pHead s)):=by obtain ⟨b,o,c, -, -, -, -, -, -, -, -, -,h, -⟩:=H.out.mem;exact Zh h
   have HZ:Hid ((pPeek s).size<=1048576):=by obtain ⟨b,o,c, -, -, -, -, -, -, -, -,h, -⟩:=H.out.mem;exact Zh h
   have HU:=Zh (fun W=>kg (pPeek s) W hl (HK.out hl).1 (HK.out hl).2 HZ.out)
   generalize hd:dval (pPeek s).data.toList=m at HU
   have HD:=Zh hd
   clear hd
   rcases (by omega:most<m\/m<=most) with hm|hm
   all_goals
    go_enter Tryz.func69,Tryz.ntmps69
    go_wp2_with (first
     |(go_at_call 60;refine (HB.out _ H.out).mono ?_;rintro e w' ⟨rfl,rfl⟩)
     |(go_at_call 61;refine (HP.out _ H.out).mono ?_;rintro e w' ⟨rfl,rfl⟩)
     |(go_at_call 95;refine (dP _ _).mono ?_;rintro e w' ⟨rfl,rfl⟩)
     |(go_at_call 96;refine (HU.out _).mono ?_;rintro e w' ⟨rfl,p,rfl⟩)
     |(go_at_call 65;refine (HF9.out _ (H.out.mo p)).mono ?_;rintro e w2 ⟨rfl,hT,hP⟩;have yM:=Zh hT;have zU:=Zh hP;clear hT hP)
     |(go_at_call 62;refine (HN.out _ (H.out.mo p)).mono ?_;rintro e w2 ⟨rfl,hT,hP⟩;have yM:=Zh hT;have zU:=Zh hP;clear hT hP))
    go_ret
   ·have e:pNumber most s=(0,pFail 9 s):=by simp [pNumber,hb,hl,HD.out,hm]
    rw [e]
    exact ⟨rfl,(Kp.mo _ _).trans yM.out,zU.out⟩
   ·have e:pNumber most s=(m,pNext s):=by simp [pNumber,hb,hl,HD.out,show¬most<m by omega]
    rw [e]
    exact ⟨rfl,(Kp.mo _ _).trans yM.out,zU.out⟩
 ·have e:pNumber most s=(0,pFail 4 s):=by simp [pNumber,hb]
  rw [e]
  go_enter Tryz.func69,Tryz.ntmps69
  go_wp2_with (first
   |(go_at_call 60;refine (HB.out _ H.out).mono ?_;rintro e w' ⟨rfl,rfl⟩)
   |(go_at_call 65;refine (M3.out _ H.out).mono ?_;rintro e w2 ⟨rfl,hT,hP⟩;have yM:=Zh hT;have zU:=Zh hP;clear hT hP))
  go_ret
  exact ⟨rfl,yM.out,zU.out⟩
theorem eP:(Tryz.prog.info? 9).map (fun i=>(i.zero,i.size,i.bytes))=some (some (.string ⟨#[]⟩),1,16):=by kernel_rfl
theorem uE(s:qB)(w:qW):qC 188 #[.string s] w fun e w'=>e= .returned (iI (operator s))/\w'=w:=by
 obtain ⟨i0,hi,xq,xm,xk⟩:=zan eP
 have ix:=fun cs hn k h0 h1 w=>fW (P:=Tryz.prog) Tryz.underlying372 Tryz.underlying9 hi xm cs hn k h0 h1 w
 have HX:=Zh hi
 clear hi xq xm xk
 go_enter Tryz.func188,Tryz.ntmps188
 go_wp2
 refine zao 12 ?_
 iterate 12 (all_goals (try (rw [zap];go_wp2)))
 all_goals
  go_ret
  refine ⟨?_,rfl⟩
  simp [operator,look,operW,List.find?_cons,eqR, *]
theorem kI{t:qB}{s:PS}(h:(pIs t s).1=false):pIs t s=(false,s):=by
 unfold pIs at*
 split
 ·rfl
 ·split<;>simp_all
theorem uC{s:PS}(h:pBad s=true):pOrder s=(0,s):=by simp [pOrder,h]
theorem ybl{s:PS}(h:pBad s=true)(t:qB):(pIs t s).1=false:=by simp [pIs,h]
theorem bN{P:Nat}{s:PS}(w:qW)(h:PAt w P s){t:qB}(hn:(pIs t s).1=false):qC 31 #[pP P,.string t] w fun e w'=>e= .returned (.bool false)/\w'=w:=by
 have HC:=Zh (At.begin h)
 clear h
 cases hb:pBad s
 ·cases hp:eqB (pPeek s) t
  ·have hq:=(eqS (pPeek s) t).trans hp
   clear hn
   go_enter Tryz.func31,Tryz.ntmps31
   go_wp2_with (first|(go_at_call 60;refine (bA _ HC.out.pt).mono ?_;rintro e w1 ⟨rfl,rfl⟩)|(go_at_call 61;refine (bZ _ HC.out.pt).mono ?_;rintro e w1 ⟨rfl,rfl⟩))
   go_ret
   exact ⟨rfl,rfl⟩
  ·simp [pIs,hb,hp] at hn
 ·clear hn
  go_enter Tryz.func31,Tryz.ntmps31
  go_wp2_with (first|(go_at_call 60;refine (bA _ HC.out.pt).mono ?_;rintro e w1 ⟨rfl,rfl⟩))
  go_ret
  exact ⟨rfl,rfl⟩
theorem ybk{s:PS}(hb:pBad s=false)(t:qB):(pIs t s).1=eqB (pPeek s) t:=by
 unfold pIs
 rw [hb]
 cases h:eqB (pPeek s) t<;>simp
theorem cJ{P:Nat}{s:PS}(w:qW)(h:PAt w P s){t:qB}(hn:(pIs t s).1=true):qC 31 #[pP P,.string t] w (Par P w (.bool true) (pNext s)):=by
 have:=di w h t
 have e:pIs t s=(true,pNext s):=by
  unfold pIs at*
  split
  ·simp_all
  ·split<;>simp_all
 rw [e] at this
 exact this
theorem kR(s:PS):((pIs (⟨#[114,108,120]⟩:qB) s).1=true/\Hid (pOrder s=(1,pNext s)))\/((pIs (⟨#[114,108,120]⟩:qB) s).1=false/\(pIs (⟨#[97,99,113]⟩:qB) s).1=true/\Hid (pOrder s=(2,pNext s)))\/((pIs (⟨#[114,108,120]⟩:qB) s).1=false/\(pIs (⟨#[97,99,113]⟩:qB) s).1=false/\(pIs (⟨#[114,101,108]⟩:qB) s).1=true/\Hid (pOrder s=(3,pNext s)))\/
  ((pIs (⟨#[114,108,120]⟩:qB) s).1=false/\(pIs (⟨#[97,99,113]⟩:qB) s).1=false/\(pIs (⟨#[114,101,108]⟩:qB) s).1=false/\(pIs (⟨#[115,99]⟩:qB) s).1=true/\Hid (pOrder s=(4,pNext s)))\/((pIs (⟨#[114,108,120]⟩:qB) s).1=false/\(pIs (⟨#[97,99,113]⟩:qB) s).1=false/\(pIs (⟨#[114,101,108]⟩:qB) s).1=false/\(pIs (⟨#[115,99]⟩:qB) s).1=false/\Hid (pOrder s=(0,pFail 4 s))):=by
 cases hb:pBad s
 ·have hI:=ybk hb
  have e:pOrder s=match look ordW (pPeek s) with|some k=>(k,pNext s)|none=>(0,pFail 4 s):=by unfold pOrder;rw [hb];rfl
  rw [hI,hI,hI,hI,e]
  have q: ∀l:List UInt8,eqB ⟨l.toArray⟩ (pPeek s)=eqB (pPeek s) ⟨l.toArray⟩:=fun l=>by rw [eqB,eqB,decide_eq_decide];exact eq_comm
  simp only [look,ordW,List.find?_cons,q]
  cases eqB (pPeek s) (⟨#[114,108,120]⟩:qB)
  ·cases eqB (pPeek s) (⟨#[97,99,113]⟩:qB)
   ·cases eqB (pPeek s) (⟨#[114,101,108]⟩:qB)
    ·cases eqB (pPeek s) (⟨#[115,99]⟩:qB)<;>simp [Hid]
    ·simp [Hid]
   ·simp [Hid]
  ·simp [Hid]
 ·have hI:=ybl hb
  simp [hI,uC hb,pFail,hb,Hid]
theorem kn{P:Nat}{s:PS}(w:qW)(h:PAt w P s):qC 99 #[pP P] w (Par P w (iI (pOrder s).1) (pOrder s).2):=by
 obtain ⟨i0,hi,xq,xm,xk⟩:=zan eP
 have ix:=fun cs hn k h0 h1 w=>fW (P:=Tryz.prog) Tryz.underlying279 Tryz.underlying9 hi xm cs hn k h0 h1 w
 have HX:=Zh hi
 clear hi xq xm xk
 have HC:=Zh (At.begin h)
 clear h
 rcases kR s with ⟨h1,HE⟩|⟨h1,h2,HE⟩|⟨h1,h2,h3,HE⟩|⟨h1,h2,h3,h4,HE⟩|⟨h1,h2,h3,h4,HE⟩
 all_goals
  go_enter Tryz.func99,Tryz.ntmps99
  go_wp2
  refine zao 5 ?_
  iterate 5 (try (rw [zap];go_wp2_with (first|(go_at_call 31;refine (bN _ HC.out.pt ZA).mono ?_;rintro e w1 ⟨rfl,rfl⟩)|(go_at_call 31;refine (cJ _ HC.out.pt ZA).mono ?_;rintro e w1 ⟨rfl,hT,hP⟩;replace HC:=Zh (HC.out.next hT hP);clear hT hP)|(go_at_call 65;refine (dm _ HC.out.pt _ (by unfold rng;omega)).mono ?_;rintro e w1 ⟨rfl,hT,hP⟩;replace HC:=Zh (HC.out.next hT hP);clear hT hP))))
  go_ret
  rw [HE.out]
  exact ⟨rfl,HC.out.kp,HC.out.pt⟩
section
variable{w:qW}{k n i:Nat}{cs:Array qV}{t:TypeId}
@[go_sem] theorem aO(w:qW)(k:Nat)(cs:Array qV)(t:TypeId):(putB w k cs t).heap.size=w.heap.size:=by simp [putB]
theorem aL(w:qW)(k n:Nat)(cs:Array qV)(t:TypeId):(putB w k cs t).heap[n]?=if n=k then (if k<w.heap.size then some (.cells cs t (0,0)) else none) else w.heap[n]?:=by
 by_cases h:n=k
 ·subst h
  by_cases h2:n<w.heap.size<;>simp [putB,h2]
 ·simp [putB,h,zaT,show¬k=n from fun e=>h e.symm]
@[go_sem] theorem dc(w:qW)(k n i:Nat)(cs:Array qV)(t:TypeId):(putB w k cs t).cell? ⟨n,i,none⟩=if n=k then (if k<w.heap.size then cs[i]? else none) else w.cell? ⟨n,i,none⟩:=by
 unfold World.cell?
 rw [aL]
 by_cases h:n=k
 ·by_cases h2:k<w.heap.size<;>simp [h,h2]
 ·simp [h]
@[go_sem] theorem yfv(w:qW)(k n i:Nat)(cs:Array qV)(t:TypeId):(putB w k cs t).frozen? ⟨n,i,none⟩=if n=k then false else w.frozen? ⟨n,i,none⟩:=by
 unfold World.frozen?
 rw [aL]
 by_cases h:n=k
 ·by_cases h2:k<w.heap.size<;>simp [h,h2]
 ·simp [h]
@[go_sem] theorem yft(w:qW)(k n i:Nat)(cs:Array qV)(t:TypeId)(v:qV):(putB w k cs t).setCell ⟨n,i,none⟩ v=if n=k then putB w k (cs.setIfInBounds i v) t else putB (w.setCell ⟨n,i,none⟩ v) k cs t:=by
 unfold putB World.setCell
 by_cases h:n=k
 ·subst h
  rw [if_pos rfl]
  simp only
  congr 1
  apply Array.ext_getElem?
  intro j
  rw [Array.getElem?_modify,zaT,zaT]
  by_cases hj:n=j
  ·subst hj
   by_cases h2:n<w.heap.size<;>simp [h2]
  ·simp [hj]
 ·rw [if_neg h]
  simp only
  congr 1
  apply Array.ext_getElem?
  intro j
  rw [Array.getElem?_modify,zaT,zaT,Array.getElem?_modify]
  by_cases hj:k=j
  ·subst hj
   by_cases h2:k<w.heap.size<;>simp [h2,h]
  ·by_cases h3:n=j<;>simp [hj,h3]
theorem au(w:qW)(o:Obj):(w.alloc o).heap.size=w.heap.size+1:=by simp
theorem dv(w:qW):w.drew.heap.size=w.heap.size:=rfl
theorem Zz:(∀(w:qW) (o:Obj),(w.alloc o).heap.size=w.heap.size+1)/\(∀(w:qW) (k:Nat) (cs:Array qV) (t:TypeId),(putB w k cs t).heap.size=w.heap.size)/\(∀w:qW,w.drew.heap.size=w.heap.size)/\(∀(w:qW) (p:Regrown),(more w p).heap.size=w.heap.size+p.os.size):=⟨au,aO,dv,aZ⟩
def allocB(w:qW)(k:Nat)(cs:Array qV)(t:TypeId)(o:Obj):qW:=(putB w k cs t).alloc o
@[go_sem] theorem yfy(w:qW)(k:Nat)(cs:Array qV)(t:TypeId)(o:Obj):(putB w k cs t).alloc o=if k<w.heap.size then putB (w.alloc o) k cs t else allocB w k cs t o:=by
 by_cases h:k<w.heap.size
 ·rw [if_pos h]
  unfold putB World.alloc
  simp only
  congr 1
  apply Array.ext_getElem?
  intro j
  simp only [Array.getElem?_push,Array.size_setIfInBounds,zaT,Array.size_push]
  by_cases hj:k=j
  ·subst hj
   simp [h,show¬k=w.heap.size by omega,show k<w.heap.size+1 by omega]
  ·simp [hj]
 ·rw [if_neg h];rfl
def moreB(w:qW)(k:Nat)(cs:Array qV)(t:TypeId)(p:Regrown):qW:=more (putB w k cs t) p
@[go_sem] theorem yfu(w:qW)(k:Nat)(cs:Array qV)(t:TypeId)(p:Regrown):more (putB w k cs t) p=if k<w.heap.size then putB (more w p) k cs t else moreB w k cs t p:=by
 by_cases h:k<w.heap.size
 ·rw [if_pos h]
  unfold putB more grow redrawn
  simp only
  congr 1
  apply Array.ext_getElem?
  intro j
  simp only [Array.getElem?_append,Array.size_setIfInBounds,zaT,Array.size_append]
  by_cases hj:k=j
  ·subst hj
   simp [h,show k<w.heap.size+p.os.size by omega]
  ·simp [hj]
 ·rw [if_neg h];rfl
@[go_sem] theorem yfx(w:qW)(k:Nat)(cs:Array qV)(t:TypeId):(putB w k cs t).drew=putB w.drew k cs t:=rfl
@[go_sem] theorem yfw(w:qW)(k m:Nat)(cs:Array qV)(t:TypeId):(putB w k cs t).drewN m=putB (w.drewN m) k cs t:=rfl
theorem cd(w:qW)(p:Regrown)(n:Nat)(h:n<w.heap.size):(more w p).heap[n]?=w.heap[n]?:=(av w p).block n h
end
theorem Kp.putB{X:Nat->Prop}{a b:qW}(h:Kp X a b){k:Nat}(hk:k<a.heap.size->X k)(cs:Array qV)(t:TypeId):Kp X a (putB b k cs t):=
 ⟨h.os,h.tape,h.output,by rw [aO];exact h.size,fun i hi hx=>by
  rw [aL,if_neg (fun e=>hx (by subst e;exact hk hi))]
  exact h.block i hi hx⟩
theorem Kp.alloc{X:Nat->Prop}{a b:qW}(h:Kp X a b)(o:Obj):Kp X a (b.alloc o):=h.trans (Kp.al _ o)
theorem Kp.more{X:Nat->Prop}{a b:qW}(h:Kp X a b)(p:Regrown):Kp X a (more b p):=h.trans (Kp.mo _ p)
theorem Kp.drew{X:Nat->Prop}{a b:qW}(h:Kp X a b):Kp X a b.drew:=h.trans (Kp.dr _)
theorem Kp.own{P:Nat}{a b:qW}(h:Kp (·=P) a b){k:Nat}(hk:a.heap.size<=k)(cs:Array qV)(t:TypeId):Kp (·=P) a (Go.Proofs.YtcekjfmfcefjpaaGreatDoor.putB b k cs t):=h.putB (fun h=>by omega) cs t
theorem PAt.putB{w:qW}{P k:Nat}{s:PS}(h:PAt w P s)(hk:P<k)(cs:Array qV)(t:TypeId):PAt (putB w k cs t) P s:=h.keep ((Kp.refl _ _).putB (fun _=>hk) cs t)
theorem PAt.alloc{w:qW}{P:Nat}{s:PS}(h:PAt w P s)(o:Obj):PAt (w.alloc o) P s:=h.keep (Kp.al _ o)
theorem PAt.drew{w:qW}{P:Nat}{s:PS}(h:PAt w P s):PAt w.drew P s:=h.keep (Kp.dr _)
abbrev Fz(lo hi:Nat):Nat->Prop:=fun b=>lo<=b/\b<hi
theorem ExAt.turn{w w':qW}{P lo hi lo' Al n:Nat}{e:Ex}{cs:List qV}(h:ExAt w (Fz lo hi) n e cs)(hk:Kp (·=P) w w')(hP:P<lo)(h1:lo'<=lo)(h2:hi<=Al):ExAt w' (Fz lo' Al) n e cs:=
 ExAt.keep hk.size (fun b hb hl=>⟨⟨by omega,by omega⟩,hk.block b hl Za⟩) n e cs h
theorem ExAt.lo{w:qW}{lo hi lo' n:Nat}{e:Ex}{cs:List qV}(h:ExAt w (Fz lo hi) n e cs)(h1:lo'<=lo):ExAt w (Fz lo' hi) n e cs:=ExAt.keep (zaq _) (fun b hb _=>⟨⟨by omega,hb.2⟩,rfl⟩) n e cs h
theorem At.alloc{P:Nat}{w W:qW}{s:PS}(h:At P w W s)(o:Obj):At P w (W.alloc o) s:=⟨h.kp.alloc o,h.pt.alloc o,h.lt⟩
theorem At.drew{P:Nat}{w W:qW}{s:PS}(h:At P w W s):At P w W.drew s:=⟨h.kp.drew,h.pt.drew,h.lt⟩
theorem At.own{P:Nat}{w W:qW}{s:PS}(h:At P w W s){k:Nat}(hk:w.heap.size<=k)(cs:Array qV)(t:TypeId):At P w (putB W k cs t) s:=⟨h.kp.own hk cs t,h.pt.putB (by have:=h.lt;omega) cs t,h.lt⟩
theorem Kp.peel{X:Nat->Prop}{W w2:qW}{k:Nat}{cs:Array qV}{t:TypeId}(h:Kp X (Go.Proofs.YtcekjfmfcefjpaaGreatDoor.putB W k cs t) w2)(hk:k<W.heap.size:=by (try simp only [au,aO,dv]);omega)(hX: ¬X k:=by (try simp only [au,aO,dv]);omega):w2=Go.Proofs.YtcekjfmfcefjpaaGreatDoor.putB w2 k cs t/\k<w2.heap.size/\Kp (fun b=>X b\/b=k) W w2:=by
 have h1:=h.block k (by rw [aO];exact hk) hX
 rw [aL,if_pos rfl,if_pos hk] at h1
 refine ⟨(bz h1).symm,ac h1,h.os,h.tape,h.output,by have:=h.size;rwa [aO] at this,fun i hi hx=>?_⟩
 have:=h.block i (by rw [aO];exact hi) (fun e=>hx (.inl e))
 rw [aL,if_neg (fun e=>hx (.inr e))] at this
 exact this
theorem Kp.peelA{X:Nat->Prop}{W w2:qW}{cs:Array qV}{t:TypeId}(h:Kp X (W.alloc (.cells cs t)) w2)(hX: ¬X W.heap.size:=by (try simp only [au,aO,dv]);omega):w2=Go.Proofs.YtcekjfmfcefjpaaGreatDoor.putB w2 W.heap.size cs t/\W.heap.size<w2.heap.size/\Kp X W w2:=by
 have h1:=h.block W.heap.size Zi hX
 rw [zab] at h1
 have hs:=h.size
 simp at hs
 refine ⟨(bz h1).symm,ac h1,h.os,h.tape,h.output,by omega,fun i hi hx=>?_⟩
 have:=h.block i Zk hx
 rw [zac _ _ hi] at this
 exact this
theorem ExAt.own{w:qW}{lo hi n k:Nat}{e:Ex}{cs:List qV}(h:ExAt w (Fz lo hi) n e cs)(hk:k<lo\/hi<=k){c:Array qV}{t:TypeId}:ExAt (putB w k c t) (Fz lo hi) n e cs:=
 ExAt.keep (by rw [aO];exact zaq _) (fun b hb _=>⟨hb,by rw [aL,if_neg (by have:=hb.1;have:=hb.2;omega)]⟩) n e cs h
theorem ExAt.alloc{w:qW}{lo hi n:Nat}{e:Ex}{cs:List qV}(h:ExAt w (Fz lo hi) n e cs){o:Obj}:ExAt (w.alloc o) (Fz lo hi) n e cs:=
 ExAt.keep Zi (fun b hb hl=>⟨hb,zac _ _ hl⟩) n e cs h
theorem ExAt.drew{w:qW}{lo hi n:Nat}{e:Ex}{cs:List qV}(h:ExAt w (Fz lo hi) n e cs):ExAt w.drew (Fz lo hi) n e cs:=ExAt.keep (w:=w) (w':=w.drew) (zaq w.heap.size) (fun b hb hl=>⟨hb,rfl⟩) n e cs h
theorem ExAt.same{w w':qW}{P lo hi n:Nat}{e:Ex}{cs:List qV}(h:ExAt w (Fz lo hi) n e cs)(hk:Kp (·=P) w w')(hP:P<lo:=by (try simp only [au,aO,dv]);omega):ExAt w' (Fz lo hi) n e cs:=h.turn hk hP (zaq _) (zaq _)
theorem ExAt.wide{w:qW}{lo hi lo' Al n:Nat}{e:Ex}{cs:List qV}(h:ExAt w (Fz lo hi) n e cs)(h1:lo'<=lo)(h2:hi<=Al):ExAt w (Fz lo' Al) n e cs:=ExAt.keep (zaq _) (fun b hb _=>⟨⟨by omega,by omega⟩,rfl⟩) n e cs h
def ParX(P n:Nat)(w:qW)(r:Ex×PS)(e:Ending)(w':qW):Prop:=
 ∃pa pc ka kc,e= .returned (.agg #[iI r.1.kind,.int .u64 r.1.n,.string r.1.name,iI r.1.op,iI r.1.order,.string r.1.var,.slice pa r.1.parts.length pc,.slice ka r.1.kids.length kc])/\Kp (·=P) w w'/\PAt w' P r.2/\
  ExAt w' (Fz w.heap.size w'.heap.size) n r.1 [iI r.1.kind,.int .u64 r.1.n,.string r.1.name,iI r.1.op,iI r.1.order,.string r.1.var,.slice pa r.1.parts.length pc,.slice ka r.1.kids.length kc]
def HEx(P n:Nat)(pe:PE):Prop:= ∀(w:qW) (s:PS) (d:Int) (r:Ex×PS),PAt w P s->0<=d->d<=1000->pe d s=some r->qC 100 #[pP P,iI d] w (ParX P n w r)
theorem mZ{w:qW}{lo hi k n:Nat}{x:Ex}{cs:List qV}(h:ExAt w (Fz lo hi) n x cs)(hk:w.heap[k]?=some (.cells cs.toArray 217 (0,0)))(h8:cs.length=8)(h1:lo<=k)(h2:k<hi):RwAt w (Fz lo hi) 8 (ExAt w (Fz lo hi) n) (.slice (aA k) 1 1) [x]:=
 RwAt.one hk ⟨h1,h2⟩ (by simpa using h8) (by simpa using h)
theorem ydi{w:qW}{ok:Nat->Prop}{k n:Nat}{x y:Ex}{cx cy:List qV}(h:ExAt w ok n x cx)(h':ExAt w ok n y cy)(hk:w.heap[k]?=some (.cells (cx++cy).toArray 217 (0,0)))(h8:cx.length=8)(h8':cy.length=8)(xo:ok k):RwAt w ok 8 (ExAt w ok n) (.slice (aA k) 2 2) [x,y]:=by
 refine ⟨_,2,by simp,by simp,by omega,fun _=>⟨k,0,rfl,xo,ac hk,fun i z hi=>?_⟩⟩
 match i,hi with
 |0,hi=>
  simp at hi
  subst hi
  refine ⟨cx,h8,h,fun j v hj=>?_⟩
  have hl:=(List.getElem?_eq_some_iff.1 hj).1
  rw [aa hk]
  simpa [zah hl] using hj
 |1,hi=>
  simp at hi
  subst hi
  refine ⟨cy,h8',h',fun j v hj=>?_⟩
  rw [aa hk]
  have:(cx++cy)[8+j]?=some v:=by rw [zai Za];simpa [h8] using hj
  simpa using this
theorem gu(k:Int)(hk:k≠0)(s:PS):pBad (pFail k s)=true:=by
 unfold pFail
 cases h:pBad s
 ·simp [pBad,hk]
 ·simp [h]
theorem uF(s:qB):0<=operator s/\operator s<=11:=by
 unfold operator look
 cases h:operW.find? (fun x=>eqB x.1 s) with
 |none=>simp
 |some x=>
  have hm:=List.mem_of_find?_eq_some h
  have: ∀y∈operW,0<=y.2/\y.2<=11:=by decide
  simpa using this x hm
theorem ydj:(Tryz.prog.info? 217).map (fun i=>(i.zero,i.size,i.bytes))=some (some (.agg #[iI 0,.int .u64 0,.string ⟨#[]⟩,iI 0,iI 0,.string ⟨#[]⟩,.slice none 0 0,.slice none 0 0]),8,112):=by kernel_rfl
theorem At.grow0{P:Nat}{w W W':qW}{s:PS}(h:At P w W s)(hg:W.grownBy W' none):At P w W' s/\Kp (·=P) W W':=by
 have hk:Kp (fun _=>False) W W':=(Kp.of_grown hg).mono (fun k _ e=>by cases e)
 exact ⟨⟨h.kp.next hk (fun _ _ e=>e.elim),h.pt.keep (hk.mono (fun _ _ e=>e.elim)),h.lt⟩,hk.mono (fun _ _ e=>e.elim)⟩
theorem cW{d:Int}(h0:0<=d)(h1:d<=1000):IntKind.i64.wrap (d+1)=d+1:=by
 rw [IntKind.wrap_i64]
 omega
theorem aw{w w':qW}{B n s:Nat}{e:TypeId}{v:qV}{xs:List qV}(h:w.ownsRow B e s v n xs)(hb: ∀g,v.ownBlock=some g->w'.heap[g]?=w.heap[g]?):w'.ownsRow B e s v n xs:=by
 refine ⟨h.1,?_⟩
 rcases h.2 with h1|⟨g,cap,cur,rfl,h2,h3,h4⟩
 ·exact .inl h1
 ·exact .inr ⟨g,cap,cur,rfl,h2,(hb g rfl).trans h3,h4⟩
theorem gw{w:qW}{B n s k:Nat}{e:TypeId}{v:qV}{xs:List qV}(h:w.ownsRow B e s v n xs)(hk:v.ownBlock≠some k){cs:Array qV}{t:TypeId}:(putB w k cs t).ownsRow B e s v n xs:=
 aw h fun g hg=>by rw [aL,if_neg (fun e=>hk (by rw [hg,e]))]
theorem gx{w:qW}{B n s:Nat}{e:TypeId}{v:qV}{xs:List qV}(h:w.ownsRow B e s v n xs):w.drew.ownsRow B e s v n xs:=h
theorem ah{X:Nat->Prop}{w w':qW}{B n s:Nat}{e:TypeId}{v:qV}{xs:List qV}(h:w.ownsRow B e s v n xs)(hk:Kp X w w')(hX: ∀g,v.ownBlock=some g-> ¬X g):w'.ownsRow B e s v n xs:=
 aw h fun g hg=>hk.block g (h.lt g hg).2 (hX g hg)
theorem own_lt{w:qW}{B n s:Nat}{e:TypeId}{v:qV}{xs:List qV}(h:w.ownsRow B e s v n xs)(g:Nat)(hg:v.ownBlock=some g):B<=g/\g<w.heap.size:=h.lt g hg
theorem ip{s:Nat}: ∀(css:List (List qV)),(∀c∈css,c.length=s)-> ∀(i:Nat) (c:List qV),css[i]?=some c-> ∀j,j<s->css.flatten[i*s+j]?=c[j]?
 |[],_,i,c,h,_,_=>by simp at h
 |x::r,hl,0,c,h,j,hj=>by
  have hx:x.length=s:=hl x Zi
  simp at h
  subst h
  simp [zah (show j<x.length by omega)]
 |x::r,hl,i+1,c,h,j,hj=>by
  have hx:x.length=s:=hl x Zi
  rw [List.flatten_cons,zai (by rw [hx,Nat.add_mul];omega),hx,show (i+1)*s+j-s=i*s+j by rw [Nat.add_mul];omega]
  exact ip r (fun c hc=>hl c (by simp [hc])) i c (by simpa using h) j hj
theorem dF{α:Type}{w:qW}{B n s:Nat}{e:TypeId}{v:qV}{css:List (List qV)}{xs:List α}{ok:Nat->Prop}{El:α->List qV->Prop}(h:w.ownsRow B e s v n css.flatten)(hl: ∀c∈css,c.length=s)(hn:css.length=n)(hx:xs.length=n)
  (hE: ∀(i:Nat) x c,xs[i]?=some x->css[i]?=some c->El x c) (xo: ∀g,v.ownBlock=some g->ok g):RwAt w ok s El v xs:=by
 rcases h.2 with ⟨rfl,h0⟩|⟨g,cap,cur,rfl,h2,h3,h4,h5,h6,h7⟩
 ·rw [h0] at hx
  rw [List.eq_nil_of_length_eq_zero hx]
  exact RwAt.nil _ _ _ _
 ·refine ⟨aA g,cap,by rw [hx],by omega,h5,fun _=>⟨g,0,rfl,xo g rfl,ac h3,fun i x hi=>?_⟩⟩
  have zR:i<n:=by rw [<-hx];exact (List.getElem?_eq_some_iff.1 hi).1
  have LE:i<css.length:=by omega
  have hc:css[i]?=some css[i]:=zaC LE
  have i':css[i].length=s:=hl _ (List.getElem_mem LE)
  refine ⟨css[i],i',hE i x _ hi hc,fun j u hj=>?_⟩
  have JQ:j<s:=by rw [<-i'];exact (List.getElem?_eq_some_iff.1 hj).1
  rw [aa h3,zag]
  have hf:css.flatten[i*s+j]?=some u:=by rw [ip css hl i _ hc j JQ];exact hj
  have wY:i*s+j<n*s:=by
   have:(i+1)*s<=n*s:=Nat.mul_le_mul_right _ Za
   rw [Nat.add_mul] at this
   omega
  rw [<-h7,List.getElem?_take,if_pos wY] at hf
  simpa using hf
theorem r8{α:Type}{w:qW}{B s:Nat}{e:TypeId}{v:qV}{cs:List qV}{x:α}{ok:Nat->Prop}{El:α->List qV->Prop}(h:w.ownsRow B e s v 1 cs)(hl:cs.length=s)(hE:El x cs)(xo: ∀g,v.ownBlock=some g->ok g):RwAt w ok s El v [x]:=by
 refine dF (css:=[cs]) (n:=1) (B:=B) (e:=e) (by simpa using h) (by simpa using hl) rfl rfl (fun i y c hy hc=>?_) xo
 obtain rfl:i=0:=by have:=(List.getElem?_eq_some_iff.1 hc).1;simpa using this
 simp at hy hc
 subst hy hc
 exact hE
theorem cR{g k:Nat}(h:(Value.slice none 0 0).ownBlock=some g\/g=k):k<=g:=by
 rcases h with h|h
 ·simp [Value.ownBlock] at h
 ·omega
theorem ExAt.grow{w w':qW}{P g lo hi n:Nat}{e:Ex}{cs:List qV}(h:ExAt w (Fz lo hi) n e cs)(hk:Kp (fun k=>k=P\/k=g) w w')(hP:P<lo:=by (try simp only [au,aO,dv]);omega)(hg:g<lo\/hi<=g:=by (try simp only [au,aO,dv]);omega):ExAt w' (Fz lo hi) n e cs:=
 ExAt.keep hk.size (fun b hb hl=>⟨hb,hk.block b hl (by have:=hb.1;have:=hb.2;omega)⟩) n e cs h
theorem cU{P:Nat}{w W W':qW}{s:PS}{p:Regrown}(h:At P w W s)(hw:W'=more W p):At P w W' s/\Kp (·=P) W W':=by
 subst hw
 exact ⟨h.mo p,Kp.mo _ _⟩
theorem eY{d:Int}{s:PS}(h:(pDeep d s).1=true):d<=64/\pBad s=false/\pDeep d s=(true,s):=by
 unfold pDeep at*
 simp only at*
 split at h
 ·rename_i hd
  rw [gu 5 Zg] at h
  simp at h
 ·rename_i hd
  rw [if_neg hd]
  have hb:pBad s=false:=by simpa using h
  exact ⟨by omega,hb,by rw [hb];rfl⟩
theorem bM{t:qB}{s:PS}(h:(pIs t s).1=true):pIs t s=(true,pNext s):=by
 unfold pIs at*
 split
 ·simp_all
 ·split<;>simp_all
theorem dR{P:Nat}{s:PS}(w:qW)(h:PAt w P s)(d:Int)(hd:(pDeep d s).1=true):qC 66 #[pP P,iI d] w fun e w'=>e= .returned (.bool true)/\w'=w:=by
 obtain ⟨h1,h2, -⟩:=eY hd
 have HC:=Zh (At.begin h)
 clear h hd
 go_enter Tryz.func66,Tryz.ntmps66
 go_wp2_with (first|(go_at_call 60;refine (bA _ HC.out.pt).mono ?_;rintro e w1 ⟨rfl,rfl⟩))
 go_ret
 exact ⟨rfl,rfl⟩
theorem kS(s:PS):rng (pOrder s).1:=by
 rcases kR s with ⟨-,h⟩|⟨-, -,h⟩|⟨-, -, -,h⟩|⟨-, -, -, -,h⟩|⟨-, -, -, -,h⟩
 all_goals
  rw [h.out]
  unfold rng
  simp
theorem oU{P n:Nat}{pe:PE}(HE:HEx P n pe){s:PS}(w:qW)(h:PAt w P s)(d:Int)(yV:0<=d)(hd:d<=900)(r:Ex×PS)(hr:pValue pe d s=some r):
  qC 97 #[pP P,iI d] w fun e w'=> ∃v,e= .returned v/\Kp (·=P) w w'/\PAt w' P r.2/\RwAt w' (Fz w.heap.size w'.heap.size) 8 (ExAt w' (Fz w.heap.size w'.heap.size) n) v [r.1]:=by
 have HX:=Zh HE
 have HR:=Zh hr
 have HC:=Zh (At.begin h)
 clear h HE hr
 go_enter Tryz.func97,Tryz.ntmps97
 go_wp2_with (first|(go_at_call 34;refine (cY _ HC.out.pt _).mono ?_;rintro e w1 ⟨rfl,hT,hP⟩;replace HC:=Zh (HC.out.next hT hP);clear hT hP)|(go_at_call 100;refine (HX.out _ _ _ _ HC.out.pt Za Za HR.out).mono ?_;rintro e w1 ⟨pa,pc,ka,kc,rfl,hT,hP,hx⟩;have HV:=Zh (hx.lo HC.out.kp.size);replace HC:=Zh (HC.out.next hT hP);clear hT hP;clear hx))
 go_ret
 have hs:=HC.out.kp.size
 exact ⟨_,rfl,HC.out.kp.alloc _,HC.out.pt.alloc _,mZ (ExAt.turn HV.out (Kp.al _ _) HC.out.lt (zaq _) Zi) (zab _ _) rfl hs Zi⟩
end Go.Proofs.YtcekjfmfcefjpaaGreatDoor
