/- Walks. No condition. -/
import Derived.Test.YtcekjfmfcefjpaaGreatDoorG12
import Derived.Test.YtcekjfmfcefjpaaGreatDoorG15
set_option maxRecDepth 100000
set_option maxHeartbeats 0
set_option linter.all false
namespace Go.Proofs.YtcekjfmfcefjpaaGreatDoor
open Go.RowKit Go.Sort
theorem kr{P:Nat}{pe:PE}{s:PS}(w:qW)(h:PAt w P s)(d:Int)(r:PlaceD×PS)(hr:pPlace pe d s=some r):
  qC 98 #[pP P,iI d] w fun e w'=>e= .returned (.agg #[.string r.1.var,.slice none 0 0])/\Kp (·=P) w w'/\PAt w' P r.2/\r.1.parts=[]:=by
 have HC:=Zh (At.begin h)
 have wY:=h.lt
 clear h
 unfold pPlace at hr
 cases hb:pBad (pName s).2
 ·simp only [hb] at hr
  cases h1:(pIs (⟨#[46]⟩:qB) (pName s).2).1
  ·cases h2:(pIs (⟨#[91]⟩:qB) (pName s).2).1
   ·simp only [h1,h2] at hr
    have HR:=Zh hr
    clear hr
    go_enter Tryz.func98,Tryz.ntmps98
    go_wp2_with (first|(go_at_call 32;refine (eV _ (At.pt (w:=w) Ze)).mono ?_;rintro e w1 ⟨rfl,hT,hP⟩;replace HC:=Zh (At.next (w:=w) Ze hT hP);clear hP;(try (replace V1:=Zh (Has.same ZH hT)));(try (replace V2:=Zh (Has.same ZI hT)));(try (replace V3:=Zh (Has.same ZJ hT)));(try (replace HV:=Zh (ExAt.same ZC hT)));(try (replace yg:=Zh (ExAt.same ZF hT)));(try (replace HO:=Zh (ah ZK hT (fun g1 xn=>by (try simp only []);simp [Value.ownBlock] at xn;omega))));have hs:=HC.out.kp.size;have hm:=Kp.size hT;(try simp only [Zz] at hm);(repeat ((first|(with_reducible obtain ⟨hx,hy,hT⟩:=hT.peel)|(with_reducible obtain ⟨hx,hy,hT⟩:=hT.peelA));(try simp only [Zz] at hx hy);rw [hx];clear hx));(repeat (clear hT))))
    refine zao 1 ?_;rw [zap]
    go_wp2_with (first|(go_at_call 60;refine (bA _ (At.pt (w:=w) Ze)).mono ?_;rintro e w1 ⟨rfl,rfl⟩)|(go_at_call 31;refine (bN _ (At.pt (w:=w) Ze) ZA).mono ?_;rintro e w1 ⟨rfl,rfl⟩))
    have e:=HR.out
    simp only [zaY,if_false,zaA] at e
    subst e
    (try simp only [Exit.inBlock,Exit.then]);refine zad (by simp [results,Tryz.results98,go_sem,↓IntWalk.iteOmega];try rfl) rfl ?_
    suffices hC:At P w _ (pName s).2 from ⟨rfl,hC.kp,hC.pt,by simp⟩
    repeat (first|with_reducible exact HC.out|with_reducible apply At.alloc|with_reducible apply At.drew|((with_reducible apply At.own);rotate_left;omega))
   ·simp [h1,h2] at hr
  ·simp [h1] at hr
 ·simp only [hb] at hr
  have HR:=Zh hr
  clear hr
  go_enter Tryz.func98,Tryz.ntmps98
  go_wp2_with (first|(go_at_call 32;refine (eV _ (At.pt (w:=w) Ze)).mono ?_;rintro e w1 ⟨rfl,hT,hP⟩;replace HC:=Zh (At.next (w:=w) Ze hT hP);clear hP;(try (replace V1:=Zh (Has.same ZH hT)));(try (replace V2:=Zh (Has.same ZI hT)));(try (replace V3:=Zh (Has.same ZJ hT)));(try (replace HV:=Zh (ExAt.same ZC hT)));(try (replace yg:=Zh (ExAt.same ZF hT)));(try (replace HO:=Zh (ah ZK hT (fun g1 xn=>by (try simp only []);simp [Value.ownBlock] at xn;omega))));have hs:=HC.out.kp.size;have hm:=Kp.size hT;(try simp only [Zz] at hm);(repeat ((first|(with_reducible obtain ⟨hx,hy,hT⟩:=hT.peel)|(with_reducible obtain ⟨hx,hy,hT⟩:=hT.peelA));(try simp only [Zz] at hx hy);rw [hx];clear hx));(repeat (clear hT))))
  refine zao 1 ?_;rw [zap]
  go_wp2_with (first|(go_at_call 60;refine (bA _ (At.pt (w:=w) Ze)).mono ?_;rintro e w1 ⟨rfl,rfl⟩))
  have e:=HR.out
  simp only [if_true,zaA] at e
  subst e
  (try simp only [Exit.inBlock,Exit.then]);refine zad (by simp [results,Tryz.results98,go_sem,↓IntWalk.iteOmega];try rfl) rfl ?_
  suffices hC:At P w _ (pName s).2 from ⟨rfl,hC.kp,hC.pt,by simp⟩
  repeat (first|with_reducible exact HC.out|with_reducible apply At.alloc|with_reducible apply At.drew|((with_reducible apply At.own);rotate_left;omega))
theorem ud{pe:PE}{d:Int}{s:PS}{r:Ex×PS}(hr:pBinary pe d s=some r): ∃a s1 b s4 s3,pe (d+1) s=some (a,s1)/\pe (d+1) s3=some (b,s4)/\r=(.mk 3 0 (⟨#[]⟩:qB) (operator (pPeek s1)) 0 (⟨#[]⟩:qB) [] [a,b],pWant (⟨#[41]⟩:qB) s4)/\
  ((pBad s1=false/\(operator (pPeek s1)==0)=false/\s3=pNext s1)\/(pBad s1=false/\(operator (pPeek s1)==0)=true/\s3=pFail 4 s1)\/(pBad s1=true/\s1=s3)):=by
 unfold pBinary at hr
 rcases h1:pe (d+1) s with _|⟨a,s1⟩
 ·simp [h1] at hr
 simp only [h1] at hr
 cases hb:pBad s1
 ·cases ho:operator (pPeek s1)==0
  ·simp only [hb,ho,Bool.not_false,Bool.and_false,zaY,if_false,if_true] at hr
   rcases h2:pe (d+1) (pNext s1) with _|⟨b,s4⟩
   ·simp [h2] at hr
   simp only [h2,zaA] at hr
   exact ⟨a,s1,b,s4,_,rfl,h2,hr.symm,.inl ⟨hb,ho,rfl⟩⟩
  ·have hf:=gu 4 Zg s1
   simp only [hb,ho,hf,Bool.not_false,Bool.not_true,Bool.and_true,zaY,if_false,if_true] at hr
   rcases h2:pe (d+1) (pFail 4 s1) with _|⟨b,s4⟩
   ·simp [h2] at hr
   simp only [h2,zaA] at hr
   exact ⟨a,s1,b,s4,_,rfl,h2,hr.symm,.inr (.inl ⟨hb,ho,rfl⟩)⟩
 ·simp only [hb,Bool.not_true,zay,zaY,if_false] at hr
  rcases h2:pe (d+1) s1 with _|⟨b,s4⟩
  ·simp [h2] at hr
  simp only [h2,zaA] at hr
  exact ⟨a,s1,b,s4,_,rfl,h2,hr.symm,.inr (.inr ⟨hb,rfl⟩)⟩
theorem yeD{P n:Nat}{pe:PE}(HE:HEx P n pe){s:PS}(w:qW)(h:PAt w P s)(d:Int)(yV:0<=d)(hd:d<=900)(r:Ex×PS)(hr:pBinary pe d s=some r):
  qC 139 #[pP P,iI d] w (ParX P (n+1) w r):=by
 have HX:=Zh HE
 have HC:=Zh (At.begin h)
 have wY:=h.lt
 clear h HE
 obtain ⟨a,s1,b,s4,s3,h1,h2,rfl,h3⟩:=ud hr
 have HR:=Zh h1
 have AG:=Zh h2
 clear h1 h2 hr
 have hf:=gu 4 Zg s1
 rcases h3 with ⟨hb,ho,rfl⟩|⟨hb,ho,rfl⟩|⟨hb,rfl⟩
 all_goals
  go_enter Tryz.func139,Tryz.ntmps139
  go_wp2_with ((first|(go_at_call 100;refine (HX.out _ _ _ _ (At.pt (w:=w) Ze) Za Za HR.out).mono ?_;rintro e w1 ⟨pa,pc,ka,kc,rfl,hT,hP,hv⟩;replace HC:=Zh (At.next (w:=w) Ze hT hP);clear hP;(try (replace V1:=Zh (Has.same ZH hT)));(try (replace V2:=Zh (Has.same ZI hT)));(try (replace V3:=Zh (Has.same ZJ hT)));(try (replace HV:=Zh (ExAt.same ZC hT)));(try (replace yg:=Zh (ExAt.same ZF hT)));(try (replace HO:=Zh (ah ZK hT (fun g1 xn=>by (try simp only []);simp [Value.ownBlock] at xn;omega))));have hs:=HC.out.kp.size;have hm:=Kp.size hT;(try simp only [Zz] at hm);(repeat ((first|(with_reducible obtain ⟨hx,hy,hT⟩:=hT.peel)|(with_reducible obtain ⟨hx,hy,hT⟩:=hT.peelA));(try simp only [Zz] at hx hy);rw [hx];clear hx));(repeat (clear hT));(try (have yg:=HV;clear HV));have HV:=Zh hv;clear hv;(try (replace HR:=AG;clear AG)))|(go_at_call 61;refine (bZ _ (At.pt (w:=w) Ze)).mono ?_;rintro e w1 ⟨rfl,rfl⟩)|(go_at_call 188;refine (uE _ _).mono ?_;rintro e w1 ⟨rfl,rfl⟩)|(go_at_call 60;refine (bA _ (At.pt (w:=w) Ze)).mono ?_;rintro e w1 ⟨rfl,rfl⟩)|(go_at_call 62;refine (dK _ (At.pt (w:=w) Ze)).mono ?_;rintro e w1 ⟨rfl,hT,hP⟩)|(go_at_call 65;refine (dm _ (At.pt (w:=w) Ze) _ (by unfold rng;omega)).mono ?_;rintro e w1 ⟨rfl,hT,hP⟩)|(go_at_call 34;refine (cY _ (At.pt (w:=w) Ze) _).mono ?_;rintro e w1 ⟨rfl,hT,hP⟩));(try (replace HC:=Zh (At.next (w:=w) Ze hT hP);clear hP;(try (replace V1:=Zh (Has.same ZH hT)));(try (replace V2:=Zh (Has.same ZI hT)));(try (replace V3:=Zh (Has.same ZJ hT)));(try (replace HV:=Zh (ExAt.same ZC hT)));(try (replace yg:=Zh (ExAt.same ZF hT)));(try (replace HO:=Zh (ah ZK hT (fun g1 xn=>by (try simp only []);simp [Value.ownBlock] at xn;omega))));have hs:=HC.out.kp.size;have hm:=Kp.size hT;(try simp only [Zz] at hm);(repeat ((first|(with_reducible obtain ⟨hx,hy,hT⟩:=hT.peel)|(with_reducible obtain ⟨hx,hy,hT⟩:=hT.peelA));(try simp only [Zz] at hx hy);rw [hx];clear hx));(repeat (clear hT)))))
  (try simp only [Exit.inBlock,Exit.then]);refine zad (by simp [results,Tryz.results139,go_sem,↓IntWalk.iteOmega];try rfl) rfl ?_
  have ho:=uF (pPeek s1)
  refine ⟨none,0,_,2,rfl,At.kp (w:=w) (s:=pWant (⟨#[41]⟩:qB) s4) Ze,At.pt (w:=w) Ze,?_⟩
  exact ⟨_,_,rfl,RwAt.nil _ _ _ _,ydi (ExAt.wide ZF Zc Zc) (ExAt.wide ZC Zc Zc) (by (repeat (rw [aL,if_neg Zc]));exact zab _ _) rfl rfl ⟨Zc,Zc⟩,by unfold rng;simp [Ex.kind],by simp [Ex.n],by unfold rng;simp [Ex.op];omega,by unfold rng;simp [Ex.order]⟩
theorem yfh{P n:Nat}{pe:PE}(HE:HEx P n pe){s:PS}(w:qW)(h:PAt w P s)(d k:Int)(yV:0<=d)(hd:d<=900)(Bq:rng k)(hk:(k !=4)=true)(r:Ex×PS)(hr:pAccess pe k 1 d s=some r):
  qC 140 #[pP P,iI k,iI 1,iI d] w (ParX P (n+1) w r):=by
 obtain ⟨i0,xz,xq,xm,xk⟩:=zan ydj
 have HX:=Zh HE
 have HC:=Zh (At.begin h)
 have wY:=h.lt
 clear h HE
 unfold pAccess at hr
 simp only [hk,if_true] at hr
 rcases h1:pPlace pe d (pOrder s).2 with _|⟨x,s1⟩
 ·simp [h1] at hr
 simp only [h1,pKids] at hr
 rcases h2:pe (d+1) s1 with _|⟨a,s2⟩
 ·simp [h2] at hr
 simp only [h2,zaA] at hr
 subst hr
 have HL:=Zh h1
 have HR:=Zh h2
 clear h1 h2
 have FB:=cW yV (by omega:d<=1000)
 go_enter Tryz.func140,Tryz.ntmps140
 go_wp2_with ((first|(go_at_call 99;refine (kn _ (At.pt (w:=w) Ze)).mono ?_;rintro e w1 ⟨rfl,hT,hP⟩)|(go_at_call 98;refine (kr _ (At.pt (w:=w) Ze) _ _ HL.out).mono ?_;rintro e w1 ⟨rfl,hT,hP,Eg⟩));(try (replace HC:=Zh (At.next (w:=w) Ze hT hP);clear hP;(try (replace V1:=Zh (Has.same ZH hT)));(try (replace V2:=Zh (Has.same ZI hT)));(try (replace V3:=Zh (Has.same ZJ hT)));(try (replace HV:=Zh (ExAt.same ZC hT)));(try (replace yg:=Zh (ExAt.same ZF hT)));(try (replace HO:=Zh (ah ZK hT (fun g1 xn=>by (try simp only []);simp [Value.ownBlock] at xn;omega))));have hs:=HC.out.kp.size;have hm:=Kp.size hT;(try simp only [Zz] at hm);(repeat ((first|(with_reducible obtain ⟨hx,hy,hT⟩:=hT.peel)|(with_reducible obtain ⟨hx,hy,hT⟩:=hT.peelA));(try simp only [Zz] at hx hy);rw [hx];clear hx));(repeat (clear hT)))))
 refine zao 2 ?_;rw [zap]
 go_wp2_with fail
 go_region_law (first
  |(refine a8 (.tmp 25) (.tmp 30) 159 217 i0 _ 8 112 Tryz.underlying159 xz xq xm xk rfl Zg rfl rfl w.heap.size (.slice none 0 0) 0 [] (zaX _ _ _ _) w1.heap.size #[iI a.kind,.int .u64 a.n,.string a.name,iI a.op,iI a.order,.string a.var,.slice pa a.parts.length pc,.slice ka a.kids.length kc] 217 (0,0) (by (repeat (rw [aL,if_neg Zc]));exact zab _ _) ZB ZB rfl ZL Za Za Zc ?_;intro g cap w1 hown wW xb xy;have xY:=cR xb;simp only [Zz] at xY;have hT:=(At.grow0 (w:=w) Ze wW).2;replace HC:=Zh (At.grow0 (w:=w) Ze wW).1;(try (replace V1:=Zh (Has.same ZH hT)));(try (replace V2:=Zh (Has.same ZI hT)));(try (replace V3:=Zh (Has.same ZJ hT)));(try (replace HV:=Zh (ExAt.same ZC hT)));(try (replace yg:=Zh (ExAt.same ZF hT)));simp only [zag,Nat.reduceAdd,List.nil_append] at hown;have HO:=Zh hown;clear hown xb wW;have hs:=HC.out.kp.size;have hm:=Kp.size hT;(try simp only [Zz] at hm);(repeat ((first|(with_reducible obtain ⟨hx,hy,hT⟩:=hT.peel)|(with_reducible obtain ⟨hx,hy,hT⟩:=hT.peelA));(try simp only [Zz] at hx hy);rw [hx];clear hx));(repeat (clear hT)))
  |(go_simp;first|(go_at_call 100;refine (HX.out _ _ _ _ (At.pt (w:=w) Ze) Za Za HR.out).mono ?_;rintro e w1 ⟨pa,pc,ka,kc,rfl,hT,hP,hv⟩;replace HC:=Zh (At.next (w:=w) Ze hT hP);clear hP;(try (replace V1:=Zh (Has.same ZH hT)));(try (replace V2:=Zh (Has.same ZI hT)));(try (replace V3:=Zh (Has.same ZJ hT)));(try (replace HV:=Zh (ExAt.same ZC hT)));(try (replace yg:=Zh (ExAt.same ZF hT)));(try (replace HO:=Zh (ah ZK hT (fun g1 xn=>by (try simp only []);simp [Value.ownBlock] at xn;omega))));have hs:=HC.out.kp.size;have hm:=Kp.size hT;(try simp only [Zz] at hm);(repeat ((first|(with_reducible obtain ⟨hx,hy,hT⟩:=hT.peel)|(with_reducible obtain ⟨hx,hy,hT⟩:=hT.peelA));(try simp only [Zz] at hx hy);rw [hx];clear hx));(repeat (clear hT));(try (have yg:=HV;clear HV));have HV:=Zh hv;clear hv;(try (replace HR:=AG;clear AG)))))
 all_goals
  go_wp2_with fail
  rw [zap]
  go_wp2_with fail
  (try simp only [Exit.inBlock,Exit.then]);refine zad (by simp [results,Tryz.results140,go_sem,↓IntWalk.iteOmega];try rfl) rfl ?_
  refine ⟨none,0,aA g,cap,by simp [Ex.kind,Ex.n,Ex.name,Ex.op,Ex.order,Ex.var,Ex.parts,Ex.kids,Eg],At.kp (w:=w) (s:=s2) Ze,At.pt (w:=w) Ze,?_⟩
  refine ⟨_,_,rfl,by simp only [Ex.parts,Eg];exact RwAt.nil _ _ _ _,?_,Bq,by simp [Ex.n],by unfold rng;simp [Ex.op],kS _⟩
  show RwAt _ _ 8 (ExAt _ _ n) (.slice (aA g) 1 cap) [a]
  have ho:w1.ownsRow w.heap.size 217 8 (.slice (aA g) 1 cap) 1 [iI a.kind,.int .u64 a.n,.string a.name,iI a.op,iI a.order,.string a.var,.slice pa a.parts.length pc,.slice ka a.kids.length kc]:=HO.out
  exact r8 (by (repeat (first|with_reducible exact ho|with_reducible apply gw|with_reducible apply World.ownsRow.alloc|with_reducible apply gx));all_goals (simp [Value.ownBlock];omega)) rfl (ExAt.wide ZC Zc Zc) (fun g' Iq=>by simp [Value.ownBlock] at Iq;subst Iq;exact ⟨Zc,Zc⟩)
theorem t8(m:Nat)(hm:m<18446744073709551616)(s:PS):(pNumber m s).1<18446744073709551616:=by
 unfold pNumber
 split
 ·simp
 ·split
  ·simp
  ·simp only;omega
theorem ydc{P n:Nat}{pe:PE}(HE:HEx P n pe):HEx P (n+1) (pExprF pe):=by
 intro w s d r h yV Dl hr
 have HX:=Zh HE
 have HC:=Zh (At.begin h)
 have wY:=h.lt
 clear h HE
 unfold pExprF at hr
 cases hb:(pDeep d s).1
 ·simp [hb] at hr
 obtain ⟨hd,CV,hs⟩:=eY hb
 simp only [hb,Bool.not_true,zaY,if_false] at hr
 rw [hs] at hr
 simp only at hr
 clear hs
 cases g1:digits (pPeek s)
 rotate_left
 ·simp only [g1,if_true,zaA] at hr
  subst hr
  go_enter Tryz.func100,Tryz.ntmps100
  go_wp2_with (first|(go_at_call 66;refine (dR _ (At.pt (w:=w) Ze) _ ZA).mono ?_;rintro e w1 ⟨rfl,rfl⟩)|(go_at_call 61;refine (bZ _ (At.pt (w:=w) Ze)).mono ?_;rintro e w1 ⟨rfl,rfl⟩)|(go_at_call 95;refine (dP _ _).mono ?_;rintro e w1 ⟨rfl,rfl⟩)|(go_at_call 69;refine (tB _ (At.pt (w:=w) Ze) _).mono ?_;rintro e w1 ⟨rfl,hT,hP⟩;replace HC:=Zh (At.next (w:=w) Ze hT hP);clear hP;(try (replace V1:=Zh (Has.same ZH hT)));(try (replace V2:=Zh (Has.same ZI hT)));(try (replace V3:=Zh (Has.same ZJ hT)));(try (replace HV:=Zh (ExAt.same ZC hT)));(try (replace yg:=Zh (ExAt.same ZF hT)));(try (replace HO:=Zh (ah ZK hT (fun g1 xn=>by (try simp only []);simp [Value.ownBlock] at xn;omega))));have hs:=HC.out.kp.size;have hm:=Kp.size hT;(try simp only [Zz] at hm);(repeat ((first|(with_reducible obtain ⟨hx,hy,hT⟩:=hT.peel)|(with_reducible obtain ⟨hx,hy,hT⟩:=hT.peelA));(try simp only [Zz] at hx hy);rw [hx];clear hx));(repeat (clear hT))))
  (try simp only [Exit.inBlock,Exit.then]);refine zad (by simp [results,Tryz.results100,go_sem,↓IntWalk.iteOmega];try rfl) rfl ?_
  have hn:=t8 18446744073709551615 Zg s
  exact ⟨none,0,none,0,rfl,At.kp (w:=w) (s:=(pNumber 18446744073709551615 s).2) Ze,At.pt (w:=w) Ze,_,_,rfl,RwAt.nil _ _ _ _,RwAt.nil _ _ _ _,by unfold rng;simp [Ex.kind],by simpa [Ex.n] using hn,by unfold rng;simp [Ex.op],by unfold rng;simp [Ex.order]⟩
 cases g2:letters (pPeek s)&&!keyw (pPeek s)
 rotate_left
 ·simp only [g1,g2,zaY,if_false,if_true,zaA] at hr
  subst hr
  obtain ⟨g3,g4⟩:letters (pPeek s)=true/\keyw (pPeek s)=false:=by simpa using g2
  go_enter Tryz.func100,Tryz.ntmps100
  go_wp2_with (first|(go_at_call 66;refine (dR _ (At.pt (w:=w) Ze) _ ZA).mono ?_;rintro e w1 ⟨rfl,rfl⟩)|(go_at_call 61;refine (bZ _ (At.pt (w:=w) Ze)).mono ?_;rintro e w1 ⟨rfl,rfl⟩)|(go_at_call 95;refine (dP _ _).mono ?_;rintro e w1 ⟨rfl,rfl⟩)|(go_at_call 63;refine (ep _ _).mono ?_;rintro e w1 ⟨rfl,rfl⟩)|(go_at_call 64;refine (dL _ _ (At.pt (w:=w) Ze).sp).mono ?_;rintro e w1 ⟨rfl,p,hw⟩;have hT:=(cU (w:=w) Ze hw).2;replace HC:=Zh (cU (w:=w) Ze hw).1;clear hw p;(try (replace V1:=Zh (Has.same ZH hT)));(try (replace V2:=Zh (Has.same ZI hT)));(try (replace V3:=Zh (Has.same ZJ hT)));(try (replace HV:=Zh (ExAt.same ZC hT)));(try (replace yg:=Zh (ExAt.same ZF hT)));(try (replace HO:=Zh (ah ZK hT (fun g1 xn=>by (try simp only []);simp [Value.ownBlock] at xn;omega))));have hs:=HC.out.kp.size;have hm:=Kp.size hT;(try simp only [Zz] at hm);(repeat ((first|(with_reducible obtain ⟨hx,hy,hT⟩:=hT.peel)|(with_reducible obtain ⟨hx,hy,hT⟩:=hT.peelA));(try simp only [Zz] at hx hy);rw [hx];clear hx));(repeat (clear hT)))|(go_at_call 62;refine (dK _ (At.pt (w:=w) Ze)).mono ?_;rintro e w1 ⟨rfl,hT,hP⟩;replace HC:=Zh (At.next (w:=w) Ze hT hP);clear hP;(try (replace V1:=Zh (Has.same ZH hT)));(try (replace V2:=Zh (Has.same ZI hT)));(try (replace V3:=Zh (Has.same ZJ hT)));(try (replace HV:=Zh (ExAt.same ZC hT)));(try (replace yg:=Zh (ExAt.same ZF hT)));(try (replace HO:=Zh (ah ZK hT (fun g1 xn=>by (try simp only []);simp [Value.ownBlock] at xn;omega))));have hs:=HC.out.kp.size;have hm:=Kp.size hT;(try simp only [Zz] at hm);(repeat ((first|(with_reducible obtain ⟨hx,hy,hT⟩:=hT.peel)|(with_reducible obtain ⟨hx,hy,hT⟩:=hT.peelA));(try simp only [Zz] at hx hy);rw [hx];clear hx));(repeat (clear hT))))
  (try simp only [Exit.inBlock,Exit.then]);refine zad (by simp [results,Tryz.results100,go_sem,↓IntWalk.iteOmega];try rfl) rfl ?_
  exact ⟨none,0,none,0,rfl,At.kp (w:=w) (s:=pNext s) Ze,At.pt (w:=w) Ze,_,_,rfl,RwAt.nil _ _ _ _,RwAt.nil _ _ _ _,by unfold rng;simp [Ex.kind],by simp [Ex.n],by unfold rng;simp [Ex.op],by unfold rng;simp [Ex.order]⟩
 simp only [g1,g2,zaY,if_false] at hr
 have g3:letters (pPeek s)=false\/(letters (pPeek s)=true/\keyw (pPeek s)=true):=by
  cases h3:letters (pPeek s)
  ·exact .inl rfl
  ·cases h4:keyw (pPeek s)
   ·simp [h3,h4] at g2
   ·exact .inr ⟨rfl,rfl⟩
 clear g2
 cases q0:(pIs (⟨#[40]⟩:qB) s).1
 rotate_left
 ·simp only [q0,if_true] at hr
  rw [bM q0] at hr
  have HL:=Zh hr
  clear hr
  rcases g3 with g3|⟨g3,g4⟩
  all_goals
   go_enter Tryz.func100,Tryz.ntmps100
   go_wp2_with (first|(go_at_call 66;refine (dR _ (At.pt (w:=w) Ze) _ ZA).mono ?_;rintro e w1 ⟨rfl,rfl⟩)|(go_at_call 61;refine (bZ _ (At.pt (w:=w) Ze)).mono ?_;rintro e w1 ⟨rfl,rfl⟩)|(go_at_call 95;refine (dP _ _).mono ?_;rintro e w1 ⟨rfl,rfl⟩)|(go_at_call 63;refine (ep _ _).mono ?_;rintro e w1 ⟨rfl,rfl⟩)|(go_at_call 64;refine (dL _ _ (At.pt (w:=w) Ze).sp).mono ?_;rintro e w1 ⟨rfl,p,hw⟩;have hT:=(cU (w:=w) Ze hw).2;replace HC:=Zh (cU (w:=w) Ze hw).1;clear hw p;(try (replace V1:=Zh (Has.same ZH hT)));(try (replace V2:=Zh (Has.same ZI hT)));(try (replace V3:=Zh (Has.same ZJ hT)));(try (replace HV:=Zh (ExAt.same ZC hT)));(try (replace yg:=Zh (ExAt.same ZF hT)));(try (replace HO:=Zh (ah ZK hT (fun g1 xn=>by (try simp only []);simp [Value.ownBlock] at xn;omega))));have hs:=HC.out.kp.size;have hm:=Kp.size hT;(try simp only [Zz] at hm);(repeat ((first|(with_reducible obtain ⟨hx,hy,hT⟩:=hT.peel)|(with_reducible obtain ⟨hx,hy,hT⟩:=hT.peelA));(try simp only [Zz] at hx hy);rw [hx];clear hx));(repeat (clear hT)))|(go_at_call 31;refine (bN _ (At.pt (w:=w) Ze) ZA).mono ?_;rintro e w1 ⟨rfl,rfl⟩)|(go_at_call 31;refine (cJ _ (At.pt (w:=w) Ze) ZA).mono ?_;rintro e w1 ⟨rfl,hT,hP⟩;replace HC:=Zh (At.next (w:=w) Ze hT hP);clear hP;(try (replace V1:=Zh (Has.same ZH hT)));(try (replace V2:=Zh (Has.same ZI hT)));(try (replace V3:=Zh (Has.same ZJ hT)));(try (replace HV:=Zh (ExAt.same ZC hT)));(try (replace yg:=Zh (ExAt.same ZF hT)));(try (replace HO:=Zh (ah ZK hT (fun g1 xn=>by (try simp only []);simp [Value.ownBlock] at xn;omega))));have hs:=HC.out.kp.size;have hm:=Kp.size hT;(try simp only [Zz] at hm);(repeat ((first|(with_reducible obtain ⟨hx,hy,hT⟩:=hT.peel)|(with_reducible obtain ⟨hx,hy,hT⟩:=hT.peelA));(try simp only [Zz] at hx hy);rw [hx];clear hx));(repeat (clear hT)))|(go_at_call 139;refine (yeD HX.out _ (At.pt (w:=w) Ze) _ Za Za _ HL.out).mono ?_;rintro e w1 ⟨pa,pc,ka,kc,rfl,hT,hP,hv⟩;replace HC:=Zh (At.next (w:=w) Ze hT hP);clear hP;(try (replace V1:=Zh (Has.same ZH hT)));(try (replace V2:=Zh (Has.same ZI hT)));(try (replace V3:=Zh (Has.same ZJ hT)));(try (replace HV:=Zh (ExAt.same ZC hT)));(try (replace yg:=Zh (ExAt.same ZF hT)));(try (replace HO:=Zh (ah ZK hT (fun g1 xn=>by (try simp only []);simp [Value.ownBlock] at xn;omega))));have hs:=HC.out.kp.size;have hm:=Kp.size hT;(try simp only [Zz] at hm);(repeat ((first|(with_reducible obtain ⟨hx,hy,hT⟩:=hT.peel)|(with_reducible obtain ⟨hx,hy,hT⟩:=hT.peelA));(try simp only [Zz] at hx hy);rw [hx];clear hx));(repeat (clear hT));(try (have yg:=HV;clear HV));have HV:=Zh hv;clear hv;(try (replace HR:=AG;clear AG))))
   (try simp only [Exit.inBlock,Exit.then]);refine zad (by simp [results,Tryz.results100,go_sem,↓IntWalk.iteOmega];try rfl) rfl ?_
   exact ⟨pa,pc,ka,kc,rfl,At.kp (w:=w) (s:=r.2) Ze,At.pt (w:=w) Ze,(ExAt.wide ZC Zc Zc)⟩
 simp only [q0,zaY,if_false] at hr
 cases q1:(pIs (⟨#[114,101,97,100]⟩:qB) s).1
 rotate_left
 ·simp [q1] at hr
 simp only [q1,zaY,if_false] at hr
 cases q2:(pIs (⟨#[108,111,97,100]⟩:qB) s).1
 rotate_left
 ·simp [q2] at hr
 simp only [q2,zaY,if_false] at hr
 cases q3:(pIs (⟨#[97,100,100]⟩:qB) s).1
 rotate_left
 ·simp [q3] at hr
 simp only [q3,zaY,if_false] at hr
 cases q4:(pIs (⟨#[115,119,97,112]⟩:qB) s).1
 rotate_left
 ·simp only [q4,if_true] at hr
  rw [bM q4] at hr
  have HL:=Zh hr
  clear hr
  rcases g3 with g3|⟨g3,g4⟩
  all_goals
   go_enter Tryz.func100,Tryz.ntmps100
   go_wp2_with (first|(go_at_call 66;refine (dR _ (At.pt (w:=w) Ze) _ ZA).mono ?_;rintro e w1 ⟨rfl,rfl⟩)|(go_at_call 61;refine (bZ _ (At.pt (w:=w) Ze)).mono ?_;rintro e w1 ⟨rfl,rfl⟩)|(go_at_call 95;refine (dP _ _).mono ?_;rintro e w1 ⟨rfl,rfl⟩)|(go_at_call 63;refine (ep _ _).mono ?_;rintro e w1 ⟨rfl,rfl⟩)|(go_at_call 64;refine (dL _ _ (At.pt (w:=w) Ze).sp).mono ?_;rintro e w1 ⟨rfl,p,hw⟩;have hT:=(cU (w:=w) Ze hw).2;replace HC:=Zh (cU (w:=w) Ze hw).1;clear hw p;(try (replace V1:=Zh (Has.same ZH hT)));(try (replace V2:=Zh (Has.same ZI hT)));(try (replace V3:=Zh (Has.same ZJ hT)));(try (replace HV:=Zh (ExAt.same ZC hT)));(try (replace yg:=Zh (ExAt.same ZF hT)));(try (replace HO:=Zh (ah ZK hT (fun g1 xn=>by (try simp only []);simp [Value.ownBlock] at xn;omega))));have hs:=HC.out.kp.size;have hm:=Kp.size hT;(try simp only [Zz] at hm);(repeat ((first|(with_reducible obtain ⟨hx,hy,hT⟩:=hT.peel)|(with_reducible obtain ⟨hx,hy,hT⟩:=hT.peelA));(try simp only [Zz] at hx hy);rw [hx];clear hx));(repeat (clear hT)))|(go_at_call 31;refine (bN _ (At.pt (w:=w) Ze) ZA).mono ?_;rintro e w1 ⟨rfl,rfl⟩)|(go_at_call 31;refine (cJ _ (At.pt (w:=w) Ze) ZA).mono ?_;rintro e w1 ⟨rfl,hT,hP⟩;replace HC:=Zh (At.next (w:=w) Ze hT hP);clear hP;(try (replace V1:=Zh (Has.same ZH hT)));(try (replace V2:=Zh (Has.same ZI hT)));(try (replace V3:=Zh (Has.same ZJ hT)));(try (replace HV:=Zh (ExAt.same ZC hT)));(try (replace yg:=Zh (ExAt.same ZF hT)));(try (replace HO:=Zh (ah ZK hT (fun g1 xn=>by (try simp only []);simp [Value.ownBlock] at xn;omega))));have hs:=HC.out.kp.size;have hm:=Kp.size hT;(try simp only [Zz] at hm);(repeat ((first|(with_reducible obtain ⟨hx,hy,hT⟩:=hT.peel)|(with_reducible obtain ⟨hx,hy,hT⟩:=hT.peelA));(try simp only [Zz] at hx hy);rw [hx];clear hx));(repeat (clear hT)))|(go_at_call 140;refine (yfh HX.out _ (At.pt (w:=w) Ze) _ _ Za Za (by unfold rng;omega) rfl _ HL.out).mono ?_;rintro e w1 ⟨pa,pc,ka,kc,rfl,hT,hP,hv⟩;replace HC:=Zh (At.next (w:=w) Ze hT hP);clear hP;(try (replace V1:=Zh (Has.same ZH hT)));(try (replace V2:=Zh (Has.same ZI hT)));(try (replace V3:=Zh (Has.same ZJ hT)));(try (replace HV:=Zh (ExAt.same ZC hT)));(try (replace yg:=Zh (ExAt.same ZF hT)));(try (replace HO:=Zh (ah ZK hT (fun g1 xn=>by (try simp only []);simp [Value.ownBlock] at xn;omega))));have hs:=HC.out.kp.size;have hm:=Kp.size hT;(try simp only [Zz] at hm);(repeat ((first|(with_reducible obtain ⟨hx,hy,hT⟩:=hT.peel)|(with_reducible obtain ⟨hx,hy,hT⟩:=hT.peelA));(try simp only [Zz] at hx hy);rw [hx];clear hx));(repeat (clear hT));(try (have yg:=HV;clear HV));have HV:=Zh hv;clear hv;(try (replace HR:=AG;clear AG))))
   (try simp only [Exit.inBlock,Exit.then]);refine zad (by simp [results,Tryz.results100,go_sem,↓IntWalk.iteOmega];try rfl) rfl ?_
   exact ⟨pa,pc,ka,kc,rfl,At.kp (w:=w) (s:=r.2) Ze,At.pt (w:=w) Ze,(ExAt.wide ZC Zc Zc)⟩
 simp only [q4,zaY,if_false] at hr
 cases hr
theorem eB(P:Nat): ∀n,HEx P n (pExpr n)
 |0=>fun w s d r h yV Dl hr=>by cases hr
 |n+1=>ydc (eB P n)
structure Has(lo hi:Nat)(F:qW->Prop)(w:qW):Prop where
 dep: ∀a b:qW,a.heap.size<=b.heap.size->(∀k,lo<=k->k<hi->k<a.heap.size->b.heap[k]?=a.heap[k]?)->F a->F b
 is:F w
section
variable{lo hi:Nat}{F:qW->Prop}{w w':qW}
theorem Has.own(h:Has lo hi F w){k:Nat}(hk:k<lo\/hi<=k){cs:Array qV}{t:TypeId}:Has lo hi F (putB w k cs t):=
 ⟨h.dep,h.dep _ _ (by rw [aO];exact zaq _) (fun j h1 h2 _=>by rw [aL,if_neg Za]) h.is⟩
theorem Has.alloc(h:Has lo hi F w){o:Obj}:Has lo hi F (w.alloc o):=⟨h.dep,h.dep _ _ Zi (fun j h1 h2 hl=>zac _ _ hl) h.is⟩
theorem Has.drew(h:Has lo hi F w):Has lo hi F w.drew:=⟨h.dep,h.dep w w.drew (zaq w.heap.size) (fun j h1 h2 hl=>rfl) h.is⟩
theorem Has.same{P:Nat}(h:Has lo hi F w)(hk:Kp (·=P) w w')(hP:P<lo:=by (try simp only [Zz]);omega):Has lo hi F w':=⟨h.dep,h.dep _ _ hk.size (fun j h1 h2 hl=>hk.block j hl Za) h.is⟩
theorem Has.grow{P g:Nat}(h:Has lo hi F w)(hk:Kp (fun k=>k=P\/k=g) w w')(hP:P<lo:=by (try simp only [Zz]);omega)(hg:g<lo\/hi<=g:=by (try simp only [Zz]);omega):Has lo hi F w':=
 ⟨h.dep,h.dep _ _ hk.size (fun j h1 h2 hl=>hk.block j hl Za) h.is⟩
end
def XsAt(lo hi:Nat)(v:qV)(l:List Ex)(w:qW):Prop:=RwAt w (Fz lo hi) 8 (ExAt w (Fz lo hi) 66) v l
def SsAt(n lo hi:Nat)(v:qV)(l:List Sm)(w:qW):Prop:=RwAt w (Fz lo hi) 10 (SmAt w (Fz lo hi) n) v l
theorem XsAt.wide{w:qW}{lo hi lo' Al:Nat}{v:qV}{l:List Ex}(h:XsAt lo hi v l w)(h1:lo'<=lo)(h2:hi<=Al):XsAt lo' Al v l w:=
 h.keep (zaq _) (fun b hb _=>⟨⟨by omega,by omega⟩,rfl⟩) (fun x _ cs hx=>ExAt.wide hx h1 h2)
theorem SmAt.wide{w:qW}{lo hi lo' Al n:Nat}{x:Sm}{cs:List qV}(h:SmAt w (Fz lo hi) n x cs)(h1:lo'<=lo)(h2:hi<=Al):SmAt w (Fz lo' Al) n x cs:=SmAt.keep (zaq _) (fun b hb _=>⟨⟨by omega,by omega⟩,rfl⟩) n x cs h
theorem SsAt.wide{w:qW}{n lo hi lo' Al:Nat}{v:qV}{l:List Sm}(h:SsAt n lo hi v l w)(h1:lo'<=lo)(h2:hi<=Al):SsAt n lo' Al v l w:=
 h.keep (zaq _) (fun b hb _=>⟨⟨by omega,by omega⟩,rfl⟩) (fun x _ cs hx=>SmAt.wide hx h1 h2)
theorem XsAt.has{w:qW}{lo hi:Nat}{v:qV}{l:List Ex}(h:XsAt lo hi v l w):Has lo hi (XsAt lo hi v l) w:=
 ⟨fun a b hz hb ha=>RwAt.keep ha hz (fun k hk hl=>⟨hk,hb k hk.1 hk.2 hl⟩) (fun x _=>ExAt.keep hz (fun k hk hl=>⟨hk,hb k hk.1 hk.2 hl⟩) 66 x),h⟩
theorem SsAt.has{w:qW}{n lo hi:Nat}{v:qV}{l:List Sm}(h:SsAt n lo hi v l w):Has lo hi (SsAt n lo hi v l) w:=
 ⟨fun a b hz hb ha=>RwAt.keep ha hz (fun k hk hl=>⟨hk,hb k hk.1 hk.2 hl⟩) (fun x _=>SmAt.keep hz (fun k hk hl=>⟨hk,hb k hk.1 hk.2 hl⟩) n x),h⟩
theorem ExAt.has{w:qW}{n lo hi:Nat}{x:Ex}{cs:List qV}(h:ExAt w (Fz lo hi) n x cs):Has lo hi (fun w=>ExAt w (Fz lo hi) n x cs) w:=
 ⟨fun a b hz hb ha=>ExAt.keep hz (fun k hk hl=>⟨hk,hb k hk.1 hk.2 hl⟩) n x cs ha,h⟩
theorem SmAt.has{w:qW}{n lo hi:Nat}{x:Sm}{cs:List qV}(h:SmAt w (Fz lo hi) n x cs):Has lo hi (fun w=>SmAt w (Fz lo hi) n x cs) w:=
 ⟨fun a b hz hb ha=>SmAt.keep hz (fun k hk hl=>⟨hk,hb k hk.1 hk.2 hl⟩) n x cs ha,h⟩
theorem XsAt.slice{w:qW}{lo hi:Nat}{v:qV}{l:List Ex}(h:XsAt lo hi v l w): ∃a c,v= .slice a l.length c:=by
 obtain ⟨a,c,h1, -⟩:=h
 exact ⟨a,c,h1⟩
theorem SsAt.slice{w:qW}{n lo hi:Nat}{v:qV}{l:List Sm}(h:SsAt n lo hi v l w): ∃a c,v= .slice a l.length c:=by
 obtain ⟨a,c,h1, -⟩:=h
 exact ⟨a,c,h1⟩
theorem XsAt.nil(lo hi:Nat)(w:qW):XsAt lo hi (.slice none 0 0) [] w:=RwAt.nil _ _ _ _
theorem SsAt.nil(n lo hi:Nat)(w:qW):SsAt n lo hi (.slice none 0 0) [] w:=RwAt.nil _ _ _ _
theorem jZ{P:Nat}{s:PS}(w:qW)(h:PAt w P s)(d:Int)(yV:0<=d)(hd:d<=900)(r:Ex×PS)(hr:pValue (pExpr 66) d s=some r):
  qC 97 #[pP P,iI d] w fun e w'=> ∃a c,e= .returned (.slice a 1 c)/\Kp (·=P) w w'/\PAt w' P r.2/\XsAt w.heap.size w'.heap.size (.slice a 1 c) [r.1] w':=by
 refine (oU (eB P 66) w h d yV hd r hr).mono ?_
 rintro e w' ⟨v,rfl,hT,hP,hv⟩
 obtain ⟨a,c,rfl⟩:=XsAt.slice hv
 exact ⟨a,c,rfl,hT,hP,hv⟩
def ParS(P n:Nat)(w:qW)(r:Sm×PS)(e:Ending)(w':qW):Prop:=
 ∃pa pc xa xc ta tc la lc,e= .returned (.agg #[iI r.1.kind,iI r.1.line,.string r.1.name,.string r.1.name2,iI r.1.order,.string r.1.var,.slice pa r.1.parts.length pc,.slice xa r.1.exprs.length xc,.slice ta r.1.thn.length tc,.slice la r.1.els.length lc])/\
  Kp (·=P) w w'/\PAt w' P r.2/\SmAt w' (Fz w.heap.size w'.heap.size) n r.1 [iI r.1.kind,iI r.1.line,.string r.1.name,.string r.1.name2,iI r.1.order,.string r.1.var,.slice pa r.1.parts.length pc,.slice xa r.1.exprs.length xc,.slice ta r.1.thn.length tc,.slice la r.1.els.length lc]
def HBl(P n:Nat)(pb:PB):Prop:= ∀(w:qW) (s:PS) (d:Int) (r:List Sm×PS),PAt w P s->0<=d->d<=1000->pb d s=some r->
 qC 35 #[pP P,iI d] w fun e w'=> ∃a c,e= .returned (.slice a r.1.length c)/\Kp (·=P) w w'/\PAt w' P r.2/\SsAt n w.heap.size w'.heap.size (.slice a r.1.length c) r.1 w'
end Go.Proofs.YtcekjfmfcefjpaaGreatDoor
