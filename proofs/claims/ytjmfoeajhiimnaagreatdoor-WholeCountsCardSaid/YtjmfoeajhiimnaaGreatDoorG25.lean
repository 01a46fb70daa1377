/- Walks. No condition. -/
import Derived.Test.YtjmfoeajhiimnaaGreatDoorG24
set_option maxRecDepth 100000
set_option maxHeartbeats 0
set_option linter.all false
namespace Go.Proofs.YtjmfoeajhiimnaaGreatDoor
open Go.RowKit Go.Sort
theorem yfx{P n:Nat}{pe:PE}(HE:HEx P n pe){s:PS}(w:qW)(h:PAt w P s)(d k:Int)(yZ:0<=d)(hd:d<=900)(B6:rng k)(hk:(k !=4)=true)(r:Ex×PS)(hr:pAccess pe k 1 d s=some r):
  qC 117 #[pP P,iI k,iI 1,iI d] w (ParX P (n+1) w r):=by
 obtain ⟨i0,xF,xx,xu,xq⟩:=zan ydr
 have HX:=Zh HE
 have HC:=Zh (At.begin h)
 have xe:=h.lt
 clear h HE
 unfold pAccess at hr
 simp only [hk,if_true] at hr
 rcases h1:pPlace pe d (pOrder s).2 with _|⟨x,s1⟩
 ·simp [h1] at hr
 simp only [h1,pKids] at hr
 rcases h2:pe (d+1) s1 with _|⟨a,s2⟩
 ·simp [h2] at hr
 simp only [h2,zaA] at hr
 subst hr
 have HL:=Zh h1
 have HR:=Zh h2
 clear h1 h2
 have Js:=cM yZ (by omega:d<=1000)
 go_enter Tryz.func117,Tryz.ntmps117
 go_wp2_with ((first|(go_at_call 71;refine (t7 _ (At.pt (w:=w) Zf)).mono ?_;rintro e w1 ⟨rfl,hT,hP⟩)|(go_at_call 70;refine (kB _ (At.pt (w:=w) Zf) _ _ HL.out).mono ?_;rintro e w1 ⟨rfl,hT,hP,BT⟩));(try (replace HC:=Zh (At.next (w:=w) Zf hT hP);clear hP;(try (replace V1:=Zh (Has.same ZI hT)));(try (replace V2:=Zh (Has.same ZJ hT)));(try (replace V3:=Zh (Has.same ZK hT)));(try (replace HV:=Zh (ExAt.same ZE hT)));(try (replace yx:=Zh (ExAt.same ZH hT)));(try (replace HO:=Zh (ai ZL hT (fun g1 xy=>by (try simp only []);simp [Value.ownBlock] at xy;omega))));have hs:=HC.out.kp.size;have hm:=Kp.size hT;(try simp only [Zz] at hm);(repeat ((first|(with_reducible obtain ⟨hx,hy,hT⟩:=hT.peel)|(with_reducible obtain ⟨hx,hy,hT⟩:=hT.peelA));(try simp only [Zz] at hx hy);rw [hx];clear hx));(repeat (clear hT)))))
 refine zao 2 ?_;rw [zap]
 go_wp2_with fail
 go_region_law (first
  |(refine bf (.tmp 25) (.tmp 30) 134 192 i0 _ 8 112 Tryz.underlying134 xF xx xu xq rfl Zd rfl rfl w.heap.size (.slice none 0 0) 0 [] (zaX _ _ _ _) w1.heap.size #[iI a.kind,.int .u64 a.n,.string a.name,iI a.op,iI a.order,.string a.var,.slice pa a.parts.length pc,.slice ka a.kids.length kc] 192 (0,0) (by (repeat (rw [aM,if_neg Zc]));exact zab _ _) ZA ZA rfl ZD Za Za Zc ?_;intro g cap w1 hown xb xk xE;have yd:=cT xk;simp only [Zz] at yd;have hT:=(At.grow0 (w:=w) Zf xb).2;replace HC:=Zh (At.grow0 (w:=w) Zf xb).1;(try (replace V1:=Zh (Has.same ZI hT)));(try (replace V2:=Zh (Has.same ZJ hT)));(try (replace V3:=Zh (Has.same ZK hT)));(try (replace HV:=Zh (ExAt.same ZE hT)));(try (replace yx:=Zh (ExAt.same ZH hT)));simp only [zag,Nat.reduceAdd,List.nil_append] at hown;have HO:=Zh hown;clear hown xk xb;have hs:=HC.out.kp.size;have hm:=Kp.size hT;(try simp only [Zz] at hm);(repeat ((first|(with_reducible obtain ⟨hx,hy,hT⟩:=hT.peel)|(with_reducible obtain ⟨hx,hy,hT⟩:=hT.peelA));(try simp only [Zz] at hx hy);rw [hx];clear hx));(repeat (clear hT)))
  |(go_simp;first|(go_at_call 72;refine (HX.out _ _ _ _ (At.pt (w:=w) Zf) Za Za HR.out).mono ?_;rintro e w1 ⟨pa,pc,ka,kc,rfl,hT,hP,hv⟩;replace HC:=Zh (At.next (w:=w) Zf hT hP);clear hP;(try (replace V1:=Zh (Has.same ZI hT)));(try (replace V2:=Zh (Has.same ZJ hT)));(try (replace V3:=Zh (Has.same ZK hT)));(try (replace HV:=Zh (ExAt.same ZE hT)));(try (replace yx:=Zh (ExAt.same ZH hT)));(try (replace HO:=Zh (ai ZL hT (fun g1 xy=>by (try simp only []);simp [Value.ownBlock] at xy;omega))));have hs:=HC.out.kp.size;have hm:=Kp.size hT;(try simp only [Zz] at hm);(repeat ((first|(with_reducible obtain ⟨hx,hy,hT⟩:=hT.peel)|(with_reducible obtain ⟨hx,hy,hT⟩:=hT.peelA));(try simp only [Zz] at hx hy);rw [hx];clear hx));(repeat (clear hT));(try (have yx:=HV;clear HV));have HV:=Zh hv;clear hv;(try (replace HR:=AL;clear AL)))))
 all_goals
  go_wp2_with fail
  rw [zap]
  go_wp2_with fail
  (try simp only [Exit.inBlock,Exit.then]);refine zad (by simp [results,Tryz.results117,go_sem,↓IntWalk.iteOmega];try rfl) rfl ?_
  refine ⟨none,0,aA g,cap,by simp [Ex.kind,Ex.n,Ex.name,Ex.op,Ex.order,Ex.var,Ex.parts,Ex.kids,BT],At.kp (w:=w) (s:=s2) Zf,At.pt (w:=w) Zf,?_⟩
  refine ⟨_,_,rfl,by simp only [Ex.parts,BT];exact RwAt.nil _ _ _ _,?_,B6,by simp [Ex.n],by unfold rng;simp [Ex.op],vi _⟩
  show RwAt _ _ 8 (ExAt _ _ n) (.slice (aA g) 1 cap) [a]
  have ho:w1.ownsRow w.heap.size 192 8 (.slice (aA g) 1 cap) 1 [iI a.kind,.int .u64 a.n,.string a.name,iI a.op,iI a.order,.string a.var,.slice pa a.parts.length pc,.slice ka a.kids.length kc]:=HO.out
  exact sP (by (repeat (first|with_reducible exact ho|with_reducible apply gB|with_reducible apply World.ownsRow.alloc|with_reducible apply gC));all_goals (simp [Value.ownBlock];omega)) rfl (ExAt.wide ZE Zc Zc) (fun g' IK=>by simp [Value.ownBlock] at IK;subst IK;exact ⟨Zc,Zc⟩)
theorem uL(m:Nat)(hm:m<18446744073709551616)(s:PS):(pNumber m s).1<18446744073709551616:=by
 unfold pNumber
 split
 ·simp
 ·split
  ·simp
  ·simp only;omega
theorem ydk{P n:Nat}{pe:PE}(HE:HEx P n pe):HEx P (n+1) (pExprF pe):=by
 intro w s d r h yZ Dm hr
 have HX:=Zh HE
 have HC:=Zh (At.begin h)
 have xe:=h.lt
 clear h HE
 unfold pExprF at hr
 cases hb:(pDeep d s).1
 ·simp [hb] at hr
 obtain ⟨hd,CY,hs⟩:=fh hb
 simp only [hb,Bool.not_true,zaY,if_false] at hr
 rw [hs] at hr
 simp only at hr
 clear hs
 cases g1:digits (pPeek s)
 rotate_left
 ·simp only [g1,if_true,zaA] at hr
  subst hr
  go_enter Tryz.func72,Tryz.ntmps72
  go_wp2_with (first|(go_at_call 43;refine (dX _ (At.pt (w:=w) Zf) _ ZB).mono ?_;rintro e w1 ⟨rfl,rfl⟩)|(go_at_call 38;refine (ce _ (At.pt (w:=w) Zf)).mono ?_;rintro e w1 ⟨rfl,rfl⟩)|(go_at_call 67;refine (dV _ _).mono ?_;rintro e w1 ⟨rfl,rfl⟩)|(go_at_call 46;refine (ue _ (At.pt (w:=w) Zf) _).mono ?_;rintro e w1 ⟨rfl,hT,hP⟩;replace HC:=Zh (At.next (w:=w) Zf hT hP);clear hP;(try (replace V1:=Zh (Has.same ZI hT)));(try (replace V2:=Zh (Has.same ZJ hT)));(try (replace V3:=Zh (Has.same ZK hT)));(try (replace HV:=Zh (ExAt.same ZE hT)));(try (replace yx:=Zh (ExAt.same ZH hT)));(try (replace HO:=Zh (ai ZL hT (fun g1 xy=>by (try simp only []);simp [Value.ownBlock] at xy;omega))));have hs:=HC.out.kp.size;have hm:=Kp.size hT;(try simp only [Zz] at hm);(repeat ((first|(with_reducible obtain ⟨hx,hy,hT⟩:=hT.peel)|(with_reducible obtain ⟨hx,hy,hT⟩:=hT.peelA));(try simp only [Zz] at hx hy);rw [hx];clear hx));(repeat (clear hT))))
  (try simp only [Exit.inBlock,Exit.then]);refine zad (by simp [results,Tryz.results72,go_sem,↓IntWalk.iteOmega];try rfl) rfl ?_
  have hn:=uL 18446744073709551615 Zd s
  exact ⟨none,0,none,0,rfl,At.kp (w:=w) (s:=(pNumber 18446744073709551615 s).2) Zf,At.pt (w:=w) Zf,_,_,rfl,RwAt.nil _ _ _ _,RwAt.nil _ _ _ _,by unfold rng;simp [Ex.kind],by simpa [Ex.n] using hn,by unfold rng;simp [Ex.op],by unfold rng;simp [Ex.order]⟩
 cases g2:letters (pPeek s)&&!keyw (pPeek s)
 rotate_left
 ·simp only [g1,g2,zaY,if_false,if_true,zaA] at hr
  subst hr
  obtain ⟨g3,g4⟩:letters (pPeek s)=true/\keyw (pPeek s)=false:=by simpa using g2
  go_enter Tryz.func72,Tryz.ntmps72
  go_wp2_with (first|(go_at_call 43;refine (dX _ (At.pt (w:=w) Zf) _ ZB).mono ?_;rintro e w1 ⟨rfl,rfl⟩)|(go_at_call 38;refine (ce _ (At.pt (w:=w) Zf)).mono ?_;rintro e w1 ⟨rfl,rfl⟩)|(go_at_call 67;refine (dV _ _).mono ?_;rintro e w1 ⟨rfl,rfl⟩)|(go_at_call 40;refine (eA _ _).mono ?_;rintro e w1 ⟨rfl,rfl⟩)|(go_at_call 41;refine (dP _ _ (At.pt (w:=w) Zf).sp).mono ?_;rintro e w1 ⟨rfl,p,hw⟩;have hT:=(cX (w:=w) Zf hw).2;replace HC:=Zh (cX (w:=w) Zf hw).1;clear hw p;(try (replace V1:=Zh (Has.same ZI hT)));(try (replace V2:=Zh (Has.same ZJ hT)));(try (replace V3:=Zh (Has.same ZK hT)));(try (replace HV:=Zh (ExAt.same ZE hT)));(try (replace yx:=Zh (ExAt.same ZH hT)));(try (replace HO:=Zh (ai ZL hT (fun g1 xy=>by (try simp only []);simp [Value.ownBlock] at xy;omega))));have hs:=HC.out.kp.size;have hm:=Kp.size hT;(try simp only [Zz] at hm);(repeat ((first|(with_reducible obtain ⟨hx,hy,hT⟩:=hT.peel)|(with_reducible obtain ⟨hx,hy,hT⟩:=hT.peelA));(try simp only [Zz] at hx hy);rw [hx];clear hx));(repeat (clear hT)))|(go_at_call 39;refine (dO _ (At.pt (w:=w) Zf)).mono ?_;rintro e w1 ⟨rfl,hT,hP⟩;replace HC:=Zh (At.next (w:=w) Zf hT hP);clear hP;(try (replace V1:=Zh (Has.same ZI hT)));(try (replace V2:=Zh (Has.same ZJ hT)));(try (replace V3:=Zh (Has.same ZK hT)));(try (replace HV:=Zh (ExAt.same ZE hT)));(try (replace yx:=Zh (ExAt.same ZH hT)));(try (replace HO:=Zh (ai ZL hT (fun g1 xy=>by (try simp only []);simp [Value.ownBlock] at xy;omega))));have hs:=HC.out.kp.size;have hm:=Kp.size hT;(try simp only [Zz] at hm);(repeat ((first|(with_reducible obtain ⟨hx,hy,hT⟩:=hT.peel)|(with_reducible obtain ⟨hx,hy,hT⟩:=hT.peelA));(try simp only [Zz] at hx hy);rw [hx];clear hx));(repeat (clear hT))))
  (try simp only [Exit.inBlock,Exit.then]);refine zad (by simp [results,Tryz.results72,go_sem,↓IntWalk.iteOmega];try rfl) rfl ?_
  exact ⟨none,0,none,0,rfl,At.kp (w:=w) (s:=pNext s) Zf,At.pt (w:=w) Zf,_,_,rfl,RwAt.nil _ _ _ _,RwAt.nil _ _ _ _,by unfold rng;simp [Ex.kind],by simp [Ex.n],by unfold rng;simp [Ex.op],by unfold rng;simp [Ex.order]⟩
 simp only [g1,g2,zaY,if_false] at hr
 have g3:letters (pPeek s)=false\/(letters (pPeek s)=true/\keyw (pPeek s)=true):=by
  cases h3:letters (pPeek s)
  ·exact .inl rfl
  ·cases h4:keyw (pPeek s)
   ·simp [h3,h4] at g2
   ·exact .inr ⟨rfl,rfl⟩
 clear g2
 cases q0:(pIs (⟨#[40]⟩:qB) s).1
 rotate_left
 ·simp only [q0,if_true] at hr
  rw [cf q0] at hr
  have HL:=Zh hr
  clear hr
  rcases g3 with g3|⟨g3,g4⟩
  all_goals
   go_enter Tryz.func72,Tryz.ntmps72
   go_wp2_with (first|(go_at_call 43;refine (dX _ (At.pt (w:=w) Zf) _ ZB).mono ?_;rintro e w1 ⟨rfl,rfl⟩)|(go_at_call 38;refine (ce _ (At.pt (w:=w) Zf)).mono ?_;rintro e w1 ⟨rfl,rfl⟩)|(go_at_call 67;refine (dV _ _).mono ?_;rintro e w1 ⟨rfl,rfl⟩)|(go_at_call 40;refine (eA _ _).mono ?_;rintro e w1 ⟨rfl,rfl⟩)|(go_at_call 41;refine (dP _ _ (At.pt (w:=w) Zf).sp).mono ?_;rintro e w1 ⟨rfl,p,hw⟩;have hT:=(cX (w:=w) Zf hw).2;replace HC:=Zh (cX (w:=w) Zf hw).1;clear hw p;(try (replace V1:=Zh (Has.same ZI hT)));(try (replace V2:=Zh (Has.same ZJ hT)));(try (replace V3:=Zh (Has.same ZK hT)));(try (replace HV:=Zh (ExAt.same ZE hT)));(try (replace yx:=Zh (ExAt.same ZH hT)));(try (replace HO:=Zh (ai ZL hT (fun g1 xy=>by (try simp only []);simp [Value.ownBlock] at xy;omega))));have hs:=HC.out.kp.size;have hm:=Kp.size hT;(try simp only [Zz] at hm);(repeat ((first|(with_reducible obtain ⟨hx,hy,hT⟩:=hT.peel)|(with_reducible obtain ⟨hx,hy,hT⟩:=hT.peelA));(try simp only [Zz] at hx hy);rw [hx];clear hx));(repeat (clear hT)))|(go_at_call 23;refine (cB _ (At.pt (w:=w) Zf) ZB).mono ?_;rintro e w1 ⟨rfl,rfl⟩)|(go_at_call 23;refine (di _ (At.pt (w:=w) Zf) ZB).mono ?_;rintro e w1 ⟨rfl,hT,hP⟩;replace HC:=Zh (At.next (w:=w) Zf hT hP);clear hP;(try (replace V1:=Zh (Has.same ZI hT)));(try (replace V2:=Zh (Has.same ZJ hT)));(try (replace V3:=Zh (Has.same ZK hT)));(try (replace HV:=Zh (ExAt.same ZE hT)));(try (replace yx:=Zh (ExAt.same ZH hT)));(try (replace HO:=Zh (ai ZL hT (fun g1 xy=>by (try simp only []);simp [Value.ownBlock] at xy;omega))));have hs:=HC.out.kp.size;have hm:=Kp.size hT;(try simp only [Zz] at hm);(repeat ((first|(with_reducible obtain ⟨hx,hy,hT⟩:=hT.peel)|(with_reducible obtain ⟨hx,hy,hT⟩:=hT.peelA));(try simp only [Zz] at hx hy);rw [hx];clear hx));(repeat (clear hT)))|(go_at_call 116;refine (yeW HX.out _ (At.pt (w:=w) Zf) _ Za Za _ HL.out).mono ?_;rintro e w1 ⟨pa,pc,ka,kc,rfl,hT,hP,hv⟩;replace HC:=Zh (At.next (w:=w) Zf hT hP);clear hP;(try (replace V1:=Zh (Has.same ZI hT)));(try (replace V2:=Zh (Has.same ZJ hT)));(try (replace V3:=Zh (Has.same ZK hT)));(try (replace HV:=Zh (ExAt.same ZE hT)));(try (replace yx:=Zh (ExAt.same ZH hT)));(try (replace HO:=Zh (ai ZL hT (fun g1 xy=>by (try simp only []);simp [Value.ownBlock] at xy;omega))));have hs:=HC.out.kp.size;have hm:=Kp.size hT;(try simp only [Zz] at hm);(repeat ((first|(with_reducible obtain ⟨hx,hy,hT⟩:=hT.peel)|(with_reducible obtain ⟨hx,hy,hT⟩:=hT.peelA));(try simp only [Zz] at hx hy);rw [hx];clear hx));(repeat (clear hT));(try (have yx:=HV;clear HV));have HV:=Zh hv;clear hv;(try (replace HR:=AL;clear AL))))
   (try simp only [Exit.inBlock,Exit.then]);refine zad (by simp [results,Tryz.results72,go_sem,↓IntWalk.iteOmega];try rfl) rfl ?_
   exact ⟨pa,pc,ka,kc,rfl,At.kp (w:=w) (s:=r.2) Zf,At.pt (w:=w) Zf,(ExAt.wide ZE Zc Zc)⟩
 simp only [q0,zaY,if_false] at hr
 cases q1:(pIs (⟨#[114,101,97,100]⟩:qB) s).1
 rotate_left
 ·simp [q1] at hr
 simp only [q1,zaY,if_false] at hr
 cases q2:(pIs (⟨#[108,111,97,100]⟩:qB) s).1
 rotate_left
 ·simp [q2] at hr
 simp only [q2,zaY,if_false] at hr
 cases q3:(pIs (⟨#[97,100,100]⟩:qB) s).1
 rotate_left
 ·simp only [q3,if_true] at hr
  rw [cf q3] at hr
  have HL:=Zh hr
  clear hr
  rcases g3 with g3|⟨g3,g4⟩
  all_goals
   go_enter Tryz.func72,Tryz.ntmps72
   go_wp2_with (first|(go_at_call 43;refine (dX _ (At.pt (w:=w) Zf) _ ZB).mono ?_;rintro e w1 ⟨rfl,rfl⟩)|(go_at_call 38;refine (ce _ (At.pt (w:=w) Zf)).mono ?_;rintro e w1 ⟨rfl,rfl⟩)|(go_at_call 67;refine (dV _ _).mono ?_;rintro e w1 ⟨rfl,rfl⟩)|(go_at_call 40;refine (eA _ _).mono ?_;rintro e w1 ⟨rfl,rfl⟩)|(go_at_call 41;refine (dP _ _ (At.pt (w:=w) Zf).sp).mono ?_;rintro e w1 ⟨rfl,p,hw⟩;have hT:=(cX (w:=w) Zf hw).2;replace HC:=Zh (cX (w:=w) Zf hw).1;clear hw p;(try (replace V1:=Zh (Has.same ZI hT)));(try (replace V2:=Zh (Has.same ZJ hT)));(try (replace V3:=Zh (Has.same ZK hT)));(try (replace HV:=Zh (ExAt.same ZE hT)));(try (replace yx:=Zh (ExAt.same ZH hT)));(try (replace HO:=Zh (ai ZL hT (fun g1 xy=>by (try simp only []);simp [Value.ownBlock] at xy;omega))));have hs:=HC.out.kp.size;have hm:=Kp.size hT;(try simp only [Zz] at hm);(repeat ((first|(with_reducible obtain ⟨hx,hy,hT⟩:=hT.peel)|(with_reducible obtain ⟨hx,hy,hT⟩:=hT.peelA));(try simp only [Zz] at hx hy);rw [hx];clear hx));(repeat (clear hT)))|(go_at_call 23;refine (cB _ (At.pt (w:=w) Zf) ZB).mono ?_;rintro e w1 ⟨rfl,rfl⟩)|(go_at_call 23;refine (di _ (At.pt (w:=w) Zf) ZB).mono ?_;rintro e w1 ⟨rfl,hT,hP⟩;replace HC:=Zh (At.next (w:=w) Zf hT hP);clear hP;(try (replace V1:=Zh (Has.same ZI hT)));(try (replace V2:=Zh (Has.same ZJ hT)));(try (replace V3:=Zh (Has.same ZK hT)));(try (replace HV:=Zh (ExAt.same ZE hT)));(try (replace yx:=Zh (ExAt.same ZH hT)));(try (replace HO:=Zh (ai ZL hT (fun g1 xy=>by (try simp only []);simp [Value.ownBlock] at xy;omega))));have hs:=HC.out.kp.size;have hm:=Kp.size hT;(try simp only [Zz] at hm);(repeat ((first|(with_reducible obtain ⟨hx,hy,hT⟩:=hT.peel)|(with_reducible obtain ⟨hx,hy,hT⟩:=hT.peelA));(try simp only [Zz] at hx hy);rw [hx];clear hx));(repeat (clear hT)))|(go_at_call 117;refine (yfx HX.out _ (At.pt (w:=w) Zf) _ _ Za Za (by unfold rng;omega) rfl _ HL.out).mono ?_;rintro e w1 ⟨pa,pc,ka,kc,rfl,hT,hP,hv⟩;replace HC:=Zh (At.next (w:=w) Zf hT hP);clear hP;(try (replace V1:=Zh (Has.same ZI hT)));(try (replace V2:=Zh (Has.same ZJ hT)));(try (replace V3:=Zh (Has.same ZK hT)));(try (replace HV:=Zh (ExAt.same ZE hT)));(try (replace yx:=Zh (ExAt.same ZH hT)));(try (replace HO:=Zh (ai ZL hT (fun g1 xy=>by (try simp only []);simp [Value.ownBlock] at xy;omega))));have hs:=HC.out.kp.size;have hm:=Kp.size hT;(try simp only [Zz] at hm);(repeat ((first|(with_reducible obtain ⟨hx,hy,hT⟩:=hT.peel)|(with_reducible obtain ⟨hx,hy,hT⟩:=hT.peelA));(try simp only [Zz] at hx hy);rw [hx];clear hx));(repeat (clear hT));(try (have yx:=HV;clear HV));have HV:=Zh hv;clear hv;(try (replace HR:=AL;clear AL))))
   (try simp only [Exit.inBlock,Exit.then]);refine zad (by simp [results,Tryz.results72,go_sem,↓IntWalk.iteOmega];try rfl) rfl ?_
   exact ⟨pa,pc,ka,kc,rfl,At.kp (w:=w) (s:=r.2) Zf,At.pt (w:=w) Zf,(ExAt.wide ZE Zc Zc)⟩
 simp only [q3,zaY,if_false] at hr
 cases hr
theorem fB(P:Nat): ∀n,HEx P n (pExpr n)
 |0=>fun w s d r h yZ Dm hr=>by cases hr
 |n+1=>ydk (fB P n)
structure Has(lo hi:Nat)(F:qW->Prop)(w:qW):Prop where
 dep: ∀a b:qW,a.heap.size<=b.heap.size->(∀k,lo<=k->k<hi->k<a.heap.size->b.heap[k]?=a.heap[k]?)->F a->F b
 is:F w
section
variable{lo hi:Nat}{F:qW->Prop}{w w':qW}
theorem Has.own(h:Has lo hi F w){k:Nat}(hk:k<lo\/hi<=k){cs:Array qV}{t:TypeId}:Has lo hi F (putB w k cs t):=
 ⟨h.dep,h.dep _ _ (by rw [aN];exact zaq _) (fun j h1 h2 _=>by rw [aM,if_neg Za]) h.is⟩
theorem Has.alloc(h:Has lo hi F w){o:Obj}:Has lo hi F (w.alloc o):=⟨h.dep,h.dep _ _ Zg (fun j h1 h2 hl=>zac _ _ hl) h.is⟩
theorem Has.drew(h:Has lo hi F w):Has lo hi F w.drew:=⟨h.dep,h.dep w w.drew (zaq w.heap.size) (fun j h1 h2 hl=>rfl) h.is⟩
theorem Has.same{P:Nat}(h:Has lo hi F w)(hk:Kp (·=P) w w')(hP:P<lo:=by (try simp only [Zz]);omega):Has lo hi F w':=⟨h.dep,h.dep _ _ hk.size (fun j h1 h2 hl=>hk.block j hl Za) h.is⟩
theorem Has.grow{P g:Nat}(h:Has lo hi F w)(hk:Kp (fun k=>k=P\/k=g) w w')(hP:P<lo:=by (try simp only [Zz]);omega)(hg:g<lo\/hi<=g:=by (try simp only [Zz]);omega):Has lo hi F w':=
 ⟨h.dep,h.dep _ _ hk.size (fun j h1 h2 hl=>hk.block j hl Za) h.is⟩
end
def XsAt(lo hi:Nat)(v:qV)(l:List Ex)(w:qW):Prop:=RwAt w (Fz lo hi) 8 (ExAt w (Fz lo hi) 66) v l
def SsAt(n lo hi:Nat)(v:qV)(l:List Sm)(w:qW):Prop:=RwAt w (Fz lo hi) 10 (SmAt w (Fz lo hi) n) v l
theorem XsAt.wide{w:qW}{lo hi lo' Bg:Nat}{v:qV}{l:List Ex}(h:XsAt lo hi v l w)(h1:lo'<=lo)(h2:hi<=Bg):XsAt lo' Bg v l w:=
 h.keep (zaq _) (fun b hb _=>⟨⟨by omega,by omega⟩,rfl⟩) (fun x _ cs hx=>ExAt.wide hx h1 h2)
theorem SmAt.wide{w:qW}{lo hi lo' Bg n:Nat}{x:Sm}{cs:List qV}(h:SmAt w (Fz lo hi) n x cs)(h1:lo'<=lo)(h2:hi<=Bg):SmAt w (Fz lo' Bg) n x cs:=SmAt.keep (zaq _) (fun b hb _=>⟨⟨by omega,by omega⟩,rfl⟩) n x cs h
theorem SsAt.wide{w:qW}{n lo hi lo' Bg:Nat}{v:qV}{l:List Sm}(h:SsAt n lo hi v l w)(h1:lo'<=lo)(h2:hi<=Bg):SsAt n lo' Bg v l w:=
 h.keep (zaq _) (fun b hb _=>⟨⟨by omega,by omega⟩,rfl⟩) (fun x _ cs hx=>SmAt.wide hx h1 h2)
theorem XsAt.has{w:qW}{lo hi:Nat}{v:qV}{l:List Ex}(h:XsAt lo hi v l w):Has lo hi (XsAt lo hi v l) w:=
 ⟨fun a b hz hb ha=>RwAt.keep ha hz (fun k hk hl=>⟨hk,hb k hk.1 hk.2 hl⟩) (fun x _=>ExAt.keep hz (fun k hk hl=>⟨hk,hb k hk.1 hk.2 hl⟩) 66 x),h⟩
theorem SsAt.has{w:qW}{n lo hi:Nat}{v:qV}{l:List Sm}(h:SsAt n lo hi v l w):Has lo hi (SsAt n lo hi v l) w:=
 ⟨fun a b hz hb ha=>RwAt.keep ha hz (fun k hk hl=>⟨hk,hb k hk.1 hk.2 hl⟩) (fun x _=>SmAt.keep hz (fun k hk hl=>⟨hk,hb k hk.1 hk.2 hl⟩) n x),h⟩
theorem ExAt.has{w:qW}{n lo hi:Nat}{x:Ex}{cs:List qV}(h:ExAt w (Fz lo hi) n x cs):Has lo hi (fun w=>ExAt w (Fz lo hi) n x cs) w:=
 ⟨fun a b hz hb ha=>ExAt.keep hz (fun k hk hl=>⟨hk,hb k hk.1 hk.2 hl⟩) n x cs ha,h⟩
theorem SmAt.has{w:qW}{n lo hi:Nat}{x:Sm}{cs:List qV}(h:SmAt w (Fz lo hi) n x cs):Has lo hi (fun w=>SmAt w (Fz lo hi) n x cs) w:=
 ⟨fun a b hz hb ha=>SmAt.keep hz (fun k hk hl=>⟨hk,hb k hk.1 hk.2 hl⟩) n x cs ha,h⟩
theorem XsAt.slice{w:qW}{lo hi:Nat}{v:qV}{l:List Ex}(h:XsAt lo hi v l w): ∃a c,v= .slice a l.length c:=by
 obtain ⟨a,c,h1, -⟩:=h
 exact ⟨a,c,h1⟩
theorem SsAt.slice{w:qW}{n lo hi:Nat}{v:qV}{l:List Sm}(h:SsAt n lo hi v l w): ∃a c,v= .slice a l.length c:=by
 obtain ⟨a,c,h1, -⟩:=h
 exact ⟨a,c,h1⟩
theorem XsAt.nil(lo hi:Nat)(w:qW):XsAt lo hi (.slice none 0 0) [] w:=RwAt.nil _ _ _ _
theorem SsAt.nil(n lo hi:Nat)(w:qW):SsAt n lo hi (.slice none 0 0) [] w:=RwAt.nil _ _ _ _
theorem kt{P:Nat}{s:PS}(w:qW)(h:PAt w P s)(d:Int)(yZ:0<=d)(hd:d<=900)(r:Ex×PS)(hr:pValue (pExpr 66) d s=some r):
  qC 69 #[pP P,iI d] w fun e w'=> ∃a c,e= .returned (.slice a 1 c)/\Kp (·=P) w w'/\PAt w' P r.2/\XsAt w.heap.size w'.heap.size (.slice a 1 c) [r.1] w':=by
 refine (ph (fB P 66) w h d yZ hd r hr).mono ?_
 rintro e w' ⟨v,rfl,hT,hP,hv⟩
 obtain ⟨a,c,rfl⟩:=XsAt.slice hv
 exact ⟨a,c,rfl,hT,hP,hv⟩
def ParS(P n:Nat)(w:qW)(r:Sm×PS)(e:Ending)(w':qW):Prop:=
 ∃pa pc xa xc ta tc la lc,e= .returned (.agg #[iI r.1.kind,iI r.1.line,.string r.1.name,.string r.1.name2,iI r.1.order,.string r.1.var,.slice pa r.1.parts.length pc,.slice xa r.1.exprs.length xc,.slice ta r.1.thn.length tc,.slice la r.1.els.length lc])/\
  Kp (·=P) w w'/\PAt w' P r.2/\SmAt w' (Fz w.heap.size w'.heap.size) n r.1 [iI r.1.kind,iI r.1.line,.string r.1.name,.string r.1.name2,iI r.1.order,.string r.1.var,.slice pa r.1.parts.length pc,.slice xa r.1.exprs.length xc,.slice ta r.1.thn.length tc,.slice la r.1.els.length lc]
def HBl(P n:Nat)(pb:PB):Prop:= ∀(w:qW) (s:PS) (d:Int) (r:List Sm×PS),PAt w P s->0<=d->d<=1000->pb d s=some r->
 qC 27 #[pP P,iI d] w fun e w'=> ∃a c,e= .returned (.slice a r.1.length c)/\Kp (·=P) w w'/\PAt w' P r.2/\SsAt n w.heap.size w'.heap.size (.slice a r.1.length c) r.1 w'
theorem Has.to{lo hi:Nat}{F:qW->Prop}{w0:qW}(h:Has lo hi F w0){w1:qW}(k:Has lo hi F w0->Has lo hi F w1):F w1:=(k h).is
theorem dI:rng 0:=by unfold rng;omega
theorem uN{pe:PE}{pb:PB}{line d:Int}{s:PS}{r:Sm×PS}(hr:pControl pe pb line d s=some r):
  ∃a s1 t s2,(pIs (⟨#[105,102]⟩:qB) s).1=false/\(pIs (⟨#[119,104,105,108,101]⟩:qB) s).1=true/\pe (d+1) (pNext s)=some (a,s1)/\pb (d+1) s1=some (t,s2)/\r=(.mk 9 line (⟨#[]⟩:qB) (⟨#[]⟩:qB) 0 (⟨#[]⟩:qB) [] [a] t [],s2):=by
 unfold pControl at hr
 cases h1:(pIs (⟨#[105,102]⟩:qB) s).1
 rotate_left
 ·simp [h1] at hr
 cases h2:(pIs (⟨#[119,104,105,108,101]⟩:qB) s).1
 ·simp [h1,h2] at hr
 rw [h1,h2,cf h2] at hr
 simp only [zaY,if_false,if_true] at hr
 split at hr
 ·cases hr
 rename_i a s1 h3
 split at hr
 ·cases hr
 rename_i t s2 h4
 exact ⟨a,s1,t,s2,rfl,rfl,h3,h4,(zae hr).symm⟩
theorem eY{w:qW}{lo hi n:Nat}{k line:Int}{xv tv lv:qV}{nm nm2:qB}{o:Int}{var:qB}{xs:List Ex}{t u:List Sm}(h1:XsAt lo hi xv xs w)(h2:SsAt n lo hi tv t w)(h3:SsAt n lo hi lv u w)(hk:rng k)(hl:rng line)(ho:rng o):
  SmAt w (Fz lo hi) (n+1) (.mk k line nm nm2 o var [] xs t u) [iI k,iI line,.string nm,.string nm2,iI o,.string var,.slice none 0 0,xv,tv,lv]:=
 ⟨_,_,_,_,rfl,RwAt.nil _ _ _ _,h1,h2,h3,hk,hl,ho⟩
theorem iQ{w:qW}{lo hi k:Nat}{x:Ex}{cs:List qV}(h:ExAt w (Fz lo hi) 66 x cs)(hk:w.heap[k]?=some (.cells cs.toArray 192 (0,0)))(h8:cs.length=8)(h1:lo<=k)(h2:k<hi):XsAt lo hi (.slice (aA k) 1 1) [x] w:=m9 h hk h8 h1 h2
theorem yec{P n:Nat}{pb:PB}(HE:HBl P n pb){s:PS}(w:qW)(h:PAt w P s)(d line:Int)(hl:rng line)(yZ:0<=d)(hd:d<=900)(r:Sm×PS)(hr:pControl (pExpr 66) pb line d s=some r):
  qC 73 #[pP P,.agg #[iI 0,iI line,.string (⟨#[]⟩:qB),.string (⟨#[]⟩:qB),iI 0,.string (⟨#[]⟩:qB),.slice none 0 0,.slice none 0 0,.slice none 0 0,.slice none 0 0],iI d] w (ParS P (n+1) w r):=by
 have HB:=Zh HE
 have HC:=Zh (At.begin h)
 have xe:=h.lt
 clear h HE
 obtain ⟨a,s1,t,s2,q1,q2,h2,h3,rfl⟩:=uN hr
 have HR:=Zh h2
 have HL:=Zh h3
 clear h2 h3 hr
 go_enter Tryz.func73,Tryz.ntmps73
 go_wp2_with (first|(go_at_call 23;refine (cB _ (At.pt (w:=w) Zf) ZB).mono ?_;rintro e w1 ⟨rfl,rfl⟩)|(go_at_call 23;refine (di _ (At.pt (w:=w) Zf) ZB).mono ?_;rintro e w1 ⟨rfl,hT,hP⟩;replace HC:=Zh (At.next (w:=w) Zf hT hP);clear hP;(try (replace V1:=Zh (Has.same ZI hT)));(try (replace V2:=Zh (Has.same ZJ hT)));(try (replace V3:=Zh (Has.same ZK hT)));(try (replace HV:=Zh (ExAt.same ZE hT)));(try (replace yx:=Zh (ExAt.same ZH hT)));(try (replace HO:=Zh (ai ZL hT (fun g1 xy=>by (try simp only []);simp [Value.ownBlock] at xy;omega))));have hs:=HC.out.kp.size;have hm:=Kp.size hT;(try simp only [Zz] at hm);(repeat ((first|(with_reducible obtain ⟨hx,hy,hT⟩:=hT.peel)|(with_reducible obtain ⟨hx,hy,hT⟩:=hT.peelA));(try simp only [Zz] at hx hy);rw [hx];clear hx));(repeat (clear hT)))|(go_at_call 72;refine (fB _ 66 _ _ _ _ (At.pt (w:=w) Zf) Za Za HR.out).mono ?_;rintro e w1 ⟨pa,pc,ka,kc,rfl,hT,hP,hv⟩;replace HC:=Zh (At.next (w:=w) Zf hT hP);clear hP;(try (replace V1:=Zh (Has.same ZI hT)));(try (replace V2:=Zh (Has.same ZJ hT)));(try (replace V3:=Zh (Has.same ZK hT)));(try (replace HV:=Zh (ExAt.same ZE hT)));(try (replace yx:=Zh (ExAt.same ZH hT)));(try (replace HO:=Zh (ai ZL hT (fun g1 xy=>by (try simp only []);simp [Value.ownBlock] at xy;omega))));have hs:=HC.out.kp.size;have hm:=Kp.size hT;(try simp only [Zz] at hm);(repeat ((first|(with_reducible obtain ⟨hx,hy,hT⟩:=hT.peel)|(with_reducible obtain ⟨hx,hy,hT⟩:=hT.peelA));(try simp only [Zz] at hx hy);rw [hx];clear hx));(repeat (clear hT));(try (have V3:=V2;clear V2));(try (have V2:=V1;clear V1));have V1:=Zh hv.has;clear hv)|(go_at_call 27;refine (HB.out _ _ _ _ (At.pt (w:=w) Zf) Za Za HL.out).mono ?_;rintro e w1 ⟨ta,tc,rfl,hT,hP,hv⟩;replace HC:=Zh (At.next (w:=w) Zf hT hP);clear hP;(try (replace V1:=Zh (Has.same ZI hT)));(try (replace V2:=Zh (Has.same ZJ hT)));(try (replace V3:=Zh (Has.same ZK hT)));(try (replace HV:=Zh (ExAt.same ZE hT)));(try (replace yx:=Zh (ExAt.same ZH hT)));(try (replace HO:=Zh (ai ZL hT (fun g1 xy=>by (try simp only []);simp [Value.ownBlock] at xy;omega))));have hs:=HC.out.kp.size;have hm:=Kp.size hT;(try simp only [Zz] at hm);(repeat ((first|(with_reducible obtain ⟨hx,hy,hT⟩:=hT.peel)|(with_reducible obtain ⟨hx,hy,hT⟩:=hT.peelA));(try simp only [Zz] at hx hy);rw [hx];clear hx));(repeat (clear hT));(try (have V3:=V2;clear V2));(try (have V2:=V1;clear V1));have V1:=Zh hv.has;clear hv;(try (replace HL:=yP;clear yP))))
 (try simp only [Exit.inBlock,Exit.then]);refine zad (by simp [results,Tryz.results73,go_sem,↓IntWalk.iteOmega];try rfl) rfl ?_
 have e1:=fun w1=>Has.to V1.out (w1:=w1)
 have e2:=fun w1=>Has.to V2.out (w1:=w1)
 clear V1 V2
 refine ⟨none,0,_,_,_,_,none,0,rfl,At.kp (s:=s2) Zf,At.pt (w:=w) Zf,?_⟩
 refine eY (iQ (ExAt.wide (e2 _ (fun h=>by (repeat (first|with_reducible exact h|with_reducible apply Has.alloc|with_reducible apply Has.drew|with_reducible apply Has.own));all_goals ((try simp only [Zz]);omega))) Zc Zc) (by (repeat (rw [aM,if_neg Zc]));rw [aM,if_pos rfl,if_pos Zc]) rfl Zc Zc) (SsAt.wide (e1 _ (fun h=>by (repeat (first|with_reducible exact h|with_reducible apply Has.alloc|with_reducible apply Has.drew|with_reducible apply Has.own));all_goals ((try simp only [Zz]);omega))) Zc Zc) (SsAt.nil _ _ _ _) (by unfold rng;omega) hl dI
abbrev StCall(P:Nat)(d:Int)(w:qW)(Q:Ending->qW->Prop):Prop:=qC 48 #[pP P,iI d] w Q
theorem qu{P n:Nat}{s:PS}(w:qW)(h:PAt w P s)(d:Int)(yZ:0<=d)(hd:d<=900)(hl:rng (pHead s).line) (q0:(pIs (⟨#[108,101,116]⟩:qB) s).1=true)(r:Ex×PS)(hr:pValue (pExpr 66) d ((pName (pNext s)).2)=some r)  :
  StCall P d w (ParS P (n+1) w (.mk 1 (pHead s).line (pName (pNext s)).1 (⟨#[]⟩:qB) 0 (⟨#[]⟩:qB) [] [r.1] [] [],pWant (⟨#[59]⟩:qB) (r.2))):=Z58_
theorem qq{P n:Nat}{s:PS}(w:qW)(h:PAt w P s)(d:Int)(yZ:0<=d)(hd:d<=900)(hl:rng (pHead s).line)(q0:(pIs (⟨#[108,101,116]⟩:qB) s).1=false)(q1:(pIs (⟨#[115,101,116]⟩:qB) s).1=true)(r:Ex×PS)(hr:pValue (pExpr 66) d ((pName (pNext s)).2)=some r)  :
  StCall P d w (ParS P (n+1) w (.mk 2 (pHead s).line (pName (pNext s)).1 (⟨#[]⟩:qB) 0 (⟨#[]⟩:qB) [] [r.1] [] [],pWant (⟨#[59]⟩:qB) (r.2))):=Z58_
theorem qn{P n:Nat}{s:PS}(w:qW)(h:PAt w P s)(d:Int)(yZ:0<=d)(hd:d<=900)(hl:rng (pHead s).line)(q0:(pIs (⟨#[108,101,116]⟩:qB) s).1=false)(q1:(pIs (⟨#[115,101,116]⟩:qB) s).1=false)(q2:(pIs (⟨#[119,114,105,116,101]⟩:qB) s).1=true)(x:PlaceD)(s1:PS)(hp:pPlace (pExpr 66) d (pNext s)=some (x,s1))(r:Ex×PS)(hr:pValue (pExpr 66) d (s1)=some r)  :
  StCall P d w (ParS P (n+1) w (.mk 3 (pHead s).line (⟨#[]⟩:qB) (⟨#[]⟩:qB) 0 x.var x.parts [r.1] [] [],pWant (⟨#[59]⟩:qB) (r.2))):=by
 have HL:=Zh hp
 have HR:=Zh hr
 clear hp hr
 have HC:=Zh (At.begin h)
 have xe:=h.lt
 obtain ⟨b,o,c,h1,h2,h3,h4,h5,h6,h7,h8, -⟩:=h.mem
 have hc:=aa h1
 clear h h1
 go_enter Tryz.func48,Tryz.ntmps48
 go_wp2_with fail
 clear hc h2 h3 h4 h5 h6 h7 h8
 go_wp2_with ((first|(go_at_call 23;refine (cB _ (At.pt (w:=w) Zf) ZB).mono ?_;rintro e w1 ⟨rfl,rfl⟩)|(go_at_call 23;refine (di _ (At.pt (w:=w) Zf) ZB).mono ?_;rintro e w1 ⟨rfl,hT,hP⟩)|(go_at_call 70;refine (kB _ (At.pt (w:=w) Zf) _ _ HL.out).mono ?_;rintro e w1 ⟨rfl,hT,hP,BT⟩)|(go_at_call 69;refine (kt _ (At.pt (w:=w) Zf) _ Za Za _ HR.out).mono ?_;rintro e w1 ⟨xa,xc,rfl,hT,hP,hv⟩;replace HC:=Zh (At.next (w:=w) Zf hT hP);clear hP;(try (replace V1:=Zh (Has.same ZI hT)));(try (replace V2:=Zh (Has.same ZJ hT)));(try (replace V3:=Zh (Has.same ZK hT)));(try (replace HV:=Zh (ExAt.same ZE hT)));(try (replace yx:=Zh (ExAt.same ZH hT)));(try (replace HO:=Zh (ai ZL hT (fun g1 xy=>by (try simp only []);simp [Value.ownBlock] at xy;omega))));have hs:=HC.out.kp.size;have hm:=Kp.size hT;(try simp only [Zz] at hm);(repeat ((first|(with_reducible obtain ⟨hx,hy,hT⟩:=hT.peel)|(with_reducible obtain ⟨hx,hy,hT⟩:=hT.peelA));(try simp only [Zz] at hx hy);rw [hx];clear hx));(repeat (clear hT));(try (have V3:=V2;clear V2));(try (have V2:=V1;clear V1));have V1:=Zh hv.has;clear hv)|(go_at_call 26;refine (cZ _ (At.pt (w:=w) Zf) _).mono ?_;rintro e w1 ⟨rfl,hT,hP⟩));(try (replace HC:=Zh (At.next (w:=w) Zf hT hP);clear hP;(try (replace V1:=Zh (Has.same ZI hT)));(try (replace V2:=Zh (Has.same ZJ hT)));(try (replace V3:=Zh (Has.same ZK hT)));(try (replace HV:=Zh (ExAt.same ZE hT)));(try (replace yx:=Zh (ExAt.same ZH hT)));(try (replace HO:=Zh (ai ZL hT (fun g1 xy=>by (try simp only []);simp [Value.ownBlock] at xy;omega))));have hs:=HC.out.kp.size;have hm:=Kp.size hT;(try simp only [Zz] at hm);(repeat ((first|(with_reducible obtain ⟨hx,hy,hT⟩:=hT.peel)|(with_reducible obtain ⟨hx,hy,hT⟩:=hT.peelA));(try simp only [Zz] at hx hy);rw [hx];clear hx));(repeat (clear hT)))))
 (try simp only [Exit.inBlock,Exit.then]);refine zad Z55_ rfl ?_
 rw [BT]
 have e1:=fun w1=>Has.to V1.out (w1:=w1)
 clear V1
 refine ⟨none,0,_,_,none,0,none,0,rfl,At.kp (s:=pWant (⟨#[59]⟩:qB) (r.2)) Zf,At.pt (w:=w) Zf,?_⟩
 exact eY (XsAt.wide (e1 _ (fun h=>by (repeat (first|with_reducible exact h|with_reducible apply Has.alloc|with_reducible apply Has.drew|with_reducible apply Has.own));all_goals ((try simp only [Zz]);omega))) Zc Zc) (SsAt.nil _ _ _ _) (SsAt.nil _ _ _ _) (by unfold rng;omega) hl dI
theorem qr{P n:Nat}{s:PS}(w:qW)(h:PAt w P s)(d:Int)(yZ:0<=d)(hd:d<=900)(hl:rng (pHead s).line)(q0:(pIs (⟨#[108,101,116]⟩:qB) s).1=false)(q1:(pIs (⟨#[115,101,116]⟩:qB) s).1=false)(q2:(pIs (⟨#[119,114,105,116,101]⟩:qB) s).1=false)(q3:(pIs (⟨#[115,116,111,114,101]⟩:qB) s).1=false)(q4:(pIs (⟨#[108,111,97,100,50]⟩:qB) s).1=false)(q5:(pIs (⟨#[115,116,111,114,101,50]⟩:qB) s).1=false)(q6:(pIs (⟨#[102,101,110,99,101]⟩:qB) s).1=false)(q7:(pIs (⟨#[112,114,105,110,116]⟩:qB) s).1=true)(a:Ex)(s1:PS)(hr:pExpr 66 (d+1) (pNext s)=some (a,s1))  :
  StCall P d w (ParS P (n+1) w (.mk 10 (pHead s).line (⟨#[]⟩:qB) (⟨#[]⟩:qB) 0 (⟨#[]⟩:qB) [] [a] [] [],pWant (⟨#[59]⟩:qB) (s1))):=by
 have HR:=Zh hr
 clear hr
 have Js:=cM yZ (by omega:d<=1000)
 have HC:=Zh (At.begin h)
 have xe:=h.lt
 obtain ⟨b,o,c,h1,h2,h3,h4,h5,h6,h7,h8, -⟩:=h.mem
 have hc:=aa h1
 clear h h1
 go_enter Tryz.func48,Tryz.ntmps48
 go_wp2_with fail
 clear hc h2 h3 h4 h5 h6 h7 h8
 go_wp2_with ((first|(go_at_call 23;refine (cB _ (At.pt (w:=w) Zf) ZB).mono ?_;rintro e w1 ⟨rfl,rfl⟩)|(go_at_call 23;refine (di _ (At.pt (w:=w) Zf) ZB).mono ?_;rintro e w1 ⟨rfl,hT,hP⟩)|(go_at_call 72;refine (fB _ 66 _ _ _ _ (At.pt (w:=w) Zf) Za Za HR.out).mono ?_;rintro e w1 ⟨pa,pc,ka,kc,rfl,hT,hP,hv⟩;replace HC:=Zh (At.next (w:=w) Zf hT hP);clear hP;(try (replace V1:=Zh (Has.same ZI hT)));(try (replace V2:=Zh (Has.same ZJ hT)));(try (replace V3:=Zh (Has.same ZK hT)));(try (replace HV:=Zh (ExAt.same ZE hT)));(try (replace yx:=Zh (ExAt.same ZH hT)));(try (replace HO:=Zh (ai ZL hT (fun g1 xy=>by (try simp only []);simp [Value.ownBlock] at xy;omega))));have hs:=HC.out.kp.size;have hm:=Kp.size hT;(try simp only [Zz] at hm);(repeat ((first|(with_reducible obtain ⟨hx,hy,hT⟩:=hT.peel)|(with_reducible obtain ⟨hx,hy,hT⟩:=hT.peelA));(try simp only [Zz] at hx hy);rw [hx];clear hx));(repeat (clear hT));(try (have V3:=V2;clear V2));(try (have V2:=V1;clear V1));have V1:=Zh hv.has;clear hv)|(go_at_call 26;refine (cZ _ (At.pt (w:=w) Zf) _).mono ?_;rintro e w1 ⟨rfl,hT,hP⟩));(try (replace HC:=Zh (At.next (w:=w) Zf hT hP);clear hP;(try (replace V1:=Zh (Has.same ZI hT)));(try (replace V2:=Zh (Has.same ZJ hT)));(try (replace V3:=Zh (Has.same ZK hT)));(try (replace HV:=Zh (ExAt.same ZE hT)));(try (replace yx:=Zh (ExAt.same ZH hT)));(try (replace HO:=Zh (ai ZL hT (fun g1 xy=>by (try simp only []);simp [Value.ownBlock] at xy;omega))));have hs:=HC.out.kp.size;have hm:=Kp.size hT;(try simp only [Zz] at hm);(repeat ((first|(with_reducible obtain ⟨hx,hy,hT⟩:=hT.peel)|(with_reducible obtain ⟨hx,hy,hT⟩:=hT.peelA));(try simp only [Zz] at hx hy);rw [hx];clear hx));(repeat (clear hT)))))
 (try simp only [Exit.inBlock,Exit.then]);refine zad Z55_ rfl ?_
 have e1:=fun w1=>Has.to V1.out (w1:=w1)
 clear V1
 refine ⟨none,0,_,_,none,0,none,0,rfl,At.kp (s:=pWant (⟨#[59]⟩:qB) (s1)) Zf,At.pt (w:=w) Zf,?_⟩
 exact eY (iQ (ExAt.wide (e1 _ (fun h=>by (repeat (first|with_reducible exact h|with_reducible apply Has.alloc|with_reducible apply Has.drew|with_reducible apply Has.own));all_goals ((try simp only [Zz]);omega))) Zc Zc) (by (repeat (rw [aM,if_neg Zc]));rw [aM,if_pos rfl,if_pos Zc]) rfl Zc Zc) (SsAt.nil _ _ _ _) (SsAt.nil _ _ _ _) (by unfold rng;omega) hl dI
theorem qw{P n:Nat}{pb:PB}(HE:HBl P n pb){s:PS}(w:qW)(h:PAt w P s)(d:Int)(yZ:0<=d)(hd:d<=900)(hl:rng (pHead s).line)(q0:(pIs (⟨#[108,101,116]⟩:qB) s).1=false)(q1:(pIs (⟨#[115,101,116]⟩:qB) s).1=false)(q2:(pIs (⟨#[119,114,105,116,101]⟩:qB) s).1=false)(q3:(pIs (⟨#[115,116,111,114,101]⟩:qB) s).1=false)(q4:(pIs (⟨#[108,111,97,100,50]⟩:qB) s).1=false)(q5:(pIs (⟨#[115,116,111,114,101,50]⟩:qB) s).1=false)(q6:(pIs (⟨#[102,101,110,99,101]⟩:qB) s).1=false)(q7:(pIs (⟨#[112,114,105,110,116]⟩:qB) s).1=false)(r:Sm×PS)(hr:pControl (pExpr 66) pb (pHead s).line d s=some r):
  StCall P d w (ParS P (n+1) w r):=by
 have HB:=Zh HE
 have HR:=Zh hr
 clear hr HE
 have HC:=Zh (At.begin h)
 have xe:=h.lt
 obtain ⟨b,o,c,h1,h2,h3,h4,h5,h6,h7,h8, -⟩:=h.mem
 have hc:=aa h1
 clear h h1
 go_enter Tryz.func48,Tryz.ntmps48
 go_wp2_with fail
 clear hc h2 h3 h4 h5 h6 h7 h8
 go_wp2_with (first|(go_at_call 23;refine (cB _ (At.pt (w:=w) Zf) ZB).mono ?_;rintro e w1 ⟨rfl,rfl⟩)|(go_at_call 73;refine (yec HB.out _ (At.pt (w:=w) Zf) _ _ hl Za Za _ HR.out).mono ?_;rintro e w1 ⟨pa,pc,xa,xc,ta,tc,la,lc,rfl,hT,hP,hv⟩;replace HC:=Zh (At.next (w:=w) Zf hT hP);clear hP;(try (replace V1:=Zh (Has.same ZI hT)));(try (replace V2:=Zh (Has.same ZJ hT)));(try (replace V3:=Zh (Has.same ZK hT)));(try (replace HV:=Zh (ExAt.same ZE hT)));(try (replace yx:=Zh (ExAt.same ZH hT)));(try (replace HO:=Zh (ai ZL hT (fun g1 xy=>by (try simp only []);simp [Value.ownBlock] at xy;omega))));have hs:=HC.out.kp.size;have hm:=Kp.size hT;(try simp only [Zz] at hm);(repeat ((first|(with_reducible obtain ⟨hx,hy,hT⟩:=hT.peel)|(with_reducible obtain ⟨hx,hy,hT⟩:=hT.peelA));(try simp only [Zz] at hx hy);rw [hx];clear hx));(repeat (clear hT));(try (have V3:=V2;clear V2));(try (have V2:=V1;clear V1));have V1:=Zh hv.has;clear hv))
 (try simp only [Exit.inBlock,Exit.then]);refine zad Z55_ rfl ?_
 have e1:=fun w1=>Has.to V1.out (w1:=w1)
 clear V1
 refine ⟨pa,pc,xa,xc,ta,tc,la,lc,rfl,At.kp (s:=r.2) Zf,At.pt (w:=w) Zf,?_⟩
 exact SmAt.wide (e1 _ (fun h=>by (repeat (first|with_reducible exact h|with_reducible apply Has.alloc|with_reducible apply Has.drew|with_reducible apply Has.own));all_goals ((try simp only [Zz]);omega))) Zc Zc
theorem qF{P n:Nat}{pb:PB}(HE:HBl P n pb){s:PS}(w:qW)(h:PAt w P s)(d:Int)(yZ:0<=d)(hd:d<=900)(r:Sm×PS)(hr:pStmt (pExpr 66) pb d s=some r)(h6:(pIs (⟨#[115,116,111,114,101,50]⟩:qB) s).1=false):StCall P d w (ParS P (n+1) w r):=by
 have hl:rng (pHead s).line:=by
  obtain ⟨b,o,c,h1,h2,h3,h4,h5,h6,h7,h8, -⟩:=h.mem
  exact h8
 unfold pStmt at hr
 simp only at hr
 cases q0:(pIs (⟨#[108,101,116]⟩:qB) s).1
 case true=>
  simp only [q0,if_true,cf q0] at hr
  rcases g1:pValue (pExpr 66) d (pName (pNext s)).2 with _|⟨a,s1⟩
  ·simp [g1] at hr
  simp only [g1,zaA] at hr
  subst hr
  exact qu w h d yZ hd hl q0 (a,s1) g1
 cases q1:(pIs (⟨#[115,101,116]⟩:qB) s).1
 case true=>
  simp only [q0,q1,zaY,if_false,if_true,cf q1] at hr
  rcases g1:pValue (pExpr 66) d (pName (pNext s)).2 with _|⟨a,s1⟩
  ·simp [g1] at hr
  simp only [g1,zaA] at hr
  subst hr
  exact qq w h d yZ hd hl q0 q1 (a,s1) g1
 cases q2:(pIs (⟨#[119,114,105,116,101]⟩:qB) s).1
 case true=>
  simp only [q0,q1,q2,zaY,if_false,if_true,cf q2] at hr
  rcases g1:pPlace (pExpr 66) d (pNext s) with _|⟨x,s1⟩
  ·simp [g1] at hr
  simp only [g1] at hr
  rcases g2:pValue (pExpr 66) d s1 with _|⟨a,s2⟩
  ·simp [g2] at hr
  simp only [g2,zaA] at hr
  subst hr
  exact qn w h d yZ hd hl q0 q1 q2 x s1 g1 (a,s2) g2
 cases q3:(pIs (⟨#[115,116,111,114,101]⟩:qB) s).1
 case true=>simp [q0,q1,q2,q3] at hr
 cases q4:(pIs (⟨#[108,111,97,100,50]⟩:qB) s).1
 case true=>simp [q0,q1,q2,q3,q4] at hr
 simp only [h6,zaY,if_false] at hr
 cases q6:(pIs (⟨#[102,101,110,99,101]⟩:qB) s).1
 case true=>simp [q0,q1,q2,q3,q4,q6] at hr
 cases q7:(pIs (⟨#[112,114,105,110,116]⟩:qB) s).1
 case true=>
  simp only [q0,q1,q2,q3,q4,q6,q7,zaY,if_false,if_true,cf q7] at hr
  rcases g1:pExpr 66 (d+1) (pNext s) with _|⟨a,s1⟩
  ·simp [g1] at hr
  simp only [g1,zaA] at hr
  subst hr
  exact qr w h d yZ hd hl q0 q1 q2 q3 q4 h6 q6 q7 a s1 g1
 simp only [q0,q1,q2,q3,q4,q6,q7,zaY,if_false] at hr
 exact qw HE w h d yZ hd hl q0 q1 q2 q3 q4 h6 q6 q7 r hr
end Go.Proofs.YtjmfoeajhiimnaaGreatDoor
