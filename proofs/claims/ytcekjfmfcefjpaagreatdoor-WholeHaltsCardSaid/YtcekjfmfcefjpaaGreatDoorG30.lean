/- Walks. No condition. -/
import Derived.Test.YtcekjfmfcefjpaaGreatDoorG29
set_option maxRecDepth 100000
set_option maxHeartbeats 0
set_option linter.all false
namespace Go.Proofs.YtcekjfmfcefjpaaGreatDoor
open Go.RowKit Go.Sort
theorem Has.to{lo hi:Nat}{F:qW->Prop}{w0:qW}(h:Has lo hi F w0){w1:qW}(k:Has lo hi F w0->Has lo hi F w1):F w1:=(k h).is
theorem cF:rng 0:=by unfold rng;omega
theorem ub{pe:PE}{pb:PB}{line d:Int}{s:PS}{r:Sm×PS}(hr:pControl pe pb line d s=some r):
  (∃k w a s1 t s2,((k=8/\w=(⟨#[105,102]⟩:qB)/\(pIs (⟨#[105,102]⟩:qB) s).1=true)\/(k=9/\w=(⟨#[119,104,105,108,101]⟩:qB)/\(pIs (⟨#[105,102]⟩:qB) s).1=false/\(pIs (⟨#[119,104,105,108,101]⟩:qB) s).1=true))/\pe (d+1) (pNext s)=some (a,s1)/\pb (d+1) s1=some (t,s2)/\
   (((k==8)=false/\r=(.mk k line (⟨#[]⟩:qB) (⟨#[]⟩:qB) 0 (⟨#[]⟩:qB) [] [a] t [],s2))\/((k==8)=true/\(pIs (⟨#[101,108,115,101]⟩:qB) s2).1=false/\r=(.mk k line (⟨#[]⟩:qB) (⟨#[]⟩:qB) 0 (⟨#[]⟩:qB) [] [a] t [],s2))\/
    ((k==8)=true/\(pIs (⟨#[101,108,115,101]⟩:qB) s2).1=true/\ ∃u s3,pb (d+1) (pNext s2)=some (u,s3)/\r=(.mk k line (⟨#[]⟩:qB) (⟨#[]⟩:qB) 0 (⟨#[]⟩:qB) [] [a] t u,s3))))\/
  ((pIs (⟨#[105,102]⟩:qB) s).1=false/\(pIs (⟨#[119,104,105,108,101]⟩:qB) s).1=false/\r=(.mk 0 line (⟨#[]⟩:qB) (⟨#[]⟩:qB) 0 (⟨#[]⟩:qB) [] [] [] [],pFail 4 s)):=by
 unfold pControl at hr
 simp only at hr
 have go: ∀(k:Int),(match pe (d+1) (pNext s) with
   |none=>none
   |some (e,s1)=>match pb (d+1) s1 with
    |none=>none
    |some (t,s2)=>
     if k==8&&(pIs (⟨#[101,108,115,101]⟩:qB) s2).1 then match pb (d+1) (pIs (⟨#[101,108,115,101]⟩:qB) s2).2 with
      |none=>none
      |some (u,s3)=>some ((.mk k line (⟨#[]⟩:qB) (⟨#[]⟩:qB) 0 (⟨#[]⟩:qB) [] [e] t u:Sm),s3)
     else some (.mk k line (⟨#[]⟩:qB) (⟨#[]⟩:qB) 0 (⟨#[]⟩:qB) [] [e] t [],s2))=some r-> ∃a s1 t s2,pe (d+1) (pNext s)=some (a,s1)/\pb (d+1) s1=some (t,s2)/\
   (((k==8)=false/\r=(.mk k line (⟨#[]⟩:qB) (⟨#[]⟩:qB) 0 (⟨#[]⟩:qB) [] [a] t [],s2))\/((k==8)=true/\(pIs (⟨#[101,108,115,101]⟩:qB) s2).1=false/\r=(.mk k line (⟨#[]⟩:qB) (⟨#[]⟩:qB) 0 (⟨#[]⟩:qB) [] [a] t [],s2))\/
    ((k==8)=true/\(pIs (⟨#[101,108,115,101]⟩:qB) s2).1=true/\ ∃u s3,pb (d+1) (pNext s2)=some (u,s3)/\r=(.mk k line (⟨#[]⟩:qB) (⟨#[]⟩:qB) 0 (⟨#[]⟩:qB) [] [a] t u,s3))):=by
  intro k hk
  rcases h1:pe (d+1) (pNext s) with _|⟨a,s1⟩
  ·simp [h1] at hk
  simp only [h1] at hk
  rcases h2:pb (d+1) s1 with _|⟨t,s2⟩
  ·simp [h2] at hk
  simp only [h2] at hk
  refine ⟨a,s1,t,s2,rfl,h2,?_⟩
  cases h3:k==8
  ·simp only [h3,zay,zaY,if_false,zaA] at hk
   exact .inl ⟨rfl,hk.symm⟩
  ·cases h4:(pIs (⟨#[101,108,115,101]⟩:qB) s2).1
   ·simp only [h3,h4,Bool.true_and,zaY,if_false,zaA] at hk
    exact .inr (.inl ⟨rfl,rfl,hk.symm⟩)
   ·simp only [h3,h4,Bool.true_and,if_true] at hk
    rw [bM h4] at hk
    rcases h5:pb (d+1) (pNext s2) with _|⟨u,s3⟩
    ·simp [h5] at hk
    simp only [h5,zaA] at hk
    exact .inr (.inr ⟨rfl,rfl,u,s3,rfl,hk.symm⟩)
 cases h1:(pIs (⟨#[105,102]⟩:qB) s).1
 ·simp only [h1,zaY,if_false] at hr
  cases h2:(pIs (⟨#[119,104,105,108,101]⟩:qB) s).1
  ·simp only [h2,zaY,if_false,zaA] at hr
   exact .inr ⟨rfl,rfl,hr.symm⟩
  ·simp only [h2,if_true] at hr
   rw [bM h2] at hr
   obtain ⟨a,s1,t,s2,g1,g2,g3⟩:=go 9 hr
   exact .inl ⟨9,_,a,s1,t,s2,.inr ⟨rfl,rfl,rfl,rfl⟩,g1,g2,g3⟩
 ·simp only [h1,if_true] at hr
  rw [bM h1] at hr
  obtain ⟨a,s1,t,s2,g1,g2,g3⟩:=go 8 hr
  exact .inl ⟨8,_,a,s1,t,s2,.inl ⟨rfl,rfl,rfl⟩,g1,g2,g3⟩
theorem cZ{w:qW}{lo hi n:Nat}{k line:Int}{xv tv lv:qV}{nm nm2:qB}{o:Int}{var:qB}{xs:List Ex}{t u:List Sm}(h1:XsAt lo hi xv xs w)(h2:SsAt n lo hi tv t w)(h3:SsAt n lo hi lv u w)(hk:rng k)(hl:rng line)(ho:rng o):
  SmAt w (Fz lo hi) (n+1) (.mk k line nm nm2 o var [] xs t u) [iI k,iI line,.string nm,.string nm2,iI o,.string var,.slice none 0 0,xv,tv,lv]:=
 ⟨_,_,_,_,rfl,RwAt.nil _ _ _ _,h1,h2,h3,hk,hl,ho⟩
theorem fL{w:qW}{lo hi k:Nat}{x:Ex}{cs:List qV}(h:ExAt w (Fz lo hi) 66 x cs)(hk:w.heap[k]?=some (.cells cs.toArray 217 (0,0)))(h8:cs.length=8)(h1:lo<=k)(h2:k<hi):XsAt lo hi (.slice (aA k) 1 1) [x] w:=mZ h hk h8 h1 h2
theorem ydS{P n:Nat}{pb:PB}(HE:HBl P n pb){s:PS}(w:qW)(h:PAt w P s)(d line:Int)(hl:rng line)(yV:0<=d)(hd:d<=900)(r:Sm×PS)(hr:pControl (pExpr 66) pb line d s=some r):
  qC 101 #[pP P,.agg #[iI 0,iI line,.string (⟨#[]⟩:qB),.string (⟨#[]⟩:qB),iI 0,.string (⟨#[]⟩:qB),.slice none 0 0,.slice none 0 0,.slice none 0 0,.slice none 0 0],iI d] w (ParS P (n+1) w r):=by
 have HB:=Zh HE
 have HC:=Zh (At.begin h)
 have wY:=h.lt
 clear h HE
 rcases ub hr with ⟨k,tw,a,s1,t,s2,h1,h2,h3,h4⟩|⟨h1,h2,rfl⟩
 ·have HR:=Zh h2
  have HL:=Zh h3
  clear h2 h3 hr
  rcases h1 with ⟨rfl,rfl,q1⟩|⟨rfl,rfl,q1,q2⟩
  ·rcases h4 with ⟨h5, -⟩|⟨-,h5,rfl⟩|⟨-,h5,u,s3,h6,rfl⟩
   ·simp at h5
   ·go_enter Tryz.func101,Tryz.ntmps101
    go_wp2_with (first|(go_at_call 31;refine (bN _ (At.pt (w:=w) Ze) ZA).mono ?_;rintro e w1 ⟨rfl,rfl⟩)|(go_at_call 31;refine (cJ _ (At.pt (w:=w) Ze) ZA).mono ?_;rintro e w1 ⟨rfl,hT,hP⟩;replace HC:=Zh (At.next (w:=w) Ze hT hP);clear hP;(try (replace V1:=Zh (Has.same ZH hT)));(try (replace V2:=Zh (Has.same ZI hT)));(try (replace V3:=Zh (Has.same ZJ hT)));(try (replace HV:=Zh (ExAt.same ZC hT)));(try (replace yg:=Zh (ExAt.same ZF hT)));(try (replace HO:=Zh (ah ZK hT (fun g1 xn=>by (try simp only []);simp [Value.ownBlock] at xn;omega))));have hs:=HC.out.kp.size;have hm:=Kp.size hT;(try simp only [Zz] at hm);(repeat ((first|(with_reducible obtain ⟨hx,hy,hT⟩:=hT.peel)|(with_reducible obtain ⟨hx,hy,hT⟩:=hT.peelA));(try simp only [Zz] at hx hy);rw [hx];clear hx));(repeat (clear hT)))|(go_at_call 100;refine (eB _ 66 _ _ _ _ (At.pt (w:=w) Ze) Za Za HR.out).mono ?_;rintro e w1 ⟨pa,pc,ka,kc,rfl,hT,hP,hv⟩;replace HC:=Zh (At.next (w:=w) Ze hT hP);clear hP;(try (replace V1:=Zh (Has.same ZH hT)));(try (replace V2:=Zh (Has.same ZI hT)));(try (replace V3:=Zh (Has.same ZJ hT)));(try (replace HV:=Zh (ExAt.same ZC hT)));(try (replace yg:=Zh (ExAt.same ZF hT)));(try (replace HO:=Zh (ah ZK hT (fun g1 xn=>by (try simp only []);simp [Value.ownBlock] at xn;omega))));have hs:=HC.out.kp.size;have hm:=Kp.size hT;(try simp only [Zz] at hm);(repeat ((first|(with_reducible obtain ⟨hx,hy,hT⟩:=hT.peel)|(with_reducible obtain ⟨hx,hy,hT⟩:=hT.peelA));(try simp only [Zz] at hx hy);rw [hx];clear hx));(repeat (clear hT));(try (have V3:=V2;clear V2));(try (have V2:=V1;clear V1));have V1:=Zh hv.has;clear hv)|(go_at_call 35;refine (HB.out _ _ _ _ (At.pt (w:=w) Ze) Za Za HL.out).mono ?_;rintro e w1 ⟨ta,tc,rfl,hT,hP,hv⟩;replace HC:=Zh (At.next (w:=w) Ze hT hP);clear hP;(try (replace V1:=Zh (Has.same ZH hT)));(try (replace V2:=Zh (Has.same ZI hT)));(try (replace V3:=Zh (Has.same ZJ hT)));(try (replace HV:=Zh (ExAt.same ZC hT)));(try (replace yg:=Zh (ExAt.same ZF hT)));(try (replace HO:=Zh (ah ZK hT (fun g1 xn=>by (try simp only []);simp [Value.ownBlock] at xn;omega))));have hs:=HC.out.kp.size;have hm:=Kp.size hT;(try simp only [Zz] at hm);(repeat ((first|(with_reducible obtain ⟨hx,hy,hT⟩:=hT.peel)|(with_reducible obtain ⟨hx,hy,hT⟩:=hT.peelA));(try simp only [Zz] at hx hy);rw [hx];clear hx));(repeat (clear hT));(try (have V3:=V2;clear V2));(try (have V2:=V1;clear V1));have V1:=Zh hv.has;clear hv;(try (replace HL:=ys;clear ys))))
    (try simp only [Exit.inBlock,Exit.then]);refine zad (by simp [results,Tryz.results101,go_sem,↓IntWalk.iteOmega];try rfl) rfl ?_
    have e1:=fun w1=>Has.to V1.out (w1:=w1)
    have e2:=fun w1=>Has.to V2.out (w1:=w1)
    clear V1 V2
    refine ⟨none,0,_,_,_,_,none,0,rfl,At.kp (s:=s2) Ze,At.pt (w:=w) Ze,?_⟩
    refine cZ (fL (ExAt.wide (e2 _ (fun h=>by (repeat (first|with_reducible exact h|with_reducible apply Has.alloc|with_reducible apply Has.drew|with_reducible apply Has.own));all_goals ((try simp only [Zz]);omega))) Zc Zc) (by (repeat (rw [aL,if_neg Zc]));rw [aL,if_pos rfl,if_pos Zc]) rfl Zc Zc) (SsAt.wide (e1 _ (fun h=>by (repeat (first|with_reducible exact h|with_reducible apply Has.alloc|with_reducible apply Has.drew|with_reducible apply Has.own));all_goals ((try simp only [Zz]);omega))) Zc Zc) (SsAt.nil _ _ _ _) (by unfold rng;omega) hl cF
   ·have ys:=Zh h6
    clear h6
    go_enter Tryz.func101,Tryz.ntmps101
    go_wp2_with (first|(go_at_call 31;refine (bN _ (At.pt (w:=w) Ze) ZA).mono ?_;rintro e w1 ⟨rfl,rfl⟩)|(go_at_call 31;refine (cJ _ (At.pt (w:=w) Ze) ZA).mono ?_;rintro e w1 ⟨rfl,hT,hP⟩;replace HC:=Zh (At.next (w:=w) Ze hT hP);clear hP;(try (replace V1:=Zh (Has.same ZH hT)));(try (replace V2:=Zh (Has.same ZI hT)));(try (replace V3:=Zh (Has.same ZJ hT)));(try (replace HV:=Zh (ExAt.same ZC hT)));(try (replace yg:=Zh (ExAt.same ZF hT)));(try (replace HO:=Zh (ah ZK hT (fun g1 xn=>by (try simp only []);simp [Value.ownBlock] at xn;omega))));have hs:=HC.out.kp.size;have hm:=Kp.size hT;(try simp only [Zz] at hm);(repeat ((first|(with_reducible obtain ⟨hx,hy,hT⟩:=hT.peel)|(with_reducible obtain ⟨hx,hy,hT⟩:=hT.peelA));(try simp only [Zz] at hx hy);rw [hx];clear hx));(repeat (clear hT)))|(go_at_call 100;refine (eB _ 66 _ _ _ _ (At.pt (w:=w) Ze) Za Za HR.out).mono ?_;rintro e w1 ⟨pa,pc,ka,kc,rfl,hT,hP,hv⟩;replace HC:=Zh (At.next (w:=w) Ze hT hP);clear hP;(try (replace V1:=Zh (Has.same ZH hT)));(try (replace V2:=Zh (Has.same ZI hT)));(try (replace V3:=Zh (Has.same ZJ hT)));(try (replace HV:=Zh (ExAt.same ZC hT)));(try (replace yg:=Zh (ExAt.same ZF hT)));(try (replace HO:=Zh (ah ZK hT (fun g1 xn=>by (try simp only []);simp [Value.ownBlock] at xn;omega))));have hs:=HC.out.kp.size;have hm:=Kp.size hT;(try simp only [Zz] at hm);(repeat ((first|(with_reducible obtain ⟨hx,hy,hT⟩:=hT.peel)|(with_reducible obtain ⟨hx,hy,hT⟩:=hT.peelA));(try simp only [Zz] at hx hy);rw [hx];clear hx));(repeat (clear hT));(try (have V3:=V2;clear V2));(try (have V2:=V1;clear V1));have V1:=Zh hv.has;clear hv)|(go_at_call 35;refine (HB.out _ _ _ _ (At.pt (w:=w) Ze) Za Za HL.out).mono ?_;rintro e w1 ⟨ta,tc,rfl,hT,hP,hv⟩;replace HC:=Zh (At.next (w:=w) Ze hT hP);clear hP;(try (replace V1:=Zh (Has.same ZH hT)));(try (replace V2:=Zh (Has.same ZI hT)));(try (replace V3:=Zh (Has.same ZJ hT)));(try (replace HV:=Zh (ExAt.same ZC hT)));(try (replace yg:=Zh (ExAt.same ZF hT)));(try (replace HO:=Zh (ah ZK hT (fun g1 xn=>by (try simp only []);simp [Value.ownBlock] at xn;omega))));have hs:=HC.out.kp.size;have hm:=Kp.size hT;(try simp only [Zz] at hm);(repeat ((first|(with_reducible obtain ⟨hx,hy,hT⟩:=hT.peel)|(with_reducible obtain ⟨hx,hy,hT⟩:=hT.peelA));(try simp only [Zz] at hx hy);rw [hx];clear hx));(repeat (clear hT));(try (have V3:=V2;clear V2));(try (have V2:=V1;clear V1));have V1:=Zh hv.has;clear hv;(try (replace HL:=ys;clear ys))))
    (try simp only [Exit.inBlock,Exit.then]);refine zad (by simp [results,Tryz.results101,go_sem,↓IntWalk.iteOmega];try rfl) rfl ?_
    have e1:=fun w1=>Has.to V1.out (w1:=w1)
    have e2:=fun w1=>Has.to V2.out (w1:=w1)
    have e3:=fun w1=>Has.to V3.out (w1:=w1)
    clear V1 V2 V3
    refine ⟨none,0,_,_,_,_,_,_,rfl,At.kp (s:=s3) Ze,At.pt (w:=w) Ze,?_⟩
    refine cZ (fL (ExAt.wide (e3 _ (fun h=>by (repeat (first|with_reducible exact h|with_reducible apply Has.alloc|with_reducible apply Has.drew|with_reducible apply Has.own));all_goals ((try simp only [Zz]);omega))) Zc Zc) (by (repeat (rw [aL,if_neg Zc]));rw [aL,if_pos rfl,if_pos Zc]) rfl Zc Zc) (SsAt.wide (e2 _ (fun h=>by (repeat (first|with_reducible exact h|with_reducible apply Has.alloc|with_reducible apply Has.drew|with_reducible apply Has.own));all_goals ((try simp only [Zz]);omega))) Zc Zc) (SsAt.wide (e1 _ (fun h=>by (repeat (first|with_reducible exact h|with_reducible apply Has.alloc|with_reducible apply Has.drew|with_reducible apply Has.own));all_goals ((try simp only [Zz]);omega))) Zc Zc) (by unfold rng;omega) hl cF
  ·rcases h4 with ⟨h5,rfl⟩|⟨h5, -⟩|⟨h5, -⟩
   ·clear h5
    go_enter Tryz.func101,Tryz.ntmps101
    go_wp2_with (first|(go_at_call 31;refine (bN _ (At.pt (w:=w) Ze) ZA).mono ?_;rintro e w1 ⟨rfl,rfl⟩)|(go_at_call 31;refine (cJ _ (At.pt (w:=w) Ze) ZA).mono ?_;rintro e w1 ⟨rfl,hT,hP⟩;replace HC:=Zh (At.next (w:=w) Ze hT hP);clear hP;(try (replace V1:=Zh (Has.same ZH hT)));(try (replace V2:=Zh (Has.same ZI hT)));(try (replace V3:=Zh (Has.same ZJ hT)));(try (replace HV:=Zh (ExAt.same ZC hT)));(try (replace yg:=Zh (ExAt.same ZF hT)));(try (replace HO:=Zh (ah ZK hT (fun g1 xn=>by (try simp only []);simp [Value.ownBlock] at xn;omega))));have hs:=HC.out.kp.size;have hm:=Kp.size hT;(try simp only [Zz] at hm);(repeat ((first|(with_reducible obtain ⟨hx,hy,hT⟩:=hT.peel)|(with_reducible obtain ⟨hx,hy,hT⟩:=hT.peelA));(try simp only [Zz] at hx hy);rw [hx];clear hx));(repeat (clear hT)))|(go_at_call 100;refine (eB _ 66 _ _ _ _ (At.pt (w:=w) Ze) Za Za HR.out).mono ?_;rintro e w1 ⟨pa,pc,ka,kc,rfl,hT,hP,hv⟩;replace HC:=Zh (At.next (w:=w) Ze hT hP);clear hP;(try (replace V1:=Zh (Has.same ZH hT)));(try (replace V2:=Zh (Has.same ZI hT)));(try (replace V3:=Zh (Has.same ZJ hT)));(try (replace HV:=Zh (ExAt.same ZC hT)));(try (replace yg:=Zh (ExAt.same ZF hT)));(try (replace HO:=Zh (ah ZK hT (fun g1 xn=>by (try simp only []);simp [Value.ownBlock] at xn;omega))));have hs:=HC.out.kp.size;have hm:=Kp.size hT;(try simp only [Zz] at hm);(repeat ((first|(with_reducible obtain ⟨hx,hy,hT⟩:=hT.peel)|(with_reducible obtain ⟨hx,hy,hT⟩:=hT.peelA));(try simp only [Zz] at hx hy);rw [hx];clear hx));(repeat (clear hT));(try (have V3:=V2;clear V2));(try (have V2:=V1;clear V1));have V1:=Zh hv.has;clear hv)|(go_at_call 35;refine (HB.out _ _ _ _ (At.pt (w:=w) Ze) Za Za HL.out).mono ?_;rintro e w1 ⟨ta,tc,rfl,hT,hP,hv⟩;replace HC:=Zh (At.next (w:=w) Ze hT hP);clear hP;(try (replace V1:=Zh (Has.same ZH hT)));(try (replace V2:=Zh (Has.same ZI hT)));(try (replace V3:=Zh (Has.same ZJ hT)));(try (replace HV:=Zh (ExAt.same ZC hT)));(try (replace yg:=Zh (ExAt.same ZF hT)));(try (replace HO:=Zh (ah ZK hT (fun g1 xn=>by (try simp only []);simp [Value.ownBlock] at xn;omega))));have hs:=HC.out.kp.size;have hm:=Kp.size hT;(try simp only [Zz] at hm);(repeat ((first|(with_reducible obtain ⟨hx,hy,hT⟩:=hT.peel)|(with_reducible obtain ⟨hx,hy,hT⟩:=hT.peelA));(try simp only [Zz] at hx hy);rw [hx];clear hx));(repeat (clear hT));(try (have V3:=V2;clear V2));(try (have V2:=V1;clear V1));have V1:=Zh hv.has;clear hv;(try (replace HL:=ys;clear ys))))
    (try simp only [Exit.inBlock,Exit.then]);refine zad (by simp [results,Tryz.results101,go_sem,↓IntWalk.iteOmega];try rfl) rfl ?_
    have e1:=fun w1=>Has.to V1.out (w1:=w1)
    have e2:=fun w1=>Has.to V2.out (w1:=w1)
    clear V1 V2
    refine ⟨none,0,_,_,_,_,none,0,rfl,At.kp (s:=s2) Ze,At.pt (w:=w) Ze,?_⟩
    refine cZ (fL (ExAt.wide (e2 _ (fun h=>by (repeat (first|with_reducible exact h|with_reducible apply Has.alloc|with_reducible apply Has.drew|with_reducible apply Has.own));all_goals ((try simp only [Zz]);omega))) Zc Zc) (by (repeat (rw [aL,if_neg Zc]));rw [aL,if_pos rfl,if_pos Zc]) rfl Zc Zc) (SsAt.wide (e1 _ (fun h=>by (repeat (first|with_reducible exact h|with_reducible apply Has.alloc|with_reducible apply Has.drew|with_reducible apply Has.own));all_goals ((try simp only [Zz]);omega))) Zc Zc) (SsAt.nil _ _ _ _) (by unfold rng;omega) hl cF
   ·simp at h5
   ·simp at h5
 ·go_enter Tryz.func101,Tryz.ntmps101
  go_wp2_with (first|(go_at_call 31;refine (bN _ (At.pt (w:=w) Ze) ZA).mono ?_;rintro e w1 ⟨rfl,rfl⟩)|(go_at_call 65;refine (dm _ (At.pt (w:=w) Ze) _ (by unfold rng;omega)).mono ?_;rintro e w1 ⟨rfl,hT,hP⟩;replace HC:=Zh (At.next (w:=w) Ze hT hP);clear hP;(try (replace V1:=Zh (Has.same ZH hT)));(try (replace V2:=Zh (Has.same ZI hT)));(try (replace V3:=Zh (Has.same ZJ hT)));(try (replace HV:=Zh (ExAt.same ZC hT)));(try (replace yg:=Zh (ExAt.same ZF hT)));(try (replace HO:=Zh (ah ZK hT (fun g1 xn=>by (try simp only []);simp [Value.ownBlock] at xn;omega))));have hs:=HC.out.kp.size;have hm:=Kp.size hT;(try simp only [Zz] at hm);(repeat ((first|(with_reducible obtain ⟨hx,hy,hT⟩:=hT.peel)|(with_reducible obtain ⟨hx,hy,hT⟩:=hT.peelA));(try simp only [Zz] at hx hy);rw [hx];clear hx));(repeat (clear hT))))
  (try simp only [Exit.inBlock,Exit.then]);refine zad (by simp [results,Tryz.results101,go_sem,↓IntWalk.iteOmega];try rfl) rfl ?_
  refine ⟨none,0,none,0,none,0,none,0,rfl,At.kp (s:=pFail 4 s) Ze,At.pt (w:=w) Ze,?_⟩
  exact cZ (XsAt.nil _ _ _) (SsAt.nil _ _ _ _) (SsAt.nil _ _ _ _) cF hl cF
abbrev StCall(P:Nat)(d:Int)(w:qW)(Q:Ending->qW->Prop):Prop:=qC 71 #[pP P,iI d] w Q
theorem pV{P n:Nat}{s:PS}(w:qW)(h:PAt w P s)(d:Int)(yV:0<=d)(hd:d<=900)(hl:rng (pHead s).line) (q0:(pIs (⟨#[108,101,116]⟩:qB) s).1=true)(r:Ex×PS)(hr:pValue (pExpr 66) d ((pName (pNext s)).2)=some r)  :
  StCall P d w (ParS P (n+1) w (.mk 1 (pHead s).line (pName (pNext s)).1 (⟨#[]⟩:qB) 0 (⟨#[]⟩:qB) [] [r.1] [] [],pWant (⟨#[59]⟩:qB) (r.2))):=Z59_
theorem pT{P n:Nat}{s:PS}(w:qW)(h:PAt w P s)(d:Int)(yV:0<=d)(hd:d<=900)(hl:rng (pHead s).line)(q0:(pIs (⟨#[108,101,116]⟩:qB) s).1=false)(q1:(pIs (⟨#[115,101,116]⟩:qB) s).1=true)(r:Ex×PS)(hr:pValue (pExpr 66) d ((pName (pNext s)).2)=some r)  :
  StCall P d w (ParS P (n+1) w (.mk 2 (pHead s).line (pName (pNext s)).1 (⟨#[]⟩:qB) 0 (⟨#[]⟩:qB) [] [r.1] [] [],pWant (⟨#[59]⟩:qB) (r.2))):=Z59_
theorem pS{P n:Nat}{s:PS}(w:qW)(h:PAt w P s)(d:Int)(yV:0<=d)(hd:d<=900)(hl:rng (pHead s).line)(q0:(pIs (⟨#[108,101,116]⟩:qB) s).1=false)(q1:(pIs (⟨#[115,101,116]⟩:qB) s).1=false)(q2:(pIs (⟨#[119,114,105,116,101]⟩:qB) s).1=true)(x:PlaceD)(s1:PS)(hp:pPlace (pExpr 66) d (pNext s)=some (x,s1))(r:Ex×PS)(hr:pValue (pExpr 66) d (s1)=some r)  :
  StCall P d w (ParS P (n+1) w (.mk 3 (pHead s).line (⟨#[]⟩:qB) (⟨#[]⟩:qB) 0 x.var x.parts [r.1] [] [],pWant (⟨#[59]⟩:qB) (r.2))):=by
 have HL:=Zh hp
 have HR:=Zh hr
 clear hp hr
 have HC:=Zh (At.begin h)
 have wY:=h.lt
 obtain ⟨b,o,c,h1,h2,h3,h4,h5,h6,h7,h8, -⟩:=h.mem
 have hc:=aa h1
 clear h h1
 go_enter Tryz.func71,Tryz.ntmps71
 go_wp2_with fail
 clear hc h2 h3 h4 h5 h6 h7 h8
 go_wp2_with ((first|(go_at_call 31;refine (bN _ (At.pt (w:=w) Ze) ZA).mono ?_;rintro e w1 ⟨rfl,rfl⟩)|(go_at_call 31;refine (cJ _ (At.pt (w:=w) Ze) ZA).mono ?_;rintro e w1 ⟨rfl,hT,hP⟩)|(go_at_call 98;refine (kr _ (At.pt (w:=w) Ze) _ _ HL.out).mono ?_;rintro e w1 ⟨rfl,hT,hP,Eg⟩)|(go_at_call 97;refine (jZ _ (At.pt (w:=w) Ze) _ Za Za _ HR.out).mono ?_;rintro e w1 ⟨xa,xc,rfl,hT,hP,hv⟩;replace HC:=Zh (At.next (w:=w) Ze hT hP);clear hP;(try (replace V1:=Zh (Has.same ZH hT)));(try (replace V2:=Zh (Has.same ZI hT)));(try (replace V3:=Zh (Has.same ZJ hT)));(try (replace HV:=Zh (ExAt.same ZC hT)));(try (replace yg:=Zh (ExAt.same ZF hT)));(try (replace HO:=Zh (ah ZK hT (fun g1 xn=>by (try simp only []);simp [Value.ownBlock] at xn;omega))));have hs:=HC.out.kp.size;have hm:=Kp.size hT;(try simp only [Zz] at hm);(repeat ((first|(with_reducible obtain ⟨hx,hy,hT⟩:=hT.peel)|(with_reducible obtain ⟨hx,hy,hT⟩:=hT.peelA));(try simp only [Zz] at hx hy);rw [hx];clear hx));(repeat (clear hT));(try (have V3:=V2;clear V2));(try (have V2:=V1;clear V1));have V1:=Zh hv.has;clear hv)|(go_at_call 34;refine (cY _ (At.pt (w:=w) Ze) _).mono ?_;rintro e w1 ⟨rfl,hT,hP⟩));(try (replace HC:=Zh (At.next (w:=w) Ze hT hP);clear hP;(try (replace V1:=Zh (Has.same ZH hT)));(try (replace V2:=Zh (Has.same ZI hT)));(try (replace V3:=Zh (Has.same ZJ hT)));(try (replace HV:=Zh (ExAt.same ZC hT)));(try (replace yg:=Zh (ExAt.same ZF hT)));(try (replace HO:=Zh (ah ZK hT (fun g1 xn=>by (try simp only []);simp [Value.ownBlock] at xn;omega))));have hs:=HC.out.kp.size;have hm:=Kp.size hT;(try simp only [Zz] at hm);(repeat ((first|(with_reducible obtain ⟨hx,hy,hT⟩:=hT.peel)|(with_reducible obtain ⟨hx,hy,hT⟩:=hT.peelA));(try simp only [Zz] at hx hy);rw [hx];clear hx));(repeat (clear hT)))))
 (try simp only [Exit.inBlock,Exit.then]);refine zad Z54_ rfl ?_
 rw [Eg]
 have e1:=fun w1=>Has.to V1.out (w1:=w1)
 clear V1
 refine ⟨none,0,_,_,none,0,none,0,rfl,At.kp (s:=pWant (⟨#[59]⟩:qB) (r.2)) Ze,At.pt (w:=w) Ze,?_⟩
 exact cZ (XsAt.wide (e1 _ (fun h=>by (repeat (first|with_reducible exact h|with_reducible apply Has.alloc|with_reducible apply Has.drew|with_reducible apply Has.own));all_goals ((try simp only [Zz]);omega))) Zc Zc) (SsAt.nil _ _ _ _) (SsAt.nil _ _ _ _) (by unfold rng;omega) hl cF
theorem pW{P n:Nat}{s:PS}(w:qW)(h:PAt w P s)(d:Int)(yV:0<=d)(hd:d<=900)(hl:rng (pHead s).line)(q0:(pIs (⟨#[108,101,116]⟩:qB) s).1=false)(q1:(pIs (⟨#[115,101,116]⟩:qB) s).1=false)(q2:(pIs (⟨#[119,114,105,116,101]⟩:qB) s).1=false)(q3:(pIs (⟨#[115,116,111,114,101]⟩:qB) s).1=false)(q4:(pIs (⟨#[108,111,97,100,50]⟩:qB) s).1=false)(q5:(pIs (⟨#[115,116,111,114,101,50]⟩:qB) s).1=false)(q6:(pIs (⟨#[102,101,110,99,101]⟩:qB) s).1=true)  :
  StCall P d w (ParS P (n+1) w (.mk 7 (pHead s).line (⟨#[]⟩:qB) (⟨#[]⟩:qB) (pOrder (pNext s)).1 (⟨#[]⟩:qB) [] [] [] [],pWant (⟨#[59]⟩:qB) ((pOrder (pNext s)).2))):=by
 have HC:=Zh (At.begin h)
 have wY:=h.lt
 obtain ⟨b,o,c,h1,h2,h3,h4,h5,h6,h7,h8, -⟩:=h.mem
 have hc:=aa h1
 clear h h1
 go_enter Tryz.func71,Tryz.ntmps71
 go_wp2_with fail
 clear hc h2 h3 h4 h5 h6 h7 h8
 go_wp2_with ((first|(go_at_call 31;refine (bN _ (At.pt (w:=w) Ze) ZA).mono ?_;rintro e w1 ⟨rfl,rfl⟩)|(go_at_call 31;refine (cJ _ (At.pt (w:=w) Ze) ZA).mono ?_;rintro e w1 ⟨rfl,hT,hP⟩)|(go_at_call 99;refine (kn _ (At.pt (w:=w) Ze)).mono ?_;rintro e w1 ⟨rfl,hT,hP⟩)|(go_at_call 34;refine (cY _ (At.pt (w:=w) Ze) _).mono ?_;rintro e w1 ⟨rfl,hT,hP⟩));(try (replace HC:=Zh (At.next (w:=w) Ze hT hP);clear hP;(try (replace V1:=Zh (Has.same ZH hT)));(try (replace V2:=Zh (Has.same ZI hT)));(try (replace V3:=Zh (Has.same ZJ hT)));(try (replace HV:=Zh (ExAt.same ZC hT)));(try (replace yg:=Zh (ExAt.same ZF hT)));(try (replace HO:=Zh (ah ZK hT (fun g1 xn=>by (try simp only []);simp [Value.ownBlock] at xn;omega))));have hs:=HC.out.kp.size;have hm:=Kp.size hT;(try simp only [Zz] at hm);(repeat ((first|(with_reducible obtain ⟨hx,hy,hT⟩:=hT.peel)|(with_reducible obtain ⟨hx,hy,hT⟩:=hT.peelA));(try simp only [Zz] at hx hy);rw [hx];clear hx));(repeat (clear hT)))))
 (try simp only [Exit.inBlock,Exit.then]);refine zad Z54_ rfl ?_
 refine ⟨none,0,none,0,none,0,none,0,rfl,At.kp (s:=pWant (⟨#[59]⟩:qB) ((pOrder (pNext s)).2)) Ze,At.pt (w:=w) Ze,?_⟩
 exact cZ (XsAt.nil _ _ _) (SsAt.nil _ _ _ _) (SsAt.nil _ _ _ _) (by unfold rng;omega) hl (kS _)
theorem pX{P n:Nat}{pb:PB}(HE:HBl P n pb){s:PS}(w:qW)(h:PAt w P s)(d:Int)(yV:0<=d)(hd:d<=900)(hl:rng (pHead s).line)(q0:(pIs (⟨#[108,101,116]⟩:qB) s).1=false)(q1:(pIs (⟨#[115,101,116]⟩:qB) s).1=false)(q2:(pIs (⟨#[119,114,105,116,101]⟩:qB) s).1=false)(q3:(pIs (⟨#[115,116,111,114,101]⟩:qB) s).1=false)(q4:(pIs (⟨#[108,111,97,100,50]⟩:qB) s).1=false)(q5:(pIs (⟨#[115,116,111,114,101,50]⟩:qB) s).1=false)(q6:(pIs (⟨#[102,101,110,99,101]⟩:qB) s).1=false)(q7:(pIs (⟨#[112,114,105,110,116]⟩:qB) s).1=false)(r:Sm×PS)(hr:pControl (pExpr 66) pb (pHead s).line d s=some r):
  StCall P d w (ParS P (n+1) w r):=by
 have HB:=Zh HE
 have HR:=Zh hr
 clear hr HE
 have HC:=Zh (At.begin h)
 have wY:=h.lt
 obtain ⟨b,o,c,h1,h2,h3,h4,h5,h6,h7,h8, -⟩:=h.mem
 have hc:=aa h1
 clear h h1
 go_enter Tryz.func71,Tryz.ntmps71
 go_wp2_with fail
 clear hc h2 h3 h4 h5 h6 h7 h8
 go_wp2_with (first|(go_at_call 31;refine (bN _ (At.pt (w:=w) Ze) ZA).mono ?_;rintro e w1 ⟨rfl,rfl⟩)|(go_at_call 101;refine (ydS HB.out _ (At.pt (w:=w) Ze) _ _ hl Za Za _ HR.out).mono ?_;rintro e w1 ⟨pa,pc,xa,xc,ta,tc,la,lc,rfl,hT,hP,hv⟩;replace HC:=Zh (At.next (w:=w) Ze hT hP);clear hP;(try (replace V1:=Zh (Has.same ZH hT)));(try (replace V2:=Zh (Has.same ZI hT)));(try (replace V3:=Zh (Has.same ZJ hT)));(try (replace HV:=Zh (ExAt.same ZC hT)));(try (replace yg:=Zh (ExAt.same ZF hT)));(try (replace HO:=Zh (ah ZK hT (fun g1 xn=>by (try simp only []);simp [Value.ownBlock] at xn;omega))));have hs:=HC.out.kp.size;have hm:=Kp.size hT;(try simp only [Zz] at hm);(repeat ((first|(with_reducible obtain ⟨hx,hy,hT⟩:=hT.peel)|(with_reducible obtain ⟨hx,hy,hT⟩:=hT.peelA));(try simp only [Zz] at hx hy);rw [hx];clear hx));(repeat (clear hT));(try (have V3:=V2;clear V2));(try (have V2:=V1;clear V1));have V1:=Zh hv.has;clear hv))
 (try simp only [Exit.inBlock,Exit.then]);refine zad Z54_ rfl ?_
 have e1:=fun w1=>Has.to V1.out (w1:=w1)
 clear V1
 refine ⟨pa,pc,xa,xc,ta,tc,la,lc,rfl,At.kp (s:=r.2) Ze,At.pt (w:=w) Ze,?_⟩
 exact SmAt.wide (e1 _ (fun h=>by (repeat (first|with_reducible exact h|with_reducible apply Has.alloc|with_reducible apply Has.drew|with_reducible apply Has.own));all_goals ((try simp only [Zz]);omega))) Zc Zc
theorem qh{P n:Nat}{pb:PB}(HE:HBl P n pb){s:PS}(w:qW)(h:PAt w P s)(d:Int)(yV:0<=d)(hd:d<=900)(r:Sm×PS)(hr:pStmt (pExpr 66) pb d s=some r)(h6:(pIs (⟨#[115,116,111,114,101,50]⟩:qB) s).1=false):StCall P d w (ParS P (n+1) w r):=by
 have hl:rng (pHead s).line:=by
  obtain ⟨b,o,c,h1,h2,h3,h4,h5,h6,h7,h8, -⟩:=h.mem
  exact h8
 unfold pStmt at hr
 simp only at hr
 cases q0:(pIs (⟨#[108,101,116]⟩:qB) s).1
 case true=>
  simp only [q0,if_true,bM q0] at hr
  rcases g1:pValue (pExpr 66) d (pName (pNext s)).2 with _|⟨a,s1⟩
  ·simp [g1] at hr
  simp only [g1,zaA] at hr
  subst hr
  exact pV w h d yV hd hl q0 (a,s1) g1
 cases q1:(pIs (⟨#[115,101,116]⟩:qB) s).1
 case true=>
  simp only [q0,q1,zaY,if_false,if_true,bM q1] at hr
  rcases g1:pValue (pExpr 66) d (pName (pNext s)).2 with _|⟨a,s1⟩
  ·simp [g1] at hr
  simp only [g1,zaA] at hr
  subst hr
  exact pT w h d yV hd hl q0 q1 (a,s1) g1
 cases q2:(pIs (⟨#[119,114,105,116,101]⟩:qB) s).1
 case true=>
  simp only [q0,q1,q2,zaY,if_false,if_true,bM q2] at hr
  rcases g1:pPlace (pExpr 66) d (pNext s) with _|⟨x,s1⟩
  ·simp [g1] at hr
  simp only [g1] at hr
  rcases g2:pValue (pExpr 66) d s1 with _|⟨a,s2⟩
  ·simp [g2] at hr
  simp only [g2,zaA] at hr
  subst hr
  exact pS w h d yV hd hl q0 q1 q2 x s1 g1 (a,s2) g2
 cases q3:(pIs (⟨#[115,116,111,114,101]⟩:qB) s).1
 case true=>simp [q0,q1,q2,q3] at hr
 cases q4:(pIs (⟨#[108,111,97,100,50]⟩:qB) s).1
 case true=>simp [q0,q1,q2,q3,q4] at hr
 simp only [h6,zaY,if_false] at hr
 cases q6:(pIs (⟨#[102,101,110,99,101]⟩:qB) s).1
 case true=>
  simp only [q0,q1,q2,q3,q4,q6,zaY,if_false,if_true,bM q6,zaA] at hr
  subst hr
  exact pW w h d yV hd hl q0 q1 q2 q3 q4 h6 q6
 cases q7:(pIs (⟨#[112,114,105,110,116]⟩:qB) s).1
 case true=>simp [q0,q1,q2,q3,q4,q6,q7] at hr
 simp only [q0,q1,q2,q3,q4,q6,q7,zaY,if_false] at hr
 exact pX HE w h d yV hd hl q0 q1 q2 q3 q4 h6 q6 q7 r hr
end Go.Proofs.YtcekjfmfcefjpaaGreatDoor
