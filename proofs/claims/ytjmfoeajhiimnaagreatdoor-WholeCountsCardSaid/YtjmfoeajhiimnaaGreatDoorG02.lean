/- Walks. No condition. -/
import Derived.Handy
import Derived.Lib.ConvBytes
import Derived.Laws.BitsAllLaws
import Derived.Test.YtjmfoeajhiimnaaGreatDoorProg
import Derived.Test.YtjmfoeajhiimnaaGreatDoorG01
set_option maxRecDepth 100000
set_option maxHeartbeats 0
set_option linter.all false
namespace Go.Proofs.YtjmfoeajhiimnaaGreatDoor
section
open Go.RowKit Go.Sort
def strB(l:List Nat):qB:=⟨(l.map UInt8.ofNat).toArray⟩
theorem yaq(w:qW):qC 152 #[iI 17] w (Gives w (.agg #[.int .u32 960495616,.string ⟨#[100,97,111,115]⟩])):=Z1
theorem yap(w:qW):qC 152 #[iI 18] w (Gives w (.agg #[.int .u32 956301312,.string ⟨#[100,97,111,115]⟩])):=Z1
theorem yao(w:qW):qC 152 #[iI 19] w (Gives w (.agg #[.int .u32 148896768,.string ⟨#[100,97,115]⟩])):=Z1
theorem yan(w:qW):qC 152 #[iI 20] w (Gives w (.agg #[.int .u32 144702464,.string ⟨#[100,97,115]⟩])):=Z1
theorem yam(w:qW):qC 152 #[iI 21] w (Gives w (.agg #[.int .u32 140475392,.string ⟨#[100,97,115]⟩])):=Z1
theorem yal(w:qW):qC 152 #[iI 22] w (Gives w (.agg #[.int .u32 140508160,.string ⟨#[100,97,115]⟩])):=Z1
theorem yak(w:qW):qC 152 #[iI 23] w (Gives w (.agg #[.int .u32 134249472,.string ⟨#[100,97,115,109]⟩])):=Z1
theorem yaj(w:qW):qC 152 #[iI 24] w (Gives w (.agg #[.int .u32 134282240,.string ⟨#[100,97,115,109]⟩])):=Z1
theorem yai(w:qW):qC 152 #[iI 25] w (Gives w (.agg #[.int .u32 3363766272,.string ⟨#[100,97,101]⟩])):=Z1
theorem yah(w:qW):qC 152 #[iI 26] w (Gives w (.agg #[.int .u32 3363799040,.string ⟨#[100,97,101]⟩])):=Z1
theorem yag(w:qW):qC 152 #[iI 27] w (Gives w (.agg #[.int .u32 3357540352,.string ⟨#[100,97,101,109]⟩])):=Z1
theorem yaf(w:qW):qC 152 #[iI 28] w (Gives w (.agg #[.int .u32 3357573120,.string ⟨#[100,97,101,109]⟩])):=Z1
theorem yae(op:Int)(h: ¬(1<=op/\op<=32))(w:qW):qC 152 #[iI op] w (Gives w (.agg #[.int .u32 0,.string ⟨#[]⟩])):=by
 have RS:(op==17)=false:=by simp;omega
 have RR:(op==18)=false:=by simp;omega
 have RQ:(op==19)=false:=by simp;omega
 have FC:(op==20)=false:=by simp;omega
 have RP:(op==21)=false:=by simp;omega
 have RO:(op==22)=false:=by simp;omega
 have RN:(op==23)=false:=by simp;omega
 have RM:(op==24)=false:=by simp;omega
 have RL:(op==25)=false:=by simp;omega
 have RK:(op==26)=false:=by simp;omega
 have RJ:(op==27)=false:=by simp;omega
 have RI:(op==28)=false:=by simp;omega
 clear h
 go_enter Tryz.func152,Tryz.ntmps152
 go_wp2
 go_returns
 exact Gives.mk rfl Ze
theorem ybo(w:qW):qC 97 #[iI 13] w (Gives w (.agg #[.int .u32 335544320,.string ⟨#[98]⟩])):=Z68_
theorem ybn(w:qW):qC 97 #[iI 14] w (Gives w (.agg #[.int .u32 1409286144,.string ⟨#[120,99]⟩])):=Z68_
theorem ybm(w:qW):qC 97 #[iI 15] w (Gives w (.agg #[.int .u32 3019898880,.string ⟨#[100,120]⟩])):=Z68_
theorem ybl(w:qW):qC 97 #[iI 16] w (Gives w (.agg #[.int .u32 3036676096,.string ⟨#[100,120]⟩])):=Z68_
theorem ya8(w:qW):qC 97 #[iI 29] w (Gives w (.agg #[.int .u32 3573756095,.string ⟨#[102]⟩])):=Z68_
theorem ya7(w:qW):qC 97 #[iI 30] w (Gives w (.agg #[.int .u32 3573759839,.string ⟨#[122]⟩])):=Z68_
theorem ya6(w:qW):qC 97 #[iI 31] w (Gives w (.agg #[.int .u32 3556769793,.string ⟨#[105]⟩])):=Z68_
theorem ya5(w:qW):qC 97 #[iI 32] w (Gives w (.agg #[.int .u32 3558866944,.string ⟨#[105]⟩])):=Z68_
theorem ybk(w:qW):qC 97 #[iI 17] w (Gives w (.agg #[.int .u32 960495616,.string ⟨#[100,97,111,115]⟩])):=by
 go_enter Tryz.func97,Tryz.ntmps97
 go_wp2_with (first|(go_at_call 152;refine (yaq _).mono ?_;rintro e w1 ⟨rfl,p1,rfl⟩))
 go_returns
 exact Gives.mk rfl Ze
theorem ybj(w:qW):qC 97 #[iI 18] w (Gives w (.agg #[.int .u32 956301312,.string ⟨#[100,97,111,115]⟩])):=by
 go_enter Tryz.func97,Tryz.ntmps97
 go_wp2_with (first|(go_at_call 152;refine (yap _).mono ?_;rintro e w1 ⟨rfl,p1,rfl⟩))
 go_returns
 exact Gives.mk rfl Ze
theorem ybi(w:qW):qC 97 #[iI 19] w (Gives w (.agg #[.int .u32 148896768,.string ⟨#[100,97,115]⟩])):=by
 go_enter Tryz.func97,Tryz.ntmps97
 go_wp2_with (first|(go_at_call 152;refine (yao _).mono ?_;rintro e w1 ⟨rfl,p1,rfl⟩))
 go_returns
 exact Gives.mk rfl Ze
theorem ybh(w:qW):qC 97 #[iI 20] w (Gives w (.agg #[.int .u32 144702464,.string ⟨#[100,97,115]⟩])):=by
 go_enter Tryz.func97,Tryz.ntmps97
 go_wp2_with (first|(go_at_call 152;refine (yan _).mono ?_;rintro e w1 ⟨rfl,p1,rfl⟩))
 go_returns
 exact Gives.mk rfl Ze
theorem ybg(w:qW):qC 97 #[iI 21] w (Gives w (.agg #[.int .u32 140475392,.string ⟨#[100,97,115]⟩])):=by
 go_enter Tryz.func97,Tryz.ntmps97
 go_wp2_with (first|(go_at_call 152;refine (yam _).mono ?_;rintro e w1 ⟨rfl,p1,rfl⟩))
 go_returns
 exact Gives.mk rfl Ze
theorem ybf(w:qW):qC 97 #[iI 22] w (Gives w (.agg #[.int .u32 140508160,.string ⟨#[100,97,115]⟩])):=by
 go_enter Tryz.func97,Tryz.ntmps97
 go_wp2_with (first|(go_at_call 152;refine (yal _).mono ?_;rintro e w1 ⟨rfl,p1,rfl⟩))
 go_returns
 exact Gives.mk rfl Ze
theorem ybe(w:qW):qC 97 #[iI 23] w (Gives w (.agg #[.int .u32 134249472,.string ⟨#[100,97,115,109]⟩])):=by
 go_enter Tryz.func97,Tryz.ntmps97
 go_wp2_with (first|(go_at_call 152;refine (yak _).mono ?_;rintro e w1 ⟨rfl,p1,rfl⟩))
 go_returns
 exact Gives.mk rfl Ze
theorem ybd(w:qW):qC 97 #[iI 24] w (Gives w (.agg #[.int .u32 134282240,.string ⟨#[100,97,115,109]⟩])):=by
 go_enter Tryz.func97,Tryz.ntmps97
 go_wp2_with (first|(go_at_call 152;refine (yaj _).mono ?_;rintro e w1 ⟨rfl,p1,rfl⟩))
 go_returns
 exact Gives.mk rfl Ze
theorem ybc(w:qW):qC 97 #[iI 25] w (Gives w (.agg #[.int .u32 3363766272,.string ⟨#[100,97,101]⟩])):=by
 go_enter Tryz.func97,Tryz.ntmps97
 go_wp2_with (first|(go_at_call 152;refine (yai _).mono ?_;rintro e w1 ⟨rfl,p1,rfl⟩))
 go_returns
 exact Gives.mk rfl Ze
theorem ybb(w:qW):qC 97 #[iI 26] w (Gives w (.agg #[.int .u32 3363799040,.string ⟨#[100,97,101]⟩])):=by
 go_enter Tryz.func97,Tryz.ntmps97
 go_wp2_with (first|(go_at_call 152;refine (yah _).mono ?_;rintro e w1 ⟨rfl,p1,rfl⟩))
 go_returns
 exact Gives.mk rfl Ze
theorem yba(w:qW):qC 97 #[iI 27] w (Gives w (.agg #[.int .u32 3357540352,.string ⟨#[100,97,101,109]⟩])):=by
 go_enter Tryz.func97,Tryz.ntmps97
 go_wp2_with (first|(go_at_call 152;refine (yag _).mono ?_;rintro e w1 ⟨rfl,p1,rfl⟩))
 go_returns
 exact Gives.mk rfl Ze
theorem ya9(w:qW):qC 97 #[iI 28] w (Gives w (.agg #[.int .u32 3357573120,.string ⟨#[100,97,101,109]⟩])):=by
 go_enter Tryz.func97,Tryz.ntmps97
 go_wp2_with (first|(go_at_call 152;refine (yaf _).mono ?_;rintro e w1 ⟨rfl,p1,rfl⟩))
 go_returns
 exact Gives.mk rfl Ze
theorem ya4(op:Int)(h: ¬(1<=op/\op<=32))(w:qW):qC 97 #[iI op] w (Gives w (.agg #[.int .u32 0,.string ⟨#[]⟩])):=by
 have I':(op==13)=false:=by simp;omega
 have BD:(op==14)=false:=by simp;omega
 have Hk:(op==15)=false:=by simp;omega
 have KF:(op==16)=false:=by simp;omega
 have RH:(op==29)=false:=by simp;omega
 have zT:(op==30)=false:=by simp;omega
 have BB:(op==31)=false:=by simp;omega
 have FB:(op==32)=false:=by simp;omega
 have H:=Zh h
 clear h
 go_enter Tryz.func97,Tryz.ntmps97
 go_wp2_with (first|(go_at_call 152;refine (yae op H.out _).mono ?_;rintro e w1 ⟨rfl,p1,rfl⟩))
 go_returns
 exact Gives.mk rfl Ze
theorem wK(w:qW):qC 58 #[iI 1] w (Gives w (.agg #[.int .u32 3531603968,.string ⟨#[100,105,113]⟩])):=Z2
theorem ww(w:qW):qC 58 #[iI 2] w (Gives w (.agg #[.int .u32 4068474880,.string ⟨#[100,105,113]⟩])):=Z2
theorem we(w:qW):qC 58 #[iI 3] w (Gives w (.agg #[.int .u32 2332033024,.string ⟨#[100,110,109]⟩])):=Z2
theorem vW(w:qW):qC 58 #[iI 4] w (Gives w (.agg #[.int .u32 3405774848,.string ⟨#[100,110,109]⟩])):=Z2
theorem vV(w:qW):qC 58 #[iI 5] w (Gives w (.agg #[.int .u32 3942645760,.string ⟨#[100,110,109]⟩])):=Z2
theorem vU(w:qW):qC 58 #[iI 6] w (Gives w (.agg #[.int .u32 2315255808,.string ⟨#[100,110,109]⟩])):=Z2
theorem vT(w:qW):qC 58 #[iI 7] w (Gives w (.agg #[.int .u32 2852126720,.string ⟨#[100,110,109]⟩])):=Z2
theorem vS(w:qW):qC 58 #[iI 8] w (Gives w (.agg #[.int .u32 3388997632,.string ⟨#[100,110,109]⟩])):=Z2
theorem vR(w:qW):qC 58 #[iI 9] w (Gives w (.agg #[.int .u32 2600500224,.string ⟨#[100,110,109]⟩])):=Z2
theorem wJ(w:qW):qC 58 #[iI 10] w (Gives w (.agg #[.int .u32 2596282368,.string ⟨#[100,110,109]⟩])):=Z2
theorem wI(w:qW):qC 58 #[iI 11] w (Gives w (.agg #[.int .u32 2596283392,.string ⟨#[100,110,109]⟩])):=Z2
theorem wH(w:qW):qC 58 #[iI 12] w (Gives w (.agg #[.int .u32 2594113504,.string ⟨#[100,107]⟩])):=Z2
theorem wG(w:qW):qC 58 #[iI 13] w (Gives w (.agg #[.int .u32 335544320,.string ⟨#[98]⟩])):=by
 go_enter Tryz.func58,Tryz.ntmps58
 go_wp2_with (first|(go_at_call 97;refine (ybo _).mono ?_;rintro e w1 ⟨rfl,p1,rfl⟩))
 go_returns
 exact Gives.mk rfl Ze
theorem wF(w:qW):qC 58 #[iI 14] w (Gives w (.agg #[.int .u32 1409286144,.string ⟨#[120,99]⟩])):=by
 go_enter Tryz.func58,Tryz.ntmps58
 go_wp2_with (first|(go_at_call 97;refine (ybn _).mono ?_;rintro e w1 ⟨rfl,p1,rfl⟩))
 go_returns
 exact Gives.mk rfl Ze
theorem wE(w:qW):qC 58 #[iI 15] w (Gives w (.agg #[.int .u32 3019898880,.string ⟨#[100,120]⟩])):=by
 go_enter Tryz.func58,Tryz.ntmps58
 go_wp2_with (first|(go_at_call 97;refine (ybm _).mono ?_;rintro e w1 ⟨rfl,p1,rfl⟩))
 go_returns
 exact Gives.mk rfl Ze
theorem wD(w:qW):qC 58 #[iI 16] w (Gives w (.agg #[.int .u32 3036676096,.string ⟨#[100,120]⟩])):=by
 go_enter Tryz.func58,Tryz.ntmps58
 go_wp2_with (first|(go_at_call 97;refine (ybl _).mono ?_;rintro e w1 ⟨rfl,p1,rfl⟩))
 go_returns
 exact Gives.mk rfl Ze
theorem wg(w:qW):qC 58 #[iI 29] w (Gives w (.agg #[.int .u32 3573756095,.string ⟨#[102]⟩])):=by
 go_enter Tryz.func58,Tryz.ntmps58
 go_wp2_with (first|(go_at_call 97;refine (ya8 _).mono ?_;rintro e w1 ⟨rfl,p1,rfl⟩))
 go_returns
 exact Gives.mk rfl Ze
theorem vZ(w:qW):qC 58 #[iI 30] w (Gives w (.agg #[.int .u32 3573759839,.string ⟨#[122]⟩])):=by
 go_enter Tryz.func58,Tryz.ntmps58
 go_wp2_with (first|(go_at_call 97;refine (ya7 _).mono ?_;rintro e w1 ⟨rfl,p1,rfl⟩))
 go_returns
 exact Gives.mk rfl Ze
theorem vY(w:qW):qC 58 #[iI 31] w (Gives w (.agg #[.int .u32 3556769793,.string ⟨#[105]⟩])):=by
 go_enter Tryz.func58,Tryz.ntmps58
 go_wp2_with (first|(go_at_call 97;refine (ya6 _).mono ?_;rintro e w1 ⟨rfl,p1,rfl⟩))
 go_returns
 exact Gives.mk rfl Ze
theorem vX(w:qW):qC 58 #[iI 32] w (Gives w (.agg #[.int .u32 3558866944,.string ⟨#[105]⟩])):=by
 go_enter Tryz.func58,Tryz.ntmps58
 go_wp2_with (first|(go_at_call 97;refine (ya5 _).mono ?_;rintro e w1 ⟨rfl,p1,rfl⟩))
 go_returns
 exact Gives.mk rfl Ze
theorem wC(w:qW):qC 58 #[iI 17] w (Gives w (.agg #[.int .u32 960495616,.string ⟨#[100,97,111,115]⟩])):=by
 go_enter Tryz.func58,Tryz.ntmps58
 go_wp2_with (first|(go_at_call 97;refine (ybk _).mono ?_;rintro e w1 ⟨rfl,p1,rfl⟩))
 go_returns
 exact Gives.mk rfl Ze
theorem wB(w:qW):qC 58 #[iI 18] w (Gives w (.agg #[.int .u32 956301312,.string ⟨#[100,97,111,115]⟩])):=by
 go_enter Tryz.func58,Tryz.ntmps58
 go_wp2_with (first|(go_at_call 97;refine (ybj _).mono ?_;rintro e w1 ⟨rfl,p1,rfl⟩))
 go_returns
 exact Gives.mk rfl Ze
theorem wA(w:qW):qC 58 #[iI 19] w (Gives w (.agg #[.int .u32 148896768,.string ⟨#[100,97,115]⟩])):=by
 go_enter Tryz.func58,Tryz.ntmps58
 go_wp2_with (first|(go_at_call 97;refine (ybi _).mono ?_;rintro e w1 ⟨rfl,p1,rfl⟩))
 go_returns
 exact Gives.mk rfl Ze
theorem wu(w:qW):qC 58 #[iI 20] w (Gives w (.agg #[.int .u32 144702464,.string ⟨#[100,97,115]⟩])):=by
 go_enter Tryz.func58,Tryz.ntmps58
 go_wp2_with (first|(go_at_call 97;refine (ybh _).mono ?_;rintro e w1 ⟨rfl,p1,rfl⟩))
 go_returns
 exact Gives.mk rfl Ze
theorem wt(w:qW):qC 58 #[iI 21] w (Gives w (.agg #[.int .u32 140475392,.string ⟨#[100,97,115]⟩])):=by
 go_enter Tryz.func58,Tryz.ntmps58
 go_wp2_with (first|(go_at_call 97;refine (ybg _).mono ?_;rintro e w1 ⟨rfl,p1,rfl⟩))
 go_returns
 exact Gives.mk rfl Ze
theorem wo(w:qW):qC 58 #[iI 22] w (Gives w (.agg #[.int .u32 140508160,.string ⟨#[100,97,115]⟩])):=by
 go_enter Tryz.func58,Tryz.ntmps58
 go_wp2_with (first|(go_at_call 97;refine (ybf _).mono ?_;rintro e w1 ⟨rfl,p1,rfl⟩))
 go_returns
 exact Gives.mk rfl Ze
theorem wn(w:qW):qC 58 #[iI 23] w (Gives w (.agg #[.int .u32 134249472,.string ⟨#[100,97,115,109]⟩])):=by
 go_enter Tryz.func58,Tryz.ntmps58
 go_wp2_with (first|(go_at_call 97;refine (ybe _).mono ?_;rintro e w1 ⟨rfl,p1,rfl⟩))
 go_returns
 exact Gives.mk rfl Ze
theorem wm(w:qW):qC 58 #[iI 24] w (Gives w (.agg #[.int .u32 134282240,.string ⟨#[100,97,115,109]⟩])):=by
 go_enter Tryz.func58,Tryz.ntmps58
 go_wp2_with (first|(go_at_call 97;refine (ybd _).mono ?_;rintro e w1 ⟨rfl,p1,rfl⟩))
 go_returns
 exact Gives.mk rfl Ze
theorem wk(w:qW):qC 58 #[iI 25] w (Gives w (.agg #[.int .u32 3363766272,.string ⟨#[100,97,101]⟩])):=by
 go_enter Tryz.func58,Tryz.ntmps58
 go_wp2_with (first|(go_at_call 97;refine (ybc _).mono ?_;rintro e w1 ⟨rfl,p1,rfl⟩))
 go_returns
 exact Gives.mk rfl Ze
theorem wj(w:qW):qC 58 #[iI 26] w (Gives w (.agg #[.int .u32 3363799040,.string ⟨#[100,97,101]⟩])):=by
 go_enter Tryz.func58,Tryz.ntmps58
 go_wp2_with (first|(go_at_call 97;refine (ybb _).mono ?_;rintro e w1 ⟨rfl,p1,rfl⟩))
 go_returns
 exact Gives.mk rfl Ze
theorem wi(w:qW):qC 58 #[iI 27] w (Gives w (.agg #[.int .u32 3357540352,.string ⟨#[100,97,101,109]⟩])):=by
 go_enter Tryz.func58,Tryz.ntmps58
 go_wp2_with (first|(go_at_call 97;refine (yba _).mono ?_;rintro e w1 ⟨rfl,p1,rfl⟩))
 go_returns
 exact Gives.mk rfl Ze
theorem wh(w:qW):qC 58 #[iI 28] w (Gives w (.agg #[.int .u32 3357573120,.string ⟨#[100,97,101,109]⟩])):=by
 go_enter Tryz.func58,Tryz.ntmps58
 go_wp2_with (first|(go_at_call 97;refine (ya9 _).mono ?_;rintro e w1 ⟨rfl,p1,rfl⟩))
 go_returns
 exact Gives.mk rfl Ze
theorem vF(op:Int)(h: ¬(1<=op/\op<=32))(w:qW):qC 58 #[iI op] w (Gives w (.agg #[.int .u32 0,.string ⟨#[]⟩])):=by
 have h1:(op==1)=false:=by simp;omega
 have h2:(op==2)=false:=by simp;omega
 have h3:(op==3)=false:=by simp;omega
 have h4:(op==4)=false:=by simp;omega
 have h5:(op==5)=false:=by simp;omega
 have h6:(op==6)=false:=by simp;omega
 have h7:(op==7)=false:=by simp;omega
 have h8:(op==8)=false:=by simp;omega
 have h9:(op==9)=false:=by simp;omega
 have Ds:(op==10)=false:=by simp;omega
 have Ja:(op==11)=false:=by simp;omega
 have Nf:(op==12)=false:=by simp;omega
 have H:=Zh h
 clear h
 go_enter Tryz.func58,Tryz.ntmps58
 go_wp2_with (first|(go_at_call 97;refine (ya4 op H.out _).mono ?_;rintro e w1 ⟨rfl,p1,rfl⟩))
 go_returns
 exact Gives.mk rfl Ze
theorem ld(op:Int)(w:qW):qC 58 #[iI op] w (Gives w (.agg #[.int .u32 (baseN op),.string (strB (lets op))])):=by
 by_cases h:1<=op/\op<=32
 ·obtain ⟨k,rfl⟩: ∃k:Nat,op=k:=⟨op.toNat,by omega⟩
  have hk:k<=32:=by omega
  have ym:1<=k:=by omega
  match k,hk,ym with
  |1,_,_=>exact wK w
  |2,_,_=>exact ww w
  |3,_,_=>exact we w
  |4,_,_=>exact vW w
  |5,_,_=>exact vV w
  |6,_,_=>exact vU w
  |7,_,_=>exact vT w
  |8,_,_=>exact vS w
  |9,_,_=>exact vR w
  |10,_,_=>exact wJ w
  |11,_,_=>exact wI w
  |12,_,_=>exact wH w
  |13,_,_=>exact wG w
  |14,_,_=>exact wF w
  |15,_,_=>exact wE w
  |16,_,_=>exact wD w
  |17,_,_=>exact wC w
  |18,_,_=>exact wB w
  |19,_,_=>exact wA w
  |20,_,_=>exact wu w
  |21,_,_=>exact wt w
  |22,_,_=>exact wo w
  |23,_,_=>exact wn w
  |24,_,_=>exact wm w
  |25,_,_=>exact wk w
  |26,_,_=>exact wj w
  |27,_,_=>exact wi w
  |28,_,_=>exact wh w
  |29,_,_=>exact wg w
  |30,_,_=>exact vZ w
  |31,_,_=>exact vY w
  |32,_,_=>exact vX w
 ·have e:baseN op=0/\lets op=[]:=by
   by_cases h1:lets op=[]
   ·refine ⟨?_,h1⟩
    unfold baseN
    split
    ·rcases Nat.eq_zero_or_pos op.toNat with e|e
     ·rw [e];rfl
     ·rw [fZ _ Za]
    ·rfl
   ·exact absurd (eC h1) h
  rw [e.1,e.2]
  exact vF op h w
theorem yeG(w:qW)(e:TypeId)(s:qB):Below w.heap.size w (Lib.bytesWorld w e s):=
 ⟨rfl,rfl,rfl,by rw [Lib.bytesWorld_size];omega,fun k hk=>Lib.bytesWorld_at_old w e s k hk⟩
theorem js(ls:List Nat):(strB ls).size=ls.length:=by
 unfold strB
 simp [ByteArray.size]
theorem nL(w:qW)(B:Nat)(hB:w.heap.size=B)(ls:List Nat)(hl: ∀c∈ls,c<256): ∃(c:Nat) (wb:qW),(convert 9 44 (.string (strB ls))).run Tryz.prog w= .ok (.slice (some ⟨B,0,none⟩) ls.length c) wb/\
  Below w.heap.size w wb/\wb.heap.size=B+1/\ ∀(j x:Nat),ls[j]?=some x->wb.cell? ⟨B,j,none⟩=some (.int .u8 x):=by
 subst hB
 have h:=Lib.run_convert_string_bytes (P:=Tryz.prog) w 9 44 5 (strB ls) Tryz.underlying9 Tryz.underlying44 Tryz.underlying5
 rw [js] at h
 refine ⟨_,_,h,yeG _ _ _,Lib.bytesWorld_size _ _ _,fun j x hx=>?_⟩
 obtain ⟨hj,AP⟩:=List.getElem?_eq_some_iff.mp hx
 rw [Lib.bytesWorld_cell _ _ _ j (by rw [js];exact hj)]
 have xe:=hl x (zat hx)
 have e:(strB ls).data.toList.getD j 0=UInt8.ofNat x:=by
  unfold strB
  simp [List.getD,hx]
 rw [e]
 have:(UInt8.ofNat x).toNat=x:=by simp;omega
 rw [this]
end
section
theorem df(lo n j:Nat):((2^n-1)*2^lo).testBit j=(decide (lo<=j)&&decide (j<lo+n)):=by
 rw [<-Nat.shiftLeft_eq,Nat.testBit_shiftLeft,Nat.testBit_two_pow_sub_one]
 by_cases h:lo<=j
 ·simp [h]
  omega
 ·simp [h]
theorem eS(a lo j:Nat):(a*2^lo).testBit j=(decide (lo<=j)&&a.testBit (j-lo)):=by
 rw [<-Nat.shiftLeft_eq,Nat.testBit_shiftLeft]
theorem tu(a lo n:Nat)(h:lo+n<=32):(a*2^lo%4294967296)&&&((2^n-1)*2^lo)=a%2^n*2^lo:=by
 apply Nat.eq_of_testBit_eq
 intro j
 rw [Nat.testBit_and,df,(show 4294967296=2^32 by rfl),Nat.testBit_mod_two_pow,eS,eS,Nat.testBit_mod_two_pow]
 by_cases h1:lo<=j
 ·by_cases h2:j<lo+n
  ·simp [h1,h2,(show j<32 by omega),(show j-lo<n by omega)]
  ·simp [h1,h2,(show¬j-lo<n by omega)]
 ·simp [h1]
theorem my(w lo n:Nat):(w&&&((2^n-1)*2^lo))/2^lo=w/2^lo%2^n:=by
 apply Nat.eq_of_testBit_eq
 intro j
 rw [Nat.testBit_div_two_pow,Nat.testBit_and,df,fy]
 by_cases h1:j<n
 ·simp [h1,(show j+lo<lo+n by omega),Nat.add_comm]
 ·simp [h1,(show¬j+lo<lo+n by omega)]
theorem u7(w lo n v:Nat)(hw:w<4294967296)(hv:v<2^n)(h:lo+n<=32):(w&&&(4294967295-(2^n-1)*2^lo))|||(v*2^lo)=ovr w lo n v:=by
 have hm:(2^n-1)*2^lo<2^32:=by
  refine Nat.lt_pow_two_of_testBit _ fun j hj=>?_
  rw [df,zax (show¬j<lo+n by omega),Bool.and_false]
 apply Nat.eq_of_testBit_eq
 intro j
 rw [Nat.testBit_or,Nat.testBit_and,eS,fj _ _ _ _ _ hv,(show 4294967295-(2^n-1)*2^lo=2^32-((2^n-1)*2^lo+1) by omega),Nat.testBit_two_pow_sub_succ hm,df]
 by_cases h1:lo<=j
 ·by_cases h2:j<lo+n
  ·simp [h1,h2]
  ·have:v.testBit (j-lo)=false:=Nat.testBit_lt_two_pow (zar hv (zaQ Za Za))
   rw [this,if_neg Za]
   by_cases h3:j<32
   ·simp [h1,h2,h3]
   ·have:w.testBit j=false:=Nat.testBit_lt_two_pow (zar (show w<2^32 by omega) (zaQ Za Za))
    simp [this]
 ·rw [if_neg Za]
  by_cases h3:j<32
  ·simp [h1,h3]
  ·have:w.testBit j=false:=Nat.testBit_lt_two_pow (zar (show w<2^32 by omega) (zaQ Za Za))
   simp [h1,this]
theorem kQ{w lo n v:Nat}(hw:w<4294967296)(hv:v<2^n)(h:lo+n<=32):ovr w lo n v<4294967296:=by
 refine Nat.lt_pow_two_of_testBit (n:=32) _ fun j hj=>?_
 rw [fj _ _ _ _ _ hv,if_neg Za]
 exact Nat.testBit_lt_two_pow (zar (show w<2^32 by omega) (zaQ Za hj))
def mskN(f:Fl):Nat:=(2^f.n-1)*2^f.lo
theorem fp{f:Fl}(h:FlOk f):mskN f<4294967296:=by
 refine Nat.lt_pow_two_of_testBit (n:=32) _ fun j hj=>?_
 unfold mskN
 have:=h.hi
 rw [df,zax (show¬j<f.lo+f.n by omega),Bool.and_false]
theorem pk{f:Fl}(h:FlOk f){v:Nat}(hv:v<2^f.n):v*2^f.lo<4294967296:=by
 have h1:v*2^f.lo<2^f.n*2^f.lo:=Nat.mul_lt_mul_of_pos_right hv (Nat.two_pow_pos _)
 rw [<-Nat.pow_add] at h1
 exact zar h1 (show 2^(f.n+f.lo)<=2^32 from zaQ (n:=2) Za (by have:=h.hi;omega))
theorem kR{f:Fl}(h:FlOk f){w v:Nat}(hw:w<4294967296)(hv:v<2^f.n):
  bits .or .u32 (bits .andNot .u32 (w:Int) ((mskN f:Nat):Int)) ((v*2^f.lo:Nat):Int)=((ovr w f.lo f.n v:Nat):Int):=by
 rw [u32_andNot_nat _ _ hw (fp h),u32_or_nat _ _ (Nat.lt_of_le_of_lt Nat.and_le_left hw) (pk h hv)]
 unfold mskN
 rw [u7 _ _ _ _ hw hv h.hi]
theorem u8{f:Fl}(h:FlOk f){w s:Nat}(hw:w<4294967296)(hs:s<4294967296):
  bits .or .u32 (bits .andNot .u32 (w:Int) ((mskN f:Nat):Int)) (bits .and .u32 (s:Int) ((mskN f:Nat):Int))=((ovr w f.lo f.n (s/2^f.lo%2^f.n):Nat):Int):=by
 have e:s&&&mskN f=s/2^f.lo%2^f.n*2^f.lo:=by
  have h1:=my s f.lo f.n
  unfold mskN
  rw [<-h1]
  apply Nat.eq_of_testBit_eq
  intro j
  rw [eS,Nat.testBit_div_two_pow,Nat.testBit_and,Nat.testBit_and,df,df]
  by_cases h2:f.lo<=j
  ·simp [h2]
  ·simp [h2]
 rw [u32_and_nat _ _ hs (fp h),e,kR h hw (zaL _ (Nat.two_pow_pos _))]
theorem bV{f:Fl}(h:FlOk f)(a:Nat)(P:Int)(hP:P=((2^f.lo:Nat):Int)):bits .and .u32 ((a:Int)*P%4294967296) ((mskN f:Nat):Int)=((a%2^f.n*2^f.lo:Nat):Int):=by
 subst hP
 rw [<-Int.natCast_mul,(show ((a*2^f.lo:Nat):Int)%4294967296=((a*2^f.lo%4294967296:Nat):Int) by omega),u32_and_nat _ _ (zaL _ Za) (fp h)]
 unfold mskN
 rw [tu _ _ _ h.hi]
theorem bI{f:Fl}(h:FlOk f)(w:Nat)(hw:w<4294967296)(P:Int)(hP:P=((2^f.lo:Nat):Int)):bits .and .u32 (w:Int) ((mskN f:Nat):Int)/P=((w/2^f.lo%2^f.n:Nat):Int):=by
 subst hP
 rw [u32_and_nat _ _ hw (fp h),<-Int.natCast_ediv]
 unfold mskN
 rw [my]
theorem aL(a:Nat)(h:a<4294967296):bits .xor .u32 (a:Int) 0=(a:Int):=by
 have:=u32_xor_nat a 0 h Za
 rw [Nat.xor_zero] at this
 exact this
end
section
open Go.RowKit Go.Sort
def fvF(f:Fl):qV:= .agg #[iI f.lo,iI f.n,.bool (f.kd==1),.int .u32 (if f.kd=2 then 1 else 0),iI f.most]
theorem uz(w:qW):qC 59 #[.int .u8 100] w (Gives w (fvF ⟨0,5,1,0,31⟩)):=ZV
theorem yfg(b:Nat)(w:qW):qC 61 #[.pointer (some ⟨b,0,none⟩),.int .u8 100] w (Gives w (.pointer (some ⟨b,1,none⟩))):=ZW
theorem ur(w:qW):qC 59 #[.int .u8 110] w (Gives w (fvF ⟨5,5,2,0,31⟩)):=ZV
theorem ye9(b:Nat)(w:qW):qC 61 #[.pointer (some ⟨b,0,none⟩),.int .u8 110] w (Gives w (.pointer (some ⟨b,2,none⟩))):=ZW
theorem uC(w:qW):qC 59 #[.int .u8 97] w (Gives w (fvF ⟨5,5,2,0,30⟩)):=ZV
theorem yfj(b:Nat)(w:qW):qC 61 #[.pointer (some ⟨b,0,none⟩),.int .u8 97] w (Gives w (.pointer (some ⟨b,2,none⟩))):=ZW
theorem ut(w:qW):qC 59 #[.int .u8 109] w (Gives w (fvF ⟨16,5,3,0,31⟩)):=ZV
theorem yfb(b:Nat)(w:qW):qC 61 #[.pointer (some ⟨b,0,none⟩),.int .u8 109] w (Gives w (.pointer (some ⟨b,3,none⟩))):=ZW
theorem uy(w:qW):qC 59 #[.int .u8 101] w (Gives w (fvF ⟨10,5,4,0,31⟩)):=ZV
theorem yff(b:Nat)(w:qW):qC 61 #[.pointer (some ⟨b,0,none⟩),.int .u8 101] w (Gives w (.pointer (some ⟨b,4,none⟩))):=ZW
theorem un(w:qW):qC 59 #[.int .u8 113] w (Gives w (fvF ⟨21,2,4,0,3⟩)):=ZV
theorem ye7(b:Nat)(w:qW):qC 61 #[.pointer (some ⟨b,0,none⟩),.int .u8 113] w (Gives w (.pointer (some ⟨b,4,none⟩))):=ZW
theorem uA(w:qW):qC 59 #[.int .u8 99] w (Gives w (fvF ⟨0,2,4,0,3⟩)):=ZV
theorem yfh(b:Nat)(w:qW):qC 61 #[.pointer (some ⟨b,0,none⟩),.int .u8 99] w (Gives w (.pointer (some ⟨b,4,none⟩))):=ZW
theorem uu(w:qW):qC 59 #[.int .u8 107] w (Gives w (fvF ⟨12,2,4,2,3⟩)):=ZV
theorem yfc(b:Nat)(w:qW):qC 61 #[.pointer (some ⟨b,0,none⟩),.int .u8 107] w (Gives w (.pointer (some ⟨b,4,none⟩))):=ZW
theorem um(w:qW):qC 59 #[.int .u8 115] w (Gives w (fvF ⟨30,2,5,0,3⟩)):=ZV
theorem ye6(b:Nat)(w:qW):qC 61 #[.pointer (some ⟨b,0,none⟩),.int .u8 115] w (Gives w (.pointer (some ⟨b,5,none⟩))):=ZW
theorem uw(w:qW):qC 59 #[.int .u8 105] w (Gives w (fvF ⟨5,16,6,0,65535⟩)):=ZV
theorem yfd(b:Nat)(w:qW):qC 61 #[.pointer (some ⟨b,0,none⟩),.int .u8 105] w (Gives w (.pointer (some ⟨b,6,none⟩))):=ZW
theorem uq(w:qW):qC 59 #[.int .u8 111] w (Gives w (fvF ⟨10,12,6,0,4095⟩)):=ZV
theorem ye8(b:Nat)(w:qW):qC 61 #[.pointer (some ⟨b,0,none⟩),.int .u8 111] w (Gives w (.pointer (some ⟨b,6,none⟩))):=ZW
theorem uB(w:qW):qC 59 #[.int .u8 98] w (Gives w (fvF ⟨0,26,6,1,0⟩)):=ZV
theorem yfi(b:Nat)(w:qW):qC 61 #[.pointer (some ⟨b,0,none⟩),.int .u8 98] w (Gives w (.pointer (some ⟨b,6,none⟩))):=ZW
theorem uj(w:qW):qC 59 #[.int .u8 120] w (Gives w (fvF ⟨5,19,6,1,0⟩)):=ZV
theorem ye5(b:Nat)(w:qW):qC 61 #[.pointer (some ⟨b,0,none⟩),.int .u8 120] w (Gives w (.pointer (some ⟨b,6,none⟩))):=ZW
theorem ux(w:qW):qC 59 #[.int .u8 102] w (Gives w (fvF ⟨8,4,6,3,2⟩)):=ZV
theorem yfe(b:Nat)(w:qW):qC 61 #[.pointer (some ⟨b,0,none⟩),.int .u8 102] w (Gives w (.pointer (some ⟨b,6,none⟩))):=ZW
theorem kD(c:Nat)(f:Fl)(h:fl c=some f)(w:qW):qC 59 #[.int .u8 c] w (Gives w (.agg #[iI f.lo,iI f.n,.bool (f.kd==1),.int .u32 (if f.kd=2 then 1 else 0),iI f.most])):=by
 unfold fl at h
 by_cases xT:c=100
 ·rw [if_pos xT] at h
  cases h
  subst xT
  exact uz w
 rw [if_neg xT] at h
 by_cases xN:c=110
 ·rw [if_pos xN] at h
  cases h
  subst xN
  exact ur w
 rw [if_neg xN] at h
 by_cases zc:c=97
 ·rw [if_pos zc] at h
  cases h
  subst zc
  exact uC w
 rw [if_neg zc] at h
 by_cases xO:c=109
 ·rw [if_pos xO] at h
  cases h
  subst xO
  exact ut w
 rw [if_neg xO] at h
 by_cases xS:c=101
 ·rw [if_pos xS] at h
  cases h
  subst xS
  exact uy w
 rw [if_neg xS] at h
 by_cases xL:c=113
 ·rw [if_pos xL] at h
  cases h
  subst xL
  exact un w
 rw [if_neg xL] at h
 by_cases y':c=99
 ·rw [if_pos y'] at h
  cases h
  subst y'
  exact uA w
 rw [if_neg y'] at h
 by_cases xP:c=107
 ·rw [if_pos xP] at h
  cases h
  subst xP
  exact uu w
 rw [if_neg xP] at h
 by_cases xK:c=115
 ·rw [if_pos xK] at h
  cases h
  subst xK
  exact um w
 rw [if_neg xK] at h
 by_cases xQ:c=105
 ·rw [if_pos xQ] at h
  cases h
  subst xQ
  exact uw w
 rw [if_neg xQ] at h
 by_cases xM:c=111
 ·rw [if_pos xM] at h
  cases h
  subst xM
  exact uq w
 rw [if_neg xM] at h
 by_cases za:c=98
 ·rw [if_pos za] at h
  cases h
  subst za
  exact uB w
 rw [if_neg za] at h
 by_cases xJ:c=120
 ·rw [if_pos xJ] at h
  cases h
  subst xJ
  exact uj w
 rw [if_neg xJ] at h
 by_cases xR:c=102
 ·rw [if_pos xR] at h
  cases h
  subst xR
  exact ux w
 rw [if_neg xR] at h
 cases h
theorem oe(c:Nat)(f:Fl)(h:fl c=some f)(b:Nat)(w:qW):qC 61 #[.pointer (some ⟨b,0,none⟩),.int .u8 c] w (Gives w (.pointer (some ⟨b,f.idx,none⟩))):=by
 unfold fl at h
 by_cases xT:c=100
 ·rw [if_pos xT] at h
  cases h
  subst xT
  exact yfg b w
 rw [if_neg xT] at h
 by_cases xN:c=110
 ·rw [if_pos xN] at h
  cases h
  subst xN
  exact ye9 b w
 rw [if_neg xN] at h
 by_cases zc:c=97
 ·rw [if_pos zc] at h
  cases h
  subst zc
  exact yfj b w
 rw [if_neg zc] at h
 by_cases xO:c=109
 ·rw [if_pos xO] at h
  cases h
  subst xO
  exact yfb b w
 rw [if_neg xO] at h
 by_cases xS:c=101
 ·rw [if_pos xS] at h
  cases h
  subst xS
  exact yff b w
 rw [if_neg xS] at h
 by_cases xL:c=113
 ·rw [if_pos xL] at h
  cases h
  subst xL
  exact ye7 b w
 rw [if_neg xL] at h
 by_cases y':c=99
 ·rw [if_pos y'] at h
  cases h
  subst y'
  exact yfh b w
 rw [if_neg y'] at h
 by_cases xP:c=107
 ·rw [if_pos xP] at h
  cases h
  subst xP
  exact yfc b w
 rw [if_neg xP] at h
 by_cases xK:c=115
 ·rw [if_pos xK] at h
  cases h
  subst xK
  exact ye6 b w
 rw [if_neg xK] at h
 by_cases xQ:c=105
 ·rw [if_pos xQ] at h
  cases h
  subst xQ
  exact yfd b w
 rw [if_neg xQ] at h
 by_cases xM:c=111
 ·rw [if_pos xM] at h
  cases h
  subst xM
  exact ye8 b w
 rw [if_neg xM] at h
 by_cases za:c=98
 ·rw [if_pos za] at h
  cases h
  subst za
  exact yfi b w
 rw [if_neg za] at h
 by_cases xJ:c=120
 ·rw [if_pos xJ] at h
  cases h
  subst xJ
  exact ye5 b w
 rw [if_neg xJ] at h
 by_cases xR:c=102
 ·rw [if_pos xR] at h
  cases h
  subst xR
  exact yfe b w
 rw [if_neg xR] at h
 cases h
end
end Go.Proofs.YtjmfoeajhiimnaaGreatDoor
