/- Walks. No condition. -/
import Derived.Test.YtjmfoeajhiimnaaGreatDoorG40
set_option maxRecDepth 100000
set_option maxHeartbeats 0
set_option linter.all false
namespace Go.Proofs.YtjmfoeajhiimnaaGreatDoor
open Go.RowKit Go.Sort
section
variable{k z:Nat}{R:List Nat}{s:MSt}{u:Nat}{f:Bool}{t:TD}{a p h n m:Nat}
theorem be{s:St}{i:Ins}{g0 g1:Nat}{b:Bool}{pc:Nat}(xC:s.pc=pc)(h:takB s i=false)(hl:pc<100:=by decide):(nextS s i g0 g1 b).pc=((pc+1:Nat):Int):=by
 show wrap64 (if takB s i then s.pc+i.imm else s.pc+1)=_
 rw [h,xC]
 exact w64 (n:=pc+1) Za
theorem uY(yU:s.ts[u]?=some t)(L:ThL k z t a p h n)(he:t.end_=0)(hR:R.length<=900000)(hb:s.bytes=ctBy (2^z) m++R)(ha:a<k->m<20)(xC:t.st.pc=10)(hL:Lp k t.st.x t.st.c a p h n 10):OwnS k z R s u f t a p h n m:=by
 obtain ⟨y,hc⟩:=L.code
 obtain ⟨h1,h0,h2,yq,rfl,rfl,rfl⟩:=hL
 have hm:=ha yq
 obtain ⟨f1,f2,f3,f4,f5⟩:=iD L.z3 hm
 have hz:1<=2^z/\2^z<=8:=by
  have:=L.z3
  have h4:z=0\/z=1\/z=2\/z=3:=by omega
  rcases h4 with rfl|rfl|rfl|rfl<;>decide
 have xd:(ctBy (2^z) m).length=2^z:=by
  unfold ctBy
  simp
  omega
 have hi:t.code[10]?=some ⟨21,14,2,0,0,z,0⟩:=by rw [hc];rfl
 have yo:spanA t.st ⟨21,14,2,0,0,z,0⟩=65536:=by
  simp [spanA,atN,getX,h2]
 have zV:lenI ⟨21,14,2,0,0,z,0⟩=((2^z:Nat):Int):=by
  simp [lenI]
 have yV:thereM s.bytes 65536 ((2^z:Nat):Int)=true:=by
  rw [hb]
  exact jk hz.1 hz.2 (by rw [zaO,xd];omega) (by rw [zaO,xd];omega)
 have IB:rd0 s.bytes 0 (2^z)=m:=by
  rw [hb,sZ R (by rw [xd];omega),f1]
 refine ⟨{t with st:=nextS t.st ⟨21,14,2,0,0,z,0⟩ m (rd1 s.bytes 0 (2^z)) true},a,0,m+1,(k-a)*25+13,m,s.ts,?_,⟨⟨y,hc⟩,L.enc,fun e=>by omega,fun _=>?_,L.k3,L.z3,L.pr,.inr ⟨he,11,?_,?_⟩⟩,fun _=>by omega,.inl ⟨rfl,rfl,rfl,fun _=>rfl,.inl ⟨rfl,rfl⟩⟩⟩
 ·unfold mStep
  rw [yU,zaZ,if_neg (by simp [he]),if_neg Za,xC,show (10:Int).toNat=10 from rfl,hi,zaZ,if_pos (L.enc _ (zat hi)),if_pos (show meB 21=true from rfl)]
  unfold memM
  simp only [yo,zV,yV,if_true]
  rw [if_neg (show¬wrB 21=true by decide),show ((65536:Int)-65536).toNat=0 from rfl,Int.toNat_natCast,IB,<-hb]
 ·exact ⟨by simp [nextS,bodyS,accS,meB,wrB,paB,exB,yo],by simp [nextS,bodyS,accS,meB,wrB,paB,exB,zV]⟩
 ·exact be (pc:=10) xC rfl
 ·have e: ∀j,(nextS t.st ⟨21,14,2,0,0,z,0⟩ m (rd1 s.bytes 0 (2^z)) true).x j=if j=14 then m else t.st.x j:=fun j=>by
   have f2':=f2
   rw [<-zV] at f2'
   simp only [nextS,bodyS,accS,meB,wrB,paB,exB,setX]
   simp [f2']
   by_cases hj:j=14
   ·rw [if_pos hj,if_pos Za]
   ·rw [if_neg hj,if_neg Za]
  show _/\_
  rw [e,e,e,e]
  exact ⟨h1,h0,h2,hm,yq,rfl,.inr ⟨rfl,rfl⟩⟩
theorem uU(yU:s.ts[u]?=some t)(L:ThL k z t a p h n)(he:t.end_=0)(hR:R.length<=900000)(hb:s.bytes=ctBy (2^z) m++R)(hh:h≠0->h=m+1)(xC:t.st.pc=12)(hL:Lp k t.st.x t.st.c a p h n 12):OwnS k z R s u f t a p h n m:=by
 obtain ⟨y,hc⟩:=L.code
 obtain ⟨h1,h0,h2,BD,Nf,yq,rfl,hq⟩:=hL
 have hz:1<=2^z/\2^z<=8:=by
  have:=L.z3
  have h4:z=0\/z=1\/z=2\/z=3:=by omega
  rcases h4 with rfl|rfl|rfl|rfl<;>decide
 have xd:(ctBy (2^z) m).length=2^z:=by
  unfold ctBy
  simp
  omega
 have hi:t.code[12]?=some ⟨23,12,2,13,0,z,0⟩:=by rw [hc];rfl
 have yo:spanA t.st ⟨23,12,2,13,0,z,0⟩=65536:=by
  simp [spanA,atN,getX,h2]
 have zV:lenI ⟨23,12,2,13,0,z,0⟩=((2^z:Nat):Int):=by
  simp [lenI]
 have yV:thereM s.bytes 65536 ((2^z:Nat):Int)=true:=by
  rw [hb]
  exact jk hz.1 hz.2 (by rw [zaO,xd];omega) (by rw [zaO,xd];omega)
 have hx: ∀(b:Bool) j,(nextS t.st ⟨23,12,2,13,0,z,0⟩ 0 0 b).x j=if j=13 then (if b then 0 else 1) else t.st.x j:=fun b j=>by
  simp only [nextS,bodyS,accS,meB,wrB,paB,exB,setX]
  simp
  by_cases hj:j=13
  ·rw [if_pos hj,if_pos Za]
  ·rw [if_neg hj,if_neg Za]
 have hw: ∀b:Bool,(nextS t.st ⟨23,12,2,13,0,z,0⟩ 0 0 b).wa=0/\(nextS t.st ⟨23,12,2,13,0,z,0⟩ 0 0 b).wl=0:=fun b=>⟨rfl,rfl⟩
 have Fm: ∀b:Bool,(nextS t.st ⟨23,12,2,13,0,z,0⟩ 0 0 b).pc=((13:Nat):Int):=fun b=>by
  exact be (pc:=12) xC rfl
 have hS: ∀d,(!exB 23||(!f&&(t.st.wa==spanA t.st ⟨23,12,2,13,0,z,0⟩&&t.st.wl==lenI ⟨23,12,2,13,0,z,0⟩)))=d->mStep s u f=if d then some {s with bytes:=wrM s.bytes 0 (2^z) (bq t.st ⟨23,12,2,13,0,z,0⟩).toNat (bw t.st ⟨23,12,2,13,0,z,0⟩).toNat,ts:=(othM u 65536 ((2^z:Nat):Int) s.ts.length s.ts).set u {t with st:=nextS t.st ⟨23,12,2,13,0,z,0⟩ 0 0 true}} else some {s with ts:=s.ts.set u {t with st:=nextS t.st ⟨23,12,2,13,0,z,0⟩ 0 0 false}}:=fun d hd=>by
  unfold mStep
  rw [yU,zaZ,if_neg (by simp [he]),if_neg Za,xC,show (12:Int).toNat=12 from rfl,hi,zaZ,if_pos (L.enc _ (zat hi)),if_pos (show meB 23=true from rfl)]
  unfold memM
  simp only
  rw [hd]
  simp only [yo,zV,yV,if_true]
  rw [if_pos (show wrB 23=true from rfl),show ((65536:Int)-65536).toNat=0 from rfl,Int.toNat_natCast]
 cases hd:(!exB 23||(!f&&(t.st.wa==spanA t.st ⟨23,12,2,13,0,z,0⟩&&t.st.wl==lenI ⟨23,12,2,13,0,z,0⟩)))
 ·have xz:=hS false hd
  refine ⟨{t with st:=nextS t.st ⟨23,12,2,13,0,z,0⟩ 0 0 false},a,0,0,(k-a)*25+15,m,s.ts,?_,⟨⟨y,hc⟩,L.enc,fun _=>hw false,fun e=>absurd rfl e,L.k3,L.z3,L.pr,.inr ⟨he,13,Fm false,?_⟩⟩,fun hf=>?_,.inl ⟨rfl,rfl,rfl,fun e=>absurd rfl e,.inl ⟨rfl,rfl⟩⟩⟩
  ·rw [xz,<-hb]
   rfl
  ·show _/\_
   refine ⟨rfl,.inr ?_⟩
   rw [hx,hx,hx,hx]
   exact ⟨rfl,h1,h0,h2,yq,rfl,rfl⟩
  ·rcases hq with ⟨-,rfl⟩|⟨hq, -⟩
   ·omega
   ·exfalso
    obtain ⟨w1,w2⟩:=L.w1 Za
    rw [hf,w1,w2,yo,zV] at hd
    simp at hd
 ·have xz:=hS true hd
  have hne:h≠0:=fun e=>by
   obtain ⟨w1,w2⟩:=L.w0 e
   rw [w1,yo] at hd
   simp [exB] at hd
  have hm:=hh hne
  rcases hq with ⟨hq, -⟩|⟨hq,rfl⟩
  ·exact absurd hq hne
  ·have hv:t.st.x 14=m:=by omega
   obtain ⟨f1,f2,f3,f4,f5⟩:=iD L.z3 (show m<20 by omega)
   have O9:(bq t.st ⟨23,12,2,13,0,z,0⟩).toNat=m+1:=by
    have f3':=f3
    rw [<-zV] at f3'
    unfold bq
    rw [if_pos (show wrB 23=true from rfl),if_neg (show¬paB 23=true by decide)]
    have:getX t.st 12=m+1:=by
     show t.st.x 12=m+1
     rw [Nf,hv]
    simp only [this]
    exact f3'
   have EU:(bw t.st ⟨23,12,2,13,0,z,0⟩).toNat=0:=rfl
   refine ⟨{t with st:=nextS t.st ⟨23,12,2,13,0,z,0⟩ 0 0 true},a+1,m+1,0,(k-a)*25+11,m+1,othM u 65536 ((2^z:Nat):Int) s.ts.length s.ts,?_,⟨⟨y,hc⟩,L.enc,fun _=>hw true,fun e=>absurd rfl e,L.k3,L.z3,L.pr,.inr ⟨he,13,Fm true,?_⟩⟩,fun _=>by omega,.inr ⟨rfl,rfl,rfl,rfl,rfl,rfl,rfl⟩⟩
   ·rw [xz,if_pos rfl,O9,EU,hb,oO R _ _ hz.2 (by rw [xd];exact zaq _),f4]
   ·show _/\_
    refine ⟨rfl,.inl ?_⟩
    rw [hx,hx,hx]
    exact ⟨rfl,by rw [if_neg Zd,h1],by omega,by rw [if_neg Zd];exact BD,by rw [if_neg Zd,hv],by rw [show k+1-(a+1)=k-a by omega]⟩
theorem uT(yU:s.ts[u]?=some t)(L:ThL k z t a p h n)(he:t.end_=0)(hb:s.bytes=ctBy (2^z) m++R)(AA:t.prints.length<=900)(xC:t.st.pc=15)(hL:Lp k t.st.x t.st.c a p h n 15):OwnS k z R s u f t a p h n m:=by
 obtain ⟨y,hc⟩:=L.code
 obtain ⟨h1,yq,rfl,rfl,rfl⟩:=hL
 have hi:t.code[15]?=some ⟨31,0,0,0,0,0,4⟩:=by rw [hc];rfl
 have xz:stopT t ⟨31,0,0,0,0,0,4⟩=some {t with prints:=t.prints++[t.st.x 3]}:=by
  unfold stopT
  rw [if_neg Zd,if_pos rfl,if_neg Zd,if_pos ⟨by decide,by decide,by omega⟩]
  rfl
 have hx: ∀j,(nextS t.st ⟨31,0,0,0,0,0,4⟩ 0 0 false).x j=t.st.x j:=fun j=>rfl
 refine ⟨{t with prints:=t.prints++[t.st.x 3],st:=nextS t.st ⟨31,0,0,0,0,0,4⟩ 0 0 false},a,0,0,(k+1-a)*25+8,m,s.ts,?_,⟨⟨y,hc⟩,L.enc,fun _=>L.w0 rfl,fun e=>absurd rfl e,L.k3,L.z3,by simp;omega,.inr ⟨he,16,?_,?_⟩⟩,fun _=>by omega,.inl ⟨rfl,rfl,rfl,fun e=>absurd rfl e,.inr ⟨_,rfl,rfl,rfl⟩⟩⟩
 ·unfold mStep
  rw [yU,zaZ,if_neg (by simp [he]),if_neg Za,xC,show (15:Int).toNat=15 from rfl,hi,zaZ,if_pos (L.enc _ (zat hi)),if_neg (show¬meB 31=true by decide),xz,<-hb]
  rfl
 ·exact be (pc:=15) xC rfl
 ·exact ⟨h1,yq,rfl,rfl,rfl⟩
theorem u3(yU:s.ts[u]?=some t)(L:ThL k z t a p h n)(he:t.end_=0)(hb:s.bytes=ctBy (2^z) m++R)(xC:t.st.pc=20)(hL:Lp k t.st.x t.st.c a p h n 20):OwnS k z R s u f t a p h n m:=by
 obtain ⟨y,hc⟩:=L.code
 obtain ⟨rfl,rfl,rfl,rfl⟩:=hL
 have hi:t.code[20]?=some ⟨31,0,0,0,0,0,0⟩:=by rw [hc];rfl
 have xz:stopT t ⟨31,0,0,0,0,0,0⟩=some {t with end_:=1}:=by
  unfold stopT
  rw [if_neg Zd,if_pos rfl,if_pos rfl]
 refine ⟨{t with end_:=1,st:=nextS t.st ⟨31,0,0,0,0,0,0⟩ 0 0 false},a,0,0,0,m,s.ts,?_,⟨⟨y,hc⟩,L.enc,fun _=>L.w0 rfl,fun e=>absurd rfl e,L.k3,L.z3,L.pr,.inl ⟨rfl,rfl,rfl,rfl⟩⟩,fun _=>by omega,.inl ⟨rfl,rfl,rfl,fun e=>absurd rfl e,.inl ⟨rfl,rfl⟩⟩⟩
 unfold mStep
 rw [yU,zaZ,if_neg (by simp [he]),if_neg Za,xC,show (20:Int).toNat=20 from rfl,hi,zaZ,if_pos (L.enc _ (zat hi)),if_neg (show¬meB 31=true by decide),xz,<-hb]
 rfl
theorem uV(yU:s.ts[u]?=some t)(L:ThL k z t a p h n)(he:t.end_=0)(hR:R.length<=900000)(AA:t.prints.length<=900)(hb:s.bytes=ctBy (2^z) m++R)(hh:h≠0->h=m+1)(ha:a<k->m<20):OwnS k z R s u f t a p h n m:=by
 rcases L.st with ⟨e, -⟩|⟨-,pc,xC,hL⟩
 ·omega
 ·have hk:=L.k3
  obtain ⟨y,hc⟩:=L.code
  have go:=fun pc' n' i hi ho BB Fm I4 hn=>uW (R:=R) (m:=m) (f:=f) yU L he hb hh pc pc' n' xC i hi ho BB Fm I4 hn
  have or0: ∀{v:Nat},v<20->(bits .or .u64 ((0:Nat):Int) (v:Nat)).toNat=v:=fun {v} hv=>by
   have:=(iD L.z3 hv).2.2.2.2
   rw [show ((0:Nat):Int)=0 from rfl,this]
   rfl
  have ci: ∀i,(ctCode y k z)[pc]?=some i->t.code[pc]?=some i:=fun i h=>by rw [hc];exact h
  match pc,xC,hL,go,ci with
  |0,xC,hL,go,ci=>
   obtain ⟨e1,e2,e3,rfl⟩:=hL
   exact go 1 (k*25+26) _ (ci _ rfl) rfl (show (1:Int)≠31/\(1:Int)≠32/\(1:Int)≠30 by decide) (be xC rfl) ⟨e1,e2,e3,rfl⟩ Za
  |1,xC,hL,go,ci=>
   obtain ⟨e1,e2,e3,rfl⟩:=hL
   exact go 2 (k*25+25) _ (ci _ rfl) rfl Zd (be xC rfl) ⟨e1,e2,e3,rfl⟩ Za
  |2,xC,hL,go,ci=>
   obtain ⟨e1,e2,e3,rfl⟩:=hL
   exact go 3 (k*25+24) _ (ci _ rfl) rfl Zd (be xC rfl) ⟨rfl,e1,e2,e3,rfl⟩ Za
  |3,xC,hL,go,ci=>
   obtain ⟨h0,rfl,e2,e3,rfl⟩:=hL
   refine go 4 (k*25+23) _ (ci _ rfl) rfl Zd (be xC rfl) ⟨?_,zaB _,e2,e3,rfl⟩ Za
   rw [cR _ rfl Zd Zd]
   show (bits .or .u64 ((0:Nat):Int) ((t.st.x 0:Nat):Int)).toNat=0
   rw [h0]
   exact or0 Zd
  |4,xC,hL,go,ci=>
   obtain ⟨h1,yq,e2,e3,rfl⟩:=hL
   refine go 5 ((k-a)*25+22) _ (ci _ rfl) rfl (show (1:Int)≠31/\(1:Int)≠32/\(1:Int)≠30 by decide) (be xC rfl) ⟨?_,?_,yq,e2,e3,rfl⟩ Za
   ·rw [cR _ rfl (show (1:Int)≠5 by decide) (show (0:Int)≠31 by decide)]
    exact h1
   ·rw [cR _ rfl (show (1:Int)≠5 by decide) (show (0:Int)≠31 by decide)]
    show (IntKind.u64.wrap ((k:Int)*2^0)).toNat=k
    rw [Int.pow_zero,Int.mul_one]
    exact fN Za
  |5,xC,hL,go,ci=>
   obtain ⟨h1,h0,yq,e2,e3,rfl⟩:=hL
   refine go 6 ((k-a)*25+21) _ (ci _ rfl) rfl Zd (be xC rfl) ⟨h1,?_,yq,e2,e3,rfl⟩ Za
   show decide (t.st.x 0<=t.st.x 1)=_
   rw [h0,h1]
  |6,xC,hL,go,ci=>
   obtain ⟨h1,h0,yq,e2,e3,rfl⟩:=hL
   refine go 7 ((k-a)*25+20) _ (ci _ rfl) rfl Zd (be xC rfl) ⟨h1,?_,yq,e2,e3,rfl⟩ Za
   rw [cR _ rfl Zd Zd]
   show (if (!t.st.c)=true then (1:Int) else 0).toNat=_
   rw [h0]
   by_cases xe:a<k
   ·rw [if_pos xe,if_pos Zk]
    rfl
   ·rw [if_neg xe,if_neg Zk]
    rfl
  |7,xC,hL,go,ci=>
   obtain ⟨h1,h2,yq,e2,e3,rfl⟩:=hL
   by_cases xe:a<k
   ·rw [if_pos xe] at h2
    refine go 8 ((k-a)*25+19) _ (ci _ rfl) rfl Zd (be xC ?_) ⟨h1,xe,e2,e3,rfl⟩ Za
    show (((t.st.x 2:Nat):Int)==0)=false
    rw [h2]
    rfl
   ·rw [if_neg xe] at h2
    refine go 20 1 _ (ci _ rfl) rfl Zd ?_ ⟨by omega,e2,e3,rfl⟩ Za
    show wrap64 (if (((t.st.x 2:Nat):Int)==0)=true then t.st.pc+13 else t.st.pc+1)=_
    rw [h2,xC]
    exact w64 (n:=20) Zd
  |8,xC,hL,go,ci=>
   obtain ⟨h1,yq,e2,e3,rfl⟩:=hL
   refine go 9 ((k-a)*25+18) _ (ci _ rfl) rfl Zd (be xC rfl) ⟨h1,rfl,yq,e2,e3,rfl⟩ Za
  |9,xC,hL,go,ci=>
   obtain ⟨h1,h0,yq,e2,e3,rfl⟩:=hL
   refine go 10 ((k-a)*25+14) _ (ci _ rfl) rfl Zd (be xC rfl) ⟨h1,h0,rfl,yq,e2,e3,rfl⟩ Za
  |10,xC,hL,_,_=>exact uY yU L he hR hb ha xC hL
  |11,xC,hL,go,ci=>
   obtain ⟨h1,h0,h2,BD,yq,e2,hq⟩:=hL
   have hx: ∀j,(nextS t.st ⟨3,12,14,0,0,0,0⟩ 0 0 false).x j=if j=12 then t.st.x 14+1 else t.st.x j:=fun j=>by
    rw [cR _ rfl Zd Zd]
    by_cases hj:j=12
    ·rw [if_pos hj,if_pos (by show (j:Int)=12;omega)]
     show (IntKind.u64.wrap (((t.st.x 14:Nat):Int)+((t.st.x 0:Nat):Int))).toNat=_
     rw [h0]
     exact fN (n:=t.st.x 14+1) Za
    ·rw [if_neg hj,if_neg (by show¬(j:Int)=12;omega)]
   have I4: ∀n',((h=0/\n'=(k-a)*25+16)\/(h=t.st.x 14+1/\n'=(k-a)*25+12))->Lp k (nextS t.st ⟨3,12,14,0,0,0,0⟩ 0 0 false).x (nextS t.st ⟨3,12,14,0,0,0,0⟩ 0 0 false).c a p h n' 12:=fun n' IE=>by
    show _/\_
    rw [hx,hx,hx,hx,hx]
    exact ⟨h1,h0,h2,BD,rfl,yq,e2,IE⟩
   rcases hq with ⟨q1,rfl⟩|⟨q1,rfl⟩
   ·exact go 12 _ _ (ci _ rfl) rfl Zd (be xC rfl) (I4 _ (.inl ⟨q1,rfl⟩)) Za
   ·exact go 12 _ _ (ci _ rfl) rfl Zd (be xC rfl) (I4 _ (.inr ⟨q1,rfl⟩)) Za
  |12,xC,hL,_,_=>exact uU yU L he hR hb hh xC hL
  |13,xC,hL,go,ci=>
   obtain ⟨e3,⟨I',h1,yq,BD,e2,rfl⟩|⟨I',h1,h0,h2,yq,e2,rfl⟩⟩:=hL
   ·refine go 14 ((k+1-a)*25+10) _ (ci _ rfl) rfl Zd (be xC ?_) ⟨h1,yq,BD,e2,e3,rfl⟩ Za
    show (((t.st.x 13:Nat):Int) !=0)=false
    rw [I']
    rfl
   ·refine go 10 ((k-a)*25+14) _ (ci _ rfl) rfl Zd ?_ ⟨h1,h0,h2,yq,e2,e3,rfl⟩ Za
    show wrap64 (if (((t.st.x 13:Nat):Int) !=0)=true then t.st.pc+ -3 else t.st.pc+1)=_
    rw [I',xC]
    exact w64 (n:=10) Zd
  |14,xC,hL,go,ci=>
   obtain ⟨h1,yq,BD,e2,e3,rfl⟩:=hL
   refine go 15 ((k+1-a)*25+9) _ (ci _ rfl) rfl Zd (be xC rfl) ⟨h1,yq,?_,e3,rfl⟩ Za
   rw [cR _ rfl Zd Zd,e2]
   show _=(bits .or .u64 ((0:Nat):Int) ((t.st.x 14:Nat):Int)).toNat+1
   rw [or0 BD]
  |15,xC,hL,_,_=>exact uT yU L he hb AA xC hL
  |16,xC,hL,go,ci=>
   obtain ⟨h1,yq,e2,e3,rfl⟩:=hL
   exact go 17 ((k+1-a)*25+7) _ (ci _ rfl) rfl Zd (be xC rfl) ⟨h1,rfl,yq,e2,e3,rfl⟩ Za
  |17,xC,hL,go,ci=>
   obtain ⟨h1,h0,yq,e2,e3,rfl⟩:=hL
   refine go 18 ((k+1-a)*25+6) _ (ci _ rfl) rfl Zd (be xC rfl) ⟨?_,by omega,yq,e2,e3,rfl⟩ Za
   rw [cR _ rfl Zd Zd]
   show (IntKind.u64.wrap (((t.st.x 1:Nat):Int)+((t.st.x 0:Nat):Int))).toNat=a
   rw [h0,<-h1]
   exact fN (n:=t.st.x 1+1) Za
  |18,xC,hL,go,ci=>
   obtain ⟨h2,EU,yq,e2,e3,rfl⟩:=hL
   refine go 19 ((k+1-a)*25+5) _ (ci _ rfl) rfl Zd (be xC rfl) ⟨?_,EU,yq,e2,e3,rfl⟩ Za
   rw [cR _ rfl Zd Zd]
   show (bits .or .u64 ((0:Nat):Int) ((t.st.x 2:Nat):Int)).toNat=a
   rw [or0 Za]
   exact h2
  |19,xC,hL,go,ci=>
   obtain ⟨h1,EU,yq,e2,e3,rfl⟩:=hL
   refine go 4 ((k-a)*25+23) _ (ci _ rfl) rfl Zd ?_ ⟨h1,yq,e2,e3,rfl⟩ Za
   show wrap64 (t.st.pc+ -15)=_
   rw [xC]
   exact w64 (n:=4) Zd
  |20,xC,hL,_,_=>exact u3 yU L he hb xC hL
  |n+21,_,hL,_,_=>exact hL.elim
end
def smN(A:Nat->Nat):Nat->Nat
 |0=>0
 |n+1=>smN A n+A n
theorem fW{A B:Nat->Nat}: ∀{n:Nat},(∀u,u<n->A u=B u)->smN A n=smN B n
 |0,_=>rfl
 |n+1,h=>by
  unfold smN
  rw [fW (fun u hu=>h u Za),h n Za]
theorem jJ{A B:Nat->Nat}{t:Nat}(hA:B t=A t+1): ∀{n:Nat},t<n->(∀u,u<n->u≠t->B u=A u)->smN B n=smN A n+1
 |0,h,_=>absurd h (Nat.not_lt_zero _)
 |n+1,h,hB=>by
  unfold smN
  by_cases e:t=n
  ·subst e
   rw [fW (A:=B) (B:=A) (fun u hu=>hB u Za Za),hA]
   omega
  ·rw [jJ hA Za (fun u hu=>hB u Za),hB n Za (fun e'=>e e'.symm)]
   omega
theorem jI{A:Nat->Nat}{k:Nat}: ∀{n:Nat},(∀u,u<n->A u<=k)->smN A n<=n*k
 |0,_=>zaB _
 |n+1,h=>by
  have h1:=jI (fun u hu=>h u (Nat.lt_succ_of_lt hu))
  have h2:=h n (Nat.lt_succ_self n)
  unfold smN
  rw [Nat.succ_mul]
  omega
theorem jH{A:Nat->Nat}{k t:Nat}(ht:A t<k): ∀{n:Nat},t<n->(∀u,u<n->A u<=k)->smN A n<n*k
 |0,h,_=>absurd h (Nat.not_lt_zero _)
 |n+1,h,hA=>by
  unfold smN
  rw [Nat.succ_mul]
  by_cases e:t=n
  ·subst e
   have:=jI (fun u hu=>hA u (Nat.lt_succ_of_lt hu))
   omega
  ·have h1:=jH ht (n:=n) Za (fun u hu=>hA u Za)
   have h2:=hA n Za
   omega
theorem fX{A:Nat->Nat}{k:Nat}: ∀{n:Nat},(∀u,u<n->A u=k)->smN A n=n*k
 |0,_=>by simp [smN]
 |n+1,h=>by
  unfold smN
  rw [fX (fun u hu=>h u Za),h n Za,Nat.succ_mul]
structure CtV(n:Nat)(V:Nat->List Nat)(A:Nat->Nat)(m:Nat):Prop where
 sum:smN A n=m
 nd: ∀t,t<n->(V t).Nodup
 dj: ∀t,t<n-> ∀u,u<n->t≠u-> ∀v∈V t,v∉V u
 lt: ∀t,t<n-> ∀v∈V t,v<m
 ln: ∀t,t<n->(V t).length=A t
theorem CtV.same{n m:Nat}{V V':Nat->List Nat}{A A':Nat->Nat}(h:CtV n V A m)(hV: ∀u,u<n->V' u=V u)(hA: ∀u,u<n->A' u=A u):CtV n V' A' m:=
 ⟨(fW hA).trans h.sum,fun t ht=>by rw [hV t ht];exact h.nd t ht,fun t ht u hu hne v hv=>by rw [hV u hu];rw [hV t ht] at hv;exact h.dj t ht u hu hne v hv,
  fun t ht v hv=>by rw [hV t ht] at hv;exact h.lt t ht v hv,fun t ht=>by rw [hV t ht,hA t ht];exact h.ln t ht⟩
theorem CtV.add{n m t:Nat}{V V':Nat->List Nat}{A A':Nat->Nat}(h:CtV n V A m)(ht:t<n)(hV: ∀u,u<n->u≠t->V' u=V u)(hA: ∀u,u<n->u≠t->A' u=A u)(G':V' t=V t++[m])(FA:A' t=A t+1):CtV n V' A' (m+1):=by
 have nm: ∀u,u<n->m∉V u:=fun u hu hm=>Nat.lt_irrefl _ (h.lt u hu m hm)
 refine ⟨?_,fun u hu=>?_,fun u hu x hx hne v hv=>?_,fun u hu v hv=>?_,fun u hu=>?_⟩
 ·rw [jJ FA ht hA,h.sum]
 ·by_cases e:u=t
  ·subst e
   rw [G']
   exact List.nodup_append.2 ⟨h.nd u hu,by simp,fun a ha b hb=>by rw [List.mem_singleton.1 hb];exact fun e=>nm u hu (e ▸ ha)⟩
  ·rw [hV u hu e]
   exact h.nd u hu
 ·by_cases e:u=t
  ·subst e
   rw [hV x hx (fun e=>hne e.symm)]
   rw [G'] at hv
   rcases List.mem_append.1 hv with hv|hv
   ·exact h.dj u hu x hx hne v hv
   ·rw [List.mem_singleton.1 hv]
    exact nm x hx
  ·rw [hV u hu e] at hv
   by_cases e2:x=t
   ·subst e2
    rw [G']
    intro hc
    rcases List.mem_append.1 hc with hc|hc
    ·exact h.dj u hu x hx hne v hv hc
    ·rw [List.mem_singleton.1 hc] at hv
     exact nm u hu hv
   ·rw [hV x hx e2]
    exact h.dj u hu x hx hne v hv
 ·by_cases e:u=t
  ·subst e
   rw [G'] at hv
   rcases List.mem_append.1 hv with hv|hv
   ·have:=h.lt u hu v hv
    omega
   ·rw [List.mem_singleton.1 hv]
    omega
  ·rw [hV u hu e] at hv
   have:=h.lt u hu v hv
   omega
 ·by_cases e:u=t
  ·subst e
   rw [G',FA,zaO,h.ln u hu]
   rfl
  ·rw [hV u hu e,hA u hu e]
   exact h.ln u hu
def vl(ps:List Nat)(p:Nat):List Nat:=ps++(if p=0 then [] else [p-1])
structure CtI(k z n:Nat)(R:List Nat)(ps:Nat->List Nat)(A P H N:Nat->Nat)(m:Nat)(s:MSt):Prop where
 size:s.size=(2^z:Nat)
 bytes:s.bytes=ctBy (2^z) m++R
 len:s.ts.length=n
 at_: ∀t,t<n-> ∃x,s.ts[t]?=some x/\ThL k z x (A t) (P t) (H t) (N t)/\x.prints=ps t
 hold: ∀t,t<n->H t≠0->H t=m+1
 val:CtV n (fun t=>vl (ps t) (P t)) A m
def EndS(s:MSt)(t:Nat):Prop:= ∃x,s.ts[t]?=some x/\x.end_=1
theorem yar{sz:Nat}(h1:1<=sz)(h8:sz<=8):meetsB 65536 sz 65536 sz=true:=by
 have s1:sndB 65536 (sz:Int)=true:=by unfold sndB;rw [zau];omega
 unfold meetsB loI hiI bLo bHi
 rw [s1]
 simp only [if_true]
 rw [if_neg Za,if_neg Za]
 simp
 omega
theorem jc{z:Nat}(h:z<=3):1<=2^z/\2^z<=8:=by
 have h4:z=0\/z=1\/z=2\/z=3:=by omega
 rcases h4 with rfl|rfl|rfl|rfl<;>decide
theorem ydW{k z n:Nat}{R:List Nat}(hR:R.length<=900000)(hn:n<=3){ps:Nat->List Nat}{A P H N:Nat->Nat}{m:Nat}{s:MSt}(h:CtI k z n R ps A P H N m s){t:Nat}(ht:t<n)(f:Bool):
  ∃s' ps' A' P' H' N' m',mStep s t f=some s'/\CtI k z n R ps' A' P' H' N' m' s'/\s'.taken=s.taken/\(∀u,u<n->u≠t->(EndS s u->EndS s' u))/\((EndS s t/\s'=s)\/(¬EndS s t/\(f=false->N' t+1<=N t))):=by
 obtain ⟨x,yU,L,hp⟩:=h.at_ t ht
 have yq: ∀u,u<n->A u<=k:=fun u hu=>by
  obtain ⟨y, -,L', -⟩:=h.at_ u hu
  exact L'.ak
 have hz:=jc L.z3
 by_cases he:x.end_=0
 ·have AA:x.prints.length<=900:=by
   have h1:=h.val.ln t ht
   have h2:=yq t ht
   have h3:=L.k3
   simp only [vl,zaO] at h1
   rw [hp]
   omega
  obtain ⟨t1,a',p',h',n',m',ts',hS,L1,hr,hN⟩:=uV (f:=f) yU L he hR AA h.bytes (h.hold t ht) (fun ha=>by
   have h1:=jH ha ht yq
   rw [h.val.sum] at h1
   have h2:=Nat.mul_le_mul hn L.k3
   omega)
  have B5:ts'.length=n:=by
   rcases hN with ⟨rfl, -⟩|⟨rfl, -⟩
   ·exact h.len
   ·rw [u9]
    exact h.len
  have hO: ∀u,∃c:Nat×Nat,u<n->u≠t->(∃y,ts'[u]?=some y/\ThL k z y (A u) (P u) c.1 c.2/\y.prints=ps u/\(EndS s u->y.end_=1))/\(c.1≠0->c.1=m'+1):=fun u=>by
   by_cases hu:u<n/\u≠t
   ·obtain ⟨y,hy,L0,BT⟩:=h.at_ u hu.1
    have hE:EndS s u->y.end_=1:=fun ⟨w,hw,e⟩=>by
     rw [hy] at hw
     rw [zae hw]
     exact e
    rcases hN with ⟨rfl,rfl, -⟩|⟨rfl,hm, -⟩
    ·exact ⟨(H u,N u),fun _ _=>⟨⟨y,hy,L0,BT,hE⟩,h.hold u hu.1⟩⟩
    ·have hg:=vd (n:=t) (a:=65536) (m:=((2^z:Nat):Int)) (k:=s.ts.length) hy
     rw [if_pos ⟨by rw [h.len];exact hu.1,hu.2⟩] at hg
     unfold clrW at hg
     by_cases hm:meetsB y.st.wa y.st.wl 65536 ((2^z:Nat):Int)=true
     ·rw [if_pos hm] at hg
      obtain ⟨j0,L2⟩:=L0.clr
      exact ⟨(0,j0),fun _ _=>⟨⟨_,hg,L2,BT,hE⟩,fun h0=>absurd rfl h0⟩⟩
     ·rw [if_neg hm] at hg
      refine ⟨(H u,N u),fun _ _=>⟨⟨y,hg,L0,BT,hE⟩,fun h0=>?_⟩⟩
      exfalso
      obtain ⟨w1,w2⟩:=L0.w1 h0
      apply hm
      rw [w1,w2]
      exact yar hz.1 hz.2
   ·exact ⟨(0,0),fun h1 h2=>absurd ⟨h1,h2⟩ hu⟩
  obtain ⟨c,hc⟩:=Classical.skolem.1 hO
  have JL: ¬EndS s t:=fun ⟨w,hw,e⟩=>by
   rw [yU] at hw
   rw [<-zae hw] at e
   omega
  refine ⟨_,fun u=>if u=t then t1.prints else ps u,fun u=>if u=t then a' else A u,fun u=>if u=t then p' else P u,fun u=>if u=t then h' else (c u).1,fun u=>if u=t then n' else (c u).2,m',hS,⟨h.size,rfl,by rw [List.length_set,B5],fun u hu=>?_,fun u hu h0=>?_,?_⟩,rfl,fun u hu hne hE=>?_,.inr ⟨JL,fun hf=>?_⟩⟩
  ·by_cases e:u=t
   ·subst e
    simp only [if_true]
    refine ⟨t1,?_,L1,rfl⟩
    rw [List.getElem?_set_self (by rw [B5];exact hu)]
   ·simp only [if_neg e]
    obtain ⟨⟨y,a,b,d, -⟩, -⟩:=hc u hu e
    refine ⟨y,?_,b,d⟩
    rw [List.getElem?_set_ne (fun e'=>e e'.symm)]
    exact a
  ·by_cases e:u=t
   ·subst e
    simp only [if_true] at h0 ⊢
    rcases hN with ⟨-,a, -,b, -⟩|⟨-, -, -, -, -, -,b⟩
    ·rw [a]
     exact b h0
    ·exact absurd b h0
   ·simp only [if_neg e] at h0 ⊢
    exact (hc u hu e).2 h0
  ·have D8: ∀u,u<n->u≠t->vl (if u=t then t1.prints else ps u) (if u=t then p' else P u)=vl (ps u) (P u):=fun u hu e=>by
    rw [if_neg e,if_neg e]
   have M4: ∀u,u<n->u≠t->(if u=t then a' else A u)=A u:=fun u hu e=>if_neg e
   rcases hN with ⟨-,a,b, -,d⟩|⟨-,a,b,d,e1,e2, -⟩
   ·rw [a]
    refine h.val.same (fun u hu=>?_) (fun u hu=>?_)
    ·by_cases e:u=t
     ·subst e
      simp only [if_true]
      rcases d with ⟨d1,d2⟩|⟨v,d1,d2,d3⟩
      ·rw [d1,d2,hp]
      ·rw [d1,d2,d3,hp]
       simp [vl]
     ·exact D8 u hu e
    ·by_cases e:u=t
     ·subst e
      simp only [if_true]
      exact b
     ·exact M4 u hu e
   ·rw [a]
    refine h.val.add ht D8 M4 ?_ ?_
    ·simp only [if_true]
     rw [d,e1,e2,hp]
     simp [vl]
    ·simp only [if_true]
     exact b
  ·obtain ⟨⟨y,a, -, -,d⟩, -⟩:=hc u hu hne
   refine ⟨y,?_,d hE⟩
   show (ts'.set t t1)[u]?=some y
   rw [List.getElem?_set_ne (fun e'=>hne e'.symm)]
   exact a
  ·show (if t=t then n' else (c t).2)+1<=N t
   rw [if_pos rfl]
   exact hr hf
 ·have Bn:x.end_=1:=by
   rcases L.st with ⟨e, -⟩|⟨e, -⟩
   ·exact e
   ·exact absurd e he
  have xz:mStep s t f=some s:=by
   unfold mStep
   rw [yU,zaZ,if_pos he]
  exact ⟨s,ps,A,P,H,N,m,xz,h,rfl,fun _ _ _ h=>h,.inl ⟨⟨x,yU,Bn⟩,rfl⟩⟩
def CtJ(k z n:Nat)(R:List Nat)(s:MSt):Prop:= ∃ps A P H N m,CtI k z n R ps A P H N m s
theorem eM{k z n:Nat}{R:List Nat}(hR:R.length<=900000)(hn:n<=3){t:Nat}(ht:t<n)(f:Bool): ∀(j:Nat) {ps:Nat->List Nat} {A P H N:Nat->Nat} {m:Nat} {s:MSt},CtI k z n R ps A P H N m s->0<=s.taken->s.taken+j<=65536->
  ∃s',mSom t f j s=some (s',0)/\CtJ k z n R s'/\s.taken<=s'.taken/\s'.taken<=s.taken+j/\(∀u,u<n->EndS s u->EndS s' u)/\(f=false->N t<j->EndS s' t)
 |0,ps,A,P,H,N,m,s,h,h0,h1=>⟨s,rfl,⟨ps,A,P,H,N,m,h⟩,Int.le_refl _,by omega,fun _ _ h=>h,fun _ h=>absurd h (Nat.not_lt_zero _)⟩
 |j+1,ps,A,P,H,N,m,s,h,h0,h1=>by
  obtain ⟨x,yU,L, -⟩:=h.at_ t ht
  by_cases he:x.end_=0
  ·obtain ⟨s1,ps1,A1,P1,H1,N1,m1,hS,hI,DD,L9,hr⟩:=ydW hR hn (s:={s with taken:=s.taken+1}) ⟨h.size,h.bytes,h.len,h.at_,h.hold,h.val⟩ ht f
   rcases hr with ⟨⟨w,hw,e⟩, -⟩|⟨JL,hr⟩
   ·have Az:s.ts[t]?=some w:=hw
    rw [yU] at Az
    rw [<-zae Az] at e
    omega
   ·have NK:s1.taken=s.taken+1:=DD
    obtain ⟨s2,hM,hJ,a,b,d,e⟩:=eM hR hn ht f j hI Za Za
    refine ⟨s2,?_,hJ,by omega,by omega,fun u hu hE=>d u hu ?_,fun hf xe=>e hf ?_⟩
    ·unfold mSom
     rw [yU,zaZ,if_neg (by simpa using he),if_neg Za,if_neg Za,hS]
     exact hM
    ·by_cases Is:u=t
     ·subst Is
      exact absurd hE JL
     ·exact L9 u hu Is hE
    ·have:=hr hf
     omega
  ·have Bn:x.end_=1:=by
    rcases L.st with ⟨e, -⟩|⟨e, -⟩
    ·exact e
    ·exact absurd e he
   refine ⟨s,?_,⟨ps,A,P,H,N,m,h⟩,Int.le_refl _,by omega,fun _ _ h=>h,fun _ _=>⟨x,yU,Bn⟩⟩
   unfold mSom
   rw [yU,zaZ,if_pos he]
theorem nz{k z n:Nat}{R:List Nat}(hR:R.length<=900000)(hn:n<=3): ∀(j t:Nat) (g:Bool) {s:MSt},CtJ k z n R s->t+j<=n->0<=s.taken->s.taken+j<=65536->
  ∃s' g',mRw j t g s=some (s',g',0)/\CtJ k z n R s'/\s.taken<=s'.taken/\s'.taken<=s.taken+j
 |0,t,g,s,h,_,h0,h1=>⟨s,g,rfl,h,Int.le_refl _,by omega⟩
 |j+1,t,g,s,⟨ps,A,P,H,N,m,h⟩,hj,h0,h1=>by
  obtain ⟨x,yU, -, -⟩:=h.at_ t Za
  obtain ⟨s1,hM,hJ,a,b, -, -⟩:=eM hR hn (t:=t) Za false 1 h h0 Za
  obtain ⟨s2,g2,Ku,Kx,a2,b2⟩:=nz hR hn j (t+1) (g||decide (x.end_=0)) hJ Za Za Za
  refine ⟨s2,g2,?_,Kx,by omega,by omega⟩
  unfold mRw
  rw [yU,zaZ,hM,zaZ,if_neg (fun h=>h rfl)]
  exact Ku
theorem nC{k z n:Nat}{R:List Nat}(hR:R.length<=900000)(hn:n<=3): ∀(j:Nat) {s:MSt},CtJ k z n R s->0<=s.taken->s.taken+(j*n:Nat)<=65536->
  ∃s',mAl j s=some (s',0)/\CtJ k z n R s'/\s.taken<=s'.taken/\s'.taken<=s.taken+(j*n:Nat)
 |0,s,h,h0,h1=>⟨s,rfl,h,Int.le_refl _,by omega⟩
 |j+1,s,h,h0,h1=>by
  have hl:s.ts.length=n:=by
   obtain ⟨ps,A,P,H,N,m,hI⟩:=h
   exact hI.len
  rw [Nat.succ_mul] at h1 ⊢
  obtain ⟨s1,g1,hM,hJ,a,b⟩:=nz hR hn n 0 false h Za h0 Za
  unfold mAl
  rw [hl,hM,zaZ,if_neg (fun h=>h rfl)]
  cases g1
  ·exact ⟨s1,rfl,hJ,a,by omega⟩
  ·obtain ⟨s2,Ku,Kx,a2,b2⟩:=nC hR hn j hJ Za Za
   exact ⟨s2,Ku,Kx,by omega,by omega⟩
def costS(x:Int×Int×Int):Int:=1+(if 0<x.2.2 then x.2.2 else 0)+(if x.1=3/\0<x.2.1 then x.2.1 else 0)
def fewL:List (Int×Int×Int)->Int->Bool
 |[],n=>decide (n<=800)
 |x::l,n=>if n<=800 then (if 800<x.2.1\/800<x.2.2 then false else fewL l (n+costS x)) else false
theorem iF(x:Int×Int×Int):1<=costS x:=by
 unfold costS
 split<;>split<;>omega
theorem it: ∀{l:List (Int×Int×Int)} {n:Int},fewL l n=true->n<=800
 |[],n,h=>of_decide_eq_true h
 |x::l,n,h=>by
  unfold fewL at h
  split at h
  ·assumption
  ·cases h
theorem mY: ∀{l:List (Int×Int×Int)} {n:Int},fewL l n=true->n+l.length<=800
 |[],n,h=>by
  have:=it h
  simpa using this
 |x::l,n,h=>by
  unfold fewL at h
  split at h
  ·split at h
   ·cases h
   ·have h1:=mY h
    have h2:=iF x
    simp only [za2]
    omega
  ·cases h
section
variable{k z n:Nat}{R:List Nat}
theorem CtJ.len{s:MSt}(h:CtJ k z n R s):s.ts.length=n:=by
 obtain ⟨ps,A,P,H,N,m,hI⟩:=h
 exact hI.len
theorem ydX(hR:R.length<=900000)(hn:n<=3){s:MSt}(h:CtJ k z n R s)(x:Int×Int×Int)(hb:x.2.1<=800)(hc:x.2.2<=800)(h0:0<=s.taken)(h1:s.taken+3*costS x<=65536):
  ∃s' e,mOne s x.1 x.2.1 x.2.2=some (s',e)/\CtJ k z n R s'/\s.taken<=s'.taken/\s'.taken<=s.taken+3*costS x:=by
 obtain ⟨a,b,c⟩:=x
 have hp:=iF (a,b,c)
 have hl:=h.len
 obtain ⟨ps,A,P,H,N,m,hI⟩:=h
 have hJ:CtJ k z n R s:=⟨ps,A,P,H,N,m,hI⟩
 simp only at hb hc ⊢
 have xW: ∃s' e,some (s,(1:Int))=some (s',e)/\CtJ k z n R s'/\s.taken<=s'.taken/\s'.taken<=s.taken+3*costS (a,b,c):=⟨s,1,rfl,hJ,Int.le_refl _,by omega⟩
 unfold mOne
 by_cases FD:a=1
 ·rw [if_pos FD]
  by_cases h2:0<=b/\b<s.ts.length/\0<=c/\c<=65536
  ·rw [if_pos h2]
   have xG:c<=costS (a,b,c):=by
    unfold costS
    simp only
    split<;>split<;>omega
   obtain ⟨s',e,E3,a1,a2, -⟩:=eM hR hn (t:=b.toNat) Za false c.toNat hI h0 Za
   exact ⟨s',0,e,E3,a1,by omega⟩
  ·rw [if_neg h2]
   exact xW
 ·rw [if_neg FD]
  by_cases h3:a=2
  ·rw [if_pos h3]
   by_cases h2:0<=b/\b<s.ts.length
   ·rw [if_pos h2]
    obtain ⟨s',e,E3,a1,a2, -⟩:=eM hR hn (t:=b.toNat) Za true 1 hI h0 Za
    exact ⟨s',0,e,E3,a1,by omega⟩
   ·rw [if_neg h2]
    exact xW
  ·rw [if_neg h3]
   by_cases h4:a=3
   ·rw [if_pos h4]
    by_cases h2:0<=b/\b<=65536
    ·rw [if_pos h2]
     have xG:b<=costS (a,b,c):=by
      unfold costS
      simp only [h4,true_and]
      split<;>split<;>omega
     have Ri:((b.toNat*n:Nat):Int)<=3*b:=by
      have:b.toNat*n<=b.toNat*3:=Nat.mul_le_mul_left _ hn
      omega
     obtain ⟨s',e,E3,a1,a2⟩:=nC hR hn b.toNat hJ h0 Za
     exact ⟨s',0,e,E3,a1,by omega⟩
    ·rw [if_neg h2]
     exact xW
   ·rw [if_neg h4]
    exact xW
theorem nB(hR:R.length<=900000)(hn:n<=3): ∀(l:List (Int×Int×Int)) (i:Nat) (v:Int) {s:MSt},CtJ k z n R s->fewL l v=true->0<=v->0<=s.taken->s.taken<=3*v->
  ∃s' n0 e0,mRun l i s=some (s',n0,e0)/\CtJ k z n R s'/\0<=s'.taken/\s'.taken<=2400
 |[],i,v,s,h,hf,hv,h0,h1=>⟨s,i,0,rfl,h,h0,by have:=it hf;omega⟩
 |x::l,i,v,s,h,hf,hv,h0,h1=>by
  unfold fewL at hf
  split at hf
  ·split at hf
   ·cases hf
   ·have h8:=it hf
    have hp:=iF x
    obtain ⟨s1,e,hO,hJ,a1,a2⟩:=ydX hR hn h x Za Za h0 Za
    unfold mRun
    rw [hO,zaZ]
    by_cases he:e≠0
    ·rw [if_pos he]
     exact ⟨s1,i,e,rfl,hJ,by omega,by omega⟩
    ·rw [if_neg he]
     exact nB hR hn l (i+1) (v+costS x) hJ hf Za (show 0<=s1.taken by omega) (show s1.taken<=3*(v+costS x) by omega)
  ·cases hf
theorem ydZ(hR:R.length<=900000)(hn:n<=3){s:MSt}(h:CtJ k z n R s){t:Nat}(ht:t<n)(h0:0<=s.taken)(h1:s.taken+21000<=65536):
  ∃s',mRun [(1,t,21000)] 0 s=some (s',1,0)/\CtJ k z n R s'/\0<=s'.taken/\s'.taken<=s.taken+21000/\(∀u,u<n->EndS s u->EndS s' u)/\EndS s' t:=by
 obtain ⟨ps,A,P,H,N,m,hI⟩:=h
 obtain ⟨K,hK⟩: ∃K:Nat,K=21000:=⟨_,rfl⟩
 obtain ⟨x,hx,L, -⟩:=hI.at_ t ht
 obtain ⟨s',e,E3,a1,a2,a3,a4⟩:=eM hR hn ht false K hI h0 Za
 refine ⟨s',?_,E3,by omega,by omega,a3,?_⟩
 ·have hl:=hI.len
  have e1:((21000:Int)).toNat=K:=by omega
  unfold mRun mOne
  rw [if_pos rfl,if_pos ⟨by simp only;omega,by simp only;omega,by simp only;omega,by simp only;omega⟩]
  simp only [Int.toNat_natCast,e1,e]
  rfl
 ·rcases L.st with ⟨he, -⟩|⟨-,pc, -,hL⟩
  ·exact a3 t ht ⟨x,hx,he⟩
  ·have:=yfF pc hL
   have:=L.k3
   exact a4 rfl Za
theorem ydY{s:MSt}(h:CtJ k z n R s)(hE: ∀t,t<n->EndS s t):
  s.size=(2^z:Nat)/\s.ts.length=n/\s.bytes=ctBy (2^z) (n*k)++R/\(∀(t:Nat) (x:TD),s.ts[t]?=some x->x.end_=1/\x.prints.length=k/\x.prints.Nodup/\ ∀v∈x.prints,v<n*k)/\
   ∀(t u:Nat) (x y:TD),t≠u->s.ts[t]?=some x->s.ts[u]?=some y-> ∀v∈x.prints,v∉y.prints:=by
 obtain ⟨ps,A,P,H,N,m,hI⟩:=h
 have hx: ∀(t:Nat) (x:TD),s.ts[t]?=some x->t<n/\x.prints=ps t/\x.end_=1/\A t=k/\P t=0:=fun t x h=>by
  have xe:=(List.getElem?_eq_some_iff.1 h).1
  rw [hI.len] at xe
  obtain ⟨y,hy,L,hp⟩:=hI.at_ t xe
  obtain ⟨w,hw,he⟩:=hE t xe
  rw [h] at hy hw
  obtain rfl:=zae hy
  obtain rfl:=zae hw
  rcases L.st with ⟨-,a,b, -⟩|⟨e, -⟩
  ·exact ⟨xe,hp,he,a,b⟩
  ·omega
 have hq: ∀t,t<n->A t=k/\P t=0:=fun t ht=>by
  obtain ⟨y,hy, -⟩:=hI.at_ t ht
  exact (hx t y hy).2.2.2
 have hm:m=n*k:=by
  rw [<-hI.val.sum]
  exact fX (fun u hu=>(hq u hu).1)
 have hV: ∀t,t<n->vl (ps t) (P t)=ps t:=fun t ht=>by
  rw [(hq t ht).2]
  simp [vl]
 refine ⟨hI.size,hI.len,by rw [hI.bytes,hm],fun t x h=>?_,fun t u x y hne h1 h2 v hv=>?_⟩
 ·obtain ⟨xe,hp,he,ha, -⟩:=hx t x h
  have a:=hI.val.nd t xe
  have b:=hI.val.ln t xe
  have c:=hI.val.lt t xe
  simp only [hV t xe] at a b c
  rw [hp]
  exact ⟨he,b.trans ha,a,fun v hv=>by rw [<-hm];exact c v hv⟩
 ·obtain ⟨xe,hp, -⟩:=hx t x h1
  obtain ⟨LU,Ge, -⟩:=hx u y h2
  have:=hI.val.dj t xe u LU hne
  simp only [hV t xe,hV u LU] at this
  rw [hp] at hv
  rw [Ge]
  exact this v hv
theorem yd6{s:MSt}(hk:k<=3)(hz:z<=3)(hs:s.size=(2^z:Nat))(hb:s.bytes=ctBy (2^z) 0++R)(hl:s.ts.length=n)(ht: ∀(t:Nat) (x:TD),s.ts[t]?=some x-> ∃y si,x=⟨ctCode y k z,si,St.zero,[],0⟩/\ ∀i∈ctCode y k z,(enc i).isSome=true):CtJ k z n R s:=by
 refine ⟨fun _=>[],fun _=>0,fun _=>0,fun _=>0,fun _=>k*25+27,0,hs,hb,hl,fun t xe=>?_,fun t _ h=>absurd rfl h,?_⟩
 ·obtain ⟨x,hx⟩: ∃x,s.ts[t]?=some x:=⟨s.ts[t]'Za,zaC _⟩
  obtain ⟨y,si,rfl,he⟩:=ht t x hx
  exact ⟨_,hx,⟨⟨y,rfl⟩,he,fun _=>⟨rfl,rfl⟩,fun h=>absurd rfl h,hk,hz,zaB _,.inr ⟨rfl,0,rfl,rfl,rfl,rfl,rfl⟩⟩,rfl⟩
 ·exact ⟨by rw [fX (k:=0) (fun _ _=>rfl),Nat.mul_zero],fun _ _=>List.nodup_nil,fun _ _ _ _ _ v hv=>absurd hv (zaN),fun _ _ v hv=>absurd hv (zaN),fun _ _=>rfl⟩
end
end Go.Proofs.YtjmfoeajhiimnaaGreatDoor
