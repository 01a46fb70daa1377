/- Walks. No condition. -/
import Derived.ArgAppend
import Derived.Test.YtjmfoeajhiimnaaGreatDoorG25
set_option maxRecDepth 100000
set_option maxHeartbeats 0
set_option linter.all false
namespace Go.Proofs.YtjmfoeajhiimnaaGreatDoor
open Go.RowKit Go.Sort
def lenOf:qV->Nat
 | .slice _ n _=>n
 |_=>0
theorem rv:(Tryz.prog.info? 136).map (fun i=>(i.zero,i.size,i.bytes))=some (some (.agg #[iI 0,iI 0,.string ⟨#[]⟩,.string ⟨#[]⟩,iI 0,.string ⟨#[]⟩,.slice none 0 0,.slice none 0 0,.slice none 0 0,.slice none 0 0]),10,168):=by kernel_rfl
structure SmsAt(w:qW)(ok:Nat->Prop)(n:Nat)(o:List Sm)(css:List (List qV)):Prop where
 len:css.length=o.length
 ten: ∀c∈css,c.length=10
 at_: ∀(i:Nat) x c,o[i]?=some x->css[i]?=some c->SmAt w ok n x c
theorem SmsAt.nil(w:qW)(ok:Nat->Prop)(n:Nat):SmsAt w ok n [] []:=⟨rfl,by simp,by simp⟩
theorem SmsAt.keep{w w':qW}{ok ok':Nat->Prop}{n:Nat}{o:List Sm}{css:List (List qV)}(h:SmsAt w ok n o css)(hz:w.heap.size<=w'.heap.size)(hb: ∀b,ok b->b<w.heap.size->ok' b/\w'.heap[b]?=w.heap[b]?):SmsAt w' ok' n o css:=
 ⟨h.len,h.ten,fun i x c hx hc=>SmAt.keep hz hb n x c (h.at_ i x c hx hc)⟩
theorem SmsAt.snoc{w:qW}{ok:Nat->Prop}{n:Nat}{o:List Sm}{css:List (List qV)}(h:SmsAt w ok n o css){x:Sm}{c:List qV}(hx:SmAt w ok n x c)(hc:c.length=10):SmsAt w ok n (o++[x]) (css++[c]):=by
 refine ⟨by simp [h.len],fun d hd=>?_,fun i y d hy hd=>?_⟩
 ·rcases List.mem_append.1 hd with h1|h1
  ·exact h.ten d h1
  ·simp at h1
   rw [h1]
   exact hc
 ·rcases zaJ i o.length with hi|hi
  ·rw [zah hi] at hy
   rw [zah (by rw [h.len];exact hi)] at hd
   exact h.at_ i y d hy hd
  ·rw [zai hi] at hy
   rw [zai (by rw [h.len];exact hi)] at hd
   have:i-o.length=0:=by
    have:=(List.getElem?_eq_some_iff.1 hy).1
    simp at this
    omega
   rw [this] at hy
   rw [h.len,this] at hd
   simp at hy hd
   subst hy hd
   exact hx
structure OutB(B n:Nat)(W:qW)(v:qV)(o:List Sm)(css:List (List qV)):Prop where
 own:W.ownsRow B 136 10 v o.length css.flatten
 sms:SmsAt W (fun b=>B<=b/\b<W.heap.size/\v.ownBlock≠some b) n o css
theorem OutB.nil(B n:Nat)(W:qW):OutB B n W (.slice none 0 0) [] []:=⟨zaX _ _ _ _,SmsAt.nil _ _ _⟩
theorem OutB.kp{B n P:Nat}{W W':qW}{v:qV}{o:List Sm}{css:List (List qV)}(h:OutB B n W v o css)(hk:Kp (·=P) W W')(hP:P<B):OutB B n W' v o css:=
 ⟨ai h.own hk (fun g hg e=>by have:=(h.own.lt g hg).1;omega),h.sms.keep hk.size (fun b hb hl=>⟨⟨hb.1,by have:=hk.size;omega,hb.2.2⟩,hk.block b hl (fun e=>by omega)⟩)⟩
theorem OutB.form{B n:Nat}{W:qW}{v:qV}{o:List Sm}{css:List (List qV)}(h:OutB B n W v o css): ∃a c,v= .slice a o.length c:=by
 rcases h.own.2 with ⟨rfl,h0⟩|⟨g,cap,cur,rfl, -⟩
 ·exact ⟨none,0,by rw [h0]⟩
 ·exact ⟨_,_,rfl⟩
theorem OutB.row{B n:Nat}{W:qW}{v:qV}{o:List Sm}{css:List (List qV)}(h:OutB B n W v o css):SsAt n B W.heap.size v o W:=
 dH h.own h.sms.ten (by rw [h.sms.len]) rfl (fun i x c hx hc=>SmAt.keep (zaq _) (fun b hb _=>⟨⟨hb.1,hb.2.1⟩,rfl⟩) n x c (h.sms.at_ i x c hx hc)) (fun g hg=>h.own.lt g hg)
theorem OutB.more{B n lo:Nat}{W1 W2:qW}{v:qV}{g cap:Nat}{o:List Sm}{css:List (List qV)}{x:Sm}{c:List qV}{ob:Obj}(h:OutB B n W1 v o css)(hg:(W1.alloc ob).grownBy W2 v.ownBlock)
  (ho:W2.ownsRow B 136 10 (.slice (aA g) (o.length+1) cap) (o.length+1) (css.flatten++c)) (hl:v.ownBlock=some g\/g=(W1.alloc ob).heap.size) (hx:SmAt W1 (Fz lo W1.heap.size) n x c) (hc:c.length=10) (xD:B<=lo)
  (hv: ∀g,v.ownBlock=some g->g<lo):OutB B n W2 (.slice (aA g) (o.length+1) cap) (o++[x]) (css++[c]):=by
 have hz:W1.heap.size<=W2.heap.size:=by have:=hg.size;simp at this;omega
 have hb: ∀b,b<W1.heap.size->v.ownBlock≠some b->W2.heap[b]?=W1.heap[b]?/\b≠g:=fun b h1 h2=>by
  refine ⟨(hg.block b Zk (fun e=>h2 e.symm)).trans (zac _ _ h1),fun e=>?_⟩
  subst e
  rcases hl with hl|hl
  ·exact h2 hl
  ·simp at hl
   omega
 refine ⟨by simpa using ho,SmsAt.snoc (h.sms.keep hz (fun b yN B5=>?_)) (SmAt.keep hz (fun b yN B5=>?_) n x c hx) hc⟩
 ·obtain ⟨h1,h2⟩:=hb b yN.2.1 yN.2.2
  exact ⟨⟨yN.1,by omega,by simp [Value.ownBlock];omega⟩,h1⟩
 ·obtain ⟨h1,h2⟩:=hb b yN.2 (fun e=>by have:=hv b e;have:=yN.1;omega)
  exact ⟨⟨by have:=yN.1;omega,by have:=yN.2;omega,by simp [Value.ownBlock];omega⟩,h1⟩
theorem qG{P n:Nat}{pb:PB}(HE:HBl P n pb){s:PS}(w:qW)(h:PAt w P s)(d:Int)(yZ:0<=d)(hd:d<=900)(r:Sm×PS)(hr:pStmt (pExpr 66) pb d s=some r):StCall P d w (ParS P (n+1) w r):=by
 cases q5:(pIs (⟨#[115,116,111,114,101,50]⟩:qB) s).1
 case false=>exact qF HE w h d yZ hd r hr q5
 case true=>
  have no: ∀t:qB,eqB (⟨#[115,116,111,114,101,50]⟩:qB) t=false->(pIs t s).1=false:=fun t ht=>by
   unfold pIs at q5 ⊢
   cases hb:pBad s
   ·simp only [hb,zaY,if_false] at q5 ⊢
    split at q5
    ·rename_i hq
     have Dc:pPeek s=(⟨#[115,116,111,114,101,50]⟩:qB):=by simpa [eqB] using hq
     rw [Dc,ht]
     rfl
    ·simp at q5
   ·simp [hb] at q5
  have q0:=no (⟨#[108,101,116]⟩:qB) Zd
  have q1:=no (⟨#[115,101,116]⟩:qB) Zd
  have q2:=no (⟨#[119,114,105,116,101]⟩:qB) Zd
  have q3:=no (⟨#[115,116,111,114,101]⟩:qB) Zd
  have q4:=no (⟨#[108,111,97,100,50]⟩:qB) Zd
  unfold pStmt at hr
  simp [q0,q1,q2,q3,q4,q5] at hr
theorem yeT{P n:Nat}{pb:PB}(HE:HBl P n pb):HBl P (n+1) (fun d s=>pBlockF (pExpr 66) pb d s):=by
 intro w s d r h yZ hd hr
 unfold pBlockF at hr
 have xe:=h.lt
 cases Fu:(pDeep d s).1
 case false=>simp [Fu] at hr
 case true=>
  obtain ⟨Dm,yb,he⟩:=fh Fu
  simp only [Fu,Bool.not_true,zaY,if_false] at hr
  rw [he] at hr
  simp only at hr
  have HC:=Zh (At.begin h)
  have HS:=Zh (fun (W:qW) {s:PS} (h:PAt W P s) (d:Int) (h0:0<=d) (h1:d<=900) (r:Sm×PS) (hr:pStmt (pExpr 66) pb d s=some r)=>qG HE W h d h0 h1 r hr)
  have HR:=Zh hr
  obtain ⟨i0,xF,xx,xu,xq⟩:=zan rv
  clear h hr HE
  go_enter Tryz.func27,Tryz.ntmps27
  go_wp2_with (first|(go_at_call 43;refine (dX _ HC.out.pt _ ZB).mono ?_;rintro e w1 ⟨rfl,u'⟩;replace u':=u'.symm;subst u')|(go_at_call 26;refine (cZ _ HC.out.pt _).mono ?_;rintro e w1 ⟨rfl,hT,hP⟩;replace HC:=Zh (HC.out.next hT hP);clear hT hP))
  go_loopw [5] (fun v5 wr=> ∃(k:Nat) (s1:PS) (o:List Sm) (css:List (List qV)),pStmts (pStmt (pExpr 66) pb d) k s1 o=some r/\At P w wr s1/\OutB w.heap.size (n+1) wr v5 o css) (fun v5 _=>1000001-lenOf v5)
  case atStart=>exact ⟨_,_,[],[],HR.out,HC.out,OutB.nil _ _ _⟩
  case round=>
   obtain ⟨k,s1,o,css,wY,FA,hO⟩:=hrel
   obtain ⟨a,c,rfl⟩:=hO.form
   clear HC
   have HC:=Zh FA
   have HO:=Zh hO
   have hz:=FA.kp.size
   clear FA hO HR
   match k,wY with
   |0,wY=>exact absurd wY (by simp [pStmts])
   |k+1,wY=>
    unfold pStmts at wY
    cases hb:pBad s1
    case true=>
     simp only [hb,if_true,zaA] at wY
     subst wY
     go_wp2_with (first|(go_at_call 37;refine (bF _ HC.out.pt).mono ?_;rintro e w1 ⟨rfl,u'⟩;replace u':=u'.symm;subst u'))
     go_ret
     exact ⟨a,c,rfl,HC.out.kp,HC.out.pt,HO.out.row⟩
    case false=>
     cases hi:(pIs (⟨#[125]⟩:qB) s1).1
     case true=>
      simp only [hb,hi,zaY,if_false,if_true,zaA] at wY
      subst wY
      go_wp2_with (first|(go_at_call 37;refine (bF _ HC.out.pt).mono ?_;rintro e w1 ⟨rfl,u'⟩;replace u':=u'.symm;subst u')|(go_at_call 23;refine (dl _ HC.out.pt _).mono ?_;rintro e w1 ⟨rfl,hT,hP⟩;have HT:=Zh hT;replace HC:=Zh (HC.out.next hT hP);clear hT hP))
      go_ret
      have hO:=HO.out
      exact ⟨a,c,rfl,HC.out.kp,HC.out.pt,(hO.kp HT.out xe).row⟩
     case false=>
      have EF:pIs (⟨#[125]⟩:qB) s1=(false,s1):=by
       unfold pIs at hi ⊢
       simp only [hb,zaY,if_false] at hi ⊢
       split at hi
       ·simp at hi
       ·rename_i hq
        simp [hq]
      simp only [hb,hi,zaY,if_false] at wY
      by_cases yA:1000000<=o.length
      ·simp [yA] at wY
      simp only [yA,if_false] at wY
      rcases xz:pStmt (pExpr 66) pb d s1 with _|⟨x,s2⟩
      ·simp [xz] at wY
      simp only [xz] at wY
      have HR:=Zh xz
      clear xz
      go_wp2_with (first|(go_at_call 37;refine (bF _ HC.out.pt).mono ?_;rintro e w1 ⟨rfl,u'⟩;replace u':=u'.symm;subst u')|(go_at_call 23;refine (cB _ HC.out.pt ZB).mono ?_;rintro e w1 ⟨rfl,u'⟩;replace u':=u'.symm;subst u')|(go_at_call 48;refine (HS.out _ HC.out.pt _ Za Za _ HR.out).mono ?_;rintro e w1 ⟨pa,pc,xa,xc,ta,tc,la,lc,rfl,hT,hP,hv⟩;have HV:=Zh hv;have HT:=Zh hT;replace HC:=Zh (HC.out.next hT hP);clear hT hP;clear hv)|(at_builtin;(refine bO (.tmp 20) (.tmp 24) 102 136 i0 _ 10 168 Tryz.underlying102 xF xx xu xq rfl Zd ?_ ?_ w.heap.size (.slice a o.length c) o.length css.flatten ((HO.out.kp HT.out xe).own.alloc _) w1.heap.size #[iI x.kind,iI x.line,.string x.name,.string x.name2,iI x.order,.string x.var,.slice pa x.parts.length pc,.slice xa x.exprs.length xc,.slice ta x.thn.length tc,.slice la x.els.length lc] 136 (0,0) (zab _ _) ?_ ?_ ?_ ?_ ?_ ?_ ?_ ?_);rfl;rfl;rfl;rfl;rfl;simp [Value.oneCell'];omega;omega;(have h9:=HT.out.size;simp;omega);intro g2 cap2 w2 hown xb xk Ew))
      have hO:=HO.out
      have hK:=HT.out
      have hA:=(hO.kp hK xe).own
      refine ⟨⟨k,s2,o++[x],_,wY,⟨?_,?_,xe⟩,by simpa using OutB.more (hO.kp hK xe) xb hown xk HV.out rfl hz (fun g hg=>(hO.own.lt g hg).2)⟩,by simp [lenOf];omega⟩
      ·refine (HC.out.kp.alloc _).next (Kp.of_grown xb) (fun i hi e=>?_)
       have:=(hA.lt i e.symm).1
       omega
      ·refine (HC.out.pt.alloc _).keep ((Kp.of_grown xb).mono (fun i hi e=>?_))
       have:=(hA.lt i e.symm).1
       omega
theorem nW(P:Nat): ∀n,HBl P n (pBlock (pExpr 66) n)
 |0=>fun w s d r h h0 h1 hr=>by simp [pBlock] at hr
 |n+1=>fun w s d r h h0 h1 hr=>yeT (nW P n) w s d r h h0 h1 hr
def scV(k s:Int):qV:= .agg #[iI k,iI s,.bool false,.slice none 0 0,iI 0,.slice none 0 0]
theorem sI{P:Program}{T e f:TypeId}{n:Nat}{i0:TypeInfo}(hT:P.underlying T=some (.array n e))(he:P.underlying e=some (.slice f))(hi:P.info? e=some i0)(hs:i0.size=1)(cs:Array qV)(hn:cs.size=n)(k:Int)(h0:0<=k)(h1:k<n)(w:qW):
  (Instr.index T (.agg cs) (iI k)).run P w= .ok (cs.getD k.toNat undef) w:=by
 have hk:k.toNat<cs.size:=by omega
 have e1:=run_underlying hT w
 have e2:=run_underlying he w
 simp [Instr.index,asIntOf,e1,e2,h0,h1,Go.part,isAgg,sizeOf,typeInfo,hi,hs,zav hk,Array.getD,hk]
theorem rO:(Tryz.prog.info? 140).map (fun i=>(i.zero,i.size,i.bytes))=some (some (.slice none 0 0),1,24):=by kernel_rfl
theorem r8(w:qW):qC 44 #[.string (⟨#[117,56]⟩:qB)] w (Gives w (.tuple #[scV 1 1,.bool true])):=Z9
theorem sh(w:qW):qC 44 #[.string (⟨#[117,49,54]⟩:qB)] w (Gives w (.tuple #[scV 1 2,.bool true])):=Z9
theorem se(w:qW):qC 44 #[.string (⟨#[117,51,50]⟩:qB)] w (Gives w (.tuple #[scV 1 4,.bool true])):=Z9
theorem sd(w:qW):qC 44 #[.string (⟨#[117,54,52]⟩:qB)] w (Gives w (.tuple #[scV 1 8,.bool true])):=Z9
theorem so(w:qW):qC 44 #[.string (⟨#[97,56]⟩:qB)] w (Gives w (.tuple #[scV 2 1,.bool true])):=Z9
theorem sy(w:qW):qC 44 #[.string (⟨#[97,49,54]⟩:qB)] w (Gives w (.tuple #[scV 2 2,.bool true])):=Z9
theorem sw(w:qW):qC 44 #[.string (⟨#[97,51,50]⟩:qB)] w (Gives w (.tuple #[scV 2 4,.bool true])):=Z9
theorem sq(w:qW):qC 44 #[.string (⟨#[97,54,52]⟩:qB)] w (Gives w (.tuple #[scV 2 8,.bool true])):=Z9
theorem sA(w:qW):qC 44 #[.string (⟨#[97,49,50,56]⟩:qB)] w (Gives w (.tuple #[scV 2 16,.bool true])):=Z9
theorem sn(s:qB)(k z:Int)(h:scalar s=some (k,z))(w:qW):qC 44 #[.string s] w (Gives w (.tuple #[scV k z,.bool true])):=by
 unfold scalar look at h
 rcases hf:scals.find? (fun x=>eqB x.1 s) with _|⟨a,b⟩
 ·rw [hf] at h
  cases h
 rw [hf] at h
 have h1:=List.find?_some hf
 have h2:=List.mem_of_find?_eq_some hf
 simp only [eqB,zau] at h1
 simp only [Option.map_some,zaA] at h
 subst h1 h
 simp only [scals,zaM,Prod.mk.injEq,zaN,or_false] at h2
 rcases h2 with ⟨rfl,rfl,rfl⟩|⟨rfl,rfl,rfl⟩|⟨rfl,rfl,rfl⟩|⟨rfl,rfl,rfl⟩|⟨rfl,rfl,rfl⟩|⟨rfl,rfl,rfl⟩|⟨rfl,rfl,rfl⟩|⟨rfl,rfl,rfl⟩|⟨rfl,rfl,rfl⟩
 ·exact r8 w
 ·exact sh w
 ·exact se w
 ·exact sd w
 ·exact so w
 ·exact sy w
 ·exact sw w
 ·exact sq w
 ·exact sA w
theorem pu{P:Nat}{s:PS}(w:qW)(h:PAt w P s)(d:Int)(r:TyL×PS)(hr:pTyp d s=some r):
  qC 25 #[pP P,iI d] w fun e w'=> ∃k z,r.1=scTy k z/\e= .returned (scV k z)/\rng k/\rng z/\Kp (·=P) w w'/\PAt w' P r.2:=by
 unfold pTyp at hr
 cases Fu:(pDeep d s).1
 case false=>simp [Fu] at hr
 case true=>
  obtain ⟨Dm,yb,he⟩:=fh Fu
  simp only [he,Bool.not_true,zaY,if_false] at hr
  rcases Cy:scalar (pPeek s) with _|⟨k,z⟩
  ·simp [Cy] at hr
  simp only [Cy,zaA] at hr
  subst hr
  have HS:=Zh (fun W=>sn (pPeek s) k z Cy W)
  have HK:Hid (rng k/\rng z):=Zh (by
   unfold scalar look at Cy
   rcases hf:scals.find? (fun x=>eqB x.1 (pPeek s)) with _|⟨a,b⟩
   ·rw [hf] at Cy
    cases Cy
   rw [hf] at Cy
   have h2:=List.mem_of_find?_eq_some hf
   simp only [Option.map_some,zaA] at Cy
   subst Cy
   simp only [scals,zaM,Prod.mk.injEq,zaN,or_false] at h2
   unfold rng
   omega)
  clear Cy
  have HC:=Zh (At.begin h)
  have xe:=h.lt
  have HD:=Zh Dm
  clear h
  unfold scV at HS
  go_enter Tryz.func25,Tryz.ntmps25
  go_wp2_with (first|(go_at_call 43;refine (dX _ (At.pt (w:=w) Zf) _ ZB).mono ?_;rintro e w1 ⟨rfl,rfl⟩)|(go_at_call 38;refine (ce _ (At.pt (w:=w) Zf)).mono ?_;rintro e w1 ⟨rfl,rfl⟩)|(go_at_call 44;refine (HS.out _).mono ?_;rintro e w1 ⟨rfl,p,hw⟩;have hT:=(cX (w:=w) Zf hw).2;replace HC:=Zh (cX (w:=w) Zf hw).1;clear hw p;(try (replace V1:=Zh (Has.same ZI hT)));(try (replace V2:=Zh (Has.same ZJ hT)));(try (replace V3:=Zh (Has.same ZK hT)));(try (replace HV:=Zh (ExAt.same ZE hT)));(try (replace yx:=Zh (ExAt.same ZH hT)));(try (replace HO:=Zh (ai ZL hT (fun g1 xy=>by (try simp only []);simp [Value.ownBlock] at xy;omega))));have hs:=HC.out.kp.size;have hm:=Kp.size hT;(try simp only [Zz] at hm);(repeat ((first|(with_reducible obtain ⟨hx,hy,hT⟩:=hT.peel)|(with_reducible obtain ⟨hx,hy,hT⟩:=hT.peelA));(try simp only [Zz] at hx hy);rw [hx];clear hx));(repeat (clear hT)))|(go_at_call 39;refine (dO _ (At.pt (w:=w) Zf)).mono ?_;rintro e w1 ⟨rfl,hT,hP⟩;replace HC:=Zh (At.next (w:=w) Zf hT hP);clear hP;(try (replace V1:=Zh (Has.same ZI hT)));(try (replace V2:=Zh (Has.same ZJ hT)));(try (replace V3:=Zh (Has.same ZK hT)));(try (replace HV:=Zh (ExAt.same ZE hT)));(try (replace yx:=Zh (ExAt.same ZH hT)));(try (replace HO:=Zh (ai ZL hT (fun g1 xy=>by (try simp only []);simp [Value.ownBlock] at xy;omega))));have hs:=HC.out.kp.size;have hm:=Kp.size hT;(try simp only [Zz] at hm);(repeat ((first|(with_reducible obtain ⟨hx,hy,hT⟩:=hT.peel)|(with_reducible obtain ⟨hx,hy,hT⟩:=hT.peelA));(try simp only [Zz] at hx hy);rw [hx];clear hx));(repeat (clear hT))))
  (try simp only [Exit.inBlock,Exit.then]);refine zad (by simp [results,Tryz.results25,go_sem,↓IntWalk.iteOmega];try rfl) rfl ?_
  refine ⟨k,z,rfl,rfl,HK.out.1,HK.out.2,At.kp (s:=pNext s) Zf,At.pt (w:=w) Zf⟩
theorem yaG{x:UInt8}{l wd rr:List UInt8}(h:lexOne (x::l)=some (wd,rr))(hd:isDig x=true):(∀c∈wd,isDig c=true)/\dval wd<18446744073709551616:=by
 have hl:isLet x=false:=by
  simp [isLet,isDig] at*
  omega
 unfold lexOne at h
 simp only [hl,hd,zaY,if_false,if_true] at h
 split at h
 ·cases h
 rename_i hc
 split at h
 ·cases h
 cases h
 simp only [zak,zau,not_or] at hc
 exact ⟨fun c hc=>List.all_eq_true.1 List.all_takeWhile c hc,by omega⟩
def TkFine(t:Tok):Prop:=TokOk t/\rng t.line/\t.text.size<=1048576
theorem yaA{t:qB}{s s':LxS}(h:s.at_<t.size)(hz:t.size<=1048576)(hl:0<=s.line/\s.line<=s.at_+1)(hs:lxNext t s=some s')(ht: ∀k∈s.toks,TkFine k):(∀k∈s'.toks,TkFine k)/\0<=s'.line/\s'.line<=s'.at_+1:=by
 have xe:=ia h hs
 unfold lxNext at hs
 rw [cP h] at hs
 simp only at hs
 split at hs
 ·cases hs
  exact ⟨ht,by simp only [];omega,by simp only [];omega⟩
 split at hs
 ·cases hs
  exact ⟨ht,hl.1,by simp only [];omega⟩
 rcases xD:lexOne (t[s.at_]::t.data.toList.drop (s.at_+1)) with _|⟨wd,rr⟩
 ·rw [xD] at hs
  cases hs
 rw [xD] at hs
 cases hs
 have hp:=fw xD
 have AQ:(subT t s.at_ wd.length).data.toList=wd:=by
  rw [eV,cP h,<-hp.1]
  simp
 refine ⟨fun k hk=>?_,hl.1,by simp [takeS];omega⟩
 rcases List.mem_append.1 hk with hk|hk
 ·exact ht k hk
 ·simp only [List.mem_singleton] at hk
  subst hk
  refine ⟨fun hd=>?_,by show rng s.line;unfold rng;omega,?_⟩
  ·simp only at hd ⊢
   rw [AQ]
   refine yaG xD ?_
   unfold digits head? at hd
   rw [<-Array.getElem?_toList,AQ] at hd
   rcases wd with _|⟨y,wd⟩
   ·simp at hp
   ·have:y=t[s.at_]:=by
     have:=hp.1
     simp at this
     exact this.1
    subst this
    simpa using hd
  ·show (subT t s.at_ wd.length).size<=1048576
   have:(subT t s.at_ wd.length).data.toList.length=(subT t s.at_ wd.length).size:=zam
   have h2:=congrArg List.length hp.1
   rw [AQ] at this
   rw [<-this]
   have yE:t.data.toList.length=t.size:=zam
   simp only [zaO,za2,List.length_drop,yE] at h2
   omega
theorem yaz{t:qB}{s:LxS}{l:List Tok}(hz:t.size<=1048576)(h:LxRun t s l)(hl:0<=s.line/\s.line<=s.at_+1)(ht: ∀k∈s.toks,TkFine k): ∀k∈l,TkFine k:=by
 induction h with
 |stop h=>exact ht
 |go h hs k ih=>
  obtain ⟨h1,h2⟩:=yaA h hz hl hs ht
  exact ih h2 h1
theorem yaI{t:qB}{l:List Tok}(h:lexAll t= .inr l): ∀k∈l,TkFine k:=by
 unfold lexAll at h
 split at h
 ·cases h
 rename_i hsz
 split at h
 ·cases h
 rename_i l' Fq
 cases h
 exact yaz (t:=t) Za (LxRun.of_go _ ⟨0,1,[]⟩ _ (zaB _) (by simpa using Fq)) ⟨by simp,by simp⟩ Zg
theorem yaH{t:qB}{l:List Tok}(h:lexAll t= .inr l):l.length<=1048576:=by
 unfold lexAll at h
 split at h
 ·cases h
 rename_i hsz
 split at h
 ·cases h
 rename_i l' Fq
 cases h
 have hr:=LxRun.of_go _ ⟨0,1,[]⟩ _ (zaB _) (by simpa using Fq)
 have key: ∀s l,LxRun t s l->s.toks.length<=s.at_->s.at_<=t.size->l.length<=t.size:=by
  intro s l h
  induction h with
  |stop h=>intro h1 h2;omega
  |go h hs k ih=>
   intro h1 h2
   rename_i s s' l
   have xe:=ia h hs
   refine ih ?_ ?_
   ·unfold lxNext at hs
    rw [cP h] at hs
    simp only at hs
    split at hs
    ·cases hs
     simp only []
     omega
    split at hs
    ·cases hs
     simp only []
     omega
    rcases xD:lexOne (t[s.at_]::t.data.toList.drop (s.at_+1)) with _|⟨wd,rr⟩
    ·rw [xD] at hs
     cases hs
    rw [xD] at hs
    cases hs
    simp [takeS] at xe ⊢
    omega
   ·unfold lxNext at hs
    rw [cP h] at hs
    simp only at hs
    split at hs
    ·cases hs
     simp only []
     omega
    split at hs
    ·cases hs
     simp only []
     omega
    rcases xD:lexOne (t[s.at_]::t.data.toList.drop (s.at_+1)) with _|⟨wd,rr⟩
    ·rw [xD] at hs
     cases hs
    rw [xD] at hs
    cases hs
    have hp:=congrArg List.length (fw xD).1
    have yE:t.data.toList.length=t.size:=zam
    simp only [zaO,za2,List.length_drop,yE] at hp
    simp [takeS]
    omega
 have:=key _ _ hr Zg Zg
 omega
theorem py{w:qW}{B:Nat}{v:qV}{l:List Tok}(h:w.ownsRow B 119 2 v l.length (l.flatMap tkC))(hf: ∀k∈l,TkFine k):RwAt w (fun b=>B<=b/\b<w.heap.size) 2 TokEl v l:=by
 have e:l.flatMap tkC=(l.map tkC).flatten:=by simp [List.flatMap]
 rw [e] at h
 refine dH h (fun c hc=>?_) Zg rfl (fun i x c hx hc=>?_) (fun g hg=>h.lt g hg)
 ·obtain ⟨k, -,rfl⟩:=List.mem_map.1 hc
  rfl
 ·rw [zaj,hx] at hc
  cases hc
  exact ⟨rfl,(hf x (zat hx)).2.1,(hf x (zat hx)).2.2⟩
theorem oA(g j:Nat):(⟨g,0,none⟩:Addr).add j=⟨g,j,none⟩:=by
 unfold Addr.add
 split
 ·rename_i h
  rw [h]
 ·simp
theorem pA{w:qW}{B g c:Nat}{l:List Tok}{x:Tok}(h:w.ownsRow B 119 2 (.slice (aA g) l.length c) l.length (l.flatMap tkC))(hx:l[l.length-1]?=some x):
  (∀j u,(l.flatMap tkC)[j]?=some u->w.cell? (aB g j)=some u)/\w.cell? ⟨g,(l.length-1)*2+1,none⟩=some (iI x.line)/\l.length<=c/\B<=g/\g<w.heap.size:=by
 have hb:l.length<=c/\B<=g/\g<w.heap.size:=by
  rcases h.2 with ⟨h1, -⟩|⟨g',cap,cur,h1,h2,h3,h4,h5,h6,h7⟩
  ·cases h1
  ·cases h1
   exact ⟨h4,h2,ac h3⟩
 have key: ∀j u,(l.flatMap tkC)[j]?=some u->w.cell? (aB g j)=some u:=by
  intro j u hj
  rcases h.2 with ⟨h1, -⟩|⟨g',cap,cur,h1,h2,h3,h4,h5,h6,h7⟩
  ·cases h1
  ·cases h1
   rw [<-h7,List.getElem?_take] at hj
   rw [aa h3]
   split at hj
   ·simpa using hj
   ·cases hj
 refine ⟨key,key _ _ ?_,hb⟩
 have e:l.flatMap tkC=(l.map tkC).flatten:=by simp [List.flatMap]
 rw [e,ir (s:=2) (l.map tkC) (fun c hc=>by obtain ⟨k, -,rfl⟩:=List.mem_map.1 hc;rfl) (l.length-1) (tkC x) (by rw [zaj,hx];rfl) 1 Zd]
 rfl
theorem ye2(t:qB)(l:List Tok)(h:lexAll t= .inr l)(hne:l≠[])(w:qW)(yo:SpT w):
  qC 22 #[.string t] w fun e w'=> ∃P,e= .returned (.tuple #[pP P,.agg #[iI 0,iI 0]])/\Below w.heap.size w w'/\w.heap.size<=P/\PAt w' P (pBegin l):=by
 obtain ⟨i0,xF,xx,xu,xq⟩:=zan jh
 have HT:=Zh (fun W=>pz t l h W)
 have HF:=Zh (yaI h)
 have xd:=yaH h
 have yy:0<l.length:=List.length_pos_iff.2 hne
 obtain ⟨lt,xe⟩: ∃x,l[l.length-1]?=some x:=⟨l[l.length-1],zaC Za⟩
 have hw:IntKind.i64.wrap ((l.length:Int)-1)=(l.length:Int)-1:=IntWalk.i64_in _ Za
 clear h
 go_enter Tryz.func22,Tryz.ntmps22
 have Bh:(l.flatMap tkC).length=l.length*2:=by
  have e:l.flatMap tkC=(l.map tkC).flatten:=by simp [List.flatMap]
  rw [e,List.length_flatten,List.map_map]
  clear hne yy xe hw xd HF HT e
  induction l with
  |nil=>rfl
  |cons x l ih=>simp [tkC] at ih ⊢;omega
 go_wp2_with (first
  |(go_at_call 36;refine (HT.out _).mono ?_;rintro e w1 ⟨a,c,rfl,hB,hO⟩;obtain ⟨g,cap,e1, -, -⟩:=hO.form yy;cases e1;have HB:=Zh hB;have HO:=Zh hO;obtain ⟨q1,q2,q3,q4,q5⟩:=pA hO xe;replace q1:=Zh q1;clear hB hO)
  |(at_builtin;(refine wpList_append_grows _ rfl (.tmp 31) (.tmp 34) 115 rfl 119 i0 _ 2 24 Tryz.underlying115 xF xx xu xq rfl Zd (aA g) l.length l.length (l.flatMap tkC) rfl Zg Bh (fun b hb j u hj=>by cases hb;rw [oA,aV,if_pos Zk,aV,if_pos q5];exact q1.out j u hj) ⟨w1.heap.size+1,0,none⟩ 1 1 [.string ⟨#[]⟩,iI lt.line] rfl rfl (fun j u hj=>by rw [oA,aV,if_neg Zg,if_pos Zg];simpa using hj) ZD Za (by unfold maxLen;omega) Za ?_;intro v2 w2 hown xb;obtain ⟨g2,cap2,rfl, -, -⟩:=hown.form Za;have yK:=HB.out.size;have yH:=xb.size;simp only [ar] at yK yH;have Eb:w2.heap[w.heap.size]?=some (.cells #[iI 0,iI 0] 34 (0,0)):=(xb.block _ Zk Zg).trans ((zac _ _ Zk).trans ((zac _ _ Za).trans ((HB.out.block _ Zg).trans (zab _ _))));have z0:w2.setCell ⟨w.heap.size,0,none⟩ (iI 0)=w2:=eZ Eb rfl;have z1:w2.setCell ⟨w.heap.size,1,none⟩ (iI 0)=w2:=eZ Eb rfl;have d0:=aa Eb;have d1:=ah Eb;have e0:w2.cell? (aB w.heap.size 0)=some (iI 0):=d0 0;have e1:w2.cell? (aB w.heap.size 1)=some (iI 0):=d0 1;have HG:=Zh xb;have xU:=Zh hown;have RZ:=Zh Eb;clear xb hown Eb)))
 (try simp only [Exit.inBlock,Exit.then]);refine zad (by simp [results,Tryz.results22,go_sem,↓IntWalk.iteOmega,e0,e1];try rfl) rfl ?_
 have hO:=xU.out
 have hG:=HG.out
 have hs:=(hO.lt g2 rfl).2
 try simp only [z0,z1]
 have xo:Below w.heap.size w w2:=⟨hG.os.trans HB.out.os,hG.tape.trans HB.out.tape,hG.output.trans HB.out.output,by omega,fun k hk=>(hG.block k Zk Zg).trans ((zac _ _ Zk).trans ((zac _ _ Za).trans ((HB.out.block k Zk).trans (zac _ _ hk))))⟩
 refine ⟨w2.heap.size,rfl,ab xo _,by omega,⟨⟨.slice (aA g2) (l.length+1) cap2,by simpa [pBegin] using zab _ _,?_⟩,by simp [pBegin],fun k hk=>?_,by unfold rng;simp [pBegin],by unfold rng;simp [pBegin],yo.below (ab xo _),by have:=yo.lt;omega⟩⟩
 ·have hl:(l.getLast?.map Tok.line).getD 0=lt.line:=by
   rw [List.getLast?_eq_getElem?,xe]
   rfl
  have Aq: ∀k∈l++[⟨(⟨#[]⟩:qB),lt.line⟩],TkFine k:=by
   intro k hk
   rcases List.mem_append.1 hk with h|h
   ·exact HF.out k h
   ·simp only [List.mem_singleton] at h
    subst h
    exact ⟨fun h=>by simp [digits,head?] at h,(HF.out lt (zat xe)).2.1,zaB _⟩
  have e1:(l++[(⟨(⟨#[]⟩:qB),lt.line⟩:Tok)]).flatMap tkC=l.flatMap tkC++[.string ⟨#[]⟩,iI lt.line]:=by simp [tkC]
  have e2:(l++[(⟨(⟨#[]⟩:qB),lt.line⟩:Tok)]).length=l.length+1:=by simp
  rw [<-e1,<-e2] at hO
  have hr:=py hO Aq
  rw [e2] at hr
  unfold pBegin
  rw [hl]
  exact hr.keep Zg (fun b hb hl=>⟨hb.2,zac _ _ hl⟩) (fun _ _ _ h=>h)
 ·simp only [pBegin] at hk
  rcases List.mem_append.1 hk with h|h
  ·exact (HF.out k h).1
  ·simp only [List.mem_singleton] at h
   subst h
   exact fun h=>by simp [digits,head?] at h
end Go.Proofs.YtjmfoeajhiimnaaGreatDoor
