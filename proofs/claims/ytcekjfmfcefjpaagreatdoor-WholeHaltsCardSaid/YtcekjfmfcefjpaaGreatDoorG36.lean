/- Walks. No condition. -/
import Derived.Test.YtcekjfmfcefjpaaGreatDoorG35
set_option maxRecDepth 100000
set_option maxHeartbeats 0
set_option linter.all false
namespace Go.Proofs.YtcekjfmfcefjpaaGreatDoor
open Go.RowKit Go.Sort
section
variable{w0 W W':qW}{M a b c:Nat}{vv wv:qV}{s:LS}{vs:List VarD}{gl:List GlD}
theorem kt(hL:LoB w0 vv wv vs gl)(w:qW)(h:Mk w0 M a b c vv wv w s)(var:qB)(g:GlD)(hg:gl.find? (fun g=>eqB g.name var)=some g)(pa:Option Addr)(pc:Nat):
  qC 257 #[pP M,.agg #[.string var,.slice pa 0 pc]] w fun e w'=> ∃al:Int,Gives w (.agg #[iI g.at_,iI g.len,iI 0,.bool false,iI 0,iI 0,iI (-1),iI al]) e w':=by
 obtain ⟨i,x,hx,ED,he,xV⟩:=qX hL.nm hg
 have xb:=hL.at_ g (zat ED)
 have A6:VrsIn w vv vs:=hL.vr.below h.bl
 obtain ⟨ov,sv,lv,i',pi⟩:=h.rules
 have j':=h.bd
 have HI:=Zh (fun K W (hW:Below w.heap.size w W) hK xW=>ybB vv vs var x i hx he xV K W (A6.below hW) hK xW)
 obtain ⟨va,vc,rfl, -,Ie⟩:=hL.vr
 have Fd:=(List.getElem?_eq_some_iff.1 hx).1
 have xY:=(List.getElem?_eq_some_iff.1 ED).1
 obtain ⟨vb,vo,rfl,hvb,Ie⟩:=Ie Za
 obtain ⟨k,z, -, -, -, -,c1,c2,c3,c4,c5,c6⟩:=Ie i x hx
 obtain ⟨ga,gc,rfl, -, -,yQ⟩:=hL.gr
 obtain ⟨gb,go,rfl, -,CJ,yQ⟩:=yQ Za
 obtain ⟨cs, -,rfl,Ff⟩:=yQ i g ED
 have g1:w0.cell? ⟨gb,go+i*3+1,none⟩=some (iI g.at_):=Ff 1 _ rfl
 have g2:w0.cell? ⟨gb,go+i*3+2,none⟩=some (iI g.len):=Ff 2 _ rfl
 clear Ff yQ Ie hx ED he xV hg A6 hL h
 go_enter Tryz.func257,Tryz.ntmps257
 go_wp2_with (first
  |(go_at_call 142;refine (HI.out _ _ Zv (by simp [go_sem,↓IntWalk.iteOmega]) ZG).mono ?_;rintro e w1 ⟨rfl,p,rfl⟩))
 refine zao 1 ?_
 rw [zap]
 go_wp2_with fail
 refine aT (R:=fun W=>Below w.heap.size w W/\W.heap[w.heap.size+1+1+p.os.size+1]?=some (.cells #[iI g.at_,iI g.len,iI 0,.bool false,iI 0,iI 0,iI (-1),iI 16] 388 (0,0))/\W.heap[w.heap.size+1]?=some (.cells #[iI 0,iI 0,iI 0,.bool false,iI 0,iI 0,iI 0,iI 0] 388 (0,0))) ⟨Zv,aI ZG,?_⟩ ?_
 ·rw [zac _ _ ZO,zac _ _ ZO,cd _ _ _ (by simp;try omega)]
  exact aI Zi
 rintro W ⟨hB,h7,h4⟩
 obtain ⟨V,hV,yw⟩: ∃V,W=putB (putB V (w.heap.size+1+1+p.os.size+1) #[iI g.at_,iI g.len,iI 0,.bool false,iI 0,iI 0,iI (-1),iI 16] 388) (w.heap.size+1) #[iI 0,iI 0,iI 0,.bool false,iI 0,iI 0,iI 0,iI 0] 388/\Below w.heap.size w V:=⟨W,by rw [bz h7,bz h4],hB⟩
 have E8:=ac h7
 clear h7 h4 hB i' pi
 subst hV
 simp only [aO] at E8
 have hs8:w.heap.size+1+1+p.os.size+1<V.drew.heap.size:=E8
 have hA:(putB (putB V (w.heap.size+1+1+p.os.size+1) #[iI g.at_,iI g.len,iI 0,.bool false,iI 0,iI 0,iI (-1),iI 16] 388) (w.heap.size+1) #[iI 0,iI 0,iI 0,.bool false,iI 0,iI 0,iI 0,iI 0] 388).drew.cell? ⟨w.heap.size+1+1+p.os.size+1,0,none⟩=some (iI g.at_):=by simp [go_sem,↓IntWalk.iteOmega]
 have hB:(putB (putB V (w.heap.size+1+1+p.os.size+1) #[iI g.at_,iI g.len,iI 0,.bool false,iI 0,iI 0,iI (-1),iI 16] 388) (w.heap.size+1) #[iI 0,iI 0,iI 0,.bool false,iI 0,iI 0,iI 0,iI 0] 388).drew.cell? ⟨w.heap.size+1+1+p.os.size+1,7,none⟩=some (iI 16):=by simp [go_sem,↓IntWalk.iteOmega]
 refine ae (fun W=>W.cell? ⟨w.heap.size+1+1+p.os.size+1,0,none⟩=some (iI g.at_)) (fun W=>W.cell? ⟨w.heap.size+1+1+p.os.size+1,7,none⟩=some (iI 16)) 9 rfl ?_
 refine Zp 0 rfl (h:=Zl 1 [7,9] rfl (h:=Zp 2 rfl (h:=Zp 3 rfl (h:=Zp 4 rfl (h:=Zt 5 rfl (h:=?_))))));try simp only [Zq]
 refine Zs 6 rfl fun K hK=>?_
 go_simp
 go_at_call 285
 refine (wR _ _).mono ?_
 rintro e w1 ⟨r,rfl,yh,yx,u'⟩
 subst u'
 refine hK _ _ ⟨?_,fun _=>?_⟩ ?_
 ·simp [go_sem,↓IntWalk.iteOmega]
 ·simp [go_sem,↓IntWalk.iteOmega]
 refine Zp 7 rfl (h:=Zp 8 rfl (h:=?_));try simp only [Zq]
 refine Zs 9 rfl fun K hK=>?_
 go_simp
 try simp [go_sem,↓IntWalk.iteOmega]
 refine hK _ _ ⟨?_,fun hh=>Bool.noConfusion (hh.symm.trans (show _=true by kernel_rfl))⟩ ?_
 ·simp [go_sem,↓IntWalk.iteOmega]
 refine af Zb ?_ _
 clear hA hB hK K
 go_wp2_with fail
 (try simp only [Exit.inBlock,Exit.then]);refine zad (by simp [results,Tryz.results257,go_sem,↓IntWalk.iteOmega];try rfl) rfl ?_
 exact ⟨_,Gives.mk rfl (eH (eH (fG yw) Za _ _) Za _ _)⟩
theorem iH(w:qW)(h:Mk w0 M a b c vv wv w s)(A:Nat)(len al:Int)(hA:A<=1000000)(hf:LFin (lNumber A s).2):
  qC 258 #[pP M,.agg #[iI A,iI len,iI 0,.bool false,iI 0,iI 0,iI (-1),iI al]] w (MkD w0 M a b c vv wv w (lNumber A s).2 (iI (lNumber A s).1)):=by
 obtain ⟨ov,sv,lv,i',pi⟩:=h.rules
 have j':=h.bd
 have xX:=j'
 have HM:=Zh (MkA.begin h)
 have u':IntKind.u64.wrap (A:Int)=A:=IntWalk.u64_in _ Za
 clear h
 go_enter Tryz.func258,Tryz.ntmps258
 go_wp2_with (first
  |(go_at_call 251;refine (kX _ (Zj:MkA _ _ _ _ _ _ _ w _ _ _ _ _).mkr A hf).mono ?_;intro e w1 hD;have hN:=MkA.nx hD Zj;clear hD HM;(try clear i' pi);obtain ⟨rfl,a1,b1,c1,ov,sv,lv,i',pi,j',HM,hm,hT,hrel⟩:=hN;(try simp only [Zz] at hrel hm);(repeat ((first|((first|(with_reducible obtain ⟨hx,hy,wV,hT⟩:=ak (lo:=w.heap.size) hT Zo hrel Zc Zf)|(with_reducible obtain ⟨hx,hy,wV,hT⟩:=aj (lo:=w.heap.size) hT Zx hrel Zc Zf));(try simp only [Zz] at hx hy wV);rw [hx];clear hx)|(with_reducible replace hT:=hT.unmo)|(with_reducible replace hT:=hT.undr))));clear hT hrel))
 go_ret
 exact ZP
end
theorem jy:(Tryz.prog.info? 38).map (fun i=>(i.zero,i.size,i.bytes))=some (some (.agg #[iI 0,iI 0]),2,16):=by kernel_rfl
theorem qT(a l:Int)(h0:0<=a)(h1:a<=1000000)(h2:1<=l)(h3:l<=16)(w:qW):qC 127 #[.agg #[iI a,iI l]] w (Gives w (.bool true)):=by
 go_enter Tryz.func127,Tryz.ntmps127
 go_wp2
 go_ret
 exact Gives.mk Zk Zv
def OneS(w:qW)(a l:Int)(e:Ending)(w':qW):Prop:= ∃g c,e= .returned (.slice (aA g) 1 c)/\Below w.heap.size w w'/\w.heap.size<=g/\g<w'.heap.size/\w'.cell? (aB g 0)=some (iI a)/\w'.cell? (aB g 1)=some (iI l)
theorem tV(a l:Int)(h0:0<=a)(h1:a<=1000000)(hl:l=1\/l=2\/l=4\/l=8)(hm:a.tmod l=0)(w:qW):qC 295 #[.agg #[iI a,iI l]] w (OneS w a l):=by
 have HS:=Zh (fun W=>qT a l h0 h1 Za Za W)
 obtain ⟨i0,xz,xq,xm,xk⟩:=zan jy
 rcases hl with rfl|rfl|rfl|rfl
 ·go_enter Tryz.func295,Tryz.ntmps295
  go_wp2_with (first
   |(go_at_call 127;refine (HS.out _).mono ?_;rintro e w1 ⟨rfl,p,rfl⟩))
  refine zao 2 ?_
  rw [zap]
  go_wp2_with fail
  refine zao 4 ?_
  iterate 3 (rw [zap];go_wp2_with fail)
  rw [zap]
  go_wp2_with (at_builtin;refine bL _ _ 415 38 i0 _ 2 16 Tryz.underlying415 xz xq xm xk rfl Zg rfl rfl w.heap.size _ 0 [] (zaX _ _ _ _) _ _ _ (0,0) (by exact aI ZG) rfl rfl (by rfl) ZL Za Za ZR ?_;intro g cap w2 hown wW xb xy;have hG:=cR xb;simp only [au,aZ] at hG;have k0:=hown.cells (g:=g) rfl 0 _ rfl;have k1:=hown.cells (g:=g) rfl 1 _ rfl;simp only [Addr.add,zag] at k0 k1;have zs:=Zh wW;have Az: ∀i,w2.cell? (aB w.heap.size i)=_:=fun i=>World.cell?_of_block (a:=⟨w.heap.size,i,none⟩) (wW.block w.heap.size ZO (by simp [Value.ownBlock]));have EE: ∀i,w2.frozen? (aB w.heap.size i)=_:=fun i=>World.frozen?_of_block (a:=⟨w.heap.size,i,none⟩) (wW.block w.heap.size ZO (by simp [Value.ownBlock]));simp [go_sem,↓IntWalk.iteOmega] at Az EE;clear hown wW xb)
  rw [zap]
  go_wp2_with fail
  go_ret
  have yz:=(Zv:Below w.heap.size w _).grown zs.out ZO (fun g hg=>by simp [Value.ownBlock] at hg)
  refine ⟨g,cap,rfl,(yz.setCell (zaq _) _).setCell (zaq _) _,by omega,by simpa using xy,?_,?_⟩
  ·rw [zaH _ _ _ _ (fun e=>by have:=congrArg Addr.block e;simp only at this;omega),zaH _ _ _ _ (fun e=>by have:=congrArg Addr.block e;simp only at this;omega)]
   exact k0
  ·rw [zaH _ _ _ _ (fun e=>by have:=congrArg Addr.block e;simp only at this;omega),zaH _ _ _ _ (fun e=>by have:=congrArg Addr.block e;simp only at this;omega)]
   exact k1
 ·go_enter Tryz.func295,Tryz.ntmps295
  go_wp2_with (first
   |(go_at_call 127;refine (HS.out _).mono ?_;rintro e w1 ⟨rfl,p,rfl⟩))
  refine zao 2 ?_
  rw [zap]
  go_wp2_with fail
  refine zao 3 ?_
  iterate 2 (rw [zap];go_wp2_with fail)
  rw [zap]
  go_wp2_with (at_builtin;refine bL _ _ 415 38 i0 _ 2 16 Tryz.underlying415 xz xq xm xk rfl Zg rfl rfl w.heap.size _ 0 [] (zaX _ _ _ _) _ _ _ (0,0) (by exact aI ZG) rfl rfl (by rfl) ZL Za Za ZR ?_;intro g cap w2 hown wW xb xy;have hG:=cR xb;simp only [au,aZ] at hG;have k0:=hown.cells (g:=g) rfl 0 _ rfl;have k1:=hown.cells (g:=g) rfl 1 _ rfl;simp only [Addr.add,zag] at k0 k1;have zs:=Zh wW;have Az: ∀i,w2.cell? (aB w.heap.size i)=_:=fun i=>World.cell?_of_block (a:=⟨w.heap.size,i,none⟩) (wW.block w.heap.size ZO (by simp [Value.ownBlock]));have EE: ∀i,w2.frozen? (aB w.heap.size i)=_:=fun i=>World.frozen?_of_block (a:=⟨w.heap.size,i,none⟩) (wW.block w.heap.size ZO (by simp [Value.ownBlock]));simp [go_sem,↓IntWalk.iteOmega] at Az EE;clear hown wW xb)
  rw [zap]
  go_wp2_with fail
  go_ret
  have yz:=(Zv:Below w.heap.size w _).grown zs.out ZO (fun g hg=>by simp [Value.ownBlock] at hg)
  refine ⟨g,cap,rfl,(yz.setCell (zaq _) _).setCell (zaq _) _,by omega,by simpa using xy,?_,?_⟩
  ·rw [zaH _ _ _ _ (fun e=>by have:=congrArg Addr.block e;simp only at this;omega),zaH _ _ _ _ (fun e=>by have:=congrArg Addr.block e;simp only at this;omega)]
   exact k0
  ·rw [zaH _ _ _ _ (fun e=>by have:=congrArg Addr.block e;simp only at this;omega),zaH _ _ _ _ (fun e=>by have:=congrArg Addr.block e;simp only at this;omega)]
   exact k1
 ·go_enter Tryz.func295,Tryz.ntmps295
  go_wp2_with (first
   |(go_at_call 127;refine (HS.out _).mono ?_;rintro e w1 ⟨rfl,p,rfl⟩))
  refine zao 2 ?_
  rw [zap]
  go_wp2_with fail
  refine zao 2 ?_
  iterate 1 (rw [zap];go_wp2_with fail)
  rw [zap]
  go_wp2_with (at_builtin;refine bL _ _ 415 38 i0 _ 2 16 Tryz.underlying415 xz xq xm xk rfl Zg rfl rfl w.heap.size _ 0 [] (zaX _ _ _ _) _ _ _ (0,0) (by exact aI ZG) rfl rfl (by rfl) ZL Za Za ZR ?_;intro g cap w2 hown wW xb xy;have hG:=cR xb;simp only [au,aZ] at hG;have k0:=hown.cells (g:=g) rfl 0 _ rfl;have k1:=hown.cells (g:=g) rfl 1 _ rfl;simp only [Addr.add,zag] at k0 k1;have zs:=Zh wW;have Az: ∀i,w2.cell? (aB w.heap.size i)=_:=fun i=>World.cell?_of_block (a:=⟨w.heap.size,i,none⟩) (wW.block w.heap.size ZO (by simp [Value.ownBlock]));have EE: ∀i,w2.frozen? (aB w.heap.size i)=_:=fun i=>World.frozen?_of_block (a:=⟨w.heap.size,i,none⟩) (wW.block w.heap.size ZO (by simp [Value.ownBlock]));simp [go_sem,↓IntWalk.iteOmega] at Az EE;clear hown wW xb)
  rw [zap]
  go_wp2_with fail
  go_ret
  have yz:=(Zv:Below w.heap.size w _).grown zs.out ZO (fun g hg=>by simp [Value.ownBlock] at hg)
  refine ⟨g,cap,rfl,(yz.setCell (zaq _) _).setCell (zaq _) _,by omega,by simpa using xy,?_,?_⟩
  ·rw [zaH _ _ _ _ (fun e=>by have:=congrArg Addr.block e;simp only at this;omega),zaH _ _ _ _ (fun e=>by have:=congrArg Addr.block e;simp only at this;omega)]
   exact k0
  ·rw [zaH _ _ _ _ (fun e=>by have:=congrArg Addr.block e;simp only at this;omega),zaH _ _ _ _ (fun e=>by have:=congrArg Addr.block e;simp only at this;omega)]
   exact k1
 ·go_enter Tryz.func295,Tryz.ntmps295
  go_wp2_with (first
   |(go_at_call 127;refine (HS.out _).mono ?_;rintro e w1 ⟨rfl,p,rfl⟩))
  refine zao 2 ?_
  rw [zap]
  go_wp2_with fail
  refine zao 1 ?_
  rw [zap]
  go_wp2_with (at_builtin;refine bL _ _ 415 38 i0 _ 2 16 Tryz.underlying415 xz xq xm xk rfl Zg rfl rfl w.heap.size _ 0 [] (zaX _ _ _ _) _ _ _ (0,0) (by exact aI ZG) rfl rfl (by rfl) ZL Za Za ZR ?_;intro g cap w2 hown wW xb xy;have hG:=cR xb;simp only [au,aZ] at hG;have k0:=hown.cells (g:=g) rfl 0 _ rfl;have k1:=hown.cells (g:=g) rfl 1 _ rfl;simp only [Addr.add,zag] at k0 k1;have zs:=Zh wW;have Az: ∀i,w2.cell? (aB w.heap.size i)=_:=fun i=>World.cell?_of_block (a:=⟨w.heap.size,i,none⟩) (wW.block w.heap.size ZO (by simp [Value.ownBlock]));have EE: ∀i,w2.frozen? (aB w.heap.size i)=_:=fun i=>World.frozen?_of_block (a:=⟨w.heap.size,i,none⟩) (wW.block w.heap.size ZO (by simp [Value.ownBlock]));simp [go_sem,↓IntWalk.iteOmega] at Az EE;clear hown wW xb)
  rw [zap]
  go_wp2_with fail
  go_ret
  have yz:=(Zv:Below w.heap.size w _).grown zs.out ZO (fun g hg=>by simp [Value.ownBlock] at hg)
  refine ⟨g,cap,rfl,(yz.setCell (zaq _) _).setCell (zaq _) _,by omega,by simpa using xy,?_,?_⟩
  ·rw [zaH _ _ _ _ (fun e=>by have:=congrArg Addr.block e;simp only at this;omega),zaH _ _ _ _ (fun e=>by have:=congrArg Addr.block e;simp only at this;omega)]
   exact k0
  ·rw [zaH _ _ _ _ (fun e=>by have:=congrArg Addr.block e;simp only at this;omega),zaH _ _ _ _ (fun e=>by have:=congrArg Addr.block e;simp only at this;omega)]
   exact k1
theorem spieces(a l al:Int)(h0:0<=a)(h1:a<=1000000)(hl:l=1\/l=2\/l=4\/l=8)(hm:a.tmod l=0)(w:qW):qC 286 #[.agg #[iI a,iI l,iI 0,.bool false,iI 0,iI 0,iI (-1),iI al]] w (OneS w 0 l):=by
 have HP:=Zh (fun W=>tV a l h0 h1 hl hm W)
 obtain ⟨i0,xz,xq,xm,xk⟩:=zan jy
 clear hm
 go_enter Tryz.func286,Tryz.ntmps286
 go_wp2_with (first
  |(go_at_call 295;refine (HP.out _).mono ?_;rintro e w1 ⟨g,c,rfl,hB,xn,Am,k0,k1⟩;have Az:=fun i=>hB.cell (p:=⟨w.heap.size,i,none⟩) Zi;have yK:=hB.size;simp [go_sem,↓IntWalk.iteOmega] at Az yK xn;have HB:=Zh hB;clear hB))
 refine zao 2 ?_
 rw [zap]
 go_wp2_with (at_builtin;refine bL _ _ 415 38 i0 _ 2 16 Tryz.underlying415 xz xq xm xk rfl Zg rfl rfl w.heap.size _ 0 [] (zaX _ _ _ _) _ _ _ (0,0) (by exact aI ZG) rfl rfl (by rfl) ZL Za Za ZR ?_;intro g3 cap w2 hown wW xb xy;have hG:=cR xb;simp only [au,aZ] at hG;have q0:=hown.cells (g:=g3) rfl 0 _ rfl;have q1:=hown.cells (g:=g3) rfl 1 _ rfl;simp only [Addr.add,zag] at q0 q1;have zs:=Zh wW;clear hown wW xb)
 rw [zap]
 go_wp2_with fail
 go_ret
 have yz:=ab (ar (ab (zaa w.heap.size w) _) HB.out Zi) (.cells #[iI a,iI l] 38)
 have J9:=(ab yz (.cells #[iI 0,iI l] 38)).grown zs.out ZO (fun g hg=>by simp [Value.ownBlock] at hg)
 exact ⟨g3,cap,rfl,J9,by omega,by omega,q0,q1⟩
theorem yfn:(Tryz.prog.info? 395).map (fun i=>(i.zero,i.size,i.bytes))=some (some (.agg #[iI 0,iI 0,iI 0,.string ⟨#[]⟩,.slice none 0 0]),5,64):=by kernel_rfl
section
variable{w0 W W':qW}{M a b c:Nat}{vv wv:qV}{s:LS}
theorem Mk.app1{ov sv lv:qV}{xs:List qV}{ob:Obj}{w2:qW}{g cap:Nat}{k o:Int}{var:qB}{parts:List PartD}{cs:List qV}(h:Mk w0 M a b c vv wv W s)(ho:Ob M 231 (mkC vv wv ov sv lv s) (mkR s xs) W)(ea:ownN M ov=a)(eb:ownN M sv=b)(ec:ownN M lv=c)(hf:LFin (lSite k o var parts s).2)
  (wW:(W.drew.alloc ob).grownBy w2 sv.ownBlock) (hown:w2.ownsRow (M+1) 395 5 (.slice (aA g) (s.sites.length+1) cap) (s.sites.length+1) (xs++cs)) (xb:sv.ownBlock=some g\/g=(W.drew.alloc ob).heap.size) {r:qV}:
  MkD w0 M a b c vv wv W (lSite k o var parts s).2 r (.returned r) (w2.setCell ⟨M,5,none⟩ (.slice (aA g) (s.sites.length+1) cap)):=by
 subst ea eb ec
 have wT:Kp (fun k=>sv.ownBlock=some k) (W.drew.alloc ob) w2:=(Kp.of_grown wW).mono (fun k _ e=>e.symm)
 have yd:Kp (fun k=>sv.ownBlock=some k) W w2:=((Kp.dr W).trans (Kp.al _ ob)).trans wT
 have hg: ∀k,(Value.slice (aA g) (s.sites.length+1) cap).ownBlock=some k->(fld (mkC vv wv ov sv lv s) 5).ownBlock=some k\/W.heap.size<=k:=fun k hk=>by
  obtain rfl:g=k:=by simpa [Value.ownBlock] using hk
  rcases xb with e|e
  ·exact .inl e
  ·right
   simp only [Zz] at e
   omega
 obtain ⟨p1,p2,p3⟩:=ho.put (r:=⟨5,395,5,s.sites.length,xs⟩) (by simp [mkR]) (by simp [mkC]) yd hown hg
 have xh:Kp (fun k=>k=M\/k=ownN M ov\/k=ownN M sv\/k=ownN M lv) W (w2.setCell ⟨M,5,none⟩ (.slice (aA g) (s.sites.length+1) cap)):=p2.mono (fun k _ hk=>by
  rcases de.1 hk with e|e|e|e
  ·exact .inl e
  ·exact .inr (.inl (be e))
  ·exact .inr (.inr (.inl (be e)))
  ·exact .inr (.inr (.inr (be e))))
 have j':=h.bd
 have hb:=h.bl
 refine ⟨rfl,_,g,_,⟨⟨ov,.slice (aA g) (s.sites.length+1) cap,lv,xs++cs,?_,rfl,by simp [ownN,Value.ownBlock],rfl⟩,?_,h.le,h.nums.site k o var parts hf⟩,xh,.inl rfl,?_,.inl rfl⟩
 ·have e1:(mkC vv wv ov sv lv s).setIfInBounds 5 (.slice (aA g) (s.sites.length+1) cap)=mkC vv wv ov (.slice (aA g) (s.sites.length+1) cap) lv (lSite k o var parts s).2:=rfl
  have e2:(mkR s xs).map (fun q=>if q.ix=5 then {q with n:=s.sites.length+1,xs:=xs++cs} else q)=mkR (lSite k o var parts s).2 (xs++cs):=by
   simp [mkR,lSite]
  rw [e1,e2] at p1
  exact p1
 ·exact ⟨xh.os.trans hb.os,xh.tape.trans hb.tape,xh.output.trans hb.output,zal hb.size xh.size,fun k hk=>(xh.block k (by have:=hb.size;omega) Za).trans (hb.block k hk)⟩
 ·rcases xb with e|e
  ·exact .inl (be e)
  ·right
   simp only [Zz] at e
   omega
theorem eR(w:qW)(h:Mk w0 M a b c vv wv w s)(k o:Int)(var:qB)(parts:List PartD)(pa:Option Addr)(pc:Nat)(hf:LFin (lSite k o var parts s).2):qC 209 #[pP M,iI k,iI o,.agg #[.string var,.slice pa parts.length pc]] w (MkD w0 M a b c vv wv w (lSite k o var parts s).2 (iI (lSite k o var parts s).1)):=by
 obtain ⟨ov,sv,lv,i',pi⟩:=h.rules
 have j':=h.bd
 have HM:=Zh h
 obtain ⟨i0,xz,xq,xm,xk⟩:=zan yfn
 clear h
 go_enter Tryz.func209,Tryz.ntmps209
 go_wp2_with fail
 refine aT (R:=fun W=>Mk w0 M a b c vv wv W s/\W.heap[w.heap.size]?=some (.cells #[.string var,.slice pa parts.length pc] 158 (0,0))/\Kp (fun _=>False) w W) ⟨HM.out.alloc _,zab _ _,Kp.al _ _⟩ ?_
 have xX:=j'
 clear i' pi j'
 rintro W ⟨hM,hK,y7⟩
 obtain ⟨ov,sv,lv,xs,ho,ea,eb,ec⟩:=hM.ob
 have yG:=ho.own ⟨5,395,5,s.sites.length,xs⟩ (by simp [mkR])
 have q1: ∀i,W.cell? (aB M i)=(#[vv,wv,ov,iI s.regs,iI s.labels,sv,iI s.line,lv]:Array qV)[i]?:=aa ho.out
 have qf:=ai ho.out
 have qk: ∀i,W.cell? (aB w.heap.size i)=(#[.string var,.slice pa parts.length pc]:Array qV)[i]?:=aa hK
 have j':=hM.bd
 have xW:=ac hK
 have HW:=Zh hM
 have HO:=Zh ho
 have xu:=Zh yG
 have yI:=Zh y7
 clear hM hK ho yG y7
 have hA:(∀i,W.drew.cell? (aB w.heap.size i)=(#[.string var,.slice pa parts.length pc]:Array qV)[i]?)/\W.drew.cell? (aB M 6)=some (iI s.line):=⟨qk,q1 6⟩
 have hB:W.drew.cell? (aB M 5)=some sv:=q1 5
 refine ae (fun W=>(∀i,W.cell? (aB w.heap.size i)=(#[.string var,.slice pa parts.length pc]:Array qV)[i]?)/\W.cell? (aB M 6)=some (iI s.line)) (fun W=>W.cell? (aB M 5)=some sv) 17 rfl ?_
 refine Zp 0 rfl (h:=Zp 1 rfl (h:=Zp 2 rfl (h:=Zp 3 rfl (h:=Zl 4 [14,17] rfl (h:=Zp 5 rfl (h:=Zp 6 rfl (h:=Zp 7 rfl (h:=Zp 8 rfl (h:=Zp 9 rfl (h:=Zt 10 rfl (h:=Zt 11 rfl (h:=Zp 12 rfl (h:=?_)))))))))))));try simp only [Zq]
 refine Zs 13 rfl fun K hK=>?_
 go_simp
 refine hK _ _ ⟨⟨fun i=>(an xW).trans (qk i),(an j'.2.1).trans (q1 6)⟩,fun _=>(an j'.2.1).trans (q1 5)⟩ ?_
 have xS:=hf.sites
 simp only [lSite,zaO,za2,zaV] at xS
 refine Zs 14 rfl fun K hK=>?_
 refine a8 (.tmp 13) (.tmp 22) 228 395 i0 _ 5 64 Tryz.underlying228 xz xq xm xk rfl Zg rfl rfl (M+1) sv s.sites.length xs (aw xu.out (fun g hg=>zac _ _ (xu.out.lt g hg).2)) W.heap.size #[iI k,iI o,iI s.line,.string var,.slice pa parts.length pc] 395 (0,0) (zab _ _) ZB ZB rfl ZL Za Za Zc ?_
 intro g2 cap2 w2 hown wW xb xy
 have hD:=Zh (HW.out.app1 (r:=iI (lSite k o var parts s).1) HO.out ea eb ec hf wW hown xb)
 have wT:Kp (fun k=>sv.ownBlock=some k) (W.drew.alloc _) w2:=(Kp.of_grown wW).mono (fun k _ e=>e.symm)
 have kx: ∀i,w2.cell? (aB w.heap.size i)=(#[.string var,.slice pa parts.length pc]:Array qV)[i]?:=fun i=>((wT.cell Zc (fun e=>by have:=be (M:=M) e;omega)).trans (an xW)).trans (qk i)
 have kc: ∀i,w2.cell? (aB M i)=(#[vv,wv,ov,iI s.regs,iI s.labels,sv,iI s.line,lv]:Array qV)[i]?:=fun i=>((wT.cell Zc (fun e=>by have:=(xu.out.lt _ e).1;omega)).trans (an j'.2.1)).trans (q1 i)
 have kf: ∀i,w2.frozen? (aB M i)=false:=ai ((wT.block M Zc (fun e=>by have:=(xu.out.lt _ e).1;omega)).trans ((zac _ _ j'.2.1).trans HO.out.out))
 clear hown wW xb wT
 refine hK _ _ ⟨⟨kx,kc 6⟩,fun _=>kc 5⟩ ?_
 clear hK K hA hB
 have hA:(∀i,w2.cell? (aB w.heap.size i)=(#[.string var,.slice pa parts.length pc]:Array qV)[i]?)/\w2.cell? (aB M 6)=some (iI s.line):=⟨kx,kc 6⟩
 have hB:w2.cell? (aB M 5)=some sv:=kc 5
 refine Zp 15 rfl (h:=Zp 16 rfl (h:=?_));try simp only [Zq]
 refine Zs 17 rfl fun K hK=>?_
 go_simp
 refine hK _ _ ⟨⟨?_,?_⟩,fun hh=>Bool.noConfusion (hh.symm.trans (show _=true by kernel_rfl))⟩ ?_
 ·intro i
  exact (zaH _ _ _ _ (fun e=>by have:=congrArg Addr.block e;simp only at this;omega)).trans (kx i)
 ·exact (zaH _ _ _ _ (fun e=>by have:=congrArg Addr.off e;simp at this)).trans (kc 6)
 refine af Zb ?_ _
 clear hK K hA hB
 have xC:(w2.setCell ⟨M,5,none⟩ (.slice (aA g2) (s.sites.length+1) cap2)).cell? (aB M 5)=some (.slice (aA g2) (s.sites.length+1) cap2):=zaF _ _ _ (kc 5)
 go_wp2_with fail
 go_ret
 have hd:=hD.out.left yI.out
 simpa [lSite] using hd
end
theorem OneS.more{w w':qW}{a l:Int}{e:Ending}(h:OneS w a l e w'): ∃g c p,e= .returned (.slice (aA g) 1 c)/\w'=more w p/\w.heap.size<=g/\g<w.heap.size+p.os.size/\moreCell w p ⟨g,0,none⟩=some (iI a)/\moreCell w p ⟨g,1,none⟩=some (iI l):=by
 obtain ⟨g,c,rfl,hb,h1,h2,h3,h4⟩:=h
 obtain ⟨p,rfl⟩:=bu hb
 exact ⟨g,c,p,rfl,rfl,h1,by simpa [go_sem] using h2,h3,h4⟩
section
variable{w0 W W':qW}{M a b c:Nat}{vv wv:qV}{s:LS}
theorem oQ(w:qW)(op x:Int)(yj:op=7\/op=8):qC 260 #[pP M,iI op,iI x,.int .u64 0] w fun e w'=>e= .returned (iI x)/\w'=w:=by
 rcases yj with rfl|rfl
 all_goals
  go_enter Tryz.func260,Tryz.ntmps260
  go_wp2
  go_ret
  exact ⟨rfl,rfl⟩
theorem pH(w:qW)(h:Mk w0 M a b c vv wv w s)(A:Nat)(l al at_ x site:Int)(A5:A<=1000000)(hl:l=1\/l=2\/l=4\/l=8)(hm:(A:Int).tmod l=0)
  (hf:LFin (lAdd {kind:=5,a:=at_,n:=0,size:=l,site:=site,b:=x} s)):
  qC 262 #[pP M,.agg #[iI A,iI l,iI 0,.bool false,iI 0,iI 0,iI (-1),iI al],iI at_,iI x,iI site] w
   (MkD w0 M a b c vv wv w (lAdd {kind:=5,a:=at_,n:=0,size:=l,site:=site,b:=x} s) (.tuple #[])):=by
 obtain ⟨ov,sv,lv,i',pi⟩:=h.rules
 have j':=h.bd
 have xX:=j'
 have HM:=Zh (MkA.begin h)
 have Db:=h.nums.regs
 have yS:IntKind.u64.wrap 0=0:=rfl
 have HP:=Zh (fun W=>spieces A l al Za Za hl hm W)
 clear h hm
 go_enter Tryz.func262,Tryz.ntmps262
 go_wp2_with (first
  |(go_at_call 286;refine (HP.out _).mono ?_;intro e w1 h1;obtain ⟨g,pc,p1,rfl,rfl,xn,Am,k0,k1⟩:=h1.more;clear h1;(try simp only [au,aZ] at xn Am)))
 refine zao 2 ?_
 rw [zap]
 go_wp2_with (first
  |(go_at_call 208;refine (cn _ _).mono ?_;rintro e w1 ⟨rfl,p,rfl⟩))
 generalize hK1:w.heap.size+1+p1.os.size=K1 at*
 generalize D8:K1+1+p.os.size=K2 at*
 refine aT (R:=fun W=>MkA w0 M a b c vv wv w W a b c s/\W.heap[K1]?=some (.cells #[iI 0,iI l] 38 (0,0))/\W.heap[K2]?=some (.cells #[iI 5,iI (-1),iI (-1),iI (-1),iI (-1),iI (-1),.int .u64 0,iI 0,iI 0,iI 0,iI 0,iI 0,iI 0] 250 (0,0))) ⟨Zj,?_,aI ZR⟩ ?_
 ·rw [zac _ _ ZR,cd _ _ _ ZR]
  exact aI ZR
 clear i' pi
 rintro W ⟨hM,h1,h2⟩
 obtain ⟨V,hV,hM⟩: ∃V,W=putB (putB V K1 #[iI 0,iI l] 38) K2 #[iI 5,iI (-1),iI (-1),iI (-1),iI (-1),iI (-1),.int .u64 0,iI 0,iI 0,iI 0,iI 0,iI 0,iI 0] 250/\MkA w0 M a b c vv wv w V a b c s:=⟨W,by rw [bz h1,bz h2],hM⟩
 have yB:=ac h2
 clear h1 h2
 subst hV
 simp only [aO] at yB
 have DJ:K2<V.drew.heap.size:=yB
 obtain ⟨ov,sv,lv,i',pi⟩:=hM.mkr.rules
 have j':=hM.mkr.bd
 replace HM:=Zh hM
 clear hM
 refine ae (fun W=> ∀i,W.cell? (aB K1 i)=(#[iI 0,iI l]:Array qV)[i]?) (fun W=>True) 14 rfl ?_
 refine Zp 0 rfl (h:=Zp 1 rfl (h:=Zt 2 rfl (h:=Zp 3 rfl (h:=Zp 4 rfl (h:=Zt 5 rfl (h:=Zp 6 rfl (h:=Zp 7 rfl (h:=?_))))))));try simp only [Zq]
 refine Zs 8 rfl fun K hK=>?_
 go_simp
 try simp [go_sem,↓IntWalk.iteOmega]
 refine hK _ _ Zw ?_
 clear hK K
 refine Zp 9 rfl (h:=?_);try simp only [Zq]
 refine Zs 10 rfl fun K hK=>?_
 go_simp
 try simp [go_sem,↓IntWalk.iteOmega]
 refine hK _ _ Zw ?_
 clear hK K
 refine Zp 11 rfl (h:=?_);try simp only [Zq]
 refine Zs 12 rfl fun K hK=>?_
 go_simp
 try simp [go_sem,↓IntWalk.iteOmega]
 refine hK _ _ Zw ?_
 clear hK K
 refine Zp 13 rfl (h:=?_);try simp only [Zq]
 refine Zs 14 rfl fun K hK=>?_
 go_simp
 try simp [go_sem,↓IntWalk.iteOmega]
 refine hK _ _ Zw ?_
 clear hK K
 refine af Zb ?_ _
 go_wp2_with (first
  |(go_at_call 210;refine (cC (s:=s) _ (Zj:MkA _ _ _ _ _ _ _ w _ _ _ _ _).mkr {kind:=5,a:=at_,n:=0,size:=l,site:=site,b:=x} hf).mono ?_;intro e w1 hD;have hN:=MkA.nx hD Zj;clear hD HM;(try clear i' pi);obtain ⟨rfl,a1,b1,c1,ov,sv,lv,i',pi,j',HM,hm,hT,hrel⟩:=hN;(try simp only [Zz] at hrel hm);(repeat ((first|((first|(with_reducible obtain ⟨hx,hy,wV,hT⟩:=ak (lo:=w.heap.size) hT Zo hrel Zc Zf)|(with_reducible obtain ⟨hx,hy,wV,hT⟩:=aj (lo:=w.heap.size) hT Zx hrel Zc Zf));(try simp only [Zz] at hx hy wV);rw [hx];clear hx)|(with_reducible replace hT:=hT.unmo)|(with_reducible replace hT:=hT.undr))));clear hT hrel)
  |(go_at_call 260;refine (oQ _ _ _ (.inr rfl)).mono ?_;rintro e w3 ⟨rfl,I8⟩;replace I8:=I8.symm;subst I8))
 rw [zap]
 go_wp2_with fail
 go_end0
 exact ZP
end
theorem uO{g:GlD}(h:oneP (g.at_,g.len)=true):(g.len=1\/g.len=2\/g.len=4\/g.len=8)/\ ∃A:Nat,g.at_=A/\(A:Int).tmod g.len=0:=by
 unfold oneP at h
 simp only [za0,zak,zau] at h
 obtain ⟨⟨h1,h2⟩,h3⟩:=h
 refine ⟨by omega,g.at_.toNat,by omega,?_⟩
 rw [show ((g.at_.toNat:Nat):Int)=g.at_ by omega,Int.tmod_eq_emod_of_nonneg h2]
 exact h3
section
variable{w0 W W':qW}{M a b c:Nat}{vv wv:qV}{s:LS}{vs:List VarD}{gl:List GlD}
end
theorem drewC(w:qW)(a:Addr):w.drew.cell? a=w.cell? a:=rfl
theorem iy(w:qW):w.drew.heap.size=w.heap.size:=Nat.le_antisymm (zaq _) (zaq _)
def HLx(w0:qW)(M:Nat)(vv wv:qV)(gl:List GlD)(n:Nat):Prop:= ∀(w:qW) (a b c:Nat) (s:LS) (e:Ex) (pa ka:Option Addr) (pc kc:Nat) (r:Int×LS),Mk w0 M a b c vv wv w s->lExpr gl n e s=some r->LFin r.2->ExAt w0 okA n e [iI e.kind,.int .u64 e.n,.string e.name,iI e.op,iI e.order,.string e.var,.slice pa e.parts.length pc,.slice ka e.kids.length kc]->
 qC 201 #[pP M,.agg #[iI e.kind,.int .u64 e.n,.string e.name,iI e.op,iI e.order,.string e.var,.slice pa e.parts.length pc,.slice ka e.kids.length kc]] w (MkD w0 M a b c vv wv w r.2 (iI r.1))
section
variable{w0 W W':qW}{M a b c:Nat}{vv wv:qV}{s:LS}{vs:List VarD}{gl:List GlD}
theorem cS{n:Nat}{v:qV}{x:Ex}{l:List Ex}(h:RwAt w0 okA 8 (ExAt w0 okA n) v (x::l)): ∃b o c pa ka pc kc,v= .slice (some ⟨b,o,none⟩) (l.length+1) c/\b<w0.heap.size/\ExAt w0 okA n x [iI x.kind,.int .u64 x.n,.string x.name,iI x.op,iI x.order,.string x.var,.slice pa x.parts.length pc,.slice ka x.kids.length kc]/\
  w0.cell? (aB b o)=some (iI x.kind)/\w0.cell? ⟨b,o+1,none⟩=some (.int .u64 x.n)/\w0.cell? ⟨b,o+2,none⟩=some (.string x.name)/\w0.cell? ⟨b,o+3,none⟩=some (iI x.op)/\w0.cell? ⟨b,o+4,none⟩=some (iI x.order)/\w0.cell? ⟨b,o+5,none⟩=some (.string x.var)/\w0.cell? ⟨b,o+6,none⟩=some (.slice pa x.parts.length pc)/\w0.cell? ⟨b,o+7,none⟩=some (.slice ka x.kids.length kc):=by
 obtain ⟨b,o,c,rfl, -, -, -,hb,cs, -,hE,hc⟩:=h.head
 obtain ⟨pa,pc,ka,kc,rfl, -⟩:=iq hE
 exact ⟨b,o,c,pa,ka,pc,kc,rfl,hb,hE,hc 0 _ rfl,hc 1 _ rfl,hc 2 _ rfl,hc 3 _ rfl,hc 4 _ rfl,hc 5 _ rfl,hc 6 _ rfl,hc 7 _ rfl⟩
theorem ydh(w:qW)(h:Mk w0 M a b c vv wv w s)(n:Nat)(name var:qB)(op order:Int)(pa ka:Option Addr)(pl pc kl kc:Nat)(hf:LFin (lNumber n s).2):
  qC 201 #[pP M,.agg #[iI 1,.int .u64 n,.string name,iI op,iI order,.string var,.slice pa pl pc,.slice ka kl kc]] w (MkD w0 M a b c vv wv w (lNumber n s).2 (iI (lNumber n s).1)):=by
 obtain ⟨ov,sv,lv,i',pi⟩:=h.rules
 have j':=h.bd
 have xX:=j'
 have HM:=Zh (MkA.begin h)
 clear h
 go_enter Tryz.func201,Tryz.ntmps201
 go_wp2_with (first
  |(go_at_call 251;refine (kX (s:=s) _ (Zj:MkA _ _ _ _ _ _ _ w _ _ _ _ _).mkr n hf).mono ?_;intro e w1 hD;have hN:=MkA.nx hD Zj;clear hD HM;(try clear i' pi);obtain ⟨rfl,a1,b1,c1,ov,sv,lv,i',pi,j',HM,hm,hT,hrel⟩:=hN;(try simp only [Zz] at hrel hm);(repeat ((first|((first|(with_reducible obtain ⟨hx,hy,wV,hT⟩:=ak (lo:=w.heap.size) hT Zo hrel Zc Zf)|(with_reducible obtain ⟨hx,hy,wV,hT⟩:=aj (lo:=w.heap.size) hT Zx hrel Zc Zf));(try simp only [Zz] at hx hy wV);rw [hx];clear hx)|(with_reducible replace hT:=hT.unmo)|(with_reducible replace hT:=hT.undr))));clear hT hrel))
 go_ret
 exact ZP
theorem ydg(w:qW)(h:Mk w0 M a b c vv wv w s)(n:Nat)(name var:qB)(op order:Int)(pa ka:Option Addr)(pl pc kl kc:Nat)(r:Int)(hr:lFind s name=some r):
  qC 201 #[pP M,.agg #[iI 2,.int .u64 n,.string name,iI op,iI order,.string var,.slice pa pl pc,.slice ka kl kc]] w (MkD w0 M a b c vv wv w s (iI r)):=by
 obtain ⟨ov,sv,lv,i',pi⟩:=h.rules
 have j':=h.bd
 have xX:=j'
 have HM:=Zh (MkA.begin h)
 clear h
 go_enter Tryz.func201,Tryz.ntmps201
 go_wp2_with (first
  |(go_at_call 204;refine (mQ _ (Zj:MkA _ _ _ _ _ _ _ w _ _ _ _ _).mkr name r hr).mono ?_;rintro e w1 ⟨rfl,p,rfl⟩))
 go_ret
 exact ZP
theorem ydf{n:Nat}(HX:HLx w0 M vv wv gl n)(w:qW)(h:Mk w0 M a b c vv wv w s)(num:Nat)(name var:qB)(op order:Int)(pa ka:Option Addr)(pl pc kc:Nat)(x y:Ex)(xd:RwAt w0 okA 8 (ExAt w0 okA n) (.slice ka 2 kc) [x,y])(r1 r2:Int×LS)
  (h1:lExpr gl n x s=some r1) (h2:lExpr gl n y r1.2=some r2) (hf:LFin (lBin op r1.1 r2.1 r2.2).2):
  qC 201 #[pP M,.agg #[iI 3,.int .u64 num,.string name,iI op,iI order,.string var,.slice pa pl pc,.slice ka 2 kc]] w (MkD w0 M a b c vv wv w (lBin op r1.1 r2.1 r2.2).2 (iI (lBin op r1.1 r2.1 r2.2).1)):=by
 obtain ⟨ov,sv,lv,i',pi⟩:=h.rules
 have j':=h.bd
 have xX:=j'
 have HM:=Zh (MkA.begin h)
 have yE:LFin r2.2:=(LLe.bin _ _ _ _).fin hf
 have xR:LFin r1.2:=(LLe.expr _ _ _ _ h2).fin yE
 obtain ⟨kb,ko,kc',pax,kax,pcx,kcx,e1,zv,AZ,c0,c1',c2,c3,c4,c5,c6,c7⟩:=cS xd
 simp only [za2,zaV,zag,Nat.reduceAdd,Value.slice.injEq,true_and] at e1
 obtain ⟨rfl,rfl⟩:=e1
 have zC:=xd.tail
 obtain ⟨kb',ko',kc',pay,kay,pcy,kcy,e1, -,MB,d0,d1,d2,d3,d4,d5,d6,d7⟩:=cS zC
 simp only [Value.slice.injEq,zaA,Addr.mk.injEq,and_true] at e1
 obtain ⟨⟨rfl,rfl⟩, -⟩:=e1
 have Dt:=Zh (fun W a1 b1 c1 (hM:Mk w0 M a1 b1 c1 vv wv W s)=>HX W a1 b1 c1 s x pax kax pcx kcx r1 hM h1 xR AZ)
 have Ea:=Zh (fun W a1 b1 c1 (hM:Mk w0 M a1 b1 c1 vv wv W r1.2)=>HX W a1 b1 c1 r1.2 y pay kay pcy kcy r2 hM h2 yE MB)
 clear h xd zC AZ MB h1 h2 HX
 go_enter Tryz.func201,Tryz.ntmps201
 go_wp2_with (first
  |(go_at_call 201;refine (Dt.out _ _ _ _ (Zj:MkA _ _ _ _ _ _ _ w _ _ _ _ _).mkr).mono ?_;intro e w1 hD;have hN:=MkA.nx hD Zj;clear hD HM;(try clear i' pi);obtain ⟨rfl,a1,b1,c1,ov,sv,lv,i',pi,j',HM,hm,hT,hrel⟩:=hN;(try simp only [Zz] at hrel hm);(repeat ((first|((first|(with_reducible obtain ⟨hx,hy,wV,hT⟩:=ak (lo:=w.heap.size) hT Zo hrel Zc Zf)|(with_reducible obtain ⟨hx,hy,wV,hT⟩:=aj (lo:=w.heap.size) hT Zx hrel Zc Zf));(try simp only [Zz] at hx hy wV);rw [hx];clear hx)|(with_reducible replace hT:=hT.unmo)|(with_reducible replace hT:=hT.undr))));clear hT hrel))
 refine ae (fun W=>(∀i,W.cell? (aB w.heap.size i)=(#[iI 3,.int .u64 num,.string name,iI op,iI order,.string var,.slice pa pl pc,.slice (some ⟨kb,ko,none⟩) 2 kc]:Array qV)[i]?)/\W.cell? ⟨kb,ko+8,none⟩=some (iI y.kind)/\W.cell? ⟨kb,ko+8+1,none⟩=some (.int .u64 y.n)/\W.cell? ⟨kb,ko+8+2,none⟩=some (.string y.name)/\W.cell? ⟨kb,ko+8+3,none⟩=some (iI y.op)/\W.cell? ⟨kb,ko+8+4,none⟩=some (iI y.order)/\W.cell? ⟨kb,ko+8+5,none⟩=some (.string y.var)/\W.cell? ⟨kb,ko+8+6,none⟩=some (.slice pay y.parts.length pcy)/\W.cell? ⟨kb,ko+8+7,none⟩=some (.slice kay y.kids.length kcy)) (fun W=>True) 10 rfl ?_
 refine Zp 0 rfl (hS:=⟨Z5,fun _=>trivial⟩) (h:=Zp 1 rfl (hS:=⟨Z5,fun _=>trivial⟩) (h:=Zt 2 rfl (hS:=⟨Z5,fun _=>trivial⟩) (h:=Zp 3 rfl (hS:=⟨Z5,fun _=>trivial⟩) (h:=Zp 4 rfl (hS:=⟨Z5,fun _=>trivial⟩) (h:=Zp 5 rfl (hS:=⟨Z5,fun _=>trivial⟩) (h:=Zt 6 rfl (hS:=⟨Z5,fun _=>trivial⟩) (h:=Zp 7 rfl (hS:=⟨Z5,fun _=>trivial⟩) (h:=Zt 8 rfl (hS:=⟨Z5,fun _=>trivial⟩) (h:=?_)))))))));try simp only [Zq]
 refine Zs 9 rfl fun K hK=>?_
 go_simp
 (go_at_call 201;refine (Ea.out _ _ _ _ (Zj:MkA _ _ _ _ _ _ _ w _ _ _ _ _).mkr).mono ?_;intro e w1 hD;have hN:=MkA.nx hD Zj;clear hD HM;(try clear i' pi);obtain ⟨rfl,a1,b1,c1,ov,sv,lv,i',pi,j',HM,hm,hT,hrel⟩:=hN;(try simp only [Zz] at hrel hm);(repeat ((first|((first|(with_reducible obtain ⟨hx,hy,wV,hT⟩:=ak (lo:=w.heap.size) hT Zo hrel Zc Zf)|(with_reducible obtain ⟨hx,hy,wV,hT⟩:=aj (lo:=w.heap.size) hT Zx hrel Zc Zf));(try simp only [Zz] at hx hy wV);rw [hx];clear hx)|(with_reducible replace hT:=hT.unmo)|(with_reducible replace hT:=hT.undr))));clear hT hrel)
 refine hK _ _ ⟨Z5,fun _=>trivial⟩ ?_
 clear hK K
 refine Zs 10 rfl fun K hK=>?_
 go_simp
 (go_at_call 252;refine (yeE (s:=r2.2) _ (Zj:MkA _ _ _ _ _ _ _ w _ _ _ _ _).mkr op r1.1 r2.1 hf).mono ?_;intro e w1 hD;have hN:=MkA.nx hD Zj;clear hD HM;(try clear i' pi);obtain ⟨rfl,a1,b1,c1,ov,sv,lv,i',pi,j',HM,hm,hT,hrel⟩:=hN;(try simp only [Zz] at hrel hm);(repeat ((first|((first|(with_reducible obtain ⟨hx,hy,wV,hT⟩:=ak (lo:=w.heap.size) hT Zo hrel Zc Zf)|(with_reducible obtain ⟨hx,hy,wV,hT⟩:=aj (lo:=w.heap.size) hT Zx hrel Zc Zf));(try simp only [Zz] at hx hy wV);rw [hx];clear hx)|(with_reducible replace hT:=hT.unmo)|(with_reducible replace hT:=hT.undr))));clear hT hrel)
 refine hK _ _ ⟨Z5,fun _=>trivial⟩ ?_
 clear hK K
 refine Zs 11 rfl fun K hK=>?_
 go_simp
 refine hK _ _ ⟨Z5,fun _=>trivial⟩ ?_
 clear hK K
 refine af Zb ?_ _
 go_wp2_with fail
 go_ret
 exact ZP
end
end Go.Proofs.YtcekjfmfcefjpaaGreatDoor
