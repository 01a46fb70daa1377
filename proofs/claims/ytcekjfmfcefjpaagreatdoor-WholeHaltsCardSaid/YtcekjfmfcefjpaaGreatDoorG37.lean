/- Walks. No condition. -/
import Derived.Test.YtcekjfmfcefjpaaGreatDoorG36
set_option maxRecDepth 100000
set_option maxHeartbeats 0
set_option linter.all false
namespace Go.Proofs.YtcekjfmfcefjpaaGreatDoor
open Go.RowKit Go.Sort
def lAtm(o:OpD)(k order:Int)(A:Nat)(len:Int)(var:qB)(parts:List PartD)(s:LS):Int×LS:=
 let a:=lNumber A s
 let t:=lSite (10+k) order var parts (lFresh a.2)
 (a.2.regs,lAdd {o with a:=a.1,dst:=a.2.regs,size:=len,order:=order,site:=t.1} t.2)
section
variable{w0 W W':qW}{M a b c:Nat}{vv wv:qV}{s:LS}{vs:List VarD}{gl:List GlD}
theorem ybo:(Tryz.prog.info? 3).map (fun i=>(i.zero,i.size,i.bytes))=some (some (iI 0),1,8):=by kernel_rfl
theorem MkA.grow0{w w1:qW}{a1 b1 c1:Nat}(h:MkA w0 M a b c vv wv w W a1 b1 c1 s)(hg:W.grownBy w1 none):MkA w0 M a b c vv wv w w1 a1 b1 c1 s/\Kp (fun k=>(k=M\/k=a1\/k=b1\/k=c1)\/k∈([]:List Nat)) W w1/\Rl a1 b1 c1 a1 b1 c1 W.heap.size:=by
 have hk:Kp (fun _=>False) W w1:=(Kp.of_grown hg).mono (fun k _ e=>by cases e)
 have hb:Below W.heap.size W w1:=hk.all (fun _ _=>id)
 exact ⟨⟨h.mkr.below hb,h.kp.trans (hk.mono (fun _ _ e=>e.elim)),h.ha,h.hb,h.hc⟩,hk.mono (fun _ _ e=>e.elim),⟨.inl rfl,.inl rfl,.inl rfl⟩⟩
theorem nQ{n:Nat}(HX:HLx w0 M vv wv gl n)(w:qW)(h:Mk w0 M a b c vv wv w s)(hL:LoB w0 vv wv vs gl)(kind:Int)(BV:kind=6\/kind=7)(num:Nat)(name var:qB)(op order:Int)(pa ka:Option Addr)(pc kc:Nat)(g:GlD)(hg:gl.find? (fun g=>eqB g.name var)=some g)(x:Ex)(r1:Int×LS)
  (xd:RwAt w0 okA 8 (ExAt w0 okA n) (.slice ka 1 kc) [x]) (h1:lExpr gl n x s=some r1) (hf:LFin (lAtm {kind:=kind+2,b:=r1.1} kind order g.at_.toNat g.len var [] r1.2).2):
  qC 254 #[pP M,.agg #[iI kind,.int .u64 num,.string name,iI op,iI order,.string var,.slice pa 0 pc,.slice ka 1 kc]] w (MkD w0 M a b c vv wv w (lAtm {kind:=kind+2,b:=r1.1} kind order g.at_.toNat g.len var [] r1.2).2 (iI (lAtm {kind:=kind+2,b:=r1.1} kind order g.at_.toNat g.len var [] r1.2).1)):=by
 obtain ⟨ov,sv,lv,i',pi⟩:=h.rules
 have xb:=hL.at_ g (List.mem_of_find?_eq_some hg)
 have By:=Zh (fun W a1 b1 c1 (hM:Mk w0 M a1 b1 c1 vv wv W s)=>kt hL W hM var g hg pa pc)
 obtain ⟨A,hA⟩: ∃A:Nat,g.at_=A:=⟨g.at_.toNat,by omega⟩
 simp only [hA,Int.toNat_natCast] at hf By xb ⊢
 have A5:A<=1000000:=by omega
 have Ax:LFin (lSite (10+kind) order var [] (lFresh (lNumber A r1.2).2)).2:=(LLe.add _ _).fin hf
 have yE:LFin (lFresh (lNumber A r1.2).2):=(LLe.site _ _ _ _ _).fin Ax
 have xR:LFin (lNumber A r1.2).2:=(LLe.fresh _).fin yE
 have zI:LFin r1.2:=(LLe.number _ _).fin xR
 generalize wX:g.len=l at*
 have j':=h.bd
 have xX:=j'
 have HM:=Zh (MkA.begin h)
 obtain ⟨i0,xz,xq,xm,xk⟩:=zan ybo
 obtain ⟨kb,ko,kc',pax,kax,pcx,kcx,e1,zv,AZ,c0,c1',c2,c3,c4,c5,c6,c7⟩:=cS xd
 simp only [zaV,zag,Value.slice.injEq,true_and] at e1
 obtain ⟨rfl,rfl⟩:=e1
 have Dt:=Zh (fun W a1 b1 c1 (hM:Mk w0 M a1 b1 c1 vv wv W s)=>HX W a1 b1 c1 s x pax kax pcx kcx r1 hM h1 zI AZ)
 clear h hL hg hA HX h1 AZ xd
 rcases BV with rfl|rfl
 ·go_enter Tryz.func254,Tryz.ntmps254
  go_wp2_with (first
   |(go_at_call 257;refine (By.out _ _ _ _ (Zj:MkA _ _ _ _ _ _ _ w _ _ _ _ _).mkr).mono ?_;rintro e w1 ⟨al,rfl,p0,rfl⟩))
  refine zao 2 ?_
  rw [zap]
  go_wp2_with (first
   |(go_at_call 201;refine (Dt.out _ _ _ _ (Zj:MkA _ _ _ _ _ _ _ w _ _ _ _ _).mkr).mono ?_;intro e w1 hD;have hN:=MkA.nx hD Zj;clear hD HM;(try clear i' pi);obtain ⟨rfl,a1,b1,c1,ov,sv,lv,i',pi,j',HM,hm,hT,hrel⟩:=hN;(try simp only [Zz] at hrel hm);(repeat ((first|((first|(with_reducible obtain ⟨hx,hy,wV,hT⟩:=ak (lo:=w.heap.size) hT Zo hrel Zc Zf)|(with_reducible obtain ⟨hx,hy,wV,hT⟩:=aj (lo:=w.heap.size) hT Zx hrel Zc Zf));(try simp only [Zz] at hx hy wV);rw [hx];clear hx)|(with_reducible replace hT:=hT.unmo)|(with_reducible replace hT:=hT.undr))));clear hT hrel)
   |(at_builtin;refine bL _ _ 55 3 i0 _ 1 8 Tryz.underlying55 xz xq xm xk rfl Zg rfl rfl w.heap.size _ 0 [] (zaX _ _ _ _) _ _ _ (0,0) (by (repeat (rw [aL,if_neg Zc]));exact aI ZG) rfl rfl (by rfl) ZL Za Za Zc ?_;intro g1 cap1 w1 hown wW xb JD;have xn:=cR xb;simp only [Zz] at xn;have k0:=hown.cells (g:=g1) rfl 0 _ rfl;simp only [Addr.add,zag] at k0;obtain ⟨hM,hT,hrel⟩:=MkA.grow0 Zj wW;have HO:=Zh hown;clear hown wW xb;(try clear i');(try clear pi);(try simp only [Zz] at hrel);obtain ⟨ov,sv,lv,i',pi⟩:=hM.mkr.rules;have j':=hM.mkr.bd;replace HM:=Zh hM;clear hM;have hm:=Kp.size hT;(try simp only [Zz] at hm);(repeat ((first|((first|(with_reducible obtain ⟨hx,hy,wV,hT⟩:=ak (lo:=w.heap.size) hT Zo hrel Zc Zf)|(with_reducible obtain ⟨hx,hy,wV,hT⟩:=aj (lo:=w.heap.size) hT Zx hrel Zc Zf));(try simp only [Zz] at hx hy wV);rw [hx];clear hx)|(with_reducible replace hT:=hT.unmo)|(with_reducible replace hT:=hT.undr))));clear hT hrel;have kk0:cellW w1 ⟨g1,0,none⟩=_:=k0;clear k0))
  rw [zap]
  go_wp2_with (first
   |(go_at_call 208;refine (cn _ _).mono ?_;rintro e w1 ⟨rfl,p,rfl⟩)
   |(go_at_call 258;refine (iH (s:=r1.2) _ (Zj:MkA _ _ _ _ _ _ _ w _ _ _ _ _).mkr A l al A5 xR).mono ?_;intro e w1 hD;have hN:=MkA.nx hD Zj;clear hD HM;(try clear i' pi);obtain ⟨rfl,a1,b1,c1,ov,sv,lv,i',pi,j',HM,hm,hT,hrel⟩:=hN;(try simp only [Zz] at hrel hm);(repeat ((first|((first|(with_reducible obtain ⟨hx,hy,wV,hT⟩:=ak (lo:=w.heap.size) hT Zo hrel Zc Zf)|(with_reducible obtain ⟨hx,hy,wV,hT⟩:=aj (lo:=w.heap.size) hT Zx hrel Zc Zf));(try simp only [Zz] at hx hy wV);rw [hx];clear hx)|(with_reducible replace hT:=hT.unmo)|(with_reducible replace hT:=hT.undr))));clear hT hrel))
  generalize hK5:w.heap.size+1+p0.os.size=K5 at*
  refine ae (fun W=>(∀i,W.cell? (aB w.heap.size i)=(#[iI 6,.int .u64 num,.string name,iI op,iI order,.string var,.slice pa 0 pc,.slice (some ⟨kb,ko,none⟩) 1 kc]:Array qV)[i]?)/\ ∀i,W.cell? (aB K5 i)=(#[iI A,iI l,iI 0,.bool false,iI 0,iI 0,iI (-1),iI al]:Array qV)[i]?) (fun W=>True) 16 rfl ?_
  refine Zp 0 rfl (h:=Zp 2 rfl (h:=Zp 3 rfl (h:=Zp 4 rfl (h:=Zt 5 rfl (h:=Zp 6 rfl (h:=Zt 7 rfl (h:=Zp 8 rfl (h:=Zp 9 rfl (h:=Zt 10 rfl (h:=Zp 11 rfl (h:=Zp 12 rfl (h:=Zt 13 rfl (h:=Zp 14 rfl (h:=Zt 15 rfl (h:=?_)))))))))))))));try simp only [Zq]
  refine Zs 1 rfl fun K hK=>?_
  go_simp
  (go_at_call 202;refine (eA (s:=(lNumber A r1.2).2) _ (Zj:MkA _ _ _ _ _ _ _ w _ _ _ _ _).mkr yE).mono ?_;intro e w1 hD;have hN:=MkA.nx hD Zj;clear hD HM;(try clear i' pi);obtain ⟨rfl,a1,b1,c1,ov,sv,lv,i',pi,j',HM,hm,hT,hrel⟩:=hN;(try simp only [Zz] at hrel hm);(repeat ((first|((first|(with_reducible obtain ⟨hx,hy,wV,hT⟩:=ak (lo:=w.heap.size) hT Zo hrel Zc Zf)|(with_reducible obtain ⟨hx,hy,wV,hT⟩:=aj (lo:=w.heap.size) hT Zx hrel Zc Zf));(try simp only [Zz] at hx hy wV);rw [hx];clear hx)|(with_reducible replace hT:=hT.unmo)|(with_reducible replace hT:=hT.undr))));clear hT hrel)
  refine hK _ _ Zw ?_
  clear hK K
  refine Zp 17 rfl (h:=?_);try simp only [Zq]
  refine Zs 16 rfl fun K hK=>?_
  go_simp
  (go_at_call 209;refine (eR (s:=lFresh (lNumber A r1.2).2) _ (Zj:MkA _ _ _ _ _ _ _ w _ _ _ _ _).mkr (10+6) order var [] pa pc Ax).mono ?_;intro e w1 hD;have hN:=MkA.nx hD Zj;clear hD HM;(try clear i' pi);obtain ⟨rfl,a1,b1,c1,ov,sv,lv,i',pi,j',HM,hm,hT,hrel⟩:=hN;(try simp only [Zz] at hrel hm);(repeat ((first|((first|(with_reducible obtain ⟨hx,hy,wV,hT⟩:=ak (lo:=w.heap.size) hT Zo hrel Zc Zf)|(with_reducible obtain ⟨hx,hy,wV,hT⟩:=aj (lo:=w.heap.size) hT Zx hrel Zc Zf));(try simp only [Zz] at hx hy wV);rw [hx];clear hx)|(with_reducible replace hT:=hT.unmo)|(with_reducible replace hT:=hT.undr))));clear hT hrel)
  refine hK _ _ Zw ?_
  clear hK K
  refine Zs 18 rfl fun K hK=>?_
  go_simp
  try simp [go_sem,↓IntWalk.iteOmega]
  refine hK _ _ Zw ?_
  clear hK K
  refine Zp 19 rfl (h:=?_);try simp only [Zq]
  refine Zs 20 rfl fun K hK=>?_
  go_simp
  try simp [go_sem,↓IntWalk.iteOmega]
  refine hK _ _ Zw ?_
  clear hK K
  refine Zp 21 rfl (h:=?_);try simp only [Zq]
  refine Zs 22 rfl fun K hK=>?_
  go_simp
  try simp [go_sem,↓IntWalk.iteOmega]
  refine hK _ _ Zw ?_
  clear hK K
  refine Zp 23 rfl (h:=?_);try simp only [Zq]
  refine Zs 24 rfl fun K hK=>?_
  go_simp
  try simp [go_sem,↓IntWalk.iteOmega]
  refine hK _ _ Zw ?_
  clear hK K
  refine af Zb ?_ _
  go_wp2_with (first
   |(go_at_call 210;refine (cC (s:=(lSite (10+6) order var [] (lFresh (lNumber A r1.2).2)).2) _ (Zj:MkA _ _ _ _ _ _ _ w _ _ _ _ _).mkr {kind:=6+2,b:=r1.1,a:=(lNumber A r1.2).1,dst:=(lNumber A r1.2).2.regs,size:=l,order:=order,site:=(lSite (10+6) order var [] (lFresh (lNumber A r1.2).2)).1} hf).mono ?_;intro e w1 hD;have hN:=MkA.nx hD Zj;clear hD HM;(try clear i' pi);obtain ⟨rfl,a1,b1,c1,ov,sv,lv,i',pi,j',HM,hm,hT,hrel⟩:=hN;(try simp only [Zz] at hrel hm);(repeat ((first|((first|(with_reducible obtain ⟨hx,hy,wV,hT⟩:=ak (lo:=w.heap.size) hT Zo hrel Zc Zf)|(with_reducible obtain ⟨hx,hy,wV,hT⟩:=aj (lo:=w.heap.size) hT Zx hrel Zc Zf));(try simp only [Zz] at hx hy wV);rw [hx];clear hx)|(with_reducible replace hT:=hT.unmo)|(with_reducible replace hT:=hT.undr))));clear hT hrel))
  go_ret
  exact ZP
 ·go_enter Tryz.func254,Tryz.ntmps254
  go_wp2_with (first
   |(go_at_call 257;refine (By.out _ _ _ _ (Zj:MkA _ _ _ _ _ _ _ w _ _ _ _ _).mkr).mono ?_;rintro e w1 ⟨al,rfl,p0,rfl⟩))
  refine zao 2 ?_
  rw [zap]
  go_wp2_with (first
   |(go_at_call 201;refine (Dt.out _ _ _ _ (Zj:MkA _ _ _ _ _ _ _ w _ _ _ _ _).mkr).mono ?_;intro e w1 hD;have hN:=MkA.nx hD Zj;clear hD HM;(try clear i' pi);obtain ⟨rfl,a1,b1,c1,ov,sv,lv,i',pi,j',HM,hm,hT,hrel⟩:=hN;(try simp only [Zz] at hrel hm);(repeat ((first|((first|(with_reducible obtain ⟨hx,hy,wV,hT⟩:=ak (lo:=w.heap.size) hT Zo hrel Zc Zf)|(with_reducible obtain ⟨hx,hy,wV,hT⟩:=aj (lo:=w.heap.size) hT Zx hrel Zc Zf));(try simp only [Zz] at hx hy wV);rw [hx];clear hx)|(with_reducible replace hT:=hT.unmo)|(with_reducible replace hT:=hT.undr))));clear hT hrel)
   |(at_builtin;refine bL _ _ 55 3 i0 _ 1 8 Tryz.underlying55 xz xq xm xk rfl Zg rfl rfl w.heap.size _ 0 [] (zaX _ _ _ _) _ _ _ (0,0) (by (repeat (rw [aL,if_neg Zc]));exact aI ZG) rfl rfl (by rfl) ZL Za Za Zc ?_;intro g1 cap1 w1 hown wW xb JD;have xn:=cR xb;simp only [Zz] at xn;have k0:=hown.cells (g:=g1) rfl 0 _ rfl;simp only [Addr.add,zag] at k0;obtain ⟨hM,hT,hrel⟩:=MkA.grow0 Zj wW;have HO:=Zh hown;clear hown wW xb;(try clear i');(try clear pi);(try simp only [Zz] at hrel);obtain ⟨ov,sv,lv,i',pi⟩:=hM.mkr.rules;have j':=hM.mkr.bd;replace HM:=Zh hM;clear hM;have hm:=Kp.size hT;(try simp only [Zz] at hm);(repeat ((first|((first|(with_reducible obtain ⟨hx,hy,wV,hT⟩:=ak (lo:=w.heap.size) hT Zo hrel Zc Zf)|(with_reducible obtain ⟨hx,hy,wV,hT⟩:=aj (lo:=w.heap.size) hT Zx hrel Zc Zf));(try simp only [Zz] at hx hy wV);rw [hx];clear hx)|(with_reducible replace hT:=hT.unmo)|(with_reducible replace hT:=hT.undr))));clear hT hrel;have kk0:cellW w1 ⟨g1,0,none⟩=_:=k0;clear k0))
  rw [zap]
  go_wp2_with (first
   |(go_at_call 208;refine (cn _ _).mono ?_;rintro e w1 ⟨rfl,p,rfl⟩)
   |(go_at_call 258;refine (iH (s:=r1.2) _ (Zj:MkA _ _ _ _ _ _ _ w _ _ _ _ _).mkr A l al A5 xR).mono ?_;intro e w1 hD;have hN:=MkA.nx hD Zj;clear hD HM;(try clear i' pi);obtain ⟨rfl,a1,b1,c1,ov,sv,lv,i',pi,j',HM,hm,hT,hrel⟩:=hN;(try simp only [Zz] at hrel hm);(repeat ((first|((first|(with_reducible obtain ⟨hx,hy,wV,hT⟩:=ak (lo:=w.heap.size) hT Zo hrel Zc Zf)|(with_reducible obtain ⟨hx,hy,wV,hT⟩:=aj (lo:=w.heap.size) hT Zx hrel Zc Zf));(try simp only [Zz] at hx hy wV);rw [hx];clear hx)|(with_reducible replace hT:=hT.unmo)|(with_reducible replace hT:=hT.undr))));clear hT hrel))
  generalize hK5:w.heap.size+1+p0.os.size=K5 at*
  refine ae (fun W=>(∀i,W.cell? (aB w.heap.size i)=(#[iI 7,.int .u64 num,.string name,iI op,iI order,.string var,.slice pa 0 pc,.slice (some ⟨kb,ko,none⟩) 1 kc]:Array qV)[i]?)/\ ∀i,W.cell? (aB K5 i)=(#[iI A,iI l,iI 0,.bool false,iI 0,iI 0,iI (-1),iI al]:Array qV)[i]?) (fun W=>True) 16 rfl ?_
  refine Zp 0 rfl (h:=Zp 2 rfl (h:=Zp 3 rfl (h:=Zp 4 rfl (h:=Zt 5 rfl (h:=Zp 6 rfl (h:=Zt 7 rfl (h:=Zp 8 rfl (h:=Zp 9 rfl (h:=Zt 10 rfl (h:=Zp 11 rfl (h:=Zp 12 rfl (h:=Zt 13 rfl (h:=Zp 14 rfl (h:=Zt 15 rfl (h:=?_)))))))))))))));try simp only [Zq]
  refine Zs 1 rfl fun K hK=>?_
  go_simp
  (go_at_call 202;refine (eA (s:=(lNumber A r1.2).2) _ (Zj:MkA _ _ _ _ _ _ _ w _ _ _ _ _).mkr yE).mono ?_;intro e w1 hD;have hN:=MkA.nx hD Zj;clear hD HM;(try clear i' pi);obtain ⟨rfl,a1,b1,c1,ov,sv,lv,i',pi,j',HM,hm,hT,hrel⟩:=hN;(try simp only [Zz] at hrel hm);(repeat ((first|((first|(with_reducible obtain ⟨hx,hy,wV,hT⟩:=ak (lo:=w.heap.size) hT Zo hrel Zc Zf)|(with_reducible obtain ⟨hx,hy,wV,hT⟩:=aj (lo:=w.heap.size) hT Zx hrel Zc Zf));(try simp only [Zz] at hx hy wV);rw [hx];clear hx)|(with_reducible replace hT:=hT.unmo)|(with_reducible replace hT:=hT.undr))));clear hT hrel)
  refine hK _ _ Zw ?_
  clear hK K
  refine Zp 17 rfl (h:=?_);try simp only [Zq]
  refine Zs 16 rfl fun K hK=>?_
  go_simp
  (go_at_call 209;refine (eR (s:=lFresh (lNumber A r1.2).2) _ (Zj:MkA _ _ _ _ _ _ _ w _ _ _ _ _).mkr (10+7) order var [] pa pc Ax).mono ?_;intro e w1 hD;have hN:=MkA.nx hD Zj;clear hD HM;(try clear i' pi);obtain ⟨rfl,a1,b1,c1,ov,sv,lv,i',pi,j',HM,hm,hT,hrel⟩:=hN;(try simp only [Zz] at hrel hm);(repeat ((first|((first|(with_reducible obtain ⟨hx,hy,wV,hT⟩:=ak (lo:=w.heap.size) hT Zo hrel Zc Zf)|(with_reducible obtain ⟨hx,hy,wV,hT⟩:=aj (lo:=w.heap.size) hT Zx hrel Zc Zf));(try simp only [Zz] at hx hy wV);rw [hx];clear hx)|(with_reducible replace hT:=hT.unmo)|(with_reducible replace hT:=hT.undr))));clear hT hrel)
  refine hK _ _ Zw ?_
  clear hK K
  refine Zs 18 rfl fun K hK=>?_
  go_simp
  try simp [go_sem,↓IntWalk.iteOmega]
  refine hK _ _ Zw ?_
  clear hK K
  refine Zp 19 rfl (h:=?_);try simp only [Zq]
  refine Zs 20 rfl fun K hK=>?_
  go_simp
  try simp [go_sem,↓IntWalk.iteOmega]
  refine hK _ _ Zw ?_
  clear hK K
  refine Zp 21 rfl (h:=?_);try simp only [Zq]
  refine Zs 22 rfl fun K hK=>?_
  go_simp
  try simp [go_sem,↓IntWalk.iteOmega]
  refine hK _ _ Zw ?_
  clear hK K
  refine Zp 23 rfl (h:=?_);try simp only [Zq]
  refine Zs 24 rfl fun K hK=>?_
  go_simp
  try simp [go_sem,↓IntWalk.iteOmega]
  refine hK _ _ Zw ?_
  clear hK K
  refine af Zb ?_ _
  go_wp2_with (first
   |(go_at_call 210;refine (cC (s:=(lSite (10+7) order var [] (lFresh (lNumber A r1.2).2)).2) _ (Zj:MkA _ _ _ _ _ _ _ w _ _ _ _ _).mkr {kind:=7+2,b:=r1.1,a:=(lNumber A r1.2).1,dst:=(lNumber A r1.2).2.regs,size:=l,order:=order,site:=(lSite (10+7) order var [] (lFresh (lNumber A r1.2).2)).1} hf).mono ?_;intro e w1 hD;have hN:=MkA.nx hD Zj;clear hD HM;(try clear i' pi);obtain ⟨rfl,a1,b1,c1,ov,sv,lv,i',pi,j',HM,hm,hT,hrel⟩:=hN;(try simp only [Zz] at hrel hm);(repeat ((first|((first|(with_reducible obtain ⟨hx,hy,wV,hT⟩:=ak (lo:=w.heap.size) hT Zo hrel Zc Zf)|(with_reducible obtain ⟨hx,hy,wV,hT⟩:=aj (lo:=w.heap.size) hT Zx hrel Zc Zf));(try simp only [Zz] at hx hy wV);rw [hx];clear hx)|(with_reducible replace hT:=hT.unmo)|(with_reducible replace hT:=hT.undr))));clear hT hrel))
  go_ret
  exact ZP
end
end Go.Proofs.YtcekjfmfcefjpaaGreatDoor
namespace Go.Proofs.YtcekjfmfcefjpaaGreatDoor
open Go.RowKit
theorem lU{f:Ex->LS->Option (Int×LS)}(hf: ∀x s r,f x s=some r->r.2.locals=s.locals): ∀(l:List Ex) (s:LS) (r:List Int×LS),lAll f l s=some r->r.2.locals=s.locals
 |[],s,r,h=>by cases h;rfl
 |x::l,s,r,h=>by
  simp only [lAll] at h
  split at h
  ·cases h
  rename_i v s1 h1
  split at h
  ·cases h
  rename_i q s2 h2
  cases h
  exact (lU hf l s1 (q,s2) h2).trans (hf x s _ h1)
theorem cI{gl:List GlD}: ∀(n:Nat) (e:Ex) (s:LS) (r:Int×LS),lExpr gl n e s=some r->r.2.locals=s.locals
 |0,e,s,r,h=>by simp [lExpr] at h
 |n+1,e,s,r,h=>by
  unfold lExpr at h
  split at h
  ·cases h
   rfl
  split at h
  ·rcases hf:lFind s e.name with _|q
   ·rw [hf] at h
    cases h
   ·rw [hf] at h
    cases h
    rfl
  split at h
  ·split at h
   ·rename_i x y hk
    split at h
    ·cases h
    rename_i a s1 h1
    split at h
    ·cases h
    rename_i b s2 h2
    cases h
    exact (cI n y s1 _ h2).trans (cI n x s _ h1)
   ·cases h
  split at h
  ·cases h
  split at h
  ·cases h
  split at h
  ·cases h
  rename_i l s1 h1
  have h2:=lU (fun x s r=>cI n x s r) _ _ _ h1
  unfold lAtomic at h
  simp only at h
  split at h
  ·cases h
  ·cases h
   exact h2
def LExt(s t:LS):Prop:= ∃u,t.locals=s.locals++u
theorem LExt.refl(s:LS):LExt s s:=⟨[],by simp⟩
theorem LExt.of_eq{s t:LS}(h:t.locals=s.locals):LExt s t:=⟨[],by simp [h]⟩
theorem LExt.trans{a b c:LS}(h:LExt a b)(k:LExt b c):LExt a c:=by
 obtain ⟨u,h⟩:=h
 obtain ⟨v,k⟩:=k
 exact ⟨u++v,by rw [k,h,List.append_assoc]⟩
theorem LExt.len{s t:LS}(h:LExt s t):s.locals.length<=t.locals.length:=by
 obtain ⟨u,h⟩:=h
 rw [h]
 simp
theorem lT{f:Sm->LS->Option LS}(hf: ∀x s r,f x s=some r->LExt s r): ∀(l:List Sm) (s r:LS),lSeq f l s=some r->LExt s r
 |[],s,r,h=>by cases h;exact LExt.refl _
 |x::l,s,r,h=>by
  simp only [lSeq] at h
  split at h
  ·cases h
  rename_i s1 h1
  exact (LExt.of_eq (s:=s) (t:={s with line:=x.line}) rfl).trans ((hf x _ _ h1).trans (lT hf l s1 r h))
theorem yav{f:Sm->LS->Option LS}(hf: ∀x s r,f x s=some r->LExt s r)(l:List Sm)(s r:LS)(h:lBlock f l s=some r):r.locals=s.locals:=by
 unfold lBlock at h
 rcases hq:lSeq f l s with _|s1
 ·rw [hq] at h
  cases h
 rw [hq] at h
 cases h
 obtain ⟨u,hu⟩:=lT hf l s s1 hq
 simp [hu]
theorem lR{gl:List GlD}: ∀(n:Nat) (x:Sm) (s r:LS),lStmt gl n x s=some r->LExt s r
 |0,x,s,r,h=>by simp [lStmt] at h
 |n+1,x,s,r,h=>by
  have hb:=fun l s r=>yav (f:=fun y s=>lStmt gl n y s) (fun x s r=>lR n x s r) l s r
  unfold lStmt at h
  split at h
  ·obtain ⟨e,v,s1, -,h1,h2⟩:=bh h
   cases h2
   exact ⟨[(x.name,s1.regs)],by rw [<-show s1.locals=s.locals from cI _ _ _ _ h1]⟩
  split at h
  ·obtain ⟨e,v,s1, -,h1,h2⟩:=bh h
   rcases hf:lFind s1 x.name with _|q
   ·rw [hf] at h2
    cases h2
   ·rw [hf] at h2
    cases h2
    exact LExt.of_eq (cI _ _ _ _ h1)
  split at h
  ·unfold lWrite at h
   split at h
   ·cases h
   split at h
   ·cases h
   obtain ⟨e,v,s1, -,h1,h2⟩:=bh h
   cases h2
   exact LExt.of_eq (show s1.locals=s.locals from cI _ _ _ _ h1)
  split at h
  ·cases h
  split at h
  ·cases h
  split at h
  ·cases h
  split at h
  ·cases h
   exact LExt.of_eq rfl
  split at h
  ·obtain ⟨e,v,s1, -,h1,h2⟩:=bh h
   split at h2
   ·cases h2
   rename_i s2 h3
   split at h2
   ·cases h2
   rename_i s4 h4
   cases h2
   have e1:=hb _ _ _ h3
   have e2:=hb _ _ _ h4
   have e0:=cI _ _ _ _ h1
   have ej:(lJump (s.labels+1) v s1).locals=s1.locals:=by unfold lJump;split<;>rfl
   exact LExt.of_eq (e2.trans (e1.trans (ej.trans e0)))
  split at h
  ·obtain ⟨e,v,s1, -,h1,h2⟩:=bh h
   split at h2
   ·cases h2
   rename_i s2 h3
   cases h2
   have e1:=hb _ _ _ h3
   have e0:=cI _ _ _ _ h1
   have ej:(lJump (s.labels+2) v s1).locals=s1.locals:=by unfold lJump;split<;>rfl
   exact LExt.of_eq (e1.trans (ej.trans e0))
  split at h
  ·cases h
  ·cases h
end Go.Proofs.YtcekjfmfcefjpaaGreatDoor
namespace Go.Proofs.YtcekjfmfcefjpaaGreatDoor
open Go.RowKit Go.Sort
section
variable{w0 W W':qW}{M a b c:Nat}{vv wv:qV}{s:LS}{vs:List VarD}{gl:List GlD}
end
section
variable{w0 W W':qW}{M a b c:Nat}{vv wv:qV}{s:LS}{vs:List VarD}{gl:List GlD}
theorem LLe.put'(o:OpD)(k order:Int)(sp:Int×Int)(var:qB)(parts:List PartD)(s:LS):LLe s (lPut o k order sp var parts s):=(LLe.number _ _).trans ((LLe.site _ _ _ _ _).trans (LLe.add _ _))
end
section
variable{w0 W W':qW}{M a b c:Nat}{vv wv:qV}{s:LS}{vs:List VarD}{gl:List GlD}
theorem Mk.app2{ov sv lv:qV}{xs:List qV}{ob:Obj}{w2:qW}{g cap:Nat}{nm:qB}{rg:Int}(h:Mk w0 M a b c vv wv W s)(ho:Ob M 231 (mkC vv wv ov sv lv s) (mkR s xs) W)(ea:ownN M ov=a)(eb:ownN M sv=b)(ec:ownN M lv=c)(hl:s.locals.length+1<=s.regs)
  (wW:(W.drew.alloc ob).grownBy w2 lv.ownBlock) (hown:w2.ownsRow (M+1) 339 2 (.slice (aA g) (s.locals.length+1) cap) (s.locals.length+1) (s.locals.flatMap locC++locC (nm,rg))) (xb:lv.ownBlock=some g\/g=(W.drew.alloc ob).heap.size) {r:qV}:
  MkD w0 M a b c vv wv W {s with locals:=s.locals++[(nm,rg)]} r (.returned r) (w2.setCell ⟨M,7,none⟩ (.slice (aA g) (s.locals.length+1) cap)):=by
 subst ea eb ec
 have wT:Kp (fun k=>lv.ownBlock=some k) (W.drew.alloc ob) w2:=(Kp.of_grown wW).mono (fun k _ e=>e.symm)
 have yd:Kp (fun k=>lv.ownBlock=some k) W w2:=((Kp.dr W).trans (Kp.al _ ob)).trans wT
 have hg: ∀k,(Value.slice (aA g) (s.locals.length+1) cap).ownBlock=some k->(fld (mkC vv wv ov sv lv s) 7).ownBlock=some k\/W.heap.size<=k:=fun k hk=>by
  obtain rfl:g=k:=by simpa [Value.ownBlock] using hk
  rcases xb with e|e
  ·exact .inl e
  ·right
   simp only [Zz] at e
   omega
 obtain ⟨p1,p2,p3⟩:=ho.put (r:=⟨7,339,2,s.locals.length,s.locals.flatMap locC⟩) (by simp [mkR]) (by simp [mkC]) yd hown hg
 have xh:Kp (fun k=>k=M\/k=ownN M ov\/k=ownN M sv\/k=ownN M lv) W (w2.setCell ⟨M,7,none⟩ (.slice (aA g) (s.locals.length+1) cap)):=p2.mono (fun k _ hk=>by
  rcases de.1 hk with e|e|e|e
  ·exact .inl e
  ·exact .inr (.inl (be e))
  ·exact .inr (.inr (.inl (be e)))
  ·exact .inr (.inr (.inr (be e))))
 have j':=h.bd
 have hb:=h.bl
 refine ⟨rfl,_,_,g,⟨⟨ov,sv,.slice (aA g) (s.locals.length+1) cap,xs,?_,rfl,rfl,by simp [ownN,Value.ownBlock]⟩,?_,h.le,⟨⟨h.nums.fin.ops,h.nums.fin.regs,h.nums.fin.labels,h.nums.fin.sites⟩,h.nums.regs,h.nums.labels,by simp;omega,h.nums.line⟩⟩,xh,.inl rfl,.inl rfl,?_⟩
 ·have e1:(mkC vv wv ov sv lv s).setIfInBounds 7 (.slice (aA g) (s.locals.length+1) cap)=mkC vv wv ov sv (.slice (aA g) (s.locals.length+1) cap) {s with locals:=s.locals++[(nm,rg)]}:=rfl
  have e2:(mkR s xs).map (fun q=>if q.ix=7 then {q with n:=s.locals.length+1,xs:=s.locals.flatMap locC++locC (nm,rg)} else q)=mkR {s with locals:=s.locals++[(nm,rg)]} xs:=by
   simp [mkR]
  rw [e1,e2] at p1
  exact p1
 ·exact ⟨xh.os.trans hb.os,xh.tape.trans hb.tape,xh.output.trans hb.output,zal hb.size xh.size,fun k hk=>(xh.block k (by have:=hb.size;omega) Za).trans (hb.block k hk)⟩
 ·rcases xb with e|e
  ·exact .inl (be e)
  ·right
   simp only [Zz] at e
   omega
theorem yap:(Tryz.prog.info? 339).map (fun i=>(i.zero,i.size,i.bytes))=some (some (.agg #[.string ⟨#[]⟩,iI 0]),2,24):=by kernel_rfl
theorem MkA.then{w:qW}{a1 b1 c1:Nat}{s2:LS}{r:qV}{e:Ending}{w1:qW}(h:MkA w0 M a b c vv wv w W a1 b1 c1 s)(hD:MkD w0 M a1 b1 c1 vv wv W s2 r e w1):MkD w0 M a b c vv wv w s2 r e w1:=by
 obtain ⟨a2,b2,c2,h1, -, -⟩:=h.next hD
 exact ⟨hD.1,a2,b2,c2,h1.mkr,h1.kp,h1.ha,h1.hb,h1.hc⟩
theorem yai(HX:HLx w0 M vv wv gl 66)(w:qW)(h:Mk w0 M a b c vv wv w s)(ln order:Int)(name name2 var:qB)(pa xa ta la:Option Addr)(pl pc xc tl tc ll lc:Nat)(x:Ex)(r1:Int×LS)(xd:RwAt w0 okA 8 (ExAt w0 okA 66) (.slice xa 1 xc) [x])(h1:lExpr gl 66 x s=some r1)(hf:LFin (lSet r1.2.regs r1.1 (lFresh r1.2)))(HLQ:r1.2.locals.length<=r1.2.regs):
  qC 152 #[pP M,.agg #[iI 1,iI ln,.string name,.string name2,iI order,.string var,.slice pa pl pc,.slice xa 1 xc,.slice ta tl tc,.slice la ll lc]] w (MkD w0 M a b c vv wv w {lSet r1.2.regs r1.1 (lFresh r1.2) with locals:=r1.2.locals++[(name,r1.2.regs)]} (.tuple #[])):=by
 obtain ⟨ov,sv,lv,i',pi⟩:=h.rules
 have yE:LFin (lFresh r1.2):=(LLe.set _ _ _).fin hf
 have xR:LFin r1.2:=(LLe.fresh _).fin yE
 have j':=h.bd
 have xX:=j'
 have HM:=Zh (MkA.begin h)
 obtain ⟨i0,xz,xq,xm,xk⟩:=zan yap
 obtain ⟨kb,ko,kc',pax,kax,pcx,kcx,e1,zv,AZ,c0,c1',c2,c3,c4,c5,c6,c7⟩:=cS xd
 simp only [zaV,zag,Value.slice.injEq,true_and] at e1
 obtain ⟨rfl,rfl⟩:=e1
 replace HX:=Zh HX
 clear h xd
 go_enter Tryz.func152,Tryz.ntmps152
 go_wp2_with (first
  |(go_at_call 201;refine (HX.out _ _ _ _ _ _ _ _ _ _ _ (Zj:MkA _ _ _ _ _ _ _ w _ _ _ _ _).mkr ZA ZA ZA).mono ?_;intro e w1 hD;have hN:=MkA.nx hD Zj;clear hD HM;(try clear i' pi);obtain ⟨rfl,a1,b1,c1,ov,sv,lv,i',pi,j',HM,hm,hT,hrel⟩:=hN;(try simp only [Zz] at hrel hm);(repeat ((first|((first|(with_reducible obtain ⟨hx,hy,wV,hT⟩:=ak (lo:=w.heap.size) hT Zo hrel Zc Zf)|(with_reducible obtain ⟨hx,hy,wV,hT⟩:=aj (lo:=w.heap.size) hT Zx hrel Zc Zf));(try simp only [Zz] at hx hy wV);rw [hx];clear hx)|(with_reducible replace hT:=hT.unmo)|(with_reducible replace hT:=hT.undr))));clear hT hrel)
  |(go_at_call 202;refine (eA (s:=r1.2) _ (Zj:MkA _ _ _ _ _ _ _ w _ _ _ _ _).mkr yE).mono ?_;intro e w1 hD;have hN:=MkA.nx hD Zj;clear hD HM;(try clear i' pi);obtain ⟨rfl,a1,b1,c1,ov,sv,lv,i',pi,j',HM,hm,hT,hrel⟩:=hN;(try simp only [Zz] at hrel hm);(repeat ((first|((first|(with_reducible obtain ⟨hx,hy,wV,hT⟩:=ak (lo:=w.heap.size) hT Zo hrel Zc Zf)|(with_reducible obtain ⟨hx,hy,wV,hT⟩:=aj (lo:=w.heap.size) hT Zx hrel Zc Zf));(try simp only [Zz] at hx hy wV);rw [hx];clear hx)|(with_reducible replace hT:=hT.unmo)|(with_reducible replace hT:=hT.undr))));clear hT hrel)
  |(go_at_call 203;refine (jF (s:=lFresh r1.2) _ (Zj:MkA _ _ _ _ _ _ _ w _ _ _ _ _).mkr r1.2.regs r1.1 hf).mono ?_;intro e w1 hD;have hN:=MkA.nx hD Zj;clear hD HM;(try clear i' pi);obtain ⟨rfl,a1,b1,c1,ov,sv,lv,i',pi,j',HM,hm,hT,hrel⟩:=hN;(try simp only [Zz] at hrel hm);(repeat ((first|((first|(with_reducible obtain ⟨hx,hy,wV,hT⟩:=ak (lo:=w.heap.size) hT Zo hrel Zc Zf)|(with_reducible obtain ⟨hx,hy,wV,hT⟩:=aj (lo:=w.heap.size) hT Zx hrel Zc Zf));(try simp only [Zz] at hx hy wV);rw [hx];clear hx)|(with_reducible replace hT:=hT.unmo)|(with_reducible replace hT:=hT.undr))));clear hT hrel))
 refine aT (R:=fun W=>MkA w0 M a b c vv wv w W a1 b1 c1 (lSet r1.2.regs r1.1 (lFresh r1.2))/\W.heap[w.heap.size]?=some (.cells #[iI 1,iI ln,.string name,.string name2,iI order,.string var,.slice pa pl pc,.slice (some ⟨kb,ko,none⟩) 1 xc,.slice ta tl tc,.slice la ll lc] 161 (0,0))/\Tp M a1 b1 c1 w.heap.size w.heap.size) ⟨Zj,by rw [aL,if_pos rfl,if_pos Za],by assumption⟩ ?_
 have HLN:r1.2.locals.length<=r1.2.regs:=HLQ
 clear i' pi HM
 rintro W ⟨hM,hK,wV⟩
 obtain ⟨ov,sv,lv,xs,ho,ea,eb,ec⟩:=hM.mkr.ob
 have yG:=ho.own ⟨7,339,2,r1.2.locals.length,r1.2.locals.flatMap locC⟩ (by simp [mkR,lSet,lAdd,lFresh])
 have q1: ∀i,W.cell? (aB M i)=(mkC vv wv ov sv lv (lSet r1.2.regs r1.1 (lFresh r1.2)))[i]?:=aa ho.out
 have qk: ∀i,W.cell? (aB w.heap.size i)=(#[iI 1,iI ln,.string name,.string name2,iI order,.string var,.slice pa pl pc,.slice (some ⟨kb,ko,none⟩) 1 xc,.slice ta tl tc,.slice la ll lc]:Array qV)[i]?:=aa hK
 have AW:=hM.mkr.bd
 have xW:=ac hK
 have KN:=HLN
 have Nz:=hM.mkr.nums.fin.regs
 have HW:=Zh hM
 have HO:=Zh ho
 have xu:=Zh yG
 have HTP:=Zh wV
 clear hM hK ho yG wV
 have hA:W.drew.cell? (aB w.heap.size 2)=some (.string name):=qk 2
 have hB:W.drew.cell? (aB M 7)=some lv:=q1 7
 refine ae (fun W=>W.cell? (aB w.heap.size 2)=some (.string name)) (fun W=>W.cell? (aB M 7)=some lv) 13 rfl ?_
 refine Zp 0 rfl (h:=Zp 1 rfl (h:=Zp 2 rfl (h:=Zp 3 rfl (h:=Zl 4 [10,13] rfl (h:=Zp 5 rfl (h:=Zt 6 rfl (h:=Zp 7 rfl (h:=Zp 8 rfl (h:=?_)))))))));try simp only [Zq]
 refine Zs 9 rfl fun K hK=>?_
 go_simp
 refine hK _ _ ⟨(an xW).trans (qk 2),fun _=>(an AW.2.1).trans (q1 7)⟩ ?_
 refine Zs 10 rfl fun K hK=>?_
 have JI:r1.2.locals.length+1<=(lSet r1.2.regs r1.1 (lFresh r1.2)).regs:=by
  have:=KN
  simp only [lSet,lAdd,lFresh]
  omega
 refine a8 (.tmp 29) (.tmp 34) 229 339 i0 _ 2 24 Tryz.underlying229 xz xq xm xk rfl Zg rfl rfl (M+1) lv r1.2.locals.length (r1.2.locals.flatMap locC) (aw xu.out (fun g hg=>zac _ _ (xu.out.lt g hg).2)) W.heap.size #[.string name,iI r1.2.regs] 339 (0,0) (zab _ _) ZB ZB rfl ZL Za Za Zc ?_
 intro g2 cap2 w2 hown wW xb xy
 have hD:=Zh (HW.out.mkr.app2 (nm:=name) (rg:=r1.2.regs) (r:= .tuple #[]) HO.out ea eb ec JI wW hown xb)
 have wT:Kp (fun k=>lv.ownBlock=some k) (W.drew.alloc _) w2:=(Kp.of_grown wW).mono (fun k _ e=>e.symm)
 have kx:w2.cell? (aB w.heap.size 2)=some (.string name):=((wT.cell Zc (fun e=>by have:=be (M:=M) e;have:=HTP.out.ne;omega)).trans (an xW)).trans (qk 2)
 have kc:w2.cell? (aB M 7)=some lv:=((wT.cell Zc (fun e=>by have:=(xu.out.lt _ e).1;omega)).trans (an AW.2.1)).trans (q1 7)
 have kf: ∀i,w2.frozen? (aB M i)=false:=ai ((wT.block M Zc (fun e=>by have:=(xu.out.lt _ e).1;omega)).trans ((zac _ _ AW.2.1).trans HO.out.out))
 clear hown wW xb wT
 refine hK _ _ ⟨kx,fun _=>kc⟩ ?_
 clear hK K hA hB
 have hA:w2.cell? (aB w.heap.size 2)=some (.string name):=kx
 have hB:w2.cell? (aB M 7)=some lv:=kc
 refine Zp 11 rfl (h:=Zp 12 rfl (h:=?_));try simp only [Zq]
 refine Zs 13 rfl fun K hK=>?_
 go_simp
 refine hK _ _ ⟨?_,fun hh=>Bool.noConfusion (hh.symm.trans (show _=true by kernel_rfl))⟩ ?_
 ·exact (zaH _ _ _ _ (fun e=>by have:=congrArg Addr.block e;simp only at this;omega)).trans kx
 refine af Zb ?_ _
 go_wp2_with fail
 go_end0
 exact HW.out.then hD.out
end
section
variable{w0 W W':qW}{M a b c:Nat}{vv wv:qV}{s:LS}{vs:List VarD}{gl:List GlD}
theorem oA(HX:HLx w0 M vv wv gl 66)(w:qW)(h:Mk w0 M a b c vv wv w s)(hL:LoB w0 vv wv vs gl)(var:qB)(pa pax kax:Option Addr)(pc pcx kcx:Nat)(g:GlD)(hg:gl.find? (fun g=>eqB g.name var)=some g)(yt:oneP (g.at_,g.len)=true)(x:Ex)(r1:Int×LS)(AZ:ExAt w0 okA 66 x [iI x.kind,.int .u64 x.n,.string x.name,iI x.op,iI x.order,.string x.var,.slice pax x.parts.length pcx,.slice kax x.kids.length kcx])(h1:lExpr gl 66 x s=some r1)(hf:LFin (lPut {kind:=5,b:=r1.1} 3 0 (g.at_,g.len) var [] r1.2)):
  qC 205 #[pP M,.agg #[.string var,.slice pa 0 pc],.agg #[iI x.kind,.int .u64 x.n,.string x.name,iI x.op,iI x.order,.string x.var,.slice pax x.parts.length pcx,.slice kax x.kids.length kcx]] w (MkD w0 M a b c vv wv w (lPut {kind:=5,b:=r1.1} 3 0 (g.at_,g.len) var [] r1.2) (.tuple #[])):=by
 obtain ⟨ov,sv,lv,i',pi⟩:=h.rules
 obtain ⟨hl,A,hA,E6⟩:=uO yt
 have xb:=hL.at_ g (List.mem_of_find?_eq_some hg)
 have By:=Zh (fun W a1 b1 c1 (hM:Mk w0 M a1 b1 c1 vv wv W s)=>kt hL W hM var g hg pa pc)
 simp only [hA,Int.toNat_natCast] at hf By xb ⊢
 have A5:A<=1000000:=by omega
 unfold lPut at hf ⊢
 simp only [Int.toNat_natCast] at hf ⊢
 generalize wX:g.len=l at*
 have Ax:LFin (lSite 3 0 var [] (lNumber A r1.2).2).2:=(LLe.add _ _).fin hf
 have yE:LFin (lNumber A r1.2).2:=(LLe.site _ _ _ _ _).fin Ax
 have xR:LFin r1.2:=(LLe.number _ _).fin yE
 have j':=h.bd
 have xX:=j'
 have HM:=Zh (MkA.begin h)
 have Dt:=Zh (fun W a1 b1 c1 (hM:Mk w0 M a1 b1 c1 vv wv W s)=>HX W a1 b1 c1 s x pax kax pcx kcx r1 hM h1 xR AZ)
 clear h hL hg hA HX h1 AZ yt
 go_enter Tryz.func205,Tryz.ntmps205
 go_wp2_with (first
  |(go_at_call 257;refine (By.out _ _ _ _ (Zj:MkA _ _ _ _ _ _ _ w _ _ _ _ _).mkr).mono ?_;rintro e w1 ⟨al,rfl,p0,rfl⟩)
  |(go_at_call 201;refine (Dt.out _ _ _ _ (Zj:MkA _ _ _ _ _ _ _ w _ _ _ _ _).mkr).mono ?_;intro e w1 hD;have hN:=MkA.nx hD Zj;clear hD HM;(try clear i' pi);obtain ⟨rfl,a1,b1,c1,ov,sv,lv,i',pi,j',HM,hm,hT,hrel⟩:=hN;(try simp only [Zz] at hrel hm);(repeat ((first|((first|(with_reducible obtain ⟨hx,hy,wV,hT⟩:=ak (lo:=w.heap.size) hT Zo hrel Zc Zf)|(with_reducible obtain ⟨hx,hy,wV,hT⟩:=aj (lo:=w.heap.size) hT Zx hrel Zc Zf));(try simp only [Zz] at hx hy wV);rw [hx];clear hx)|(with_reducible replace hT:=hT.unmo)|(with_reducible replace hT:=hT.undr))));clear hT hrel)
  |(go_at_call 258;refine (iH (s:=r1.2) _ (Zj:MkA _ _ _ _ _ _ _ w _ _ _ _ _).mkr A l al A5 yE).mono ?_;intro e w1 hD;have hN:=MkA.nx hD Zj;clear hD HM;(try clear i' pi);obtain ⟨rfl,a1,b1,c1,ov,sv,lv,i',pi,j',HM,hm,hT,hrel⟩:=hN;(try simp only [Zz] at hrel hm);(repeat ((first|((first|(with_reducible obtain ⟨hx,hy,wV,hT⟩:=ak (lo:=w.heap.size) hT Zo hrel Zc Zf)|(with_reducible obtain ⟨hx,hy,wV,hT⟩:=aj (lo:=w.heap.size) hT Zx hrel Zc Zf));(try simp only [Zz] at hx hy wV);rw [hx];clear hx)|(with_reducible replace hT:=hT.unmo)|(with_reducible replace hT:=hT.undr))));clear hT hrel)
  |(go_at_call 209;refine (eR (s:=(lNumber A r1.2).2) _ (Zj:MkA _ _ _ _ _ _ _ w _ _ _ _ _).mkr 3 0 var [] pa pc Ax).mono ?_;intro e w1 hD;have hN:=MkA.nx hD Zj;clear hD HM;(try clear i' pi);obtain ⟨rfl,a1,b1,c1,ov,sv,lv,i',pi,j',HM,hm,hT,hrel⟩:=hN;(try simp only [Zz] at hrel hm);(repeat ((first|((first|(with_reducible obtain ⟨hx,hy,wV,hT⟩:=ak (lo:=w.heap.size) hT Zo hrel Zc Zf)|(with_reducible obtain ⟨hx,hy,wV,hT⟩:=aj (lo:=w.heap.size) hT Zx hrel Zc Zf));(try simp only [Zz] at hx hy wV);rw [hx];clear hx)|(with_reducible replace hT:=hT.unmo)|(with_reducible replace hT:=hT.undr))));clear hT hrel)
  |(go_at_call 262;refine (pH (s:=(lSite 3 0 var [] (lNumber A r1.2).2).2) _ (Zj:MkA _ _ _ _ _ _ _ w _ _ _ _ _).mkr A l al (lNumber A r1.2).1 r1.1 (lSite 3 0 var [] (lNumber A r1.2).2).1 A5 hl E6 hf).mono ?_;intro e w1 hD;have hN:=MkA.nx hD Zj;clear hD HM;(try clear i' pi);obtain ⟨rfl,a1,b1,c1,ov,sv,lv,i',pi,j',HM,hm,hT,hrel⟩:=hN;(try simp only [Zz] at hrel hm);(repeat ((first|((first|(with_reducible obtain ⟨hx,hy,wV,hT⟩:=ak (lo:=w.heap.size) hT Zo hrel Zc Zf)|(with_reducible obtain ⟨hx,hy,wV,hT⟩:=aj (lo:=w.heap.size) hT Zx hrel Zc Zf));(try simp only [Zz] at hx hy wV);rw [hx];clear hx)|(with_reducible replace hT:=hT.unmo)|(with_reducible replace hT:=hT.undr))));clear hT hrel))
 go_end0
 exact ZP
end
end Go.Proofs.YtcekjfmfcefjpaaGreatDoor
