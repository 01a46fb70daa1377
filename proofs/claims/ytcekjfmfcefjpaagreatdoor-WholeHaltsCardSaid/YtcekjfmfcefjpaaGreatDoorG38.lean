/- Walks. No condition. -/
import Derived.Test.YtcekjfmfcefjpaaGreatDoorG37
set_option maxRecDepth 100000
set_option maxHeartbeats 0
set_option linter.all false
namespace Go.Proofs.YtcekjfmfcefjpaaGreatDoor
open Go.RowKit Go.Sort
section
variable{w0 W W':qW}{M a b c:Nat}{vv wv:qV}{s:LS}{vs:List VarD}{gl:List GlD}
theorem rA(w:qW)(h:Mk w0 M a b c vv wv w s)(ln order:Int)(name name2 var:qB)(pa xa ta la:Option Addr)(pl pc xl xc tl tc ll lc:Nat)(HX:HLx w0 M vv wv gl 66)(x:Ex)(r1:Int×LS)(xd:RwAt w0 okA 8 (ExAt w0 okA 66) (.slice xa 1 xc) [x])(h1:lExpr gl 66 x s=some r1)(q:Int)(hq:lFind r1.2 name=some q)(hf:LFin (lSet q r1.1 r1.2)):
  qC 152 #[pP M,.agg #[iI 2,iI ln,.string name,.string name2,iI order,.string var,.slice pa pl pc,.slice xa 1 xc,.slice ta tl tc,.slice la ll lc]] w (MkD w0 M a b c vv wv w (lSet q r1.1 r1.2) (.tuple #[])):=by
 obtain ⟨ov,sv,lv,i',pi⟩:=h.rules
 have j':=h.bd
 have xX:=j'
 have HM:=Zh (MkA.begin h)
 have xR:LFin r1.2:=(LLe.set _ _ _).fin hf
 obtain ⟨kb,ko,kc',pax,kax,pcx,kcx,e1,zv,AZ,c0,c1',c2,c3,c4,c5,c6,c7⟩:=cS xd
 simp only [za2,zaV,zag,Nat.reduceAdd,Value.slice.injEq,true_and] at e1
 obtain ⟨rfl,rfl⟩:=e1
 replace HX:=Zh HX
 clear h xd
 go_enter Tryz.func152,Tryz.ntmps152
 go_wp2_with (first
  |(go_at_call 201;refine (HX.out _ _ _ _ _ _ _ _ _ _ _ (Zj:MkA _ _ _ _ _ _ _ w _ _ _ _ _).mkr ZA ZA ZA).mono ?_;intro e w1 hD;have hN:=MkA.nx hD Zj;clear hD HM;(try clear i' pi);obtain ⟨rfl,a1,b1,c1,ov,sv,lv,i',pi,j',HM,hm,hT,hrel⟩:=hN;(try simp only [Zz] at hrel hm);(repeat ((first|((first|(with_reducible obtain ⟨hx,hy,wV,hT⟩:=ak (lo:=w.heap.size) hT Zo hrel Zc Zf)|(with_reducible obtain ⟨hx,hy,wV,hT⟩:=aj (lo:=w.heap.size) hT Zx hrel Zc Zf));(try simp only [Zz] at hx hy wV);rw [hx];clear hx)|(with_reducible replace hT:=hT.unmo)|(with_reducible replace hT:=hT.undr))));clear hT hrel)
  |(go_at_call 204;refine (mQ (s:=r1.2) _ (Zj:MkA _ _ _ _ _ _ _ w _ _ _ _ _).mkr name q hq).mono ?_;rintro e w1 ⟨rfl,p,rfl⟩)
  |(go_at_call 203;refine (jF (s:=r1.2) _ (Zj:MkA _ _ _ _ _ _ _ w _ _ _ _ _).mkr q r1.1 hf).mono ?_;intro e w1 hD;have hN:=MkA.nx hD Zj;clear hD HM;(try clear i' pi);obtain ⟨rfl,a1,b1,c1,ov,sv,lv,i',pi,j',HM,hm,hT,hrel⟩:=hN;(try simp only [Zz] at hrel hm);(repeat ((first|((first|(with_reducible obtain ⟨hx,hy,wV,hT⟩:=ak (lo:=w.heap.size) hT Zo hrel Zc Zf)|(with_reducible obtain ⟨hx,hy,wV,hT⟩:=aj (lo:=w.heap.size) hT Zx hrel Zc Zf));(try simp only [Zz] at hx hy wV);rw [hx];clear hx)|(with_reducible replace hT:=hT.unmo)|(with_reducible replace hT:=hT.undr))));clear hT hrel))
 go_end0
 exact ZP
theorem ow(w:qW)(h:Mk w0 M a b c vv wv w s)(ln order:Int)(name name2 var:qB)(pa xa ta la:Option Addr)(pl pc xl xc tl tc ll lc:Nat)(HX:HLx w0 M vv wv gl 66)(hL:LoB w0 vv wv vs gl)(g:GlD)(hg:gl.find? (fun g=>eqB g.name var)=some g)(x:Ex)(r1:Int×LS)(xd:RwAt w0 okA 8 (ExAt w0 okA 66) (.slice xa 1 xc) [x])(h1:lExpr gl 66 x s=some r1)(yt:oneP (g.at_,g.len)=true)(hf:LFin (lPut {kind:=5,b:=r1.1} 3 0 (g.at_,g.len) var [] r1.2)):
  qC 152 #[pP M,.agg #[iI 3,iI ln,.string name,.string name2,iI order,.string var,.slice pa 0 pc,.slice xa 1 xc,.slice ta tl tc,.slice la ll lc]] w (MkD w0 M a b c vv wv w (lPut {kind:=5,b:=r1.1} 3 0 (g.at_,g.len) var [] r1.2) (.tuple #[])):=by
 obtain ⟨ov,sv,lv,i',pi⟩:=h.rules
 have j':=h.bd
 have xX:=j'
 have HM:=Zh (MkA.begin h)
 obtain ⟨kb,ko,kc',pax,kax,pcx,kcx,e1,zv,AZ,c0,c1',c2,c3,c4,c5,c6,c7⟩:=cS xd
 simp only [za2,zaV,zag,Nat.reduceAdd,Value.slice.injEq,true_and] at e1
 obtain ⟨rfl,rfl⟩:=e1
 have HWR:=Zh (fun W a1 b1 c1 (hM:Mk w0 M a1 b1 c1 vv wv W s)=>oA HX W hM hL var pa pax kax pc pcx kcx g hg yt x r1 AZ h1 hf)
 clear h xd HX hL hg yt h1 AZ
 go_enter Tryz.func152,Tryz.ntmps152
 go_wp2_with fail
 refine ae (fun W=>(∀i,W.cell? (aB w.heap.size i)=(#[iI 3,iI ln,.string name,.string name2,iI order,.string var,.slice pa 0 pc,.slice (some ⟨kb,ko,none⟩) 1 xc,.slice ta tl tc,.slice la ll lc]:Array qV)[i]?)/\W.cell? (aB kb ko)=some (iI x.kind)/\W.cell? ⟨kb,ko+1,none⟩=some (.int .u64 x.n)/\W.cell? ⟨kb,ko+2,none⟩=some (.string x.name)/\W.cell? ⟨kb,ko+3,none⟩=some (iI x.op)/\W.cell? ⟨kb,ko+4,none⟩=some (iI x.order)/\W.cell? ⟨kb,ko+5,none⟩=some (.string x.var)/\W.cell? ⟨kb,ko+6,none⟩=some (.slice pax x.parts.length pcx)/\W.cell? ⟨kb,ko+7,none⟩=some (.slice kax x.kids.length kcx)) (fun W=>True) 7 rfl ?_
 refine Zp 0 rfl (hS:=⟨Z35_,fun _=>trivial⟩) (h:=Zp 1 rfl (hS:=⟨Z35_,fun _=>trivial⟩) (h:=Zt 2 rfl (hS:=⟨Z35_,fun _=>trivial⟩) (h:=Zp 3 rfl (hS:=⟨Z35_,fun _=>trivial⟩) (h:=Zt 4 rfl (hS:=⟨Z35_,fun _=>trivial⟩) (h:=Zp 5 rfl (hS:=⟨Z35_,fun _=>trivial⟩) (h:=Zt 6 rfl (hS:=⟨Z35_,fun _=>trivial⟩) (h:=?_)))))));try simp only [Zq]
 refine Zs 7 rfl fun K hK=>?_
 go_simp
 (go_at_call 205;refine (HWR.out _ _ _ _ (Zj:MkA _ _ _ _ _ _ _ w _ _ _ _ _).mkr).mono ?_;intro e w1 hD;have hN:=MkA.nx hD Zj;clear hD HM;(try clear i' pi);obtain ⟨rfl,a1,b1,c1,ov,sv,lv,i',pi,j',HM,hm,hT,hrel⟩:=hN;(try simp only [Zz] at hrel hm);(repeat ((first|((first|(with_reducible obtain ⟨hx,hy,wV,hT⟩:=ak (lo:=w.heap.size) hT Zo hrel Zc Zf)|(with_reducible obtain ⟨hx,hy,wV,hT⟩:=aj (lo:=w.heap.size) hT Zx hrel Zc Zf));(try simp only [Zz] at hx hy wV);rw [hx];clear hx)|(with_reducible replace hT:=hT.unmo)|(with_reducible replace hT:=hT.undr))));clear hT hrel)
 refine hK _ _ ⟨Z35_,fun _=>trivial⟩ ?_
 clear hK K
 refine af Zb ?_ _
 go_wp2_with fail
 go_end0
 exact ZP
theorem yc9(w:qW)(h:Mk w0 M a b c vv wv w s)(ln order:Int)(name name2 var:qB)(pa xa ta la:Option Addr)(pl pc xl xc tl tc ll lc:Nat)(hf:LFin (lAdd {kind:=13,order:=order,site:=(lSite 7 order (⟨#[]⟩:qB) [] s).1} (lSite 7 order (⟨#[]⟩:qB) [] s).2)):
  qC 152 #[pP M,.agg #[iI 7,iI ln,.string name,.string name2,iI order,.string var,.slice pa pl pc,.slice xa xl xc,.slice ta tl tc,.slice la ll lc]] w (MkD w0 M a b c vv wv w (lAdd {kind:=13,order:=order,site:=(lSite 7 order (⟨#[]⟩:qB) [] s).1} (lSite 7 order (⟨#[]⟩:qB) [] s).2) (.tuple #[])):=by
 have xR:LFin (lSite 7 order (⟨#[]⟩:qB) [] s).2:=(LLe.add _ _).fin hf
 obtain ⟨ov,sv,lv,i',pi⟩:=h.rules
 have j':=h.bd
 have xX:=j'
 have HM:=Zh (MkA.begin h)
 clear h
 go_enter Tryz.func152,Tryz.ntmps152
 go_wp2_with (first|(go_at_call 208;refine (cn _ _).mono ?_;rintro e w1 ⟨rfl,p,rfl⟩))
 refine ae (fun W=> ∀i,W.cell? (aB w.heap.size i)=(#[iI 7,iI ln,.string name,.string name2,iI order,.string var,.slice pa pl pc,.slice xa xl xc,.slice ta tl tc,.slice la ll lc]:Array qV)[i]?) (fun W=>True) 8 rfl ?_
 refine Zp 0 rfl (h:=Zt 1 rfl (h:=Zp 2 rfl (h:=Zp 3 rfl (h:=Zt 4 rfl (h:=Zp 5 rfl (h:=Zt 6 rfl (h:=Zp 7 rfl (h:=Zp 9 rfl (h:=?_)))))))));try simp only [Zq]
 refine Zs 8 rfl fun K hK=>?_
 go_simp
 (go_at_call 209;refine (eR (s:=s) _ (Zj:MkA _ _ _ _ _ _ _ w _ _ _ _ _).mkr 7 order (⟨#[]⟩:qB) [] none 0 xR).mono ?_;intro e w1 hD;have hN:=MkA.nx hD Zj;clear hD HM;(try clear i' pi);obtain ⟨rfl,a1,b1,c1,ov,sv,lv,i',pi,j',HM,hm,hT,hrel⟩:=hN;(try simp only [Zz] at hrel hm);(repeat ((first|((first|(with_reducible obtain ⟨hx,hy,wV,hT⟩:=ak (lo:=w.heap.size) hT Zo hrel Zc Zf)|(with_reducible obtain ⟨hx,hy,wV,hT⟩:=aj (lo:=w.heap.size) hT Zx hrel Zc Zf));(try simp only [Zz] at hx hy wV);rw [hx];clear hx)|(with_reducible replace hT:=hT.unmo)|(with_reducible replace hT:=hT.undr))));clear hT hrel)
 refine hK _ _ Zw ?_
 clear hK K
 refine Zs 10 rfl fun K hK=>?_
 go_simp
 try simp [go_sem,↓IntWalk.iteOmega]
 refine hK _ _ Zw ?_
 clear hK K
 refine Zp 11 rfl (h:=?_);try simp only [Zq]
 refine Zs 12 rfl fun K hK=>?_
 go_simp
 try simp [go_sem,↓IntWalk.iteOmega]
 refine hK _ _ Zw ?_
 clear hK K
 refine af Zb ?_ _
 go_wp2_with (first|(go_at_call 210;refine (cC (s:=(lSite 7 order (⟨#[]⟩:qB) [] s).2) _ (Zj:MkA _ _ _ _ _ _ _ w _ _ _ _ _).mkr {kind:=13,order:=order,site:=(lSite 7 order (⟨#[]⟩:qB) [] s).1} hf).mono ?_;intro e w1 hD;have hN:=MkA.nx hD Zj;clear hD HM;(try clear i' pi);obtain ⟨rfl,a1,b1,c1,ov,sv,lv,i',pi,j',HM,hm,hT,hrel⟩:=hN;(try simp only [Zz] at hrel hm);(repeat ((first|((first|(with_reducible obtain ⟨hx,hy,wV,hT⟩:=ak (lo:=w.heap.size) hT Zo hrel Zc Zf)|(with_reducible obtain ⟨hx,hy,wV,hT⟩:=aj (lo:=w.heap.size) hT Zx hrel Zc Zf));(try simp only [Zz] at hx hy wV);rw [hx];clear hx)|(with_reducible replace hT:=hT.unmo)|(with_reducible replace hT:=hT.undr))));clear hT hrel))
 go_end0
 exact ZP
end
theorem aE(w:qW)(a:Addr)(v:qV):(w.setCell a v).heap.size=w.heap.size:=by simp
def SLo(w0:qW)(M:Nat)(vv wv:qV)(gl:List GlD)(n:Nat):Prop:= ∀(w:qW) (a b c:Nat) (s:LS) (x:Sm) (pa xa ta la:Option Addr) (pc xc tc lc:Nat) (r:LS),Mk w0 M a b c vv wv w s->lStmt gl n x s=some r->LFin r->SmAt w0 okA n x [iI x.kind,iI x.line,.string x.name,.string x.name2,iI x.order,.string x.var,.slice pa x.parts.length pc,.slice xa x.exprs.length xc,.slice ta x.thn.length tc,.slice la x.els.length lc]->
 qC 152 #[pP M,.agg #[iI x.kind,iI x.line,.string x.name,.string x.name2,iI x.order,.string x.var,.slice pa x.parts.length pc,.slice xa x.exprs.length xc,.slice ta x.thn.length tc,.slice la x.els.length lc]] w (MkD w0 M a b c vv wv w r (.tuple #[]))
def BLo(w0:qW)(M:Nat)(vv wv:qV)(gl:List GlD)(n:Nat):Prop:= ∀(w:qW) (a b c:Nat) (s:LS) (v:qV) (l:List Sm) (r:LS),Mk w0 M a b c vv wv w s->lBlock (fun y s=>lStmt gl n y s) l s=some r->LFin r->RwAt w0 okA 10 (SmAt w0 okA n) v l->
 qC 107 #[pP M,v] w (MkD w0 M a b c vv wv w r (.tuple #[]))
section
variable{w0 W W':qW}{M a b c:Nat}{vv wv:qV}{s:LS}{vs:List VarD}{gl:List GlD}
theorem MkA.setl{w:qW}{a1 b1 c1:Nat}(h:MkA w0 M a b c vv wv w W a1 b1 c1 s)(l:Int)(hl:rng l):MkA w0 M a b c vv wv w (W.setCell ⟨M,6,none⟩ (iI l)) a1 b1 c1 {s with line:=l}:=
 ⟨h.mkr.setl l hl,h.kp.trans ((Kp.set W M 6 _).mono (fun k _ e=> .inl e)),h.ha,h.hb,h.hc⟩
theorem yaa{n:Nat}(HX:HLx w0 M vv wv gl 66)(HB:BLo w0 M vv wv gl n)(w:qW)(h:Mk w0 M a b c vv wv w s)(ln order:Int)(A8:rng ln)(name name2 var:qB)(pa xa la:Option Addr)(pl pc xc ll lc:Nat)(tv:qV)(thn:List Sm)(x:Ex)(r1:Int×LS)(s2:LS)
  (xd:RwAt w0 okA 8 (ExAt w0 okA 66) (.slice xa 1 xc) [x]) (h1:lExpr gl 66 x (lMark (s.labels+1) (lLabel (lLabel s)))=some r1) (h2:lBlock (fun y s=>lStmt gl n y s) thn (lJump (s.labels+2) r1.1 r1.2)=some s2) (Ct:RwAt w0 okA 10 (SmAt w0 okA n) tv thn)
  (hf:LFin (lMark (s.labels+2) (lJump (s.labels+1) (-1) {s2 with line:=ln}))):
  qC 212 #[pP M,.agg #[iI 9,iI ln,.string name,.string name2,iI order,.string var,.slice pa pl pc,.slice xa 1 xc,tv,.slice la ll lc]] w (MkD w0 M a b c vv wv w (lMark (s.labels+2) (lJump (s.labels+1) (-1) {s2 with line:=ln})) (.tuple #[])):=by
 obtain ⟨ov,sv,lv,i',pi⟩:=h.rules
 have j':=h.bd
 have xX:=j'
 have HM:=Zh (MkA.begin h)
 have LA:=h.nums.labels
 have Gw:LFin (lJump (s.labels+1) (-1) {s2 with line:=ln}):=(LLe.mark _ _).fin hf
 have J0:LFin {s2 with line:=ln}:=(LLe.jump _ _ _).fin Gw
 have Gx:LFin s2:=(LLe.line ln s2).fin J0
 have B5:LFin (lJump (s.labels+2) r1.1 r1.2):=(LLe.block (fun x s r=>LLe.stmt n x s r) _ _ _ h2).fin Gx
 have Ax:LFin r1.2:=(LLe.jump _ _ _).fin B5
 have yE:LFin (lMark (s.labels+1) (lLabel (lLabel s))):=(LLe.expr _ _ _ _ h1).fin Ax
 have xR:LFin (lLabel (lLabel s)):=(LLe.mark _ _).fin yE
 have zI:LFin (lLabel s):=(LLe.label _).fin xR
 have JK:(lLabel s).labels+1=s.labels+2:=by simp only [lLabel];omega
 obtain ⟨kb,ko,kc',pax,kax,pcx,kcx,e1,zv,AZ,c0,c1',c2,c3,c4,c5,c6,c7⟩:=cS xd
 simp only [zaV,zag,Value.slice.injEq,true_and] at e1
 obtain ⟨rfl,rfl⟩:=e1
 obtain ⟨ta,tc,rfl, -⟩:=id Ct
 replace HX:=Zh HX
 have IY:=Zh (fun W a1 b1 c1 (hM:Mk w0 M a1 b1 c1 vv wv W (lJump (s.labels+2) r1.1 r1.2))=>HB W a1 b1 c1 _ _ thn s2 hM h2 Gx Ct)
 clear h xd h2 Ct HB
 go_enter Tryz.func212,Tryz.ntmps212
 go_wp2_with fail
 (go_at_call 263;refine (fq (s:=s) _ (ZD:MkA _ _ _ _ _ _ _ w _ _ _ _ _).mkr zI).mono ?_;intro e w1 hD;have hN:=MkA.nx hD ZD;clear hD HM;(try clear i' pi);obtain ⟨rfl,a1,b1,c1,ov,sv,lv,i',pi,j',HM,hm,hT,hrel⟩:=hN;(try simp only [Zz,aE] at hrel hm);(repeat ((first|((first|(with_reducible obtain ⟨hx,hy,wV,hT⟩:=ak (lo:=w.heap.size) hT Zo hrel ZE Zf)|(with_reducible obtain ⟨hx,hy,wV,hT⟩:=aj (lo:=w.heap.size) hT ZQ hrel ZE Zf));(try simp only [Zz,aE] at hx hy wV);rw [hx];clear hx)|(with_reducible replace hT:=hT.unmo)|(with_reducible replace hT:=hT.undr))));clear hT hrel)
 go_wp2_with fail
 (go_at_call 263;refine (fq (s:=lLabel s) _ (ZD:MkA _ _ _ _ _ _ _ w _ _ _ _ _).mkr xR).mono ?_;intro e w1 hD;have hN:=MkA.nx hD ZD;clear hD HM;(try clear i' pi);obtain ⟨rfl,a1,b1,c1,ov,sv,lv,i',pi,j',HM,hm,hT,hrel⟩:=hN;(try simp only [Zz,aE] at hrel hm);(repeat ((first|((first|(with_reducible obtain ⟨hx,hy,wV,hT⟩:=ak (lo:=w.heap.size) hT Zo hrel ZE Zf)|(with_reducible obtain ⟨hx,hy,wV,hT⟩:=aj (lo:=w.heap.size) hT ZQ hrel ZE Zf));(try simp only [Zz,aE] at hx hy wV);rw [hx];clear hx)|(with_reducible replace hT:=hT.unmo)|(with_reducible replace hT:=hT.undr))));clear hT hrel)
 go_wp2_with fail
 (go_at_call 265;refine (fj (s:=lLabel (lLabel s)) _ (ZD:MkA _ _ _ _ _ _ _ w _ _ _ _ _).mkr (s.labels+1) yE).mono ?_;intro e w1 hD;have hN:=MkA.nx hD ZD;clear hD HM;(try clear i' pi);obtain ⟨rfl,a1,b1,c1,ov,sv,lv,i',pi,j',HM,hm,hT,hrel⟩:=hN;(try simp only [Zz,aE] at hrel hm);(repeat ((first|((first|(with_reducible obtain ⟨hx,hy,wV,hT⟩:=ak (lo:=w.heap.size) hT Zo hrel ZE Zf)|(with_reducible obtain ⟨hx,hy,wV,hT⟩:=aj (lo:=w.heap.size) hT ZQ hrel ZE Zf));(try simp only [Zz,aE] at hx hy wV);rw [hx];clear hx)|(with_reducible replace hT:=hT.unmo)|(with_reducible replace hT:=hT.undr))));clear hT hrel)
 go_wp2_with fail
 (go_at_call 201;refine (HX.out _ _ _ _ _ _ _ _ _ _ _ (ZD:MkA _ _ _ _ _ _ _ w _ _ _ _ _).mkr ZA ZA ZA).mono ?_;intro e w1 hD;have hN:=MkA.nx hD ZD;clear hD HM;(try clear i' pi);obtain ⟨rfl,a1,b1,c1,ov,sv,lv,i',pi,j',HM,hm,hT,hrel⟩:=hN;(try simp only [Zz,aE] at hrel hm);(repeat ((first|((first|(with_reducible obtain ⟨hx,hy,wV,hT⟩:=ak (lo:=w.heap.size) hT Zo hrel ZE Zf)|(with_reducible obtain ⟨hx,hy,wV,hT⟩:=aj (lo:=w.heap.size) hT ZQ hrel ZE Zf));(try simp only [Zz,aE] at hx hy wV);rw [hx];clear hx)|(with_reducible replace hT:=hT.unmo)|(with_reducible replace hT:=hT.undr))));clear hT hrel)
 go_wp2_with fail
 (go_at_call 264;refine (fs (s:=r1.2) _ (ZD:MkA _ _ _ _ _ _ _ w _ _ _ _ _).mkr (s.labels+2) r1.1 B5).mono ?_;intro e w1 hD;have hN:=MkA.nx hD ZD;clear hD HM;(try clear i' pi);obtain ⟨rfl,a1,b1,c1,ov,sv,lv,i',pi,j',HM,hm,hT,hrel⟩:=hN;(try simp only [Zz,aE] at hrel hm);(repeat ((first|((first|(with_reducible obtain ⟨hx,hy,wV,hT⟩:=ak (lo:=w.heap.size) hT Zo hrel ZE Zf)|(with_reducible obtain ⟨hx,hy,wV,hT⟩:=aj (lo:=w.heap.size) hT ZQ hrel ZE Zf));(try simp only [Zz,aE] at hx hy wV);rw [hx];clear hx)|(with_reducible replace hT:=hT.unmo)|(with_reducible replace hT:=hT.undr))));clear hT hrel)
 go_wp2_with fail
 (go_at_call 107;refine (IY.out _ _ _ _ (ZD:MkA _ _ _ _ _ _ _ w _ _ _ _ _).mkr).mono ?_;intro e w1 hD;have hN:=MkA.nx hD ZD;clear hD HM;(try clear i' pi);obtain ⟨rfl,a1,b1,c1,ov,sv,lv,i',pi,j',HM,hm,hT,hrel⟩:=hN;(try simp only [Zz,aE] at hrel hm);(repeat ((first|((first|(with_reducible obtain ⟨hx,hy,wV,hT⟩:=ak (lo:=w.heap.size) hT Zo hrel ZE Zf)|(with_reducible obtain ⟨hx,hy,wV,hT⟩:=aj (lo:=w.heap.size) hT ZQ hrel ZE Zf));(try simp only [Zz,aE] at hx hy wV);rw [hx];clear hx)|(with_reducible replace hT:=hT.unmo)|(with_reducible replace hT:=hT.undr))));clear hT hrel)
 go_wp2_with fail
 (go_at_call 264;refine (fs (s:={s2 with line:=ln}) _ (ZD:MkA _ _ _ _ _ _ _ w _ _ _ _ _).mkr (s.labels+1) (-1) Gw).mono ?_;intro e w1 hD;have hN:=MkA.nx hD ZD;clear hD HM;(try clear i' pi);obtain ⟨rfl,a1,b1,c1,ov,sv,lv,i',pi,j',HM,hm,hT,hrel⟩:=hN;(try simp only [Zz,aE] at hrel hm);(repeat ((first|((first|(with_reducible obtain ⟨hx,hy,wV,hT⟩:=ak (lo:=w.heap.size) hT Zo hrel ZE Zf)|(with_reducible obtain ⟨hx,hy,wV,hT⟩:=aj (lo:=w.heap.size) hT ZQ hrel ZE Zf));(try simp only [Zz,aE] at hx hy wV);rw [hx];clear hx)|(with_reducible replace hT:=hT.unmo)|(with_reducible replace hT:=hT.undr))));clear hT hrel)
 go_wp2_with fail
 (go_at_call 265;refine (fj (s:=lJump (s.labels+1) (-1) {s2 with line:=ln}) _ (ZD:MkA _ _ _ _ _ _ _ w _ _ _ _ _).mkr (s.labels+2) hf).mono ?_;intro e w1 hD;have hN:=MkA.nx hD ZD;clear hD HM;(try clear i' pi);obtain ⟨rfl,a1,b1,c1,ov,sv,lv,i',pi,j',HM,hm,hT,hrel⟩:=hN;(try simp only [Zz,aE] at hrel hm);(repeat ((first|((first|(with_reducible obtain ⟨hx,hy,wV,hT⟩:=ak (lo:=w.heap.size) hT Zo hrel ZE Zf)|(with_reducible obtain ⟨hx,hy,wV,hT⟩:=aj (lo:=w.heap.size) hT ZQ hrel ZE Zf));(try simp only [Zz,aE] at hx hy wV);rw [hx];clear hx)|(with_reducible replace hT:=hT.unmo)|(with_reducible replace hT:=hT.undr))));clear hT hrel)
 go_wp2_with fail
 go_end0
 (apply MkA.fin;(repeat (first|with_reducible exact HM.out|with_reducible apply MkA.alloc|with_reducible apply MkA.drew|with_reducible apply MkA.mo|with_reducible apply MkA.own|with_reducible apply MkA.setl|exact HM.out));all_goals (first|with_reducible assumption|exact ⟨by omega⟩|omega))
theorem yd7{n:Nat}(HX:HLx w0 M vv wv gl 66)(HB:BLo w0 M vv wv gl n)(w:qW)(h:Mk w0 M a b c vv wv w s)(ln order:Int)(A8:rng ln)(name name2 var:qB)(pa xa:Option Addr)(pl pc xc:Nat)(tv uv:qV)(thn els:List Sm)(x:Ex)(r1:Int×LS)(s2 s4:LS)
  (xd:RwAt w0 okA 8 (ExAt w0 okA 66) (.slice xa 1 xc) [x]) (h1:lExpr gl 66 x (lLabel (lLabel s))=some r1) (h2:lBlock (fun y s=>lStmt gl n y s) thn (lJump (s.labels+1) r1.1 r1.2)=some s2) (Ct:RwAt w0 okA 10 (SmAt w0 okA n) tv thn)
  (h4:lBlock (fun y s=>lStmt gl n y s) els (lMark (s.labels+1) (lJump (s.labels+2) (-1) {s2 with line:=ln}))=some s4) (Jc:RwAt w0 okA 10 (SmAt w0 okA n) uv els) (hf:LFin (lMark (s.labels+2) {s4 with line:=ln})):
  qC 211 #[pP M,.agg #[iI 8,iI ln,.string name,.string name2,iI order,.string var,.slice pa pl pc,.slice xa 1 xc,tv,uv]] w (MkD w0 M a b c vv wv w (lMark (s.labels+2) {s4 with line:=ln}) (.tuple #[])):=by
 obtain ⟨ov,sv,lv,i',pi⟩:=h.rules
 have j':=h.bd
 have xX:=j'
 have HM:=Zh (MkA.begin h)
 have LA:=h.nums.labels
 have J1:LFin {s4 with line:=ln}:=(LLe.mark _ _).fin hf
 have LI:LFin s4:=(LLe.line ln s4).fin J1
 have Gv:LFin (lMark (s.labels+1) (lJump (s.labels+2) (-1) {s2 with line:=ln})):=(LLe.block (fun x s r=>LLe.stmt n x s r) _ _ _ h4).fin LI
 have Gw:LFin (lJump (s.labels+2) (-1) {s2 with line:=ln}):=(LLe.mark _ _).fin Gv
 have J0:LFin {s2 with line:=ln}:=(LLe.jump _ _ _).fin Gw
 have Gx:LFin s2:=(LLe.line ln s2).fin J0
 have B5:LFin (lJump (s.labels+1) r1.1 r1.2):=(LLe.block (fun x s r=>LLe.stmt n x s r) _ _ _ h2).fin Gx
 have Ax:LFin r1.2:=(LLe.jump _ _ _).fin B5
 have xR:LFin (lLabel (lLabel s)):=(LLe.expr _ _ _ _ h1).fin Ax
 have zI:LFin (lLabel s):=(LLe.label _).fin xR
 have JK:(lLabel s).labels+1=s.labels+2:=by simp only [lLabel];omega
 obtain ⟨kb,ko,kc',pax,kax,pcx,kcx,e1,zv,AZ,c0,c1',c2,c3,c4,c5,c6,c7⟩:=cS xd
 simp only [zaV,zag,Value.slice.injEq,true_and] at e1
 obtain ⟨rfl,rfl⟩:=e1
 obtain ⟨ta,tc,rfl, -⟩:=id Ct
 obtain ⟨ua,uc,rfl, -⟩:=id Jc
 replace HX:=Zh HX
 have zt:=Zh (fun W a1 b1 c1 (hM:Mk w0 M a1 b1 c1 vv wv W (lJump (s.labels+1) r1.1 r1.2))=>HB W a1 b1 c1 _ _ thn s2 hM h2 Gx Ct)
 have xA:=Zh (fun W a1 b1 c1 (hM:Mk w0 M a1 b1 c1 vv wv W (lMark (s.labels+1) (lJump (s.labels+2) (-1) {s2 with line:=ln})))=>HB W a1 b1 c1 _ _ els s4 hM h4 LI Jc)
 clear h xd h2 Ct HB h4 Jc
 go_enter Tryz.func211,Tryz.ntmps211
 go_wp2_with fail
 (go_at_call 263;refine (fq (s:=s) _ (ZD:MkA _ _ _ _ _ _ _ w _ _ _ _ _).mkr zI).mono ?_;intro e w1 hD;have hN:=MkA.nx hD ZD;clear hD HM;(try clear i' pi);obtain ⟨rfl,a1,b1,c1,ov,sv,lv,i',pi,j',HM,hm,hT,hrel⟩:=hN;(try simp only [Zz,aE] at hrel hm);(repeat ((first|((first|(with_reducible obtain ⟨hx,hy,wV,hT⟩:=ak (lo:=w.heap.size) hT Zo hrel ZE Zf)|(with_reducible obtain ⟨hx,hy,wV,hT⟩:=aj (lo:=w.heap.size) hT ZQ hrel ZE Zf));(try simp only [Zz,aE] at hx hy wV);rw [hx];clear hx)|(with_reducible replace hT:=hT.unmo)|(with_reducible replace hT:=hT.undr))));clear hT hrel)
 go_wp2_with fail
 (go_at_call 263;refine (fq (s:=lLabel s) _ (ZD:MkA _ _ _ _ _ _ _ w _ _ _ _ _).mkr xR).mono ?_;intro e w1 hD;have hN:=MkA.nx hD ZD;clear hD HM;(try clear i' pi);obtain ⟨rfl,a1,b1,c1,ov,sv,lv,i',pi,j',HM,hm,hT,hrel⟩:=hN;(try simp only [Zz,aE] at hrel hm);(repeat ((first|((first|(with_reducible obtain ⟨hx,hy,wV,hT⟩:=ak (lo:=w.heap.size) hT Zo hrel ZE Zf)|(with_reducible obtain ⟨hx,hy,wV,hT⟩:=aj (lo:=w.heap.size) hT ZQ hrel ZE Zf));(try simp only [Zz,aE] at hx hy wV);rw [hx];clear hx)|(with_reducible replace hT:=hT.unmo)|(with_reducible replace hT:=hT.undr))));clear hT hrel)
 go_wp2_with fail
 (go_at_call 201;refine (HX.out _ _ _ _ _ _ _ _ _ _ _ (ZD:MkA _ _ _ _ _ _ _ w _ _ _ _ _).mkr ZA ZA ZA).mono ?_;intro e w1 hD;have hN:=MkA.nx hD ZD;clear hD HM;(try clear i' pi);obtain ⟨rfl,a1,b1,c1,ov,sv,lv,i',pi,j',HM,hm,hT,hrel⟩:=hN;(try simp only [Zz,aE] at hrel hm);(repeat ((first|((first|(with_reducible obtain ⟨hx,hy,wV,hT⟩:=ak (lo:=w.heap.size) hT Zo hrel ZE Zf)|(with_reducible obtain ⟨hx,hy,wV,hT⟩:=aj (lo:=w.heap.size) hT ZQ hrel ZE Zf));(try simp only [Zz,aE] at hx hy wV);rw [hx];clear hx)|(with_reducible replace hT:=hT.unmo)|(with_reducible replace hT:=hT.undr))));clear hT hrel)
 go_wp2_with fail
 (go_at_call 264;refine (fs (s:=r1.2) _ (ZD:MkA _ _ _ _ _ _ _ w _ _ _ _ _).mkr (s.labels+1) r1.1 B5).mono ?_;intro e w1 hD;have hN:=MkA.nx hD ZD;clear hD HM;(try clear i' pi);obtain ⟨rfl,a1,b1,c1,ov,sv,lv,i',pi,j',HM,hm,hT,hrel⟩:=hN;(try simp only [Zz,aE] at hrel hm);(repeat ((first|((first|(with_reducible obtain ⟨hx,hy,wV,hT⟩:=ak (lo:=w.heap.size) hT Zo hrel ZE Zf)|(with_reducible obtain ⟨hx,hy,wV,hT⟩:=aj (lo:=w.heap.size) hT ZQ hrel ZE Zf));(try simp only [Zz,aE] at hx hy wV);rw [hx];clear hx)|(with_reducible replace hT:=hT.unmo)|(with_reducible replace hT:=hT.undr))));clear hT hrel)
 go_wp2_with fail
 (go_at_call 107;refine (zt.out _ _ _ _ (ZD:MkA _ _ _ _ _ _ _ w _ _ _ _ _).mkr).mono ?_;intro e w1 hD;have hN:=MkA.nx hD ZD;clear hD HM;(try clear i' pi);obtain ⟨rfl,a1,b1,c1,ov,sv,lv,i',pi,j',HM,hm,hT,hrel⟩:=hN;(try simp only [Zz,aE] at hrel hm);(repeat ((first|((first|(with_reducible obtain ⟨hx,hy,wV,hT⟩:=ak (lo:=w.heap.size) hT Zo hrel ZE Zf)|(with_reducible obtain ⟨hx,hy,wV,hT⟩:=aj (lo:=w.heap.size) hT ZQ hrel ZE Zf));(try simp only [Zz,aE] at hx hy wV);rw [hx];clear hx)|(with_reducible replace hT:=hT.unmo)|(with_reducible replace hT:=hT.undr))));clear hT hrel)
 go_wp2_with fail
 (go_at_call 264;refine (fs (s:={s2 with line:=ln}) _ (ZD:MkA _ _ _ _ _ _ _ w _ _ _ _ _).mkr (s.labels+2) (-1) Gw).mono ?_;intro e w1 hD;have hN:=MkA.nx hD ZD;clear hD HM;(try clear i' pi);obtain ⟨rfl,a1,b1,c1,ov,sv,lv,i',pi,j',HM,hm,hT,hrel⟩:=hN;(try simp only [Zz,aE] at hrel hm);(repeat ((first|((first|(with_reducible obtain ⟨hx,hy,wV,hT⟩:=ak (lo:=w.heap.size) hT Zo hrel ZE Zf)|(with_reducible obtain ⟨hx,hy,wV,hT⟩:=aj (lo:=w.heap.size) hT ZQ hrel ZE Zf));(try simp only [Zz,aE] at hx hy wV);rw [hx];clear hx)|(with_reducible replace hT:=hT.unmo)|(with_reducible replace hT:=hT.undr))));clear hT hrel)
 go_wp2_with fail
 (go_at_call 265;refine (fj (s:=lJump (s.labels+2) (-1) {s2 with line:=ln}) _ (ZD:MkA _ _ _ _ _ _ _ w _ _ _ _ _).mkr (s.labels+1) Gv).mono ?_;intro e w1 hD;have hN:=MkA.nx hD ZD;clear hD HM;(try clear i' pi);obtain ⟨rfl,a1,b1,c1,ov,sv,lv,i',pi,j',HM,hm,hT,hrel⟩:=hN;(try simp only [Zz,aE] at hrel hm);(repeat ((first|((first|(with_reducible obtain ⟨hx,hy,wV,hT⟩:=ak (lo:=w.heap.size) hT Zo hrel ZE Zf)|(with_reducible obtain ⟨hx,hy,wV,hT⟩:=aj (lo:=w.heap.size) hT ZQ hrel ZE Zf));(try simp only [Zz,aE] at hx hy wV);rw [hx];clear hx)|(with_reducible replace hT:=hT.unmo)|(with_reducible replace hT:=hT.undr))));clear hT hrel)
 go_wp2_with fail
 (go_at_call 107;refine (xA.out _ _ _ _ (ZD:MkA _ _ _ _ _ _ _ w _ _ _ _ _).mkr).mono ?_;intro e w1 hD;have hN:=MkA.nx hD ZD;clear hD HM;(try clear i' pi);obtain ⟨rfl,a1,b1,c1,ov,sv,lv,i',pi,j',HM,hm,hT,hrel⟩:=hN;(try simp only [Zz,aE] at hrel hm);(repeat ((first|((first|(with_reducible obtain ⟨hx,hy,wV,hT⟩:=ak (lo:=w.heap.size) hT Zo hrel ZE Zf)|(with_reducible obtain ⟨hx,hy,wV,hT⟩:=aj (lo:=w.heap.size) hT ZQ hrel ZE Zf));(try simp only [Zz,aE] at hx hy wV);rw [hx];clear hx)|(with_reducible replace hT:=hT.unmo)|(with_reducible replace hT:=hT.undr))));clear hT hrel)
 go_wp2_with fail
 (go_at_call 265;refine (fj (s:={s4 with line:=ln}) _ (ZD:MkA _ _ _ _ _ _ _ w _ _ _ _ _).mkr (s.labels+2) hf).mono ?_;intro e w1 hD;have hN:=MkA.nx hD ZD;clear hD HM;(try clear i' pi);obtain ⟨rfl,a1,b1,c1,ov,sv,lv,i',pi,j',HM,hm,hT,hrel⟩:=hN;(try simp only [Zz,aE] at hrel hm);(repeat ((first|((first|(with_reducible obtain ⟨hx,hy,wV,hT⟩:=ak (lo:=w.heap.size) hT Zo hrel ZE Zf)|(with_reducible obtain ⟨hx,hy,wV,hT⟩:=aj (lo:=w.heap.size) hT ZQ hrel ZE Zf));(try simp only [Zz,aE] at hx hy wV);rw [hx];clear hx)|(with_reducible replace hT:=hT.unmo)|(with_reducible replace hT:=hT.undr))));clear hT hrel)
 go_wp2_with fail
 go_end0
 (apply MkA.fin;(repeat (first|with_reducible exact HM.out|with_reducible apply MkA.alloc|with_reducible apply MkA.drew|with_reducible apply MkA.mo|with_reducible apply MkA.own|with_reducible apply MkA.setl|exact HM.out));all_goals (first|with_reducible assumption|exact ⟨by omega⟩|omega))
end
section
variable{w0 W W':qW}{M a b c:Nat}{vv wv:qV}{s:LS}{vs:List VarD}{gl:List GlD}
theorem Mk.rulesL(h:Mk w0 M a b c vv wv W s): ∃ov sv la lc,s.locals.length<=lc/\(∀b i,W.cell? (aB b i)=if b<w0.heap.size then w0.cell? (aB b i) else if b=M then (#[vv,wv,ov,iI s.regs,iI s.labels,sv,iI s.line,.slice la s.locals.length lc]:Array qV)[i]? else cellW W ⟨b,i,none⟩)/\
  (∀b i,W.frozen? (aB b i)=if b<w0.heap.size then w0.frozen? (aB b i) else if b=M then false else frzW W ⟨b,i,none⟩)/\
  ∀n0,n0<=s.locals.length->Mk w0 M a b c vv wv (W.setCell ⟨M,7,none⟩ (.slice la n0 lc)) {s with locals:=s.locals.take n0}:=by
 obtain ⟨ov,sv,lv,xs,ho,ea,eb,ec⟩:=h.ob
 have hown:=ho.own ⟨7,339,2,s.locals.length,s.locals.flatMap locC⟩ (by simp [mkR])
 obtain ⟨la,lc,e,h1, -⟩:=az hown
 simp only [fld,mkC] at e
 have e':lv= .slice la s.locals.length lc:=by simpa using e
 subst e'
 refine ⟨ov,sv,la,lc,h1,eG ho.out h.bl,ez ho.out h.bl,fun n0 hn=>?_⟩
 have FW:W.ownsRow (M+1) 339 2 (.slice la s.locals.length lc) s.locals.length (s.locals.flatMap locC):=hown
 have hcut:=eZ FW hn
 have ex:(s.locals.flatMap locC).take (n0*2)=(s.locals.take n0).flatMap locC:=by
  have hf: ∀(l:List (qB×Int)) (n:Nat),(l.flatMap locC).take (n*2)=(l.take n).flatMap locC:=by
   intro l
   induction l with
   |nil=>intro n;simp
   |cons x l ih=>
    intro n
    cases n with
    |zero=>simp
    |succ n=>
     have:=ih n
     simp only [zaf,List.take_succ_cons,locC] at this ⊢
     rw [show (n+1)*2=n*2+2 by omega]
     simp [this]
  exact hf _ _
 rw [ex] at hcut
 obtain ⟨p1,p2, -⟩:=ho.put (r:=⟨7,339,2,s.locals.length,s.locals.flatMap locC⟩) (by simp [mkR]) (by simp [mkC]) (Kp.refl _ W) hcut (fun k hk=> .inl (by cases la<;>simpa [fld,mkC,Value.ownBlock] using hk))
 have hb:=h.bl
 refine ⟨⟨ov,sv,.slice la n0 lc,xs,?_,ea,eb,?_⟩,hb.setCell h.le _,h.le,⟨⟨h.nums.fin.ops,h.nums.fin.regs,h.nums.fin.labels,h.nums.fin.sites⟩,h.nums.regs,h.nums.labels,by have:=h.nums.locals;simp;omega,h.nums.line⟩⟩
 ·have e1:(mkC vv wv ov sv (.slice la s.locals.length lc) s).setIfInBounds 7 (.slice la n0 lc)=mkC vv wv ov sv (.slice la n0 lc) {s with locals:=s.locals.take n0}:=rfl
  have e2:(mkR s xs).map (fun q=>if q.ix=7 then {q with n:=n0,xs:=(s.locals.take n0).flatMap locC} else q)=mkR {s with locals:=s.locals.take n0} xs:=by
   simp [mkR]
   omega
  rw [e1,e2] at p1
  exact p1
 ·rw [<-ec]
  cases la<;>rfl
theorem yau{f:Sm->LS->Option LS}{l:List Sm}{j:Nat}{y:Sm}{s r:LS}(h:lSeq f (l.drop j) s=some r)(hy:l[j]?=some y): ∃s2,f y {s with line:=y.line}=some s2/\lSeq f (l.drop (j+1)) s2=some r:=by
 obtain ⟨hl,e⟩:=List.getElem?_eq_some_iff.1 hy
 rw [zaS hl,e] at h
 simp only [lSeq] at h
 split at h
 ·cases h
 ·rename_i s2 h2
  exact ⟨s2,h2,h⟩
theorem nJ{n:Nat}(HS:SLo w0 M vv wv gl n):BLo w0 M vv wv gl n:=by
 intro w a b c s v l r h hb hf hr
 unfold lBlock at hb
 rcases hq:lSeq (fun y s=>lStmt gl n y s) l s with _|sf
 ·rw [hq] at hb
  cases hb
 rw [hq] at hb
 simp only [Option.map_some,zaA] at hb
 subst hb
 have Ad:LFin sf:=⟨hf.ops,hf.regs,hf.labels,hf.sites⟩
 obtain ⟨ra,rc,rfl,g1,g2,g3⟩:=hr
 have HR:=Zh g3
 have KB:=Zh HS
 have HQ:=Zh hq
 have xX:=h.bd
 have En:=h.nums.locals
 have hnr:=h.nums.fin.regs
 obtain ⟨ov,sv,la,lc,JJ,i',pi, -⟩:=h.rulesL
 have HM0:=Zh (MkA.begin h)
 clear h g3 hq HS
 go_enter Tryz.func107,Tryz.ntmps107
 go_wp2_with fail
 go_loopw [14] (fun v14 wr=> ∃(j:Nat) (s1:LS) (a1 b1 c1:Nat),v14=iI j/\j<=l.length/\MkA w0 M a b c vv wv w wr a1 b1 c1 s1/\lSeq (fun y s=>lStmt gl n y s) (l.drop j) s1=some sf/\LExt s s1) (fun v14 _=>l.length-(intOf v14).toNat)
 case atStart=>exact ⟨0,s,a,b,c,rfl,zaB _,HM0.out,HQ.out,LExt.refl _⟩
 case round=>
  obtain ⟨j,s1,a1,b1,c1,rfl,hj,hM,zg,EG⟩:=hrel
  clear i' pi
  have j':=hM.mkr.bd
  have DA:=hM.kp.size
  rcases (by omega:j=l.length\/j<l.length) with h2|h2
  ·subst h2
   have yK:s1=sf:=by
    rw [List.drop_length] at zg
    simpa [lSeq] using zg
   subst yK
   have wX:=EG.len
   obtain ⟨ov,sv,la1,lc1,NY,i',pi,hcut⟩:=hM.mkr.rulesL
   have HC:=Zh (hcut s.locals.length wX)
   have HM:=Zh hM
   clear hM hcut zg
   go_wp2_with fail
   go_end0
   refine ⟨rfl,a1,b1,c1,?_,HM.out.kp.trans ((Kp.set wr M 7 _).mono (fun k _ e=> .inl e)),HM.out.ha,HM.out.hb,HM.out.hc⟩
   exact HC.out
  ·obtain ⟨eb,eo,rfl, -,hb,yU⟩:=HR.out Za
   obtain ⟨y,hy⟩: ∃y,l[j]?=some y:=⟨l[j],zaC h2⟩
   obtain ⟨s2,xw,E7⟩:=yau zg hy
   obtain ⟨cs,wX,hE,xC⟩:=yU j y hy
   obtain ⟨pa,pc,xa,xc,ta,tc,ua,uc,rfl,r1,r2,r3⟩:=jC hE
   have c0:w0.cell? ⟨eb,eo+j*10,none⟩=_:=xC 0 _ rfl
   have c1':=xC 1 _ rfl
   have c2:=xC 2 _ rfl
   have c3:=xC 3 _ rfl
   have c4:=xC 4 _ rfl
   have c5:=xC 5 _ rfl
   have c6:=xC 6 _ rfl
   have c7:=xC 7 _ rfl
   have c8:=xC 8 _ rfl
   have c9:=xC 9 _ rfl
   have Gb:LLe s2 sf:=LLe.seq (fun x s r=>LLe.stmt n x s r) _ _ _ E7
   have yE:LFin s2:=Gb.fin Ad
   have D5:LExt s s2:=(EG.trans (LExt.of_eq (t:={s1 with line:=y.line}) rfl)).trans (lR n y _ _ xw)
   have za:=Zh (fun W a1 b1 c1 (hM:Mk w0 M a1 b1 c1 vv wv W {s1 with line:=y.line})=>KB.out W a1 b1 c1 _ y pa xa ta ua pc xc tc uc s2 hM xw yE hE)
   have KD:=Zh E7
   have HEX:=Zh D5
   obtain ⟨ov,sv,lv,i',pi⟩:=hM.mkr.rules
   have HM:=Zh hM
   clear hM xC hE yU hy wX xw zg E7 EG D5 Gb
   go_wp2_with fail
   (go_at_call 152;refine (za.out _ _ _ _ (ZD:MkA _ _ _ _ _ _ _ w _ _ _ _ _).mkr).mono ?_;intro e w1 hD;have hN:=MkA.nx hD ZD;clear hD HM;(try clear i' pi);obtain ⟨rfl,a1,b1,c1,ov,sv,lv,i',pi,j',HM,hm,hT,hrel⟩:=hN;(try simp only [Zz,aE] at hrel hm);(repeat ((first|((first|(with_reducible obtain ⟨hx,hy,wV,hT⟩:=ak (lo:=w.heap.size) hT Zo hrel ZE Zf)|(with_reducible obtain ⟨hx,hy,wV,hT⟩:=aj (lo:=w.heap.size) hT ZQ hrel ZE Zf));(try simp only [Zz,aE] at hx hy wV);rw [hx];clear hx)|(with_reducible replace hT:=hT.unmo)|(with_reducible replace hT:=hT.undr))));clear hT hrel)
   go_wp2_with fail
   refine ⟨⟨j+1,s2,a1,b1,c1,by simp,by omega,ZD,KD.out,HEX.out⟩,by simp [intOf];omega⟩
end
end Go.Proofs.YtcekjfmfcefjpaaGreatDoor
