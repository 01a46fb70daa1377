/- Walks. No condition. -/
import Derived.Deep.RegionHeld3
import Derived.Deep.CutRange
import Derived.Deep.MidRow
import Derived.Test.YtcekjfmfcefjpaaGreatDoorG05
set_option maxRecDepth 100000
set_option maxHeartbeats 0
set_option linter.all false
namespace Go.Proofs.YtcekjfmfcefjpaaGreatDoor
open Go.RowKit Go.Sort
theorem fS(i:Ins)(hi:i.rng)(w:qW):qC 41 #[insV i] w (Gives w (.bool (enc i).isSome)):=by
 have E:=Zh (fun W=>m7 i hi W)
 generalize ((((enc i).getD 0:Nat)):Int)=V at E
 generalize (enc i).isSome=b at E ⊢
 obtain ⟨op,d,n,m,e,sz,imm⟩:=i
 unfold insV
 clear hi
 simp only at*
 cases b
 all_goals
  simp at E
  go_enter Tryz.func41,Tryz.ntmps41
  go_wp2_with (first|(go_at_call 80;refine (E.out _).mono ?_;rintro e w1 ⟨rfl,p,rfl⟩))
  go_ret
  exact Gives.mk rfl Z1
theorem jv(w:qW)(s:St)(t:TypeId):ao (w.alloc (.cells (stC s.f) t)) w.heap.size s:=fun k hk=>by
 refine ⟨?_,?_⟩
 ·rw [aR,if_neg Za,if_pos rfl,ee,if_pos hk]
 ·rw [dU,if_neg Za]
def IAt(w:qW)(B:Nat)(i:Ins):Prop:=w.cell? (aB B 0)=some (iI i.op)/\w.cell? (aB B 1)=some (iI i.d)/\w.cell? (aB B 2)=some (iI i.n)/\w.cell? (aB B 3)=some (iI i.m)/\w.cell? (aB B 4)=some (iI i.e)/\w.cell? (aB B 5)=some (iI i.sz)/\w.cell? (aB B 6)=some (iI i.imm)
theorem IAt.below{w w':qW}{B:Nat}{i:Ins}(h:IAt w B i)(hb:Below w.heap.size w w'):IAt w' B i:=by
 have hl:B<w.heap.size:=aG h.1
 obtain ⟨h0,h1,h2,h3,h4,h5,h6⟩:=h
 exact ⟨(hb.cell (p:=⟨B,0,none⟩) hl).trans h0,(hb.cell (p:=⟨B,1,none⟩) hl).trans h1,(hb.cell (p:=⟨B,2,none⟩) hl).trans h2,(hb.cell (p:=⟨B,3,none⟩) hl).trans h3,(hb.cell (p:=⟨B,4,none⟩) hl).trans h4,(hb.cell (p:=⟨B,5,none⟩) hl).trans h5,(hb.cell (p:=⟨B,6,none⟩) hl).trans h6⟩
def aC(w:qW)(B:Nat)(x:Bool)(a l:Int)(ex acq rel:Bool)(d0 d1:Int):Prop:=
 (w.cell? (aB B 0)=some (.bool x)/\w.cell? (aB B 1)=some (iI a)/\w.cell? (aB B 2)=some (iI l)/\w.cell? (aB B 3)=some (.bool ex)/\w.cell? (aB B 4)=some (.bool acq)/\w.cell? (aB B 5)=some (.bool rel)
  /\w.cell? (aB B 6)=some (.int .u64 d0)/\w.cell? (aB B 7)=some (.int .u64 d1))/\(w.frozen? (aB B 0)=false/\w.frozen? (aB B 1)=false/\w.frozen? (aB B 2)=false/\w.frozen? (aB B 3)=false
  /\w.frozen? (aB B 4)=false/\w.frozen? (aB B 5)=false/\w.frozen? (aB B 6)=false/\w.frozen? (aB B 7)=false)
def accV(w:Bool)(a l:Int)(ex acq rel:Bool)(d0 d1:Int):qV:= .agg #[.bool w,iI a,iI l,.bool ex,.bool acq,.bool rel,.int .u64 d0,.int .u64 d1]
def acqB(op:Int):Bool:=(op==19||op==22)||op==26
def relB(op:Int):Bool:=(op==20||op==24)||op==28
def bC(s:St)(i:Ins):Int:=if wrB i.op then (if paB i.op then (getX s i.d:Nat) else bits .and .u64 (getX s i.d:Nat) (mask (8*lenI i):Nat)) else 0
def bB(s:St)(i:Ins):Int:=if wrB i.op&&paB i.op then (getX s i.e:Nat) else 0
theorem dg{i:Ins}(hf:Facts i):1<=lenI i/\lenI i<=16:=by
 unfold lenI
 have:=hf.sz
 split
 ·omega
 ·have h:i.sz=0\/i.sz=1\/i.sz=2\/i.sz=3:=by omega
  rcases h with h|h|h|h<;>rw [h]<;>simp
theorem ye5(s:St)(i:Ins)(hi:i.rng)(h:(enc i).isSome=false\/meB i.op=false)(w:qW):qC 18 #[stV s,insV i] w (Gives w (.tuple #[accV false 0 0 false false false 0 0,.bool false])):=by
 have SO:=Zh (fun W=>fS i hi W)
 have ME:=Zh (fun W=>gD i.op W)
 generalize (enc i).isSome=b at*
 generalize meB i.op=m1 at*
 obtain ⟨op,d,n,m,e,sz,imm⟩:=i
 unfold insV stV accV at*
 generalize s.f=f
 clear hi
 simp only at*
 rcases h with rfl|rfl
 ·go_enter Tryz.func18,Tryz.ntmps18
  go_wp2_with (first
   |(go_at_call 41;refine (SO.out _).mono ?_;rintro e w1 ⟨rfl,p,rfl⟩)
   |(go_at_call 42;refine (ME.out _).mono ?_;rintro e w1 ⟨rfl,rfl⟩))
  go_returns
  exact Gives.mk rfl Z1
 ·cases b
  all_goals
   go_enter Tryz.func18,Tryz.ntmps18
   go_wp2_with (first
    |(go_at_call 41;refine (SO.out _).mono ?_;rintro e w1 ⟨rfl,p,rfl⟩)
    |(go_at_call 42;refine (ME.out _).mono ?_;rintro e w1 ⟨rfl,rfl⟩))
   go_returns
   exact Gives.mk rfl Z1
theorem ed{w:qW}{B:Nat}{s:St}(h:ao w B s){b k:Nat}{v:qV}(hb:B≠b):ao (w.setCell ⟨b,k,none⟩ v) B s:=fun j hj=>by
 refine ⟨?_,?_⟩
 ·rw [zaH _ _ _ _ (fun e=>hb (congrArg Addr.block e).symm)]
  exact (h j hj).1
 ·rw [zaG]
  exact (h j hj).2
theorem aU{w:qW}{B:Nat}{s:St}(h:ao w B s)(p:Regrown):ao (more w p) B s:=h.below (av w p)
theorem ybR(w:qW)(i:Ins)(t:TypeId):IAt (w.alloc (.cells #[iI i.op,iI i.d,iI i.n,iI i.m,iI i.e,iI i.sz,iI i.imm] t)) w.heap.size i:=by
 unfold IAt
 simp [aR]
theorem yfl(w:qW)(x:Bool)(a l:Int)(ex acq rel:Bool)(d0 d1:Int)(t:TypeId):aC (w.alloc (.cells #[.bool x,iI a,iI l,.bool ex,.bool acq,.bool rel,.int .u64 d0,.int .u64 d1] t)) w.heap.size x a l ex acq rel d0 d1:=by
 unfold aC
 simp [aR,dU]
theorem ig(w:qW)(i:Ins)(t:TypeId)(B:Nat)(hB:w.heap.size=B):IAt (w.alloc (.cells #[iI i.op,iI i.d,iI i.n,iI i.m,iI i.e,iI i.sz,iI i.imm] t)) B i:=hB ▸ ybR w i t
theorem fI(w:qW)(x:Bool)(a l:Int)(ex acq rel:Bool)(d0 d1:Int)(t:TypeId)(B:Nat)(hB:w.heap.size=B):aC (w.alloc (.cells #[.bool x,iI a,iI l,.bool ex,.bool acq,.bool rel,.int .u64 d0,.int .u64 d1] t)) B x a l ex acq rel d0 d1:=hB ▸ yfl w x a l ex acq rel d0 d1 t
theorem aC.below{w w':qW}{B:Nat}{x:Bool}{a l:Int}{ex acq rel:Bool}{d0 d1:Int}(h:aC w B x a l ex acq rel d0 d1)(hb:Below w.heap.size w w'):aC w' B x a l ex acq rel d0 d1:=by
 have hl:B<w.heap.size:=aG h.1.1
 unfold aC at*
 have hc:=fun k=>hb.cell (p:=⟨B,k,none⟩) hl
 have hf:=fun k=>hb.frozen (p:=⟨B,k,none⟩) hl
 simp only [hc,hf]
 exact h
theorem fJ{w:qW}{B:Nat}{x:Bool}{a l:Int}{ex acq rel:Bool}{d0 d1:Int}(h:aC w B x a l ex acq rel d0 d1)(p:Regrown):aC (more w p) B x a l ex acq rel d0 d1:=h.below (av w p)
theorem f8{P:Program}{fn:Func}{tmps:Array qV}{w:qW}{T:TypeId}{c t B:Nat}{v:qV}(hr:fn.results=#[.cell c T,.tmp t])(hp:tmps.getD c undef=pP B)
  (hl:(loadVar T ⟨B,0,none⟩).run P w= .ok v w):(results fn tmps).run P w= .ok (.tuple #[v,tmps.getD t undef]) w:=by
 unfold results
 rw [hr]
 have Jl:(tmps[c]?).getD undef=pP B:=by simpa [zaI] using hp
 simp [Jl,asAddr,hl]
theorem aC.set4{w:qW}{B:Nat}{x:Bool}{a l:Int}{ex acq rel:Bool}{d0 d1:Int}(h:aC w B x a l ex acq rel d0 d1)(q:Bool):aC (w.setCell ⟨B,4,none⟩ (.bool q)) B x a l ex q rel d0 d1:=by
 obtain ⟨⟨c0,c1,c2,c3,c4,c5,c6,c7⟩,z0,z1,z2,z3,z4,z5,z6,z7⟩:=h
 unfold aC
 refine ⟨⟨?_,?_,?_,?_,zaF _ _ _ c4,?_,?_,?_⟩,?_,?_,?_,?_,?_,?_,?_,?_⟩
 all_goals first|(rw [zaG];assumption)|(rw [zaH _ _ _ _ Zi];assumption)
theorem aC.set5{w:qW}{B:Nat}{x:Bool}{a l:Int}{ex acq rel:Bool}{d0 d1:Int}(h:aC w B x a l ex acq rel d0 d1)(q:Bool):aC (w.setCell ⟨B,5,none⟩ (.bool q)) B x a l ex acq q d0 d1:=by
 obtain ⟨⟨c0,c1,c2,c3,c4,c5,c6,c7⟩,z0,z1,z2,z3,z4,z5,z6,z7⟩:=h
 unfold aC
 refine ⟨⟨?_,?_,?_,?_,?_,zaF _ _ _ c5,?_,?_⟩,?_,?_,?_,?_,?_,?_,?_,?_⟩
 all_goals first|(rw [zaG];assumption)|(rw [zaH _ _ _ _ Zi];assumption)
theorem aC.far{w:qW}{B:Nat}{x:Bool}{a l:Int}{ex acq rel:Bool}{d0 d1:Int}(h:aC w B x a l ex acq rel d0 d1){b k:Nat}{v:qV}(hb:B≠b):aC (w.setCell ⟨b,k,none⟩ v) B x a l ex acq rel d0 d1:=by
 have hc: ∀j,(w.setCell ⟨b,k,none⟩ v).cell? (aB B j)=w.cell? (aB B j):=fun j=>zaH _ _ _ _ (fun e=>hb (congrArg Addr.block e).symm)
 have hf: ∀j,(w.setCell ⟨b,k,none⟩ v).frozen? (aB B j)=w.frozen? (aB B j):=fun j=>zaG _ _ _ _
 unfold aC at*
 simp only [hc,hf]
 exact h
theorem IAt.far{w:qW}{B:Nat}{i:Ins}(h:IAt w B i){b k:Nat}{v:qV}(hb:B≠b):IAt (w.setCell ⟨b,k,none⟩ v) B i:=by
 have hc: ∀j,(w.setCell ⟨b,k,none⟩ v).cell? (aB B j)=w.cell? (aB B j):=fun j=>zaH _ _ _ _ (fun e=>hb (congrArg Addr.block e).symm)
 unfold IAt at*
 simp only [hc]
 exact h
theorem aC.there{w:qW}{B:Nat}{x:Bool}{a l:Int}{ex acq rel:Bool}{d0 d1:Int}(h:aC w B x a l ex acq rel d0 d1):w.there B 0 8:=fun j hj=>by
 obtain ⟨⟨c0,c1,c2,c3,c4,c5,c6,c7⟩,z0,z1,z2,z3,z4,z5,z6,z7⟩:=h
 have h8:j=0\/j=1\/j=2\/j=3\/j=4\/j=5\/j=6\/j=7:=by omega
 rcases h8 with rfl|rfl|rfl|rfl|rfl|rfl|rfl|rfl<;>simp [*]
structure AskW(w wx:qW)(s:St)(i:Ins)(b:Nat)(x:Bool)(a l:Int)(ex acq rel:Bool)(d0 d1:Int):Prop where
 st:ao wx w.heap.size s
 ins:IAt wx (w.heap.size+1) i
 res:aC wx (w.heap.size+1+1) false 0 0 false false false 0 0
 acc:aC wx b x a l ex acq rel d0 d1
 lo:w.heap.size+3<=b
 below:Below w.heap.size w wx
theorem AskW.set4{w wx:qW}{s:St}{i:Ins}{b:Nat}{x:Bool}{a l:Int}{ex acq rel:Bool}{d0 d1:Int}(h:AskW w wx s i b x a l ex acq rel d0 d1)(q:Bool):AskW w (wx.setCell ⟨b,4,none⟩ (.bool q)) s i b x a l ex q rel d0 d1:=by
 have:=h.lo
 exact ⟨ed h.st Za,h.ins.far Za,h.res.far Za,h.acc.set4 q,h.lo,ax h.below (by simp only [];omega) _⟩
theorem AskW.set5{w wx:qW}{s:St}{i:Ins}{b:Nat}{x:Bool}{a l:Int}{ex acq rel:Bool}{d0 d1:Int}(h:AskW w wx s i b x a l ex acq rel d0 d1)(q:Bool):AskW w (wx.setCell ⟨b,5,none⟩ (.bool q)) s i b x a l ex acq q d0 d1:=by
 have:=h.lo
 exact ⟨ed h.st Za,h.ins.far Za,h.res.far Za,h.acc.set5 q,h.lo,ax h.below (by simp only [];omega) _⟩
theorem nV{w wx:qW}{s:St}{i:Ins}{b:Nat}{x:Bool}{a l:Int}{ex acq rel:Bool}{d0 d1 op:Int}(h:AskW w wx s i b x a l ex acq rel d0 d1)(hq:op=19\/op=22\/op=26):AskW w (wx.setCell ⟨b,4,none⟩ (.bool true)) s i b x a l ex (op==19||op==22||op==26) rel d0 d1:=by
 rw [show (op==19||op==22||op==26)=true by simp;omega]
 exact h.set4 true
theorem nW{w wx:qW}{s:St}{i:Ins}{b:Nat}{x:Bool}{a l:Int}{ex acq rel:Bool}{d0 d1 op:Int}(h:AskW w wx s i b x a l ex acq rel d0 d1)(hq: ¬(op=19\/op=22\/op=26)):AskW w (wx.setCell ⟨b,4,none⟩ (.bool false)) s i b x a l ex (op==19||op==22||op==26) rel d0 d1:=by
 rw [show (op==19||op==22||op==26)=false by simp;omega]
 exact h.set4 false
theorem nT{w wx:qW}{s:St}{i:Ins}{b:Nat}{x:Bool}{a l:Int}{ex acq rel:Bool}{d0 d1 op:Int}(h:AskW w wx s i b x a l ex acq rel d0 d1)(hq:op=20\/op=24\/op=28):AskW w (wx.setCell ⟨b,5,none⟩ (.bool true)) s i b x a l ex acq (op==20||op==24||op==28) d0 d1:=by
 rw [show (op==20||op==24||op==28)=true by simp;omega]
 exact h.set5 true
theorem nU{w wx:qW}{s:St}{i:Ins}{b:Nat}{x:Bool}{a l:Int}{ex acq rel:Bool}{d0 d1 op:Int}(h:AskW w wx s i b x a l ex acq rel d0 d1)(hq: ¬(op=20\/op=24\/op=28)):AskW w (wx.setCell ⟨b,5,none⟩ (.bool false)) s i b x a l ex acq (op==20||op==24||op==28) d0 d1:=by
 rw [show (op==20||op==24||op==28)=false by simp;omega]
 exact h.set5 false
theorem nS{Y:qW}{r:Nat}{q:Bool}{tmps:Array qV}{v0 v1 v2 v3 v4 v5 v6 v7:qV}(hY:Y.there r 0 8)(h4:tmps.getD 4 undef=pP r)(h5:tmps.getD 5 undef= .bool q):
  (results Tryz.f18 tmps).run Tryz.prog ((((((((Y.setCell ⟨r,0,none⟩ v0).setCell ⟨r,1,none⟩ v1).setCell ⟨r,2,none⟩ v2).setCell ⟨r,3,none⟩ v3).setCell ⟨r,4,none⟩ v4).setCell ⟨r,5,none⟩ v5).setCell ⟨r,6,none⟩ v6).setCell ⟨r,7,none⟩ v7)= .ok (.tuple #[.agg #[v0,v1,v2,v3,v4,v5,v6,v7],.bool q]) ((((((((Y.setCell ⟨r,0,none⟩ v0).setCell ⟨r,1,none⟩ v1).setCell ⟨r,2,none⟩ v2).setCell ⟨r,3,none⟩ v3).setCell ⟨r,4,none⟩ v4).setCell ⟨r,5,none⟩ v5).setCell ⟨r,6,none⟩ v6).setCell ⟨r,7,none⟩ v7):=by
 have hr:(World.setCells Y r 0 [v0,v1,v2,v3,v4,v5,v6,v7]).rangeAt r 0 [v0,v1,v2,v3,v4,v5,v6,v7]:=World.rangeAt_setCells_same Y r 0 [v0,v1,v2,v3,v4,v5,v6,v7] hY
 have hl:=run_loadVar_mid (P:=Tryz.prog) (World.setCells Y r 0 [v0,v1,v2,v3,v4,v5,v6,v7]) r 0 42 [v0,v1,v2,v3,v4,v5,v6,v7] _ hr Tryz.underlying42 rfl Zb
 have:=f8 (fn:=Tryz.f18) (t:=5) (show Tryz.f18.results=#[.cell 4 42,.tmp 5] from rfl) h4 hl
 rw [h5] at this
 exact this
theorem nN{a Y:qW}{r:Nat}{v0 v1 v2 v3 v4 v5 v6 v7:qV}(h:Below a.heap.size a Y)(hr:a.heap.size<=r):Below a.heap.size a ((((((((Y.setCell ⟨r,0,none⟩ v0).setCell ⟨r,1,none⟩ v1).setCell ⟨r,2,none⟩ v2).setCell ⟨r,3,none⟩ v3).setCell ⟨r,4,none⟩ v4).setCell ⟨r,5,none⟩ v5).setCell ⟨r,6,none⟩ v6).setCell ⟨r,7,none⟩ v7):=
 ax (ax (ax (ax (ax (ax (ax (ax h hr v0) hr v1) hr v2) hr v3) hr v4) hr v5) hr v6) hr v7
theorem aC.set6{w:qW}{B:Nat}{x:Bool}{a l:Int}{ex acq rel:Bool}{d0 d1:Int}(h:aC w B x a l ex acq rel d0 d1)(q:Int):aC (w.setCell ⟨B,6,none⟩ (.int .u64 q)) B x a l ex acq rel q d1:=by
 obtain ⟨⟨c0,c1,c2,c3,c4,c5,c6,c7⟩,z0,z1,z2,z3,z4,z5,z6,z7⟩:=h
 unfold aC
 refine ⟨⟨?_,?_,?_,?_,?_,?_,zaF _ _ _ c6,?_⟩,?_,?_,?_,?_,?_,?_,?_,?_⟩
 all_goals first|(rw [zaG];assumption)|(rw [zaH _ _ _ _ Zi];assumption)
theorem AskW.set6{w wx:qW}{s:St}{i:Ins}{b:Nat}{x:Bool}{a l:Int}{ex acq rel:Bool}{d0 d1:Int}(h:AskW w wx s i b x a l ex acq rel d0 d1)(q:Int):AskW w (wx.setCell ⟨b,6,none⟩ (.int .u64 q)) s i b x a l ex acq rel q d1:=by
 have:=h.lo
 exact ⟨ed h.st Za,h.ins.far Za,h.res.far Za,h.acc.set6 q,h.lo,ax h.below (by simp only [];omega) _⟩
theorem aC.set7{w:qW}{B:Nat}{x:Bool}{a l:Int}{ex acq rel:Bool}{d0 d1:Int}(h:aC w B x a l ex acq rel d0 d1)(q:Int):aC (w.setCell ⟨B,7,none⟩ (.int .u64 q)) B x a l ex acq rel d0 q:=by
 obtain ⟨⟨c0,c1,c2,c3,c4,c5,c6,c7⟩,z0,z1,z2,z3,z4,z5,z6,z7⟩:=h
 unfold aC
 refine ⟨⟨?_,?_,?_,?_,?_,?_,?_,zaF _ _ _ c7⟩,?_,?_,?_,?_,?_,?_,?_,?_⟩
 all_goals first|(rw [zaG];assumption)|(rw [zaH _ _ _ _ Zi];assumption)
theorem AskW.set7{w wx:qW}{s:St}{i:Ins}{b:Nat}{x:Bool}{a l:Int}{ex acq rel:Bool}{d0 d1:Int}(h:AskW w wx s i b x a l ex acq rel d0 d1)(q:Int):AskW w (wx.setCell ⟨b,7,none⟩ (.int .u64 q)) s i b x a l ex acq rel d0 q:=by
 have:=h.lo
 exact ⟨ed h.st Za,h.ins.far Za,h.res.far Za,h.acc.set7 q,h.lo,ax h.below (by simp only [];omega) _⟩
theorem AskW.more{w wx:qW}{s:St}{i:Ins}{b:Nat}{x:Bool}{a l:Int}{ex acq rel:Bool}{d0 d1:Int}(h:AskW w wx s i b x a l ex acq rel d0 d1)(p:Regrown):AskW w (more wx p) s i b x a l ex acq rel d0 d1:=
 ⟨aU h.st p,h.ins.below (av _ _),fJ h.res p,fJ h.acc p,h.lo,aF h.below p⟩
theorem ye4(s:St)(i:Ins)(hi:i.rng)(hs:s.ok)(v:Nat)(h:enc i=some v)(hm:meB i.op=true)(hp:paB i.op=false)(w:qW):qC 18 #[stV s,insV i] w
  (Gives w (.tuple #[accV (wrB i.op) (spanA s i) (lenI i) (exB i.op) (acqB i.op) (relB i.op) (bC s i) (bB s i),.bool true])):=by
 have hf:=dt h
 have SO:=Zh (fun W=>fS i hi W)
 rw [h] at SO
 have ME:=Zh (fun W=>bO (gD i.op W))
 rw [hm] at ME
 have WR:=Zh (fun W=>bO (dV i.op W))
 have EX:=Zh (fun W=>bO (eC i.op W))
 have PA:=Zh (fun W=>bO (dH i.op W))
 have S0:=Zh (jv w s 79)
 have HS:=Zh (fun (W:qW) (h:Below (w.alloc (.cells (stC s.f) 79)).heap.size (w.alloc (.cells (stC s.f) 79)) W)=>ao.below S0.out h)
 have WH:=Zh (fun W h=>dW s i hf hs w.heap.size W h)
 have G:=Zh (fun n hn W h=>fz s n hn w.heap.size W h)
 have hl:=dg hf
 have MK:=Zh (fun W=>bO (dS (8*lenI i) Za Za W))
 have hd:=hf.d
 have he:=hf.e
 have e0:=Zh (bC.eq_1 s i)
 have e1:=Zh (bB.eq_1 s i)
 have gd:=bX hs i.d
 have ge:=bX hs i.e
 generalize bC s i=A0 at e0 ⊢
 generalize bB s i=A1 at e1 ⊢
 unfold acqB relB
 generalize wrB i.op=w1 at*
 generalize paB i.op=p1 at*
 subst hp
 generalize exB i.op=x1 at*
 generalize spanA s i=SA at*
 generalize lenI i=L at*
 clear hi hs h hm hf S0
 obtain ⟨op,d,n,m,e,sz,imm⟩:=i
 unfold insV stV spV accV at*
 generalize mask (8*L)=mk at*
 simp only at*
 cases w1
 ·have q0:=e0.out
  have q1:=e1.out
  simp at q0 q1
  subst q0 q1
  clear e0 e1
  have K1:=Zh (fun (W:qW) (h:Below ((w.alloc (.cells (stC s.f) 79)).alloc (.cells #[iI op,iI d,iI n,iI m,iI e,iI sz,iI imm] 85)).heap.size ((w.alloc (.cells (stC s.f) 79)).alloc (.cells #[iI op,iI d,iI n,iI m,iI e,iI sz,iI imm] 85)) W)=>IAt.below (ig (w.alloc (.cells (stC s.f) 79)) ⟨op,d,n,m,e,sz,imm⟩ 85 (w.heap.size+1) Zi) h)
  have K2:=Zh (fun (W:qW) (h:Below (((w.alloc (.cells (stC s.f) 79)).alloc (.cells #[iI op,iI d,iI n,iI m,iI e,iI sz,iI imm] 85)).alloc (.cells #[.bool false,iI 0,iI 0,.bool false,.bool false,.bool false,.int .u64 0,.int .u64 0] 42)).heap.size (((w.alloc (.cells (stC s.f) 79)).alloc (.cells #[iI op,iI d,iI n,iI m,iI e,iI sz,iI imm] 85)).alloc (.cells #[.bool false,iI 0,iI 0,.bool false,.bool false,.bool false,.int .u64 0,.int .u64 0] 42)) W)=>aC.below (fI ((w.alloc (.cells (stC s.f) 79)).alloc (.cells #[iI op,iI d,iI n,iI m,iI e,iI sz,iI imm] 85)) false 0 0 false false false 0 0 42 (w.heap.size+1+1) Zi) h)
  go_enter Tryz.func18,Tryz.ntmps18
  go_upto_region 3 with (first
   |(go_at_call 41;refine (SO.out _).mono ?_;rintro e w1 ⟨rfl,p,rfl⟩)
   |(go_at_call 42;refine (ME.out _).mono ?_;rintro e w1 ⟨rfl,p2,rfl⟩))
  go_cut [6] from 17 to 25 (fun t6 wx=> ∃b,t6=pP b/\AskW w wx s ⟨op,d,n,m,e,sz,imm⟩ b false SA L x1 false false 0 0)
  case first=>
   go_region_held3 (fun W=>W.cell? ⟨w.heap.size+1,0,none⟩=some (iI op)/\W.cell? ⟨w.heap.size+1,1,none⟩=some (iI d)/\W.cell? ⟨w.heap.size+1,2,none⟩=some (iI n)/\W.cell? ⟨w.heap.size+1,3,none⟩=some (iI m)/\W.cell? ⟨w.heap.size+1,4,none⟩=some (iI e)/\W.cell? ⟨w.heap.size+1,5,none⟩=some (iI sz)/\W.cell? ⟨w.heap.size+1,6,none⟩=some (iI imm)) (first|(simp [go_sem,↓IntWalk.iteOmega];done)|(simp [go_sem,↓IntWalk.iteOmega];omega)) (first
    |(go_at_call 43;refine (WR.out _).mono ?_;rintro e w1 ⟨rfl,p3,rfl⟩)
    |(go_at_call 45;refine (EX.out _).mono ?_;rintro e w1 ⟨rfl,p3,rfl⟩)
    |(go_at_call 44;refine (WH.out _ (HS.out _ Z1)).mono ?_;rintro e w1 ⟨rfl,p3,rfl⟩))
   all_goals
    go_wp2_with fail
    go_meet
    refine ⟨_,rfl,HS.out _ Z1,K1.out _ Z1,K2.out _ Z1,?_,by omega,Z1⟩
    repeat refine fJ ?_ _
    exact fI _ _ _ _ _ _ _ _ _ _ _ (by first|rfl|simp [go_sem])
  case rest=>
   clear HS K1 K2 WH SO ME WR EX
   obtain ⟨b,rfl,hA⟩:=hcut
   go_upto_region 4 with fail
   go_cut [] from 26 to 38 (fun wx=>AskW w wx s ⟨op,d,n,m,e,sz,imm⟩ b false SA L x1 (op==19||op==22||op==26) false 0 0)
   case first=>
    have za:=Zh hA.st
    have h2:=hA.ins
    have h4:=hA.acc
    have h3:=hA.res
    have h5:=hA.lo
    have l1:b<_:=aG hA.acc.1.1
    have l2:w.heap.size+1+1<_:=aG hA.res.1.1
    have l3:w.heap.size+1<_:=aG hA.ins.1
    have l4:w.heap.size<_:=hA.st.lt
    unfold IAt at h2
    unfold aC at h3 h4
    obtain ⟨i0,i1,i2,i3,i4,i5,i6⟩:=h2
    obtain ⟨⟨r0,r1,r2,r3,r4,r5,r6,r7⟩,s0,s1,s2,s3,s4,s5,s6,s7⟩:=h3
    obtain ⟨⟨c0,c1,c2,c3,c4,c5,c6,c7⟩,z0,z1,z2,z3,z4,z5,z6,z7⟩:=h4
    have n1: ¬b=w.heap.size+1+1:=by omega
    have n2: ¬w.heap.size+1+1=b:=by omega
    have n3: ¬b=w.heap.size+1:=by omega
    have n4: ¬w.heap.size+1=b:=by omega
    have HA:=Zh hA
    clear hA
    go_wp2_with fail
    all_goals
     try subst_vars
     go_meet
     first
      |(refine nV HA.out ?_;omega)
      |(refine nW HA.out ?_;omega)
      |exact HA.out.set4 _
   case rest=>
    clear hA
    have hA:=hcut
    clear hcut
    go_upto_region 5 with fail
    go_cut [] from 39 to 53 (fun wx=>AskW w wx s ⟨op,d,n,m,e,sz,imm⟩ b false SA L x1 (op==19||op==22||op==26) (op==20||op==24||op==28) 0 0)
    case first=>
     have za:=Zh hA.st
     have h2:=hA.ins
     have h4:=hA.acc
     have h3:=hA.res
     have h5:=hA.lo
     have l1:b<_:=aG hA.acc.1.1
     have l2:w.heap.size+1+1<_:=aG hA.res.1.1
     have l3:w.heap.size+1<_:=aG hA.ins.1
     have l4:w.heap.size<_:=hA.st.lt
     unfold IAt at h2
     unfold aC at h3 h4
     obtain ⟨i0,i1,i2,i3,i4,i5,i6⟩:=h2
     obtain ⟨⟨r0,r1,r2,r3,r4,r5,r6,r7⟩,s0,s1,s2,s3,s4,s5,s6,s7⟩:=h3
     obtain ⟨⟨c0,c1,c2,c3,c4,c5,c6,c7⟩,z0,z1,z2,z3,z4,z5,z6,z7⟩:=h4
     have n1: ¬b=w.heap.size+1+1:=by omega
     have n2: ¬w.heap.size+1+1=b:=by omega
     have n3: ¬b=w.heap.size+1:=by omega
     have n4: ¬w.heap.size+1=b:=by omega
     have HA:=Zh hA
     clear hA
     go_wp2_with fail
     all_goals
      try subst_vars
      go_meet
      first
       |(refine nT HA.out ?_;omega)
       |(refine nU HA.out ?_;omega)
       |exact HA.out.set5 _
    case rest=>
     clear hA
     have hA:=hcut
     clear hcut
     have za:=Zh hA.st
     have h2:=hA.ins
     have h4:=hA.acc
     have h3:=hA.res
     have h5:=hA.lo
     have l1:b<_:=aG hA.acc.1.1
     have l2:w.heap.size+1+1<_:=aG hA.res.1.1
     have l3:w.heap.size+1<_:=aG hA.ins.1
     have l4:w.heap.size<_:=hA.st.lt
     unfold IAt at h2
     unfold aC at h3 h4
     obtain ⟨i0,i1,i2,i3,i4,i5,i6⟩:=h2
     obtain ⟨⟨r0,r1,r2,r3,r4,r5,r6,r7⟩,s0,s1,s2,s3,s4,s5,s6,s7⟩:=h3
     obtain ⟨⟨c0,c1,c2,c3,c4,c5,c6,c7⟩,z0,z1,z2,z3,z4,z5,z6,z7⟩:=h4
     have n1: ¬b=w.heap.size+1+1:=by omega
     have n2: ¬w.heap.size+1+1=b:=by omega
     have n3: ¬b=w.heap.size+1:=by omega
     have n4: ¬w.heap.size+1=b:=by omega
     have HA:=Zh hA
     clear hA
     go_wp2_with fail
     all_goals
      refine zad (v:=?va) ?hres rfl ?post
      case hres=>
       refine nS (q:=true) ?ca ?cb ?cc
       case ca=>exact HA.out.res.there
       case cb=>rfl
       case cc=>rfl
      case post=>exact Gives.mk rfl (nN HA.out.below Za)
 ·have q0:=e0.out
  have q1:=e1.out
  simp at q0 q1
  subst q1
  clear e0 e1
  have K1:=Zh (fun (W:qW) (h:Below ((w.alloc (.cells (stC s.f) 79)).alloc (.cells #[iI op,iI d,iI n,iI m,iI e,iI sz,iI imm] 85)).heap.size ((w.alloc (.cells (stC s.f) 79)).alloc (.cells #[iI op,iI d,iI n,iI m,iI e,iI sz,iI imm] 85)) W)=>IAt.below (ig (w.alloc (.cells (stC s.f) 79)) ⟨op,d,n,m,e,sz,imm⟩ 85 (w.heap.size+1) Zi) h)
  have K2:=Zh (fun (W:qW) (h:Below (((w.alloc (.cells (stC s.f) 79)).alloc (.cells #[iI op,iI d,iI n,iI m,iI e,iI sz,iI imm] 85)).alloc (.cells #[.bool false,iI 0,iI 0,.bool false,.bool false,.bool false,.int .u64 0,.int .u64 0] 42)).heap.size (((w.alloc (.cells (stC s.f) 79)).alloc (.cells #[iI op,iI d,iI n,iI m,iI e,iI sz,iI imm] 85)).alloc (.cells #[.bool false,iI 0,iI 0,.bool false,.bool false,.bool false,.int .u64 0,.int .u64 0] 42)) W)=>aC.below (fI ((w.alloc (.cells (stC s.f) 79)).alloc (.cells #[iI op,iI d,iI n,iI m,iI e,iI sz,iI imm] 85)) false 0 0 false false false 0 0 42 (w.heap.size+1+1) Zi) h)
  go_enter Tryz.func18,Tryz.ntmps18
  go_upto_region 3 with (first
   |(go_at_call 41;refine (SO.out _).mono ?_;rintro e w1 ⟨rfl,p,rfl⟩)
   |(go_at_call 42;refine (ME.out _).mono ?_;rintro e w1 ⟨rfl,p2,rfl⟩))
  go_cut [6] from 17 to 25 (fun t6 wx=> ∃b,t6=pP b/\AskW w wx s ⟨op,d,n,m,e,sz,imm⟩ b true SA L x1 false false 0 0)
  case first=>
   go_region_held3 (fun W=>W.cell? ⟨w.heap.size+1,0,none⟩=some (iI op)/\W.cell? ⟨w.heap.size+1,1,none⟩=some (iI d)/\W.cell? ⟨w.heap.size+1,2,none⟩=some (iI n)/\W.cell? ⟨w.heap.size+1,3,none⟩=some (iI m)/\W.cell? ⟨w.heap.size+1,4,none⟩=some (iI e)/\W.cell? ⟨w.heap.size+1,5,none⟩=some (iI sz)/\W.cell? ⟨w.heap.size+1,6,none⟩=some (iI imm)) (first|(simp [go_sem,↓IntWalk.iteOmega];done)|(simp [go_sem,↓IntWalk.iteOmega];omega)) (first
    |(go_at_call 43;refine (WR.out _).mono ?_;rintro e w1 ⟨rfl,p3,rfl⟩)
    |(go_at_call 45;refine (EX.out _).mono ?_;rintro e w1 ⟨rfl,p3,rfl⟩)
    |(go_at_call 44;refine (WH.out _ (HS.out _ Z1)).mono ?_;rintro e w1 ⟨rfl,p3,rfl⟩))
   all_goals
    go_wp2_with fail
    go_meet
    refine ⟨_,rfl,HS.out _ Z1,K1.out _ Z1,K2.out _ Z1,?_,by omega,Z1⟩
    repeat refine fJ ?_ _
    exact fI _ _ _ _ _ _ _ _ _ _ _ (by first|rfl|simp [go_sem])
  case rest=>
   clear HS K1 K2 WH SO ME WR EX
   obtain ⟨b,rfl,hA⟩:=hcut
   go_upto_region 4 with fail
   go_cut [] from 26 to 38 (fun wx=>AskW w wx s ⟨op,d,n,m,e,sz,imm⟩ b true SA L x1 (op==19||op==22||op==26) false 0 0)
   case first=>
    have za:=Zh hA.st
    have h2:=hA.ins
    have h4:=hA.acc
    have h3:=hA.res
    have h5:=hA.lo
    have l1:b<_:=aG hA.acc.1.1
    have l2:w.heap.size+1+1<_:=aG hA.res.1.1
    have l3:w.heap.size+1<_:=aG hA.ins.1
    have l4:w.heap.size<_:=hA.st.lt
    unfold IAt at h2
    unfold aC at h3 h4
    obtain ⟨i0,i1,i2,i3,i4,i5,i6⟩:=h2
    obtain ⟨⟨r0,r1,r2,r3,r4,r5,r6,r7⟩,s0,s1,s2,s3,s4,s5,s6,s7⟩:=h3
    obtain ⟨⟨c0,c1,c2,c3,c4,c5,c6,c7⟩,z0,z1,z2,z3,z4,z5,z6,z7⟩:=h4
    have n1: ¬b=w.heap.size+1+1:=by omega
    have n2: ¬w.heap.size+1+1=b:=by omega
    have n3: ¬b=w.heap.size+1:=by omega
    have n4: ¬w.heap.size+1=b:=by omega
    have HA:=Zh hA
    clear hA
    go_wp2_with fail
    all_goals
     try subst_vars
     go_meet
     first
      |(refine nV HA.out ?_;omega)
      |(refine nW HA.out ?_;omega)
      |exact HA.out.set4 _
   case rest=>
    clear hA
    have hA:=hcut
    clear hcut
    go_upto_region 5 with fail
    go_cut [] from 39 to 53 (fun wx=>AskW w wx s ⟨op,d,n,m,e,sz,imm⟩ b true SA L x1 (op==19||op==22||op==26) (op==20||op==24||op==28) 0 0)
    case first=>
     have za:=Zh hA.st
     have h2:=hA.ins
     have h4:=hA.acc
     have h3:=hA.res
     have h5:=hA.lo
     have l1:b<_:=aG hA.acc.1.1
     have l2:w.heap.size+1+1<_:=aG hA.res.1.1
     have l3:w.heap.size+1<_:=aG hA.ins.1
     have l4:w.heap.size<_:=hA.st.lt
     unfold IAt at h2
     unfold aC at h3 h4
     obtain ⟨i0,i1,i2,i3,i4,i5,i6⟩:=h2
     obtain ⟨⟨r0,r1,r2,r3,r4,r5,r6,r7⟩,s0,s1,s2,s3,s4,s5,s6,s7⟩:=h3
     obtain ⟨⟨c0,c1,c2,c3,c4,c5,c6,c7⟩,z0,z1,z2,z3,z4,z5,z6,z7⟩:=h4
     have n1: ¬b=w.heap.size+1+1:=by omega
     have n2: ¬w.heap.size+1+1=b:=by omega
     have n3: ¬b=w.heap.size+1:=by omega
     have n4: ¬w.heap.size+1=b:=by omega
     have HA:=Zh hA
     clear hA
     go_wp2_with fail
     all_goals
      try subst_vars
      go_meet
      first
       |(refine nT HA.out ?_;omega)
       |(refine nU HA.out ?_;omega)
       |exact HA.out.set5 _
    case rest=>
     clear hA
     have hA:=hcut
     clear hcut
     have za:=Zh hA.st
     have h2:=hA.ins
     have h4:=hA.acc
     have h3:=hA.res
     have h5:=hA.lo
     have l1:b<_:=aG hA.acc.1.1
     have l2:w.heap.size+1+1<_:=aG hA.res.1.1
     have l3:w.heap.size+1<_:=aG hA.ins.1
     have l4:w.heap.size<_:=hA.st.lt
     unfold IAt at h2
     unfold aC at h3 h4
     obtain ⟨i0,i1,i2,i3,i4,i5,i6⟩:=h2
     obtain ⟨⟨r0,r1,r2,r3,r4,r5,r6,r7⟩,s0,s1,s2,s3,s4,s5,s6,s7⟩:=h3
     obtain ⟨⟨c0,c1,c2,c3,c4,c5,c6,c7⟩,z0,z1,z2,z3,z4,z5,z6,z7⟩:=h4
     have n1: ¬b=w.heap.size+1+1:=by omega
     have n2: ¬w.heap.size+1+1=b:=by omega
     have n3: ¬b=w.heap.size+1:=by omega
     have n4: ¬w.heap.size+1=b:=by omega
     have HA:=Zh hA
     clear hA
     go_upto_region 8 with (first
      |(go_at_call 46;refine (G.out _ Za _ (by repeat (first|with_reducible exact za.out|with_reducible refine aU ?_ _|with_reducible refine ed ?_ Za))).mono ?_;rintro e w9 ⟨rfl,p9,rfl⟩)
      |(go_at_call 47;refine (PA.out _).mono ?_;rintro e w9 ⟨rfl,p8,rfl⟩))
     have hA:=(HA.out.set6 ((getX s d:Nat):Int)).more p9
     generalize (more (wc.setCell {block:=b,off:=6} (Value.int IntKind.u64 ((getX s d:Nat):Int))) p9)=wd at hA ⊢
     clear za HA i0 i1 i2 i3 i4 i5 i6 r0 r1 r2 r3 r4 r5 r6 r7 s0 s1 s2 s3 s4 s5 s6 s7 c0 c1 c2 c3 c4 c5 c6 c7 z0 z1 z2 z3 z4 z5 z6 z7 l1 l2 l3 l4 n1 n2 n3 n4 h5
     have za:=Zh hA.st
     have h2:=hA.ins
     have h4:=hA.acc
     have h3:=hA.res
     have h5:=hA.lo
     have l1:b<_:=aG hA.acc.1.1
     have l2:w.heap.size+1+1<_:=aG hA.res.1.1
     have l3:w.heap.size+1<_:=aG hA.ins.1
     have l4:w.heap.size<_:=hA.st.lt
     unfold IAt at h2
     unfold aC at h3 h4
     obtain ⟨i0,i1,i2,i3,i4,i5,i6⟩:=h2
     obtain ⟨⟨r0,r1,r2,r3,r4,r5,r6,r7⟩,s0,s1,s2,s3,s4,s5,s6,s7⟩:=h3
     obtain ⟨⟨c0,c1,c2,c3,c4,c5,c6,c7⟩,z0,z1,z2,z3,z4,z5,z6,z7⟩:=h4
     have n1: ¬b=w.heap.size+1+1:=by omega
     have n2: ¬w.heap.size+1+1=b:=by omega
     have n3: ¬b=w.heap.size+1:=by omega
     have n4: ¬w.heap.size+1=b:=by omega
     have HA:=Zh hA
     clear hA
     go_upto_region 10 with (go_at_call 47;refine (PA.out _).mono ?_;rintro e w9 ⟨rfl,p8,rfl⟩)
     have hA:=HA.out.more p8
     generalize (more wd p8)=wd at hA ⊢
     clear za HA i0 i1 i2 i3 i4 i5 i6 r0 r1 r2 r3 r4 r5 r6 r7 s0 s1 s2 s3 s4 s5 s6 s7 c0 c1 c2 c3 c4 c5 c6 c7 z0 z1 z2 z3 z4 z5 z6 z7 l1 l2 l3 l4 n1 n2 n3 n4 h5
     have za:=Zh hA.st
     have h2:=hA.ins
     have h4:=hA.acc
     have h3:=hA.res
     have h5:=hA.lo
     have l1:b<_:=aG hA.acc.1.1
     have l2:w.heap.size+1+1<_:=aG hA.res.1.1
     have l3:w.heap.size+1<_:=aG hA.ins.1
     have l4:w.heap.size<_:=hA.st.lt
     unfold IAt at h2
     unfold aC at h3 h4
     obtain ⟨i0,i1,i2,i3,i4,i5,i6⟩:=h2
     obtain ⟨⟨r0,r1,r2,r3,r4,r5,r6,r7⟩,s0,s1,s2,s3,s4,s5,s6,s7⟩:=h3
     obtain ⟨⟨c0,c1,c2,c3,c4,c5,c6,c7⟩,z0,z1,z2,z3,z4,z5,z6,z7⟩:=h4
     have n1: ¬b=w.heap.size+1+1:=by omega
     have n2: ¬w.heap.size+1+1=b:=by omega
     have n3: ¬b=w.heap.size+1:=by omega
     have n4: ¬w.heap.size+1=b:=by omega
     have HA:=Zh hA
     clear hA
     refine fM 11 Zb Zb ?_
     simp only [List.take_succ_cons,List.take_zero,List.drop_succ_cons,List.drop_zero]
     repeat (go_big_quiet_step (first|(go_at_call 48;exact ay (MK.out _))))
     refine zaE ?_
     intro p10
     go_upto_region 11 with fail
     have hA:=(HA.out.set6 (bits .and .u64 ((getX s d:Nat):Int) (mk:Nat))).more p10
     generalize (more (wd.setCell {block:=b,off:=6} (Value.int IntKind.u64 (bits .and .u64 ((getX s d:Nat):Int) (mk:Nat)))) p10)=wd at hA ⊢
     clear za HA i0 i1 i2 i3 i4 i5 i6 r0 r1 r2 r3 r4 r5 r6 r7 s0 s1 s2 s3 s4 s5 s6 s7 c0 c1 c2 c3 c4 c5 c6 c7 z0 z1 z2 z3 z4 z5 z6 z7 l1 l2 l3 l4 n1 n2 n3 n4 h5
     have za:=Zh hA.st
     have h2:=hA.ins
     have h4:=hA.acc
     have h3:=hA.res
     have h5:=hA.lo
     have l1:b<_:=aG hA.acc.1.1
     have l2:w.heap.size+1+1<_:=aG hA.res.1.1
     have l3:w.heap.size+1<_:=aG hA.ins.1
     have l4:w.heap.size<_:=hA.st.lt
     unfold IAt at h2
     unfold aC at h3 h4
     obtain ⟨i0,i1,i2,i3,i4,i5,i6⟩:=h2
     obtain ⟨⟨r0,r1,r2,r3,r4,r5,r6,r7⟩,s0,s1,s2,s3,s4,s5,s6,s7⟩:=h3
     obtain ⟨⟨c0,c1,c2,c3,c4,c5,c6,c7⟩,z0,z1,z2,z3,z4,z5,z6,z7⟩:=h4
     have n1: ¬b=w.heap.size+1+1:=by omega
     have n2: ¬w.heap.size+1+1=b:=by omega
     have n3: ¬b=w.heap.size+1:=by omega
     have n4: ¬w.heap.size+1=b:=by omega
     have HA:=Zh hA
     clear hA
     rw [<-q0] at HA c6
     go_wp2_with fail
     all_goals
      refine zad (v:=?vb) ?hres rfl ?post
      case hres=>
       refine nS (q:=true) ?ca ?cb ?cc
       case ca=>exact HA.out.res.there
       case cb=>rfl
       case cc=>rfl
      case post=>exact Gives.mk rfl (nN HA.out.below Za)
end Go.Proofs.YtcekjfmfcefjpaaGreatDoor
