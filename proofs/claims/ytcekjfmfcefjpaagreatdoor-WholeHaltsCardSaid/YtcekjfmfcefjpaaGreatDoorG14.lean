/- Walks. No condition. -/
import Derived.Laws.AppendOwn
import Derived.Handy
import Derived.Lib.Space
import Derived.Shelf.Strings.Fields
import Derived.Shelf.Pu.ParseUintPublic10
import Derived.Test.YtcekjfmfcefjpaaGreatDoorProg
import Derived.Test.YtcekjfmfcefjpaaGreatDoorG10
import Derived.Test.YtcekjfmfcefjpaaGreatDoorG13
set_option maxRecDepth 100000
set_option maxHeartbeats 0
set_option linter.all false
namespace Go.Proofs.YtcekjfmfcefjpaaGreatDoor
open Go.RowKit
structure LLe(s t:LS):Prop where
 ops:s.ops.length<=t.ops.length
 regs:s.regs<=t.regs
 labels:s.labels<=t.labels
 sites:s.sites.length<=t.sites.length
theorem LLe.refl(s:LS):LLe s s:=⟨zaq _,Int.le_refl _,Int.le_refl _,zaq _⟩
theorem LLe.trans{a b c:LS}(h:LLe a b)(k:LLe b c):LLe a c:=⟨zal h.ops k.ops,Int.le_trans h.regs k.regs,Int.le_trans h.labels k.labels,zal h.sites k.sites⟩
theorem LLe.add(o:OpD)(s:LS):LLe s (lAdd o s):=⟨by simp [lAdd],Int.le_refl _,Int.le_refl _,zaq _⟩
theorem LLe.fresh(s:LS):LLe s (lFresh s):=⟨zaq _,by simp [lFresh];omega,Int.le_refl _,zaq _⟩
theorem LLe.label(s:LS):LLe s (lLabel s):=⟨zaq _,Int.le_refl _,by simp [lLabel];omega,zaq _⟩
theorem LLe.site(k o:Int)(v:qB)(p:List PartD)(s:LS):LLe s (lSite k o v p s).2:=⟨zaq _,Int.le_refl _,Int.le_refl _,by simp [lSite]⟩
theorem LLe.number(n:Nat)(s:LS):LLe s (lNumber n s).2:=(LLe.fresh s).trans (LLe.add _ _)
theorem LLe.bin(op a b:Int)(s:LS):LLe s (lBin op a b s).2:=(LLe.fresh s).trans (LLe.add _ _)
theorem LLe.set(r x:Int)(s:LS):LLe s (lSet r x s):=LLe.add _ _
theorem LLe.mark(n:Int)(s:LS):LLe s (lMark n s):=LLe.add _ _
theorem LLe.jump(t r:Int)(s:LS):LLe s (lJump t r s):=by unfold lJump;split<;>exact LLe.add _ _
theorem LLe.line(l:Int)(s:LS):LLe s {s with line:=l}:=⟨zaq _,Int.le_refl _,Int.le_refl _,zaq _⟩
theorem LLe.locs(l:List (qB×Int))(s:LS):LLe s {s with locals:=l}:=⟨zaq _,Int.le_refl _,Int.le_refl _,zaq _⟩
theorem LLe.read{sp:Int×Int}{v:qB}{p:List PartD}{s:LS}{r:Int×LS}(h:lRead sp v p s=some r):LLe s r.2:=by
 unfold lRead at h
 split at h
 ·cases h
 ·cases h
  exact (LLe.number _ _).trans ((LLe.site _ _ _ _ _).trans ((LLe.fresh _).trans (LLe.add _ _)))
theorem LLe.atomic{e:Ex}{sp:Int×Int}{l:List Int}{s:LS}{r:Int×LS}(h:lAtomic e sp l s=some r):LLe s r.2:=by
 unfold lAtomic at h
 simp only at h
 split at h
 ·cases h
 ·cases h
  exact (LLe.number _ _).trans ((LLe.fresh _).trans ((LLe.site _ _ _ _ _).trans (LLe.add _ _)))
theorem LLe.all{f:Ex->LS->Option (Int×LS)}(hf: ∀x s r,f x s=some r->LLe s r.2): ∀(l:List Ex) (s:LS) (r:List Int×LS),lAll f l s=some r->LLe s r.2
 |[],s,r,h=>by cases h;exact LLe.refl _
 |x::l,s,r,h=>by
  simp only [lAll] at h
  split at h
  ·cases h
  rename_i v s1 h1
  split at h
  ·cases h
  rename_i q s2 h2
  cases h
  exact (hf x s _ h1).trans (LLe.all hf l s1 (q,s2) h2)
theorem LLe.expr{gl:List GlD}: ∀(n:Nat) (e:Ex) (s:LS) (r:Int×LS),lExpr gl n e s=some r->LLe s r.2
 |0,e,s,r,h=>by simp [lExpr] at h
 |n+1,e,s,r,h=>by
  unfold lExpr at h
  split at h
  ·cases h
   exact LLe.number _ _
  split at h
  ·rcases hf:lFind s e.name with _|q
   ·rw [hf] at h
    cases h
   ·rw [hf] at h
    cases h
    exact LLe.refl _
  split at h
  ·split at h
   ·rename_i x y hk
    split at h
    ·cases h
    rename_i a s1 h1
    split at h
    ·cases h
    rename_i b s2 h2
    cases h
    exact (LLe.expr n x s _ h1).trans ((LLe.expr n y s1 _ h2).trans (LLe.bin _ _ _ _))
   ·cases h
  split at h
  ·cases h
  split at h
  ·cases h
  split at h
  ·cases h
  rename_i l s1 h1
  exact (LLe.all (fun x s r=>LLe.expr n x s r) _ _ _ h1).trans (LLe.atomic h)
theorem LLe.seq{f:Sm->LS->Option LS}(hf: ∀x s r,f x s=some r->LLe s r): ∀(l:List Sm) (s r:LS),lSeq f l s=some r->LLe s r
 |[],s,r,h=>by cases h;exact LLe.refl _
 |x::l,s,r,h=>by
  simp only [lSeq] at h
  split at h
  ·cases h
  rename_i s1 h1
  exact (LLe.line _ _).trans ((hf x _ _ h1).trans (LLe.seq hf l s1 r h))
theorem LLe.block{f:Sm->LS->Option LS}(hf: ∀x s r,f x s=some r->LLe s r)(l:List Sm)(s r:LS)(h:lBlock f l s=some r):LLe s r:=by
 unfold lBlock at h
 rcases hq:lSeq f l s with _|s1
 ·rw [hq] at h
  cases h
 rw [hq] at h
 cases h
 exact (LLe.seq hf l s s1 hq).trans (LLe.locs _ _)
theorem bh{gl:List GlD}{l:List Ex}{s:LS}{f:Int->LS->Option LS}{r:LS}(h:lOne gl l s f=some r): ∃e v s1,l=[e]/\lExpr gl 66 e s=some (v,s1)/\f v s1=some r:=by
 unfold lOne at h
 split at h
 ·rename_i e
  split at h
  ·cases h
  rename_i v s1 h1
  exact ⟨e,v,s1,rfl,h1,h⟩
 ·cases h
theorem LLe.put(o:OpD)(k order:Int)(sp:Int×Int)(v:qB)(p:List PartD)(s:LS):LLe s (lPut o k order sp v p s):=(LLe.number _ _).trans ((LLe.site _ _ _ _ _).trans (LLe.add _ _))
theorem LLe.fence(x:Sm)(s:LS):LLe s (lFence x s):=(LLe.site _ _ _ _ _).trans (LLe.add _ _)
theorem LLe.let_{gl:List GlD}{x:Sm}{s r:LS}(h:lLet gl x s=some r):LLe s r:=by
 obtain ⟨e,v,s1, -,h1,h2⟩:=bh h
 cases h2
 exact (LLe.expr _ _ _ _ h1).trans ((LLe.fresh _).trans ((LLe.set _ _ _).trans (LLe.locs _ _)))
theorem LLe.setS{gl:List GlD}{x:Sm}{s r:LS}(h:lSetS gl x s=some r):LLe s r:=by
 obtain ⟨e,v,s1, -,h1,h2⟩:=bh h
 rcases hf:lFind s1 x.name with _|q
 ·rw [hf] at h2
  cases h2
 ·rw [hf] at h2
  cases h2
  exact (LLe.expr _ _ _ _ h1).trans (LLe.set _ _ _)
theorem LLe.write{gl:List GlD}{x:Sm}{s r:LS}(h:lWrite gl x s=some r):LLe s r:=by
 unfold lWrite at h
 split at h
 ·cases h
 split at h
 ·cases h
 obtain ⟨e,v,s1, -,h1,h2⟩:=bh h
 cases h2
 exact (LLe.expr _ _ _ _ h1).trans (LLe.put _ _ _ _ _ _ _)
theorem LLe.store{gl:List GlD}{x:Sm}{s r:LS}(h:lStore gl x s=some r):LLe s r:=by
 unfold lStore at h
 split at h
 ·cases h
 obtain ⟨e,v,s1, -,h1,h2⟩:=bh h
 cases h2
 exact (LLe.expr _ _ _ _ h1).trans (LLe.put _ _ _ _ _ _ _)
theorem LLe.if_{gl:List GlD}{bl:List Sm->LS->Option LS}(hb: ∀l s r,bl l s=some r->LLe s r){x:Sm}{s r:LS}(h:lIf gl bl x s=some r):LLe s r:=by
 obtain ⟨e,v,s1, -,h1,h2⟩:=bh h
 split at h2
 ·cases h2
 rename_i s2 h3
 split at h2
 ·cases h2
 rename_i s4 h4
 cases h2
 exact (LLe.label _).trans ((LLe.label _).trans ((LLe.expr _ _ _ _ h1).trans ((LLe.jump _ _ _).trans ((hb _ _ _ h3).trans ((LLe.line _ _).trans ((LLe.jump _ _ _).trans ((LLe.mark _ _).trans ((hb _ _ _ h4).trans ((LLe.line _ _).trans (LLe.mark _ _))))))))))
theorem LLe.while_{gl:List GlD}{bl:List Sm->LS->Option LS}(hb: ∀l s r,bl l s=some r->LLe s r){x:Sm}{s r:LS}(h:lWhile gl bl x s=some r):LLe s r:=by
 obtain ⟨e,v,s1, -,h1,h2⟩:=bh h
 split at h2
 ·cases h2
 rename_i s2 h3
 cases h2
 exact (LLe.label _).trans ((LLe.label _).trans ((LLe.mark _ _).trans ((LLe.expr _ _ _ _ h1).trans ((LLe.jump _ _ _).trans ((hb _ _ _ h3).trans ((LLe.line _ _).trans ((LLe.jump _ _ _).trans (LLe.mark _ _))))))))
theorem LLe.print{gl:List GlD}{x:Sm}{s r:LS}(h:lPrint gl x s=some r):LLe s r:=by
 obtain ⟨e,v,s1, -,h1,h2⟩:=bh h
 cases h2
 exact (LLe.expr _ _ _ _ h1).trans (LLe.add _ _)
theorem LLe.stmt{gl:List GlD}: ∀(n:Nat) (x:Sm) (s r:LS),lStmt gl n x s=some r->LLe s r
 |0,x,s,r,h=>by simp [lStmt] at h
 |n+1,x,s,r,h=>by
  have hb:=fun l s r=>LLe.block (f:=fun y s=>lStmt gl n y s) (fun x s r=>LLe.stmt n x s r) l s r
  unfold lStmt at h
  split at h
  ·exact LLe.let_ h
  split at h
  ·exact LLe.setS h
  split at h
  ·exact LLe.write h
  split at h
  ·cases h
  split at h
  ·cases h
  split at h
  ·cases h
  split at h
  ·cases h
   exact LLe.fence _ _
  split at h
  ·exact LLe.if_ hb h
  split at h
  ·exact LLe.while_ hb h
  split at h
  ·cases h
  ·cases h
end Go.Proofs.YtcekjfmfcefjpaaGreatDoor
namespace Go.Proofs.YtcekjfmfcefjpaaGreatDoor
open Go.RowKit Go.Sort
structure Kp(X:Nat->Prop)(w w':qW):Prop where
 os:w'.os=w.os
 tape:w'.tape=w.tape
 output:w'.output=w.output
 size:w.heap.size<=w'.heap.size
 block: ∀k,k<w.heap.size-> ¬X k->w'.heap[k]?=w.heap[k]?
section
variable{X Y:Nat->Prop}{a b c:qW}
theorem Kp.refl(X:Nat->Prop)(w:qW):Kp X w w:=⟨rfl,rfl,rfl,zaq _,fun _ _ _=>rfl⟩
theorem Kp.trans(h:Kp X a b)(k:Kp X b c):Kp X a c:=
 ⟨k.os.trans h.os,k.tape.trans h.tape,k.output.trans h.output,zal h.size k.size,fun i hi hx=>(k.block i (zar hi h.size) hx).trans (h.block i hi hx)⟩
theorem Kp.mono(h:Kp X a b)(hx: ∀k,k<a.heap.size->X k->Y k):Kp Y a b:=⟨h.os,h.tape,h.output,h.size,fun k hk hy=>h.block k hk (fun e=>hy (hx k hk e))⟩
theorem Kp.next(h:Kp X a b)(k:Kp Y b c)(hx: ∀i,i<a.heap.size->Y i->X i):Kp X a c:=
 ⟨k.os.trans h.os,k.tape.trans h.tape,k.output.trans h.output,zal h.size k.size,fun i hi hX=>(k.block i (zar hi h.size) (fun e=>hX (hx i hi e))).trans (h.block i hi hX)⟩
theorem Kp.of_below(h:Below a.heap.size a b):Kp X a b:=⟨h.os,h.tape,h.output,h.size,fun k hk _=>h.block k hk⟩
theorem Kp.below(h:Kp X a b){B:Nat}(hB:B<=a.heap.size)(hx: ∀k,k<B-> ¬X k):Below B a b:=⟨h.os,h.tape,h.output,h.size,fun k hk=>h.block k (zar hk hB) (hx k hk)⟩
theorem Kp.all(h:Kp X a b)(hx: ∀k,k<a.heap.size-> ¬X k):Below a.heap.size a b:=h.below (zaq _) hx
theorem Kp.of_grown{r:Option Nat}(h:a.grownBy b r):Kp (fun k=>some k=r) a b:=⟨h.os,h.tape,h.output,h.size,fun k hk hx=>h.block k hk hx⟩
theorem Kp.set(w:qW)(p k:Nat)(v:qV):Kp (·=p) w (w.setCell ⟨p,k,none⟩ v):=
 ⟨rfl,rfl,rfl,by simp,fun i hi hx=>zas _ _ _ _ hx⟩
theorem Kp.al(w:qW)(o:Obj):Kp X w (w.alloc o):= .of_below (ab (zaa _ _) o)
theorem Kp.mo(w:qW)(p:Regrown):Kp X w (more w p):= .of_below (av w p)
theorem Kp.dr(w:qW):Kp X w w.drew:= .of_below (ag (zaa _ _))
theorem Kp.dn(w:qW)(n:Nat):Kp X w (w.drewN n):= .of_below (nM (zaa _ _) n)
theorem Kp.cell(h:Kp X a b){k o:Nat}(hk:k<a.heap.size)(hx: ¬X k):b.cell? ⟨k,o,none⟩=a.cell? ⟨k,o,none⟩:=World.cell?_of_block (w:=a) (a:=⟨k,o,none⟩) (h.block k hk hx)
end
theorem ac{w:qW}{k:Nat}{o:Obj}(h:w.heap[k]?=some o):k<w.heap.size:=(Array.getElem?_eq_some_iff.1 h).1
theorem aa{w:qW}{k:Nat}{cs:Array qV}{t:TypeId}{z:Nat×Nat}(h:w.heap[k]?=some (.cells cs t z))(i:Nat):w.cell? ⟨k,i,none⟩=cs[i]?:=by simp [World.cell?,h]
theorem ai{w:qW}{k:Nat}{cs:Array qV}{t:TypeId}(h:w.heap[k]?=some (.cells cs t (0,0)))(i:Nat):w.frozen? ⟨k,i,none⟩=false:=by simp [World.frozen?,h]
theorem aJ{w:qW}{k i:Nat}{cs:Array qV}{t:TypeId}{z:Nat×Nat}(h:w.heap[k]?=some (.cells cs t z))(v:qV):(w.setCell ⟨k,i,none⟩ v).heap[k]?=some (.cells (cs.setIfInBounds i v) t z):=by
 simp [World.setCell,Array.getElem?_modify,h]
def putB(w:qW)(k:Nat)(cs:Array qV)(t:TypeId):qW:={w with heap:=w.heap.setIfInBounds k (.cells cs t (0,0))}
theorem bz{w:qW}{k:Nat}{cs:Array qV}{t:TypeId}(h:w.heap[k]?=some (.cells cs t (0,0))):putB w k cs t=w:=by
 obtain ⟨hk,e⟩:=Array.getElem?_eq_some_iff.1 h
 have:w.heap.setIfInBounds k (.cells cs t (0,0))=w.heap:=by
  rw [<-e]
  simp [Array.setIfInBounds,hk]
 simp [putB,this]
section
variable{α β:Type}
def Els(w:qW)(b o s:Nat)(El:α->List qV->Prop)(l:List α):Prop:=
 ∀i x,l[i]?=some x-> ∃cs:List qV,cs.length=s/\El x cs/\ ∀j v,cs[j]?=some v->w.cell? ⟨b,o+i*s+j,none⟩=some v
def RwAt(w:qW)(ok:Nat->Prop)(s:Nat)(El:α->List qV->Prop)(v:qV)(l:List α):Prop:=
 ∃a c,v= .slice a l.length c/\l.length<=c/\c<=9223372036854775807/\(0<l.length-> ∃b o,a=some ⟨b,o,none⟩/\ok b/\b<w.heap.size/\Els w b o s El l)
theorem RwAt.nil(w:qW)(ok:Nat->Prop)(s:Nat)(El:α->List qV->Prop):RwAt w ok s El (.slice none 0 0) []:=⟨none,0,rfl,zaq _,by omega,fun h=>by simp at h⟩
theorem Els.keep{w w':qW}{b o s:Nat}{El El':α->List qV->Prop}{l:List α}(h:Els w b o s El l)(hb:w'.heap[b]?=w.heap[b]?)(hE: ∀x,x∈l-> ∀cs,El x cs->El' x cs):Els w' b o s El' l:=fun i x hi=>by
 obtain ⟨cs,h1,h2,h3⟩:=h i x hi
 exact ⟨cs,h1,hE x (zat hi) cs h2,fun j v hj=>(World.cell?_of_block (w:=w) (a:=⟨b,o+i*s+j,none⟩) hb).trans (h3 j v hj)⟩
theorem RwAt.keep{w w':qW}{ok ok':Nat->Prop}{s:Nat}{El El':α->List qV->Prop}{v:qV}{l:List α}(h:RwAt w ok s El v l)(hz:w.heap.size<=w'.heap.size)
  (hb: ∀b,ok b->b<w.heap.size->ok' b/\w'.heap[b]?=w.heap[b]?) (hE: ∀x,x∈l-> ∀cs,El x cs->El' x cs):RwAt w' ok' s El' v l:=by
 obtain ⟨a,c,h1,h2,h3,h4⟩:=h
 refine ⟨a,c,h1,h2,h3,fun hn=>?_⟩
 obtain ⟨b,o,e,g1,g2,g3⟩:=h4 hn
 exact ⟨b,o,e,(hb b g1 g2).1,zar g2 hz,g3.keep (hb b g1 g2).2 hE⟩
theorem RwAt.tail{w:qW}{ok:Nat->Prop}{s:Nat}{El:α->List qV->Prop}{b o n c:Nat}{x:α}{l:List α}(h:RwAt w ok s El (.slice (some ⟨b,o,none⟩) n c) (x::l)):RwAt w ok s El (.slice (some ⟨b,o+s,none⟩) (n-1) (c-1)) l:=by
 obtain ⟨a,c',h1,h2,h3,h4⟩:=h
 simp only [Value.slice.injEq] at h1
 obtain ⟨rfl,rfl,rfl⟩:=h1
 simp at h2
 refine ⟨some ⟨b,o+s,Option.none⟩,c-1,by simp,by omega,by omega,fun hn=>?_⟩
 obtain ⟨b',o',e,g1,g2,g3⟩:=h4 Zi
 simp at e
 obtain ⟨rfl,rfl⟩:=e
 refine ⟨b,o+s,rfl,g1,g2,fun i y hi=>?_⟩
 obtain ⟨cs,k1,k2,k3⟩:=g3 (i+1) y (by simpa using hi)
 refine ⟨cs,k1,k2,fun j v hj=>?_⟩
 have:=k3 j v hj
 rwa [show o+(i+1)*s+j=o+s+i*s+j by rw [Nat.add_mul];omega] at this
theorem RwAt.head{w:qW}{ok:Nat->Prop}{s:Nat}{El:α->List qV->Prop}{v:qV}{x:α}{l:List α}(h:RwAt w ok s El v (x::l)): ∃b o c,v= .slice (some ⟨b,o,none⟩) (l.length+1) c/\l.length+1<=c/\c<=9223372036854775807/\ok b/\b<w.heap.size/\
  ∃cs:List qV,cs.length=s/\El x cs/\ ∀j u,cs[j]?=some u->w.cell? ⟨b,o+j,none⟩=some u:=by
 obtain ⟨a,c,h1,h2,h3,h4⟩:=h
 obtain ⟨b,o,rfl,g1,g2,g3⟩:=h4 Zi
 obtain ⟨cs,k1,k2,k3⟩:=g3 0 x rfl
 exact ⟨b,o,c,by simpa using h1,by simpa using h2,h3,g1,g2,cs,k1,k2,fun j u hj=>by simpa using k3 j u hj⟩
theorem RwAt.one{w:qW}{ok:Nat->Prop}{s:Nat}{El:α->List qV->Prop}{k:Nat}{cs:Array qV}{t:TypeId}{z:Nat×Nat}{x:α}(h:w.heap[k]?=some (.cells cs t z))(xo:ok k)(hs:cs.size=s)(hE:El x cs.toList):RwAt w ok s El (.slice (aA k) 1 1) [x]:=by
 refine ⟨_,1,by simp,by simp,by omega,fun _=>⟨k,0,rfl,xo,ac h,fun i y hi=>?_⟩⟩
 cases i with
 |zero=>
  simp at hi
  subst hi
  refine ⟨cs.toList,by simpa using hs,hE,fun j v hj=>?_⟩
  rw [aa h]
  simpa using hj
 |succ i=>simp at hi
end
theorem eqS(a b:qB):(a.toList==b.toList)=eqB a b:=by
 rw [ByteArray.toList_eq,ByteArray.toList_eq,Bool.eq_iff_iff,beq_iff_eq,eqB,zau]
 exact ⟨fun h=>WideShapes.bytes_inj h,fun h=>by rw [h]⟩
theorem eqR(s:qB)(l:List UInt8):eqB ⟨l.toArray⟩ s=(l==s.toList):=by
 rw [<-eqS]
 simp [ByteArray.toList_eq]
theorem fW{P:Program}{T e:TypeId}{n:Nat}{i0:TypeInfo}(hT:P.underlying T=some (.array n e))(he:P.underlying e=some .string)(hi:P.info? e=some i0)(hs:i0.size=1)(cs:Array qV)(hn:cs.size=n)(k:Int)(h0:0<=k)(h1:k<n)(w:qW):
  (Instr.index T (.agg cs) (iI k)).run P w= .ok (cs.getD k.toNat undef) w:=by
 have hk:k.toNat<cs.size:=by omega
 have e1:=run_underlying hT w
 have e2:=run_underlying he w
 simp [Instr.index,asIntOf,e1,e2,h0,h1,Go.part,isAgg,sizeOf,typeInfo,hi,hs,zav hk,Array.getD,hk]
def TokEl(t:Tok)(cs:List qV):Prop:=cs=[.string t.text,iI t.line]/\rng t.line/\t.text.size<=1048576
def ExAt(w:qW)(ok:Nat->Prop):Nat->Ex->List qV->Prop
 |0,_,_=>False
 |n+1,e,cs=> ∃pv kv,cs=[iI e.kind,.int .u64 e.n,.string e.name,iI e.op,iI e.order,.string e.var,pv,kv]/\
   RwAt w ok 2 (fun (p:PartD) cs=> ∃iv,cs=[.string p.1,iv]/\RwAt w ok 8 (ExAt w ok n) iv p.2) pv e.parts/\RwAt w ok 8 (ExAt w ok n) kv e.kids/\
   rng e.kind/\e.n<18446744073709551616/\rng e.op/\rng e.order
def PtAt(w:qW)(ok:Nat->Prop)(n:Nat)(p:PartD)(cs:List qV):Prop:= ∃iv,cs=[.string p.1,iv]/\RwAt w ok 8 (ExAt w ok n) iv p.2
def SmAt(w:qW)(ok:Nat->Prop):Nat->Sm->List qV->Prop
 |0,_,_=>False
 |n+1,x,cs=> ∃pv xv tv lv,cs=[iI x.kind,iI x.line,.string x.name,.string x.name2,iI x.order,.string x.var,pv,xv,tv,lv]/\
   RwAt w ok 2 (PtAt w ok 66) pv x.parts/\RwAt w ok 8 (ExAt w ok 66) xv x.exprs/\RwAt w ok 10 (SmAt w ok n) tv x.thn/\RwAt w ok 10 (SmAt w ok n) lv x.els/\
   rng x.kind/\rng x.line/\rng x.order
def VarAt(v:VarD)(cs:List qV):Prop:= ∃k s,v.type=scTy k s/\rng k/\rng s/\cs=[.string v.name,iI k,iI s,.bool false,.slice none 0 0,iI 0,.slice none 0 0]
section
variable{w w':qW}{ok ok':Nat->Prop}
theorem ExAt.keep(hz:w.heap.size<=w'.heap.size)(hb: ∀b,ok b->b<w.heap.size->ok' b/\w'.heap[b]?=w.heap[b]?): ∀(n:Nat) (e:Ex) (cs:List qV),ExAt w ok n e cs->ExAt w' ok' n e cs
 |0,_,_,h=>h
 |n+1,e,cs,⟨pv,kv,h1,h2,h3,h4⟩=>⟨pv,kv,h1,h2.keep hz hb (fun p _ cs ⟨iv,g1,g2⟩=>⟨iv,g1,g2.keep hz hb (fun x _=>ExAt.keep hz hb n x)⟩),h3.keep hz hb (fun x _=>ExAt.keep hz hb n x),h4⟩
theorem PtAt.keep(hz:w.heap.size<=w'.heap.size)(hb: ∀b,ok b->b<w.heap.size->ok' b/\w'.heap[b]?=w.heap[b]?){n:Nat}{p:PartD}{cs:List qV}(h:PtAt w ok n p cs):PtAt w' ok' n p cs:=by
 obtain ⟨iv,g1,g2⟩:=h
 exact ⟨iv,g1,g2.keep hz hb (fun x _=>ExAt.keep hz hb n x)⟩
theorem SmAt.keep(hz:w.heap.size<=w'.heap.size)(hb: ∀b,ok b->b<w.heap.size->ok' b/\w'.heap[b]?=w.heap[b]?): ∀(n:Nat) (e:Sm) (cs:List qV),SmAt w ok n e cs->SmAt w' ok' n e cs
 |0,_,_,h=>h
 |n+1,e,cs,⟨pv,xv,tv,lv,h1,h2,h3,h4,h5,h6⟩=>⟨pv,xv,tv,lv,h1,h2.keep hz hb (fun p _ _=>PtAt.keep hz hb),h3.keep hz hb (fun x _=>ExAt.keep hz hb 66 x),h4.keep hz hb (fun x _=>SmAt.keep hz hb n x),h5.keep hz hb (fun x _=>SmAt.keep hz hb n x),h6⟩
end
theorem ExAt.up{w:qW}{ok:Nat->Prop}: ∀(n m:Nat),n<=m-> ∀(e:Ex) (cs:List qV),ExAt w ok n e cs->ExAt w ok m e cs
 |0,_,_,_,_,h=>h.elim
 |n+1,0,hl,_,_,_=>by omega
 |n+1,m+1,hl,e,cs,⟨pv,kv,h1,h2,h3,h4⟩=>⟨pv,kv,h1,h2.keep (zaq _) (fun _ h _=>⟨h,rfl⟩) (fun p _ cs ⟨iv,g1,g2⟩=>⟨iv,g1,g2.keep (zaq _) (fun _ h _=>⟨h,rfl⟩) (fun x _=>ExAt.up n m Za x)⟩),h3.keep (zaq _) (fun _ h _=>⟨h,rfl⟩) (fun x _=>ExAt.up n m Za x),h4⟩
theorem SmAt.up{w:qW}{ok:Nat->Prop}: ∀(n m:Nat),n<=m-> ∀(e:Sm) (cs:List qV),SmAt w ok n e cs->SmAt w ok m e cs
 |0,_,_,_,_,h=>h.elim
 |n+1,0,hl,_,_,_=>by omega
 |n+1,m+1,hl,e,cs,⟨pv,xv,tv,lv,h1,h2,h3,h4,h5,h6⟩=>⟨pv,xv,tv,lv,h1,h2,h3,h4.keep (zaq _) (fun _ h _=>⟨h,rfl⟩) (fun x _=>SmAt.up n m Za x),h5.keep (zaq _) (fun _ h _=>⟨h,rfl⟩) (fun x _=>SmAt.up n m Za x),h6⟩
def TokOk(t:Tok):Prop:=digits t.text=true->(∀c∈t.text.data.toList,isDig c=true)/\dval t.text.data.toList<18446744073709551616
def SpT(w:qW):Prop:= ∀c:Nat,c<256->w.cell? (aB 0 c)=some (.int .u8 (if Go.Lib.isSp (UInt8.ofNat c) then 1 else 0))
theorem SpT.block{w w':qW}(h:SpT w)(hb:w'.heap[0]?=w.heap[0]?):SpT w':=fun c hc=>by
 rw [<-h c hc]
 unfold World.cell?
 rw [hb]
theorem SpT.lt{w:qW}(h:SpT w):0<w.heap.size:=World.block_lt_of_cell? _ _ (h 0 Zg)
theorem SpT.below{w w':qW}(h:SpT w)(hb:Below w.heap.size w w'):SpT w':=h.block (hb.block _ h.lt)
structure PAt(w:qW)(P:Nat)(s:PS):Prop where
 lies: ∃v,w.heap[P]?=some (.cells #[v,iI s.line,iI s.kind] 147 (0,0))/\RwAt w (·<P) 2 TokEl v s.toks
 ne:s.toks≠[]
 ok: ∀t∈s.toks,TokOk t
 rl:rng s.line
 rk:rng s.kind
 sp:SpT w
 gp:0<P
abbrev Turned(P:Nat)(w w':qW):Prop:=Kp (·=P) w w'
theorem PAt.keep{w w':qW}{P:Nat}{s:PS}(h:PAt w P s)(hk:Kp (fun k=>P<k) w w'):PAt w' P s:=by
 obtain ⟨v,h1,h2⟩:=h.lies
 have hP:=ac h1
 exact ⟨⟨v,(hk.block P hP Za).trans h1,h2.keep hk.size (fun b hb hl=>⟨hb,hk.block b hl Za⟩) (fun _ _ _ h=>h)⟩,h.ne,h.ok,h.rl,h.rk,h.sp.block (hk.block _ h.sp.lt (by have:=h.gp;omega)),h.gp⟩
theorem PAt.mem{w:qW}{P:Nat}{s:PS}(h:PAt w P s): ∃b o c,w.heap[P]?=some (.cells #[.slice (some ⟨b,o,none⟩) s.toks.length c,iI s.line,iI s.kind] 147 (0,0))/\0<s.toks.length/\s.toks.length<=c/\c<=9223372036854775807/\b<P/\
  w.cell? (aB b o)=some (.string (pHead s).text)/\w.cell? ⟨b,o+1,none⟩=some (iI (pHead s).line)/\rng (pHead s).line/\(pHead s).text.size<=1048576/\TokOk (pHead s)/\
  RwAt w (·<P) 2 TokEl (.slice (some ⟨b,o,none⟩) s.toks.length c) s.toks:=by
 obtain ⟨⟨v,h1,h2⟩,hne,xo, -, -⟩:=h
 obtain ⟨toks,line,kind⟩:=s
 simp only at*
 match toks,hne with
 |t::l,_=>
  obtain ⟨b,o,c,rfl,g1,g2,g3,g4,cs,k1,⟨rfl,k4,k5⟩,k3⟩:=h2.head
  exact ⟨b,o,c,h1,by simp,by simpa using g1,g2,g3,by simpa [pHead] using k3 0 _ rfl,by simpa [pHead] using k3 1 _ rfl,k4,k5,xo _ (by simp [pHead]),h2⟩
theorem PAt.put{w w':qW}{P:Nat}{s s':PS}{v:qV}(h:PAt w P s)(hk:Turned P w w')(hb:w'.heap[P]?=some (.cells #[v,iI s'.line,iI s'.kind] 147 (0,0)))(hv:RwAt w (·<P) 2 TokEl v s'.toks)
  (hne:s'.toks≠[]) (xo: ∀t∈s'.toks,TokOk t) (rl:rng s'.line) (rk:rng s'.kind):PAt w' P s':=
 ⟨⟨v,hb,hv.keep hk.size (fun b hb hl=>⟨hb,hk.block b hl Za⟩) (fun _ _ _ h=>h)⟩,hne,xo,rl,rk,h.sp.block (hk.block _ h.sp.lt (by have:=h.gp;omega)),h.gp⟩
structure At(P:Nat)(w W:qW)(s:PS):Prop where
 kp:Turned P w W
 pt:PAt W P s
 lt:P<w.heap.size
theorem PAt.lt{w:qW}{P:Nat}{s:PS}(h:PAt w P s):P<w.heap.size:=by
 obtain ⟨v,h1, -⟩:=h.lies
 exact ac h1
theorem At.begin{w:qW}{P:Nat}{s:PS}(h:PAt w P s):At P w w s:=⟨Kp.refl _ _,h,h.lt⟩
theorem At.next{P:Nat}{w W W':qW}{s s':PS}(h:At P w W s)(hT:Turned P W W')(hP:PAt W' P s'):At P w W' s':=⟨h.kp.trans hT,hP,h.lt⟩
theorem At.mo{P:Nat}{w W:qW}{s:PS}(h:At P w W s)(p:Regrown):At P w (more W p) s:=⟨h.kp.trans (Kp.mo _ _),h.pt.keep (Kp.mo _ _),h.lt⟩
theorem bA{P:Nat}{s:PS}(w:qW)(h:PAt w P s):qC 60 #[pP P] w fun e w'=>e= .returned (.bool (pBad s))/\w'=w:=by
 obtain ⟨v,h1,h2⟩:=h.lies
 have hc:=aa h1
 have hk:Hid (pBad s=(s.kind !=0)):=Zh rfl
 clear h1 h2 h
 go_enter Tryz.func60,Tryz.ntmps60
 go_wp2
 go_ret
 exact ⟨by rw [hk.out];rfl,rfl⟩
theorem bZ{P:Nat}{s:PS}(w:qW)(h:PAt w P s):qC 61 #[pP P] w fun e w'=>e= .returned (.string (pPeek s))/\w'=w:=by
 obtain ⟨b,o,c,h1,h2,h3,h4,h5,h6,h7, -⟩:=h.mem
 have hc:=aa h1
 have hk:Hid (pPeek s=(pHead s).text):=Zh rfl
 clear h1 h
 go_enter Tryz.func61,Tryz.ntmps61
 go_wp2
 go_ret
 exact ⟨by rw [hk.out];rfl,rfl⟩
def Par(P:Nat)(w:qW)(v:qV)(s:PS)(e:Ending)(w':qW):Prop:=e= .returned v/\Turned P w w'/\PAt w' P s
theorem dm{P:Nat}{s:PS}(w:qW)(h:PAt w P s)(k:Int)(hk:rng k):qC 65 #[pP P,iI k] w (Par P w (.tuple #[]) (pFail k s)):=by
 obtain ⟨b,o,c,h1,h2,h3,h4,h5,h6,h7,h8, -, -,h9⟩:=h.mem
 have hc:=aa h1
 have hz:=ai h1
 have HB:=Zh (fun W=>bA W (s:=s) (P:=P))
 have H:=Zh h
 have H1:=Zh h1
 have H9:=Zh h9
 clear h1 h h9
 cases hb:pBad s
 all_goals
  go_enter Tryz.func65,Tryz.ntmps65
  go_wp2_with (go_at_call 60;refine (HB.out _ H.out).mono ?_;rintro e w' ⟨rfl,rfl⟩)
  go_end0
 ·have e:pFail k s={s with line:=(pHead s).line,kind:=k}:=by simp [pFail,hb]
  rw [e]
  refine ⟨rfl,((Kp.set _ P 1 _).trans (Kp.set _ P 2 _)),H.out.put ((Kp.set _ P 1 _).trans (Kp.set _ P 2 _)) (aJ (aJ H1.out _) _) H9.out H.out.ne H.out.ok h8 hk⟩
 ·have e:pFail k s=s:=by simp [pFail,hb]
  rw [e]
  exact ⟨rfl,Kp.refl _ _,H.out⟩
theorem dK{P:Nat}{s:PS}(w:qW)(h:PAt w P s):qC 62 #[pP P] w (Par P w (.string (pPeek s)) (pNext s)):=by
 obtain ⟨b,o,c,h1,h2,h3,h4,h5,h6,h7,h8, -, -,h9⟩:=h.mem
 have hc:=aa h1
 have hz:=ai h1
 have HP:=Zh (fun W=>bZ W (s:=s) (P:=P))
 have H:=Zh h
 have H1:=Zh h1
 have H9:=Zh h9
 clear h1 h h9
 rcases (by omega:1<s.toks.length\/s.toks.length<=1) with hl|hl
 all_goals
  go_enter Tryz.func62,Tryz.ntmps62
  go_wp2_with (go_at_call 61;refine (HP.out _ H.out).mono ?_;rintro e w' ⟨rfl,rfl⟩)
  go_ret
 ·have e:pNext s={s with toks:=s.toks.tail}:=by simp [pNext,hl]
  rw [e]
  refine ⟨rfl,Kp.set _ P 0 _,?_⟩
  have h0:=H.out.ne
  have h9:=H9.out
  have xo:=H.out.ok
  generalize s.toks=l at*
  match l,h0 with
  |t::l,_=>exact H.out.put (Kp.set _ P 0 _) (aJ H1.out _) h9.tail (by intro e;simp at e;subst e;simp at hl) (fun u hu=>xo u (zaK _ hu)) H.out.rl H.out.rk
 ·have e:pNext s=s:=by simp [pNext];omega
  rw [e]
  exact ⟨rfl,Kp.refl _ _,H.out⟩
theorem di{P:Nat}{s:PS}(w:qW)(h:PAt w P s)(t:qB):qC 31 #[pP P,.string t] w (Par P w (.bool (pIs t s).1) (pIs t s).2):=by
 have HB:=Zh (fun W=>bA W (s:=s) (P:=P))
 have HP:=Zh (fun W=>bZ W (s:=s) (P:=P))
 have HN:=Zh (fun W=>dK W (s:=s) (P:=P))
 have H:=Zh h
 clear h
 cases hb:pBad s
 ·cases hp:eqB (pPeek s) t
  all_goals
   have hq:=(eqS (pPeek s) t).trans hp
   go_enter Tryz.func31,Tryz.ntmps31
   go_wp2_with (first
    |(go_at_call 60;refine (HB.out _ H.out).mono ?_;rintro e w' ⟨rfl,rfl⟩)
    |(go_at_call 61;refine (HP.out _ H.out).mono ?_;rintro e w' ⟨rfl,rfl⟩)
    |(go_at_call 62;refine (HN.out _ H.out).mono ?_;rintro e w' ⟨rfl,hT,hP⟩))
   go_ret
  ·have e:pIs t s=(false,s):=by simp [pIs,hb,hp]
   rw [e]
   exact ⟨rfl,Kp.refl _ _,H.out⟩
  ·have e:pIs t s=(true,pNext s):=by simp [pIs,hb,hp]
   rw [e]
   exact ⟨rfl,hT,hP⟩
 ·have e:pIs t s=(false,s):=by simp [pIs,hb]
  rw [e]
  go_enter Tryz.func31,Tryz.ntmps31
  go_wp2_with (first
   |(go_at_call 60;refine (HB.out _ H.out).mono ?_;rintro e w' ⟨rfl,rfl⟩))
  go_ret
  exact ⟨rfl,Kp.refl _ _,H.out⟩
def kRen:Go.Shelf.Ren:=⟨fun|157=>94|229=>135|199=>136|261=>181|311=>233|312=>234|n=>n,
 fun|9=>9|31=>165|3=>3|5=>5|4=>4|119=>273|0=>0|40=>275|152=>308|21=>21|154=>310|51=>83|141=>312|196=>360|193=>357|198=>363|49=>361|194=>358|201=>366|226=>405|46=>315|227=>406|n=>n,
 fun|0=>0|6=>1|n=>n⟩
theorem kLays:Lays.n157 Tryz.prog kRen:=by constructor<;>(intros;kernel_rfl)
def uRen:Go.Shelf.Ren:=⟨fun|14=>96|16=>137|17=>138|19=>182|20=>183|21=>184|22=>185|23=>186|24=>187|25=>235|27=>237|26=>236|28=>279|29=>293|30=>297|31=>298|32=>299|33=>300|35=>276|34=>301|36=>302|37=>303|38=>304|39=>305|40=>306|n=>n,
 fun|9=>9|3=>3|22=>39|24=>210|25=>211|4=>4|34=>313|5=>5|36=>315|37=>22|0=>0|39=>316|21=>21|44=>370|47=>407|50=>410|48=>408|2=>2|52=>427|55=>429|59=>432|60=>83|20=>20|61=>433|65=>434|66=>435|67=>106|n=>n,
 fun|0=>2|1=>3|2=>5|3=>6|4=>7|n=>n⟩
theorem uLays:LaysPu.n14 Tryz.prog uRen:=by constructor<;>(intros;kernel_rfl)
theorem kG: ∀(l:List UInt8) (a:Nat),(∀c∈l,isDig c=true)->l.foldl (fun n c=>n*10+(c.toNat-48)) a<18446744073709551616->Go.Lib.parseUintM 18446744073709551615 a l= .ok (l.foldl (fun n c=>n*10+(c.toNat-48)) a)
 |[],a,_,_=>rfl
 |c::r,a,hd,hv=>by
  have hc:=hd c za3
  simp only [isDig,za0,zau] at hc
  have F4: ∀(l:List UInt8) (a:Nat),a<=l.foldl (fun n c=>n*10+(c.toNat-48)) a:=fun l=>by
   induction l with
   |nil=>intro a;exact zaq _
   |cons x t ih=>intro a;exact zal (show a<=a*10+(x.toNat-48) by omega) (ih _)
  have FD:r.foldl (fun n c=>n*10+(c.toNat-48)) (a*10+(c.toNat-48))<18446744073709551616:=hv
  have h1:=F4 r (a*10+(c.toNat-48))
  show Go.Lib.parseUintM _ a (c::r)= .ok (r.foldl (fun n c=>n*10+(c.toNat-48)) (a*10+(c.toNat-48)))
  rw [Go.Lib.parseUintM,if_pos hc,if_neg Za,if_neg Za]
  exact kG r _ (fun x hx=>hd x (zaK _ hx)) FD
theorem kg(s:qB)(w:qW)(h0:digits s=true)(h: ∀c∈s.data.toList,isDig c=true)(h2:dval s.data.toList<18446744073709551616)(hz:s.size<=1048576):qC 96 #[.string s,iI 10,iI 64] w (Gives w (.tuple #[.int .u64 (dval s.data.toList),.nilIface])):=by
 have hne:s.data.toList≠[]:=fun e=>by
  unfold digits head? at h0
  rw [<-Array.getElem?_toList,e] at h0
  cases h0
 have hp:Go.Lib.parseUintB 64 s.data.toList= .ok (dval s.data.toList):=by
  rw [Go.Lib.parseUintB,if_neg hne]
  exact kG _ 0 h h2
 refine (Any.strconv_ParseUint_10_at64_ok uLays s Za _ hp w).mono fun e w' hh=>?_
 obtain ⟨rfl,rfl|rfl⟩:=hh
 ·exact Gives.mk rfl (zaa _ _)
 ·exact Gives.mk rfl (Go.Lib.bytesWorld_below w _ s)
def kText:qB:=(⟨#[118,97,114,32,116,104,114,101,97,100,32,115,116,114,117,99,116,32,117,110,105,111,110,32,112,97,99,107,101,100,32,117,56,32,117,49,54,32,117,51,50,32,117,54,52,32,97,56,32,97,49,54,32,97,51,50,32,97,54,52,32,97,49,50,56,32,108,101,116,32,115,101,116,32,119,114,105,116,101,32,115,116,111,114,101,32,108,111,97,100,50,32,115,116,111,114,101,50,32,102,101,110,99,101,32,105,102,32,101,108,115,101,32,119,104,105,108,101,32,112,114,105,110,116,32,114,101,97,100,32,108,111,97,100,32,97,100,100,32,115,119,97,112,32,99,97,115,32,114,108,120,32,97,99,113,32,114,101,108,32,115,99]⟩:qB)
theorem yaz:kText.data.toList.all (fun b=>decide (b.toNat<128))=true:=by kernel_rfl
theorem yax:(Go.Lib.fields kText.data.toList).map (fun l=>Value.string ⟨l.toArray⟩)=kwList.map Value.string:=by kernel_rfl
theorem yay:(Go.Lib.fields kText.data.toList).length=kwList.length:=by kernel_rfl
theorem yc8(s:qB)(hs:s=kText)(w:qW)(hT:SpT w):qC 94 #[.string s] w fun e w'=>
  e= .returned (.slice (aA w.heap.size) kwList.length kwList.length)/\w'=w.alloc (.cells (kwList.map Value.string).toArray 9):=by
 subst hs
 have h:=Any.strings_Fields_core kLays Zb kText w Zg (fun j b hb=>of_decide_eq_true (List.all_eq_true.1 yaz b (zat hb))) hT
 rw [yax,yay] at h
 exact h
theorem ybC(l:List qB)(s:qB)(A:Nat)(hl:l.length<=1000000)(w:qW)(h: ∀j x,l[j]?=some x->w.cell? (aB A j)=some (.string x)):
  qC 134 #[.slice (aA A) l.length l.length,.string s] w fun e w'=>w'=w/\ ∃r:Int,e= .returned (iI r)/\decide (0<=r)=l.any (fun t=>eqB t s):=by
 have HC:=Zh h
 clear h
 go_enter Tryz.func134,Tryz.ntmps134
 go_wp2_with fail
 go_loopw [8] (fun v8 wr=>wr=w/\ ∃j:Nat,v8=iI j/\j<=l.length/\(l.take j).any (fun t=>eqB t s)=false) (fun v8 _=>l.length-(intOf v8).toNat)
 case atStart=>exact ⟨rfl,0,rfl,by omega,rfl⟩
 case round=>
  obtain ⟨rfl,j,rfl,hj,xV⟩:=hrel
  have HN:=Zh xV
  clear xV
  by_cases yL:j<l.length
  ·obtain ⟨x,hx⟩: ∃x,l[j]?=some x:=⟨l[j],zaC yL⟩
   have N7:(j:Int)<l.length:=by omega
   have hc:=HC.out j x hx
   have HX:=Zh hx
   clear hx
   have hq:=eqS s x
   cases he:eqB x s
   ·have hne:eqB s x=false:=by
     rw [eqB,decide_eq_false_iff_not] at he ⊢
     exact fun e=>he e.symm
    rw [hne] at hq
    have HE:=Zh he
    clear he hne
    go_wp2_with fail
    refine ⟨⟨trivial,j+1,rfl,by omega,?_⟩,by simp [intOf];omega⟩
    rw [zaz,List.any_append,HN.out,HX.out]
    simpa using HE.out
   ·have hne:eqB s x=true:=by
     rw [eqB,zau] at he ⊢
     exact he.symm
    rw [hne] at hq
    have HE:=Zh he
    clear he hne
    go_wp2_with fail
    go_ret
    refine ⟨rfl,_,rfl,?_⟩
    rw [zaw Za]
    exact (List.any_eq_true.2 ⟨x,zat HX.out,HE.out⟩).symm
  ·obtain rfl:j=l.length:=by omega
   have N7: ¬(l.length:Int)<l.length:=by omega
   go_wp2_with fail
   go_ret
   refine ⟨rfl,_,rfl,?_⟩
   have:=HN.out
   rw [List.take_length] at this
   rw [this]
   rfl
theorem ydT(l:List qB)(s:qB)(A:Nat)(hl:l.length<=1000000)(w:qW)(h: ∀j x,l[j]?=some x->w.cell? (aB A j)=some (.string x)):
  qC 93 #[.slice (aA A) l.length l.length,.string s] w fun e w'=>w'=w/\e= .returned (.bool (l.any (fun t=>eqB t s))):=by
 have CI:=Zh (ybC l s A hl w h)
 clear h
 go_enter Tryz.func93,Tryz.ntmps93
 go_wp2_with fail
 refine CI.out.mono ?_
 rintro e w1 ⟨rfl,r,rfl,hr⟩
 have HR:=Zh hr
 clear hr
 go_wp2_with fail
 go_ret
 exact ⟨rfl,by rw [<-HR.out];rfl⟩
theorem dL(s:qB)(w:qW)(hT:SpT w):qC 64 #[.string s] w (Gives w (.bool (keyw s))):=by
 have CF:=Zh (fun t ht=>yc8 t ht w hT)
 have CC:=Zh (ydT kwList s w.heap.size Zg (w.alloc (.cells (kwList.map Value.string).toArray 9)) (fun j x hx=>by
  rw [World.cell?_alloc_at _ _ _ _ rfl,List.getElem?_toArray,zaj,hx]
  rfl))
 clear hT
 go_enter Tryz.func64,Tryz.ntmps64
 go_wp2_with fail
 refine (CF.out _ Zb).mono ?_
 rintro e w1 ⟨rfl,rfl⟩
 go_wp2_with fail
 refine CC.out.mono ?_
 rintro e w1 ⟨rfl,rfl⟩
 go_wp2_with fail
 go_ret
 exact Gives.mk rfl (ab (zaa _ _) _)
end Go.Proofs.YtcekjfmfcefjpaaGreatDoor
