/- Walks. No condition. -/
import Derived.Laws.BytesArg
import Derived.Test.YtcekjfmfcefjpaaGreatDoorG49
set_option maxRecDepth 100000
set_option maxHeartbeats 0
set_option linter.all false
namespace Go.Proofs.YtcekjfmfcefjpaaGreatDoor
open Go.RowKit Go.Sort
theorem kT(b:Nat)(s:qB)(hs:strOfNums [(b:Int)]=s)(W:qW):(convert 22 9 (.slice (aA W.heap.size) 1 1)).run Tryz.prog (W.alloc (.cells #[.int .u8 (b:Int)] 5))= .ok (.string s) (W.alloc (.cells #[.int .u8 (b:Int)] 5)):=by
 rw [run_convert_bytes_arg (P:=Tryz.prog) (W.alloc (.cells #[.int .u8 (b:Int)] 5)) 22 5 Tryz.underlying22 Tryz.underlying5 W.heap.size 0 1 1 [(b:Int)] rfl (fun i hi=>by
  obtain rfl:i=0:=by omega
  rw [aa (zab _ _)]
  rfl) 9 Tryz.underlying9,hs]
theorem ydD(w:qW):qC 4 #[iI 1] w fun e w'=>e= .returned (.string (⟨#[49]⟩:qB))/\Below w.heap.size w w':=by
 have hc: ∀W:qW,(convert 22 9 (.slice (aA W.heap.size) 1 1)).run Tryz.prog (W.alloc (.cells #[.int .u8 49] 5))= .ok (.string (⟨#[49]⟩:qB)) (W.alloc (.cells #[.int .u8 49] 5)):=fun W=>kT 49 _ rfl W
 go_enter Tryz.func4,Tryz.ntmps4
 go_wp2_with fail
 refine zao 1 ?_
 rw [zap]
 go_wp2_with fail
 go_ret
 exact ⟨rfl,ab (zaa _ _) _⟩
theorem ydC(w:qW):qC 4 #[iI 2] w fun e w'=>e= .returned (.string (⟨#[50]⟩:qB))/\Below w.heap.size w w':=by
 have hc: ∀W:qW,(convert 22 9 (.slice (aA W.heap.size) 1 1)).run Tryz.prog (W.alloc (.cells #[.int .u8 50] 5))= .ok (.string (⟨#[50]⟩:qB)) (W.alloc (.cells #[.int .u8 50] 5)):=fun W=>kT 50 _ rfl W
 go_enter Tryz.func4,Tryz.ntmps4
 go_wp2_with fail
 refine zao 1 ?_
 rw [zap]
 go_wp2_with fail
 go_ret
 exact ⟨rfl,ab (zaa _ _) _⟩
def hlA:qB:=(⟨#[116,104,114,101,97,100,32,123,32,108,101,116,32,105,32,61,32,48,32,59,32,119,104,105,108,101,32,40,32,105,32,60,32]⟩:qB)
def hlB:qB:=(⟨#[32,41,32,123,32,108,101,116,32,111,108,100,32,61,32,115,119,97,112,32,115,99,32,120,32,40,32,105,32,43,32,49,32,41,32,59,32,105,102,32,40,32,111,108,100,32,61,61,32,48,32,41,32,123,32,119,114,105,116,101,32,121,32,61,32,105,32,59,32,125,32,101,108,115,101,32,123,32,102,101,110,99,101,32,114,101,108,32,59,32,125,32,115,101,116,32,105,32,61,32,40,32,105,32,43,32,49,32,41,32,59,32,125,32,125,32]⟩:qB)
def hlT(d:qB):Nat->qB
 |0=>(⟨#[118,97,114,32,120,32,97,51,50,32,59,32,118,97,114,32,121,32,117,54,52,32,59,32]⟩:qB)
 |i+1=>hlT d i++((hlA++d)++hlB)
def hlD(c:Nat):qB:=if c=1 then (⟨#[49]⟩:qB) else (⟨#[50]⟩:qB)
def hlP(c th:Nat):PrgD:=match pProg (hlT (hlD c) th) with|some (p,_,_)=>p|none=>noPrg
def hlR(c th:Nat):List ThI:=(iProgB (hlP c th)).getD []
theorem ybZ:(List.range 2).all (fun c=>(List.range 2).all (fun th=>match pProg (hlT (hlD (c+1)) (th+1)) with|some (_,a,b)=>decide (a=0/\b=0)|none=>false))=true:=by kernel_rfl
theorem yb1:(List.range 2).all (fun c=>(List.range 2).all (fun th=>(iProgB (hlP (c+1) (th+1))).isSome&&(hlR (c+1) (th+1)).all rOk&&decide ((hlR (c+1) (th+1)).length=th+1)&&decide ((hlP (c+1) (th+1)).threads.length=th+1)&&decide ((mapV 0 (hlP (c+1) (th+1)).vars).2=16)))=true:=by kernel_rfl
structure Halts(rs:List ThI)(th:Nat)(P:MSt->Prop):Prop where
 beg:P (mBeg 16 rs)
 step: ∀s n f,P s->n<th-> ∃s',mStep s n f=some s'/\P s'
 run: ∀s,P s-> ∃s':MSt,mRun [(3,30000,0)] 0 s=some (s',1,0)/\0<s'.size/\s'.ts.length=th/\ ∀t∈s'.ts,t.end_=1/\t.prints.length<=1000000
def InB(w:qW)(v:qV)(l:List Nat):Prop:=(∀x∈l,x<256)/\ ∃a c,v= .slice a l.length c/\l.length<=c/\c<=9223372036854775807/\(0<l.length-> ∃b o,a=some ⟨b,o,none⟩/\b<w.heap.size/\ ∀j x,l[j]?=some x->w.cell? ⟨b,o+j,none⟩=some (.int .u8 (x:Nat)))
theorem yce(c:Nat):(hlD c).size=1:=by
 unfold hlD
 split<;>rfl
theorem mi(d:qB)(hd:d.size=1): ∀i,(hlT d i).size<=1000+i*1000
 |0=>by
  unfold hlT
  decide
 |i+1=>by
  have h:=mi d hd i
  have hA:hlA.size=33:=by kernel_rfl
  have hB:hlB.size=116:=by kernel_rfl
  unfold hlT
  rw [ByteArray.size_append,ByteArray.size_append,ByteArray.size_append,hd,hA,hB]
  omega
theorem ycg(w:qW)(yT:SpT w)(n k:Nat)(hn:n<256)(hk:k<256)(v:qV)(l:List Nat)(hv:InB w v l)(c th:Nat)(hc:k%2+1=c)(yb:n%2+1=th)(p:PrgD)(rs:List ThI)(H:Runs (hlT (hlD c) th) p rs 16)(AK:rs.length=th)(P:MSt->Prop)(HP:Halts rs th P):
  qC 3 #[.int .u8 n,.int .u8 k,v] w fun e w'=>e= .returned (.bool true)/\Below w.heap.size w w':=by
 obtain ⟨Gc,va,vc,rfl,JJ,hvc,xe⟩:=hv
 have Dx:=Zh (fun W (hW:Below w.heap.size w W)=>lD _ p H.hp H.hne rs H.hr W (yT.below hW))
 have HH:=Zh H
 have DG:Hid (∀W,qC 4 #[iI c] W fun e w'=>e= .returned (.string (hlD c))/\Below W.heap.size W w'):=Zh (fun W=>by
  have:c=1\/c=2:=by omega
  rcases this with rfl|rfl
  ·exact ydD W
  ·exact ydC W)
 have HC:=Zh xe
 have EU:=Zh HP
 have yr:(k:Int)%2+1=c:=by omega
 have Nn:(n:Int)%2+1=th:=by omega
 have Nm:1<=th/\th<=2:=by omega
 have By:Hid (p.threads.length=th):=Zh (H.hl.symm.trans AK)
 have HRL:=Zh AK
 clear H xe HP hc yb AK
 go_enter Tryz.func3,Tryz.ntmps3
 go_wp2_with fail
 go_loopw [8,10] (fun v8 v10 wr=> ∃i:Nat,i<=th/\v10=iI i/\v8= .string (hlT (hlD c) i)/\Below w.heap.size w wr) (fun _ v10 _=>th-(intOf v10).toNat)
 case atStart=>exact ⟨0,by omega,rfl,rfl,zaa _ _⟩
 case round=>
  obtain ⟨i,hi,rfl,rfl,hB⟩:=hrel
  have HB:=Zh hB
  clear hB
  by_cases LD:i<th
  ·have Gk:(i:Int)<th:=by omega
   have Br:IntKind.i64.wrap ((i:Int)+1)=(i:Int)+1:=a7 Za Za
   have LM:=yce c
   have Ni:=mi (hlD c) LM i
   have z1: ¬9223372036854775807<33+(hlD c).size:=by omega
   have z2: ¬9223372036854775807<33+(hlD c).size+116:=by omega
   have z3: ¬9223372036854775807<(hlT (hlD c) i).size+(33+(hlD c).size+116):=by omega
   clear LM Ni
   go_wp2_with fail
   refine (DG.out _).mono ?_
   rintro e w1 ⟨rfl,ye⟩
   have zt:=Zh (ar HB.out ye HB.out.size)
   clear ye
   go_wp2_with fail
   exact ⟨⟨i+1,by omega,by simp,by kernel_rfl,zt.out⟩,by simp [intOf];omega⟩
  ·have Gm:i=th:=by omega
   have Gk: ¬(i:Int)<th:=by omega
   rw [Gm]
   rw [Gm] at Gk
   clear LD hi Gm
   go_wp2_with fail
   refine (Dx.out _ HB.out).mono ?_
   rintro e w2 ⟨gT,gv,rfl,yn,xn,Am,DZ,hT⟩
   rw [HH.out.hz,By.out] at*
   obtain ⟨ga,gc,rfl, -, -, -, -⟩:=az DZ
   have xA:=Zh (ar HB.out yn HB.out.size)
   have HT:=Zh hT
   clear yn hT DZ Dx DG
   go_upto_region 9 with fail
   refine aT (R:=fun X=>Below w2.heap.size w2 X/\X.heap[w2.heap.size]?=some (.cells #[.slice (aA gT) th th,.slice (aA (gT+1)) th th,.slice ga (mapV 0 p.vars).1.length gc,iI 16] 28 (0,0))/\X.heap[w2.heap.size+1]?=some (.cells #[iI 0,iI 0] 31 (0,0))) ⟨ab (ab (zaa _ _) _) _,(zac _ _ ZM).trans (zab _ _),aI (by simp only [au])⟩ ?_
   rintro V ⟨Ap,Ba,Gt⟩
   have i0:V.cell? (aB w2.heap.size 0)=some (.slice (aA gT) th th):=aa Ba 0
   have i1:V.cell? (aB w2.heap.size 1)=some (.slice (aA (gT+1)) th th):=aa Ba 1
   have i2:V.cell? (aB w2.heap.size 2)=some (.slice ga (mapV 0 p.vars).1.length gc):=aa Ba 2
   have i3:V.cell? (aB w2.heap.size 3)=some (iI 16):=aa Ba 3
   have M1:=Zh Gt
   have yJ:=Zh (ar xA.out Ap xA.out.size)
   have NW:=Zh (lj V gT th (.slice ga (mapV 0 p.vars).1.length gc) 16 rs Za Za HRL.out Za Za (by have:=Ap.size;omega) (fun j r hj=>(HT.out j r hj).below Ap Za Za) HH.out.ok ⟨_,_,_,rfl⟩)
   clear Ap Ba Gt xn Am HT
   go_wp2_with fail
   go_at_call 6
   refine NW.out.mono ?_
   rintro e V2 ⟨M,F,bs,rfl,hM,hm,xr⟩
   have f1:V2.cell? ⟨w2.heap.size+1,1,none⟩=some (iI 0):=(xr.cell (p:=⟨w2.heap.size+1,1,none⟩) (ac M1.out)).trans (aa M1.out 1)
   have HM:=Zh (hm.same (zaa _ _))
   have HFl:=Zh hm.lt
   have hMl:=hm.M_lt
   have zL:=Zh (ar yJ.out xr yJ.out.size)
   clear hm xr NW i0 i1 i2 i3
   go_wp2_with fail
   go_loopw [15] (fun v15 wz=> ∃(j:Nat) (s:MSt),v15=iI j/\j<=l.length/\MacD V2 M F bs s wz/\P s) (fun v15 _=>l.length-(intOf v15).toNat)
   case atStart=>exact ⟨0,_,rfl,by omega,HM.out,EU.out.beg⟩
   case round=>
    obtain ⟨j,s,rfl,hj,hD,hP⟩:=hrel
    have hMw:w.heap.size<=M:=by have:=yJ.out.size;omega
    by_cases yL:(j:Int)<l.length/\(j:Int)<100
    ·obtain ⟨BX,Fc⟩:=yL
     have Fb:j<l.length:=by omega
     obtain ⟨b,o,rfl,Bg,i'⟩:=HC.out Za
     obtain ⟨x,hx⟩: ∃x,l[j]?=some x:=⟨l[j],zaC Fb⟩
     have K8:x<256:=Gc x (zat hx)
     have cw:wr.cell? ⟨b,o+j,none⟩=some (.int .u8 (x:Nat)):=(hD.kp.cell (by have:=zL.out.size;omega) (fun hF=>by have:=(HFl.out _ hF).1;omega)).trans ((zL.out.cell (p:=⟨b,o+j,none⟩) Bg).trans (i' j x hx))
     obtain ⟨s',Da,Mp⟩:=EU.out.step s (x%th) (x/16%2==0) hP (zaL _ Za)
     have ST:=Zh (fun X hX=>jp ((hD.mac.below (W':=X) hX)) (x%th) (x/16%2==0) Da)
     have Fu:=Zh hD
     have HP':=Zh Mp
     have HX:=Zh hx
     clear hD Mp Da hP hx i'
     have Nl: ¬th=0:=by omega
     have Nf:IntKind.i64.wrap ((x:Int))=(x:Int):=a7 Za Za
     have zR:(j:Int)+1<=9223372036854775807:=by omega
     go_wp2_with fail
     refine ae (fun X=>X.cell? ⟨b,o+j,none⟩=some (.int .u8 (x:Nat))) (fun W=>True) 15 rfl ?_
     have hA:wr.drew.cell? ⟨b,o+j,none⟩=some (.int .u8 (x:Nat)):=cw
     have hB:True:=trivial
     refine Zp 0 rfl (h:=Zp 1 rfl (h:=Zp 2 rfl (h:=Zp 3 rfl (h:=Zt 4 rfl (h:=Zp 5 rfl (h:=Zp 6 rfl (h:=Zp 7 rfl (h:=Zp 8 rfl (h:=Zp 9 rfl (h:=Zp 10 rfl (h:=Zt 11 rfl (h:=Zp 12 rfl (h:=Zp 13 rfl (h:=Zp 14 rfl (h:=?_)))))))))))))));try simp only [Zq]
     refine Zs 15 rfl fun K hK=>?_
     go_simp
     have e1:(x:Int).tmod (th:Int)=((x%th:Nat):Int):=by
      rw [Int.tmod_eq_emod_of_nonneg Za]
      simp
     have e2:((IntKind.u8.wrap ((x:Int)/16)).tmod 2==0)=(x/16%2==0):=by
      rw [show IntKind.u8.wrap ((x:Int)/16)=(x:Int)/16 from by simp [IntKind.wrap,IntKind.bits,IntKind.signed];omega,Int.tmod_eq_emod_of_nonneg Za,Bool.eq_iff_iff]
      simp
      omega
     rw [e1,e2]
     refine (ST.out _ (ag (zaa _ _))).mono ?_
     rintro e w5 ⟨⟨y,rfl⟩,GY⟩
     have D0: ¬grw F V2 wr b:=fun h=>by
      rcases h with h|h
      ·have:=(HFl.out _ h).1
       omega
      ·have:=zL.out.size
       omega
     have HD5:=Zh (Fu.out.next HFl.out hMl ⟨GY.mac,(Kp.dr _).trans GY.kp,GY.row⟩)
     refine hK _ _ ⟨(GY.kp.cell (by have:=Fu.out.kp.size;have:=zL.out.size;show b<wr.heap.size;omega) D0).trans hA,fun _=>trivial⟩ ?_
     clear hK K GY e1 e2 ST
     refine af Zb ?_ _
     have hj9:IntKind.i64.wrap ((j:Int)+1)=(j:Int)+1:=a7 Za Za
     go_wp2_with fail
     exact ⟨⟨j+1,s',by simp,by omega,HD5.out,HP'.out⟩,by simp [intOf];omega⟩
    ·obtain ⟨s3,DL,E3,In,LK⟩:=EU.out.run s hP
     have xZ:=Zh DL
     have HD:=Zh hD
     have M0:=Zh In
     have M4:=Zh LK
     have HZ3:=Zh E3
     have FQ:RowC (wr.alloc (.cells #[iI 3,iI 30000,iI 0] 52)) wr.heap.size ([((3:Int),(30000:Int),(0:Int))].flatMap spC):=fun j u hu=>by
      rw [aa (zab _ _)]
      simpa [spC] using hu
     have RU:=Zh (jM (hD.mac.below (ab (zaa _ _) _)) [(3,30000,0)] wr.heap.size 1 Zi ZM (fun hF=>by have:=(hD.mac.lt _ hF).2;omega) FQ DL)
     clear FQ DL E3 In LK hD hP
     have hjc:(j:Int)<l.length/\ ¬(j:Int)<100\/ ¬(j:Int)<l.length:=by omega
     clear yL
     rcases hjc with ⟨JO,N8⟩|JO
     all_goals
      go_wp2_with fail
      go_at_call 8
      refine RU.out.mono ?_
      rintro e V3 ⟨rfl,Ko⟩
      clear RU
      have HLT:Hid (∀i,i<th-> ∃t,s3.ts[i]?=some t):=Zh (fun i hi=>⟨_,zaC (show i<s3.ts.length by rw [M0.out];exact hi)⟩)
      have Af:=Zh (aH (ab (aH zL.out HD.out.kp (fun q hq=>by have:=(HFl.out q hq).1;omega)) _) Ko.kp (fun q hq=>by
       have:=zL.out.size
       rcases hq with hq|hq
       ·have:=(HFl.out q hq).1
        omega
       ·omega))
      have HM3:=Zh Ko.mac
      clear Ko HD xZ
      go_wp2_with fail
      go_at_call 9
      refine (kL HM3.out HZ3.out (fun t ht=>(M4.out t ht).2)).mono ?_
      rintro e V4 ⟨v1,g2,c2,g3,c3,ps,rfl,Do,zc,Am,LH,yr,D7,DN,y',Fm,Kh⟩
      obtain ⟨xs,BB⟩: ∃xs,xs=(s3.bytes.take s3.size.toNat).flatMap aK:=⟨_,rfl⟩
      rw [<-BB] at zc
      clear BB
      obtain ⟨a1,rfl, -⟩:=zc
      generalize xs.length=xl
      rw [M0.out] at*
      have Ia:=Zh (ar Af.out Do Af.out.size)
      have IT:=Zh Fm
      clear Do DN y' Kh Fm Am
      go_upto_region 18 with fail
      refine aT (R:=fun X=>Below w.heap.size w X/\X.cell? (aB V4.heap.size 2)=some (.slice (aA g3) th c3)/\ ∀i,i<th->X.cell? (aB g3 i)=some (iI 1)) ⟨ab Ia.out _,aa (zab _ _) 2,fun i hi=>?_⟩ ?_
      ·obtain ⟨t,ht⟩:=HLT.out i hi
       rw [aR,if_pos (show g3<V4.heap.size by omega)]
       exact IT.out i _ (by simp [endsL,ht,(M4.out t (zat ht)).1])
      generalize V4.heap.size=O at*
      rintro V5 ⟨Bi,o2,oe⟩
      have Fv:=Zh Bi
      have HOE:=Zh oe
      clear Bi oe IT
      go_wp2_with fail
      go_loopw [19] (fun v19 wz=> ∃i:Nat,v19=iI i/\i<=th/\wz=V5) (fun v19 _=>th-(intOf v19).toNat)
      case atStart=>exact ⟨0,rfl,by omega,rfl⟩
      case round=>
       obtain ⟨i,rfl,hi,rfl⟩:=hrel
       by_cases LD:(i:Int)<th
       ·have zR:i<th:=by omega
        have oi:=HOE.out i zR
        have hi9:IntKind.i64.wrap ((i:Int)+1)=(i:Int)+1:=a7 Za Za
        go_wp2_with fail
        exact ⟨⟨i+1,by simp,by omega,trivial⟩,by simp [intOf];omega⟩
       ·go_wp2_with fail
        refine (oR _ (yT.below Fv.out)).mono ?_
        rintro e V6 ⟨rfl,Fn⟩
        have HB6:=Zh (ar Fv.out Fn Fv.out.size)
        clear Fn
        go_wp2_with fail
        go_ret
        exact ⟨rfl,HB6.out⟩
structure HK where
 pc:Nat
 xs:List Nat
 z:Bool
 c:Bool
 wa:Nat
 wl:Nat
 en:Nat
def keyT(t:TD):HK:=⟨t.st.pc.toNat,(List.range 31).map t.st.x,t.st.z,t.st.c,t.st.wa.toNat,t.st.wl.toNat,t.end_.toNat⟩
def unT(r:ThI)(κ:HK):TD:=⟨codeOf r,r.2,⟨fun k=>κ.xs.getD k 0,κ.pc,κ.z,κ.c,κ.wa,κ.wl⟩,[],κ.en⟩
def plainT(t:TD):Bool:=decide (0<=t.st.pc)&&decide (0<=t.st.wa)&&decide (0<=t.st.wl)&&decide (0<=t.end_)&&t.prints.isEmpty
def hlS(r:ThI)(κ:HK)(b:List Nat)(f:Bool):Option (HK×List Nat):=(mStep ⟨16,0,b,[unT r κ]⟩ 0 f).bind fun s=>(s.ts[0]?).bind fun t=>if plainT t then some (keyT t,s.bytes) else none
def clrK(κ:HK):HK:={κ with wa:=0,wl:=0}
def hlBy(N x y:Nat):List Nat:=[x,0,0,0,0,0,0,0,y,0,0,0,0,0,0,0]++List.replicate (N-16) 0
def hlBs(N c:Nat):List (List Nat):=(List.range (c+1)).flatMap fun x=>(List.range c).map fun y=>hlBy N x y
def hlEqL:List Nat->List Nat->Bool
 |[],[]=>true
 |a::l,b::m=>Nat.beq a b&&hlEqL l m
 |_,_=>false
def hlEqB:Bool->Bool->Bool
 |true,b=>b
 |false,b=>!b
def hlEqK(a b:HK):Bool:=Nat.beq a.pc b.pc&&Nat.beq a.wa b.wa&&Nat.beq a.en b.en&&hlEqL a.xs b.xs&&hlEqB a.z b.z&&hlEqB a.c b.c&&Nat.beq a.wl b.wl
abbrev HTab:=List (List (HK×Nat))
def hlLookL(κ:HK):List (HK×Nat)->Option Nat
 |[]=>none
 |(a,n)::l=>if hlEqK a κ then some n else hlLookL κ l
def hlLook(t:HTab)(κ:HK):Option Nat:=match t[κ.pc]? with|some l=>hlLookL κ l|none=>none
def hlIns(κ:HK)(n:Nat):Nat->HTab->HTab
 |_,[]=>[]
 |0,l::t=>((κ,n)::l)::t
 |k+1,l::t=>l::hlIns κ n k t
def hlWt(r:ThI)(κ:HK):Nat:=match (codeOf r)[κ.pc]? with|some i=>if wrB i.op&&exB i.op&&κ.wa !=0 then 20 else 1|none=>1
def hlFar(r:ThI)(κ:HK):Bool:=match (codeOf r)[κ.pc]? with|some i=>!(wrB i.op&&!exB i.op)||(!meetsB 65536 4 (spanA (unT r κ).st i) (lenI i)&&!meetsB 0 0 (spanA (unT r κ).st i) (lenI i))|none=>true
def hlDfs(r:ThI)(Bs:List (List Nat)):Nat->HK->HTab->HTab
 |0,_,t=>t
 |n+1,κ,t=>match hlLook t κ with
  |some _=>t
  |none=>
   let nx:=if κ.en !=0 then [] else Bs.filterMap fun b=>hlS r κ b false
   let t1:=nx.foldl (fun t q=>hlDfs r Bs n q.1 t) t
   let rk:=nx.foldl (fun m q=>match hlLook t1 q.1 with|some k=>Nat.max m (k+hlWt r κ)|none=>m) 0
   let t2:=hlIns κ rk κ.pc t1
   let nf:=if κ.en !=0 then [] else Bs.filterMap fun b=>hlS r κ b true
   (nf.map (·.1)++[clrK κ]).foldl (fun t q=>hlDfs r Bs n q t) t2
def hlOkS(r:ThI)(Bs:List (List Nat))(tab:HTab)(κ:HK)(n:Nat)(b:List Nat)(f:Bool):Bool:=
 match hlS r κ b f with
 |some (κ',b')=>Bs.any (hlEqL b')&&(match hlLook tab κ' with|some n'=>f||Nat.ble (n'+hlWt r κ) n|none=>false)
 |none=>false
def hlOk(r:ThI)(Bs:List (List Nat))(tab:HTab)(q:HK×Nat):Bool:=
 (match hlLook tab (clrK q.1) with|some m=>Nat.ble m (q.2+19)|none=>false)&&Nat.beq q.1.xs.length 31&&((Nat.beq q.1.wa 0&&Nat.beq q.1.wl 0)||(Nat.beq q.1.wa 65536&&Nat.beq q.1.wl 4))&&hlFar r q.1&&Nat.ble q.2 1000&&
 (if q.1.en !=0 then Nat.beq q.1.en 1 else Bs.all fun b=>hlOkS r Bs tab q.1 q.2 b false&&hlOkS r Bs tab q.1 q.2 b true)
def hlTab(c th n:Nat):HTab:=hlDfs ((hlR c th).getD n ([],[])) (hlBs (mBeg 16 (hlR c th)).bytes.length c) 300 (keyT (tdOf ((hlR c th).getD n ([],[])))) (List.replicate 31 [])
def hlAll(c th n:Nat)(tab:HTab):Bool:=tab.all fun l=>l.all fun q=>hlOk ((hlR c th).getD n ([],[])) (hlBs (mBeg 16 (hlR c th)).bytes.length c) tab q
def hlBeg(c th n:Nat)(tab:HTab):Bool:=(hlLook tab (keyT (tdOf ((hlR c th).getD n ([],[]))))).isSome&&(hlBs (mBeg 16 (hlR c th)).bytes.length c).any (hlEqL (mBeg 16 (hlR c th)).bytes)
theorem yca:(hlAll 1 1 0 (hlTab 1 1 0)&&hlBeg 1 1 0 (hlTab 1 1 0))=true:=by kernel_rfl
theorem yb9:(hlAll 1 2 0 (hlTab 1 2 0)&&hlBeg 1 2 0 (hlTab 1 2 0))=true:=by kernel_rfl
theorem yb8:(hlAll 1 2 1 (hlTab 1 2 1)&&hlBeg 1 2 1 (hlTab 1 2 1))=true:=by kernel_rfl
theorem yb7:(hlAll 2 1 0 (hlTab 2 1 0)&&hlBeg 2 1 0 (hlTab 2 1 0))=true:=by kernel_rfl
theorem yb6:(hlAll 2 2 0 (hlTab 2 2 0)&&hlBeg 2 2 0 (hlTab 2 2 0))=true:=by kernel_rfl
theorem yb5:(hlAll 2 2 1 (hlTab 2 2 1)&&hlBeg 2 2 1 (hlTab 2 2 1))=true:=by kernel_rfl
def FinX(s:St):Prop:= ∀k,31<=k->s.x k=0
def regB(i:Ins):Bool:=decide (i.d<=31)&&decide (i.m<=31)&&decide (i.e<=31)
theorem dE{s:St}(h:FinX s){n:Int}(hn:n<=31)(v:Nat):FinX (setX s n v):=by
 unfold setX
 split
 ·exact h
 ·intro k hk
  show (if (k:Int)=n then v else s.x k)=0
  rw [if_neg Za]
  exact h k hk
theorem vV{s:St}(h:FinX s){i:Ins}(hi:regB i=true)(g0 g1:Nat)(f:Bool):FinX (nextS s i g0 g1 f):=by
 simp only [regB,za0,zau] at hi
 obtain ⟨⟨hd,hm⟩,he⟩:=hi
 have hb:FinX (bodyS s i g0 g1 f):=by
  unfold bodyS accS
  split
  ·exact h
  ·split
   ·split
    ·split
     ·exact dE (s:=s) h hm _
     ·exact h
    ·split
     ·exact dE (dE h hd _) he _
     ·split
      ·exact dE (s:=s) h hd _
      ·exact dE h hd _
   ·split
    ·refine dE ?_ hd _
     split
     ·exact h
     ·exact h
    ·exact h
 exact hb
theorem iR(r:ThI)(κ:HK)(h:κ.xs.length=31):FinX (unT r κ).st:=fun k hk=>by
 show κ.xs.getD k 0=0
 rw [zaU,List.getElem?_eq_none Za]
 rfl
theorem iQ(r:ThI)(t:TD)(hc:t.code=codeOf r)(hs:t.sites=r.2)(hf:FinX t.st)(hp:plainT t=true):unT r (keyT t)=t:=by
 obtain ⟨c,si,⟨x,pc,z,cc,wa,wl⟩,pr,en⟩:=t
 simp only [plainT,za0,zau,List.isEmpty_iff] at hp
 obtain ⟨⟨⟨⟨h1,h2⟩,h3⟩,h4⟩,h5⟩:=hp
 simp only at hc hs h1 h2 h3 h4 h5
 subst hc hs h5
 unfold unT keyT
 simp only [Int.toNat_of_nonneg h1,Int.toNat_of_nonneg h2,Int.toNat_of_nonneg h3,Int.toNat_of_nonneg h4]
 congr 2
 funext k
 rw [zaU,zaj]
 by_cases hk:k<31
 ·rw [List.getElem?_range hk]
  rfl
 ·rw [List.getElem?_eq_none (by rw [List.length_range];omega)]
  exact (hf k Za).symm
theorem fu: ∀{a b:List Nat},hlEqL a b=true->a=b
 |[],[],_=>rfl
 |a::l,b::m,h=>by
  simp only [hlEqL,za0] at h
  rw [Nat.eq_of_beq_eq_true h.1,fu h.2]
 |[],_::_,h=>by cases h
 |_::_,[],h=>by cases h
theorem ml{a b:Bool}(h:hlEqB a b=true):a=b:=by
 cases a<;>cases b<;>first|rfl|cases h
theorem ycd{a b:HK}(h:hlEqK a b=true):a=b:=by
 obtain ⟨p,x,z,c,wa,wl,en⟩:=a
 obtain ⟨p',x',z',c',wa',wl',en'⟩:=b
 simp only [hlEqK,za0] at h
 obtain ⟨⟨⟨⟨⟨⟨h1,h2⟩,h3⟩,h4⟩,h5⟩,h6⟩,h7⟩:=h
 rw [Nat.eq_of_beq_eq_true h1,Nat.eq_of_beq_eq_true h2,Nat.eq_of_beq_eq_true h3,fu h4,ml h5,ml h6,Nat.eq_of_beq_eq_true h7]
theorem mj{κ:HK}{n:Nat}: ∀{l:List (HK×Nat)},hlLookL κ l=some n->(κ,n)∈l
 |[],h=>by cases h
 |(a,k)::l,h=>by
  unfold hlLookL at h
  split at h
  ·rename_i he
   rw [ycd he] at*
   rw [zae h]
   exact za3
  ·exact zaK _ (mj h)
theorem ycc{κ:HK}{n:Nat}{t:HTab}(h:hlLook t κ=some n): ∃l∈t,(κ,n)∈l:=by
 unfold hlLook at h
 split at h
 ·rename_i l hl
  exact ⟨l,zat hl,mj h⟩
 ·cases h
theorem il{c th n:Nat}{tab:HTab}(h:hlAll c th n tab=true){κ:HK}{m:Nat}(hk:hlLook tab κ=some m):hlOk ((hlR c th).getD n ([],[])) (hlBs (mBeg 16 (hlR c th)).bytes.length c) tab (κ,m)=true:=by
 obtain ⟨l,hl,hm⟩:=ycc hk
 exact List.all_eq_true.1 (List.all_eq_true.1 h l hl) _ hm
def OthR(t:TD)(f:Bool)(t0 t':TD):Prop:=
 t'=t0\/ ∃i,t.code[t.st.pc.toNat]?=some i/\wrB i.op=true/\(exB i.op=true->f=false/\t.st.wa=spanA t.st i/\t.st.wl=lenI i)/\t'=clrW (spanA t.st i) (lenI i) t0
def OwnR(t t1:TD):Prop:=t1.code=t.code/\t1.sites=t.sites/\(t1.st=t.st\/ ∃i∈t.code,∃g0 g1 b,t1.st=nextS t.st i g0 g1 b)
def StepR(s:MSt)(n:Nat)(t:TD)(f:Bool)(s1:MSt):Prop:=
 ∃(t1:TD) (ts':List TD),s1.ts=[t1]/\OwnR t t1/\mStep s n f=some {s with bytes:=s1.bytes,ts:=ts'.set n t1}/\ts'.length=s.ts.length/\ ∀k t0,k≠n->s.ts[k]?=some t0-> ∃t',ts'[k]?=some t'/\OthR t f t0 t'
theorem rB{l:List TD}{n:Nat}{t:TD}(h:l[n]?=some t):l.set n t=l:=by
 apply List.ext_getElem?
 intro k
 rw [List.getElem?_set]
 split
 ·rename_i e
  subst e
  split
  ·exact h.symm
  ·rename_i hn
   exact absurd (List.getElem?_eq_some_iff.1 h).1 hn
 ·rfl
theorem ux(n:Nat)(a m:Int)(k:Nat)(ts:List TD):(othM n a m k ts).length=ts.length:=by simp [othM]
theorem uy{n:Nat}{a m:Int}{k j:Nat}{ts:List TD}{t0:TD}(h:ts[j]?=some t0):(othM n a m k ts)[j]?=some (if j<k/\j≠n then clrW a m t0 else t0):=by
 simp [othM,List.getElem?_mapIdx,h]
theorem jo{s:MSt}{n:Nat}{t:TD}(ht:s.ts[n]?=some t){f:Bool}{z k:Int}{s1:MSt}(h1:mStep ⟨z,k,s.bytes,[t]⟩ 0 f=some s1):StepR s n t f s1:=by
 unfold StepR mStep
 unfold mStep at h1
 rw [ht]
 simp only [List.getElem?_cons_zero,zaZ] at h1 ⊢
 by_cases he:t.end_≠0
 ·rw [if_pos he] at h1 ⊢
  obtain rfl:=zae h1
  exact ⟨t,s.ts,rfl,⟨rfl,rfl,.inl rfl⟩,by rw [rB ht],rfl,fun j t0 _ h=>⟨t0,h,.inl rfl⟩⟩
 ·rw [if_neg he] at h1 ⊢
  by_cases hp:t.st.pc<0
  ·rw [if_pos hp] at h1
   cases h1
  ·rw [if_neg hp] at h1 ⊢
   cases hi:t.code[t.st.pc.toNat]? with
   |none=>rw [hi] at h1;cases h1
   |some i=>
    have DY:i∈t.code:=zat hi
    rw [hi] at h1
    simp only [zaZ] at h1 ⊢
    by_cases hv:(enc i).isSome=true
    ·rw [if_pos hv] at h1 ⊢
     by_cases hm:meB i.op=true
     ·rw [if_pos hm] at h1 ⊢
      unfold memM at h1 ⊢
      simp only at h1 ⊢
      by_cases yb:thereM s.bytes (spanA t.st i) (lenI i)=true
      ·rw [if_pos yb] at h1 ⊢
       by_cases hw:wrB i.op=true
       ·rw [if_pos hw] at h1 ⊢
        by_cases hd:(!exB i.op||(!f&&(t.st.wa==spanA t.st i&&t.st.wl==lenI i)))=true
        ·rw [if_pos hd] at h1 ⊢
         obtain rfl:=zae h1
         refine ⟨_,_,rfl,⟨rfl,rfl,.inr ⟨i,DY,_,_,_,rfl⟩⟩,rfl,ux _ _ _ _ _,fun j t0 hj h=>⟨_,uy h,?_⟩⟩
         rw [if_pos ⟨(List.getElem?_eq_some_iff.1 h).1,hj⟩]
         refine .inr ⟨i,hi,hw,fun hx=>?_,rfl⟩
         simpa [hx] using hd
        ·rw [if_neg hd] at h1 ⊢
         obtain rfl:=zae h1
         exact ⟨_,s.ts,rfl,⟨rfl,rfl,.inr ⟨i,DY,_,_,_,rfl⟩⟩,rfl,rfl,fun j t0 _ h=>⟨t0,h,.inl rfl⟩⟩
       ·rw [if_neg hw] at h1 ⊢
        obtain rfl:=zae h1
        exact ⟨_,s.ts,rfl,⟨rfl,rfl,.inr ⟨i,DY,_,_,_,rfl⟩⟩,rfl,rfl,fun j t0 _ h=>⟨t0,h,.inl rfl⟩⟩
      ·rw [if_neg yb] at h1
       cases h1
     ·rw [if_neg hm] at h1 ⊢
      cases hs:stopT t i with
      |none=>rw [hs] at h1;cases h1
      |some t1=>
       rw [hs] at h1
       simp only [Option.map_some] at h1 ⊢
       obtain rfl:=zae h1
       have xC:t1.code=t.code/\t1.sites=t.sites:=by
        unfold stopT at hs
        repeat' split at hs
        all_goals first
         |(obtain rfl:=zae hs;exact ⟨rfl,rfl⟩)
         |cases hs
       exact ⟨_,s.ts,rfl,⟨xC.1,xC.2,.inr ⟨i,DY,_,_,_,rfl⟩⟩,rfl,rfl,fun j t0 _ h=>⟨t0,h,.inl rfl⟩⟩
    ·rw [if_neg hv] at h1
     cases h1
theorem ij{r:ThI}{Bs:List (List Nat)}{tab:HTab}{κ:HK}{m:Nat}(h:hlOk r Bs tab (κ,m)=true):
  (∃k,hlLook tab (clrK κ)=some k/\k<=m+19)/\κ.xs.length=31/\((κ.wa=0/\κ.wl=0)\/(κ.wa=65536/\κ.wl=4))/\hlFar r κ=true/\(κ.en≠0->κ.en=1)/\(κ.en=0-> ∀b∈Bs,∀f,hlOkS r Bs tab κ m b f=true)/\m<=1000:=by
 unfold hlOk at h
 simp only [za0] at h
 obtain ⟨⟨⟨⟨⟨h1,h2⟩,h3⟩,h4⟩,h6⟩,h5⟩:=h
 refine ⟨?_,Nat.eq_of_beq_eq_true h2,?_,h4,fun he=>?_,fun he b hb f=>?_,Nat.le_of_ble_eq_true h6⟩
 ·split at h1
  ·rename_i k hk
   exact ⟨k,hk,Nat.le_of_ble_eq_true h1⟩
  ·cases h1
 ·simpa using h3
 ·rw [if_pos (by simpa using he)] at h5
  exact Nat.eq_of_beq_eq_true h5
 ·rw [if_neg (by simpa using he)] at h5
  have h6:=List.all_eq_true.1 h5 b hb
  simp only [za0] at h6
  cases f
  ·exact h6.1
  ·exact h6.2
theorem qr{r:ThI}{Bs:List (List Nat)}{tab:HTab}{κ:HK}{m:Nat}{b:List Nat}{f:Bool}(Db:(codeOf r).all regB=true)(hx:κ.xs.length=31)(h:hlOkS r Bs tab κ m b f=true):
  ∃s1 κ' m',mStep ⟨16,0,b,[unT r κ]⟩ 0 f=some s1/\s1.ts=[unT r κ']/\hlLook tab κ'=some m'/\s1.bytes∈Bs/\(f=false->m'+hlWt r κ<=m):=by
 unfold hlOkS at h
 cases hS:hlS r κ b f with
 |none=>rw [hS] at h;cases h
 |some q=>
  obtain ⟨κ',b'⟩:=q
  rw [hS] at h
  simp only [za0] at h
  obtain ⟨hb,hk⟩:=h
  unfold hlS at hS
  cases hM:mStep ⟨16,0,b,[unT r κ]⟩ 0 f with
  |none=>rw [hM] at hS;cases hS
  |some s1=>
   rw [hM] at hS
   obtain ⟨t1,ts',h1,⟨hc,hs,xw⟩, -⟩:=jo (s:=⟨16,0,b,[unT r κ]⟩) (n:=0) (t:=unT r κ) rfl hM
   rw [zaZ,h1,List.getElem?_cons_zero,zaZ] at hS
   split at hS
   ·rename_i hp
    injection zae hS with e1 e2
    have hf:FinX t1.st:=by
     rcases xw with e|⟨i,hi,g0,g1,fb,e⟩
     ·rw [e]
      exact iR r κ hx
     ·rw [e]
      exact vV (iR r κ hx) (List.all_eq_true.1 Db i hi) _ _ _
    have hu:=iQ r t1 hc hs hf hp
    rw [e1] at hu
    cases hL:hlLook tab κ' with
    |none=>rw [hL] at hk;cases hk
    |some m'=>
     rw [hL] at hk
     refine ⟨s1,κ',m',rfl,by rw [h1,hu],hL,?_,fun e=>?_⟩
     ·obtain ⟨x,BF,zO⟩:=List.any_eq_true.1 hb
      rw [e2,fu zO]
      exact BF
     ·subst e
      exact Nat.le_of_ble_eq_true (by simpa using hk)
   ·cases hS
theorem ybY:(List.range 2).all (fun c=>(List.range 2).all (fun th=>(hlR (c+1) (th+1)).all (fun r=>(codeOf r).all regB)))=true:=by kernel_rfl
def WatchK(κ:HK):Prop:=(κ.wa=0/\κ.wl=0)\/(κ.wa=65536/\κ.wl=4)
theorem wE(a b:Int):meetsB a b 0 0=false:=by
 have h1:loI 0 0=0:=by
  unfold loI
  split<;>rfl
 have h2:hiI 0 0=0:=by
  unfold hiI
  split<;>rfl
 unfold meetsB bLo bHi
 rw [h1,h2,if_pos Za,if_pos Za]
 rfl
theorem uw{r r0:ThI}{tab0:HTab}{κ κ0:HK}{m0:Nat}{f:Bool}{t':TD}(AU:hlFar r κ=true)(hw:WatchK κ)(yS:WatchK κ0)(J3: ∃k,hlLook tab0 (clrK κ0)=some k/\k<=m0+19)(h0:hlLook tab0 κ0=some m0)(ho:OthR (unT r κ) f (unT r0 κ0) t'):
  ∃κ1 m1,t'=unT r0 κ1/\hlLook tab0 κ1=some m1/\(m1=m0\/hlWt r κ=20/\f=false/\m1<=m0+19):=by
 rcases ho with rfl|⟨i,hi,FB,hex,rfl⟩
 ·exact ⟨κ0,m0,rfl,h0,.inl rfl⟩
 ·have Al:(codeOf r)[κ.pc]?=some i:=by simpa [unT] using hi
  unfold clrW
  by_cases hm:meetsB (unT r0 κ0).st.wa (unT r0 κ0).st.wl (spanA (unT r κ).st i) (lenI i)=true
  ·rw [if_pos hm]
   obtain ⟨k,hk,yZ⟩:=J3
   refine ⟨clrK κ0,k,rfl,hk,.inr ?_⟩
   by_cases hx:exB i.op=true
   ·obtain ⟨hf,ha,hl⟩:=hex hx
    have ha':(κ.wa:Int)=spanA (unT r κ).st i:=ha
    have Bp:(κ.wl:Int)=lenI i:=hl
    rcases hw with ⟨h1,h2⟩|⟨h1,h2⟩
    ·rw [<-ha',<-Bp,h1,h2] at hm
     rw [show ((0:Nat):Int)=0 from rfl,wE] at hm
     cases hm
    ·exact ⟨by simp [hlWt,Al,FB,hx,h1],hf,yZ⟩
   ·have Nc:exB i.op=false:=by simpa using hx
    simp only [hlFar,Al,FB,Nc,Bool.true_and,Bool.not_false,Bool.not_true,Bool.false_or,za0,Bool.not_eq_true'] at AU
    rcases yS with ⟨h1,h2⟩|⟨h1,h2⟩
    ·have:meetsB 0 0 (spanA (unT r κ).st i) (lenI i)=true:=by
      have h:=hm
      simp only [unT,h1,h2] at h
      exact h
     rw [AU.2] at this
     cases this
    ·have:meetsB 65536 4 (spanA (unT r κ).st i) (lenI i)=true:=by
      have h:=hm
      simp only [unT,h1,h2] at h
      exact h
     rw [AU.1] at this
     cases this
  ·rw [if_neg hm]
   exact ⟨κ0,m0,rfl,h0,.inl rfl⟩
theorem ycb(r:ThI)(κ:HK):1<=hlWt r κ:=by
 unfold hlWt
 repeat' split
 all_goals omega
structure HlI(c th:Nat)(ms:Nat->Nat)(s:MSt):Prop where
 size:s.size=16
 bytes:s.bytes∈hlBs (mBeg 16 (hlR c th)).bytes.length c
 len:s.ts.length=th
 at_: ∀n,n<th-> ∃κ,hlLook (hlTab c th n) κ=some (ms n)/\s.ts[n]?=some (unT ((hlR c th).getD n ([],[])) κ)
structure HlC(c th:Nat):Prop where
 ck: ∀n,n<th->hlAll c th n (hlTab c th n)=true
 rg: ∀n,n<th->(codeOf ((hlR c th).getD n ([],[]))).all regB=true
theorem mg{c th:Nat}(C:HlC c th){ms:Nat->Nat}{s:MSt}(h:HlI c th ms s){n:Nat}(hn:n<th)(f:Bool):
  ∃s' ms',mStep s n f=some s'/\HlI c th ms' s'/\s'.taken=s.taken/\ ∀t,s.ts[n]?=some t->(t.end_≠0/\t.end_=1/\s'=s/\ms'=ms)\/(t.end_=0/\(f=false->ms' n+1<=ms n/\ ∀k,k≠n->k<th->ms' k+ms' n+1<=ms k+ms n)):=by
 obtain ⟨κ,hk,zP⟩:=h.at_ n hn
 obtain ⟨p1,p2,p3,p4,p5,p6, -⟩:=ij (il (C.ck n hn) hk)
 by_cases he:κ.en=0
 ·obtain ⟨s1,κ',m',hM,h1,Aj,yF,FN⟩:=qr (C.rg n hn) p2 (p6 he s.bytes h.bytes f)
  obtain ⟨t1,ts',e1, -,hS,Bp,AL⟩:=jo (s:=s) (n:=n) zP hM
  rw [h1] at e1
  obtain rfl:=(List.cons.inj e1).1
  have hO: ∀k,∃m1,k≠n->k<th->(∃κ1,ts'[k]?=some (unT ((hlR c th).getD k ([],[])) κ1)/\hlLook (hlTab c th k) κ1=some m1)/\(m1=ms k\/hlWt ((hlR c th).getD n ([],[])) κ=20/\f=false/\m1<=ms k+19):=fun k=>by
   by_cases zu:k≠n/\k<th
   ·obtain ⟨κ0,yd,Jd⟩:=h.at_ k zu.2
    obtain ⟨q1,q2,q3,q4,q5,q6, -⟩:=ij (il (C.ck k zu.2) yd)
    obtain ⟨t',FJ,ho⟩:=AL k _ zu.1 Jd
    obtain ⟨κ1,m1,rfl,wT,Aw⟩:=uw p4 p3 q3 q1 yd ho
    exact ⟨m1,fun _ _=>⟨⟨κ1,FJ,wT⟩,Aw⟩⟩
   ·exact ⟨0,fun h1 h2=>absurd ⟨h1,h2⟩ zu⟩
  obtain ⟨mo,Lu⟩:=Classical.skolem.1 hO
  have hwp:=ycb ((hlR c th).getD n ([],[])) κ
  refine ⟨_,fun k=>if k=n then m' else mo k,hS,⟨h.size,yF,by rw [List.length_set,Bp,h.len],fun k Dj=>?_⟩,rfl,fun t ht=> .inr ⟨?_,fun hf=>⟨?_,fun k zu Dj=>?_⟩⟩⟩
  ·by_cases zu:k=n
   ·subst zu
    refine ⟨κ',by rw [if_pos rfl];exact Aj,?_⟩
    rw [List.getElem?_set_self (by rw [Bp,h.len];exact Dj)]
   ·obtain ⟨⟨κ1,FH,wT⟩, -⟩:=Lu k zu Dj
    exact ⟨κ1,by rw [if_neg zu];exact wT,by rw [List.getElem?_set_ne (fun e=>zu e.symm)];exact FH⟩
  ·rw [zP] at ht
   rw [<-zae ht]
   show (κ.en:Int)=0
   omega
  ·have:=FN hf
   show (if n=n then m' else mo n)+1<=ms n
   rw [if_pos rfl]
   omega
  ·have h3:=FN hf
   obtain ⟨-,h4⟩:=Lu k zu Dj
   show (if k=n then m' else mo k)+(if n=n then m' else mo n)+1<=ms k+ms n
   rw [if_pos rfl,if_neg zu]
   rcases h4 with h4|⟨h4, -,h5⟩
   ·omega
   ·omega
 ·have xw:mStep s n f=some s:=by
   unfold mStep
   rw [zP,zaZ,if_pos (show (unT _ κ).end_≠0 from fun e=>he (by have:(κ.en:Int)=0:=e;omega))]
  refine ⟨s,ms,xw,h,rfl,fun t ht=> .inl ?_⟩
  rw [zP] at ht
  rw [<-zae ht]
  have:=p5 he
  exact ⟨fun e=>he (by have:(κ.en:Int)=0:=e;omega),by show (κ.en:Int)=1;omega,rfl,rfl⟩
theorem ik{c th:Nat}(C:HlC c th){ms:Nat->Nat}{s:MSt}(h:HlI c th ms s){n:Nat}(hn:n<th):ms n<=1000:=by
 obtain ⟨κ,hk,zP⟩:=h.at_ n hn
 obtain ⟨-, -, -, -, -, -,p7⟩:=ij (il (C.ck n hn) hk)
 exact p7
theorem ye9{b:List Nat}{Bs:List (List Nat)}(h:Bs.any (hlEqL b)=true):b∈Bs:=by
 obtain ⟨x,BF,zO⟩:=List.any_eq_true.1 h
 rw [fu zO]
 exact BF
theorem oY(r:ThI):unT r (keyT (tdOf r))=tdOf r:=iQ r (tdOf r) rfl rfl (fun k _=>rfl) rfl
theorem lE(z:Int)(rs:List ThI):(mBeg z rs).ts=rs.map tdOf:=rfl
theorem wN(z:Int)(rs:List ThI)(n:Nat)(hn:n<rs.length):(mBeg z rs).ts[n]?=some (tdOf (rs.getD n ([],[]))):=by
 rw [lE,zaj,zaU,zaC hn]
 rfl
theorem yb4{c th:Nat}(hl:(hlR c th).length=th)(hb: ∀n,n<th->hlBeg c th n (hlTab c th n)=true)(h0:0<th): ∃ms,HlI c th ms (mBeg 16 (hlR c th)):=by
 have hO: ∀n,∃m,n<th->hlLook (hlTab c th n) (keyT (tdOf ((hlR c th).getD n ([],[]))))=some m:=fun n=>by
  by_cases hn:n<th
  ·have h:=hb n hn
   simp only [hlBeg,za0] at h
   obtain ⟨m,hm⟩:=Option.isSome_iff_exists.1 h.1
   exact ⟨m,fun _=>hm⟩
  ·exact ⟨0,fun h=>absurd h hn⟩
 obtain ⟨ms,Lt⟩:=Classical.skolem.1 hO
 refine ⟨ms,rfl,?_,by rw [lE,List.length_map];exact hl,fun n hn=>⟨_,Lt n hn,?_⟩⟩
 ·have h:=hb 0 h0
  simp only [hlBeg,za0] at h
  exact ye9 h.2
 ·rw [oY]
  exact wN 16 (hlR c th) n Za
theorem ybV{c th:Nat}(C:HlC c th){ms:Nat->Nat}{s:MSt}(h:HlI c th ms s){n:Nat}(hn:n<th)(h0:0<=s.taken)(h1:s.taken<65536):
  ∃s' ms',mSom n false 1 s=some (s',0)/\HlI c th ms' s'/\ ∀t,s.ts[n]?=some t->(t.end_=1/\s'=s/\ms'=ms)\/(t.end_=0/\s'.taken=s.taken+1/\ms' n+1<=ms n/\ ∀k,k≠n->k<th->ms' k+ms' n+1<=ms k+ms n):=by
 obtain ⟨κ,hk,zP⟩:=h.at_ n hn
 obtain ⟨s',ms',hS,hI,DC,hr⟩:=mg C (s:={s with taken:=s.taken+1}) ⟨h.size,h.bytes,h.len,h.at_⟩ hn false
 rcases hr _ zP with ⟨he,Ca, -, -⟩|⟨he,hd⟩
 ·refine ⟨s,ms,?_,h,fun t ht=> .inl ⟨?_,rfl,rfl⟩⟩
  ·unfold mSom
   rw [zP,zaZ,if_pos he]
  ·rw [zP] at ht
   rw [<-zae ht]
   exact Ca
 ·refine ⟨s',ms',?_,hI,fun t ht=> .inr ⟨?_,DC,hd rfl⟩⟩
  ·unfold mSom
   rw [zP,zaZ,if_neg (by simpa using he),if_neg Za,if_neg Za,hS]
   rfl
  ·rw [zP] at ht
   rw [<-zae ht]
   exact he
end Go.Proofs.YtcekjfmfcefjpaaGreatDoor
