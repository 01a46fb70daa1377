/- Walks. No condition. -/
import Derived.WalkKit
import Derived.WalkSpells
import Derived.WalkLawsBesides
import Derived.BigQuiet
import Derived.Deep.QuietTactic
import Derived.Lib.Hide
import Derived.Lib.QuietBelow
import Derived.ChangeSame
import Derived.OrdersHeld
import Derived.Deep.RegionHeld3
import Derived.Laws.StructEq
import Derived.Handy
import Derived.Laws.Rows
import Derived.LoopN
import Derived.OwnWalk
import Derived.Deep.Quiet
import Derived.Laws.AppendOwn
import Derived.ProofKit
import Derived.OpenShut
import Derived.Deep.Slices
import Derived.Laws.BitsAllLaws
import Derived.Deep.OwnRows
import Derived.Test.YtcekjfmfcefjpaaGreatDoorProg
set_option maxRecDepth 100000
set_option maxHeartbeats 0
set_option linter.all false
namespace Go.Proofs.YtcekjfmfcefjpaaGreatDoor
open Go.RowKit Go.WideShapes Go.ChangeShapes
theorem Zh{p:Prop}(h:p):Hid p:=Lib.hid h
abbrev qC:=Calls Tryz.prog
abbrev qW:=World
abbrev qB:=ByteArray
abbrev qV:=Value
theorem zaa:type_of% @Go.RowKit.Below.refl:=@Go.RowKit.Below.refl
theorem zab:type_of% @Go.heap_alloc_new:=@Go.heap_alloc_new
theorem zac:type_of% @Go.heap_alloc_old:=@Go.heap_alloc_old
theorem zad:type_of% @Go.bodyPost_ret:=@Go.bodyPost_ret
theorem zae:type_of% @Option.some.inj.{0}:=@Option.some.inj.{0}
theorem zaf:type_of% @List.flatMap_cons.{0,0}:=@List.flatMap_cons.{0,0}
theorem zag:type_of% @Nat.zero_add:=@Nat.zero_add
theorem zah:type_of% @List.getElem?_append_left.{0}:=@List.getElem?_append_left.{0}
theorem zai:type_of% @List.getElem?_append_right.{0}:=@List.getElem?_append_right.{0}
theorem zaj:type_of% @List.getElem?_map.{0,0}:=@List.getElem?_map.{0,0}
theorem zak:type_of% @Bool.or_eq_true:=@Bool.or_eq_true
theorem zal:type_of% @Nat.le_trans:=@Nat.le_trans
theorem zam:type_of% @Array.length_toList.{0}:=@Array.length_toList.{0}
theorem zan:type_of% @Go.info_parts:=@Go.info_parts
theorem zao:type_of% @Go.wp_loop_rounds:=@Go.wp_loop_rounds
theorem zap:type_of% @Go.rounds_succ:=@Go.rounds_succ
theorem zaq:type_of% @Nat.le_refl:=@Nat.le_refl
theorem zar:type_of% @Nat.lt_of_lt_of_le:=@Nat.lt_of_lt_of_le
theorem zas:type_of% @Go.RowKit.Below.heap_setCell:=@Go.RowKit.Below.heap_setCell
theorem zat:type_of% @List.mem_of_getElem?.{0}:=@List.mem_of_getElem?.{0}
theorem zau:type_of% @decide_eq_true_eq:=@decide_eq_true_eq
theorem zav:type_of% @Array.getElem?_eq_getElem.{0}:=@Array.getElem?_eq_getElem.{0}
theorem zaw:type_of% @decide_eq_true:=@decide_eq_true
theorem zax:type_of% @decide_eq_false:=@decide_eq_false
theorem zay:type_of% @Bool.false_and:=@Bool.false_and
theorem zaz:type_of% @List.take_add_one.{0}:=@List.take_add_one.{0}
theorem zaA:type_of% @Option.some.injEq.{0}:=@Option.some.injEq.{0}
theorem zaB:type_of% @Nat.zero_le:=@Nat.zero_le
theorem zaC:type_of% @List.getElem?_eq_getElem.{0}:=@List.getElem?_eq_getElem.{0}
theorem zaD:type_of% @List.foldl_append.{0,0}:=@List.foldl_append.{0,0}
theorem zaE:type_of% @Go.wpQuiet_nil:=@Go.wpQuiet_nil
theorem zaF:type_of% @Go.World.cell?_setCell_same:=@Go.World.cell?_setCell_same
theorem zaG:type_of% @Go.World.frozen?_setCell:=@Go.World.frozen?_setCell
theorem zaH:type_of% @Go.World.cell?_setCell_other:=@Go.World.cell?_setCell_other
theorem zaI:type_of% @Array.getD_eq_getD_getElem?.{0}:=@Array.getD_eq_getD_getElem?.{0}
theorem zaJ:type_of% @Nat.lt_or_ge:=@Nat.lt_or_ge
theorem zaK:type_of% @List.mem_cons_of_mem.{0}:=@List.mem_cons_of_mem.{0}
theorem zaL:type_of% @Nat.mod_lt:=@Nat.mod_lt
theorem zaM:type_of% @List.mem_cons.{0}:=@List.mem_cons.{0}
theorem zaN:type_of% @List.not_mem_nil.{0}:=@List.not_mem_nil.{0}
theorem zaO:type_of% @List.length_append.{0}:=@List.length_append.{0}
theorem zaP:type_of% @List.getElem_of_mem.{0}:=@List.getElem_of_mem.{0}
theorem zaQ:type_of% @Nat.pow_le_pow_right:=@Nat.pow_le_pow_right
theorem zaR:type_of% @List.length_take.{0}:=@List.length_take.{0}
theorem zaS:type_of% @List.drop_eq_getElem_cons.{0}:=@List.drop_eq_getElem_cons.{0}
theorem zaT:type_of% @Array.getElem?_setIfInBounds.{0}:=@Array.getElem?_setIfInBounds.{0}
theorem zaU:type_of% @List.getD_eq_getElem?_getD.{0}:=@List.getD_eq_getElem?_getD.{0}
theorem zaV:type_of% @List.length_nil.{0}:=@List.length_nil.{0}
theorem zaW:type_of% @Array.getElem?_eq_none.{0}:=@Array.getElem?_eq_none.{0}
theorem zaX:type_of% @Go.World.ownsRow_nil:=@Go.World.ownsRow_nil
theorem zaY:type_of% @Bool.false_eq_true:=@Bool.false_eq_true
theorem zaZ:type_of% @Option.bind_some.{0,0}:=@Option.bind_some.{0,0}
theorem za0:type_of% @Bool.and_eq_true:=@Bool.and_eq_true
theorem za1:type_of% @Option.map_eq_some_iff.{0,0}:=@Option.map_eq_some_iff.{0,0}
theorem za2:type_of% @List.length_cons.{0}:=@List.length_cons.{0}
theorem za3:type_of% @List.mem_cons_self.{0}:=@List.mem_cons_self.{0}
abbrev iI(x:Int):Value:= .int .i64 x
abbrev aA(b:Nat):Option Addr:=some ⟨b,0,none⟩
abbrev pP(b:Nat):Value:= .pointer (some ⟨b,0,none⟩)
abbrev aB(b o:Nat):Addr:=⟨b,o,none⟩
theorem Z0_{P:Prop}(h:P:=by (apply EmA.fin;(repeat (first|with_reducible exact HM.out|with_reducible apply EmA.alloc|with_reducible apply EmA.drew|with_reducible apply EmA.mo));all_goals exact HM.out)):P:=h
theorem ZS{P:Prop}(h:P:=by (apply EmB.fin;(repeat (first|with_reducible exact HB.out|with_reducible apply EmB.alloc|with_reducible apply EmB.drew|with_reducible apply EmB.mo));all_goals exact HB.out)):P:=h
theorem ZP{P:Prop}(h:P:=by (apply MkA.fin;(repeat (first|with_reducible exact HM.out|with_reducible apply MkA.alloc|with_reducible apply MkA.drew|with_reducible apply MkA.mo|with_reducible apply MkA.own|exact HM.out));all_goals (first|with_reducible assumption|exact ⟨by omega⟩|omega))):P:=h
theorem Ze{P:Prop}(h:P:=by repeat (first|with_reducible exact HC.out|with_reducible apply At.alloc|with_reducible apply At.drew|((with_reducible apply At.own);rotate_left;omega))):P:=h
theorem Zj{P:Prop}(h:P:=by (repeat (first|with_reducible exact HM.out|with_reducible apply MkA.alloc|with_reducible apply MkA.drew|with_reducible apply MkA.mo|with_reducible apply MkA.own|exact HM.out));all_goals (first|with_reducible assumption|exact ⟨by omega⟩|omega)):P:=h
theorem Zd{P:Prop}(h:P:=by repeat (first|exact Below.refl _ _|refine aF ?_ _|refine ab ?_ _)):P:=h
theorem Zf{P:Prop}(h:P:=by (try simp only [Zz,List.mem_cons,List.not_mem_nil,or_false]);(try simp only [not_false_eq_true]);(try omega)):P:=h
theorem ZD{P:Prop}(h:P:=by (repeat (first|with_reducible exact HM.out|with_reducible apply MkA.alloc|with_reducible apply MkA.drew|with_reducible apply MkA.mo|with_reducible apply MkA.own|with_reducible apply MkA.setl|exact HM.out));all_goals (first|with_reducible assumption|exact ⟨by omega⟩|omega)):P:=h
theorem Zm{P:Prop}(h:P:=by repeat (first|with_reducible exact HB.out|with_reducible apply EmB.alloc|with_reducible apply EmB.drew|with_reducible apply EmB.mo)):P:=h
theorem Zr{P:Prop}(h:P:=by repeat (first|with_reducible exact Below.refl _ _|with_reducible apply ab|with_reducible apply ag|with_reducible apply aF)):P:=h
theorem Zv{P:Prop}(h:P:=by repeat (first|with_reducible exact Below.refl _ _|with_reducible exact Below.refl _ _|with_reducible apply ab|with_reducible apply ag|with_reducible apply aF)):P:=h
theorem Za{P:Prop}(h:P:=by omega):P:=h
theorem ZC{P:Prop}(h:P:=by (repeat (first|with_reducible exact HV.out|with_reducible apply ExAt.alloc|with_reducible apply ExAt.drew|with_reducible apply ExAt.own));all_goals ((try simp only [Zz]);omega)):P:=h
theorem ZF{P:Prop}(h:P:=by (repeat (first|with_reducible exact yg.out|with_reducible apply ExAt.alloc|with_reducible apply ExAt.drew|with_reducible apply ExAt.own));all_goals ((try simp only [Zz]);omega)):P:=h
theorem ZK{P:Prop}(h:P:=by (repeat (first|with_reducible exact HO.out|with_reducible apply gw|with_reducible apply World.ownsRow.alloc|with_reducible apply gx));all_goals (simp [Value.ownBlock];omega)):P:=h
theorem ZH{P:Prop}(h:P:=by (repeat (first|with_reducible exact V1.out|with_reducible apply Has.alloc|with_reducible apply Has.drew|with_reducible apply Has.own));all_goals ((try simp only [Zz]);omega)):P:=h
theorem ZI{P:Prop}(h:P:=by (repeat (first|with_reducible exact V2.out|with_reducible apply Has.alloc|with_reducible apply Has.drew|with_reducible apply Has.own));all_goals ((try simp only [Zz]);omega)):P:=h
theorem ZJ{P:Prop}(h:P:=by (repeat (first|with_reducible exact V3.out|with_reducible apply Has.alloc|with_reducible apply Has.drew|with_reducible apply Has.own));all_goals ((try simp only [Zz]);omega)):P:=h
theorem Zc{P:Prop}(h:P:=by (try simp only [Zz]);omega):P:=h
theorem ZN{P:Prop}(h:P:=by refine ⟨fun i=>?_,?_⟩<;>first|(simp only [drewC,dd,aR,dc,aO,iy,au,aZ,i',↓IntWalk.iteOmega];done)|(simp [go_sem,i',↓IntWalk.iteOmega];done)):P:=h
theorem Zb{P:Prop}(h:P:=by kernel_rfl):P:=h
theorem Zo{P:Prop}(h:P:=by first|with_reducible assumption|exact ⟨by omega⟩):P:=h
theorem Zx{P:Prop}(h:P:=by (try simp only [Zz]);first|with_reducible assumption|exact ⟨by omega⟩):P:=h
theorem ZU{P:Prop}(h:P:=by repeat (first|with_reducible exact h|with_reducible exact Below.refl _ _|with_reducible apply ab|with_reducible apply ag|with_reducible apply aF)):P:=h
theorem Z4{P:Prop}(h:P:=by repeat (first|with_reducible exact Below.refl _ _|with_reducible apply ab|with_reducible apply aF)):P:=h
theorem Z25_{P:Prop}(h:P:=by repeat (first|with_reducible exact Below.refl _ _|with_reducible apply ab)):P:=h
theorem Z8{P:Prop}(h:P:=by repeat (first|with_reducible exact Below.refl _ _|with_reducible apply ab|with_reducible apply ag|with_reducible apply aF|with_reducible refine eH ?_ (by first|with_reducible assumption|omega) _ _)):P:=h
theorem ZY{P:Prop}(h:P:=by repeat (first|with_reducible exact HM.out|with_reducible apply EmA.alloc|with_reducible apply EmA.drew|with_reducible apply EmA.mo)):P:=h
theorem ZQ{P:Prop}(h:P:=by (try simp only [Zz,aE]);first|with_reducible assumption|exact ⟨by omega⟩):P:=h
theorem Z5{P:Prop}(h:P:=by refine ⟨fun i=>?_,?_,?_,?_,?_,?_,?_,?_,?_⟩<;>simp [go_sem,↓IntWalk.iteOmega,i',d0,d1,d2,d3,d4,d5,d6,d7]):P:=h
theorem ZE{P:Prop}(h:P:=by (try simp only [Zz,aE]);omega):P:=h
theorem Z1{P:Prop}(h:P:=by repeat (first|exact Below.refl _ _|refine aF ?_ _|refine ab ?_ _|refine ag ?_)):P:=h
theorem Z32_{P:Prop}(h:P:=by repeat (first|with_reducible exact HB.out|with_reducible exact Below.refl _ _|with_reducible apply ab|with_reducible apply ag|with_reducible apply aF)):P:=h
theorem ZA{P:Prop}(h:P:=by with_reducible assumption):P:=h
theorem Z0{P:Prop}(h:P:=by first|exact HR.out|(have h:=HR.out;rw [Nat.pow_zero,Nat.mul_one] at h;exact h)):P:=h
theorem Z35_{P:Prop}(h:P:=by refine ⟨fun i=>?_,?_,?_,?_,?_,?_,?_,?_,?_⟩<;>simp [go_sem,↓IntWalk.iteOmega,i',c0,c1',c2,c3,c4,c5,c6,c7]):P:=h
theorem Zk{P:Prop}(h:P:=by simp;omega):P:=h
theorem ZB{P:Prop}(h:P:=by simp [Act.eval,Act.put]):P:=h
theorem ZM{P:Prop}(h:P:=by simp only [au];omega):P:=h
theorem Zg{P:Prop}(h:P:=by decide):P:=h
theorem ZZ{P:Prop}(h:P:=by repeat (first|exact Below.refl _ _|refine ab ?_ _)):P:=h
theorem ZL{P:Prop}(h:P:=by simp [Value.oneCell']):P:=h
theorem Z42_{P:Prop}(h:P:=by simp [results,Tryz.results189,go_sem,↓IntWalk.iteOmega];try rfl):P:=h
theorem ZT{P:Prop}(h:P:=by simp only [au,aZ];omega):P:=h
theorem Zi{P:Prop}(h:P:=by simp):P:=h
theorem Z45_{P:Prop}(h:P:=by simp [results,Tryz.results67,go_sem,↓IntWalk.iteOmega];try rfl):P:=h
theorem ZO{P:Prop}(h:P:=by simp [go_sem];try omega):P:=h
theorem Z6{P:Prop}(h:P:=by unfold gbF gyF getF fitF;simp;split<;>simp<;>omega):P:=h
theorem Z48_{P:Prop}(h:P:=by repeat (first|with_reducible exact HS.out|with_reducible refine aU ?_ _|with_reducible refine cE ?_ _)):P:=h
theorem ZG{P:Prop}(h:P:=by simp [go_sem]):P:=h
theorem Z50_{P:Prop}(h:P:=by repeat (first|with_reducible exact Below.refl _ _|with_reducible exact HB.out|with_reducible apply ab|with_reducible apply ag|with_reducible apply aF)):P:=h
theorem ZR{P:Prop}(h:P:=by simp [go_sem];omega):P:=h
theorem Z52_{P:Prop}(h:P:=by first|omega|exact lu (by assumption)):P:=h
theorem Z53_{P:Prop}(h:P:=by first|rfl|(congr 3;simp [q4];done)|(rw [q4];rfl)):P:=h
theorem Z54_{P:Prop}(h:P:=by simp [results,Tryz.results71,go_sem,↓IntWalk.iteOmega];try rfl):P:=h
theorem Z55_{P:Prop}(h:P:=by simp [results,Tryz.results89,go_sem]):P:=h
theorem Z56_{P:Prop}(h:P:=by (repeat (first|with_reducible exact HB.out|with_reducible apply EmB.alloc|with_reducible apply EmB.drew|with_reducible apply EmB.mo|with_reducible apply EmB.own));all_goals first|(intro e;have:=Cp.out _ e;omega)|((try simp only [Zz]);omega)):P:=h
theorem Z9{P:Prop}(h:P:=by
 obtain ⟨i0,hi,xq,xm,xk⟩:=info_parts rj
 have ix:=fun cs hn k h0 h1 w=>rT (P:=Tryz.prog) Tryz.underlying208 Tryz.underlying165 hi xm cs hn k h0 h1 w
 clear xq xm xk hi
 go_enter Tryz.func67,Tryz.ntmps67
 go_wp2
 repeat (first|(refine wp_loop_rounds 6 ?_)|(rw [rounds_succ];go_wp2))
 (try simp only [Exit.inBlock,Exit.then]);refine bodyPost_ret Z45_ rfl ?_
 exact Gives.mk rfl Z25_):P:=h
theorem Z58_{P:Prop}(h:P:=by
 have u':IntKind.i64.wrap (d+1)=d+1:=cW h0 Za
 have hC:=HH.out.ck.lt
 have C0:=HH.out.ck.own_lt
 go_enter Tryz.func105,Tryz.ntmps105
 go_wp2_with (first
  |(go_at_call 143;(with_reducible refine (HH.out.need _ _).mono ?_);rintro e1 w1 ⟨rfl,u'⟩;subst u')
  |(go_at_call 145;(with_reducible refine (HH.out.order _).mono ?_);rintro e1 w1 ⟨rfl,u'⟩;subst u')
  |(go_at_call 144;(with_reducible refine (HH.out.form _).mono ?_);rintro e1 w1 ⟨rfl,p,rfl⟩)
  |(go_at_call 148;(with_reducible refine (HH.out.exprs _ Zr).mono ?_);rintro e1 w1 ⟨rfl,p,rfl⟩)
  |(go_at_call 73;(with_reducible refine (zt.out _ lv line (HH.out.ck.more Zr)).mono ?_);intro e1 w1 hD;obtain rfl:=hD.1;have hF:=fun i=>CkW.cell_old (i:=i) (HH.out.ck.more Zr) hD (K:=w.heap.size) (by simp [go_sem];(try omega)) Za (fun e=>by have:=C0 _ e;omega);have c1:=hF 1;have c9:=hF 9;clear hF;simp [go_sem] at c1 c9;obtain ⟨-,lv2,line2,yp,xh,hown⟩:=hD;have k3:=aa yp.ck.out 3;have f3:=ai yp.ck.out 3;have Dz:=Lib.hid yp;have HK:=Lib.hid (Kp.trans (Kp.of_below (a:=w) (X:=fun k=>k=C\/lv.ownBlock=some k) Zr) xh);have HO:=Lib.hid (fun k hk=>(hown k hk).imp id (fun h=>Nat.le_trans (Below.size (B:=w.heap.size) (w:=w) Zr) h));clear yp xh hown)
  |(go_at_call 73;(with_reducible refine (xA.out _ _ _ (Dz.out.setl ln)).mono ?_);intro e2 w2 A4;obtain rfl:=A4.1;have E0:=Lib.hid A4;clear A4))
 go_end0
 exact CkD.next (HK.out.next (Kp.set _ C 3 _) (fun i hi e=> .inl e)) HO.out E0.out):P:=h
theorem Z59_{P:Prop}(h:P:=by
 have HR:=Lib.hid hr
 clear hr
 have HC:=Lib.hid (At.begin h)
 have wY:=h.lt
 obtain ⟨b,o,c,h1,h2,h3,h4,h5,h6,h7,h8, -⟩:=h.mem
 have hc:=aa h1
 clear h h1
 go_enter Tryz.func71,Tryz.ntmps71
 go_wp2_with fail
 clear hc h2 h3 h4 h5 h6 h7 h8
 go_wp2_with ((first|(go_at_call 31;refine (bN _ (At.pt (w:=w) Ze) ZA).mono ?_;rintro e w1 ⟨rfl,rfl⟩)|(go_at_call 31;refine (cJ _ (At.pt (w:=w) Ze) ZA).mono ?_;rintro e w1 ⟨rfl,hT,hP⟩)|(go_at_call 32;refine (eV _ (At.pt (w:=w) Ze)).mono ?_;rintro e w1 ⟨rfl,hT,hP⟩)|(go_at_call 97;refine (jZ _ (At.pt (w:=w) Ze) _ Za Za _ HR.out).mono ?_;rintro e w1 ⟨xa,xc,rfl,hT,hP,hv⟩;replace HC:=Lib.hid (At.next (w:=w) Ze hT hP);clear hP;(try (replace V1:=Lib.hid (Has.same ZH hT)));(try (replace V2:=Lib.hid (Has.same ZI hT)));(try (replace V3:=Lib.hid (Has.same ZJ hT)));(try (replace HV:=Lib.hid (ExAt.same ZC hT)));(try (replace yg:=Lib.hid (ExAt.same ZF hT)));(try (replace HO:=Lib.hid (ah ZK hT (fun g1 xn=>by (try simp only []);simp [Value.ownBlock] at xn;omega))));have hs:=HC.out.kp.size;have hm:=Kp.size hT;(try simp only [Zz] at hm);(repeat ((first|(with_reducible obtain ⟨hx,hy,hT⟩:=hT.peel)|(with_reducible obtain ⟨hx,hy,hT⟩:=hT.peelA));(try simp only [Zz] at hx hy);rw [hx];clear hx));(repeat (clear hT));(try (have V3:=V2;clear V2));(try (have V2:=V1;clear V1));have V1:=Lib.hid hv.has;clear hv)|(go_at_call 34;refine (cY _ (At.pt (w:=w) Ze) _).mono ?_;rintro e w1 ⟨rfl,hT,hP⟩));(try (replace HC:=Lib.hid (At.next (w:=w) Ze hT hP);clear hP;(try (replace V1:=Lib.hid (Has.same ZH hT)));(try (replace V2:=Lib.hid (Has.same ZI hT)));(try (replace V3:=Lib.hid (Has.same ZJ hT)));(try (replace HV:=Lib.hid (ExAt.same ZC hT)));(try (replace yg:=Lib.hid (ExAt.same ZF hT)));(try (replace HO:=Lib.hid (ah ZK hT (fun g1 xn=>by (try simp only []);simp [Value.ownBlock] at xn;omega))));have hs:=HC.out.kp.size;have hm:=Kp.size hT;(try simp only [Zz] at hm);(repeat ((first|(with_reducible obtain ⟨hx,hy,hT⟩:=hT.peel)|(with_reducible obtain ⟨hx,hy,hT⟩:=hT.peelA));(try simp only [Zz] at hx hy);rw [hx];clear hx));(repeat (clear hT)))))
 (try simp only [Exit.inBlock,Exit.then]);refine bodyPost_ret Z54_ rfl ?_
 have e1:=fun w1=>Has.to V1.out (w1:=w1)
 clear V1
 refine ⟨none,0,_,_,none,0,none,0,rfl,At.kp (s:=pWant (⟨#[59]⟩:ByteArray) (r.2)) Ze,At.pt (w:=w) Ze,?_⟩
 exact cZ (XsAt.wide (e1 _ (fun h=>by (repeat (first|with_reducible exact h|with_reducible apply Has.alloc|with_reducible apply Has.drew|with_reducible apply Has.own));all_goals ((try simp only [Zz]);omega))) Zc Zc) (SsAt.nil _ _ _ _) (SsAt.nil _ _ _ _) (by unfold rng;omega) hl cF):P:=h
theorem ZV{P:Prop}(h:P:=by
 go_enter Tryz.func85,Tryz.ntmps85
 go_wp2
 refine aD Zb Zb ?_
 repeat (go_big_quiet_step (fail))
 refine wpQuiet_nil ?_
 intro p
 go_wp2
 go_ret
 exact Gives.mk rfl Zd):P:=h
theorem Z61_{P:Prop}(h:P:=by
 have HE:=Lib.hid (fun w=>ce pa pc w)
 go_enter Tryz.func240,Tryz.ntmps240
 go_wp2_with (first
  |(go_at_call 190;refine (HE.out _).mono ?_;rintro e w1 ⟨rfl,p2,rfl⟩))
 go_ret
 exact Gives.mk rfl Z4):P:=h
theorem Z7{P:Prop}(h:P:=by
 go_enter Tryz.func189,Tryz.ntmps189
 go_wp2
 (try simp only [Exit.inBlock,Exit.then]);refine bodyPost_ret Z42_ rfl ?_
 exact Gives.mk rfl Z25_):P:=h
theorem Z63_{P:Prop}(h:P:=by
 have H1:Hid (bLo f t g u=0):=by unfold bLo;exact Lib.hid Za
 have H2:Hid (bHi f t g u=0):=by unfold bHi;exact Lib.hid Za
 go_enter Tryz.func89,Tryz.ntmps89
 go_wp2
 rw [H1.out,H2.out]
 refine bodyPost_ret (v:= .agg #[iI 0,iI 0]) Z55_ rfl ⟨rfl,?_⟩
 exact ((((Below.refl _ _).alloc (Nat.le_refl _) _).alloc Zi _).alloc Zk _).alloc Zk _):P:=h
theorem ZW{P:Prop}(h:P:=by
 go_enter Tryz.func82,Tryz.ntmps82
 go_wp2
 go_returns
 exact Gives.mk rfl Zd):P:=h
theorem ZX{P:Prop}(h:P:=by
 go_enter Tryz.func84,Tryz.ntmps84
 go_wp2
 go_returns
 exact Gives.mk rfl Zd):P:=h
theorem Z2{P:Prop}(h:P:=by
 go_enter Tryz.func175,Tryz.ntmps175
 go_wp2
 go_returns
 exact Gives.mk rfl Zd):P:=h
theorem Z3{P:Prop}(h:P:=by
 go_enter Tryz.func81,Tryz.ntmps81
 go_wp2
 go_returns
 exact Gives.mk rfl Zd):P:=h
theorem Z68_{P:Prop}(h:P:=by
 go_enter Tryz.func125,Tryz.ntmps125
 go_wp2
 go_returns
 exact Gives.mk rfl Zd):P:=h
theorem Z69_{P:Prop}(h:P:=by
 induction h with
 |refl=>rfl
 |set _ k v ih=>rw [World.cell?_setCell_other _ _ _ _ (fun e=>hB (congrArg Addr.block e).symm)];exact ih
 |more h1 p ih=>rw [(av _ p).cell (p:=⟨c,k,none⟩) (Nat.lt_of_lt_of_le hc h1.size)];exact ih
 |alloc h1 o ih=>rw [((Below.refl _ _).alloc (Nat.le_refl _) o).cell (p:=⟨c,k,none⟩) (Nat.lt_of_lt_of_le hc h1.size)];exact ih):P:=h
theorem Z70_{P:Prop}(h:P:=by
 induction h with
 |refl=>rfl
 |set _ k v ih=>rw [World.frozen?_setCell];exact ih
 |more h1 p ih=>rw [(av _ p).frozen (p:=⟨c,k,none⟩) (Nat.lt_of_lt_of_le hc h1.size)];exact ih
 |alloc h1 o ih=>rw [((Below.refl _ _).alloc (Nat.le_refl _) o).frozen (p:=⟨c,k,none⟩) (Nat.lt_of_lt_of_le hc h1.size)];exact ih):P:=h
def Drew(w w':qW):Prop:= ∃m,w'=w.drewN m
theorem Drew.refl(w:qW):Drew w w:=⟨0,rfl⟩
theorem Drew.mk_(w:qW)(n:Nat):Drew w (w.drewN n):=⟨n,rfl⟩
theorem Drew.trans{a b c:qW}(h:Drew a b)(k:Drew b c):Drew a c:=by
 obtain ⟨n,rfl⟩:=h
 obtain ⟨m,rfl⟩:=k
 exact ⟨n+m,by rw [World.drewN_drewN]⟩
theorem yeI{B:Nat}{a w:qW}(h:Below B a w)(n:Nat):Below B a (w.drewN n):=⟨h.os,h.tape,h.output,h.size,h.block⟩
theorem Drew.below{w w':qW}(h:Drew w w'):Below w.heap.size w w':=by
 obtain ⟨n,rfl⟩:=h
 exact yeI (zaa _ _) n
theorem bQ{a w w':qW}(h:Below a.heap.size a w)(h2:Below w.heap.size w w'):Below a.heap.size a w':=
 h.trans ⟨h2.os,h2.tape,h2.output,h2.size,fun k hk=>h2.block k (zar hk h.size)⟩
theorem yeG{w w':qW}(h:w=w'):Below w.heap.size w w':=by subst h;exact zaa _ _
theorem um{w w1:qW}{B:Nat}{e:TypeId}{size n:Nat}{v:qV}{xs:List qV}(hown:w.ownsRow B e size v n xs)(hg:w.grownBy w1 v.ownBlock){b:Nat}(hb:b<B)(wY:b<w.heap.size):
  (∀o,w1.cell? ⟨b,o,none⟩=w.cell? ⟨b,o,none⟩)/\(∀o,w1.frozen? ⟨b,o,none⟩=w.frozen? ⟨b,o,none⟩):=by
 have h:=hg.block b wY (fun e=>by have:=hown.lt b e.symm;omega)
 exact ⟨fun o=>by simp [World.cell?,h],fun o=>by simp [World.frozen?,h]⟩
theorem bW{a w w1:qW}{B:Nat}{e:TypeId}{size n:Nat}{v:qV}{xs:List qV}(hb:Below a.heap.size a w)(hown:w.ownsRow B e size v n xs)(hg:w.grownBy w1 v.ownBlock)(hB:a.heap.size<=B):Below a.heap.size a w1:=
 hb.grown hg hb.size (fun g hg=>zal hB (hown.lt g hg).1)
section
variable{P:Program}{f:FuncId}{args:Array qV}{w:qW}{a n:Nat}{v:qV}
theorem sw(h:Calls P f args (w.drewN n) fun e w'=>e= .returned v/\w.drewN n=w'):Calls P f args (w.drewN n) fun e w''=>e= .returned v/\ ∃m,w''=w.drewN m:=
 h.mono fun _ _ ⟨he,hm⟩=>⟨he,n,hm.symm⟩
end
section
variable{H:Type}{enc:TypeId×qV->H}{P:Program}
end
end Go.Proofs.YtcekjfmfcefjpaaGreatDoor
namespace Go.Proofs.YtcekjfmfcefjpaaGreatDoor
open Go.ChangeShapes Go.WideShapes Go.ChangeAt Go.RowKit
section
variable{H:Type}{enc:TypeId×qV->H}{P:Program}
theorem iZ(hl:laidOutB P=true){W W':qW}(hb:Below W.heap.size W W'): ∀{ts:List TypeId} {vs:List qV} {ds:List (DataW H)} {ps:List MemPlace},
  (ts.all fun t=>P.readableRec t&&decide (t<P.types.size))=true->DataW.TrodAll enc P W 0 (fun _=>true) true ts vs ds ps->(∀x∈ps,x.block<W.heap.size)->
  DataW.TrodAll enc P W' 0 (fun b=>decide (b<W.heap.size)) true ts vs ds ps
 |[],_,_,_,_,h,_=>by
  obtain ⟨rfl,rfl,rfl⟩:=trodAll_nil h
  exact trodAll_mk0
 |t::ts,_,_,_,hr,h,wY=>by
  obtain ⟨v,vs',d,ds',p,q,rfl,rfl,rfl,h0,h1⟩:=trodAll_cons h
  simp only [List.all_cons,za0,zau] at hr
  exact trodAll_cons_mk (Below.trod hl hr.1.1 hr.1.2 h0 hb fun x hx=>wY x (List.mem_append_left _ hx)) (iZ hl hb hr.2 h1 fun x hx=>wY x (List.mem_append_right _ hx))
theorem yaq{f:Func}{s:ChangeSpec}{apart fresh Dp:Bool}{W W':qW}{args:Array qV}{ds gs:List (DataW H)}{before:List MemPlace}{tb:TypeId}
  (hW:DataW.Whole enc P f.params.toList s.vars apart W args.toList ds gs before) (hs:s.vars=[]) (pi:(s.fn H (ds++gs)).results=[.lit (.bool true)]) (hfa:(s.fn H (ds++gs)).args=ds)
  (hfv:(s.fn H (ds++gs)).vars=[]) (hl:laidOutB P=true) (FP:(f.params.toList.all fun t=>P.readableRec t&&decide (t<P.types.size))=true)
  (Ny:f.resultTypes=#[tb]) (Je:P.underlying tb=some .bool) (hb:Below W.heap.size W W'):s.post enc P f apart fresh Dp false W args (.bool true) W':=by
 have wY:=hW.lt
 obtain ⟨p,q,hA,hV,rfl,_,_⟩:=hW
 have hV':=hV
 rw [hs] at hV
 cases gs with
 |cons g gs=>exact absurd hV (by simp [DataW.TrodVars])
 |nil=>
  have hq:q=[]:=hV
  subst hq
  refine ⟨ds,[],_,[],p,[],⟨p,[],hA,hV',rfl,‹_›,‹_›⟩,?_,?_,?_,hb.frame _,fun h=>by cases h⟩
  ·rw [pi,Ny]
   exact trodAll_cons_mk (shut_bool Je _) trodAll_mk0
  ·rw [hfa]
   exact iZ hl hb FP hA fun x hx=>wY x (List.mem_append_left _ hx)
  ·rw [hfv,hs]
   rfl
end
theorem gC{n:Int}(h:(Lit.int .u8 n).wf=true): ∃m:Nat,n=m/\m<256:=by
 have h1:0<=n/\n<=255:=by simpa [Lit.wf,IntKind.min,IntKind.max,IntKind.bits,IntKind.signed] using h
 exact ⟨n.toNat,by omega,by omega⟩
theorem rq{w:qW}{b o:Nat}{v:qV}(h:w.cell? ⟨b,o,none⟩=some v):b<w.heap.size:=by
 rcases zaJ b w.heap.size with wY|JX
 ·exact wY
 ·have:w.heap[b]?=none:=zaW JX
  simp [World.cell?,this] at h
theorem rp{w:qW}{a:Addr}{v:qV}(h:w.cell? a=some v):a=⟨a.block,a.off,none⟩:=by
 obtain ⟨b,o,s⟩:=a
 cases s with
 |none=>rfl
 |some s=>
  unfold World.cell? at h
  simp only at h
  split at h<;>simp at h
theorem ru{w:qW}{base:Nat}{a:Addr}{n:Nat}{cs:List qV}(h:w.cells? base a n=some cs):cs.length=n/\ ∀i (v:qV),cs[i]?=some v->w.cell? (a.add i)=some v:=by
 unfold World.cells? at h
 split at h
 ·have hl:=mapM_some_length h
  simp at hl
  refine ⟨hl,fun i v hv=>?_⟩
  have hi:i<n:=by
   rcases zaJ i n with hh|hh
   ·exact hh
   ·rw [List.getElem?_eq_none Za] at hv;cases hv
  have:=mapM_some_get h i i (by simp [hi])
  rw [this];exact hv
 ·cases h
theorem rt{α:Type}(n:Nat)(p:Nat->α->Prop)(h: ∀i,i<n-> ∃x,p i x): ∃l:List α,l.length=n/\ ∀(i:Nat) x,l[i]?=some x->p i x:=by
 induction n with
 |zero=>exact ⟨[],rfl,fun i x hx=>by simp at hx⟩
 |succ n ih=>
  obtain ⟨l,hl,hp⟩:=ih (fun i hi=>h i Za)
  obtain ⟨x,hx⟩:=h n Za
  refine ⟨l++[x],by simp [hl],fun i y hy=>?_⟩
  rcases zaJ i n with hh|hh
  ·rw [zah Za] at hy
   exact hp i y hy
  ·rw [zai Za] at hy
   by_cases e:i=n
   ·subst e
    rw [hl,Nat.sub_self] at hy
    simp at hy
    subst hy
    exact hx
   ·rw [List.getElem?_eq_none Zk] at hy
    cases hy
def IntsAt(w:qW)(k:IntKind)(a:Option Addr)(l:List Int)(c:Nat):Prop:=
 l.length<=c/\c<=9223372036854775807/\(0<l.length-> ∃b off,a=some ⟨b,off,none⟩/\b<w.heap.size/\ ∀(i:Nat) x,l[i]?=some x->w.cell? ⟨b,off+i,none⟩=some (.int k x))/\ ∀x∈l,(Lit.int k x).wf=true
theorem IntsAt.below{w w':qW}(hb:Below w.heap.size w w'){k:IntKind}{a:Option Addr}{l:List Int}{c:Nat}(h:IntsAt w k a l c):IntsAt w' k a l c:=by
 obtain ⟨h1,h2,h3,h4⟩:=h
 refine ⟨h1,h2,fun h0=>?_,h4⟩
 obtain ⟨b,off,e,wY,hc⟩:=h3 h0
 exact ⟨b,off,e,zar wY hb.size,fun i x hi=>(hb.cell (p:=⟨b,off+i,none⟩) wY).trans (hc i x hi)⟩
section
variable{H:Type}{enc:TypeId×qV->H}{W:qW}
theorem ybm{k:IntKind}{t e:TypeId}(ht:Tryz.prog.underlying t=some (.slice e))(he:Tryz.prog.underlying e=some (.int k))(hc:Tryz.prog.cellsOf e=1){r:Reach}{b0:Nat}{v:qV}{d:DataW H}{p:List MemPlace}(hv:Value.okWide Tryz.prog W r b0 t v)(h:DataW.Trod enc Tryz.prog W 0 (fun _=>true) true t v d p):
  ∃(l:List Int) (a:Option Addr) (c:Nat),v= .slice a l.length c/\IntsAt W k a l c:=by
 obtain ⟨fuel,hf⟩:=h
 obtain ⟨a0,n0,c0,rfl⟩:=okWide_slice ht hv
 rcases DataW.trod_slice ht hf with h0|⟨a,len,cap,elems,rest,n,rfl,xC,hx,hb,hl,hm,wX,yU,_,_⟩
 ·have h1:=h0.1
  simp [Value.cells] at h1
  obtain ⟨rfl,rfl,rfl⟩:=h1
  exact ⟨[],none,0,rfl,by simp,by simp,fun h=>by simp at h,by simp⟩
 ·simp [Value.cells] at xC
  obtain ⟨rfl,rfl,rfl⟩:=xC
  obtain ⟨l,BT,hp⟩:=rt n0 (fun i (x:Int)=>(Lit.int k x).wf=true/\W.cell? (a.add i)=some (.int k x)) (fun i hi=>by
   have:=yU i hi
   rw [zaC (by omega:i<elems.length)] at this
   obtain ⟨cs',h1,h2⟩:=Option.bind_eq_some_iff.1 this
   rw [hc] at h1
   obtain ⟨i',Fi⟩:=ru h1
   obtain ⟨x,e1,_,w1⟩:=DataW.trod_int he h2
   subst e1
   refine ⟨x,w1,?_⟩
   have:=Fi 0 _ rfl
   rw [Nat.mul_one] at this
   exact this)
  subst BT
  refine ⟨l,some a,c0,rfl,hl,by unfold maxLen at hm;exact hm,fun yi=>?_,fun x hx=>?_⟩
  ·have ha:a=⟨a.block,a.off,none⟩:=by
    have:=(hp 0 l[0] (zaC yi)).2
    rw [show a.add 0=a from rfl] at this
    exact rp this
   refine ⟨a.block,a.off,by rw [<-ha],?_,fun i x hi=>?_⟩
   ·have:=(hp 0 l[0] (zaC yi)).2
    rw [show a.add 0=a from rfl,ha] at this
    exact rq this
   ·have:=(hp i x hi).2
    rw [ha] at this
    simpa only [add_plain] using this
  ·obtain ⟨i,hi⟩:=List.getElem?_of_mem hx
   exact (hp i x hi).1
end
end Go.Proofs.YtcekjfmfcefjpaaGreatDoor
namespace Go.Proofs.YtcekjfmfcefjpaaGreatDoor
def cA(n:Int):Nat:=min n.toNat 64
def mask(n:Int):Nat:=2^cA n-1
theorem yeh(n:Int):cA n<=64:=Nat.min_le_right _ _
theorem fi(n:Int):mask n<18446744073709551616:=by
 have h:2^cA n<=2^64:=zaQ Zg (yeh n)
 have h0:0<2^cA n:=Nat.two_pow_pos _
 unfold mask
 omega
theorem wG(n:Int)(i:Nat):(mask n).testBit i=decide (i<cA n):=by
 unfold mask;rw [Nat.testBit_two_pow_sub_one]
def putN(x:Nat)(p n:Int)(v:Nat):Nat:=
 if 0<=p/\p<64 then (x&&&(18446744073709551615-mask n*2^p.toNat%18446744073709551616))|||((v&&&mask n)*2^p.toNat%18446744073709551616) else x
theorem je(m k i:Nat):(m*2^k%18446744073709551616).testBit i=(decide (i<64)&&(decide (k<=i)&&m.testBit (i-k))):=by
 rw [show (18446744073709551616:Nat)=2^64 from rfl,Nat.testBit_mod_two_pow,<-Nat.shiftLeft_eq,Nat.testBit_shiftLeft]
theorem pz(y i:Nat)(h:y<18446744073709551616):(18446744073709551615-y).testBit i=(decide (i<64)&&!y.testBit i):=by
 have:=Nat.testBit_two_pow_sub_succ (n:=64) (x:=y) h i
 rw [<-this]
 congr 1
 omega
theorem jg(x i:Nat)(h:x<18446744073709551616)(hi:64<=i):x.testBit i=false:=
 Nat.testBit_lt_two_pow (zar h (by rw [show (18446744073709551616:Nat)=2^64 from rfl];exact zaQ Zg hi))
theorem wQ(x:Nat)(h: ∀i,64<=i->x.testBit i=false):x<18446744073709551616:=by
 rw [show (18446744073709551616:Nat)=2^64 from rfl]
 exact Nat.lt_pow_two_of_testBit _ h
theorem sY(x:Nat)(p n:Int)(v:Nat)(hx:x<18446744073709551616)(h:0<=p/\p<64)(i:Nat):
  (putN x p n v).testBit i=if p.toNat<=i/\i-p.toNat<cA n/\i<64 then v.testBit (i-p.toNat) else x.testBit i:=by
 unfold putN
 rw [if_pos h,Nat.testBit_or,Nat.testBit_and,je,pz _ _ (zaL _ Zg),je,Nat.testBit_and,wG]
 by_cases IJ:i<64
 ·by_cases h1:p.toNat<=i<;>by_cases h2:i-p.toNat<cA n<;>simp [IJ,h1,h2]
 ·rw [jg x i hx Za]
  simp [IJ]
theorem sZ(x:Nat)(p n:Int)(v:Nat)(hx:x<18446744073709551616):putN x p n v<18446744073709551616:=by
 by_cases h:0<=p/\p<64
 ·refine wQ _ fun i hi=>?_
  rw [sY x p n v hx h,if_neg Za]
  exact jg x i hx hi
 ·unfold putN;rw [if_neg h];exact hx
def byteN(x i:Nat):Nat:=x/2^(8*i)%256
end Go.Proofs.YtcekjfmfcefjpaaGreatDoor
namespace Go.Proofs.YtcekjfmfcefjpaaGreatDoor
open Go.RowKit
theorem sh{k:IntKind}{a b:Int}(h:a=b):Ending.returned (.int k a)= .returned (.int k b):=by rw [h]
theorem ry(x p:Nat):(x:Int)/2^p=((x/2^p:Nat):Int):=by
 rw [Int.natCast_ediv];simp
theorem vY(x p:Nat):(x:Int)*2^p=((x*2^p:Nat):Int):=by
 rw [Int.natCast_mul];simp
theorem oC(x:Nat):IntKind.u64.wrap (x:Int)=((x%18446744073709551616:Nat):Int):=by
 rw [IntKind.wrap_u64];omega
theorem oB(b k:Nat):IntKind.u64.wrap ((b:Int)*2^k)=((b*2^k%18446744073709551616:Nat):Int):=by
 rw [vY,oC]
theorem iU:(Tryz.prog.info? 5).map (fun i=>(i.zero,i.size,i.bytes))=some (some (.int .u8 0),1,1):=by kernel_rfl
def byteV(x i:Nat):qV:= .int .u8 (byteN x i:Nat)
def part(x k i:Nat):qV:=if i<k then byteV x i else .int .u8 0
def fK(n:Nat):Array qV:=madeCells #[.int .u8 0] n
theorem kC(x k:Nat):part x k k= .int .u8 0:=by unfold part;rw [if_neg Za]
theorem kB(x m:Nat)(w:qW):(w.alloc (.cells (fK m) 5)).rowIs w.heap.size 5 m (part x 0):=
 World.rowIs_made w (.int .u8 0) m 5
theorem kA{x k m g:Nat}{w:qW}(h:w.rowIs g 5 m (part x k))(hk:k<m):(w.setCell ⟨g,k,none⟩ (byteV x k)).rowIs g 5 m (part x (k+1)):=
 (h.set k (byteV x k)).congr fun i hi=>by
  unfold part
  by_cases h1:i=k
  ·subst h1;rw [if_pos rfl,if_pos Za]
  ·rw [if_neg h1]
   by_cases h2:i<k
   ·rw [if_pos h2,if_pos Za]
   ·rw [if_neg h2,if_neg Za]
theorem kE{x m g:Nat}{w:qW}(h:w.rowIs g 5 m (part x m)):w.rowIs g 5 m (byteV x):=
 h.congr fun i hi=>by unfold part;rw [if_pos hi]
theorem nD(x k:Nat):Value.int .u8 ((x:Int)/2^(8*k)%256)=byteV x k:=by
 unfold byteV byteN
 rw [ry]
 congr 1
theorem yel(x:Nat)(n:Nat)(h2:n<=8)(w:qW):
  qC 51 #[.int .u64 x,iI n] w fun e w'=>e= .returned (.slice (aA w.heap.size) n n)/\w'.rowIs w.heap.size 5 n (byteV x)/\Below w.heap.size w w':=by
 have Ep: ∀w:qW,(Instr.makeSlice 22 (iI n) (iI n)).run Tryz.prog w= .ok (.slice (aA w.heap.size) n n) (w.alloc (.cells (fK n) 5)):=
  fun w=>run_make_row' 22 5 (.int .u8 0) 1 Tryz.underlying22 iU rfl .i64 .i64 n Za Za w
 go_enter Tryz.func51,Tryz.ntmps51
 go_wp2
 go_loopw [13,6] (fun i _ wr=> ∃k:Nat,k<=n/\i=iI k/\wr.rowIs w.heap.size 5 n (part x k)/\Below w.heap.size w wr) (fun i _ _=>n-(intOf i).toNat)
 case atStart=>exact ⟨0,by omega,rfl,kB x n w,(zaa _ _).alloc (zaq _) _⟩
 case round=>
  obtain ⟨k,hk,rfl,xd,hb⟩:=hrel
  have xe:k<n->wr.cell? ⟨w.heap.size,k,none⟩=some (.int .u8 0):=fun h=>(xd.cell h).trans (by rw [kC])
  have pi:=xd.frozen
  by_cases wY:(k:Int)<n
  ·have hc:=xe Za
   clear xe
   have HR:=Zh xd
   have HB:=Zh hb
   clear xd hb
   have H:=Zh (nD x k)
   go_wp2
   go_roundw
   case rel=>exact ⟨k+1,by omega,by go_num,by rw [H.out];exact kA HR.out Za,HB.out.setCell (zaq _) _⟩
   case measure=>simp [intOf];omega
  ·obtain rfl:k=n:=by omega
   clear xe
   have HR:=Zh xd
   have HB:=Zh hb
   clear xd hb
   go_wp2
   go_ret
   exact ⟨rfl,kE HR.out,HB.out⟩
theorem yen(x:Nat)(n:Int)(h1:8<n)(w:qW):
  qC 51 #[.int .u64 x,iI n] w fun e w'=>e= .returned (.slice (aA w.heap.size) 8 8)/\w'.rowIs w.heap.size 5 8 (byteV x)/\Below w.heap.size w w':=by
 have Ep: ∀w:qW,(Instr.makeSlice 22 (iI 8) (iI 8)).run Tryz.prog w= .ok (.slice (aA w.heap.size) 8 8) (w.alloc (.cells (fK 8) 5)):=
  fun w=>run_make_row' 22 5 (.int .u8 0) 1 Tryz.underlying22 iU rfl .i64 .i64 8 Za Za w
 go_enter Tryz.func51,Tryz.ntmps51
 go_wp2
 go_loopw [13,6] (fun i _ wr=> ∃k:Nat,k<=8/\i=iI k/\wr.rowIs w.heap.size 5 8 (part x k)/\Below w.heap.size w wr) (fun i _ _=>8-(intOf i).toNat)
 case atStart=>exact ⟨0,by omega,rfl,kB x 8 w,(zaa _ _).alloc (zaq _) _⟩
 case round=>
  obtain ⟨k,hk,rfl,xd,hb⟩:=hrel
  have xe:k<8->wr.cell? ⟨w.heap.size,k,none⟩=some (.int .u8 0):=fun h=>(xd.cell h).trans (by rw [kC])
  have pi:=xd.frozen
  by_cases wY:(k:Int)<8
  ·have hc:=xe Za
   clear xe
   have HR:=Zh xd
   have HB:=Zh hb
   clear xd hb
   have H:=Zh (nD x k)
   go_wp2
   go_roundw
   case rel=>exact ⟨k+1,by omega,by go_num,by rw [H.out];exact kA HR.out Za,HB.out.setCell (zaq _) _⟩
   case measure=>simp [intOf];omega
  ·obtain rfl:k=8:=by omega
   clear xe
   have HR:=Zh xd
   have HB:=Zh hb
   clear xd hb
   go_wp2
   go_ret
   exact ⟨rfl,kE HR.out,HB.out⟩
end Go.Proofs.YtcekjfmfcefjpaaGreatDoor
