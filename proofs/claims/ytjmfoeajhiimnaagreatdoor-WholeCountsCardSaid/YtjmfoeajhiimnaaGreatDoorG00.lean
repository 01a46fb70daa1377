/- Walks. No condition. -/
import Derived.WalkKit
import Derived.WalkSpells
import Derived.WalkLawsBesides
import Derived.BigQuiet
import Derived.Deep.QuietTactic
import Derived.Lib.Hide
import Derived.Lib.QuietBelow
import Derived.ChangeSame
import Derived.OrdersHeld
import Derived.Deep.RegionHeld3
import Derived.Laws.StructEq
import Derived.Handy
import Derived.Laws.Rows
import Derived.LoopN
import Derived.OwnWalk
import Derived.Deep.Quiet
import Derived.Laws.AppendOwn
import Derived.Laws.BitsAllLaws
import Derived.Deep.OwnRows
import Derived.Test.YtjmfoeajhiimnaaGreatDoorProg
set_option maxRecDepth 100000
set_option maxHeartbeats 0
set_option linter.all false
namespace Go.Proofs.YtjmfoeajhiimnaaGreatDoor
section
open Go.RowKit Go.WideShapes Go.ChangeShapes
theorem Zh{p:Prop}(h:p):Hid p:=Lib.hid h
abbrev qC:=Calls Tryz.prog
abbrev qW:=World
abbrev qB:=ByteArray
abbrev qV:=Value
theorem zaa:type_of% @Go.RowKit.Below.refl:=@Go.RowKit.Below.refl
theorem zab:type_of% @Go.heap_alloc_new:=@Go.heap_alloc_new
theorem zac:type_of% @Go.heap_alloc_old:=@Go.heap_alloc_old
theorem zad:type_of% @Go.bodyPost_ret:=@Go.bodyPost_ret
theorem zae:type_of% @Option.some.inj.{0}:=@Option.some.inj.{0}
theorem zaf:type_of% @List.flatMap_cons.{0,0}:=@List.flatMap_cons.{0,0}
theorem zag:type_of% @Nat.zero_add:=@Nat.zero_add
theorem zah:type_of% @List.getElem?_append_left.{0}:=@List.getElem?_append_left.{0}
theorem zai:type_of% @List.getElem?_append_right.{0}:=@List.getElem?_append_right.{0}
theorem zaj:type_of% @List.getElem?_map.{0,0}:=@List.getElem?_map.{0,0}
theorem zak:type_of% @Bool.or_eq_true:=@Bool.or_eq_true
theorem zal:type_of% @Nat.le_trans:=@Nat.le_trans
theorem zam:type_of% @Array.length_toList.{0}:=@Array.length_toList.{0}
theorem zan:type_of% @Go.info_parts:=@Go.info_parts
theorem zao:type_of% @Go.wp_loop_rounds:=@Go.wp_loop_rounds
theorem zap:type_of% @Go.rounds_succ:=@Go.rounds_succ
theorem zaq:type_of% @Nat.le_refl:=@Nat.le_refl
theorem zar:type_of% @Nat.lt_of_lt_of_le:=@Nat.lt_of_lt_of_le
theorem zas:type_of% @Go.RowKit.Below.heap_setCell:=@Go.RowKit.Below.heap_setCell
theorem zat:type_of% @List.mem_of_getElem?.{0}:=@List.mem_of_getElem?.{0}
theorem zau:type_of% @decide_eq_true_eq:=@decide_eq_true_eq
theorem zav:type_of% @Array.getElem?_eq_getElem.{0}:=@Array.getElem?_eq_getElem.{0}
theorem zaw:type_of% @decide_eq_true:=@decide_eq_true
theorem zax:type_of% @decide_eq_false:=@decide_eq_false
theorem zay:type_of% @Bool.false_and:=@Bool.false_and
theorem zaz:type_of% @List.take_add_one.{0}:=@List.take_add_one.{0}
theorem zaA:type_of% @Option.some.injEq.{0}:=@Option.some.injEq.{0}
theorem zaB:type_of% @Nat.zero_le:=@Nat.zero_le
theorem zaC:type_of% @List.getElem?_eq_getElem.{0}:=@List.getElem?_eq_getElem.{0}
theorem zaD:type_of% @List.foldl_append.{0,0}:=@List.foldl_append.{0,0}
theorem zaE:type_of% @Go.wpQuiet_nil:=@Go.wpQuiet_nil
theorem zaF:type_of% @Go.World.cell?_setCell_same:=@Go.World.cell?_setCell_same
theorem zaG:type_of% @Go.World.frozen?_setCell:=@Go.World.frozen?_setCell
theorem zaH:type_of% @Go.World.cell?_setCell_other:=@Go.World.cell?_setCell_other
theorem zaI:type_of% @Array.getD_eq_getD_getElem?.{0}:=@Array.getD_eq_getD_getElem?.{0}
theorem zaJ:type_of% @Nat.lt_or_ge:=@Nat.lt_or_ge
theorem zaK:type_of% @List.mem_cons_of_mem.{0}:=@List.mem_cons_of_mem.{0}
theorem zaL:type_of% @Nat.mod_lt:=@Nat.mod_lt
theorem zaM:type_of% @List.mem_cons.{0}:=@List.mem_cons.{0}
theorem zaN:type_of% @List.not_mem_nil.{0}:=@List.not_mem_nil.{0}
theorem zaO:type_of% @List.length_append.{0}:=@List.length_append.{0}
theorem zaP:type_of% @List.getElem_of_mem.{0}:=@List.getElem_of_mem.{0}
theorem zaQ:type_of% @Nat.pow_le_pow_right:=@Nat.pow_le_pow_right
theorem zaR:type_of% @List.length_take.{0}:=@List.length_take.{0}
theorem zaS:type_of% @List.drop_eq_getElem_cons.{0}:=@List.drop_eq_getElem_cons.{0}
theorem zaT:type_of% @Array.getElem?_setIfInBounds.{0}:=@Array.getElem?_setIfInBounds.{0}
theorem zaU:type_of% @List.getD_eq_getElem?_getD.{0}:=@List.getD_eq_getElem?_getD.{0}
theorem zaV:type_of% @List.length_nil.{0}:=@List.length_nil.{0}
theorem zaW:type_of% @Array.getElem?_eq_none.{0}:=@Array.getElem?_eq_none.{0}
theorem zaX:type_of% @Go.World.ownsRow_nil:=@Go.World.ownsRow_nil
theorem zaY:type_of% @Bool.false_eq_true:=@Bool.false_eq_true
theorem zaZ:type_of% @Option.bind_some.{0,0}:=@Option.bind_some.{0,0}
theorem za0:type_of% @Bool.and_eq_true:=@Bool.and_eq_true
theorem za1:type_of% @Option.map_eq_some_iff.{0,0}:=@Option.map_eq_some_iff.{0,0}
theorem za2:type_of% @List.length_cons.{0}:=@List.length_cons.{0}
theorem za3:type_of% @List.mem_cons_self.{0}:=@List.mem_cons_self.{0}
abbrev iI(x:Int):Value:= .int .i64 x
abbrev aA(b:Nat):Option Addr:=some ⟨b,0,none⟩
abbrev pP(b:Nat):Value:= .pointer (some ⟨b,0,none⟩)
abbrev aB(b o:Nat):Addr:=⟨b,o,none⟩
theorem Z0_{P:Prop}(h:P:=by (apply EmA.fin;(repeat (first|with_reducible exact HM.out|with_reducible apply EmA.alloc|with_reducible apply EmA.drew|with_reducible apply EmA.mo));all_goals exact HM.out)):P:=h
theorem ZT{P:Prop}(h:P:=by (apply EmB.fin;(repeat (first|with_reducible exact HB.out|with_reducible apply EmB.alloc|with_reducible apply EmB.drew|with_reducible apply EmB.mo));all_goals exact HB.out)):P:=h
theorem ZO{P:Prop}(h:P:=by (apply MkA.fin;(repeat (first|with_reducible exact HM.out|with_reducible apply MkA.alloc|with_reducible apply MkA.drew|with_reducible apply MkA.mo|with_reducible apply MkA.own|exact HM.out));all_goals (first|with_reducible assumption|exact ⟨by omega⟩|omega))):P:=h
theorem Zj{P:Prop}(h:P:=by (repeat (first|with_reducible exact HM.out|with_reducible apply MkA.alloc|with_reducible apply MkA.drew|with_reducible apply MkA.mo|with_reducible apply MkA.own|exact HM.out));all_goals (first|with_reducible assumption|exact ⟨by omega⟩|omega)):P:=h
theorem Zf{P:Prop}(h:P:=by repeat (first|with_reducible exact HC.out|with_reducible apply At.alloc|with_reducible apply At.drew|((with_reducible apply At.own);rotate_left;omega))):P:=h
theorem Ze{P:Prop}(h:P:=by repeat (first|exact Below.refl _ _|refine aG ?_ _|refine ab ?_ _)):P:=h
theorem Zi{P:Prop}(h:P:=by (try simp only [Zz,List.mem_cons,List.not_mem_nil,or_false]);(try simp only [not_false_eq_true]);(try omega)):P:=h
theorem Zm{P:Prop}(h:P:=by repeat (first|with_reducible exact HB.out|with_reducible apply EmB.alloc|with_reducible apply EmB.drew|with_reducible apply EmB.mo)):P:=h
theorem Zr{P:Prop}(h:P:=by repeat (first|with_reducible exact Below.refl _ _|with_reducible exact Below.refl _ _|with_reducible apply ab|with_reducible apply ag|with_reducible apply aG)):P:=h
theorem Zo{P:Prop}(h:P:=by repeat (first|with_reducible exact Below.refl _ _|with_reducible apply ab|with_reducible apply ag|with_reducible apply aG)):P:=h
theorem Za{P:Prop}(h:P:=by omega):P:=h
theorem ZE{P:Prop}(h:P:=by (repeat (first|with_reducible exact HV.out|with_reducible apply ExAt.alloc|with_reducible apply ExAt.drew|with_reducible apply ExAt.own));all_goals ((try simp only [Zz]);omega)):P:=h
theorem ZH{P:Prop}(h:P:=by (repeat (first|with_reducible exact yx.out|with_reducible apply ExAt.alloc|with_reducible apply ExAt.drew|with_reducible apply ExAt.own));all_goals ((try simp only [Zz]);omega)):P:=h
theorem ZL{P:Prop}(h:P:=by (repeat (first|with_reducible exact HO.out|with_reducible apply gB|with_reducible apply World.ownsRow.alloc|with_reducible apply gC));all_goals (simp [Value.ownBlock];omega)):P:=h
theorem ZP{P:Prop}(h:P:=by (repeat (first|with_reducible exact HM.out|with_reducible apply MkA.alloc|with_reducible apply MkA.drew|with_reducible apply MkA.mo|with_reducible apply MkA.own|with_reducible apply MkA.setl|exact HM.out));all_goals (first|with_reducible assumption|exact ⟨by omega⟩|omega)):P:=h
theorem ZI{P:Prop}(h:P:=by (repeat (first|with_reducible exact V1.out|with_reducible apply Has.alloc|with_reducible apply Has.drew|with_reducible apply Has.own));all_goals ((try simp only [Zz]);omega)):P:=h
theorem ZJ{P:Prop}(h:P:=by (repeat (first|with_reducible exact V2.out|with_reducible apply Has.alloc|with_reducible apply Has.drew|with_reducible apply Has.own));all_goals ((try simp only [Zz]);omega)):P:=h
theorem ZK{P:Prop}(h:P:=by (repeat (first|with_reducible exact V3.out|with_reducible apply Has.alloc|with_reducible apply Has.drew|with_reducible apply Has.own));all_goals ((try simp only [Zz]);omega)):P:=h
theorem ZG{P:Prop}(h:P:=by repeat (first|with_reducible exact h|with_reducible exact Below.refl _ _|with_reducible apply ab|with_reducible apply ag|with_reducible apply aG)):P:=h
theorem Zc{P:Prop}(h:P:=by (try simp only [Zz]);omega):P:=h
theorem ZM{P:Prop}(h:P:=by refine ⟨fun i=>?_,?_⟩<;>first|(simp only [drewC,dd,aV,dc,aN,iB,ar,aZ,i',↓IntWalk.iteOmega];done)|(simp [go_sem,i',↓IntWalk.iteOmega];done)):P:=h
theorem Zb{P:Prop}(h:P:=by kernel_rfl):P:=h
theorem Zx{P:Prop}(h:P:=by (try simp only [Zz]);first|with_reducible assumption|exact ⟨by omega⟩):P:=h
theorem Zv{P:Prop}(h:P:=by first|with_reducible assumption|exact ⟨by omega⟩):P:=h
theorem Z3{P:Prop}(h:P:=by repeat (first|with_reducible exact Below.refl _ _|with_reducible apply ab|with_reducible apply aG)):P:=h
theorem Z25_{P:Prop}(h:P:=by repeat (first|with_reducible exact Below.refl _ _|with_reducible apply ab)):P:=h
theorem Z7{P:Prop}(h:P:=by repeat (first|with_reducible exact Below.refl _ _|with_reducible apply ab|with_reducible apply ag|with_reducible apply aG|with_reducible refine eO ?_ (by first|with_reducible assumption|omega) _ _)):P:=h
theorem ZX{P:Prop}(h:P:=by repeat (first|with_reducible exact HM.out|with_reducible apply EmA.alloc|with_reducible apply EmA.drew|with_reducible apply EmA.mo)):P:=h
theorem Z4{P:Prop}(h:P:=by refine ⟨fun i=>?_,?_,?_,?_,?_,?_,?_,?_,?_⟩<;>simp [go_sem,↓IntWalk.iteOmega,i',d0,d1,d2,d3,d4,d5,d6,d7]):P:=h
theorem Z0{P:Prop}(h:P:=by repeat (first|exact Below.refl _ _|refine aG ?_ _|refine ab ?_ _|refine ag ?_)):P:=h
theorem Z30_{P:Prop}(h:P:=by repeat (first|with_reducible exact HB.out|with_reducible exact Below.refl _ _|with_reducible apply ab|with_reducible apply ag|with_reducible apply aG)):P:=h
theorem ZZ{P:Prop}(h:P:=by first|exact HR.out|(have h:=HR.out;rw [Nat.pow_zero,Nat.mul_one] at h;exact h)):P:=h
theorem Zd{P:Prop}(h:P:=by decide):P:=h
theorem Zk{P:Prop}(h:P:=by simp;omega):P:=h
theorem Z34_{P:Prop}(h:P:=by refine ⟨fun i=>?_,?_,?_,?_,?_,?_,?_,?_,?_⟩<;>simp [go_sem,↓IntWalk.iteOmega,i',c0,c1',c2,c3,c4,c5,c6,c7]):P:=h
theorem ZB{P:Prop}(h:P:=by with_reducible assumption):P:=h
theorem ZA{P:Prop}(h:P:=by simp [Act.eval,Act.put]):P:=h
theorem ZF{P:Prop}(h:P:=by simp only [ar];omega):P:=h
theorem ZY{P:Prop}(h:P:=by repeat (first|exact Below.refl _ _|refine ab ?_ _)):P:=h
theorem Z8{P:Prop}(h:P:=by (try simp only [Zz,a8]);first|with_reducible assumption|exact ⟨by omega⟩):P:=h
theorem ZD{P:Prop}(h:P:=by simp [Value.oneCell']):P:=h
theorem Z41_{P:Prop}(h:P:=by simp [results,Tryz.results182,go_sem,↓IntWalk.iteOmega];try rfl):P:=h
theorem ZQ{P:Prop}(h:P:=by (try simp only [Zz,a8]);omega):P:=h
theorem ZS{P:Prop}(h:P:=by simp only [ar,aZ];omega):P:=h
theorem Zg{P:Prop}(h:P:=by simp):P:=h
theorem Z45_{P:Prop}(h:P:=by simp [results,Tryz.results44,go_sem,↓IntWalk.iteOmega];try rfl):P:=h
theorem ZN{P:Prop}(h:P:=by simp [go_sem];try omega):P:=h
theorem Z5{P:Prop}(h:P:=by unfold gbF gyF getF fitF;simp;split<;>simp<;>omega):P:=h
theorem Z48_{P:Prop}(h:P:=by repeat (first|with_reducible exact HS.out|with_reducible refine aW ?_ _|with_reducible refine cH ?_ _)):P:=h
theorem ZC{P:Prop}(h:P:=by simp [go_sem]):P:=h
theorem Z50_{P:Prop}(h:P:=by repeat (first|with_reducible exact Below.refl _ _|with_reducible exact HB.out|with_reducible apply ab|with_reducible apply ag|with_reducible apply aG)):P:=h
theorem ZR{P:Prop}(h:P:=by simp [go_sem];omega):P:=h
theorem Z52_{P:Prop}(h:P:=by first|omega|exact lD (by assumption)):P:=h
theorem Z53_{P:Prop}(h:P:=by first|rfl|(congr 3;simp [q4];done)|(rw [q4];rfl)):P:=h
theorem Z54_{P:Prop}(h:P:=by simp [results,Tryz.results227,go_sem]):P:=h
theorem Z55_{P:Prop}(h:P:=by simp [results,Tryz.results48,go_sem,↓IntWalk.iteOmega];try rfl):P:=h
theorem Z56_{P:Prop}(h:P:=by (repeat (first|with_reducible exact HB.out|with_reducible apply EmB.alloc|with_reducible apply EmB.drew|with_reducible apply EmB.mo|with_reducible apply EmB.own));all_goals first|(intro e;have:=Cu.out _ e;omega)|((try simp only [Zz]);omega)):P:=h
theorem Z9{P:Prop}(h:P:=by
 obtain ⟨i0,hi,xx,xu,xq⟩:=info_parts rO
 have ix:=fun cs hn k h0 h1 w=>sI (P:=Tryz.prog) Tryz.underlying183 Tryz.underlying140 hi xu cs hn k h0 h1 w
 clear xx xu xq hi
 go_enter Tryz.func44,Tryz.ntmps44
 go_wp2
 repeat (first|(refine wp_loop_rounds 6 ?_)|(rw [rounds_succ];go_wp2))
 (try simp only [Exit.inBlock,Exit.then]);refine bodyPost_ret Z45_ rfl ?_
 exact Gives.mk rfl Z25_):P:=h
theorem Z58_{P:Prop}(h:P:=by
 have HR:=Lib.hid hr
 clear hr
 have HC:=Lib.hid (At.begin h)
 have xe:=h.lt
 obtain ⟨b,o,c,h1,h2,h3,h4,h5,h6,h7,h8, -⟩:=h.mem
 have hc:=aa h1
 clear h h1
 go_enter Tryz.func48,Tryz.ntmps48
 go_wp2_with fail
 clear hc h2 h3 h4 h5 h6 h7 h8
 go_wp2_with ((first|(go_at_call 23;refine (cB _ (At.pt (w:=w) Zf) ZB).mono ?_;rintro e w1 ⟨rfl,rfl⟩)|(go_at_call 23;refine (di _ (At.pt (w:=w) Zf) ZB).mono ?_;rintro e w1 ⟨rfl,hT,hP⟩)|(go_at_call 24;refine (fe _ (At.pt (w:=w) Zf)).mono ?_;rintro e w1 ⟨rfl,hT,hP⟩)|(go_at_call 69;refine (kt _ (At.pt (w:=w) Zf) _ Za Za _ HR.out).mono ?_;rintro e w1 ⟨xa,xc,rfl,hT,hP,hv⟩;replace HC:=Lib.hid (At.next (w:=w) Zf hT hP);clear hP;(try (replace V1:=Lib.hid (Has.same ZI hT)));(try (replace V2:=Lib.hid (Has.same ZJ hT)));(try (replace V3:=Lib.hid (Has.same ZK hT)));(try (replace HV:=Lib.hid (ExAt.same ZE hT)));(try (replace yx:=Lib.hid (ExAt.same ZH hT)));(try (replace HO:=Lib.hid (ai ZL hT (fun g1 xy=>by (try simp only []);simp [Value.ownBlock] at xy;omega))));have hs:=HC.out.kp.size;have hm:=Kp.size hT;(try simp only [Zz] at hm);(repeat ((first|(with_reducible obtain ⟨hx,hy,hT⟩:=hT.peel)|(with_reducible obtain ⟨hx,hy,hT⟩:=hT.peelA));(try simp only [Zz] at hx hy);rw [hx];clear hx));(repeat (clear hT));(try (have V3:=V2;clear V2));(try (have V2:=V1;clear V1));have V1:=Lib.hid hv.has;clear hv)|(go_at_call 26;refine (cZ _ (At.pt (w:=w) Zf) _).mono ?_;rintro e w1 ⟨rfl,hT,hP⟩));(try (replace HC:=Lib.hid (At.next (w:=w) Zf hT hP);clear hP;(try (replace V1:=Lib.hid (Has.same ZI hT)));(try (replace V2:=Lib.hid (Has.same ZJ hT)));(try (replace V3:=Lib.hid (Has.same ZK hT)));(try (replace HV:=Lib.hid (ExAt.same ZE hT)));(try (replace yx:=Lib.hid (ExAt.same ZH hT)));(try (replace HO:=Lib.hid (ai ZL hT (fun g1 xy=>by (try simp only []);simp [Value.ownBlock] at xy;omega))));have hs:=HC.out.kp.size;have hm:=Kp.size hT;(try simp only [Zz] at hm);(repeat ((first|(with_reducible obtain ⟨hx,hy,hT⟩:=hT.peel)|(with_reducible obtain ⟨hx,hy,hT⟩:=hT.peelA));(try simp only [Zz] at hx hy);rw [hx];clear hx));(repeat (clear hT)))))
 (try simp only [Exit.inBlock,Exit.then]);refine bodyPost_ret Z55_ rfl ?_
 have e1:=fun w1=>Has.to V1.out (w1:=w1)
 clear V1
 refine ⟨none,0,_,_,none,0,none,0,rfl,At.kp (s:=pWant (⟨#[59]⟩:ByteArray) (r.2)) Zf,At.pt (w:=w) Zf,?_⟩
 exact eY (XsAt.wide (e1 _ (fun h=>by (repeat (first|with_reducible exact h|with_reducible apply Has.alloc|with_reducible apply Has.drew|with_reducible apply Has.own));all_goals ((try simp only [Zz]);omega))) Zc Zc) (SsAt.nil _ _ _ _) (SsAt.nil _ _ _ _) (by unfold rng;omega) hl dI):P:=h
theorem ZU{P:Prop}(h:P:=by
 go_enter Tryz.func62,Tryz.ntmps62
 go_wp2
 refine aE Zb Zb ?_
 repeat (go_big_quiet_step (fail))
 refine wpQuiet_nil ?_
 intro p
 go_wp2
 go_ret
 exact Gives.mk rfl Ze):P:=h
theorem Z60_{P:Prop}(h:P:=by
 have u':IntKind.i64.wrap (d+1)=d+1:=cM h0 Za
 have hC:=HH.out.ck.lt
 have C4:=HH.out.ck.own_lt
 go_enter Tryz.func77,Tryz.ntmps77
 go_wp2_with (first
  |(go_at_call 120;(with_reducible refine (HH.out.need _ _).mono ?_);rintro e1 w1 ⟨rfl,u'⟩;subst u')
  |(go_at_call 122;(with_reducible refine (HH.out.order _).mono ?_);rintro e1 w1 ⟨rfl,u'⟩;subst u')
  |(go_at_call 121;(with_reducible refine (HH.out.form _).mono ?_);rintro e1 w1 ⟨rfl,p,rfl⟩)
  |(go_at_call 125;(with_reducible refine (HH.out.exprs _ Zo).mono ?_);rintro e1 w1 ⟨rfl,p,rfl⟩)
  |(go_at_call 50;(with_reducible refine (zl.out _ lv line (HH.out.ck.more Zo)).mono ?_);intro e1 w1 hD;obtain rfl:=hD.1;have hF:=fun i=>CkW.cell_old (i:=i) (HH.out.ck.more Zo) hD (K:=w.heap.size) (by simp [go_sem];(try omega)) Za (fun e=>by have:=C4 _ e;omega);have c1:=hF 1;have c9:=hF 9;clear hF;simp [go_sem] at c1 c9;obtain ⟨-,lv2,line2,yv,xp,hown⟩:=hD;have k3:=aa yv.ck.out 3;have f3:=ah yv.ck.out 3;have Dz:=Lib.hid yv;have HK:=Lib.hid (Kp.trans (Kp.of_below (a:=w) (X:=fun k=>k=C\/lv.ownBlock=some k) Zo) xp);have HO:=Lib.hid (fun k hk=>(hown k hk).imp id (fun h=>Nat.le_trans (Below.size (B:=w.heap.size) (w:=w) Zo) h));clear yv xp hown)
  |(go_at_call 50;(with_reducible refine (xV.out _ _ _ (Dz.out.setl ln)).mono ?_);intro e2 w2 A8;obtain rfl:=A8.1;have Fb:=Lib.hid A8;clear A8))
 go_end0
 exact CkD.next (HK.out.next (Kp.set _ C 3 _) (fun i hi e=> .inl e)) HO.out Fb.out):P:=h
theorem Z61_{P:Prop}(h:P:=by
 have HE:=Lib.hid (fun w=>cl pa pc w)
 go_enter Tryz.func239,Tryz.ntmps239
 go_wp2_with (first
  |(go_at_call 183;refine (HE.out _).mono ?_;rintro e w1 ⟨rfl,p2,rfl⟩))
 go_ret
 exact Gives.mk rfl Z3):P:=h
theorem Z6{P:Prop}(h:P:=by
 go_enter Tryz.func182,Tryz.ntmps182
 go_wp2
 (try simp only [Exit.inBlock,Exit.then]);refine bodyPost_ret Z41_ rfl ?_
 exact Gives.mk rfl Z25_):P:=h
theorem Z63_{P:Prop}(h:P:=by
 have H1:Hid (bLo f t g u=0):=by unfold bLo;exact Lib.hid Za
 have H2:Hid (bHi f t g u=0):=by unfold bHi;exact Lib.hid Za
 go_enter Tryz.func227,Tryz.ntmps227
 go_wp2
 rw [H1.out,H2.out]
 refine bodyPost_ret (v:= .agg #[iI 0,iI 0]) Z54_ rfl ⟨rfl,?_⟩
 exact ((((Below.refl _ _).alloc (Nat.le_refl _) _).alloc Zg _).alloc Zk _).alloc Zk _):P:=h
theorem ZV{P:Prop}(h:P:=by
 go_enter Tryz.func59,Tryz.ntmps59
 go_wp2
 go_returns
 exact Gives.mk rfl Ze):P:=h
theorem ZW{P:Prop}(h:P:=by
 go_enter Tryz.func61,Tryz.ntmps61
 go_wp2
 go_returns
 exact Gives.mk rfl Ze):P:=h
theorem Z1{P:Prop}(h:P:=by
 go_enter Tryz.func152,Tryz.ntmps152
 go_wp2
 go_returns
 exact Gives.mk rfl Ze):P:=h
theorem Z2{P:Prop}(h:P:=by
 go_enter Tryz.func58,Tryz.ntmps58
 go_wp2
 go_returns
 exact Gives.mk rfl Ze):P:=h
theorem Z68_{P:Prop}(h:P:=by
 go_enter Tryz.func97,Tryz.ntmps97
 go_wp2
 go_returns
 exact Gives.mk rfl Ze):P:=h
theorem Z69_{P:Prop}(h:P:=by
 induction h with
 |refl=>rfl
 |set _ k v ih=>rw [World.cell?_setCell_other _ _ _ _ (fun e=>hB (congrArg Addr.block e).symm)];exact ih
 |more h1 p ih=>rw [(au _ p).cell (p:=⟨c,k,none⟩) (Nat.lt_of_lt_of_le hc h1.size)];exact ih
 |alloc h1 o ih=>rw [((Below.refl _ _).alloc (Nat.le_refl _) o).cell (p:=⟨c,k,none⟩) (Nat.lt_of_lt_of_le hc h1.size)];exact ih):P:=h
theorem Z70_{P:Prop}(h:P:=by
 induction h with
 |refl=>rfl
 |set _ k v ih=>rw [World.frozen?_setCell];exact ih
 |more h1 p ih=>rw [(au _ p).frozen (p:=⟨c,k,none⟩) (Nat.lt_of_lt_of_le hc h1.size)];exact ih
 |alloc h1 o ih=>rw [((Below.refl _ _).alloc (Nat.le_refl _) o).frozen (p:=⟨c,k,none⟩) (Nat.lt_of_lt_of_le hc h1.size)];exact ih):P:=h
end
section
def cD(n:Int):Nat:=min n.toNat 64
def mask(n:Int):Nat:=2^cD n-1
theorem yeA(n:Int):cD n<=64:=Nat.min_le_right _ _
theorem fs(n:Int):mask n<18446744073709551616:=by
 have h:2^cD n<=2^64:=zaQ Zd (yeA n)
 have h0:0<2^cD n:=Nat.two_pow_pos _
 unfold mask
 omega
theorem yat(n:Int)(i:Nat):(mask n).testBit i=decide (i<cD n):=by
 unfold mask;rw [Nat.testBit_two_pow_sub_one]
def putN(x:Nat)(p n:Int)(v:Nat):Nat:=
 if 0<=p/\p<64 then (x&&&(18446744073709551615-mask n*2^p.toNat%18446744073709551616))|||((v&&&mask n)*2^p.toNat%18446744073709551616) else x
theorem jm(m k i:Nat):(m*2^k%18446744073709551616).testBit i=(decide (i<64)&&(decide (k<=i)&&m.testBit (i-k))):=by
 rw [show (18446744073709551616:Nat)=2^64 from rfl,Nat.testBit_mod_two_pow,<-Nat.shiftLeft_eq,Nat.testBit_shiftLeft]
theorem pQ(y i:Nat)(h:y<18446744073709551616):(18446744073709551615-y).testBit i=(decide (i<64)&&!y.testBit i):=by
 have:=Nat.testBit_two_pow_sub_succ (n:=64) (x:=y) h i
 rw [<-this]
 congr 1
 omega
theorem jo(x i:Nat)(h:x<18446744073709551616)(hi:64<=i):x.testBit i=false:=
 Nat.testBit_lt_two_pow (zar h (by rw [show (18446744073709551616:Nat)=2^64 from rfl];exact zaQ Zd hi))
theorem yaB(x:Nat)(h: ∀i,64<=i->x.testBit i=false):x<18446744073709551616:=by
 rw [show (18446744073709551616:Nat)=2^64 from rfl]
 exact Nat.lt_pow_two_of_testBit _ h
theorem tN(x:Nat)(p n:Int)(v:Nat)(hx:x<18446744073709551616)(h:0<=p/\p<64)(i:Nat):
  (putN x p n v).testBit i=if p.toNat<=i/\i-p.toNat<cD n/\i<64 then v.testBit (i-p.toNat) else x.testBit i:=by
 unfold putN
 rw [if_pos h,Nat.testBit_or,Nat.testBit_and,jm,pQ _ _ (zaL _ Zd),jm,Nat.testBit_and,yat]
 by_cases I8:i<64
 ·by_cases h1:p.toNat<=i<;>by_cases h2:i-p.toNat<cD n<;>simp [I8,h1,h2]
 ·rw [jo x i hx Za]
  simp [I8]
theorem tO(x:Nat)(p n:Int)(v:Nat)(hx:x<18446744073709551616):putN x p n v<18446744073709551616:=by
 by_cases h:0<=p/\p<64
 ·refine yaB _ fun i hi=>?_
  rw [tN x p n v hx h,if_neg Za]
  exact jo x i hx hi
 ·unfold putN;rw [if_neg h];exact hx
def byteN(x i:Nat):Nat:=x/2^(8*i)%256
end
section
open Go.RowKit Go.WideShapes Go.ChangeShapes
def Drew(w w':qW):Prop:= ∃m,w'=w.drewN m
theorem Drew.refl(w:qW):Drew w w:=⟨0,rfl⟩
theorem Drew.mk_(w:qW)(n:Nat):Drew w (w.drewN n):=⟨n,rfl⟩
theorem Drew.trans{a b c:qW}(h:Drew a b)(k:Drew b c):Drew a c:=by
 obtain ⟨n,rfl⟩:=h
 obtain ⟨m,rfl⟩:=k
 exact ⟨n+m,by rw [World.drewN_drewN]⟩
theorem ye1{B:Nat}{a w:qW}(h:Below B a w)(n:Nat):Below B a (w.drewN n):=⟨h.os,h.tape,h.output,h.size,h.block⟩
theorem Drew.below{w w':qW}(h:Drew w w'):Below w.heap.size w w':=by
 obtain ⟨n,rfl⟩:=h
 exact ye1 (zaa _ _) n
theorem bR{a w w':qW}(h:Below a.heap.size a w)(h2:Below w.heap.size w w'):Below a.heap.size a w':=
 h.trans ⟨h2.os,h2.tape,h2.output,h2.size,fun k hk=>h2.block k (zar hk h.size)⟩
theorem yeZ{w w':qW}(h:w=w'):Below w.heap.size w w':=by subst h;exact zaa _ _
theorem uZ{w w1:qW}{B:Nat}{e:TypeId}{size n:Nat}{v:qV}{xs:List qV}(hown:w.ownsRow B e size v n xs)(hg:w.grownBy w1 v.ownBlock){b:Nat}(hb:b<B)(xe:b<w.heap.size):
  (∀o,w1.cell? ⟨b,o,none⟩=w.cell? ⟨b,o,none⟩)/\(∀o,w1.frozen? ⟨b,o,none⟩=w.frozen? ⟨b,o,none⟩):=by
 have h:=hg.block b xe (fun e=>by have:=hown.lt b e.symm;omega)
 exact ⟨fun o=>by simp [World.cell?,h],fun o=>by simp [World.frozen?,h]⟩
theorem bX{a w w1:qW}{B:Nat}{e:TypeId}{size n:Nat}{v:qV}{xs:List qV}(hb:Below a.heap.size a w)(hown:w.ownsRow B e size v n xs)(hg:w.grownBy w1 v.ownBlock)(hB:a.heap.size<=B):Below a.heap.size a w1:=
 hb.grown hg hb.size (fun g hg=>zal hB (hown.lt g hg).1)
section
variable{P:Program}{f:FuncId}{args:Array qV}{w:qW}{a n:Nat}{v:qV}
theorem s8(h:Calls P f args (w.drewN n) fun e w'=>e= .returned v/\w.drewN n=w'):Calls P f args (w.drewN n) fun e w''=>e= .returned v/\ ∃m,w''=w.drewN m:=
 h.mono fun _ _ ⟨he,hm⟩=>⟨he,n,hm.symm⟩
end
section
variable{H:Type}{enc:TypeId×qV->H}{P:Program}
end
end
section
open Go.RowKit
theorem sS{k:IntKind}{a b:Int}(h:a=b):Ending.returned (.int k a)= .returned (.int k b):=by rw [h]
theorem rT(x p:Nat):(x:Int)/2^p=((x/2^p:Nat):Int):=by
 rw [Int.natCast_ediv];simp
theorem wX(x p:Nat):(x:Int)*2^p=((x*2^p:Nat):Int):=by
 rw [Int.natCast_mul];simp
theorem oN(x:Nat):IntKind.u64.wrap (x:Int)=((x%18446744073709551616:Nat):Int):=by
 rw [IntKind.wrap_u64];omega
theorem oM(b k:Nat):IntKind.u64.wrap ((b:Int)*2^k)=((b*2^k%18446744073709551616:Nat):Int):=by
 rw [wX,oN]
theorem iY:(Tryz.prog.info? 5).map (fun i=>(i.zero,i.size,i.bytes))=some (some (.int .u8 0),1,1):=by kernel_rfl
def byteV(x i:Nat):qV:= .int .u8 (byteN x i:Nat)
def part(x k i:Nat):qV:=if i<k then byteV x i else .int .u8 0
def fM(n:Nat):Array qV:=madeCells #[.int .u8 0] n
theorem kJ(x k:Nat):part x k k= .int .u8 0:=by unfold part;rw [if_neg Za]
theorem kI(x m:Nat)(w:qW):(w.alloc (.cells (fM m) 5)).rowIs w.heap.size 5 m (part x 0):=
 World.rowIs_made w (.int .u8 0) m 5
theorem kH{x k m g:Nat}{w:qW}(h:w.rowIs g 5 m (part x k))(hk:k<m):(w.setCell ⟨g,k,none⟩ (byteV x k)).rowIs g 5 m (part x (k+1)):=
 (h.set k (byteV x k)).congr fun i hi=>by
  unfold part
  by_cases h1:i=k
  ·subst h1;rw [if_pos rfl,if_pos Za]
  ·rw [if_neg h1]
   by_cases h2:i<k
   ·rw [if_pos h2,if_pos Za]
   ·rw [if_neg h2,if_neg Za]
theorem kL{x m g:Nat}{w:qW}(h:w.rowIs g 5 m (part x m)):w.rowIs g 5 m (byteV x):=
 h.congr fun i hi=>by unfold part;rw [if_pos hi]
theorem nQ(x k:Nat):Value.int .u8 ((x:Int)/2^(8*k)%256)=byteV x k:=by
 unfold byteV byteN
 rw [rT]
 congr 1
theorem yeE(x:Nat)(n:Nat)(h2:n<=8)(w:qW):
  qC 163 #[.int .u64 x,iI n] w fun e w'=>e= .returned (.slice (aA w.heap.size) n n)/\w'.rowIs w.heap.size 5 n (byteV x)/\Below w.heap.size w w':=by
 have Et: ∀w:qW,(Instr.makeSlice 44 (iI n) (iI n)).run Tryz.prog w= .ok (.slice (aA w.heap.size) n n) (w.alloc (.cells (fM n) 5)):=
  fun w=>run_make_row' 44 5 (.int .u8 0) 1 Tryz.underlying44 iY rfl .i64 .i64 n Za Za w
 go_enter Tryz.func163,Tryz.ntmps163
 go_wp2
 go_loopw [13,6] (fun i _ wr=> ∃k:Nat,k<=n/\i=iI k/\wr.rowIs w.heap.size 5 n (part x k)/\Below w.heap.size w wr) (fun i _ _=>n-(intOf i).toNat)
 case atStart=>exact ⟨0,by omega,rfl,kI x n w,(zaa _ _).alloc (zaq _) _⟩
 case round=>
  obtain ⟨k,hk,rfl,xn,hb⟩:=hrel
  have xm:k<n->wr.cell? ⟨w.heap.size,k,none⟩=some (.int .u8 0):=fun h=>(xn.cell h).trans (by rw [kJ])
  have pi:=xn.frozen
  by_cases xe:(k:Int)<n
  ·have hc:=xm Za
   clear xm
   have HR:=Zh xn
   have HB:=Zh hb
   clear xn hb
   have H:=Zh (nQ x k)
   go_wp2
   go_roundw
   case rel=>exact ⟨k+1,by omega,by go_num,by rw [H.out];exact kH HR.out Za,HB.out.setCell (zaq _) _⟩
   case measure=>simp [intOf];omega
  ·obtain rfl:k=n:=by omega
   clear xm
   have HR:=Zh xn
   have HB:=Zh hb
   clear xn hb
   go_wp2
   go_ret
   exact ⟨rfl,kL HR.out,HB.out⟩
theorem yeF(x:Nat)(n:Int)(h1:8<n)(w:qW):
  qC 163 #[.int .u64 x,iI n] w fun e w'=>e= .returned (.slice (aA w.heap.size) 8 8)/\w'.rowIs w.heap.size 5 8 (byteV x)/\Below w.heap.size w w':=by
 have Et: ∀w:qW,(Instr.makeSlice 44 (iI 8) (iI 8)).run Tryz.prog w= .ok (.slice (aA w.heap.size) 8 8) (w.alloc (.cells (fM 8) 5)):=
  fun w=>run_make_row' 44 5 (.int .u8 0) 1 Tryz.underlying44 iY rfl .i64 .i64 8 Za Za w
 go_enter Tryz.func163,Tryz.ntmps163
 go_wp2
 go_loopw [13,6] (fun i _ wr=> ∃k:Nat,k<=8/\i=iI k/\wr.rowIs w.heap.size 5 8 (part x k)/\Below w.heap.size w wr) (fun i _ _=>8-(intOf i).toNat)
 case atStart=>exact ⟨0,by omega,rfl,kI x 8 w,(zaa _ _).alloc (zaq _) _⟩
 case round=>
  obtain ⟨k,hk,rfl,xn,hb⟩:=hrel
  have xm:k<8->wr.cell? ⟨w.heap.size,k,none⟩=some (.int .u8 0):=fun h=>(xn.cell h).trans (by rw [kJ])
  have pi:=xn.frozen
  by_cases xe:(k:Int)<8
  ·have hc:=xm Za
   clear xm
   have HR:=Zh xn
   have HB:=Zh hb
   clear xn hb
   have H:=Zh (nQ x k)
   go_wp2
   go_roundw
   case rel=>exact ⟨k+1,by omega,by go_num,by rw [H.out];exact kH HR.out Za,HB.out.setCell (zaq _) _⟩
   case measure=>simp [intOf];omega
  ·obtain rfl:k=8:=by omega
   clear xm
   have HR:=Zh xn
   have HB:=Zh hb
   clear xn hb
   go_wp2
   go_ret
   exact ⟨rfl,kL HR.out,HB.out⟩
end
section
def numK(l:List Nat):Nat->Nat
 |0=>0
 |k+1=>numK l k+l.getD k 0*256^k
def Small(l:List Nat):Prop:= ∀k:Nat,l.getD k 0<256
theorem ez(l:List Nat)(h:Small l): ∀k,numK l k<256^k
 |0=>by simp [numK]
 |k+1=>by
  have h1:=ez l h k
  have h2:=h k
  have h3:l.getD k 0*256^k<=255*256^k:=Nat.mul_le_mul_right _ Za
  unfold numK
  rw [Nat.pow_succ]
  omega
theorem ycJ(l:List Nat)(k:Nat)(h:l.length<=k):l.getD k 0=0:=by simp [List.getD,List.getElem?_eq_none h]
theorem wQ(l:List Nat)(k:Nat)(h:l.length<=k):numK l (k+1)=numK l k:=by
 show numK l k+l.getD k 0*256^k=numK l k
 rw [ycJ l k h,Nat.zero_mul,Nat.add_zero]
theorem wR(l:List Nat)(h:l.length<=8):numK l l.length=numK l 8:=by
 have key: ∀d,numK l (l.length+d)=numK l l.length:=by
  intro d
  induction d with
  |zero=>rfl
  |succ d ih=>rw [<-Nat.add_assoc,wQ l _ Za,ih]
 have:=key (8-l.length)
 rw [<-this]
 congr 1
 omega
theorem kz(k:Nat):256^k=2^(8*k):=by rw [Nat.pow_mul]
theorem wO(l:List Nat)(hl:Small l)(k:Nat)(hk:k<8):(numK l k|||(l.getD k 0*2^(8*k)%18446744073709551616))=numK l (k+1):=by
 have h1:=ez l hl k
 have h2:=ez l hl (k+1)
 have h3:256^(k+1)<=256^8:=zaQ Zd Za
 have h4:numK l (k+1)=numK l k+l.getD k 0*2^(8*k):=by rw [<-kz];rfl
 rw [Nat.mod_eq_of_lt Za,Nat.or_comm,nat_join (8*k) _ _ (Nat.mul_mod_left _ _) (by rw [<-kz];exact h1),h4,Nat.add_comm]
theorem wS(l:List Nat)(hl:Small l)(k:Nat)(hk:k<=8):numK l k<18446744073709551616:=by
 have h1:=ez l hl k
 have h3:256^k<=256^8:=zaQ Zd Za
 omega
end
section
open Go.RowKit
theorem wP(l:List Nat)(hl:Small l)(k:Nat)(hk:k<8):
  bits BinOp.or IntKind.u64 (numK l k:Int) (IntKind.u64.wrap ((l.getD k 0:Int)*2^(8*k)))=(numK l (k+1):Int):=by
 rw [oM,u64_or_nat _ _ (wS l hl k Za) (zaL _ Zd),wO l hl k hk]
def byteC(l:List Nat)(k:Nat):qV:= .int .u8 (l.getD k 0:Nat)
theorem lp(b off cap:Nat)(l:List Nat)(hl:Small l)(h:l.length<=cap)(hm:cap<=9223372036854775807)(h2:l.length<=8)(w:qW)(hc: ∀k,k<l.length->w.cell? ⟨b,off+k,none⟩=some (byteC l k)):
  qC 162 #[.slice (some ⟨b,off,none⟩) l.length cap] w fun e w'=>e= .returned (.int .u64 (numK l 8))/\w=w':=by
 have HE:=Zh (wR l h2)
 have HL:=Zh hl
 have HC:=Zh hc
 clear hc hl
 obtain ⟨len,xd⟩: ∃len,len=l.length:=⟨_,rfl⟩
 have HN:=Zh xd
 rw [<-xd] at h h2 ⊢
 clear xd
 go_enter Tryz.func162,Tryz.ntmps162
 go_wp2
 go_loop [3,12] (fun x i=> ∃k:Nat,k<=len/\i=iI k/\x= .int .u64 (numK l k)) (fun _ i=>len-(intOf i).toNat)
 case atStart=>exact ⟨0,by omega,rfl,rfl⟩
 case round=>
  obtain ⟨k,hk,rfl,rfl⟩:=hrel
  by_cases xe:(k:Int)<len
  ·have yv:=HC.out k (by have:=HN.out;omega)
   unfold byteC at yv
   have H:=Zh (wP l HL.out k Za)
   obtain ⟨c,xh⟩: ∃c,c=l.getD k 0:=⟨_,rfl⟩
   have hs:c<256:=by rw [xh];exact HL.out k
   rw [<-xh] at yv H
   clear xh
   go_wp2
   go_round
   case rel=>exact ⟨k+1,by omega,by go_num,by rw [<-H.out]⟩
   case measure=>simp [intOf];omega
  ·obtain rfl:k=len:=by omega
   go_wp2
   go_ret
   exact ⟨sS (by rw [<-HE.out,<-HN.out]),rfl⟩
def sndB(a l:Int):Bool:=decide (0<=a/\a<=1099511627776/\0<=l/\l<=1048576)
theorem rI{a l:Int}(h:sndB a l=true):0<=a/\a<=1099511627776/\0<=l/\l<=1048576:=of_decide_eq_true h
theorem db{a b:Bool}(h:a=b):Ending.returned (.bool a)= .returned (.bool b):=by rw [h]
theorem dA(w:qW)(o:Obj):Below w.heap.size w (w.alloc o):=(zaa _ _).alloc (zaq _) _
theorem rG(a l:Int)(w:qW):
  qC 277 #[.agg #[iI a,iI l]] w fun e w'=>e= .returned (.bool (sndB a l))/\Below w.heap.size w w':=by
 by_cases h1:0<=a
 case neg=>
  have H:Hid (sndB a l=false):=Zh (zax Za)
  go_enter Tryz.func277,Tryz.ntmps277
  go_wp2
  go_ret
  exact ⟨db (by rw [H.out]),dA _ _⟩
 by_cases h2:a<=1099511627776
 case neg=>
  have H:Hid (sndB a l=false):=Zh (zax Za)
  go_enter Tryz.func277,Tryz.ntmps277
  go_wp2
  go_ret
  exact ⟨db (by rw [H.out]),dA _ _⟩
 by_cases h3:0<=l
 case neg=>
  have H:Hid (sndB a l=false):=Zh (zax Za)
  go_enter Tryz.func277,Tryz.ntmps277
  go_wp2
  go_ret
  exact ⟨db (by rw [H.out]),dA _ _⟩
 by_cases h4:l<=1048576
 case neg=>
  have H:Hid (sndB a l=false):=Zh (zax Za)
  go_enter Tryz.func277,Tryz.ntmps277
  go_wp2
  go_ret
  exact ⟨db (by rw [H.out]),dA _ _⟩
 have H:Hid (sndB a l=true):=Zh (zaw Za)
 go_enter Tryz.func277,Tryz.ntmps277
 go_wp2
 go_ret
 exact ⟨db (by rw [H.out]),dA _ _⟩
theorem iz(f t:Int)(w:qW):
  qC 226 #[.agg #[iI f,iI t]] w fun e w'=>e= .returned (.bool (f==t))/\Below w.heap.size w w':=by
 go_enter Tryz.func226,Tryz.ntmps226
 go_wp2
 go_ret
 exact ⟨rfl,dA _ _⟩
def loI(a l:Int):Int:=if sndB a l then a else 0
def hiI(a l:Int):Int:=if sndB a l then a+l else 0
theorem cW{w w1:qW}{o:Obj}(h:Below (w.alloc o).heap.size (w.alloc o) w1):Below w.heap.size w w1:=bR (dA w o) h
theorem fm(a l:Int)(w:qW):
  qC 225 #[.agg #[iI a,iI l]] w fun e w'=>e= .returned (.agg #[iI (loI a l),iI (hiI a l)])/\Below w.heap.size w w':=by
 have A1:=Zh (rG a l)
 cases h:sndB a l
 ·have H1:Hid (loI a l=0):=by unfold loI;rw [h];exact Zh rfl
  have H2:Hid (hiI a l=0):=by unfold hiI;rw [h];exact Zh rfl
  rw [h] at A1
  clear h
  go_enter Tryz.func225,Tryz.ntmps225
  go_wp2_with fail
  refine (A1.out _).mono ?_
  rintro e w1 ⟨rfl,hb⟩
  have d0:=hb.cell (p:=⟨w.heap.size,0,none⟩) Zk
  have d1:=hb.cell (p:=⟨w.heap.size,1,none⟩) Zk
  have d2:=hb.cell (p:=⟨w.heap.size+1,0,none⟩) Zg
  have d3:=hb.cell (p:=⟨w.heap.size+1,1,none⟩) Zg
  have f2:=hb.frozen (p:=⟨w.heap.size+1,0,none⟩) Zg
  have f3:=hb.frozen (p:=⟨w.heap.size+1,1,none⟩) Zg
  simp at d0 d1 d2 d3 f2 f3
  have HB:=Zh (cW (cW hb))
  clear hb
  go_wp2_with fail
  rw [H1.out,H2.out]
  refine zad (v:= .agg #[iI 0,iI 0]) (by simp [results,Tryz.results225,go_sem,d2,d3]) rfl ⟨rfl,?_⟩
  exact (HB.out.setCell Zg _).setCell Zg _
 ·have H1:Hid (loI a l=a):=by unfold loI;rw [h];exact Zh rfl
  have H2:Hid (hiI a l=(a+l)):=by unfold hiI;rw [h];exact Zh rfl
  have hs:=rI h
  rw [h] at A1
  clear h
  go_enter Tryz.func225,Tryz.ntmps225
  go_wp2_with fail
  refine (A1.out _).mono ?_
  rintro e w1 ⟨rfl,hb⟩
  have d0:=hb.cell (p:=⟨w.heap.size,0,none⟩) Zk
  have d1:=hb.cell (p:=⟨w.heap.size,1,none⟩) Zk
  have d2:=hb.cell (p:=⟨w.heap.size+1,0,none⟩) Zg
  have d3:=hb.cell (p:=⟨w.heap.size+1,1,none⟩) Zg
  have f2:=hb.frozen (p:=⟨w.heap.size+1,0,none⟩) Zg
  have f3:=hb.frozen (p:=⟨w.heap.size+1,1,none⟩) Zg
  simp at d0 d1 d2 d3 f2 f3
  have HB:=Zh (cW (cW hb))
  clear hb
  go_wp2_with fail
  rw [H1.out,H2.out]
  refine zad (v:= .agg #[iI a,iI (a+l)]) (by simp [results,Tryz.results225,go_sem,d2,d3]) rfl ⟨rfl,?_⟩
  exact (HB.out.setCell Zg _).setCell Zg _
def bLo(f t g u:Int):Int:=if min t u<=max f g then 0 else max f g
def bHi(f t g u:Int):Int:=if min t u<=max f g then 0 else min t u
theorem yeR(f t g u:Int)(w:qW)(h1:f<g)(h2:t<=u)(h3:t<=g):qC 227 #[.agg #[iI f,iI t],.agg #[iI g,iI u]] w fun e w'=>e= .returned (.agg #[iI (bLo f t g u),iI (bHi f t g u)])/\Below w.heap.size w w':=Z63_
theorem yeQ(f t g u:Int)(w:qW)(h1:f<g)(h2:t<=u)(h3:g<t):qC 227 #[.agg #[iI f,iI t],.agg #[iI g,iI u]] w fun e w'=>e= .returned (.agg #[iI (bLo f t g u),iI (bHi f t g u)])/\Below w.heap.size w w':=by
 have H1:Hid (bLo f t g u=g):=by unfold bLo;exact Zh Za
 have H2:Hid (bHi f t g u=t):=by unfold bHi;exact Zh Za
 go_enter Tryz.func227,Tryz.ntmps227
 go_wp2
 rw [H1.out,H2.out]
 refine zad (v:= .agg #[iI g,iI t]) Z54_ rfl ⟨rfl,?_⟩
 exact ((((zaa _ _).alloc (zaq _) _).alloc Zg _).alloc Zk _).alloc Zk _
theorem yeP(f t g u:Int)(w:qW)(h1:f<g)(h2:u<t)(h3:u<=g):qC 227 #[.agg #[iI f,iI t],.agg #[iI g,iI u]] w fun e w'=>e= .returned (.agg #[iI (bLo f t g u),iI (bHi f t g u)])/\Below w.heap.size w w':=Z63_
theorem yeO(f t g u:Int)(w:qW)(h1:f<g)(h2:u<t)(h3:g<u):qC 227 #[.agg #[iI f,iI t],.agg #[iI g,iI u]] w fun e w'=>e= .returned (.agg #[iI (bLo f t g u),iI (bHi f t g u)])/\Below w.heap.size w w':=by
 have H1:Hid (bLo f t g u=g):=by unfold bLo;exact Zh Za
 have H2:Hid (bHi f t g u=u):=by unfold bHi;exact Zh Za
 go_enter Tryz.func227,Tryz.ntmps227
 go_wp2
 rw [H1.out,H2.out]
 refine zad (v:= .agg #[iI g,iI u]) Z54_ rfl ⟨rfl,?_⟩
 exact ((((zaa _ _).alloc (zaq _) _).alloc Zg _).alloc Zk _).alloc Zk _
theorem yeN(f t g u:Int)(w:qW)(h1:g<=f)(h2:t<=u)(h3:t<=f):qC 227 #[.agg #[iI f,iI t],.agg #[iI g,iI u]] w fun e w'=>e= .returned (.agg #[iI (bLo f t g u),iI (bHi f t g u)])/\Below w.heap.size w w':=Z63_
theorem yeM(f t g u:Int)(w:qW)(h1:g<=f)(h2:t<=u)(h3:f<t):qC 227 #[.agg #[iI f,iI t],.agg #[iI g,iI u]] w fun e w'=>e= .returned (.agg #[iI (bLo f t g u),iI (bHi f t g u)])/\Below w.heap.size w w':=by
 have H1:Hid (bLo f t g u=f):=by unfold bLo;exact Zh Za
 have H2:Hid (bHi f t g u=t):=by unfold bHi;exact Zh Za
 go_enter Tryz.func227,Tryz.ntmps227
 go_wp2
 rw [H1.out,H2.out]
 refine zad (v:= .agg #[iI f,iI t]) Z54_ rfl ⟨rfl,?_⟩
 exact ((((zaa _ _).alloc (zaq _) _).alloc Zg _).alloc Zk _).alloc Zk _
theorem yeL(f t g u:Int)(w:qW)(h1:g<=f)(h2:u<t)(h3:u<=f):qC 227 #[.agg #[iI f,iI t],.agg #[iI g,iI u]] w fun e w'=>e= .returned (.agg #[iI (bLo f t g u),iI (bHi f t g u)])/\Below w.heap.size w w':=Z63_
theorem yeK(f t g u:Int)(w:qW)(h1:g<=f)(h2:u<t)(h3:f<u):qC 227 #[.agg #[iI f,iI t],.agg #[iI g,iI u]] w fun e w'=>e= .returned (.agg #[iI (bLo f t g u),iI (bHi f t g u)])/\Below w.heap.size w w':=by
 have H1:Hid (bLo f t g u=f):=by unfold bLo;exact Zh Za
 have H2:Hid (bHi f t g u=u):=by unfold bHi;exact Zh Za
 go_enter Tryz.func227,Tryz.ntmps227
 go_wp2
 rw [H1.out,H2.out]
 refine zad (v:= .agg #[iI f,iI u]) Z54_ rfl ⟨rfl,?_⟩
 exact ((((zaa _ _).alloc (zaq _) _).alloc Zg _).alloc Zk _).alloc Zk _
theorem iK(f t g u:Int)(w:qW):
  qC 227 #[.agg #[iI f,iI t],.agg #[iI g,iI u]] w fun e w'=>e= .returned (.agg #[iI (bLo f t g u),iI (bHi f t g u)])/\Below w.heap.size w w':=by
 rcases Int.lt_or_le f g with a|a<;>rcases Int.lt_or_le u t with b|b
 ·rcases Int.lt_or_le g u with c|c
  ·exact yeO f t g u w a b c
  ·exact yeP f t g u w a b c
 ·rcases Int.lt_or_le g t with c|c
  ·exact yeQ f t g u w a b c
  ·exact yeR f t g u w a b c
 ·rcases Int.lt_or_le f u with c|c
  ·exact yeK f t g u w a b c
  ·exact yeL f t g u w a b c
 ·rcases Int.lt_or_le f t with c|c
  ·exact yeM f t g u w a b c
  ·exact yeN f t g u w a b c
end
end Go.Proofs.YtjmfoeajhiimnaaGreatDoor
