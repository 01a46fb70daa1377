/- The statement 'WholeHalts' of the program's functions holds: for every input the call returns true, and each argument reads afterwards as it did; what the library's tables hold is tied to the program's text. No condition. -/
import Derived.SevenTiedAt
import Derived.LaidOnce
import Derived.JoinedOf
import Derived.LaidMore
import Derived.Stop.Joined
import Derived.Lib.LaidTab
import Derived.Test.YtcekjfmfcefjpaaGreatDoorCards
import Derived.Test.YtcekjfmfcefjpaaGreatDoorTie
import Derived.Test.YtcekjfmfcefjpaaGreatDoorG51
set_option maxRecDepth 100000
set_option maxHeartbeats 0
set_option linter.all false
namespace Go.Proofs.YtcekjfmfcefjpaaGreatDoor.wholeHalts
open Go.ChangeShapes Go.WideShapes Go.ChangeAt Go.WideMaps Go.WideElems Go.RowKit
abbrev laidT : List (String × DataW Unit) := [("math/bits.deBruijn32tab", Rows.laid_math_bits_deBruijn32tab), ("math/bits.deBruijn64tab", Rows.laid_math_bits_deBruijn64tab), ("internal/strconv.uint64pow10", Rows.laid_internal_strconv_uint64pow10), ("strconv.ErrRange", Rows.laid_strconv_ErrRange), ("strconv.ErrSyntax", Rows.laid_strconv_ErrSyntax), ("unicode.White_Space", Rows.laid_unicode_White_Space), ("strings.asciiSpace", Rows.laid_strings_asciiSpace)]
theorem lQ{P:Program}{w:World}: ∀{l:List (String×DataW Unit)} {ps:List MemPlace},DataW.LaidVars P w l ps-> ∀{n:String} {d:DataW Unit},(n,d)∈l->
  ∃g t cs fuel p,P.globalNamed n=some g/\(P.globals[g]?).map (·.type)=some t/\w.var? P n=some cs/\DataW.trod (fun _=>()) P w 0 (fun _=>true) false fuel t cs.toList=some (d,p)
 |[],_,_,_,_,hm=>by cases hm
 |(n,d)::r,ps,h,n',d',hm=>by
  obtain ⟨g,t,cs,fuel,p,q,h1,h2,h3,h4,h5, -⟩:=h
  rcases List.mem_cons.1 hm with e|hm
  ·cases e
   exact ⟨g,t,cs,fuel,p,h1,h2,h3,h4⟩
  ·exact lQ h5 hm
theorem gTab : Tryz.prog.globalNamed "strings.asciiSpace" = some 0 := by kernel_rfl
theorem tTab:(Tryz.prog.globals[0]?).map (·.type)=some 273:=by kernel_rfl
theorem yar:(Rows.laid_strings_asciiSpace:DataW Unit)=Lib.tabData .u8 Lib.asciiSpaceTab:=by kernel_rfl
theorem uS{W:World}(h:laidMetH Tryz.prog laidT W):SpT W:=by
 rw [MakeChecks.laidMetH_plain _ _ _ Zb] at h
 obtain ⟨ps,hl, -, -⟩:=h
 obtain ⟨g, t, cs, fuel, p, h1, h2, h3, h4⟩ := lQ hl (n := "strings.asciiSpace") (d := Rows.laid_strings_asciiSpace) (by simp [laidT])
 obtain rfl:=Option.some.inj (gTab.symm.trans h1)
 obtain rfl:=Option.some.inj (tTab.symm.trans h2)
 rw [yar] at h4
 have hT : Lib.TabIs Tryz.prog W "strings.asciiSpace" .u8 Lib.asciiSpaceTab := by
  unfold Lib.TabIs
  rw [h3,<-Lib.cells_of_tab Tryz.underlying273 Tryz.underlying5 Zb Zb h4]
 intro c hc
 rw [hT.cell gTab c (by rw [Lib.asciiSpaceTab_length];exact hc),Lib.asciiSpaceTab_at c hc]
theorem yem{H:Type}{enc:TypeId×Value->H}{W:World}{r:Reach}{b0:Nat}{v:Value}{d:DataW H}{p:List MemPlace}(hv:Value.okWide Tryz.prog W r b0 22 v)(h:DataW.Trod enc Tryz.prog W 0 (fun _=>true) true 22 v d p): ∃l,InB W v l:=by
 obtain ⟨l,a,c,rfl,h1,h2,h3,h4⟩:=ybm Tryz.underlying22 Tryz.underlying5 Zb hv h
 have hn: ∀x∈l,∃m:Nat,x=m/\m<256:=fun x hx=>by
  obtain ⟨m,e,hm⟩:=gC (h4 x hx)
  exact ⟨m,e,by omega⟩
 refine ⟨l.map Int.toNat,fun x hx=>?_,a,c,by rw [List.length_map],by rw [List.length_map];exact h1,h2,fun h0=>?_⟩
 ·obtain ⟨y,hy,rfl⟩:=List.mem_map.1 hx
  obtain ⟨m,rfl,hm⟩:=hn y hy
  simpa using hm
 ·rw [List.length_map] at h0
  obtain ⟨b,o,e,hb,hc⟩:=h3 h0
  refine ⟨b,o,e,hb,fun j x hx=>?_⟩
  rw [List.getElem?_map] at hx
  rcases hq:l[j]? with _|y
  ·rw [hq] at hx
   cases hx
  ·rw [hq] at hx
   obtain rfl:=Option.some.inj hx
   obtain ⟨m,rfl, -⟩:=hn y (List.mem_of_getElem? hq)
   rw [hc j _ hq]
   simp
theorem wh{P:Program}{w:World}{l:List (String×DataW Unit)}(fuel M:Nat)(h:(DataW.laidRun P w fuel (l.map (·.1))).map (fun x=>(x.1,nodupBits M x.2 0&&laidRowsB P w x.2))=some (l,true)):laidMet P l w:=by
 cases hx:DataW.laidRun P w fuel (l.map (·.1)) with
 |none=>simp [hx] at h
 |some x=>
  obtain ⟨l',ps⟩:=x
  simp only [hx,Option.map_some,Option.some.injEq,Prod.mk.injEq,Bool.and_eq_true] at h
  obtain ⟨rfl,hn,hr⟩:=h
  exact laidMet_of_run fuel hx (decide_eq_true (nodupBits_sound hn).1) hr
theorem ur:ownKnob Tryz.prog.godebug=none:=by kernel_rfl
theorem yas:laidOutB Tryz.prog=true:=by kernel_rfl
theorem sq:(Tryz.f3.params.toList.all fun t=>Tryz.prog.readableRec t&&decide (t<Tryz.prog.types.size))=true:=by kernel_rfl
theorem ydB(os:Os)(args:Array Value):laidMetH Tryz.prog laidT ((World.doorLaid Tryz.prog 86 os).forCall (fun _ _=>0) ⟨#[],args,[]⟩).memory:=
 laidMetH_of_parts3 (fuel:=8) (wh 8 257 Zb) Zb Zb
theorem yab(os:Os)(started:os.Started)(H:Type)(enc:TypeId×Value->H):
  ReturnsInHanded {} Tryz.checked os 3 .any (fun w args=>(Rows.wholeHaltsSpec.pre enc Tryz.prog Tryz.f3 [] false w args/\laidMetH Tryz.prog laidT w)/\sizedMet enc Tryz.prog Tryz.f3 (OpenSpec.ofChange Rows.wholeHaltsSpec) false w args)
   (Rows.wholeHaltsSpec.post enc Tryz.prog Tryz.f3 false true false false):=by
 refine returnsInHanded_of_change_and (C:=Tryz.checked) (X:=fun w _=>laidMetH Tryz.prog laidT w) (fun _ _ _ hh h=>h.of_heap hh) ur started Zb Tryz.func3
  (ChangeSpec.witness_shaped (enc:=enc) (C:=Tryz.checked) (os:=os) (X:=fun w _=>laidMetH Tryz.prog laidT w) false (World.doorLaid Tryz.prog 86 os) #[.int .u8 0,.int .u8 0,.slice none 0 0] 8 rfl (World.shaped_of_RefB Zb Zb) Zb Zb Zb (ydB os _)) ?_
 intro W base args ds gs before DB hW _ _ hL _
 have C7: ∀(j:Nat) t v,Tryz.f3.params[j]?=some t->args[j]?=some v->Value.okWide Tryz.prog W .any base t v:=DB
 have hW':=hW
 obtain ⟨p,q,A5,hV,rfl,hfz,hnd⟩:=hW
 have hA:DataW.TrodAll enc Tryz.prog W 0 (fun _=>true) true Tryz.f3.params.toList args.toList ds p:=A5
 rw [Tryz.params3] at hA C7
 obtain ⟨v0,vs0,d0,ds0,p0,q0,LY,rfl,rfl,h0,r0⟩:=trodAll_cons hA
 obtain ⟨v1,vs1,d1,ds1,p1,q1,rfl,rfl,rfl,h1,r1⟩:=trodAll_cons r0
 obtain ⟨v2,vs2,d2,ds2,p2,q2,rfl,rfl,rfl,h2,r2⟩:=trodAll_cons r1
 obtain ⟨rfl,rfl,rfl⟩:=trodAll_nil r2
 obtain rfl:args=#[v0,v1,v2]:=by cases args;simp_all
 obtain ⟨rfl,rfl⟩:=trodVars_none hV
 obtain ⟨a0,rfl,rfl,rfl,w0⟩:=open_int Tryz.underlying5 (C7 0 5 v0 rfl rfl) h0
 obtain ⟨x0,rfl,b0⟩:=gC w0
 obtain ⟨a1,rfl,rfl,rfl,w1⟩:=open_int Tryz.underlying5 (C7 1 5 v1 rfl rfl) h1
 obtain ⟨x1,rfl,b1⟩:=gC w1
 obtain ⟨l2,b2⟩:=yem (C7 2 22 v2 rfl rfl) h2
 have hT:=uS hL
 clear A5 DB
 obtain ⟨HR,AK,HP⟩:=ybX (c:=x1%2+1) (th:=x0%2+1) Za Za
 refine (ycg W hT x0 x1 Za Za v2 l2 b2 _ _ rfl rfl _ _ HR AK _ HP).mono fun e W' h=>?_
 obtain ⟨he,hb⟩:=h
 subst he
 exact ⟨_,rfl,yaq hW' rfl rfl rfl rfl yas sq rfl Tryz.underlying4 hb⟩
theorem jf0:(Rows.wholeHaltsRow.wf (OpenSpec.ofChange Rows.wholeHaltsSpec))=true:=by kernel_rfl
theorem jf1:(laidOutB Tryz.pinned.checked.prog)=true:=by kernel_rfl
theorem jf2:(mapsRowed Tryz.pinned.checked.prog)=true:=by kernel_rfl
theorem jf3:(Tryz.f3.params.all (Tryz.pinned.checked.prog.readableRec ·))=true:=by kernel_rfl
theorem jf4:(namedTie Tryz.pinned.checked.prog Rows.wholeHaltsRow.named Rows.wholeHaltsSpec.vars)=true:=by kernel_rfl
theorem jf5:((Rows.wholeHaltsRow.stops==[]))=true:=by kernel_rfl
theorem jf6:((Tryz.pinned.checked.prog.stops==[]))=true:=by kernel_rfl
theorem jf7:((Rows.wholeHaltsRow.knobs==[]))=true:=by kernel_rfl
theorem jf8:((Tryz.pinned.checked.prog.stopKnobs==[]))=true:=by kernel_rfl
theorem jf9:((Rows.wholeHaltsRow.inPlace==Tryz.pinned.checked.prog.inPlace 3))=true:=by kernel_rfl
theorem ybi:((Rows.wholeHaltsRow.unfollowed==Tryz.pinned.checked.prog.unfollowed 3))=true:=by kernel_rfl
theorem ybh:((Rows.wholeHaltsRow.recurses==Tryz.pinned.checked.prog.recurses 3))=true:=by kernel_rfl
theorem ybg:((Rows.wholeHaltsRow.named==Tryz.pinned.checked.prog.varsNamed 3))=true:=by kernel_rfl
theorem ybf:((Rows.wholeHaltsRow.maps==(Tryz.f3.params.toList++Rows.wholeHaltsSpec.plain.varTypes Tryz.pinned.checked.prog).any (Tryz.pinned.checked.prog.mapsRec ·)))=true:=by kernel_rfl
theorem ybe:((Rows.wholeHaltsRow.ifaces==(Tryz.f3.params.toList++Rows.wholeHaltsSpec.plain.varTypes Tryz.pinned.checked.prog).any (Tryz.pinned.checked.prog.ifacesRec ·)))=true:=by kernel_rfl
theorem ybd:((Rows.wholeHaltsRow.mapsOut==Tryz.pinned.checked.prog.mapsAmong Tryz.f3.resultTypes.toList))=true:=by kernel_rfl
theorem ybc:((Rows.wholeHaltsRow.loops==(Tryz.f3.params.toList++Rows.wholeHaltsSpec.plain.varTypes Tryz.pinned.checked.prog).any (Tryz.pinned.checked.prog.loopsFrom ·)))=true:=by kernel_rfl
theorem ybb:((Rows.wholeHaltsRow.wideKeys==(Tryz.f3.params.toList++Rows.wholeHaltsSpec.plain.varTypes Tryz.pinned.checked.prog++Tryz.f3.resultTypes.toList).any (Tryz.pinned.checked.prog.wideKeysFrom ·)))=true:=by kernel_rfl
theorem yba:(Rows.wholeHaltsSpec.vars.all (Tryz.pinned.checked.prog.varReadable ·))=true:=by kernel_rfl
theorem ya9:(Tryz.f3.resultTypes.all (fun t=>Tryz.pinned.checked.prog.readableRec t&&decide (t<Tryz.pinned.checked.prog.types.size)))=true:=by kernel_rfl
theorem ya8:((Rows.wholeHaltsRow.ifacesOut==Tryz.f3.resultTypes.toList.any (Tryz.pinned.checked.prog.ifacesRec ·)))=true:=by kernel_rfl
theorem ya7:((Rows.wholeHaltsRow.loopsOut==Tryz.f3.resultTypes.toList.any (Tryz.pinned.checked.prog.loopsFrom ·)))=true:=by kernel_rfl
theorem ya6:((Rows.wholeHaltsRow.plainKeys==Tryz.pinned.checked.prog.plainKeys))=true:=by kernel_rfl
theorem ya5:(Rows.wholeHaltsRow.shortTexts.isNone)=true:=by kernel_rfl
theorem ya4:(Tryz.pinned.checked.prog.stopsHeard)=true:=by kernel_rfl
theorem ya3:(Tryz.pinned.checked.prog.mayEnter)=true:=by kernel_rfl
theorem ya2:((Rows.wholeHaltsRow.lifted==Tryz.pinned.checked.prog.liftsFinal))=true:=by kernel_rfl
theorem ya1:((Tryz.pinned.checked.prog.make==some Rows.wholeHaltsRow.make))=true:=by kernel_rfl
theorem ya0:((Rows.wholeHaltsRow.kinds==(if Rows.wholeHaltsRow.domain.isEmpty then [] else Tryz.f3.params.toList.map fun t=>match Tryz.pinned.checked.prog.underlying t with|some (.int k)=>some k|_=>none)))=true:=by kernel_rfl
theorem yaZ:((Rows.wholeHaltsRow.pinned==Rows.wholeHaltsRow.pinnedBy))=true:=by kernel_rfl
theorem yaY:((Rows.wholeHaltsRow.veiled==(Tryz.f3.params.toList++Rows.wholeHaltsSpec.plain.varTypes Tryz.pinned.checked.prog++Tryz.f3.resultTypes.toList).any (Tryz.pinned.checked.prog.veiledRec ·)))=true:=by kernel_rfl
theorem yaX:(Rows.wholeHaltsRow.veiledFits Tryz.pinned.checked.prog Tryz.f3.params.toList (Tryz.f3.params.toList++Rows.wholeHaltsSpec.plain.varTypes Tryz.pinned.checked.prog++Tryz.f3.resultTypes.toList))=true:=by kernel_rfl
theorem jf:joinedFacts Tryz.pinned.checked.prog 3 Tryz.f3 Rows.wholeHaltsSpec Rows.wholeHaltsRow=true:=by
 simp only [joinedFacts,Bool.and_eq_true]
 exact ⟨⟨⟨⟨⟨⟨⟨⟨⟨⟨⟨⟨⟨⟨⟨⟨⟨⟨⟨⟨⟨⟨⟨⟨⟨⟨⟨⟨⟨⟨⟨jf0,jf1⟩,jf2⟩,jf3⟩,jf4⟩,jf5⟩,jf6⟩,jf7⟩,jf8⟩,jf9⟩,ybi⟩,ybh⟩,ybg⟩,ybf⟩,ybe⟩,ybd⟩,ybc⟩,ybb⟩,yba⟩,ya9⟩,ya8⟩,ya7⟩,ya6⟩,ya5⟩,ya4⟩,ya3⟩,ya2⟩,ya1⟩,ya0⟩,yaZ⟩,yaY⟩,yaX⟩
theorem row_holds:Rows.WholeHaltsSaid:=
 OpenClaim.holds_of_wide 3 Tryz.f3 rfl rfl rfl rfl rfl rfl rfl ⟨rfl,rfl,rfl,rfl,rfl⟩ rfl rfl rfl rfl rfl Zb Tryz.func3 jf
  (of_decide_eq_true Zb) (by unfold Func.isWrapper;first|(rw [if_pos (by decide+kernel)];kernel_rfl)|(rw [if_neg (by decide+kernel)];exact ⟨rfl,rfl⟩))
  (fun os started H enc _=>yab os started H enc)
theorem proved_Wld:Rows.WholeHaltsCardSaid:=
 Claim7.holds_tied_plain_at .later [] [.data, .data, .data, .sentinel, .sentinel, .listed, .data] true (true, "ab8888e2a1c751a51c729f4d1b94512fd04e5d4915ad713a9b00f42e7282cd8b") true
  row_holds (fun _ h=>by cases h) Zb (fun _ h=>by cases h) wholeHalts_row_tie rfl ⟨rfl,rfl⟩ Zb rfl
  (fun f fn hf CM=>by
   obtain rfl : f = 3 := Option.some.inj ((show Tryz.prog.funcNamed "rabbet/rabbettop.WholeHalts" = some 3 by kernel_rfl).symm.trans hf) |>.symm
   obtain rfl:fn=Tryz.f3:=(Option.some.inj (Tryz.func3.symm.trans CM)).symm
   exact ⟨by kernel_rfl,fun j t ht=>by
    rw [Tryz.params3] at ht
    have hm:t∈[5,5,22]:=by simpa using Array.mem_of_getElem? ht
    have xp:([5,5,22].all fun u=>!Tryz.prog.wantsStandIn u)=true:=by kernel_rfl
    exact (show Tryz.prog.wantsStandIn t=false by simpa using List.all_eq_true.1 xp t hm)⟩)
  Zb
#print axioms proved_Wld
end Go.Proofs.YtcekjfmfcefjpaaGreatDoor.wholeHalts
