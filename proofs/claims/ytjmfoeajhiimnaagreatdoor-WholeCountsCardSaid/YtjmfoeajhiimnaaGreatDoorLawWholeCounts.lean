/- The statement 'WholeCounts' of the program's functions holds: for every input the call returns true, and each argument reads afterwards as it did; what the library's tables hold is tied to the program's text. No condition. -/
import Derived.SevenTiedAt
import Derived.LaidOnce
import Derived.JoinedOf
import Derived.LaidMore
import Derived.Stop.Joined
import Derived.Lib.LaidTab
import Derived.Test.YtjmfoeajhiimnaaGreatDoorCards
import Derived.Test.YtjmfoeajhiimnaaGreatDoorTie
import Derived.Test.YtjmfoeajhiimnaaGreatDoorG43
set_option maxRecDepth 100000
set_option maxHeartbeats 0
set_option linter.all false
namespace Go.Proofs.YtjmfoeajhiimnaaGreatDoor.wholeCounts
open Go.ChangeShapes Go.WideShapes Go.ChangeAt Go.WideMaps Go.WideElems Go.RowKit Tryz
abbrev laidT : List (String × DataW Unit) := [("math/bits.deBruijn32tab", Rows.laid_math_bits_deBruijn32tab), ("math/bits.deBruijn64tab", Rows.laid_math_bits_deBruijn64tab), ("internal/strconv.uint64pow10", Rows.laid_internal_strconv_uint64pow10), ("strconv.ErrRange", Rows.laid_strconv_ErrRange), ("strconv.ErrSyntax", Rows.laid_strconv_ErrSyntax), ("unicode.White_Space", Rows.laid_unicode_White_Space), ("strings.asciiSpace", Rows.laid_strings_asciiSpace)]
def lW{P:Program}{w:World}: ∀{l:List (String×DataW Unit)} {ps:List MemPlace},DataW.LaidVars P w l ps-> ∀{n:String} {d:DataW Unit},(n,d)∈l->
  ∃g t cs fuel p,P.globalNamed n=some g/\(P.globals[g]?).map (·.type)=some t/\w.var? P n=some cs/\DataW.trod (fun _=>()) P w 0 (fun _=>true) false fuel t cs.toList=some (d,p)
 |[],_,_,_,_,hm=>by cases hm
 |(n,d)::r,ps,h,n',d',hm=>by
  obtain ⟨g,t,cs,fuel,p,q,h1,h2,h3,h4,h5, -⟩:=h
  rcases List.mem_cons.1 hm with e|hm
  ·cases e
   exact ⟨g,t,cs,fuel,p,h1,h2,h3,h4⟩
  ·exact lW h5 hm
def gTab : Tryz.prog.globalNamed "strings.asciiSpace" = some 0 := by kernel_rfl
def tTab:(Tryz.prog.globals[0]?).map (·.type)=some 256:=by kernel_rfl
def yaV:(Rows.laid_strings_asciiSpace:DataW Unit)=Lib.tabData .u8 Lib.asciiSpaceTab:=by kernel_rfl
def vG{W:World}(h:laidMetH Tryz.prog laidT W):SpT W:=by
 rw [MakeChecks.laidMetH_plain _ _ _ Zb] at h
 obtain ⟨ps,hl, -, -⟩:=h
 obtain ⟨g, t, cs, fuel, p, h1, h2, h3, h4⟩ := lW hl (n := "strings.asciiSpace") (d := Rows.laid_strings_asciiSpace) (by simp [laidT])
 obtain rfl:=Option.some.inj (gTab.symm.trans h1)
 obtain rfl:=Option.some.inj (tTab.symm.trans h2)
 rw [yaV] at h4
 have hT : Lib.TabIs Tryz.prog W "strings.asciiSpace" .u8 Lib.asciiSpaceTab := by
  unfold Lib.TabIs
  rw [h3,<-Lib.cells_of_tab Tryz.underlying256 Tryz.underlying5 Zb Zb h4]
 intro c hc
 rw [hT.cell gTab c (by rw [Lib.asciiSpaceTab_length];exact hc),Lib.asciiSpaceTab_at c hc]
def yad{P:Program}{w:World}{l:List (String×DataW Unit)}(fuel M:Nat)(h:(DataW.laidRun P w fuel (l.map (·.1))).map (fun x=>(x.1,nodupBits M x.2 0&&laidRowsB P w x.2))=some (l,true)):laidMet P l w:=by
 cases hx:DataW.laidRun P w fuel (l.map (·.1)) with
 |none=>simp [hx] at h
 |some x=>
  obtain ⟨l',ps⟩:=x
  simp only [hx,Option.map_some,Option.some.injEq,Prod.mk.injEq,Bool.and_eq_true] at h
  obtain ⟨rfl,hn,hr⟩:=h
  exact laidMet_of_run fuel hx (decide_eq_true (nodupBits_sound hn).1) hr
def u6:ownKnob Tryz.prog.godebug=none:=by kernel_rfl
def yaW:laidOutB Tryz.prog=true:=by kernel_rfl
def sW:(Tryz.f3.params.toList.all fun t=>Tryz.prog.readableRec t&&decide (t<Tryz.prog.types.size))=true:=by kernel_rfl
def ydJ(os:Os)(args:Array Value):laidMetH Tryz.prog laidT ((World.doorLaid Tryz.prog 86 os).forCall (fun _ _=>0) ⟨#[],args,[]⟩).memory:=
 laidMetH_of_parts3 (fuel:=8) (yad 8 257 Zb) Zb Zb
def yaF(os:Os)(started:os.Started)(H:Type)(enc:TypeId×Value->H):
  ReturnsInHanded {} Tryz.checked os 3 .any (fun w args=>(Rows.wholeCountsSpec.pre enc Tryz.prog Tryz.f3 [] false w args/\laidMetH Tryz.prog laidT w)/\sizedMet enc Tryz.prog Tryz.f3 (OpenSpec.ofChange Rows.wholeCountsSpec) false w args)
   (Rows.wholeCountsSpec.post enc Tryz.prog Tryz.f3 false true false false):=by
 refine returnsInHanded_of_change_and (C:=Tryz.checked) (X:=fun w _=>laidMetH Tryz.prog laidT w) (fun _ _ _ hh h=>h.of_heap hh) u6 started Zb Tryz.func3
  (ChangeSpec.witness_shaped (enc:=enc) (C:=Tryz.checked) (os:=os) (X:=fun w _=>laidMetH Tryz.prog laidT w) false (World.doorLaid Tryz.prog 86 os) #[.int .u8 0,.int .u8 0,.int .u8 0,.slice none 0 0] 8 rfl (World.shaped_of_RefB Zb Zb) Zb Zb Zb (ydJ os _)) ?_
 intro W base args ds gs before DC hW _ _ hL _
 have BK: ∀(j:Nat) t v,Tryz.f3.params[j]?=some t->args[j]?=some v->Value.okWide Tryz.prog W .any base t v:=DC
 have Pd:=hW
 obtain ⟨p,q,A9,hV,rfl,Rc,Q3⟩:=hW
 have hA:DataW.TrodAll enc Tryz.prog W 0 (fun _=>true) true Tryz.f3.params.toList args.toList ds p:=A9
 rw [Tryz.params3] at hA BK
 obtain ⟨v0,vs0,d0,ds0,p0,q0,Ml,rfl,rfl,h0,r0⟩:=trodAll_cons hA
 obtain ⟨v1,vs1,d1,ds1,p1,q1,rfl,rfl,rfl,h1,r1⟩:=trodAll_cons r0
 obtain ⟨v2,vs2,d2,ds2,p2,q2,rfl,rfl,rfl,h2,r2⟩:=trodAll_cons r1
 obtain ⟨v3,vs3,d3,ds3,p3,q3,rfl,rfl,rfl,h3,r3⟩:=trodAll_cons r2
 obtain ⟨rfl,rfl,rfl⟩:=trodAll_nil r3
 obtain rfl:args=#[v0,v1,v2,v3]:=by cases args;simp_all
 obtain ⟨rfl,rfl⟩:=trodVars_none hV
 obtain ⟨a0,rfl,rfl,rfl,w0⟩:=open_int Tryz.underlying5 (BK 0 5 v0 rfl rfl) h0
 obtain ⟨x0,rfl,b0⟩:=gH w0
 obtain ⟨a1,rfl,rfl,rfl,w1⟩:=open_int Tryz.underlying5 (BK 1 5 v1 rfl rfl) h1
 obtain ⟨x1,rfl,b1⟩:=gH w1
 obtain ⟨a2,rfl,rfl,rfl,w2⟩:=open_int Tryz.underlying5 (BK 2 5 v2 rfl rfl) h2
 obtain ⟨x2,rfl,b2⟩:=gH w2
 obtain ⟨l3,b3⟩:=qI (BK 3 22 v3 rfl rfl) h3
 have hT:=vG hL
 clear A9 DC
 refine (yea W hT x0 x1 x2 Za Za Za v3 l3 b3).mono fun e W' h=>?_
 obtain ⟨he,hb⟩:=h
 subst he
 exact ⟨_,rfl,yaU Pd rfl rfl rfl rfl yaW sW rfl Tryz.underlying4 hb⟩
def jf0:(Rows.wholeCountsRow.wf (OpenSpec.ofChange Rows.wholeCountsSpec))=true:=by kernel_rfl
def jf1:(laidOutB pinned.checked.prog)=true:=by kernel_rfl
def jf2:(mapsRowed pinned.checked.prog)=true:=by kernel_rfl
def jf3:(Tryz.f3.params.all (pinned.checked.prog.readableRec ·))=true:=by kernel_rfl
def jf4:(namedTie pinned.checked.prog Rows.wholeCountsRow.named Rows.wholeCountsSpec.vars)=true:=by kernel_rfl
def jf5:((Rows.wholeCountsRow.stops==[]))=true:=by kernel_rfl
def jf6:((pinned.checked.prog.stops==[]))=true:=by kernel_rfl
def jf7:((Rows.wholeCountsRow.knobs==[]))=true:=by kernel_rfl
def jf8:((pinned.checked.prog.stopKnobs==[]))=true:=by kernel_rfl
def jf9:((Rows.wholeCountsRow.inPlace==pinned.checked.prog.inPlace 3))=true:=by kernel_rfl
def ybM:((Rows.wholeCountsRow.unfollowed==pinned.checked.prog.unfollowed 3))=true:=by kernel_rfl
def ybL:((Rows.wholeCountsRow.recurses==pinned.checked.prog.recurses 3))=true:=by kernel_rfl
def ybK:((Rows.wholeCountsRow.named==pinned.checked.prog.varsNamed 3))=true:=by kernel_rfl
def ybJ:((Rows.wholeCountsRow.maps==(Tryz.f3.params.toList++Rows.wholeCountsSpec.plain.varTypes pinned.checked.prog).any (pinned.checked.prog.mapsRec ·)))=true:=by kernel_rfl
def ybI:((Rows.wholeCountsRow.ifaces==(Tryz.f3.params.toList++Rows.wholeCountsSpec.plain.varTypes pinned.checked.prog).any (pinned.checked.prog.ifacesRec ·)))=true:=by kernel_rfl
def ybH:((Rows.wholeCountsRow.mapsOut==pinned.checked.prog.mapsAmong Tryz.f3.resultTypes.toList))=true:=by kernel_rfl
def ybG:((Rows.wholeCountsRow.loops==(Tryz.f3.params.toList++Rows.wholeCountsSpec.plain.varTypes pinned.checked.prog).any (pinned.checked.prog.loopsFrom ·)))=true:=by kernel_rfl
def ybF:((Rows.wholeCountsRow.wideKeys==(Tryz.f3.params.toList++Rows.wholeCountsSpec.plain.varTypes pinned.checked.prog++Tryz.f3.resultTypes.toList).any (pinned.checked.prog.wideKeysFrom ·)))=true:=by kernel_rfl
def ybE:(Rows.wholeCountsSpec.vars.all (pinned.checked.prog.varReadable ·))=true:=by kernel_rfl
def ybD:(Tryz.f3.resultTypes.all (fun t=>pinned.checked.prog.readableRec t&&decide (t<pinned.checked.prog.types.size)))=true:=by kernel_rfl
def ybC:((Rows.wholeCountsRow.ifacesOut==Tryz.f3.resultTypes.toList.any (pinned.checked.prog.ifacesRec ·)))=true:=by kernel_rfl
def ybB:((Rows.wholeCountsRow.loopsOut==Tryz.f3.resultTypes.toList.any (pinned.checked.prog.loopsFrom ·)))=true:=by kernel_rfl
def ybA:((Rows.wholeCountsRow.plainKeys==pinned.checked.prog.plainKeys))=true:=by kernel_rfl
def ybz:(Rows.wholeCountsRow.shortTexts.isNone)=true:=by kernel_rfl
def yby:(pinned.checked.prog.stopsHeard)=true:=by kernel_rfl
def ybx:(pinned.checked.prog.mayEnter)=true:=by kernel_rfl
def ybw:((Rows.wholeCountsRow.lifted==pinned.checked.prog.liftsFinal))=true:=by kernel_rfl
def ybv:((pinned.checked.prog.make==some Rows.wholeCountsRow.make))=true:=by kernel_rfl
def ybu:((Rows.wholeCountsRow.kinds==(if Rows.wholeCountsRow.domain.isEmpty then [] else Tryz.f3.params.toList.map fun t=>match pinned.checked.prog.underlying t with|some (.int k)=>some k|_=>none)))=true:=by kernel_rfl
def ybt:((Rows.wholeCountsRow.pinned==Rows.wholeCountsRow.pinnedBy))=true:=by kernel_rfl
def ybs:((Rows.wholeCountsRow.veiled==(Tryz.f3.params.toList++Rows.wholeCountsSpec.plain.varTypes pinned.checked.prog++Tryz.f3.resultTypes.toList).any (pinned.checked.prog.veiledRec ·)))=true:=by kernel_rfl
def ybr:(Rows.wholeCountsRow.veiledFits pinned.checked.prog Tryz.f3.params.toList (Tryz.f3.params.toList++Rows.wholeCountsSpec.plain.varTypes pinned.checked.prog++Tryz.f3.resultTypes.toList))=true:=by kernel_rfl
def jf:joinedFacts pinned.checked.prog 3 Tryz.f3 Rows.wholeCountsSpec Rows.wholeCountsRow=true:=by
 simp only [joinedFacts,Bool.and_eq_true]
 exact ⟨⟨⟨⟨⟨⟨⟨⟨⟨⟨⟨⟨⟨⟨⟨⟨⟨⟨⟨⟨⟨⟨⟨⟨⟨⟨⟨⟨⟨⟨⟨jf0,jf1⟩,jf2⟩,jf3⟩,jf4⟩,jf5⟩,jf6⟩,jf7⟩,jf8⟩,jf9⟩,ybM⟩,ybL⟩,ybK⟩,ybJ⟩,ybI⟩,ybH⟩,ybG⟩,ybF⟩,ybE⟩,ybD⟩,ybC⟩,ybB⟩,ybA⟩,ybz⟩,yby⟩,ybx⟩,ybw⟩,ybv⟩,ybu⟩,ybt⟩,ybs⟩,ybr⟩
theorem row_holds:Rows.WholeCountsSaid:=
 OpenClaim.holds_of_wide 3 Tryz.f3 rfl rfl rfl rfl rfl rfl rfl ⟨rfl,rfl,rfl,rfl,rfl⟩ rfl rfl rfl rfl rfl Zb Tryz.func3 jf
  (of_decide_eq_true Zb) (by unfold Func.isWrapper;first|(rw [if_pos (by decide+kernel)];kernel_rfl)|(rw [if_neg (by decide+kernel)];exact ⟨rfl,rfl⟩))
  (fun os started H enc _=>yaF os started H enc)
theorem proved_Wld:Rows.WholeCountsCardSaid:=
 Claim7.holds_tied_plain_at .later [] [.data, .data, .data, .sentinel, .sentinel, .listed, .data] true (true, "3979878c5241f9026b0017a29b5d1fdd26fb44874d1d3b5ff54e50b9af772118") true
  row_holds (fun _ h=>by cases h) Zb (fun _ h=>by cases h) wholeCounts_row_tie rfl ⟨rfl,rfl⟩ Zb rfl
  (fun f fn hf CU=>by
   obtain rfl : f = 3 := Option.some.inj ((show Tryz.prog.funcNamed "rabbet/rabbettop.WholeCounts" = some 3 by kernel_rfl).symm.trans hf) |>.symm
   obtain rfl:fn=Tryz.f3:=(Option.some.inj (Tryz.func3.symm.trans CU)).symm
   exact ⟨by kernel_rfl,fun j t ht=>by
    rw [Tryz.params3] at ht
    have hm:t∈[5,5,5,22]:=by simpa using Array.mem_of_getElem? ht
    have xw:([5,5,5,22].all fun u=>!Tryz.prog.wantsStandIn u)=true:=by kernel_rfl
    exact (show Tryz.prog.wantsStandIn t=false by simpa using List.all_eq_true.1 xw t hm)⟩)
  Zb
#print axioms proved_Wld
end Go.Proofs.YtjmfoeajhiimnaaGreatDoor.wholeCounts
