/-
  A part of the proof of LeastErrors.
-/
import Derived.Test.YtdijpcoboooceaaGreatDoorVI
import Derived.Test.YtdijpcoboooceaaGreatDoorCards
import Derived.Test.YtdijpcoboooceaaGreatDoorTie
set_option linter.unusedVariables false
set_option linter.unusedSimpArgs false
set_option linter.defProp false
set_option linter.unusedSectionVars false
set_option maxRecDepth 100000
set_option maxHeartbeats 2000000
namespace Go.Proofs.YtdijpcoboooceaaGreatDoor
open Go.ChangeShapes Go.WideShapes Go.ChangeAt Go.RowKit Go.Deep
theorem andT{a b:Bool}(h:a=true)(k:b=true):(a&&b)=true:=by rw[h,k];rfl
theorem j_laid:laidOutB Tryz.pinned.checked.prog=true:=by kernel_rfl
theorem j_maps:mapsRowed Tryz.pinned.checked.prog=true:=by kernel_rfl
theorem j_stops:(Tryz.pinned.checked.prog.stops==[])=true:=by kernel_rfl
theorem j_knobs:(Tryz.pinned.checked.prog.stopKnobs==[])=true:=by kernel_rfl
theorem j_plain:(Rows.leastSetsRow.plainKeys==Tryz.pinned.checked.prog.plainKeys)=true:=by kernel_rfl
theorem j_heard:Tryz.pinned.checked.prog.stopsHeard=true:=by kernel_rfl
theorem j_enter:Tryz.pinned.checked.prog.mayEnter=true:=by kernel_rfl
theorem j_lift:(Rows.leastSetsRow.lifted==Tryz.pinned.checked.prog.liftsFinal)=true:=by kernel_rfl
theorem j_make:(Tryz.pinned.checked.prog.make==some Rows.leastSetsRow.make)=true:=by kernel_rfl
theorem j_looks:false=Tryz.pinned.checked.prog.looks []:=by kernel_rfl
theorem j_main:Tryz.pinned.checked.prog.mainIs=some (true,"8e0dc204cc4553e9d02e297ebf2b69412e363504b98707e598d0787df8fdd8cd".toList):=by kernel_rfl
theorem joined_of{f:FuncId}{fn:Func}{s:ChangeSpec}{c:OpenClaim}(h1:c.wf (OpenSpec.ofChange s)=true)(h4:fn.params.all (Tryz.pinned.checked.prog.readableRec ·)=true)(h5:namedTie Tryz.pinned.checked.prog c.named s.vars=true) (h6:(c.stops==[])=true) (h8:(c.knobs==[])=true) (h10:(c.inPlace==Tryz.pinned.checked.prog.inPlace f)=true) (h11:(c.unfollowed==Tryz.pinned.checked.prog.unfollowed f)=true) (h12:(c.recurses==Tryz.pinned.checked.prog.recurses f)=true) (h13:(c.named==Tryz.pinned.checked.prog.varsNamed f)=true) (h14:(c.maps==(fn.params.toList++s.plain.varTypes Tryz.pinned.checked.prog).any (Tryz.pinned.checked.prog.mapsRec ·))=true) (h15:(c.ifaces==(fn.params.toList++s.plain.varTypes Tryz.pinned.checked.prog).any (Tryz.pinned.checked.prog.ifacesRec ·))=true) (h16:(c.mapsOut==Tryz.pinned.checked.prog.mapsAmong fn.resultTypes.toList)=true) (h17:(c.loops==(fn.params.toList++s.plain.varTypes Tryz.pinned.checked.prog).any (Tryz.pinned.checked.prog.loopsFrom ·))=true) (h18:(c.wideKeys==(fn.params.toList++s.plain.varTypes Tryz.pinned.checked.prog++fn.resultTypes.toList).any (Tryz.pinned.checked.prog.wideKeysFrom ·))=true) (h19:s.vars.all (Tryz.pinned.checked.prog.varReadable ·)=true) (h20:fn.resultTypes.all (λt=>Tryz.pinned.checked.prog.readableRec t&&decide (t<Tryz.pinned.checked.prog.types.size))=true) (h21:(c.ifacesOut==fn.resultTypes.toList.any (Tryz.pinned.checked.prog.ifacesRec ·))=true) (h22:(c.loopsOut==fn.resultTypes.toList.any (Tryz.pinned.checked.prog.loopsFrom ·))=true) (h23:c.plainKeys=Rows.leastSetsRow.plainKeys) (h24:c.shortTexts.isNone=true) (h27:c.lifted=Rows.leastSetsRow.lifted) (h28:c.make=Rows.leastSetsRow.make) (h29:(c.kinds==(if c.domain.isEmpty then[]else fn.params.toList.map λt=>match Tryz.pinned.checked.prog.underlying t with|some (.int k)=>some k|_=>none))=true) (h30:(c.pinned==c.pinnedBy)=true) (h31:(c.veiled==(fn.params.toList++s.plain.varTypes Tryz.pinned.checked.prog++fn.resultTypes.toList).any (Tryz.pinned.checked.prog.veiledRec ·))=true) (h32:c.veiledFits Tryz.pinned.checked.prog fn.params.toList (fn.params.toList++s.plain.varTypes Tryz.pinned.checked.prog++fn.resultTypes.toList)=true): joinedFacts Tryz.pinned.checked.prog f fn s c=true:=by
 unfold joinedFacts;rw[h23,h27,h28];exact andT (andT (andT (andT (andT (andT (andT (andT (andT (andT (andT (andT (andT (andT (andT (andT (andT (andT (andT (andT (andT (andT (andT (andT (andT (andT (andT (andT (andT (andT (andT h1 j_laid) j_maps) h4) h5) h6) j_stops) h8) j_knobs) h10) h11) h12) h13) h14) h15) h16) h17) h18) h19) h20) h21) h22) j_plain) h24) j_heard) j_enter) j_lift) j_make) h29) h30) h31) h32
end Go.Proofs.YtdijpcoboooceaaGreatDoor
