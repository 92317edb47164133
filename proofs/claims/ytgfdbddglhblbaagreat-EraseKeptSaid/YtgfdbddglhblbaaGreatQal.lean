/- A part of the proof of what is stated of the erasing of a mirror. -/
import Derived.Test.YtgfdbddglhblbaaGreatRows
import Derived.JoinedCond
import Derived.KernelRfl
set_option maxHeartbeats 64000000
namespace Go.Proofs.YtgfdbddglhblbaaGreat
theorem Dj {P:Program}{f:FuncId}{fn:Func}{s:ChangeSpec}{c:OpenClaim}(h1:P.mayEnter=true)(h2:P.stopsHeard=true)(h3:laidOutB P=true)(h4:mapsRowed P=true)(hl:(c.lifted==P.liftsFinal)=true)(hk:(P.make==some c.make)=true)(hp:(c.plainKeys==P.plainKeys)=true)(h5:(c.inPlace==P.inPlace f)=true)(h6:(c.unfollowed==P.unfollowed f)=true)(h7:(c.recurses==P.recurses f)=true)(h8:(c.named==P.varsNamed f)=true)(rest:(c.wf (OpenSpec.ofChange s)&&fn.params.all (P.readableRec ·)&&namedTie P c.named s.vars&&(c.stops==[])&&(P.stops==[])&&(c.knobs==[])&&(P.stopKnobs==[])&&(c.maps==(fn.params.toList++s.plain.varTypes P).any (P.mapsRec ·))&&(c.ifaces==(fn.params.toList++s.plain.varTypes P).any (P.ifacesRec ·))&&(c.mapsOut==P.mapsAmong fn.resultTypes.toList)&&(c.loops==(fn.params.toList++s.plain.varTypes P).any (P.loopsFrom ·))&&(c.wideKeys==(fn.params.toList++s.plain.varTypes P++fn.resultTypes.toList).any (P.wideKeysFrom ·))&&s.vars.all (P.varReadable ·)&&fn.resultTypes.all (fun t=>P.readableRec t&&decide (t<P.types.size))&&(c.ifacesOut==fn.resultTypes.toList.any (P.ifacesRec ·))&&(c.loopsOut==fn.resultTypes.toList.any (P.loopsFrom ·))&&c.shortTexts.isNone&&(c.kinds==(if c.domain.isEmpty then[] else fn.params.toList.map fun t=>match P.underlying t with|some (.int k)=>some k|_=>none))&&(c.pinned==c.pinnedBy)&&(c.veiled==(fn.params.toList++s.plain.varTypes P++fn.resultTypes.toList).any (P.veiledRec ·))&&c.veiledFits P fn.params.toList (fn.params.toList++s.plain.varTypes P++fn.resultTypes.toList))=true):joinedFacts P f fn s c=true:=by unfold joinedFacts;simp only[h1,h2,h3,h4,hl,hk,hp,h5,h6,h7,h8,Bool.and_true];exact rest
theorem mayEnter:Tryz.prog.mayEnter=true:=by kernel_rfl
theorem liftsFinal:Tryz.prog.liftsFinal=Rows.eraseKeptRow.lifted:=by kernel_rfl
theorem LF:Tryz.prog.make=some Rows.eraseKeptRow.make:=by kernel_rfl
theorem stopsHeard:Tryz.prog.stopsHeard=true:=by kernel_rfl
theorem Bh:laidOutB Tryz.prog=true:=by kernel_rfl
theorem Iu:mapsRowed Tryz.prog=true:=by kernel_rfl
theorem ML:Tryz.prog.plainKeys=Rows.eraseKeptRow.plainKeys:=by kernel_rfl
end Go.Proofs.YtgfdbddglhblbaaGreat
