/- Texts that the proof needs, joined. -/
import Derived.Test.YtennbinbffdimaaGreatRows
import Derived.WalkKit
import Derived.ProofKit
import Derived.Test.YtennbinbffdimaaGreatProg
import Derived.Test.YtennbinbffdimaaGreatPk1
set_option maxRecDepth 100000
namespace Go.Proofs.YtennbinbffdimaaGreat
open Go Go.Vc
section
open Go
theorem Eu:laidOutB Tryz.prog=true:=κ
theorem AQ:mapsRowed Tryz.prog=true:=κ
theorem AR:(Tryz.prog.stops==[])=true:=κ
theorem AS:(Tryz.prog.stopKnobs==[])=true:=κ
theorem AT:Tryz.prog.stopsHeard=true:=κ
theorem I4:Tryz.prog.mayEnter=true:=κ
theorem AU:Tryz.prog.liftsFinal=Rows.sizePeersRow.lifted:=κ
theorem AV:Tryz.prog.plainKeys=Rows.sizePeersRow.plainKeys:=κ
theorem Ev:(Tryz.prog.make==some Rows.sizePeersRow.make)=true:=κ
end
section
open Go
theorem vM{P:Program}{f:FuncId}{fn:Func}{s:ChangeSpec}{c:OpenClaim}(q:c.wf (OpenSpec.ofChange s)=true)(A:laidOutB P=true)(B:mapsRowed P=true)(E:fn.params.all (P.readableRec ·)=true)(H:namedTie P c.named s.vars=true)
 (I:(c.stops==[])=true)(J:(P.stops==[])=true)(M:(c.knobs==[])=true)(O:(P.stopKnobs==[])=true)(U:(c.inPlace==P.inPlace f)=true)(W:(c.unfollowed==P.unfollowed f)=true)(Z:(c.recurses==P.recurses f)=true)(ab:(c.named==P.varsNamed f)=true)
 (ac:(c.maps==(fn.params.toList++s.plain.varTypes P).any (P.mapsRec ·))=true)(ad:(c.ifaces==(fn.params.toList++s.plain.varTypes P).any (P.ifacesRec ·))=true)(ae:(c.mapsOut==P.mapsAmong fn.resultTypes.toList)=true)
 (al:(c.loops==(fn.params.toList++s.plain.varTypes P).any (P.loopsFrom ·))=true)(am:(c.wideKeys==(fn.params.toList++s.plain.varTypes P++fn.resultTypes.toList).any (P.wideKeysFrom ·))=true)
 (ao:s.vars.all (P.varReadable ·)=true)(ap:fn.resultTypes.all (λt=>P.readableRec t&&decide (t<P.types.size))=true)(ar:(c.ifacesOut==fn.resultTypes.toList.any (P.ifacesRec ·))=true)(aw:(c.loopsOut==fn.resultTypes.toList.any (P.loopsFrom ·))=true)(aE:(c.plainKeys==P.plainKeys)=true)(a0:c.shortTexts.isNone=true)(a1:P.stopsHeard=true)(a2:P.mayEnter=true)(a3:(c.lifted==P.liftsFinal)=true)(a4:(P.make==some c.make)=true)
 (a5:(c.kinds==(if c.domain.isEmpty then[]else fn.params.toList.map λt=>match P.underlying t with|some (.int k)=>some k|_=>none))=true)(a6:(c.pinned==c.pinnedBy)=true)(a7:(c.veiled==(fn.params.toList++s.plain.varTypes P++fn.resultTypes.toList).any (P.veiledRec ·))=true)
 (a8:c.veiledFits P fn.params.toList (fn.params.toList++s.plain.varTypes P++fn.resultTypes.toList)=true):joinedFacts P f fn s c=true:=by
 unfold joinedFacts;simp only[Bool.and_eq_true]
 repeat' apply And.intro
 all_goals assumption
end
end Go.Proofs.YtennbinbffdimaaGreat
