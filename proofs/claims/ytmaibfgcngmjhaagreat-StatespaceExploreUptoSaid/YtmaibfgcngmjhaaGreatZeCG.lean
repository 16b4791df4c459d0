/- Closed facts -/
import Derived.Test.YtmaibfgcngmjhaaGreatRows
import Derived.WalkKit
import Derived.ProofKit
import Derived.OpenShut
import Derived.JoinedCond
import Derived.Test.YtmaibfgcngmjhaaGreatZeCD
set_option linter.unusedVariables false
set_option linter.unusedSimpArgs false
section
set_option maxRecDepth 100000
namespace Go.Proofs.YtmaibfgcngmjhaaGreat.statespaceExplore
open Go Go.ChangeShapes Go.WideShapes Go.ChangeAt Go.RowKit
def k13:Zf:=fun P f fn s c=>(c.maps==(fn.params.toList++s.plain.varTypes P).any (P.mapsRec ·))
theorem fact13:Kf k13=true:=by kernel_rfl
def k14:Zf:=fun P f fn s c=>(c.ifaces==(fn.params.toList++s.plain.varTypes P).any (P.ifacesRec ·))
theorem fact14:Kf k14=true:=by kernel_rfl
def k15:Zf:=fun P f fn s c=>(c.mapsOut==P.mapsAmong fn.resultTypes.toList)
theorem fact15:Kf k15=true:=by kernel_rfl
def k16:Zf:=fun P f fn s c=>(c.loops==(fn.params.toList++s.plain.varTypes P).any (P.loopsFrom ·))
theorem fact16:Kf k16=true:=by kernel_rfl
def k17:Zf:=fun P f fn s c=>(c.wideKeys==(fn.params.toList++s.plain.varTypes P++fn.resultTypes.toList).any (P.wideKeysFrom ·))
theorem fact17:Kf k17=true:=by kernel_rfl
def k18:Zf:=fun P f fn s c=>s.vars.all (P.varReadable ·)
theorem fact18:Kf k18=true:=by kernel_rfl
def k19:Zf:=fun P f fn s c=>fn.resultTypes.all (fun t=>P.readableRec t&&decide (t<P.types.size))
theorem fact19:Kf k19=true:=by kernel_rfl
def k20:Zf:=fun P f fn s c=>(c.ifacesOut==fn.resultTypes.toList.any (P.ifacesRec ·))
theorem fact20:Kf k20=true:=by kernel_rfl
def k21:Zf:=fun P f fn s c=>(c.loopsOut==fn.resultTypes.toList.any (P.loopsFrom ·))
theorem fact21:Kf k21=true:=by kernel_rfl
def k22:Zf:=fun P f fn s c=>(c.plainKeys==P.plainKeys)
theorem fact22:Kf k22=true:=by kernel_rfl
def k23:Zf:=fun P f fn s c=>c.shortTexts.isNone
theorem fact23:Kf k23=true:=by kernel_rfl
def k24:Zf:=fun P f fn s c=>P.stopsHeard
theorem fact24:Kf k24=true:=by kernel_rfl
end Go.Proofs.YtmaibfgcngmjhaaGreat.statespaceExplore
end
section
set_option maxRecDepth 100000
namespace Go.Proofs.YtmaibfgcngmjhaaGreat.statespaceExplore
open Go Go.ChangeShapes Go.WideShapes Go.ChangeAt Go.RowKit
def k25:Zf:=fun P f fn s c=>P.mayEnter
theorem fact25:Kf k25=true:=by kernel_rfl
def k26:Zf:=fun P f fn s c=>(c.lifted==P.liftsFinal)
theorem fact26:Kf k26=true:=by kernel_rfl
def k27:Zf:=fun P f fn s c=>(P.make==some c.make)
theorem fact27:Kf k27=true:=by kernel_rfl
def k28:Zf:=fun P f fn s c=>(c.domain.isEmpty&&(c.kinds==[]))
theorem fact28:Kf k28=true:=by kernel_rfl
def k29:Zf:=fun P f fn s c=>(c.pinned==c.pinnedBy)
theorem fact29:Kf k29=true:=by kernel_rfl
def k30:Zf:=fun P f fn s c=>(c.veiled==(fn.params.toList++s.plain.varTypes P++fn.resultTypes.toList).any (P.veiledRec ·))
theorem fact30:Kf k30=true:=by kernel_rfl
def k31:Zf:=fun P f fn s c=>c.veiledFits P fn.params.toList (fn.params.toList++s.plain.varTypes P++fn.resultTypes.toList)
theorem fact31:Kf k31=true:=by kernel_rfl
end Go.Proofs.YtmaibfgcngmjhaaGreat.statespaceExplore
end
