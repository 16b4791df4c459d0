/- Closed facts -/
import Derived.Test.YtmaibfgcngmjhaaGreatRows
import Derived.WalkKit
import Derived.ProofKit
import Derived.OpenShut
import Derived.JoinedCond
import Derived.Test.YtmaibfgcngmjhaaGreatZeCD
set_option linter.unusedVariables false
set_option linter.unusedSimpArgs false
section
set_option maxRecDepth 100000
namespace Go.Proofs.YtmaibfgcngmjhaaGreat.statespaceExplore
open Go Go.ChangeShapes Go.WideShapes Go.ChangeAt Go.RowKit
def k0:Zf:=fun P f fn s c=>c.wf (OpenSpec.ofChange s)
theorem fact0:Kf k0=true:=by kernel_rfl
def k1:Zf:=fun P f fn s c=>laidOutB P
theorem fact1:Kf k1=true:=by kernel_rfl
def k2:Zf:=fun P f fn s c=>mapsRowed P
theorem fact2:Kf k2=true:=by kernel_rfl
def k3:Zf:=fun P f fn s c=>fn.params.all (P.readableRec ·)
theorem fact3:Kf k3=true:=by kernel_rfl
def k4:Zf:=fun P f fn s c=>namedTie P c.named s.vars
theorem fact4:Kf k4=true:=by kernel_rfl
def k5:Zf:=fun P f fn s c=>(c.stops==[])
theorem fact5:Kf k5=true:=by kernel_rfl
def k6:Zf:=fun P f fn s c=>(P.stops==[])
theorem fact6:Kf k6=true:=by kernel_rfl
def k7:Zf:=fun P f fn s c=>(c.knobs==[])
theorem fact7:Kf k7=true:=by kernel_rfl
def k8:Zf:=fun P f fn s c=>(P.stopKnobs==[])
theorem fact8:Kf k8=true:=by kernel_rfl
def k9:Zf:=fun P f fn s c=>(c.inPlace==P.inPlace f)
theorem fact9:Kf k9=true:=by kernel_rfl
end Go.Proofs.YtmaibfgcngmjhaaGreat.statespaceExplore
end
