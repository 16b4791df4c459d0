/- Closed facts -/
import Derived.Test.YtmaibfgcngmjhaaGreatRows
import Derived.WalkKit
import Derived.ProofKit
import Derived.OpenShut
import Derived.JoinedCond
import Derived.Test.YtmaibfgcngmjhaaGreatZeCD
set_option linter.unusedVariables false
set_option linter.unusedSimpArgs false
section
set_option maxRecDepth 100000
namespace Go.Proofs.YtmaibfgcngmjhaaGreat.statespaceExplore
open Go Go.ChangeShapes Go.WideShapes Go.ChangeAt Go.RowKit
def k10:Zf:=fun P f fn s c=>(c.unfollowed==P.unfollowed f)
theorem fact10:Kf k10=true:=by kernel_rfl
def k11:Zf:=fun P f fn s c=>(c.recurses==P.recurses f)
theorem fact11:Kf k11=true:=by kernel_rfl
def k12:Zf:=fun P f fn s c=>(c.named==P.varsNamed f)
theorem fact12:Kf k12=true:=by kernel_rfl
end Go.Proofs.YtmaibfgcngmjhaaGreat.statespaceExplore
end
