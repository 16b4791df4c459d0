/- The form of the closed facts -/
import Derived.Test.YtmaibfgcngmjhaaGreatRows
import Derived.WalkKit
import Derived.ProofKit
import Derived.OpenShut
import Derived.JoinedCond
set_option linter.unusedVariables false
set_option linter.unusedSimpArgs false
section
set_option maxRecDepth 100000
namespace Go.Proofs.YtmaibfgcngmjhaaGreat.statespaceExplore
open Go Go.ChangeShapes Go.WideShapes Go.ChangeAt Go.RowKit
abbrev Zf:=Program→FuncId→Func→ChangeSpec→OpenClaim→Bool
noncomputable abbrev Kf (b:Zf):Bool:=b Tryz.prog 3 Tryz.f3 (Rows.OpenSpec.upto Rows.statespaceExploreSpec).bare Rows.statespaceExploreUptoRow
end Go.Proofs.YtmaibfgcngmjhaaGreat.statespaceExplore
end
