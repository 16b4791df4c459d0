/- The closed facts that the row countingFallsUptoRow asks of t -/
import Derived.Test.YtjfaalokjnmdoaaGreatRows
import Derived.WalkKit
import Derived.ProofKit
import Derived.OpenShut
import Derived.JoinedCond
set_option linter.unusedVariables false
set_option linter.unusedSimpArgs false
section
set_option maxRecDepth 100000
namespace Go.Proofs.YtjfaalokjnmdoaaGreat.countingFalls
open Go Go.ChangeShapes Go.WideShapes Go.ChangeAt Go.RowKit
theorem fact10:(fun (P:Program) (f:FuncId) (fn:Func) (s:ChangeSpec) (c:OpenClaim)=>(((c.unfollowed==P.unfollowed f)):Bool)) Tryz.prog 3 Tryz.f3 (Rows.OpenSpec.upto Rows.countingFallsSpec).bare Rows.countingFallsUptoRow=true:=by kernel_rfl
theorem fact11:(fun (P:Program) (f:FuncId) (fn:Func) (s:ChangeSpec) (c:OpenClaim)=>(((c.recurses==P.recurses f)):Bool)) Tryz.prog 3 Tryz.f3 (Rows.OpenSpec.upto Rows.countingFallsSpec).bare Rows.countingFallsUptoRow=true:=by kernel_rfl
theorem fact12:(fun (P:Program) (f:FuncId) (fn:Func) (s:ChangeSpec) (c:OpenClaim)=>(((c.named==P.varsNamed f)):Bool)) Tryz.prog 3 Tryz.f3 (Rows.OpenSpec.upto Rows.countingFallsSpec).bare Rows.countingFallsUptoRow=true:=by kernel_rfl
end Go.Proofs.YtjfaalokjnmdoaaGreat.countingFalls
end
