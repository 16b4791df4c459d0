/- The closed facts that the row countingFallsUptoRow asks of t -/
import Derived.Test.YtjfaalokjnmdoaaGreatRows
import Derived.WalkKit
import Derived.ProofKit
import Derived.OpenShut
import Derived.JoinedCond
set_option linter.unusedVariables false
set_option linter.unusedSimpArgs false
section
set_option maxRecDepth 100000
namespace Go.Proofs.YtjfaalokjnmdoaaGreat.countingFalls
open Go Go.ChangeShapes Go.WideShapes Go.ChangeAt Go.RowKit
theorem fact25:(fun (P:Program) (f:FuncId) (fn:Func) (s:ChangeSpec) (c:OpenClaim)=>((P.mayEnter):Bool)) Tryz.prog 3 Tryz.f3 (Rows.OpenSpec.upto Rows.countingFallsSpec).bare Rows.countingFallsUptoRow=true:=by kernel_rfl
theorem fact26:(fun (P:Program) (f:FuncId) (fn:Func) (s:ChangeSpec) (c:OpenClaim)=>(((c.lifted==P.liftsFinal)):Bool)) Tryz.prog 3 Tryz.f3 (Rows.OpenSpec.upto Rows.countingFallsSpec).bare Rows.countingFallsUptoRow=true:=by kernel_rfl
theorem fact27:(fun (P:Program) (f:FuncId) (fn:Func) (s:ChangeSpec) (c:OpenClaim)=>(((P.make==some c.make)):Bool)) Tryz.prog 3 Tryz.f3 (Rows.OpenSpec.upto Rows.countingFallsSpec).bare Rows.countingFallsUptoRow=true:=by kernel_rfl
theorem fact28:(fun (P:Program) (f:FuncId) (fn:Func) (s:ChangeSpec) (c:OpenClaim)=>(((c.domain.isEmpty&&(c.kinds==[]))):Bool)) Tryz.prog 3 Tryz.f3 (Rows.OpenSpec.upto Rows.countingFallsSpec).bare Rows.countingFallsUptoRow=true:=by kernel_rfl
theorem fact29:(fun (P:Program) (f:FuncId) (fn:Func) (s:ChangeSpec) (c:OpenClaim)=>(((c.pinned==c.pinnedBy)):Bool)) Tryz.prog 3 Tryz.f3 (Rows.OpenSpec.upto Rows.countingFallsSpec).bare Rows.countingFallsUptoRow=true:=by kernel_rfl
theorem fact30:(fun (P:Program) (f:FuncId) (fn:Func) (s:ChangeSpec) (c:OpenClaim)=>(((c.veiled==(fn.params.toList++s.plain.varTypes P++fn.resultTypes.toList).any (P.veiledRec ·))):Bool)) Tryz.prog 3 Tryz.f3 (Rows.OpenSpec.upto Rows.countingFallsSpec).bare Rows.countingFallsUptoRow=true:=by kernel_rfl
theorem fact31:(fun (P:Program) (f:FuncId) (fn:Func) (s:ChangeSpec) (c:OpenClaim)=>((c.veiledFits P fn.params.toList (fn.params.toList++s.plain.varTypes P++fn.resultTypes.toList)):Bool)) Tryz.prog 3 Tryz.f3 (Rows.OpenSpec.upto Rows.countingFallsSpec).bare Rows.countingFallsUptoRow=true:=by kernel_rfl
end Go.Proofs.YtjfaalokjnmdoaaGreat.countingFalls
end
