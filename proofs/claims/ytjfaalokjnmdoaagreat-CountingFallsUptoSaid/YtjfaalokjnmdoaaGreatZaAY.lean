/- The closed facts that the row countingFallsUptoRow asks of t -/
import Derived.Test.YtjfaalokjnmdoaaGreatRows
import Derived.WalkKit
import Derived.ProofKit
import Derived.OpenShut
import Derived.JoinedCond
set_option linter.unusedVariables false
set_option linter.unusedSimpArgs false
section
set_option maxRecDepth 100000
namespace Go.Proofs.YtjfaalokjnmdoaaGreat.countingFalls
open Go Go.ChangeShapes Go.WideShapes Go.ChangeAt Go.RowKit
theorem fact0:(fun (P:Program) (f:FuncId) (fn:Func) (s:ChangeSpec) (c:OpenClaim)=>((c.wf (OpenSpec.ofChange s)):Bool)) Tryz.prog 3 Tryz.f3 (Rows.OpenSpec.upto Rows.countingFallsSpec).bare Rows.countingFallsUptoRow=true:=by kernel_rfl
theorem fact1:(fun (P:Program) (f:FuncId) (fn:Func) (s:ChangeSpec) (c:OpenClaim)=>((laidOutB P):Bool)) Tryz.prog 3 Tryz.f3 (Rows.OpenSpec.upto Rows.countingFallsSpec).bare Rows.countingFallsUptoRow=true:=by kernel_rfl
theorem fact2:(fun (P:Program) (f:FuncId) (fn:Func) (s:ChangeSpec) (c:OpenClaim)=>((mapsRowed P):Bool)) Tryz.prog 3 Tryz.f3 (Rows.OpenSpec.upto Rows.countingFallsSpec).bare Rows.countingFallsUptoRow=true:=by kernel_rfl
theorem fact3:(fun (P:Program) (f:FuncId) (fn:Func) (s:ChangeSpec) (c:OpenClaim)=>((fn.params.all (P.readableRec ·)):Bool)) Tryz.prog 3 Tryz.f3 (Rows.OpenSpec.upto Rows.countingFallsSpec).bare Rows.countingFallsUptoRow=true:=by kernel_rfl
theorem fact4:(fun (P:Program) (f:FuncId) (fn:Func) (s:ChangeSpec) (c:OpenClaim)=>((namedTie P c.named s.vars):Bool)) Tryz.prog 3 Tryz.f3 (Rows.OpenSpec.upto Rows.countingFallsSpec).bare Rows.countingFallsUptoRow=true:=by kernel_rfl
theorem fact5:(fun (P:Program) (f:FuncId) (fn:Func) (s:ChangeSpec) (c:OpenClaim)=>(((c.stops==[])):Bool)) Tryz.prog 3 Tryz.f3 (Rows.OpenSpec.upto Rows.countingFallsSpec).bare Rows.countingFallsUptoRow=true:=by kernel_rfl
theorem fact6:(fun (P:Program) (f:FuncId) (fn:Func) (s:ChangeSpec) (c:OpenClaim)=>(((P.stops==[])):Bool)) Tryz.prog 3 Tryz.f3 (Rows.OpenSpec.upto Rows.countingFallsSpec).bare Rows.countingFallsUptoRow=true:=by kernel_rfl
theorem fact7:(fun (P:Program) (f:FuncId) (fn:Func) (s:ChangeSpec) (c:OpenClaim)=>(((c.knobs==[])):Bool)) Tryz.prog 3 Tryz.f3 (Rows.OpenSpec.upto Rows.countingFallsSpec).bare Rows.countingFallsUptoRow=true:=by kernel_rfl
theorem fact8:(fun (P:Program) (f:FuncId) (fn:Func) (s:ChangeSpec) (c:OpenClaim)=>(((P.stopKnobs==[])):Bool)) Tryz.prog 3 Tryz.f3 (Rows.OpenSpec.upto Rows.countingFallsSpec).bare Rows.countingFallsUptoRow=true:=by kernel_rfl
theorem fact9:(fun (P:Program) (f:FuncId) (fn:Func) (s:ChangeSpec) (c:OpenClaim)=>(((c.inPlace==P.inPlace f)):Bool)) Tryz.prog 3 Tryz.f3 (Rows.OpenSpec.upto Rows.countingFallsSpec).bare Rows.countingFallsUptoRow=true:=by kernel_rfl
end Go.Proofs.YtjfaalokjnmdoaaGreat.countingFalls
end
