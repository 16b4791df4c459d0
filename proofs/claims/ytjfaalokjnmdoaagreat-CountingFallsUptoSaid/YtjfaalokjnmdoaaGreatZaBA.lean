/- The closed facts that the row countingFallsUptoRow asks of t -/
import Derived.Test.YtjfaalokjnmdoaaGreatRows
import Derived.WalkKit
import Derived.ProofKit
import Derived.OpenShut
import Derived.JoinedCond
set_option linter.unusedVariables false
set_option linter.unusedSimpArgs false
section
set_option maxRecDepth 100000
namespace Go.Proofs.YtjfaalokjnmdoaaGreat.countingFalls
open Go Go.ChangeShapes Go.WideShapes Go.ChangeAt Go.RowKit
theorem fact13:(fun (P:Program) (f:FuncId) (fn:Func) (s:ChangeSpec) (c:OpenClaim)=>(((c.maps==(fn.params.toList++s.plain.varTypes P).any (P.mapsRec ·))):Bool)) Tryz.prog 3 Tryz.f3 (Rows.OpenSpec.upto Rows.countingFallsSpec).bare Rows.countingFallsUptoRow=true:=by kernel_rfl
theorem fact14:(fun (P:Program) (f:FuncId) (fn:Func) (s:ChangeSpec) (c:OpenClaim)=>(((c.ifaces==(fn.params.toList++s.plain.varTypes P).any (P.ifacesRec ·))):Bool)) Tryz.prog 3 Tryz.f3 (Rows.OpenSpec.upto Rows.countingFallsSpec).bare Rows.countingFallsUptoRow=true:=by kernel_rfl
theorem fact15:(fun (P:Program) (f:FuncId) (fn:Func) (s:ChangeSpec) (c:OpenClaim)=>(((c.mapsOut==P.mapsAmong fn.resultTypes.toList)):Bool)) Tryz.prog 3 Tryz.f3 (Rows.OpenSpec.upto Rows.countingFallsSpec).bare Rows.countingFallsUptoRow=true:=by kernel_rfl
theorem fact16:(fun (P:Program) (f:FuncId) (fn:Func) (s:ChangeSpec) (c:OpenClaim)=>(((c.loops==(fn.params.toList++s.plain.varTypes P).any (P.loopsFrom ·))):Bool)) Tryz.prog 3 Tryz.f3 (Rows.OpenSpec.upto Rows.countingFallsSpec).bare Rows.countingFallsUptoRow=true:=by kernel_rfl
theorem fact17:(fun (P:Program) (f:FuncId) (fn:Func) (s:ChangeSpec) (c:OpenClaim)=>(((c.wideKeys==(fn.params.toList++s.plain.varTypes P++fn.resultTypes.toList).any (P.wideKeysFrom ·))):Bool)) Tryz.prog 3 Tryz.f3 (Rows.OpenSpec.upto Rows.countingFallsSpec).bare Rows.countingFallsUptoRow=true:=by kernel_rfl
theorem fact18:(fun (P:Program) (f:FuncId) (fn:Func) (s:ChangeSpec) (c:OpenClaim)=>((s.vars.all (P.varReadable ·)):Bool)) Tryz.prog 3 Tryz.f3 (Rows.OpenSpec.upto Rows.countingFallsSpec).bare Rows.countingFallsUptoRow=true:=by kernel_rfl
theorem fact19:(fun (P:Program) (f:FuncId) (fn:Func) (s:ChangeSpec) (c:OpenClaim)=>((fn.resultTypes.all (fun t=>P.readableRec t&&decide (t<P.types.size))):Bool)) Tryz.prog 3 Tryz.f3 (Rows.OpenSpec.upto Rows.countingFallsSpec).bare Rows.countingFallsUptoRow=true:=by kernel_rfl
theorem fact20:(fun (P:Program) (f:FuncId) (fn:Func) (s:ChangeSpec) (c:OpenClaim)=>(((c.ifacesOut==fn.resultTypes.toList.any (P.ifacesRec ·))):Bool)) Tryz.prog 3 Tryz.f3 (Rows.OpenSpec.upto Rows.countingFallsSpec).bare Rows.countingFallsUptoRow=true:=by kernel_rfl
theorem fact21:(fun (P:Program) (f:FuncId) (fn:Func) (s:ChangeSpec) (c:OpenClaim)=>(((c.loopsOut==fn.resultTypes.toList.any (P.loopsFrom ·))):Bool)) Tryz.prog 3 Tryz.f3 (Rows.OpenSpec.upto Rows.countingFallsSpec).bare Rows.countingFallsUptoRow=true:=by kernel_rfl
theorem fact22:(fun (P:Program) (f:FuncId) (fn:Func) (s:ChangeSpec) (c:OpenClaim)=>(((c.plainKeys==P.plainKeys)):Bool)) Tryz.prog 3 Tryz.f3 (Rows.OpenSpec.upto Rows.countingFallsSpec).bare Rows.countingFallsUptoRow=true:=by kernel_rfl
theorem fact23:(fun (P:Program) (f:FuncId) (fn:Func) (s:ChangeSpec) (c:OpenClaim)=>((c.shortTexts.isNone):Bool)) Tryz.prog 3 Tryz.f3 (Rows.OpenSpec.upto Rows.countingFallsSpec).bare Rows.countingFallsUptoRow=true:=by kernel_rfl
theorem fact24:(fun (P:Program) (f:FuncId) (fn:Func) (s:ChangeSpec) (c:OpenClaim)=>((P.stopsHeard):Bool)) Tryz.prog 3 Tryz.f3 (Rows.OpenSpec.upto Rows.countingFallsSpec).bare Rows.countingFallsUptoRow=true:=by kernel_rfl
end Go.Proofs.YtjfaalokjnmdoaaGreat.countingFalls
end
