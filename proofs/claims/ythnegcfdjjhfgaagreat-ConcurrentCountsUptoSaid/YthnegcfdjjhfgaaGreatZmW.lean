/- The closed facts that the row concurrentCountsUptoRow asks o -/
import Derived.Test.YthnegcfdjjhfgaaGreatRows
import Derived.WalkKit
import Derived.ProofKit
import Derived.OpenShut
import Derived.JoinedCond
set_option linter.unusedVariables false
set_option linter.unusedSimpArgs false
section
set_option maxRecDepth 100000
namespace Go.Proofs.YthnegcfdjjhfgaaGreat.concurrentCounts
open Go Go.ChangeShapes Go.WideShapes Go.ChangeAt Go.RowKit
theorem fact10 : (fun (P : Program) (f : FuncId) (fn : Func) (s : ChangeSpec) (c : OpenClaim) => (((c.unfollowed == P.unfollowed f)) : Bool)) Tryz.prog 5 Tryz.f5 (Rows.OpenSpec.upto Rows.concurrentCountsSpec).bare Rows.concurrentCountsUptoRow = true := by kernel_rfl
theorem fact11 : (fun (P : Program) (f : FuncId) (fn : Func) (s : ChangeSpec) (c : OpenClaim) => (((c.recurses == P.recurses f)) : Bool)) Tryz.prog 5 Tryz.f5 (Rows.OpenSpec.upto Rows.concurrentCountsSpec).bare Rows.concurrentCountsUptoRow = true := by kernel_rfl
theorem fact12 : (fun (P : Program) (f : FuncId) (fn : Func) (s : ChangeSpec) (c : OpenClaim) => (((c.named == P.varsNamed f)) : Bool)) Tryz.prog 5 Tryz.f5 (Rows.OpenSpec.upto Rows.concurrentCountsSpec).bare Rows.concurrentCountsUptoRow = true := by kernel_rfl
end Go.Proofs.YthnegcfdjjhfgaaGreat.concurrentCounts
end
