/- The closed facts that the row countingFindUptoRow asks of the program, one theorem for each (part B). -/
import Derived.Test.YtjhccdolbhjmaaaGreatRows
import Derived.WalkKit
import Derived.ProofKit
import Derived.OpenShut
import Derived.JoinedCond
section
set_option linter.unusedVariables false
set_option maxRecDepth 100000
namespace Go.Proofs.YtjhccdolbhjmaaaGreat.countingFind
open Go Go.ChangeShapes Go.WideShapes Go.ChangeAt Go.RowKit
theorem fact10 : (fun (P : Program) (f : FuncId) (fn : Func) (s : ChangeSpec) (c : OpenClaim) => (((c.unfollowed == P.unfollowed f)) : Bool)) Tryz.prog 6 Tryz.f6 (Rows.OpenSpec.upto Rows.countingFindSpec).bare Rows.countingFindUptoRow = true := by kernel_rfl
theorem fact11 : (fun (P : Program) (f : FuncId) (fn : Func) (s : ChangeSpec) (c : OpenClaim) => (((c.recurses == P.recurses f)) : Bool)) Tryz.prog 6 Tryz.f6 (Rows.OpenSpec.upto Rows.countingFindSpec).bare Rows.countingFindUptoRow = true := by kernel_rfl
theorem fact12 : (fun (P : Program) (f : FuncId) (fn : Func) (s : ChangeSpec) (c : OpenClaim) => (((c.named == P.varsNamed f)) : Bool)) Tryz.prog 6 Tryz.f6 (Rows.OpenSpec.upto Rows.countingFindSpec).bare Rows.countingFindUptoRow = true := by kernel_rfl
end Go.Proofs.YtjhccdolbhjmaaaGreat.countingFind
end
