/- The readings of a draft of layer 26. · The readings of draft -/
import Derived.Test.YtpdanmkcpjdmjaaGreatZkAZ
import Derived.Test.YtpdanmkcpjdmjaaGreatZkAW
import Derived.OpenShut
set_option linter.unusedVariables false
set_option linter.unusedSimpArgs false
section
set_option maxRecDepth 100000
set_option maxHeartbeats 4000000
open Go Go.Proofs Tryz
namespace Go.Abs
section
variable {H:Type} {enc:TypeId × Value→H} {w:World} {base:Nat} {spare:Nat→Bool} {held:Bool} {bulk:DataW H→Nat} {B:Nat}
theorem ae0 (hB:Bulk bulk):∀ n,Opens enc prog w base spare held bulk B n 37 Dr26.c (λ_=>True)
 | 0=>Opens.zero
 | n+1=>(nS hB underlying37 (by kernel_rfl) (cC (YD hB n) (cC (YD hB n) (cC (abF hB n) (cC (ae1 hB n) (kY)))))).map (λp=>⟨p.1,p.2.1,p.2.2.1,p.2.2.2.1⟩) (λp=>by simp [Dr26.c]) (λ_ _=>trivial)
end
section
variable {H:Type} {enc:TypeId × Value→H} {w:World} {base:Nat} {spare:Nat→Bool} {held:Bool} {bulk:DataW H→Nat} {B:Nat}
theorem abE (hB:Bulk bulk):∀ n,Opens enc prog w base spare held bulk B n 39 Dr27.c (λ_=>True)
 | 0=>Opens.zero
 | n+1=>(nS hB underlying39 (by kernel_rfl) (cC (ae0 hB n) (cC (abF hB n) (cC (W4 hB n) (kY))))).map (λp=>⟨p.1,p.2.1,p.2.2.1⟩) (λp=>by simp [Dr27.c]) (λ_ _=>trivial)
end
end Go.Abs
end
