/-
  NARROWER THAN 'FOR EVERY INPUT', by the rows' own cells (each row's printed sentence says how): CountingCheck: loops · CountingFind: loops.
  DERIVED. THE GIVEN ROWS OF THIS SEAT. 6 by the template 'for every input the law returns true; each argument reads behind the call as it read before'; 0 by the template 'total and deterministic' (their statements: YtjhccdolbhjmaaaGreatTotals.lean).
  GIVEN WITH THE SEED: the statements are not yours to turn. If you find one false, say at which input.
  Laid BY PROGRAM, IN A SANDBOX (cutbox-rows.mjs): the forced cells as the released guide's own fill.sh prints them over the translation 871c7d0998458a15… (all of the seat's roots in one cut). By AI agents, Wed Nov 11 2026. No macro, syntax, notation, axiom, sorry.
-/
import Derived.Test.YtjhccdolbhjmaaaGreatChecked
import GoSem.Claim
import GoSem.ClaimJoined
import GoSem.ClaimMapViews
import Derived.JoinedTies
import Derived.KernelRfl
namespace Go.Proofs.YtjhccdolbhjmaaaGreat
/- THE CELL 'sum', in the pinned program and in every row, IS THE sha256 OF THE DUMP (.gsa) THAT YtjhccdolbhjmaaaGreatProg.lean LOADS. Nothing in Lean hashes anything: it is a label: what it is worth is what the hold of that sum in a sandbox is worth. -/
noncomputable def Tryz.pinned : Pinned := { name := "ytjhccdolbhjmaaagreat", sum := "871c7d0998458a157e36a24ccc81add725f9a2e9e4fc5f94eb46f331993cc9d2", checked := Tryz.checked }
namespace Rows
def none {H : Type} : Left H := { results := [], args := [] }

/-- 'scarfjointlaw41.CountingCheck': WHATEVER THE INPUT: true; the input reads as it did. -/
def countingCheckSpec : ChangeSpec := { name := "countingCheck", fn := fun _ => fun
  | [d1, d2, d3] => { results := [.lit (.bool true)], args := [d1, d2, d3] }
  | _ => none }
def countingCheckRow : OpenClaim := { program := "ytjhccdolbhjmaaagreat", sum := "871c7d0998458a157e36a24ccc81add725f9a2e9e4fc5f94eb46f331993cc9d2", func := "scarfjoint/scarfjointlaw41.CountingCheck", spec := "countingCheck", inPlace := ["internal/bytealg.IndexByteString", "slices.overlaps[scarfjoint/api.Count]"], unfollowed := true, recurses := true, loops := true, apart := false }
def CountingCheckSaid : Prop := countingCheckRow.holds Tryz.pinned (OpenSpec.ofChange countingCheckSpec)

/-- ITS FALSE NEIGHBOUR: 'it returns false'. Refute it at one input. -/
def countingCheckWrong : ChangeSpec := { name := "countingCheck", fn := fun _ => fun
  | [d1, d2, d3] => { results := [.lit (.bool false)], args := [d1, d2, d3] }
  | _ => none }
def CountingCheckWrongFalsely : Prop := countingCheckRow.holds Tryz.pinned (OpenSpec.ofChange countingCheckWrong)

/-- 'scarfjointlaw41.CountingRank': WHATEVER THE INPUT: true; the input reads as it did. -/
def countingRankSpec : ChangeSpec := { name := "countingRank", fn := fun _ => fun
  | [d1, d2, d3] => { results := [.lit (.bool true)], args := [d1, d2, d3] }
  | _ => none }
def countingRankRow : OpenClaim := { program := "ytjhccdolbhjmaaagreat", sum := "871c7d0998458a157e36a24ccc81add725f9a2e9e4fc5f94eb46f331993cc9d2", func := "scarfjoint/scarfjointlaw41.CountingRank", spec := "countingRank", inPlace := ["internal/bytealg.IndexByteString", "slices.overlaps[scarfjoint/api.Count]"], unfollowed := true, recurses := true, apart := false }
def CountingRankSaid : Prop := countingRankRow.holds Tryz.pinned (OpenSpec.ofChange countingRankSpec)

/-- ITS FALSE NEIGHBOUR: 'it returns false'. Refute it at one input. -/
def countingRankWrong : ChangeSpec := { name := "countingRank", fn := fun _ => fun
  | [d1, d2, d3] => { results := [.lit (.bool false)], args := [d1, d2, d3] }
  | _ => none }
def CountingRankWrongFalsely : Prop := countingRankRow.holds Tryz.pinned (OpenSpec.ofChange countingRankWrong)

/-- 'scarfjointlaw41.CountingWeights': WHATEVER THE INPUT: true; the input reads as it did. -/
def countingWeightsSpec : ChangeSpec := { name := "countingWeights", fn := fun _ => fun
  | [d] => { results := [.lit (.bool true)], args := [d] }
  | _ => none }
def countingWeightsRow : OpenClaim := { program := "ytjhccdolbhjmaaagreat", sum := "871c7d0998458a157e36a24ccc81add725f9a2e9e4fc5f94eb46f331993cc9d2", func := "scarfjoint/scarfjointlaw41.CountingWeights", spec := "countingWeights", inPlace := ["internal/bytealg.IndexByteString", "slices.overlaps[scarfjoint/api.Count]"], unfollowed := true, recurses := true, apart := false }
def CountingWeightsSaid : Prop := countingWeightsRow.holds Tryz.pinned (OpenSpec.ofChange countingWeightsSpec)

/-- ITS FALSE NEIGHBOUR: 'it returns false'. Refute it at one input. -/
def countingWeightsWrong : ChangeSpec := { name := "countingWeights", fn := fun _ => fun
  | [d] => { results := [.lit (.bool false)], args := [d] }
  | _ => none }
def CountingWeightsWrongFalsely : Prop := countingWeightsRow.holds Tryz.pinned (OpenSpec.ofChange countingWeightsWrong)

/-- 'scarfjointlaw41.CountingFind': WHATEVER THE INPUT: true; the input reads as it did. -/
def countingFindSpec : ChangeSpec := { name := "countingFind", fn := fun _ => fun
  | [d1, d2] => { results := [.lit (.bool true)], args := [d1, d2] }
  | _ => none }
def countingFindRow : OpenClaim := { program := "ytjhccdolbhjmaaagreat", sum := "871c7d0998458a157e36a24ccc81add725f9a2e9e4fc5f94eb46f331993cc9d2", func := "scarfjoint/scarfjointlaw41.CountingFind", spec := "countingFind", inPlace := ["internal/bytealg.IndexByteString", "slices.overlaps[scarfjoint/api.Count]"], unfollowed := true, recurses := true, loops := true, apart := false }
def CountingFindSaid : Prop := countingFindRow.holds Tryz.pinned (OpenSpec.ofChange countingFindSpec)

/-- ITS FALSE NEIGHBOUR: 'it returns false'. Refute it at one input. -/
def countingFindWrong : ChangeSpec := { name := "countingFind", fn := fun _ => fun
  | [d1, d2] => { results := [.lit (.bool false)], args := [d1, d2] }
  | _ => none }
def CountingFindWrongFalsely : Prop := countingFindRow.holds Tryz.pinned (OpenSpec.ofChange countingFindWrong)

/-- 'scarfjointlaw41.CountingRest': WHATEVER THE INPUT: true; the input reads as it did. -/
def countingRestSpec : ChangeSpec := { name := "countingRest", fn := fun _ => fun
  | [d] => { results := [.lit (.bool true)], args := [d] }
  | _ => none }
def countingRestRow : OpenClaim := { program := "ytjhccdolbhjmaaagreat", sum := "871c7d0998458a157e36a24ccc81add725f9a2e9e4fc5f94eb46f331993cc9d2", func := "scarfjoint/scarfjointlaw41.CountingRest", spec := "countingRest", inPlace := ["internal/bytealg.IndexByteString", "slices.overlaps[scarfjoint/api.Count]"], unfollowed := true, recurses := true, apart := false }
def CountingRestSaid : Prop := countingRestRow.holds Tryz.pinned (OpenSpec.ofChange countingRestSpec)

/-- ITS FALSE NEIGHBOUR: 'it returns false'. Refute it at one input. -/
def countingRestWrong : ChangeSpec := { name := "countingRest", fn := fun _ => fun
  | [d] => { results := [.lit (.bool false)], args := [d] }
  | _ => none }
def CountingRestWrongFalsely : Prop := countingRestRow.holds Tryz.pinned (OpenSpec.ofChange countingRestWrong)

/-- 'scarfjointlaw41.CountingFalls': WHATEVER THE INPUT: true; the input reads as it did. -/
def countingFallsSpec : ChangeSpec := { name := "countingFalls", fn := fun _ => fun
  | [d] => { results := [.lit (.bool true)], args := [d] }
  | _ => none }
def countingFallsRow : OpenClaim := { program := "ytjhccdolbhjmaaagreat", sum := "871c7d0998458a157e36a24ccc81add725f9a2e9e4fc5f94eb46f331993cc9d2", func := "scarfjoint/scarfjointlaw41.CountingFalls", spec := "countingFalls", inPlace := ["internal/bytealg.IndexByteString", "slices.overlaps[scarfjoint/api.Count]"], unfollowed := true, recurses := true, apart := false }
def CountingFallsSaid : Prop := countingFallsRow.holds Tryz.pinned (OpenSpec.ofChange countingFallsSpec)

/-- ITS FALSE NEIGHBOUR: 'it returns false'. Refute it at one input. -/
def countingFallsWrong : ChangeSpec := { name := "countingFalls", fn := fun _ => fun
  | [d] => { results := [.lit (.bool false)], args := [d] }
  | _ => none }
def CountingFallsWrongFalsely : Prop := countingFallsRow.holds Tryz.pinned (OpenSpec.ofChange countingFallsWrong)

/- THE SECOND FORM. 'bulk': how many values and letters a reading holds, each counted each time it is reached (what is shared counts as often as it is met; a slice's spare places count too). A statement '..UptoSaid' is the law's where the arguments, and the package variables that the reading takes, are together of bulk at most 1048576: NARROWER than '..Said'. Prove '..Said' where nothing that the law and all that it calls make is longer than what came in: it says more and counts as full. Else prove '..UptoSaid'. A law counts once. -/
mutual
def uptoBulk {H : Type} : DataW H → Nat
  | .lit (.string bytes) => bytes.length + 1
  | .lit _ => 1
  | .nil => 1
  | .ptr d => uptoBulk d + 1
  | .slice elems spare => uptoBulkAll elems + uptoBulkAll spare + 1
  | .agg parts => uptoBulkAll parts + 1
  | .iface _ d => uptoBulk d + 1
  | .map entries => uptoBulkEntries entries + 1
  | .held _ => 1
def uptoBulkAll {H : Type} : List (DataW H) → Nat
  | [] => 0
  | d :: r => uptoBulk d + uptoBulkAll r
def uptoBulkEntries {H : Type} : List (Lit × DataW H) → Nat
  | [] => 0
  | x :: r => uptoBulkEntry x + uptoBulkEntries r
def uptoBulkEntry {H : Type} : Lit × DataW H → Nat
  | (.string bytes, d) => bytes.length + uptoBulk d + 1
  | (_, d) => uptoBulk d + 1
 end
def uptoSmall : (H : Type) → List (DataW H) → Bool := fun _ ds => decide (uptoBulkAll ds ≤ 1048576)
def OpenSpec.upto (s : _root_.Go.ChangeSpec) : _root_.Go.OpenSpec := { _root_.Go.OpenSpec.ofChange s with cond := some uptoSmall }

/-- 'scarfjointlaw41.CountingCheck', WHERE WHAT IT READS IS OF BULK AT MOST 1048576: true; the input reads as it did. -/
def countingCheckUptoRow : OpenClaim := { program := "ytjhccdolbhjmaaagreat", sum := "871c7d0998458a157e36a24ccc81add725f9a2e9e4fc5f94eb46f331993cc9d2", func := "scarfjoint/scarfjointlaw41.CountingCheck", spec := "countingCheck", inPlace := ["internal/bytealg.IndexByteString", "slices.overlaps[scarfjoint/api.Count]"], unfollowed := true, recurses := true, loops := true, apart := false, narrowed := true }
def CountingCheckUptoSaid : Prop := countingCheckUptoRow.holds Tryz.pinned (OpenSpec.upto countingCheckSpec)

/-- 'scarfjointlaw41.CountingRank', WHERE WHAT IT READS IS OF BULK AT MOST 1048576: true; the input reads as it did. -/
def countingRankUptoRow : OpenClaim := { program := "ytjhccdolbhjmaaagreat", sum := "871c7d0998458a157e36a24ccc81add725f9a2e9e4fc5f94eb46f331993cc9d2", func := "scarfjoint/scarfjointlaw41.CountingRank", spec := "countingRank", inPlace := ["internal/bytealg.IndexByteString", "slices.overlaps[scarfjoint/api.Count]"], unfollowed := true, recurses := true, apart := false, narrowed := true }
def CountingRankUptoSaid : Prop := countingRankUptoRow.holds Tryz.pinned (OpenSpec.upto countingRankSpec)

/-- 'scarfjointlaw41.CountingWeights', WHERE WHAT IT READS IS OF BULK AT MOST 1048576: true; the input reads as it did. -/
def countingWeightsUptoRow : OpenClaim := { program := "ytjhccdolbhjmaaagreat", sum := "871c7d0998458a157e36a24ccc81add725f9a2e9e4fc5f94eb46f331993cc9d2", func := "scarfjoint/scarfjointlaw41.CountingWeights", spec := "countingWeights", inPlace := ["internal/bytealg.IndexByteString", "slices.overlaps[scarfjoint/api.Count]"], unfollowed := true, recurses := true, apart := false, narrowed := true }
def CountingWeightsUptoSaid : Prop := countingWeightsUptoRow.holds Tryz.pinned (OpenSpec.upto countingWeightsSpec)

/-- 'scarfjointlaw41.CountingFind', WHERE WHAT IT READS IS OF BULK AT MOST 1048576: true; the input reads as it did. -/
def countingFindUptoRow : OpenClaim := { program := "ytjhccdolbhjmaaagreat", sum := "871c7d0998458a157e36a24ccc81add725f9a2e9e4fc5f94eb46f331993cc9d2", func := "scarfjoint/scarfjointlaw41.CountingFind", spec := "countingFind", inPlace := ["internal/bytealg.IndexByteString", "slices.overlaps[scarfjoint/api.Count]"], unfollowed := true, recurses := true, loops := true, apart := false, narrowed := true }
def CountingFindUptoSaid : Prop := countingFindUptoRow.holds Tryz.pinned (OpenSpec.upto countingFindSpec)

/-- 'scarfjointlaw41.CountingRest', WHERE WHAT IT READS IS OF BULK AT MOST 1048576: true; the input reads as it did. -/
def countingRestUptoRow : OpenClaim := { program := "ytjhccdolbhjmaaagreat", sum := "871c7d0998458a157e36a24ccc81add725f9a2e9e4fc5f94eb46f331993cc9d2", func := "scarfjoint/scarfjointlaw41.CountingRest", spec := "countingRest", inPlace := ["internal/bytealg.IndexByteString", "slices.overlaps[scarfjoint/api.Count]"], unfollowed := true, recurses := true, apart := false, narrowed := true }
def CountingRestUptoSaid : Prop := countingRestUptoRow.holds Tryz.pinned (OpenSpec.upto countingRestSpec)

/-- 'scarfjointlaw41.CountingFalls', WHERE WHAT IT READS IS OF BULK AT MOST 1048576: true; the input reads as it did. -/
def countingFallsUptoRow : OpenClaim := { program := "ytjhccdolbhjmaaagreat", sum := "871c7d0998458a157e36a24ccc81add725f9a2e9e4fc5f94eb46f331993cc9d2", func := "scarfjoint/scarfjointlaw41.CountingFalls", spec := "countingFalls", inPlace := ["internal/bytealg.IndexByteString", "slices.overlaps[scarfjoint/api.Count]"], unfollowed := true, recurses := true, apart := false, narrowed := true }
def CountingFallsUptoSaid : Prop := countingFallsUptoRow.holds Tryz.pinned (OpenSpec.upto countingFallsSpec)

end Rows
end Go.Proofs.YtjhccdolbhjmaaaGreat
