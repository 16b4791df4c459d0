/-
  NARROWER THAN 'FOR EVERY INPUT', by the rows' own cells (each row's printed sentence says how): StepApplicable: loops · StepApply: loops · StepCheck: loops.
  DERIVED. THE GIVEN ROWS OF THIS SEAT. 8 by the template 'for every input the law returns true; each argument reads behind the call as it read before'; 0 by the template 'total and deterministic' (their statements: YtjfaalokjnmdoaaGreatTotals.lean).
  GIVEN WITH THE SEED: the statements are not yours to turn. If you find one false, say at which input.
  Laid BY PROGRAM, IN A SANDBOX (cutbox-rows.mjs): the forced cells as the released guide's own fill.sh prints them over the translation 757482fc8db8a77f… (all of the seat's roots in one cut). By AI agents, Wed Nov 11 2026. No macro, syntax, notation, axiom, sorry.
-/
import Derived.Test.YtjfaalokjnmdoaaGreatChecked
import GoSem.Claim
import GoSem.ClaimJoined
import GoSem.ClaimMapViews
import Derived.JoinedTies
import Derived.KernelRfl
namespace Go.Proofs.YtjfaalokjnmdoaaGreat
/- THE CELL 'sum', in the pinned program and in every row, IS THE sha256 OF THE DUMP (.gsa) THAT YtjfaalokjnmdoaaGreatProg.lean LOADS. Nothing in Lean hashes anything: it is a label: what it is worth is what the hold of that sum in a sandbox is worth. -/
noncomputable def Tryz.pinned : Pinned := { name := "ytjfaalokjnmdoaagreat", sum := "757482fc8db8a77f8d4febe642e6a1262b222c62cf687b22c0da853fc69a1de6", checked := Tryz.checked }
namespace Rows
def none {H : Type} : Left H := { results := [], args := [] }

/-- 'scarfjointlaw41.CountingFalls': WHATEVER THE INPUT: true; the input reads as it did. -/
def countingFallsSpec : ChangeSpec := { name := "countingFalls", fn := fun _ => fun
  | [d] => { results := [.lit (.bool true)], args := [d] }
  | _ => none }
def countingFallsRow : OpenClaim := { program := "ytjfaalokjnmdoaagreat", sum := "757482fc8db8a77f8d4febe642e6a1262b222c62cf687b22c0da853fc69a1de6", func := "scarfjoint/scarfjointlaw41.CountingFalls", spec := "countingFalls", inPlace := ["internal/bytealg.IndexByteString", "slices.overlaps[scarfjoint/api.Count]"], unfollowed := true, recurses := true, plainKeys := false, apart := false }
def CountingFallsSaid : Prop := countingFallsRow.holds Tryz.pinned (OpenSpec.ofChange countingFallsSpec)

/-- ITS FALSE NEIGHBOUR: 'it returns false'. Refute it at one input. -/
def countingFallsWrong : ChangeSpec := { name := "countingFalls", fn := fun _ => fun
  | [d] => { results := [.lit (.bool false)], args := [d] }
  | _ => none }
def CountingFallsWrongFalsely : Prop := countingFallsRow.holds Tryz.pinned (OpenSpec.ofChange countingFallsWrong)

/-- 'scarfjointlaw26.StepApplicable': WHATEVER THE INPUT: true; the input reads as it did. -/
def stepApplicableSpec : ChangeSpec := { name := "stepApplicable", fn := fun _ => fun
  | [d1, d2, d3] => { results := [.lit (.bool true)], args := [d1, d2, d3] }
  | _ => none }
def stepApplicableRow : OpenClaim := { program := "ytjfaalokjnmdoaagreat", sum := "757482fc8db8a77f8d4febe642e6a1262b222c62cf687b22c0da853fc69a1de6", func := "scarfjoint/scarfjointlaw26.StepApplicable", spec := "stepApplicable", inPlace := ["internal/bytealg.IndexByteString", "math/bits.Add64"], unfollowed := true, recurses := true, loops := true, plainKeys := false, apart := false }
def StepApplicableSaid : Prop := stepApplicableRow.holds Tryz.pinned (OpenSpec.ofChange stepApplicableSpec)

/-- ITS FALSE NEIGHBOUR: 'it returns false'. Refute it at one input. -/
def stepApplicableWrong : ChangeSpec := { name := "stepApplicable", fn := fun _ => fun
  | [d1, d2, d3] => { results := [.lit (.bool false)], args := [d1, d2, d3] }
  | _ => none }
def StepApplicableWrongFalsely : Prop := stepApplicableRow.holds Tryz.pinned (OpenSpec.ofChange stepApplicableWrong)

/-- 'scarfjointlaw26.StepCounts': WHATEVER THE INPUT: true; the input reads as it did. -/
def stepCountsSpec : ChangeSpec := { name := "stepCounts", fn := fun _ => fun
  | [d] => { results := [.lit (.bool true)], args := [d] }
  | _ => none }
def stepCountsRow : OpenClaim := { program := "ytjfaalokjnmdoaagreat", sum := "757482fc8db8a77f8d4febe642e6a1262b222c62cf687b22c0da853fc69a1de6", func := "scarfjoint/scarfjointlaw26.StepCounts", spec := "stepCounts", inPlace := ["internal/bytealg.IndexByteString", "math/bits.Add64"], unfollowed := true, recurses := true, plainKeys := false, apart := false }
def StepCountsSaid : Prop := stepCountsRow.holds Tryz.pinned (OpenSpec.ofChange stepCountsSpec)

/-- ITS FALSE NEIGHBOUR: 'it returns false'. Refute it at one input. -/
def stepCountsWrong : ChangeSpec := { name := "stepCounts", fn := fun _ => fun
  | [d] => { results := [.lit (.bool false)], args := [d] }
  | _ => none }
def StepCountsWrongFalsely : Prop := stepCountsRow.holds Tryz.pinned (OpenSpec.ofChange stepCountsWrong)

/-- 'scarfjointlaw26.StepRemains': WHATEVER THE INPUT: true; the input reads as it did. -/
def stepRemainsSpec : ChangeSpec := { name := "stepRemains", fn := fun _ => fun
  | [d] => { results := [.lit (.bool true)], args := [d] }
  | _ => none }
def stepRemainsRow : OpenClaim := { program := "ytjfaalokjnmdoaagreat", sum := "757482fc8db8a77f8d4febe642e6a1262b222c62cf687b22c0da853fc69a1de6", func := "scarfjoint/scarfjointlaw26.StepRemains", spec := "stepRemains", inPlace := ["internal/bytealg.IndexByteString", "math/bits.Add64"], unfollowed := true, recurses := true, plainKeys := false, apart := false }
def StepRemainsSaid : Prop := stepRemainsRow.holds Tryz.pinned (OpenSpec.ofChange stepRemainsSpec)

/-- ITS FALSE NEIGHBOUR: 'it returns false'. Refute it at one input. -/
def stepRemainsWrong : ChangeSpec := { name := "stepRemains", fn := fun _ => fun
  | [d] => { results := [.lit (.bool false)], args := [d] }
  | _ => none }
def StepRemainsWrongFalsely : Prop := stepRemainsRow.holds Tryz.pinned (OpenSpec.ofChange stepRemainsWrong)

/-- 'scarfjointlaw26.StepNothing': WHATEVER THE INPUT: true; the input reads as it did. -/
def stepNothingSpec : ChangeSpec := { name := "stepNothing", fn := fun _ => fun
  | [d] => { results := [.lit (.bool true)], args := [d] }
  | _ => none }
def stepNothingRow : OpenClaim := { program := "ytjfaalokjnmdoaagreat", sum := "757482fc8db8a77f8d4febe642e6a1262b222c62cf687b22c0da853fc69a1de6", func := "scarfjoint/scarfjointlaw26.StepNothing", spec := "stepNothing", inPlace := ["internal/bytealg.IndexByteString", "math/bits.Add64"], unfollowed := true, recurses := true, plainKeys := false, apart := false }
def StepNothingSaid : Prop := stepNothingRow.holds Tryz.pinned (OpenSpec.ofChange stepNothingSpec)

/-- ITS FALSE NEIGHBOUR: 'it returns false'. Refute it at one input. -/
def stepNothingWrong : ChangeSpec := { name := "stepNothing", fn := fun _ => fun
  | [d] => { results := [.lit (.bool false)], args := [d] }
  | _ => none }
def StepNothingWrongFalsely : Prop := stepNothingRow.holds Tryz.pinned (OpenSpec.ofChange stepNothingWrong)

/-- 'scarfjointlaw26.StepApply': WHATEVER THE INPUT: true; the input reads as it did. -/
def stepApplySpec : ChangeSpec := { name := "stepApply", fn := fun _ => fun
  | [d1, d2, d3] => { results := [.lit (.bool true)], args := [d1, d2, d3] }
  | _ => none }
def stepApplyRow : OpenClaim := { program := "ytjfaalokjnmdoaagreat", sum := "757482fc8db8a77f8d4febe642e6a1262b222c62cf687b22c0da853fc69a1de6", func := "scarfjoint/scarfjointlaw26.StepApply", spec := "stepApply", inPlace := ["internal/bytealg.IndexByteString", "math/bits.Add64"], unfollowed := true, recurses := true, loops := true, plainKeys := false, apart := false }
def StepApplySaid : Prop := stepApplyRow.holds Tryz.pinned (OpenSpec.ofChange stepApplySpec)

/-- ITS FALSE NEIGHBOUR: 'it returns false'. Refute it at one input. -/
def stepApplyWrong : ChangeSpec := { name := "stepApply", fn := fun _ => fun
  | [d1, d2, d3] => { results := [.lit (.bool false)], args := [d1, d2, d3] }
  | _ => none }
def StepApplyWrongFalsely : Prop := stepApplyRow.holds Tryz.pinned (OpenSpec.ofChange stepApplyWrong)

/-- 'scarfjointlaw26.StepCheck': WHATEVER THE INPUT: true; the input reads as it did. -/
def stepCheckSpec : ChangeSpec := { name := "stepCheck", fn := fun _ => fun
  | [d1, d2, d3] => { results := [.lit (.bool true)], args := [d1, d2, d3] }
  | _ => none }
def stepCheckRow : OpenClaim := { program := "ytjfaalokjnmdoaagreat", sum := "757482fc8db8a77f8d4febe642e6a1262b222c62cf687b22c0da853fc69a1de6", func := "scarfjoint/scarfjointlaw26.StepCheck", spec := "stepCheck", inPlace := ["internal/bytealg.IndexByteString", "math/bits.Add64"], unfollowed := true, recurses := true, loops := true, plainKeys := false, apart := false }
def StepCheckSaid : Prop := stepCheckRow.holds Tryz.pinned (OpenSpec.ofChange stepCheckSpec)

/-- ITS FALSE NEIGHBOUR: 'it returns false'. Refute it at one input. -/
def stepCheckWrong : ChangeSpec := { name := "stepCheck", fn := fun _ => fun
  | [d1, d2, d3] => { results := [.lit (.bool false)], args := [d1, d2, d3] }
  | _ => none }
def StepCheckWrongFalsely : Prop := stepCheckRow.holds Tryz.pinned (OpenSpec.ofChange stepCheckWrong)

/-- 'scarfjointlaw26.StepIsomorphic': WHATEVER THE INPUT: true; the input reads as it did. -/
def stepIsomorphicSpec : ChangeSpec := { name := "stepIsomorphic", fn := fun _ => fun
  | [d1, d2] => { results := [.lit (.bool true)], args := [d1, d2] }
  | _ => none }
def stepIsomorphicRow : OpenClaim := { program := "ytjfaalokjnmdoaagreat", sum := "757482fc8db8a77f8d4febe642e6a1262b222c62cf687b22c0da853fc69a1de6", func := "scarfjoint/scarfjointlaw26.StepIsomorphic", spec := "stepIsomorphic", inPlace := ["internal/bytealg.IndexByteString", "math/bits.Add64"], unfollowed := true, recurses := true, plainKeys := false, apart := false }
def StepIsomorphicSaid : Prop := stepIsomorphicRow.holds Tryz.pinned (OpenSpec.ofChange stepIsomorphicSpec)

/-- ITS FALSE NEIGHBOUR: 'it returns false'. Refute it at one input. -/
def stepIsomorphicWrong : ChangeSpec := { name := "stepIsomorphic", fn := fun _ => fun
  | [d1, d2] => { results := [.lit (.bool false)], args := [d1, d2] }
  | _ => none }
def StepIsomorphicWrongFalsely : Prop := stepIsomorphicRow.holds Tryz.pinned (OpenSpec.ofChange stepIsomorphicWrong)

/- THE SECOND FORM. 'bulk': how many values and letters a reading holds, each counted each time it is reached (what is shared counts as often as it is met; a slice's spare places count too). A statement '..UptoSaid' is the law's where the arguments, and the package variables that the reading takes, are together of bulk at most 1048576: NARROWER than '..Said'. Prove '..Said' where nothing that the law and all that it calls make is longer than what came in: it says more and counts as full. Else prove '..UptoSaid'. A law counts once. -/
mutual
def uptoBulk {H : Type} : DataW H → Nat
  | .lit (.string bytes) => bytes.length + 1
  | .lit _ => 1
  | .nil => 1
  | .ptr d => uptoBulk d + 1
  | .slice elems spare => uptoBulkAll elems + uptoBulkAll spare + 1
  | .agg parts => uptoBulkAll parts + 1
  | .iface _ d => uptoBulk d + 1
  | .map entries => uptoBulkEntries entries + 1
  | .held _ => 1
def uptoBulkAll {H : Type} : List (DataW H) → Nat
  | [] => 0
  | d :: r => uptoBulk d + uptoBulkAll r
def uptoBulkEntries {H : Type} : List (Lit × DataW H) → Nat
  | [] => 0
  | x :: r => uptoBulkEntry x + uptoBulkEntries r
def uptoBulkEntry {H : Type} : Lit × DataW H → Nat
  | (.string bytes, d) => bytes.length + uptoBulk d + 1
  | (_, d) => uptoBulk d + 1
 end
def uptoSmall : (H : Type) → List (DataW H) → Bool := fun _ ds => decide (uptoBulkAll ds ≤ 1048576)
def OpenSpec.upto (s : _root_.Go.ChangeSpec) : _root_.Go.OpenSpec := { _root_.Go.OpenSpec.ofChange s with cond := some uptoSmall }

/-- 'scarfjointlaw41.CountingFalls', WHERE WHAT IT READS IS OF BULK AT MOST 1048576: true; the input reads as it did. -/
def countingFallsUptoRow : OpenClaim := { program := "ytjfaalokjnmdoaagreat", sum := "757482fc8db8a77f8d4febe642e6a1262b222c62cf687b22c0da853fc69a1de6", func := "scarfjoint/scarfjointlaw41.CountingFalls", spec := "countingFalls", inPlace := ["internal/bytealg.IndexByteString", "slices.overlaps[scarfjoint/api.Count]"], unfollowed := true, recurses := true, plainKeys := false, apart := false, narrowed := true }
def CountingFallsUptoSaid : Prop := countingFallsUptoRow.holds Tryz.pinned (OpenSpec.upto countingFallsSpec)

/-- 'scarfjointlaw26.StepApplicable', WHERE WHAT IT READS IS OF BULK AT MOST 1048576: true; the input reads as it did. -/
def stepApplicableUptoRow : OpenClaim := { program := "ytjfaalokjnmdoaagreat", sum := "757482fc8db8a77f8d4febe642e6a1262b222c62cf687b22c0da853fc69a1de6", func := "scarfjoint/scarfjointlaw26.StepApplicable", spec := "stepApplicable", inPlace := ["internal/bytealg.IndexByteString", "math/bits.Add64"], unfollowed := true, recurses := true, loops := true, plainKeys := false, apart := false, narrowed := true }
def StepApplicableUptoSaid : Prop := stepApplicableUptoRow.holds Tryz.pinned (OpenSpec.upto stepApplicableSpec)

/-- 'scarfjointlaw26.StepCounts', WHERE WHAT IT READS IS OF BULK AT MOST 1048576: true; the input reads as it did. -/
def stepCountsUptoRow : OpenClaim := { program := "ytjfaalokjnmdoaagreat", sum := "757482fc8db8a77f8d4febe642e6a1262b222c62cf687b22c0da853fc69a1de6", func := "scarfjoint/scarfjointlaw26.StepCounts", spec := "stepCounts", inPlace := ["internal/bytealg.IndexByteString", "math/bits.Add64"], unfollowed := true, recurses := true, plainKeys := false, apart := false, narrowed := true }
def StepCountsUptoSaid : Prop := stepCountsUptoRow.holds Tryz.pinned (OpenSpec.upto stepCountsSpec)

/-- 'scarfjointlaw26.StepRemains', WHERE WHAT IT READS IS OF BULK AT MOST 1048576: true; the input reads as it did. -/
def stepRemainsUptoRow : OpenClaim := { program := "ytjfaalokjnmdoaagreat", sum := "757482fc8db8a77f8d4febe642e6a1262b222c62cf687b22c0da853fc69a1de6", func := "scarfjoint/scarfjointlaw26.StepRemains", spec := "stepRemains", inPlace := ["internal/bytealg.IndexByteString", "math/bits.Add64"], unfollowed := true, recurses := true, plainKeys := false, apart := false, narrowed := true }
def StepRemainsUptoSaid : Prop := stepRemainsUptoRow.holds Tryz.pinned (OpenSpec.upto stepRemainsSpec)

/-- 'scarfjointlaw26.StepNothing', WHERE WHAT IT READS IS OF BULK AT MOST 1048576: true; the input reads as it did. -/
def stepNothingUptoRow : OpenClaim := { program := "ytjfaalokjnmdoaagreat", sum := "757482fc8db8a77f8d4febe642e6a1262b222c62cf687b22c0da853fc69a1de6", func := "scarfjoint/scarfjointlaw26.StepNothing", spec := "stepNothing", inPlace := ["internal/bytealg.IndexByteString", "math/bits.Add64"], unfollowed := true, recurses := true, plainKeys := false, apart := false, narrowed := true }
def StepNothingUptoSaid : Prop := stepNothingUptoRow.holds Tryz.pinned (OpenSpec.upto stepNothingSpec)

/-- 'scarfjointlaw26.StepApply', WHERE WHAT IT READS IS OF BULK AT MOST 1048576: true; the input reads as it did. -/
def stepApplyUptoRow : OpenClaim := { program := "ytjfaalokjnmdoaagreat", sum := "757482fc8db8a77f8d4febe642e6a1262b222c62cf687b22c0da853fc69a1de6", func := "scarfjoint/scarfjointlaw26.StepApply", spec := "stepApply", inPlace := ["internal/bytealg.IndexByteString", "math/bits.Add64"], unfollowed := true, recurses := true, loops := true, plainKeys := false, apart := false, narrowed := true }
def StepApplyUptoSaid : Prop := stepApplyUptoRow.holds Tryz.pinned (OpenSpec.upto stepApplySpec)

/-- 'scarfjointlaw26.StepCheck', WHERE WHAT IT READS IS OF BULK AT MOST 1048576: true; the input reads as it did. -/
def stepCheckUptoRow : OpenClaim := { program := "ytjfaalokjnmdoaagreat", sum := "757482fc8db8a77f8d4febe642e6a1262b222c62cf687b22c0da853fc69a1de6", func := "scarfjoint/scarfjointlaw26.StepCheck", spec := "stepCheck", inPlace := ["internal/bytealg.IndexByteString", "math/bits.Add64"], unfollowed := true, recurses := true, loops := true, plainKeys := false, apart := false, narrowed := true }
def StepCheckUptoSaid : Prop := stepCheckUptoRow.holds Tryz.pinned (OpenSpec.upto stepCheckSpec)

/-- 'scarfjointlaw26.StepIsomorphic', WHERE WHAT IT READS IS OF BULK AT MOST 1048576: true; the input reads as it did. -/
def stepIsomorphicUptoRow : OpenClaim := { program := "ytjfaalokjnmdoaagreat", sum := "757482fc8db8a77f8d4febe642e6a1262b222c62cf687b22c0da853fc69a1de6", func := "scarfjoint/scarfjointlaw26.StepIsomorphic", spec := "stepIsomorphic", inPlace := ["internal/bytealg.IndexByteString", "math/bits.Add64"], unfollowed := true, recurses := true, plainKeys := false, apart := false, narrowed := true }
def StepIsomorphicUptoSaid : Prop := stepIsomorphicUptoRow.holds Tryz.pinned (OpenSpec.upto stepIsomorphicSpec)

end Rows
end Go.Proofs.YtjfaalokjnmdoaaGreat
