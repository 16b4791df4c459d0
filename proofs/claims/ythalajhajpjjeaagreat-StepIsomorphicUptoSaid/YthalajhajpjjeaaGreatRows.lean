/-
  NARROWER THAN 'FOR EVERY INPUT', by the rows' own cells (each row's printed sentence says how): StepApply: loops · StepCheck: loops · ReverseRule: loops · ReverseUndoAll: loops · ReverseBefore: loops.
  DERIVED. THE GIVEN ROWS OF THIS SEAT. 9 by the template 'for every input the law returns true; each argument reads behind the call as it read before'; 0 by the template 'total and deterministic' (their statements: YthalajhajpjjeaaGreatTotals.lean).
  GIVEN WITH THE SEED: the statements are not yours to turn. If you find one false, say at which input.
  Laid BY PROGRAM, IN A SANDBOX (cutbox-rows.mjs): the forced cells as the released guide's own fill.sh prints them over the translation d3b17ec23e02ca63… (all of the seat's roots in one cut). By AI agents, Wed Nov 11 2026. No macro, syntax, notation, axiom, sorry.
-/
import Derived.Test.YthalajhajpjjeaaGreatChecked
import GoSem.Claim
import GoSem.ClaimJoined
import GoSem.ClaimMapViews
import Derived.JoinedTies
import Derived.KernelRfl
namespace Go.Proofs.YthalajhajpjjeaaGreat
/- THE CELL 'sum', in the pinned program and in every row, IS THE sha256 OF THE DUMP (.gsa) THAT YthalajhajpjjeaaGreatProg.lean LOADS. Nothing in Lean hashes anything: it is a label: what it is worth is what the hold of that sum in a sandbox is worth. -/
noncomputable def Tryz.pinned : Pinned := { name := "ythalajhajpjjeaagreat", sum := "d3b17ec23e02ca6374215f646ee46c11255a039dac124f17dbb109f9113fe861", checked := Tryz.checked }
namespace Rows
def none {H : Type} : Left H := { results := [], args := [] }

/-- 'scarfjointlaw26.StepApply': WHATEVER THE INPUT: true; the input reads as it did. -/
def stepApplySpec : ChangeSpec := { name := "stepApply", fn := fun _ => fun
  | [d1, d2, d3] => { results := [.lit (.bool true)], args := [d1, d2, d3] }
  | _ => none }
def stepApplyRow : OpenClaim := { program := "ythalajhajpjjeaagreat", sum := "d3b17ec23e02ca6374215f646ee46c11255a039dac124f17dbb109f9113fe861", func := "scarfjoint/scarfjointlaw26.StepApply", spec := "stepApply", inPlace := ["internal/bytealg.IndexByteString", "math/bits.Add64"], unfollowed := true, recurses := true, loops := true, plainKeys := false, apart := false }
def StepApplySaid : Prop := stepApplyRow.holds Tryz.pinned (OpenSpec.ofChange stepApplySpec)

/-- ITS FALSE NEIGHBOUR: 'it returns false'. Refute it at one input. -/
def stepApplyWrong : ChangeSpec := { name := "stepApply", fn := fun _ => fun
  | [d1, d2, d3] => { results := [.lit (.bool false)], args := [d1, d2, d3] }
  | _ => none }
def StepApplyWrongFalsely : Prop := stepApplyRow.holds Tryz.pinned (OpenSpec.ofChange stepApplyWrong)

/-- 'scarfjointlaw26.StepCheck': WHATEVER THE INPUT: true; the input reads as it did. -/
def stepCheckSpec : ChangeSpec := { name := "stepCheck", fn := fun _ => fun
  | [d1, d2, d3] => { results := [.lit (.bool true)], args := [d1, d2, d3] }
  | _ => none }
def stepCheckRow : OpenClaim := { program := "ythalajhajpjjeaagreat", sum := "d3b17ec23e02ca6374215f646ee46c11255a039dac124f17dbb109f9113fe861", func := "scarfjoint/scarfjointlaw26.StepCheck", spec := "stepCheck", inPlace := ["internal/bytealg.IndexByteString", "math/bits.Add64"], unfollowed := true, recurses := true, loops := true, plainKeys := false, apart := false }
def StepCheckSaid : Prop := stepCheckRow.holds Tryz.pinned (OpenSpec.ofChange stepCheckSpec)

/-- ITS FALSE NEIGHBOUR: 'it returns false'. Refute it at one input. -/
def stepCheckWrong : ChangeSpec := { name := "stepCheck", fn := fun _ => fun
  | [d1, d2, d3] => { results := [.lit (.bool false)], args := [d1, d2, d3] }
  | _ => none }
def StepCheckWrongFalsely : Prop := stepCheckRow.holds Tryz.pinned (OpenSpec.ofChange stepCheckWrong)

/-- 'scarfjointlaw26.StepIsomorphic': WHATEVER THE INPUT: true; the input reads as it did. -/
def stepIsomorphicSpec : ChangeSpec := { name := "stepIsomorphic", fn := fun _ => fun
  | [d1, d2] => { results := [.lit (.bool true)], args := [d1, d2] }
  | _ => none }
def stepIsomorphicRow : OpenClaim := { program := "ythalajhajpjjeaagreat", sum := "d3b17ec23e02ca6374215f646ee46c11255a039dac124f17dbb109f9113fe861", func := "scarfjoint/scarfjointlaw26.StepIsomorphic", spec := "stepIsomorphic", inPlace := ["internal/bytealg.IndexByteString", "math/bits.Add64"], unfollowed := true, recurses := true, plainKeys := false, apart := false }
def StepIsomorphicSaid : Prop := stepIsomorphicRow.holds Tryz.pinned (OpenSpec.ofChange stepIsomorphicSpec)

/-- ITS FALSE NEIGHBOUR: 'it returns false'. Refute it at one input. -/
def stepIsomorphicWrong : ChangeSpec := { name := "stepIsomorphic", fn := fun _ => fun
  | [d1, d2] => { results := [.lit (.bool false)], args := [d1, d2] }
  | _ => none }
def StepIsomorphicWrongFalsely : Prop := stepIsomorphicRow.holds Tryz.pinned (OpenSpec.ofChange stepIsomorphicWrong)

/-- 'scarfjointlaw27.ReverseRule': WHATEVER THE INPUT: true; the input reads as it did. -/
def reverseRuleSpec : ChangeSpec := { name := "reverseRule", fn := fun _ => fun
  | [d1, d2] => { results := [.lit (.bool true)], args := [d1, d2] }
  | _ => none }
def reverseRuleRow : OpenClaim := { program := "ythalajhajpjjeaagreat", sum := "d3b17ec23e02ca6374215f646ee46c11255a039dac124f17dbb109f9113fe861", func := "scarfjoint/scarfjointlaw27.ReverseRule", spec := "reverseRule", inPlace := ["internal/bytealg.IndexByteString", "math/bits.Add64"], unfollowed := true, recurses := true, loops := true, plainKeys := false, apart := false }
def ReverseRuleSaid : Prop := reverseRuleRow.holds Tryz.pinned (OpenSpec.ofChange reverseRuleSpec)

/-- ITS FALSE NEIGHBOUR: 'it returns false'. Refute it at one input. -/
def reverseRuleWrong : ChangeSpec := { name := "reverseRule", fn := fun _ => fun
  | [d1, d2] => { results := [.lit (.bool false)], args := [d1, d2] }
  | _ => none }
def ReverseRuleWrongFalsely : Prop := reverseRuleRow.holds Tryz.pinned (OpenSpec.ofChange reverseRuleWrong)

/-- 'scarfjointlaw27.ReverseTwice': WHATEVER THE INPUT: true; the input reads as it did. -/
def reverseTwiceSpec : ChangeSpec := { name := "reverseTwice", fn := fun _ => fun
  | [d] => { results := [.lit (.bool true)], args := [d] }
  | _ => none }
def reverseTwiceRow : OpenClaim := { program := "ythalajhajpjjeaagreat", sum := "d3b17ec23e02ca6374215f646ee46c11255a039dac124f17dbb109f9113fe861", func := "scarfjoint/scarfjointlaw27.ReverseTwice", spec := "reverseTwice", inPlace := ["internal/bytealg.IndexByteString", "math/bits.Add64"], unfollowed := true, recurses := true, plainKeys := false, apart := false }
def ReverseTwiceSaid : Prop := reverseTwiceRow.holds Tryz.pinned (OpenSpec.ofChange reverseTwiceSpec)

/-- ITS FALSE NEIGHBOUR: 'it returns false'. Refute it at one input. -/
def reverseTwiceWrong : ChangeSpec := { name := "reverseTwice", fn := fun _ => fun
  | [d] => { results := [.lit (.bool false)], args := [d] }
  | _ => none }
def ReverseTwiceWrongFalsely : Prop := reverseTwiceRow.holds Tryz.pinned (OpenSpec.ofChange reverseTwiceWrong)

/-- 'scarfjointlaw27.ReverseUndoAll': WHATEVER THE INPUT: true; the input reads as it did. -/
def reverseUndoAllSpec : ChangeSpec := { name := "reverseUndoAll", fn := fun _ => fun
  | [d1, d2] => { results := [.lit (.bool true)], args := [d1, d2] }
  | _ => none }
def reverseUndoAllRow : OpenClaim := { program := "ythalajhajpjjeaagreat", sum := "d3b17ec23e02ca6374215f646ee46c11255a039dac124f17dbb109f9113fe861", func := "scarfjoint/scarfjointlaw27.ReverseUndoAll", spec := "reverseUndoAll", inPlace := ["internal/bytealg.IndexByteString", "math/bits.Add64"], unfollowed := true, recurses := true, loops := true, plainKeys := false, apart := false }
def ReverseUndoAllSaid : Prop := reverseUndoAllRow.holds Tryz.pinned (OpenSpec.ofChange reverseUndoAllSpec)

/-- ITS FALSE NEIGHBOUR: 'it returns false'. Refute it at one input. -/
def reverseUndoAllWrong : ChangeSpec := { name := "reverseUndoAll", fn := fun _ => fun
  | [d1, d2] => { results := [.lit (.bool false)], args := [d1, d2] }
  | _ => none }
def ReverseUndoAllWrongFalsely : Prop := reverseUndoAllRow.holds Tryz.pinned (OpenSpec.ofChange reverseUndoAllWrong)

/-- 'scarfjointlaw27.ReverseConsecutive': WHATEVER THE INPUT: true; the input reads as it did. -/
def reverseConsecutiveSpec : ChangeSpec := { name := "reverseConsecutive", fn := fun _ => fun
  | [d] => { results := [.lit (.bool true)], args := [d] }
  | _ => none }
def reverseConsecutiveRow : OpenClaim := { program := "ythalajhajpjjeaagreat", sum := "d3b17ec23e02ca6374215f646ee46c11255a039dac124f17dbb109f9113fe861", func := "scarfjoint/scarfjointlaw27.ReverseConsecutive", spec := "reverseConsecutive", inPlace := ["internal/bytealg.IndexByteString", "math/bits.Add64"], unfollowed := true, recurses := true, plainKeys := false, apart := false }
def ReverseConsecutiveSaid : Prop := reverseConsecutiveRow.holds Tryz.pinned (OpenSpec.ofChange reverseConsecutiveSpec)

/-- ITS FALSE NEIGHBOUR: 'it returns false'. Refute it at one input. -/
def reverseConsecutiveWrong : ChangeSpec := { name := "reverseConsecutive", fn := fun _ => fun
  | [d] => { results := [.lit (.bool false)], args := [d] }
  | _ => none }
def ReverseConsecutiveWrongFalsely : Prop := reverseConsecutiveRow.holds Tryz.pinned (OpenSpec.ofChange reverseConsecutiveWrong)

/-- 'scarfjointlaw27.ReverseBefore': WHATEVER THE INPUT: true; the input reads as it did. -/
def reverseBeforeSpec : ChangeSpec := { name := "reverseBefore", fn := fun _ => fun
  | [d1, d2, d3] => { results := [.lit (.bool true)], args := [d1, d2, d3] }
  | _ => none }
def reverseBeforeRow : OpenClaim := { program := "ythalajhajpjjeaagreat", sum := "d3b17ec23e02ca6374215f646ee46c11255a039dac124f17dbb109f9113fe861", func := "scarfjoint/scarfjointlaw27.ReverseBefore", spec := "reverseBefore", inPlace := ["internal/bytealg.IndexByteString", "math/bits.Add64"], unfollowed := true, recurses := true, loops := true, plainKeys := false, apart := false }
def ReverseBeforeSaid : Prop := reverseBeforeRow.holds Tryz.pinned (OpenSpec.ofChange reverseBeforeSpec)

/-- ITS FALSE NEIGHBOUR: 'it returns false'. Refute it at one input. -/
def reverseBeforeWrong : ChangeSpec := { name := "reverseBefore", fn := fun _ => fun
  | [d1, d2, d3] => { results := [.lit (.bool false)], args := [d1, d2, d3] }
  | _ => none }
def ReverseBeforeWrongFalsely : Prop := reverseBeforeRow.holds Tryz.pinned (OpenSpec.ofChange reverseBeforeWrong)

/-- 'scarfjointlaw27.ReverseInverse': WHATEVER THE INPUT: true; the input reads as it did. -/
def reverseInverseSpec : ChangeSpec := { name := "reverseInverse", fn := fun _ => fun
  | [d] => { results := [.lit (.bool true)], args := [d] }
  | _ => none }
def reverseInverseRow : OpenClaim := { program := "ythalajhajpjjeaagreat", sum := "d3b17ec23e02ca6374215f646ee46c11255a039dac124f17dbb109f9113fe861", func := "scarfjoint/scarfjointlaw27.ReverseInverse", spec := "reverseInverse", inPlace := ["internal/bytealg.IndexByteString", "math/bits.Add64"], unfollowed := true, recurses := true, plainKeys := false, apart := false }
def ReverseInverseSaid : Prop := reverseInverseRow.holds Tryz.pinned (OpenSpec.ofChange reverseInverseSpec)

/-- ITS FALSE NEIGHBOUR: 'it returns false'. Refute it at one input. -/
def reverseInverseWrong : ChangeSpec := { name := "reverseInverse", fn := fun _ => fun
  | [d] => { results := [.lit (.bool false)], args := [d] }
  | _ => none }
def ReverseInverseWrongFalsely : Prop := reverseInverseRow.holds Tryz.pinned (OpenSpec.ofChange reverseInverseWrong)

/- THE SECOND FORM. 'bulk': how many values and letters a reading holds, each counted each time it is reached (what is shared counts as often as it is met; a slice's spare places count too). A statement '..UptoSaid' is the law's where the arguments, and the package variables that the reading takes, are together of bulk at most 1048576: NARROWER than '..Said'. Prove '..Said' where nothing that the law and all that it calls make is longer than what came in: it says more and counts as full. Else prove '..UptoSaid'. A law counts once. -/
mutual
def uptoBulk {H : Type} : DataW H → Nat
  | .lit (.string bytes) => bytes.length + 1
  | .lit _ => 1
  | .nil => 1
  | .ptr d => uptoBulk d + 1
  | .slice elems spare => uptoBulkAll elems + uptoBulkAll spare + 1
  | .agg parts => uptoBulkAll parts + 1
  | .iface _ d => uptoBulk d + 1
  | .map entries => uptoBulkEntries entries + 1
  | .held _ => 1
def uptoBulkAll {H : Type} : List (DataW H) → Nat
  | [] => 0
  | d :: r => uptoBulk d + uptoBulkAll r
def uptoBulkEntries {H : Type} : List (Lit × DataW H) → Nat
  | [] => 0
  | x :: r => uptoBulkEntry x + uptoBulkEntries r
def uptoBulkEntry {H : Type} : Lit × DataW H → Nat
  | (.string bytes, d) => bytes.length + uptoBulk d + 1
  | (_, d) => uptoBulk d + 1
 end
def uptoSmall : (H : Type) → List (DataW H) → Bool := fun _ ds => decide (uptoBulkAll ds ≤ 1048576)
def OpenSpec.upto (s : _root_.Go.ChangeSpec) : _root_.Go.OpenSpec := { _root_.Go.OpenSpec.ofChange s with cond := some uptoSmall }

/-- 'scarfjointlaw26.StepApply', WHERE WHAT IT READS IS OF BULK AT MOST 1048576: true; the input reads as it did. -/
def stepApplyUptoRow : OpenClaim := { program := "ythalajhajpjjeaagreat", sum := "d3b17ec23e02ca6374215f646ee46c11255a039dac124f17dbb109f9113fe861", func := "scarfjoint/scarfjointlaw26.StepApply", spec := "stepApply", inPlace := ["internal/bytealg.IndexByteString", "math/bits.Add64"], unfollowed := true, recurses := true, loops := true, plainKeys := false, apart := false, narrowed := true }
def StepApplyUptoSaid : Prop := stepApplyUptoRow.holds Tryz.pinned (OpenSpec.upto stepApplySpec)

/-- 'scarfjointlaw26.StepCheck', WHERE WHAT IT READS IS OF BULK AT MOST 1048576: true; the input reads as it did. -/
def stepCheckUptoRow : OpenClaim := { program := "ythalajhajpjjeaagreat", sum := "d3b17ec23e02ca6374215f646ee46c11255a039dac124f17dbb109f9113fe861", func := "scarfjoint/scarfjointlaw26.StepCheck", spec := "stepCheck", inPlace := ["internal/bytealg.IndexByteString", "math/bits.Add64"], unfollowed := true, recurses := true, loops := true, plainKeys := false, apart := false, narrowed := true }
def StepCheckUptoSaid : Prop := stepCheckUptoRow.holds Tryz.pinned (OpenSpec.upto stepCheckSpec)

/-- 'scarfjointlaw26.StepIsomorphic', WHERE WHAT IT READS IS OF BULK AT MOST 1048576: true; the input reads as it did. -/
def stepIsomorphicUptoRow : OpenClaim := { program := "ythalajhajpjjeaagreat", sum := "d3b17ec23e02ca6374215f646ee46c11255a039dac124f17dbb109f9113fe861", func := "scarfjoint/scarfjointlaw26.StepIsomorphic", spec := "stepIsomorphic", inPlace := ["internal/bytealg.IndexByteString", "math/bits.Add64"], unfollowed := true, recurses := true, plainKeys := false, apart := false, narrowed := true }
def StepIsomorphicUptoSaid : Prop := stepIsomorphicUptoRow.holds Tryz.pinned (OpenSpec.upto stepIsomorphicSpec)

/-- 'scarfjointlaw27.ReverseRule', WHERE WHAT IT READS IS OF BULK AT MOST 1048576: true; the input reads as it did. -/
def reverseRuleUptoRow : OpenClaim := { program := "ythalajhajpjjeaagreat", sum := "d3b17ec23e02ca6374215f646ee46c11255a039dac124f17dbb109f9113fe861", func := "scarfjoint/scarfjointlaw27.ReverseRule", spec := "reverseRule", inPlace := ["internal/bytealg.IndexByteString", "math/bits.Add64"], unfollowed := true, recurses := true, loops := true, plainKeys := false, apart := false, narrowed := true }
def ReverseRuleUptoSaid : Prop := reverseRuleUptoRow.holds Tryz.pinned (OpenSpec.upto reverseRuleSpec)

/-- 'scarfjointlaw27.ReverseTwice', WHERE WHAT IT READS IS OF BULK AT MOST 1048576: true; the input reads as it did. -/
def reverseTwiceUptoRow : OpenClaim := { program := "ythalajhajpjjeaagreat", sum := "d3b17ec23e02ca6374215f646ee46c11255a039dac124f17dbb109f9113fe861", func := "scarfjoint/scarfjointlaw27.ReverseTwice", spec := "reverseTwice", inPlace := ["internal/bytealg.IndexByteString", "math/bits.Add64"], unfollowed := true, recurses := true, plainKeys := false, apart := false, narrowed := true }
def ReverseTwiceUptoSaid : Prop := reverseTwiceUptoRow.holds Tryz.pinned (OpenSpec.upto reverseTwiceSpec)

/-- 'scarfjointlaw27.ReverseUndoAll', WHERE WHAT IT READS IS OF BULK AT MOST 1048576: true; the input reads as it did. -/
def reverseUndoAllUptoRow : OpenClaim := { program := "ythalajhajpjjeaagreat", sum := "d3b17ec23e02ca6374215f646ee46c11255a039dac124f17dbb109f9113fe861", func := "scarfjoint/scarfjointlaw27.ReverseUndoAll", spec := "reverseUndoAll", inPlace := ["internal/bytealg.IndexByteString", "math/bits.Add64"], unfollowed := true, recurses := true, loops := true, plainKeys := false, apart := false, narrowed := true }
def ReverseUndoAllUptoSaid : Prop := reverseUndoAllUptoRow.holds Tryz.pinned (OpenSpec.upto reverseUndoAllSpec)

/-- 'scarfjointlaw27.ReverseConsecutive', WHERE WHAT IT READS IS OF BULK AT MOST 1048576: true; the input reads as it did. -/
def reverseConsecutiveUptoRow : OpenClaim := { program := "ythalajhajpjjeaagreat", sum := "d3b17ec23e02ca6374215f646ee46c11255a039dac124f17dbb109f9113fe861", func := "scarfjoint/scarfjointlaw27.ReverseConsecutive", spec := "reverseConsecutive", inPlace := ["internal/bytealg.IndexByteString", "math/bits.Add64"], unfollowed := true, recurses := true, plainKeys := false, apart := false, narrowed := true }
def ReverseConsecutiveUptoSaid : Prop := reverseConsecutiveUptoRow.holds Tryz.pinned (OpenSpec.upto reverseConsecutiveSpec)

/-- 'scarfjointlaw27.ReverseBefore', WHERE WHAT IT READS IS OF BULK AT MOST 1048576: true; the input reads as it did. -/
def reverseBeforeUptoRow : OpenClaim := { program := "ythalajhajpjjeaagreat", sum := "d3b17ec23e02ca6374215f646ee46c11255a039dac124f17dbb109f9113fe861", func := "scarfjoint/scarfjointlaw27.ReverseBefore", spec := "reverseBefore", inPlace := ["internal/bytealg.IndexByteString", "math/bits.Add64"], unfollowed := true, recurses := true, loops := true, plainKeys := false, apart := false, narrowed := true }
def ReverseBeforeUptoSaid : Prop := reverseBeforeUptoRow.holds Tryz.pinned (OpenSpec.upto reverseBeforeSpec)

/-- 'scarfjointlaw27.ReverseInverse', WHERE WHAT IT READS IS OF BULK AT MOST 1048576: true; the input reads as it did. -/
def reverseInverseUptoRow : OpenClaim := { program := "ythalajhajpjjeaagreat", sum := "d3b17ec23e02ca6374215f646ee46c11255a039dac124f17dbb109f9113fe861", func := "scarfjoint/scarfjointlaw27.ReverseInverse", spec := "reverseInverse", inPlace := ["internal/bytealg.IndexByteString", "math/bits.Add64"], unfollowed := true, recurses := true, plainKeys := false, apart := false, narrowed := true }
def ReverseInverseUptoSaid : Prop := reverseInverseUptoRow.holds Tryz.pinned (OpenSpec.upto reverseInverseSpec)

end Rows
end Go.Proofs.YthalajhajpjjeaaGreat
