/-
  NARROWER THAN 'FOR EVERY INPUT', by the rows' own cells (each row's printed sentence says how): ConcurrentRule: loops · ConcurrentOverlaps: loops.
  DERIVED. THE GIVEN ROWS OF THIS SEAT. 3 by the template 'for every input the law returns true; each argument reads behind the call as it read before'; 0 by the template 'total and deterministic' (their statements: YthnegcfdjjhfgaaGreatTotals.lean).
  GIVEN WITH THE SEED: the statements are not yours to turn. If you find one false, say at which input.
  Laid BY PROGRAM, IN A SANDBOX (cutbox-rows.mjs): the forced cells as the released guide's own fill.sh prints them over the translation 7e1acae5b2c63b07… (all of the seat's roots in one cut). By AI agents, Wed Nov 11 2026. No macro, syntax, notation, axiom, sorry.
-/
import Derived.Test.YthnegcfdjjhfgaaGreatChecked
import GoSem.Claim
import GoSem.ClaimJoined
import GoSem.ClaimMapViews
import Derived.JoinedTies
import Derived.KernelRfl
namespace Go.Proofs.YthnegcfdjjhfgaaGreat
/- THE CELL 'sum', in the pinned program and in every row, IS THE sha256 OF THE DUMP (.gsa) THAT YthnegcfdjjhfgaaGreatProg.lean LOADS. Nothing in Lean hashes anything: it is a label: what it is worth is what the hold of that sum in a sandbox is worth. -/
noncomputable def Tryz.pinned : Pinned := { name := "ythnegcfdjjhfgaagreat", sum := "7e1acae5b2c63b0730f4d4ed42c88c72a5e79c31fa879a88d7f63a503613f7bb", checked := Tryz.checked }
namespace Rows
def none {H : Type} : Left H := { results := [], args := [] }

/-- 'scarfjointlaw32.ConcurrentRule': WHATEVER THE INPUT: true; the input reads as it did. -/
def concurrentRuleSpec : ChangeSpec := { name := "concurrentRule", fn := fun _ => fun
  | [d1, d2] => { results := [.lit (.bool true)], args := [d1, d2] }
  | _ => none }
def concurrentRuleRow : OpenClaim := { program := "ythnegcfdjjhfgaagreat", sum := "7e1acae5b2c63b0730f4d4ed42c88c72a5e79c31fa879a88d7f63a503613f7bb", func := "scarfjoint/scarfjointlaw32.ConcurrentRule", spec := "concurrentRule", inPlace := ["internal/bytealg.IndexByteString"], unfollowed := true, recurses := true, loops := true, apart := false }
def ConcurrentRuleSaid : Prop := concurrentRuleRow.holds Tryz.pinned (OpenSpec.ofChange concurrentRuleSpec)

/-- ITS FALSE NEIGHBOUR: 'it returns false'. Refute it at one input. -/
def concurrentRuleWrong : ChangeSpec := { name := "concurrentRule", fn := fun _ => fun
  | [d1, d2] => { results := [.lit (.bool false)], args := [d1, d2] }
  | _ => none }
def ConcurrentRuleWrongFalsely : Prop := concurrentRuleRow.holds Tryz.pinned (OpenSpec.ofChange concurrentRuleWrong)

/-- 'scarfjointlaw32.ConcurrentOverlaps': WHATEVER THE INPUT: true; the input reads as it did. -/
def concurrentOverlapsSpec : ChangeSpec := { name := "concurrentOverlaps", fn := fun _ => fun
  | [d] => { results := [.lit (.bool true)], args := [d] }
  | _ => none }
def concurrentOverlapsRow : OpenClaim := { program := "ythnegcfdjjhfgaagreat", sum := "7e1acae5b2c63b0730f4d4ed42c88c72a5e79c31fa879a88d7f63a503613f7bb", func := "scarfjoint/scarfjointlaw32.ConcurrentOverlaps", spec := "concurrentOverlaps", inPlace := ["internal/bytealg.IndexByteString"], unfollowed := true, recurses := true, loops := true, apart := false }
def ConcurrentOverlapsSaid : Prop := concurrentOverlapsRow.holds Tryz.pinned (OpenSpec.ofChange concurrentOverlapsSpec)

/-- ITS FALSE NEIGHBOUR: 'it returns false'. Refute it at one input. -/
def concurrentOverlapsWrong : ChangeSpec := { name := "concurrentOverlaps", fn := fun _ => fun
  | [d] => { results := [.lit (.bool false)], args := [d] }
  | _ => none }
def ConcurrentOverlapsWrongFalsely : Prop := concurrentOverlapsRow.holds Tryz.pinned (OpenSpec.ofChange concurrentOverlapsWrong)

/-- 'scarfjointlaw32.ConcurrentCounts': WHATEVER THE INPUT: true; the input reads as it did. -/
def concurrentCountsSpec : ChangeSpec := { name := "concurrentCounts", fn := fun _ => fun
  | [d1, d2] => { results := [.lit (.bool true)], args := [d1, d2] }
  | _ => none }
def concurrentCountsRow : OpenClaim := { program := "ythnegcfdjjhfgaagreat", sum := "7e1acae5b2c63b0730f4d4ed42c88c72a5e79c31fa879a88d7f63a503613f7bb", func := "scarfjoint/scarfjointlaw32.ConcurrentCounts", spec := "concurrentCounts", inPlace := ["internal/bytealg.IndexByteString"], unfollowed := true, recurses := true, apart := false }
def ConcurrentCountsSaid : Prop := concurrentCountsRow.holds Tryz.pinned (OpenSpec.ofChange concurrentCountsSpec)

/-- ITS FALSE NEIGHBOUR: 'it returns false'. Refute it at one input. -/
def concurrentCountsWrong : ChangeSpec := { name := "concurrentCounts", fn := fun _ => fun
  | [d1, d2] => { results := [.lit (.bool false)], args := [d1, d2] }
  | _ => none }
def ConcurrentCountsWrongFalsely : Prop := concurrentCountsRow.holds Tryz.pinned (OpenSpec.ofChange concurrentCountsWrong)

/- THE SECOND FORM. 'bulk': how many values and letters a reading holds, each counted each time it is reached (what is shared counts as often as it is met; a slice's spare places count too). A statement '..UptoSaid' is the law's where the arguments, and the package variables that the reading takes, are together of bulk at most 1048576: NARROWER than '..Said'. Prove '..Said' where nothing that the law and all that it calls make is longer than what came in: it says more and counts as full. Else prove '..UptoSaid'. A law counts once. -/
mutual
def uptoBulk {H : Type} : DataW H → Nat
  | .lit (.string bytes) => bytes.length + 1
  | .lit _ => 1
  | .nil => 1
  | .ptr d => uptoBulk d + 1
  | .slice elems spare => uptoBulkAll elems + uptoBulkAll spare + 1
  | .agg parts => uptoBulkAll parts + 1
  | .iface _ d => uptoBulk d + 1
  | .map entries => uptoBulkEntries entries + 1
  | .held _ => 1
def uptoBulkAll {H : Type} : List (DataW H) → Nat
  | [] => 0
  | d :: r => uptoBulk d + uptoBulkAll r
def uptoBulkEntries {H : Type} : List (Lit × DataW H) → Nat
  | [] => 0
  | x :: r => uptoBulkEntry x + uptoBulkEntries r
def uptoBulkEntry {H : Type} : Lit × DataW H → Nat
  | (.string bytes, d) => bytes.length + uptoBulk d + 1
  | (_, d) => uptoBulk d + 1
 end
def uptoSmall : (H : Type) → List (DataW H) → Bool := fun _ ds => decide (uptoBulkAll ds ≤ 1048576)
def OpenSpec.upto (s : _root_.Go.ChangeSpec) : _root_.Go.OpenSpec := { _root_.Go.OpenSpec.ofChange s with cond := some uptoSmall }

/-- 'scarfjointlaw32.ConcurrentRule', WHERE WHAT IT READS IS OF BULK AT MOST 1048576: true; the input reads as it did. -/
def concurrentRuleUptoRow : OpenClaim := { program := "ythnegcfdjjhfgaagreat", sum := "7e1acae5b2c63b0730f4d4ed42c88c72a5e79c31fa879a88d7f63a503613f7bb", func := "scarfjoint/scarfjointlaw32.ConcurrentRule", spec := "concurrentRule", inPlace := ["internal/bytealg.IndexByteString"], unfollowed := true, recurses := true, loops := true, apart := false, narrowed := true }
def ConcurrentRuleUptoSaid : Prop := concurrentRuleUptoRow.holds Tryz.pinned (OpenSpec.upto concurrentRuleSpec)

/-- 'scarfjointlaw32.ConcurrentOverlaps', WHERE WHAT IT READS IS OF BULK AT MOST 1048576: true; the input reads as it did. -/
def concurrentOverlapsUptoRow : OpenClaim := { program := "ythnegcfdjjhfgaagreat", sum := "7e1acae5b2c63b0730f4d4ed42c88c72a5e79c31fa879a88d7f63a503613f7bb", func := "scarfjoint/scarfjointlaw32.ConcurrentOverlaps", spec := "concurrentOverlaps", inPlace := ["internal/bytealg.IndexByteString"], unfollowed := true, recurses := true, loops := true, apart := false, narrowed := true }
def ConcurrentOverlapsUptoSaid : Prop := concurrentOverlapsUptoRow.holds Tryz.pinned (OpenSpec.upto concurrentOverlapsSpec)

/-- 'scarfjointlaw32.ConcurrentCounts', WHERE WHAT IT READS IS OF BULK AT MOST 1048576: true; the input reads as it did. -/
def concurrentCountsUptoRow : OpenClaim := { program := "ythnegcfdjjhfgaagreat", sum := "7e1acae5b2c63b0730f4d4ed42c88c72a5e79c31fa879a88d7f63a503613f7bb", func := "scarfjoint/scarfjointlaw32.ConcurrentCounts", spec := "concurrentCounts", inPlace := ["internal/bytealg.IndexByteString"], unfollowed := true, recurses := true, apart := false, narrowed := true }
def ConcurrentCountsUptoSaid : Prop := concurrentCountsUptoRow.holds Tryz.pinned (OpenSpec.upto concurrentCountsSpec)

end Rows
end Go.Proofs.YthnegcfdjjhfgaaGreat
