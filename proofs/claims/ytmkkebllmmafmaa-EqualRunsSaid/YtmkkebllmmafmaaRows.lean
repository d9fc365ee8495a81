/-
  No cell of these rows narrows 'for every input' (looked for: loops, veiled, ifaces, maps, wideKeys, modest, calm, conditions, laid).
  DERIVED. THE GIVEN ROWS OF THIS SEAT. 7 by the template 'for every input the law returns true; each argument reads behind the call as it read before'; 0 by the template 'total and deterministic' (their statements: YtmkkebllmmafmaaTotals.lean).
  GIVEN WITH THE SEED: the statements are not yours to turn. If you find one false, say at which input.
  Laid BY PROGRAM, IN A SANDBOX (cutbox-rows.mjs): the forced cells as the released guide's own fill.sh prints them over the translation c7e53c245556ec9f… (all of the seat's roots in one cut). By AI agents, Wed Nov 11 2026. No macro, syntax, notation, axiom, sorry.
-/
import Derived.Test.YtmkkebllmmafmaaChecked
import GoSem.Claim
import GoSem.ClaimJoined
import GoSem.ClaimMapViews
import Derived.JoinedTies
import Derived.KernelRfl
namespace Go.Proofs.Ytmkkebllmmafmaa
/- THE CELL 'sum', in the pinned program and in every row, IS THE sha256 OF THE DUMP (.gsa) THAT YtmkkebllmmafmaaProg.lean LOADS. Nothing in Lean hashes anything: it is a label: what it is worth is what the hold of that sum in a sandbox is worth. -/
noncomputable def Try.pinned : Pinned := { name := "ytmkkebllmmafmaa", sum := "c7e53c245556ec9ff5210c4018c99fc062f132e9349d59eba746b95f46c8f056", checked := Try.checked }
namespace Rows
def none {H : Type} : Left H := { results := [], args := [] }

/-- 'outworkerlaw13.EqualRight': WHATEVER THE INPUT: true; the input reads as it did. -/
def equalRightSpec : ChangeSpec := { name := "equalRight", fn := fun _ => fun
  | [d1, d2, d3, d4, d5, d6] => { results := [.lit (.bool true)], args := [d1, d2, d3, d4, d5, d6] }
  | _ => none }
def equalRightRow : OpenClaim := { program := "ytmkkebllmmafmaa", sum := "c7e53c245556ec9ff5210c4018c99fc062f132e9349d59eba746b95f46c8f056", func := "outworker/outworkerlaw13.EqualRight", spec := "equalRight", unfollowed := true, recurses := true, apart := false }
def EqualRightSaid : Prop := equalRightRow.holds Try.pinned (OpenSpec.ofChange equalRightSpec)

/-- ITS FALSE NEIGHBOUR: 'it returns false'. Refute it at one input. -/
def equalRightWrong : ChangeSpec := { name := "equalRight", fn := fun _ => fun
  | [d1, d2, d3, d4, d5, d6] => { results := [.lit (.bool false)], args := [d1, d2, d3, d4, d5, d6] }
  | _ => none }
def EqualRightWrongFalsely : Prop := equalRightRow.holds Try.pinned (OpenSpec.ofChange equalRightWrong)

/-- 'outworkerlaw13.EqualSteps': WHATEVER THE INPUT: true; the input reads as it did. -/
def equalStepsSpec : ChangeSpec := { name := "equalSteps", fn := fun _ => fun
  | [d1, d2, d3] => { results := [.lit (.bool true)], args := [d1, d2, d3] }
  | _ => none }
def equalStepsRow : OpenClaim := { program := "ytmkkebllmmafmaa", sum := "c7e53c245556ec9ff5210c4018c99fc062f132e9349d59eba746b95f46c8f056", func := "outworker/outworkerlaw13.EqualSteps", spec := "equalSteps", unfollowed := true, recurses := true, apart := false }
def EqualStepsSaid : Prop := equalStepsRow.holds Try.pinned (OpenSpec.ofChange equalStepsSpec)

/-- ITS FALSE NEIGHBOUR: 'it returns false'. Refute it at one input. -/
def equalStepsWrong : ChangeSpec := { name := "equalSteps", fn := fun _ => fun
  | [d1, d2, d3] => { results := [.lit (.bool false)], args := [d1, d2, d3] }
  | _ => none }
def EqualStepsWrongFalsely : Prop := equalStepsRow.holds Try.pinned (OpenSpec.ofChange equalStepsWrong)

/-- 'outworkerlaw13.EqualFirst': WHATEVER THE INPUT: true; the input reads as it did. -/
def equalFirstSpec : ChangeSpec := { name := "equalFirst", fn := fun _ => fun
  | [d1, d2, d3, d4] => { results := [.lit (.bool true)], args := [d1, d2, d3, d4] }
  | _ => none }
def equalFirstRow : OpenClaim := { program := "ytmkkebllmmafmaa", sum := "c7e53c245556ec9ff5210c4018c99fc062f132e9349d59eba746b95f46c8f056", func := "outworker/outworkerlaw13.EqualFirst", spec := "equalFirst", unfollowed := true, recurses := true, apart := false }
def EqualFirstSaid : Prop := equalFirstRow.holds Try.pinned (OpenSpec.ofChange equalFirstSpec)

/-- ITS FALSE NEIGHBOUR: 'it returns false'. Refute it at one input. -/
def equalFirstWrong : ChangeSpec := { name := "equalFirst", fn := fun _ => fun
  | [d1, d2, d3, d4] => { results := [.lit (.bool false)], args := [d1, d2, d3, d4] }
  | _ => none }
def EqualFirstWrongFalsely : Prop := equalFirstRow.holds Try.pinned (OpenSpec.ofChange equalFirstWrong)

/-- 'outworkerlaw13.EqualSets': WHATEVER THE INPUT: true; the input reads as it did. -/
def equalSetsSpec : ChangeSpec := { name := "equalSets", fn := fun _ => fun
  | [d1, d2, d3, d4] => { results := [.lit (.bool true)], args := [d1, d2, d3, d4] }
  | _ => none }
def equalSetsRow : OpenClaim := { program := "ytmkkebllmmafmaa", sum := "c7e53c245556ec9ff5210c4018c99fc062f132e9349d59eba746b95f46c8f056", func := "outworker/outworkerlaw13.EqualSets", spec := "equalSets", unfollowed := true, recurses := true, apart := false }
def EqualSetsSaid : Prop := equalSetsRow.holds Try.pinned (OpenSpec.ofChange equalSetsSpec)

/-- ITS FALSE NEIGHBOUR: 'it returns false'. Refute it at one input. -/
def equalSetsWrong : ChangeSpec := { name := "equalSets", fn := fun _ => fun
  | [d1, d2, d3, d4] => { results := [.lit (.bool false)], args := [d1, d2, d3, d4] }
  | _ => none }
def EqualSetsWrongFalsely : Prop := equalSetsRow.holds Try.pinned (OpenSpec.ofChange equalSetsWrong)

/-- 'outworkerlaw13.EqualRuns': WHATEVER THE INPUT: true; the input reads as it did. -/
def equalRunsSpec : ChangeSpec := { name := "equalRuns", fn := fun _ => fun
  | [d1, d2, d3] => { results := [.lit (.bool true)], args := [d1, d2, d3] }
  | _ => none }
def equalRunsRow : OpenClaim := { program := "ytmkkebllmmafmaa", sum := "c7e53c245556ec9ff5210c4018c99fc062f132e9349d59eba746b95f46c8f056", func := "outworker/outworkerlaw13.EqualRuns", spec := "equalRuns", unfollowed := true, recurses := true, apart := false }
def EqualRunsSaid : Prop := equalRunsRow.holds Try.pinned (OpenSpec.ofChange equalRunsSpec)

/-- ITS FALSE NEIGHBOUR: 'it returns false'. Refute it at one input. -/
def equalRunsWrong : ChangeSpec := { name := "equalRuns", fn := fun _ => fun
  | [d1, d2, d3] => { results := [.lit (.bool false)], args := [d1, d2, d3] }
  | _ => none }
def EqualRunsWrongFalsely : Prop := equalRunsRow.holds Try.pinned (OpenSpec.ofChange equalRunsWrong)

/-- 'outworkerlaw13.EqualTwice': WHATEVER THE INPUT: true; the input reads as it did. -/
def equalTwiceSpec : ChangeSpec := { name := "equalTwice", fn := fun _ => fun
  | [d1, d2, d3] => { results := [.lit (.bool true)], args := [d1, d2, d3] }
  | _ => none }
def equalTwiceRow : OpenClaim := { program := "ytmkkebllmmafmaa", sum := "c7e53c245556ec9ff5210c4018c99fc062f132e9349d59eba746b95f46c8f056", func := "outworker/outworkerlaw13.EqualTwice", spec := "equalTwice", unfollowed := true, recurses := true, apart := false }
def EqualTwiceSaid : Prop := equalTwiceRow.holds Try.pinned (OpenSpec.ofChange equalTwiceSpec)

/-- ITS FALSE NEIGHBOUR: 'it returns false'. Refute it at one input. -/
def equalTwiceWrong : ChangeSpec := { name := "equalTwice", fn := fun _ => fun
  | [d1, d2, d3] => { results := [.lit (.bool false)], args := [d1, d2, d3] }
  | _ => none }
def EqualTwiceWrongFalsely : Prop := equalTwiceRow.holds Try.pinned (OpenSpec.ofChange equalTwiceWrong)

/-- 'outworkerlaw13.EqualMore': WHATEVER THE INPUT: true; the input reads as it did. -/
def equalMoreSpec : ChangeSpec := { name := "equalMore", fn := fun _ => fun
  | [d1, d2, d3, d4, d5] => { results := [.lit (.bool true)], args := [d1, d2, d3, d4, d5] }
  | _ => none }
def equalMoreRow : OpenClaim := { program := "ytmkkebllmmafmaa", sum := "c7e53c245556ec9ff5210c4018c99fc062f132e9349d59eba746b95f46c8f056", func := "outworker/outworkerlaw13.EqualMore", spec := "equalMore", unfollowed := true, recurses := true, apart := false }
def EqualMoreSaid : Prop := equalMoreRow.holds Try.pinned (OpenSpec.ofChange equalMoreSpec)

/-- ITS FALSE NEIGHBOUR: 'it returns false'. Refute it at one input. -/
def equalMoreWrong : ChangeSpec := { name := "equalMore", fn := fun _ => fun
  | [d1, d2, d3, d4, d5] => { results := [.lit (.bool false)], args := [d1, d2, d3, d4, d5] }
  | _ => none }
def EqualMoreWrongFalsely : Prop := equalMoreRow.holds Try.pinned (OpenSpec.ofChange equalMoreWrong)

/- THE SECOND FORM. 'bulk': how many values and letters a reading holds, each counted each time it is reached (what is shared counts as often as it is met; a slice's spare places count too). A statement '..UptoSaid' is the law's where the arguments, and the package variables that the reading takes, are together of bulk at most 1048576: NARROWER than '..Said'. Prove '..Said' where nothing that the law and all that it calls make is longer than what came in: it says more and counts as full. Else prove '..UptoSaid'. A law counts once. -/
mutual
def uptoBulk {H : Type} : DataW H → Nat
  | .lit (.string bytes) => bytes.length + 1
  | .lit _ => 1
  | .nil => 1
  | .ptr d => uptoBulk d + 1
  | .slice elems spare => uptoBulkAll elems + uptoBulkAll spare + 1
  | .agg parts => uptoBulkAll parts + 1
  | .iface _ d => uptoBulk d + 1
  | .map entries => uptoBulkEntries entries + 1
  | .held _ => 1
def uptoBulkAll {H : Type} : List (DataW H) → Nat
  | [] => 0
  | d :: r => uptoBulk d + uptoBulkAll r
def uptoBulkEntries {H : Type} : List (Lit × DataW H) → Nat
  | [] => 0
  | x :: r => uptoBulkEntry x + uptoBulkEntries r
def uptoBulkEntry {H : Type} : Lit × DataW H → Nat
  | (.string bytes, d) => bytes.length + uptoBulk d + 1
  | (_, d) => uptoBulk d + 1
 end
def uptoSmall : (H : Type) → List (DataW H) → Bool := fun _ ds => decide (uptoBulkAll ds ≤ 1048576)
def OpenSpec.upto (s : _root_.Go.ChangeSpec) : _root_.Go.OpenSpec := { _root_.Go.OpenSpec.ofChange s with cond := some uptoSmall }

/-- 'outworkerlaw13.EqualRight', WHERE WHAT IT READS IS OF BULK AT MOST 1048576: true; the input reads as it did. -/
def equalRightUptoRow : OpenClaim := { program := "ytmkkebllmmafmaa", sum := "c7e53c245556ec9ff5210c4018c99fc062f132e9349d59eba746b95f46c8f056", func := "outworker/outworkerlaw13.EqualRight", spec := "equalRight", unfollowed := true, recurses := true, apart := false, narrowed := true }
def EqualRightUptoSaid : Prop := equalRightUptoRow.holds Try.pinned (OpenSpec.upto equalRightSpec)

/-- 'outworkerlaw13.EqualSteps', WHERE WHAT IT READS IS OF BULK AT MOST 1048576: true; the input reads as it did. -/
def equalStepsUptoRow : OpenClaim := { program := "ytmkkebllmmafmaa", sum := "c7e53c245556ec9ff5210c4018c99fc062f132e9349d59eba746b95f46c8f056", func := "outworker/outworkerlaw13.EqualSteps", spec := "equalSteps", unfollowed := true, recurses := true, apart := false, narrowed := true }
def EqualStepsUptoSaid : Prop := equalStepsUptoRow.holds Try.pinned (OpenSpec.upto equalStepsSpec)

/-- 'outworkerlaw13.EqualFirst', WHERE WHAT IT READS IS OF BULK AT MOST 1048576: true; the input reads as it did. -/
def equalFirstUptoRow : OpenClaim := { program := "ytmkkebllmmafmaa", sum := "c7e53c245556ec9ff5210c4018c99fc062f132e9349d59eba746b95f46c8f056", func := "outworker/outworkerlaw13.EqualFirst", spec := "equalFirst", unfollowed := true, recurses := true, apart := false, narrowed := true }
def EqualFirstUptoSaid : Prop := equalFirstUptoRow.holds Try.pinned (OpenSpec.upto equalFirstSpec)

/-- 'outworkerlaw13.EqualSets', WHERE WHAT IT READS IS OF BULK AT MOST 1048576: true; the input reads as it did. -/
def equalSetsUptoRow : OpenClaim := { program := "ytmkkebllmmafmaa", sum := "c7e53c245556ec9ff5210c4018c99fc062f132e9349d59eba746b95f46c8f056", func := "outworker/outworkerlaw13.EqualSets", spec := "equalSets", unfollowed := true, recurses := true, apart := false, narrowed := true }
def EqualSetsUptoSaid : Prop := equalSetsUptoRow.holds Try.pinned (OpenSpec.upto equalSetsSpec)

/-- 'outworkerlaw13.EqualRuns', WHERE WHAT IT READS IS OF BULK AT MOST 1048576: true; the input reads as it did. -/
def equalRunsUptoRow : OpenClaim := { program := "ytmkkebllmmafmaa", sum := "c7e53c245556ec9ff5210c4018c99fc062f132e9349d59eba746b95f46c8f056", func := "outworker/outworkerlaw13.EqualRuns", spec := "equalRuns", unfollowed := true, recurses := true, apart := false, narrowed := true }
def EqualRunsUptoSaid : Prop := equalRunsUptoRow.holds Try.pinned (OpenSpec.upto equalRunsSpec)

/-- 'outworkerlaw13.EqualTwice', WHERE WHAT IT READS IS OF BULK AT MOST 1048576: true; the input reads as it did. -/
def equalTwiceUptoRow : OpenClaim := { program := "ytmkkebllmmafmaa", sum := "c7e53c245556ec9ff5210c4018c99fc062f132e9349d59eba746b95f46c8f056", func := "outworker/outworkerlaw13.EqualTwice", spec := "equalTwice", unfollowed := true, recurses := true, apart := false, narrowed := true }
def EqualTwiceUptoSaid : Prop := equalTwiceUptoRow.holds Try.pinned (OpenSpec.upto equalTwiceSpec)

/-- 'outworkerlaw13.EqualMore', WHERE WHAT IT READS IS OF BULK AT MOST 1048576: true; the input reads as it did. -/
def equalMoreUptoRow : OpenClaim := { program := "ytmkkebllmmafmaa", sum := "c7e53c245556ec9ff5210c4018c99fc062f132e9349d59eba746b95f46c8f056", func := "outworker/outworkerlaw13.EqualMore", spec := "equalMore", unfollowed := true, recurses := true, apart := false, narrowed := true }
def EqualMoreUptoSaid : Prop := equalMoreUptoRow.holds Try.pinned (OpenSpec.upto equalMoreSpec)

end Rows
end Go.Proofs.Ytmkkebllmmafmaa
