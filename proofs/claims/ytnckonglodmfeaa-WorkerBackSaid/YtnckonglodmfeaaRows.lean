/-
  No cell of these rows narrows 'for every input' (looked for: loops, veiled, ifaces, maps, wideKeys, modest, calm, conditions, laid).
  DERIVED. THE GIVEN ROWS OF THIS SEAT. 7 by the template 'for every input the law returns true; each argument reads behind the call as it read before'; 0 by the template 'total and deterministic' (their statements: YtnckonglodmfeaaTotals.lean).
  GIVEN WITH THE SEED: the statements are not yours to turn. If you find one false, say at which input.
  Laid BY PROGRAM, IN A SANDBOX (cutbox-rows.mjs): the forced cells as the released guide's own fill.sh prints them over the translation 72a336d1bf63dfa3… (all of the seat's roots in one cut). By AI agents, Wed Nov 11 2026. No macro, syntax, notation, axiom, sorry.
-/
import Derived.Test.YtnckonglodmfeaaChecked
import GoSem.Claim
import GoSem.ClaimJoined
import GoSem.ClaimMapViews
import Derived.JoinedTies
import Derived.KernelRfl
namespace Go.Proofs.Ytnckonglodmfeaa
/- THE CELL 'sum', in the pinned program and in every row, IS THE sha256 OF THE DUMP (.gsa) THAT YtnckonglodmfeaaProg.lean LOADS. Nothing in Lean hashes anything: it is a label: what it is worth is what the hold of that sum in a sandbox is worth. -/
noncomputable def Try.pinned : Pinned := { name := "ytnckonglodmfeaa", sum := "72a336d1bf63dfa37e224062b0d1dd59cd207032d0b7ef7b53d2a206a897f4fd", checked := Try.checked }
namespace Rows
def none {H : Type} : Left H := { results := [], args := [] }

/-- 'outworkerlaw24.WorkerAsks': WHATEVER THE INPUT: true; the input reads as it did. -/
def workerAsksSpec : ChangeSpec := { name := "workerAsks", fn := fun _ => fun
  | [d1, d2, d3, d4, d5] => { results := [.lit (.bool true)], args := [d1, d2, d3, d4, d5] }
  | _ => none }
def workerAsksRow : OpenClaim := { program := "ytnckonglodmfeaa", sum := "72a336d1bf63dfa37e224062b0d1dd59cd207032d0b7ef7b53d2a206a897f4fd", func := "outworker/outworkerlaw24.WorkerAsks", spec := "workerAsks", unfollowed := true, recurses := true, apart := false }
def WorkerAsksSaid : Prop := workerAsksRow.holds Try.pinned (OpenSpec.ofChange workerAsksSpec)

/-- ITS FALSE NEIGHBOUR: 'it returns false'. Refute it at one input. -/
def workerAsksWrong : ChangeSpec := { name := "workerAsks", fn := fun _ => fun
  | [d1, d2, d3, d4, d5] => { results := [.lit (.bool false)], args := [d1, d2, d3, d4, d5] }
  | _ => none }
def WorkerAsksWrongFalsely : Prop := workerAsksRow.holds Try.pinned (OpenSpec.ofChange workerAsksWrong)

/-- 'outworkerlaw24.WorkerTells': WHATEVER THE INPUT: true; the input reads as it did. -/
def workerTellsSpec : ChangeSpec := { name := "workerTells", fn := fun _ => fun
  | [d1, d2, d3, d4, d5, d6] => { results := [.lit (.bool true)], args := [d1, d2, d3, d4, d5, d6] }
  | _ => none }
def workerTellsRow : OpenClaim := { program := "ytnckonglodmfeaa", sum := "72a336d1bf63dfa37e224062b0d1dd59cd207032d0b7ef7b53d2a206a897f4fd", func := "outworker/outworkerlaw24.WorkerTells", spec := "workerTells", unfollowed := true, recurses := true, apart := false }
def WorkerTellsSaid : Prop := workerTellsRow.holds Try.pinned (OpenSpec.ofChange workerTellsSpec)

/-- ITS FALSE NEIGHBOUR: 'it returns false'. Refute it at one input. -/
def workerTellsWrong : ChangeSpec := { name := "workerTells", fn := fun _ => fun
  | [d1, d2, d3, d4, d5, d6] => { results := [.lit (.bool false)], args := [d1, d2, d3, d4, d5, d6] }
  | _ => none }
def WorkerTellsWrongFalsely : Prop := workerTellsRow.holds Try.pinned (OpenSpec.ofChange workerTellsWrong)

/-- 'outworkerlaw24.WorkerBack': WHATEVER THE INPUT: true; the input reads as it did. -/
def workerBackSpec : ChangeSpec := { name := "workerBack", fn := fun _ => fun
  | [d1, d2, d3, d4, d5, d6] => { results := [.lit (.bool true)], args := [d1, d2, d3, d4, d5, d6] }
  | _ => none }
def workerBackRow : OpenClaim := { program := "ytnckonglodmfeaa", sum := "72a336d1bf63dfa37e224062b0d1dd59cd207032d0b7ef7b53d2a206a897f4fd", func := "outworker/outworkerlaw24.WorkerBack", spec := "workerBack", unfollowed := true, recurses := true, apart := false }
def WorkerBackSaid : Prop := workerBackRow.holds Try.pinned (OpenSpec.ofChange workerBackSpec)

/-- ITS FALSE NEIGHBOUR: 'it returns false'. Refute it at one input. -/
def workerBackWrong : ChangeSpec := { name := "workerBack", fn := fun _ => fun
  | [d1, d2, d3, d4, d5, d6] => { results := [.lit (.bool false)], args := [d1, d2, d3, d4, d5, d6] }
  | _ => none }
def WorkerBackWrongFalsely : Prop := workerBackRow.holds Try.pinned (OpenSpec.ofChange workerBackWrong)

/-- 'outworkerlaw14.CheckTurned': WHATEVER THE INPUT: true; the input reads as it did. -/
def checkTurnedSpec : ChangeSpec := { name := "checkTurned", fn := fun _ => fun
  | [d1, d2, d3, d4, d5, d6, d7] => { results := [.lit (.bool true)], args := [d1, d2, d3, d4, d5, d6, d7] }
  | _ => none }
def checkTurnedRow : OpenClaim := { program := "ytnckonglodmfeaa", sum := "72a336d1bf63dfa37e224062b0d1dd59cd207032d0b7ef7b53d2a206a897f4fd", func := "outworker/outworkerlaw14.CheckTurned", spec := "checkTurned", unfollowed := true, recurses := true, apart := false }
def CheckTurnedSaid : Prop := checkTurnedRow.holds Try.pinned (OpenSpec.ofChange checkTurnedSpec)

/-- ITS FALSE NEIGHBOUR: 'it returns false'. Refute it at one input. -/
def checkTurnedWrong : ChangeSpec := { name := "checkTurned", fn := fun _ => fun
  | [d1, d2, d3, d4, d5, d6, d7] => { results := [.lit (.bool false)], args := [d1, d2, d3, d4, d5, d6, d7] }
  | _ => none }
def CheckTurnedWrongFalsely : Prop := checkTurnedRow.holds Try.pinned (OpenSpec.ofChange checkTurnedWrong)

/-- 'outworkerlaw14.CheckAny': WHATEVER THE INPUT: true; the input reads as it did. -/
def checkAnySpec : ChangeSpec := { name := "checkAny", fn := fun _ => fun
  | [d1, d2, d3, d4] => { results := [.lit (.bool true)], args := [d1, d2, d3, d4] }
  | _ => none }
def checkAnyRow : OpenClaim := { program := "ytnckonglodmfeaa", sum := "72a336d1bf63dfa37e224062b0d1dd59cd207032d0b7ef7b53d2a206a897f4fd", func := "outworker/outworkerlaw14.CheckAny", spec := "checkAny", unfollowed := true, recurses := true, apart := false }
def CheckAnySaid : Prop := checkAnyRow.holds Try.pinned (OpenSpec.ofChange checkAnySpec)

/-- ITS FALSE NEIGHBOUR: 'it returns false'. Refute it at one input. -/
def checkAnyWrong : ChangeSpec := { name := "checkAny", fn := fun _ => fun
  | [d1, d2, d3, d4] => { results := [.lit (.bool false)], args := [d1, d2, d3, d4] }
  | _ => none }
def CheckAnyWrongFalsely : Prop := checkAnyRow.holds Try.pinned (OpenSpec.ofChange checkAnyWrong)

/-- 'outworkerlaw14.CheckNamed': WHATEVER THE INPUT: true; the input reads as it did. -/
def checkNamedSpec : ChangeSpec := { name := "checkNamed", fn := fun _ => fun
  | [d1, d2, d3, d4] => { results := [.lit (.bool true)], args := [d1, d2, d3, d4] }
  | _ => none }
def checkNamedRow : OpenClaim := { program := "ytnckonglodmfeaa", sum := "72a336d1bf63dfa37e224062b0d1dd59cd207032d0b7ef7b53d2a206a897f4fd", func := "outworker/outworkerlaw14.CheckNamed", spec := "checkNamed", unfollowed := true, recurses := true, apart := false }
def CheckNamedSaid : Prop := checkNamedRow.holds Try.pinned (OpenSpec.ofChange checkNamedSpec)

/-- ITS FALSE NEIGHBOUR: 'it returns false'. Refute it at one input. -/
def checkNamedWrong : ChangeSpec := { name := "checkNamed", fn := fun _ => fun
  | [d1, d2, d3, d4] => { results := [.lit (.bool false)], args := [d1, d2, d3, d4] }
  | _ => none }
def CheckNamedWrongFalsely : Prop := checkNamedRow.holds Try.pinned (OpenSpec.ofChange checkNamedWrong)

/-- 'outworkerlaw14.CheckMoves': WHATEVER THE INPUT: true; the input reads as it did. -/
def checkMovesSpec : ChangeSpec := { name := "checkMoves", fn := fun _ => fun
  | [d1, d2, d3, d4, d5, d6] => { results := [.lit (.bool true)], args := [d1, d2, d3, d4, d5, d6] }
  | _ => none }
def checkMovesRow : OpenClaim := { program := "ytnckonglodmfeaa", sum := "72a336d1bf63dfa37e224062b0d1dd59cd207032d0b7ef7b53d2a206a897f4fd", func := "outworker/outworkerlaw14.CheckMoves", spec := "checkMoves", unfollowed := true, recurses := true, apart := false }
def CheckMovesSaid : Prop := checkMovesRow.holds Try.pinned (OpenSpec.ofChange checkMovesSpec)

/-- ITS FALSE NEIGHBOUR: 'it returns false'. Refute it at one input. -/
def checkMovesWrong : ChangeSpec := { name := "checkMoves", fn := fun _ => fun
  | [d1, d2, d3, d4, d5, d6] => { results := [.lit (.bool false)], args := [d1, d2, d3, d4, d5, d6] }
  | _ => none }
def CheckMovesWrongFalsely : Prop := checkMovesRow.holds Try.pinned (OpenSpec.ofChange checkMovesWrong)

/- THE SECOND FORM. 'bulk': how many values and letters a reading holds, each counted each time it is reached (what is shared counts as often as it is met; a slice's spare places count too). A statement '..UptoSaid' is the law's where the arguments, and the package variables that the reading takes, are together of bulk at most 1048576: NARROWER than '..Said'. Prove '..Said' where nothing that the law and all that it calls make is longer than what came in: it says more and counts as full. Else prove '..UptoSaid'. A law counts once. -/
mutual
def uptoBulk {H : Type} : DataW H → Nat
  | .lit (.string bytes) => bytes.length + 1
  | .lit _ => 1
  | .nil => 1
  | .ptr d => uptoBulk d + 1
  | .slice elems spare => uptoBulkAll elems + uptoBulkAll spare + 1
  | .agg parts => uptoBulkAll parts + 1
  | .iface _ d => uptoBulk d + 1
  | .map entries => uptoBulkEntries entries + 1
  | .held _ => 1
def uptoBulkAll {H : Type} : List (DataW H) → Nat
  | [] => 0
  | d :: r => uptoBulk d + uptoBulkAll r
def uptoBulkEntries {H : Type} : List (Lit × DataW H) → Nat
  | [] => 0
  | x :: r => uptoBulkEntry x + uptoBulkEntries r
def uptoBulkEntry {H : Type} : Lit × DataW H → Nat
  | (.string bytes, d) => bytes.length + uptoBulk d + 1
  | (_, d) => uptoBulk d + 1
 end
def uptoSmall : (H : Type) → List (DataW H) → Bool := fun _ ds => decide (uptoBulkAll ds ≤ 1048576)
def OpenSpec.upto (s : _root_.Go.ChangeSpec) : _root_.Go.OpenSpec := { _root_.Go.OpenSpec.ofChange s with cond := some uptoSmall }

/-- 'outworkerlaw24.WorkerAsks', WHERE WHAT IT READS IS OF BULK AT MOST 1048576: true; the input reads as it did. -/
def workerAsksUptoRow : OpenClaim := { program := "ytnckonglodmfeaa", sum := "72a336d1bf63dfa37e224062b0d1dd59cd207032d0b7ef7b53d2a206a897f4fd", func := "outworker/outworkerlaw24.WorkerAsks", spec := "workerAsks", unfollowed := true, recurses := true, apart := false, narrowed := true }
def WorkerAsksUptoSaid : Prop := workerAsksUptoRow.holds Try.pinned (OpenSpec.upto workerAsksSpec)

/-- 'outworkerlaw24.WorkerTells', WHERE WHAT IT READS IS OF BULK AT MOST 1048576: true; the input reads as it did. -/
def workerTellsUptoRow : OpenClaim := { program := "ytnckonglodmfeaa", sum := "72a336d1bf63dfa37e224062b0d1dd59cd207032d0b7ef7b53d2a206a897f4fd", func := "outworker/outworkerlaw24.WorkerTells", spec := "workerTells", unfollowed := true, recurses := true, apart := false, narrowed := true }
def WorkerTellsUptoSaid : Prop := workerTellsUptoRow.holds Try.pinned (OpenSpec.upto workerTellsSpec)

/-- 'outworkerlaw24.WorkerBack', WHERE WHAT IT READS IS OF BULK AT MOST 1048576: true; the input reads as it did. -/
def workerBackUptoRow : OpenClaim := { program := "ytnckonglodmfeaa", sum := "72a336d1bf63dfa37e224062b0d1dd59cd207032d0b7ef7b53d2a206a897f4fd", func := "outworker/outworkerlaw24.WorkerBack", spec := "workerBack", unfollowed := true, recurses := true, apart := false, narrowed := true }
def WorkerBackUptoSaid : Prop := workerBackUptoRow.holds Try.pinned (OpenSpec.upto workerBackSpec)

/-- 'outworkerlaw14.CheckTurned', WHERE WHAT IT READS IS OF BULK AT MOST 1048576: true; the input reads as it did. -/
def checkTurnedUptoRow : OpenClaim := { program := "ytnckonglodmfeaa", sum := "72a336d1bf63dfa37e224062b0d1dd59cd207032d0b7ef7b53d2a206a897f4fd", func := "outworker/outworkerlaw14.CheckTurned", spec := "checkTurned", unfollowed := true, recurses := true, apart := false, narrowed := true }
def CheckTurnedUptoSaid : Prop := checkTurnedUptoRow.holds Try.pinned (OpenSpec.upto checkTurnedSpec)

/-- 'outworkerlaw14.CheckAny', WHERE WHAT IT READS IS OF BULK AT MOST 1048576: true; the input reads as it did. -/
def checkAnyUptoRow : OpenClaim := { program := "ytnckonglodmfeaa", sum := "72a336d1bf63dfa37e224062b0d1dd59cd207032d0b7ef7b53d2a206a897f4fd", func := "outworker/outworkerlaw14.CheckAny", spec := "checkAny", unfollowed := true, recurses := true, apart := false, narrowed := true }
def CheckAnyUptoSaid : Prop := checkAnyUptoRow.holds Try.pinned (OpenSpec.upto checkAnySpec)

/-- 'outworkerlaw14.CheckNamed', WHERE WHAT IT READS IS OF BULK AT MOST 1048576: true; the input reads as it did. -/
def checkNamedUptoRow : OpenClaim := { program := "ytnckonglodmfeaa", sum := "72a336d1bf63dfa37e224062b0d1dd59cd207032d0b7ef7b53d2a206a897f4fd", func := "outworker/outworkerlaw14.CheckNamed", spec := "checkNamed", unfollowed := true, recurses := true, apart := false, narrowed := true }
def CheckNamedUptoSaid : Prop := checkNamedUptoRow.holds Try.pinned (OpenSpec.upto checkNamedSpec)

/-- 'outworkerlaw14.CheckMoves', WHERE WHAT IT READS IS OF BULK AT MOST 1048576: true; the input reads as it did. -/
def checkMovesUptoRow : OpenClaim := { program := "ytnckonglodmfeaa", sum := "72a336d1bf63dfa37e224062b0d1dd59cd207032d0b7ef7b53d2a206a897f4fd", func := "outworker/outworkerlaw14.CheckMoves", spec := "checkMoves", unfollowed := true, recurses := true, apart := false, narrowed := true }
def CheckMovesUptoSaid : Prop := checkMovesUptoRow.holds Try.pinned (OpenSpec.upto checkMovesSpec)

end Rows
end Go.Proofs.Ytnckonglodmfeaa
