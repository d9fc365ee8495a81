/-
  No cell of these rows narrows 'for every input' (looked for: loops, veiled, ifaces, maps, wideKeys, modest, calm, conditions, laid).
  DERIVED. THE GIVEN ROWS OF THIS SEAT. 6 by the template 'for every input the law returns true; each argument reads behind the call as it read before'; 0 by the template 'total and deterministic' (their statements: YtddocpienaoldaaTotals.lean).
  GIVEN WITH THE SEED: the statements are not yours to turn. If you find one false, say at which input.
  Laid BY PROGRAM, IN A SANDBOX (cutbox-rows.mjs): the forced cells as the released guide's own fill.sh prints them over the translation c2ec5b16f7a3ca24… (all of the seat's roots in one cut). By AI agents, Wed Nov 11 2026. No macro, syntax, notation, axiom, sorry.
-/
import Derived.Test.YtddocpienaoldaaChecked
import GoSem.Claim
import GoSem.ClaimJoined
import GoSem.ClaimMapViews
import Derived.JoinedTies
import Derived.KernelRfl
namespace Go.Proofs.Ytddocpienaoldaa
/- THE CELL 'sum', in the pinned program and in every row, IS THE sha256 OF THE DUMP (.gsa) THAT YtddocpienaoldaaProg.lean LOADS. Nothing in Lean hashes anything: it is a label: what it is worth is what the hold of that sum in a sandbox is worth. -/
noncomputable def Try.pinned : Pinned := { name := "ytddocpienaoldaa", sum := "c2ec5b16f7a3ca24ab6b8dc00d9a3dcb68e8f1b48eb3093438436b917652edec", checked := Try.checked }
namespace Rows
def none {H : Type} : Left H := { results := [], args := [] }

/-- 'outworkerlaw01.LebPuts': WHATEVER THE INPUT: true; the input reads as it did. -/
def lebPutsSpec : ChangeSpec := { name := "lebPuts", fn := fun _ => fun
  | [d1, d2, d3] => { results := [.lit (.bool true)], args := [d1, d2, d3] }
  | _ => none }
def lebPutsRow : OpenClaim := { program := "ytddocpienaoldaa", sum := "c2ec5b16f7a3ca24ab6b8dc00d9a3dcb68e8f1b48eb3093438436b917652edec", func := "outworker/outworkerlaw01.LebPuts", spec := "lebPuts", apart := false }
def LebPutsSaid : Prop := lebPutsRow.holds Try.pinned (OpenSpec.ofChange lebPutsSpec)

/-- ITS FALSE NEIGHBOUR: 'it returns false'. Refute it at one input. -/
def lebPutsWrong : ChangeSpec := { name := "lebPuts", fn := fun _ => fun
  | [d1, d2, d3] => { results := [.lit (.bool false)], args := [d1, d2, d3] }
  | _ => none }
def LebPutsWrongFalsely : Prop := lebPutsRow.holds Try.pinned (OpenSpec.ofChange lebPutsWrong)

/-- 'outworkerlaw01.LebSize': WHATEVER THE INPUT: true; the input reads as it did. -/
def lebSizeSpec : ChangeSpec := { name := "lebSize", fn := fun _ => fun
  | [d1, d2] => { results := [.lit (.bool true)], args := [d1, d2] }
  | _ => none }
def lebSizeRow : OpenClaim := { program := "ytddocpienaoldaa", sum := "c2ec5b16f7a3ca24ab6b8dc00d9a3dcb68e8f1b48eb3093438436b917652edec", func := "outworker/outworkerlaw01.LebSize", spec := "lebSize", apart := false }
def LebSizeSaid : Prop := lebSizeRow.holds Try.pinned (OpenSpec.ofChange lebSizeSpec)

/-- ITS FALSE NEIGHBOUR: 'it returns false'. Refute it at one input. -/
def lebSizeWrong : ChangeSpec := { name := "lebSize", fn := fun _ => fun
  | [d1, d2] => { results := [.lit (.bool false)], args := [d1, d2] }
  | _ => none }
def LebSizeWrongFalsely : Prop := lebSizeRow.holds Try.pinned (OpenSpec.ofChange lebSizeWrong)

/-- 'outworkerlaw01.LebNear': WHATEVER THE INPUT: true; the input reads as it did. -/
def lebNearSpec : ChangeSpec := { name := "lebNear", fn := fun _ => fun
  | [d1, d2] => { results := [.lit (.bool true)], args := [d1, d2] }
  | _ => none }
def lebNearRow : OpenClaim := { program := "ytddocpienaoldaa", sum := "c2ec5b16f7a3ca24ab6b8dc00d9a3dcb68e8f1b48eb3093438436b917652edec", func := "outworker/outworkerlaw01.LebNear", spec := "lebNear", apart := false }
def LebNearSaid : Prop := lebNearRow.holds Try.pinned (OpenSpec.ofChange lebNearSpec)

/-- ITS FALSE NEIGHBOUR: 'it returns false'. Refute it at one input. -/
def lebNearWrong : ChangeSpec := { name := "lebNear", fn := fun _ => fun
  | [d1, d2] => { results := [.lit (.bool false)], args := [d1, d2] }
  | _ => none }
def LebNearWrongFalsely : Prop := lebNearRow.holds Try.pinned (OpenSpec.ofChange lebNearWrong)

/-- 'outworkerlaw01.LebOne': WHATEVER THE INPUT: true; the input reads as it did. -/
def lebOneSpec : ChangeSpec := { name := "lebOne", fn := fun _ => fun
  | [d] => { results := [.lit (.bool true)], args := [d] }
  | _ => none }
def lebOneRow : OpenClaim := { program := "ytddocpienaoldaa", sum := "c2ec5b16f7a3ca24ab6b8dc00d9a3dcb68e8f1b48eb3093438436b917652edec", func := "outworker/outworkerlaw01.LebOne", spec := "lebOne", apart := false }
def LebOneSaid : Prop := lebOneRow.holds Try.pinned (OpenSpec.ofChange lebOneSpec)

/-- ITS FALSE NEIGHBOUR: 'it returns false'. Refute it at one input. -/
def lebOneWrong : ChangeSpec := { name := "lebOne", fn := fun _ => fun
  | [d] => { results := [.lit (.bool false)], args := [d] }
  | _ => none }
def LebOneWrongFalsely : Prop := lebOneRow.holds Try.pinned (OpenSpec.ofChange lebOneWrong)

/-- 'outworkerlaw01.LebBack': WHATEVER THE INPUT: true; the input reads as it did. -/
def lebBackSpec : ChangeSpec := { name := "lebBack", fn := fun _ => fun
  | [d1, d2] => { results := [.lit (.bool true)], args := [d1, d2] }
  | _ => none }
def lebBackRow : OpenClaim := { program := "ytddocpienaoldaa", sum := "c2ec5b16f7a3ca24ab6b8dc00d9a3dcb68e8f1b48eb3093438436b917652edec", func := "outworker/outworkerlaw01.LebBack", spec := "lebBack", apart := false }
def LebBackSaid : Prop := lebBackRow.holds Try.pinned (OpenSpec.ofChange lebBackSpec)

/-- ITS FALSE NEIGHBOUR: 'it returns false'. Refute it at one input. -/
def lebBackWrong : ChangeSpec := { name := "lebBack", fn := fun _ => fun
  | [d1, d2] => { results := [.lit (.bool false)], args := [d1, d2] }
  | _ => none }
def LebBackWrongFalsely : Prop := lebBackRow.holds Try.pinned (OpenSpec.ofChange lebBackWrong)

/-- 'outworkerlaw01.LebReads': WHATEVER THE INPUT: true; the input reads as it did. -/
def lebReadsSpec : ChangeSpec := { name := "lebReads", fn := fun _ => fun
  | [d1, d2] => { results := [.lit (.bool true)], args := [d1, d2] }
  | _ => none }
def lebReadsRow : OpenClaim := { program := "ytddocpienaoldaa", sum := "c2ec5b16f7a3ca24ab6b8dc00d9a3dcb68e8f1b48eb3093438436b917652edec", func := "outworker/outworkerlaw01.LebReads", spec := "lebReads", apart := false }
def LebReadsSaid : Prop := lebReadsRow.holds Try.pinned (OpenSpec.ofChange lebReadsSpec)

/-- ITS FALSE NEIGHBOUR: 'it returns false'. Refute it at one input. -/
def lebReadsWrong : ChangeSpec := { name := "lebReads", fn := fun _ => fun
  | [d1, d2] => { results := [.lit (.bool false)], args := [d1, d2] }
  | _ => none }
def LebReadsWrongFalsely : Prop := lebReadsRow.holds Try.pinned (OpenSpec.ofChange lebReadsWrong)

/- THE SECOND FORM. 'bulk': how many values and letters a reading holds, each counted each time it is reached (what is shared counts as often as it is met; a slice's spare places count too). A statement '..UptoSaid' is the law's where the arguments, and the package variables that the reading takes, are together of bulk at most 1048576: NARROWER than '..Said'. Prove '..Said' where nothing that the law and all that it calls make is longer than what came in: it says more and counts as full. Else prove '..UptoSaid'. A law counts once. -/
mutual
def uptoBulk {H : Type} : DataW H → Nat
  | .lit (.string bytes) => bytes.length + 1
  | .lit _ => 1
  | .nil => 1
  | .ptr d => uptoBulk d + 1
  | .slice elems spare => uptoBulkAll elems + uptoBulkAll spare + 1
  | .agg parts => uptoBulkAll parts + 1
  | .iface _ d => uptoBulk d + 1
  | .map entries => uptoBulkEntries entries + 1
  | .held _ => 1
def uptoBulkAll {H : Type} : List (DataW H) → Nat
  | [] => 0
  | d :: r => uptoBulk d + uptoBulkAll r
def uptoBulkEntries {H : Type} : List (Lit × DataW H) → Nat
  | [] => 0
  | x :: r => uptoBulkEntry x + uptoBulkEntries r
def uptoBulkEntry {H : Type} : Lit × DataW H → Nat
  | (.string bytes, d) => bytes.length + uptoBulk d + 1
  | (_, d) => uptoBulk d + 1
 end
def uptoSmall : (H : Type) → List (DataW H) → Bool := fun _ ds => decide (uptoBulkAll ds ≤ 1048576)
def OpenSpec.upto (s : _root_.Go.ChangeSpec) : _root_.Go.OpenSpec := { _root_.Go.OpenSpec.ofChange s with cond := some uptoSmall }

/-- 'outworkerlaw01.LebPuts', WHERE WHAT IT READS IS OF BULK AT MOST 1048576: true; the input reads as it did. -/
def lebPutsUptoRow : OpenClaim := { program := "ytddocpienaoldaa", sum := "c2ec5b16f7a3ca24ab6b8dc00d9a3dcb68e8f1b48eb3093438436b917652edec", func := "outworker/outworkerlaw01.LebPuts", spec := "lebPuts", apart := false, narrowed := true }
def LebPutsUptoSaid : Prop := lebPutsUptoRow.holds Try.pinned (OpenSpec.upto lebPutsSpec)

/-- 'outworkerlaw01.LebSize', WHERE WHAT IT READS IS OF BULK AT MOST 1048576: true; the input reads as it did. -/
def lebSizeUptoRow : OpenClaim := { program := "ytddocpienaoldaa", sum := "c2ec5b16f7a3ca24ab6b8dc00d9a3dcb68e8f1b48eb3093438436b917652edec", func := "outworker/outworkerlaw01.LebSize", spec := "lebSize", apart := false, narrowed := true }
def LebSizeUptoSaid : Prop := lebSizeUptoRow.holds Try.pinned (OpenSpec.upto lebSizeSpec)

/-- 'outworkerlaw01.LebNear', WHERE WHAT IT READS IS OF BULK AT MOST 1048576: true; the input reads as it did. -/
def lebNearUptoRow : OpenClaim := { program := "ytddocpienaoldaa", sum := "c2ec5b16f7a3ca24ab6b8dc00d9a3dcb68e8f1b48eb3093438436b917652edec", func := "outworker/outworkerlaw01.LebNear", spec := "lebNear", apart := false, narrowed := true }
def LebNearUptoSaid : Prop := lebNearUptoRow.holds Try.pinned (OpenSpec.upto lebNearSpec)

/-- 'outworkerlaw01.LebOne', WHERE WHAT IT READS IS OF BULK AT MOST 1048576: true; the input reads as it did. -/
def lebOneUptoRow : OpenClaim := { program := "ytddocpienaoldaa", sum := "c2ec5b16f7a3ca24ab6b8dc00d9a3dcb68e8f1b48eb3093438436b917652edec", func := "outworker/outworkerlaw01.LebOne", spec := "lebOne", apart := false, narrowed := true }
def LebOneUptoSaid : Prop := lebOneUptoRow.holds Try.pinned (OpenSpec.upto lebOneSpec)

/-- 'outworkerlaw01.LebBack', WHERE WHAT IT READS IS OF BULK AT MOST 1048576: true; the input reads as it did. -/
def lebBackUptoRow : OpenClaim := { program := "ytddocpienaoldaa", sum := "c2ec5b16f7a3ca24ab6b8dc00d9a3dcb68e8f1b48eb3093438436b917652edec", func := "outworker/outworkerlaw01.LebBack", spec := "lebBack", apart := false, narrowed := true }
def LebBackUptoSaid : Prop := lebBackUptoRow.holds Try.pinned (OpenSpec.upto lebBackSpec)

/-- 'outworkerlaw01.LebReads', WHERE WHAT IT READS IS OF BULK AT MOST 1048576: true; the input reads as it did. -/
def lebReadsUptoRow : OpenClaim := { program := "ytddocpienaoldaa", sum := "c2ec5b16f7a3ca24ab6b8dc00d9a3dcb68e8f1b48eb3093438436b917652edec", func := "outworker/outworkerlaw01.LebReads", spec := "lebReads", apart := false, narrowed := true }
def LebReadsUptoSaid : Prop := lebReadsUptoRow.holds Try.pinned (OpenSpec.upto lebReadsSpec)

end Rows
end Go.Proofs.Ytddocpienaoldaa
