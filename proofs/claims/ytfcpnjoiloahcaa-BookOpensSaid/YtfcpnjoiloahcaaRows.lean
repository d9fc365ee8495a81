/-
  No cell of these rows narrows 'for every input' (looked for: loops, veiled, ifaces, maps, wideKeys, modest, calm, conditions, laid).
  DERIVED. THE GIVEN ROWS OF THIS SEAT. 7 by the template 'for every input the law returns true; each argument reads behind the call as it read before'; 0 by the template 'total and deterministic' (their statements: YtfcpnjoiloahcaaTotals.lean).
  GIVEN WITH THE SEED: the statements are not yours to turn. If you find one false, say at which input.
  Laid BY PROGRAM, IN A SANDBOX (cutbox-rows.mjs): the forced cells as the released guide's own fill.sh prints them over the translation 037e8a625865a19a… (all of the seat's roots in one cut). By AI agents, Wed Nov 11 2026. No macro, syntax, notation, axiom, sorry.
-/
import Derived.Test.YtfcpnjoiloahcaaChecked
import GoSem.Claim
import GoSem.ClaimJoined
import GoSem.ClaimMapViews
import Derived.JoinedTies
import Derived.KernelRfl
namespace Go.Proofs.Ytfcpnjoiloahcaa
/- THE CELL 'sum', in the pinned program and in every row, IS THE sha256 OF THE DUMP (.gsa) THAT YtfcpnjoiloahcaaProg.lean LOADS. Nothing in Lean hashes anything: it is a label: what it is worth is what the hold of that sum in a sandbox is worth. -/
noncomputable def Try.pinned : Pinned := { name := "ytfcpnjoiloahcaa", sum := "037e8a625865a19aa5cd4edc9eab6490392fcefb485bcb7dc36982539aeaf566", checked := Try.checked }
namespace Rows
def none {H : Type} : Left H := { results := [], args := [] }

/-- 'outworkerlaw03.FrameRows': WHATEVER THE INPUT: true; the input reads as it did. -/
def frameRowsSpec : ChangeSpec := { name := "frameRows", fn := fun _ => fun
  | [d1, d2, d3, d4] => { results := [.lit (.bool true)], args := [d1, d2, d3, d4] }
  | _ => none }
def frameRowsRow : OpenClaim := { program := "ytfcpnjoiloahcaa", sum := "037e8a625865a19aa5cd4edc9eab6490392fcefb485bcb7dc36982539aeaf566", func := "outworker/outworkerlaw03.FrameRows", spec := "frameRows", apart := false }
def FrameRowsSaid : Prop := frameRowsRow.holds Try.pinned (OpenSpec.ofChange frameRowsSpec)

/-- ITS FALSE NEIGHBOUR: 'it returns false'. Refute it at one input. -/
def frameRowsWrong : ChangeSpec := { name := "frameRows", fn := fun _ => fun
  | [d1, d2, d3, d4] => { results := [.lit (.bool false)], args := [d1, d2, d3, d4] }
  | _ => none }
def FrameRowsWrongFalsely : Prop := frameRowsRow.holds Try.pinned (OpenSpec.ofChange frameRowsWrong)

/-- 'outworkerlaw21.BookPlays': WHATEVER THE INPUT: true; the input reads as it did. -/
def bookPlaysSpec : ChangeSpec := { name := "bookPlays", fn := fun _ => fun
  | [d1, d2] => { results := [.lit (.bool true)], args := [d1, d2] }
  | _ => none }
def bookPlaysRow : OpenClaim := { program := "ytfcpnjoiloahcaa", sum := "037e8a625865a19aa5cd4edc9eab6490392fcefb485bcb7dc36982539aeaf566", func := "outworker/outworkerlaw21.BookPlays", spec := "bookPlays", inPlace := ["slices.overlaps[int]", "slices.overlaps[[]byte]"], apart := false }
def BookPlaysSaid : Prop := bookPlaysRow.holds Try.pinned (OpenSpec.ofChange bookPlaysSpec)

/-- ITS FALSE NEIGHBOUR: 'it returns false'. Refute it at one input. -/
def bookPlaysWrong : ChangeSpec := { name := "bookPlays", fn := fun _ => fun
  | [d1, d2] => { results := [.lit (.bool false)], args := [d1, d2] }
  | _ => none }
def BookPlaysWrongFalsely : Prop := bookPlaysRow.holds Try.pinned (OpenSpec.ofChange bookPlaysWrong)

/-- 'outworkerlaw21.BookOpens': WHATEVER THE INPUT: true; the input reads as it did. -/
def bookOpensSpec : ChangeSpec := { name := "bookOpens", fn := fun _ => fun
  | [d1, d2, d3, d4, d5] => { results := [.lit (.bool true)], args := [d1, d2, d3, d4, d5] }
  | _ => none }
def bookOpensRow : OpenClaim := { program := "ytfcpnjoiloahcaa", sum := "037e8a625865a19aa5cd4edc9eab6490392fcefb485bcb7dc36982539aeaf566", func := "outworker/outworkerlaw21.BookOpens", spec := "bookOpens", inPlace := ["slices.overlaps[int]", "slices.overlaps[[]byte]"], apart := false }
def BookOpensSaid : Prop := bookOpensRow.holds Try.pinned (OpenSpec.ofChange bookOpensSpec)

/-- ITS FALSE NEIGHBOUR: 'it returns false'. Refute it at one input. -/
def bookOpensWrong : ChangeSpec := { name := "bookOpens", fn := fun _ => fun
  | [d1, d2, d3, d4, d5] => { results := [.lit (.bool false)], args := [d1, d2, d3, d4, d5] }
  | _ => none }
def BookOpensWrongFalsely : Prop := bookOpensRow.holds Try.pinned (OpenSpec.ofChange bookOpensWrong)

/-- 'outworkerlaw21.BookKeeps': WHATEVER THE INPUT: true; the input reads as it did. -/
def bookKeepsSpec : ChangeSpec := { name := "bookKeeps", fn := fun _ => fun
  | [d1, d2, d3] => { results := [.lit (.bool true)], args := [d1, d2, d3] }
  | _ => none }
def bookKeepsRow : OpenClaim := { program := "ytfcpnjoiloahcaa", sum := "037e8a625865a19aa5cd4edc9eab6490392fcefb485bcb7dc36982539aeaf566", func := "outworker/outworkerlaw21.BookKeeps", spec := "bookKeeps", inPlace := ["slices.overlaps[int]", "slices.overlaps[[]byte]"], apart := false }
def BookKeepsSaid : Prop := bookKeepsRow.holds Try.pinned (OpenSpec.ofChange bookKeepsSpec)

/-- ITS FALSE NEIGHBOUR: 'it returns false'. Refute it at one input. -/
def bookKeepsWrong : ChangeSpec := { name := "bookKeeps", fn := fun _ => fun
  | [d1, d2, d3] => { results := [.lit (.bool false)], args := [d1, d2, d3] }
  | _ => none }
def BookKeepsWrongFalsely : Prop := bookKeepsRow.holds Try.pinned (OpenSpec.ofChange bookKeepsWrong)

/-- 'outworkerlaw21.BookOnce': WHATEVER THE INPUT: true; the input reads as it did. -/
def bookOnceSpec : ChangeSpec := { name := "bookOnce", fn := fun _ => fun
  | [d] => { results := [.lit (.bool true)], args := [d] }
  | _ => none }
def bookOnceRow : OpenClaim := { program := "ytfcpnjoiloahcaa", sum := "037e8a625865a19aa5cd4edc9eab6490392fcefb485bcb7dc36982539aeaf566", func := "outworker/outworkerlaw21.BookOnce", spec := "bookOnce", inPlace := ["slices.overlaps[int]", "slices.overlaps[[]byte]"], apart := false }
def BookOnceSaid : Prop := bookOnceRow.holds Try.pinned (OpenSpec.ofChange bookOnceSpec)

/-- ITS FALSE NEIGHBOUR: 'it returns false'. Refute it at one input. -/
def bookOnceWrong : ChangeSpec := { name := "bookOnce", fn := fun _ => fun
  | [d] => { results := [.lit (.bool false)], args := [d] }
  | _ => none }
def BookOnceWrongFalsely : Prop := bookOnceRow.holds Try.pinned (OpenSpec.ofChange bookOnceWrong)

/-- 'outworkerlaw21.BookNil': WHATEVER THE INPUT: true; the input reads as it did. -/
def bookNilSpec : ChangeSpec := { name := "bookNil", fn := fun _ => fun
  | [d] => { results := [.lit (.bool true)], args := [d] }
  | _ => none }
def bookNilRow : OpenClaim := { program := "ytfcpnjoiloahcaa", sum := "037e8a625865a19aa5cd4edc9eab6490392fcefb485bcb7dc36982539aeaf566", func := "outworker/outworkerlaw21.BookNil", spec := "bookNil", inPlace := ["slices.overlaps[int]", "slices.overlaps[[]byte]"], apart := false }
def BookNilSaid : Prop := bookNilRow.holds Try.pinned (OpenSpec.ofChange bookNilSpec)

/-- ITS FALSE NEIGHBOUR: 'it returns false'. Refute it at one input. -/
def bookNilWrong : ChangeSpec := { name := "bookNil", fn := fun _ => fun
  | [d] => { results := [.lit (.bool false)], args := [d] }
  | _ => none }
def BookNilWrongFalsely : Prop := bookNilRow.holds Try.pinned (OpenSpec.ofChange bookNilWrong)

/-- 'outworkerlaw21.BookRow': WHATEVER THE INPUT: true; the input reads as it did. -/
def bookRowSpec : ChangeSpec := { name := "bookRow", fn := fun _ => fun
  | [d1, d2] => { results := [.lit (.bool true)], args := [d1, d2] }
  | _ => none }
def bookRowRow : OpenClaim := { program := "ytfcpnjoiloahcaa", sum := "037e8a625865a19aa5cd4edc9eab6490392fcefb485bcb7dc36982539aeaf566", func := "outworker/outworkerlaw21.BookRow", spec := "bookRow", inPlace := ["slices.overlaps[int]", "slices.overlaps[[]byte]"], apart := false }
def BookRowSaid : Prop := bookRowRow.holds Try.pinned (OpenSpec.ofChange bookRowSpec)

/-- ITS FALSE NEIGHBOUR: 'it returns false'. Refute it at one input. -/
def bookRowWrong : ChangeSpec := { name := "bookRow", fn := fun _ => fun
  | [d1, d2] => { results := [.lit (.bool false)], args := [d1, d2] }
  | _ => none }
def BookRowWrongFalsely : Prop := bookRowRow.holds Try.pinned (OpenSpec.ofChange bookRowWrong)

/- THE SECOND FORM. 'bulk': how many values and letters a reading holds, each counted each time it is reached (what is shared counts as often as it is met; a slice's spare places count too). A statement '..UptoSaid' is the law's where the arguments, and the package variables that the reading takes, are together of bulk at most 1048576: NARROWER than '..Said'. Prove '..Said' where nothing that the law and all that it calls make is longer than what came in: it says more and counts as full. Else prove '..UptoSaid'. A law counts once. -/
mutual
def uptoBulk {H : Type} : DataW H → Nat
  | .lit (.string bytes) => bytes.length + 1
  | .lit _ => 1
  | .nil => 1
  | .ptr d => uptoBulk d + 1
  | .slice elems spare => uptoBulkAll elems + uptoBulkAll spare + 1
  | .agg parts => uptoBulkAll parts + 1
  | .iface _ d => uptoBulk d + 1
  | .map entries => uptoBulkEntries entries + 1
  | .held _ => 1
def uptoBulkAll {H : Type} : List (DataW H) → Nat
  | [] => 0
  | d :: r => uptoBulk d + uptoBulkAll r
def uptoBulkEntries {H : Type} : List (Lit × DataW H) → Nat
  | [] => 0
  | x :: r => uptoBulkEntry x + uptoBulkEntries r
def uptoBulkEntry {H : Type} : Lit × DataW H → Nat
  | (.string bytes, d) => bytes.length + uptoBulk d + 1
  | (_, d) => uptoBulk d + 1
 end
def uptoSmall : (H : Type) → List (DataW H) → Bool := fun _ ds => decide (uptoBulkAll ds ≤ 1048576)
def OpenSpec.upto (s : _root_.Go.ChangeSpec) : _root_.Go.OpenSpec := { _root_.Go.OpenSpec.ofChange s with cond := some uptoSmall }

/-- 'outworkerlaw03.FrameRows', WHERE WHAT IT READS IS OF BULK AT MOST 1048576: true; the input reads as it did. -/
def frameRowsUptoRow : OpenClaim := { program := "ytfcpnjoiloahcaa", sum := "037e8a625865a19aa5cd4edc9eab6490392fcefb485bcb7dc36982539aeaf566", func := "outworker/outworkerlaw03.FrameRows", spec := "frameRows", apart := false, narrowed := true }
def FrameRowsUptoSaid : Prop := frameRowsUptoRow.holds Try.pinned (OpenSpec.upto frameRowsSpec)

/-- 'outworkerlaw21.BookPlays', WHERE WHAT IT READS IS OF BULK AT MOST 1048576: true; the input reads as it did. -/
def bookPlaysUptoRow : OpenClaim := { program := "ytfcpnjoiloahcaa", sum := "037e8a625865a19aa5cd4edc9eab6490392fcefb485bcb7dc36982539aeaf566", func := "outworker/outworkerlaw21.BookPlays", spec := "bookPlays", inPlace := ["slices.overlaps[int]", "slices.overlaps[[]byte]"], apart := false, narrowed := true }
def BookPlaysUptoSaid : Prop := bookPlaysUptoRow.holds Try.pinned (OpenSpec.upto bookPlaysSpec)

/-- 'outworkerlaw21.BookOpens', WHERE WHAT IT READS IS OF BULK AT MOST 1048576: true; the input reads as it did. -/
def bookOpensUptoRow : OpenClaim := { program := "ytfcpnjoiloahcaa", sum := "037e8a625865a19aa5cd4edc9eab6490392fcefb485bcb7dc36982539aeaf566", func := "outworker/outworkerlaw21.BookOpens", spec := "bookOpens", inPlace := ["slices.overlaps[int]", "slices.overlaps[[]byte]"], apart := false, narrowed := true }
def BookOpensUptoSaid : Prop := bookOpensUptoRow.holds Try.pinned (OpenSpec.upto bookOpensSpec)

/-- 'outworkerlaw21.BookKeeps', WHERE WHAT IT READS IS OF BULK AT MOST 1048576: true; the input reads as it did. -/
def bookKeepsUptoRow : OpenClaim := { program := "ytfcpnjoiloahcaa", sum := "037e8a625865a19aa5cd4edc9eab6490392fcefb485bcb7dc36982539aeaf566", func := "outworker/outworkerlaw21.BookKeeps", spec := "bookKeeps", inPlace := ["slices.overlaps[int]", "slices.overlaps[[]byte]"], apart := false, narrowed := true }
def BookKeepsUptoSaid : Prop := bookKeepsUptoRow.holds Try.pinned (OpenSpec.upto bookKeepsSpec)

/-- 'outworkerlaw21.BookOnce', WHERE WHAT IT READS IS OF BULK AT MOST 1048576: true; the input reads as it did. -/
def bookOnceUptoRow : OpenClaim := { program := "ytfcpnjoiloahcaa", sum := "037e8a625865a19aa5cd4edc9eab6490392fcefb485bcb7dc36982539aeaf566", func := "outworker/outworkerlaw21.BookOnce", spec := "bookOnce", inPlace := ["slices.overlaps[int]", "slices.overlaps[[]byte]"], apart := false, narrowed := true }
def BookOnceUptoSaid : Prop := bookOnceUptoRow.holds Try.pinned (OpenSpec.upto bookOnceSpec)

/-- 'outworkerlaw21.BookNil', WHERE WHAT IT READS IS OF BULK AT MOST 1048576: true; the input reads as it did. -/
def bookNilUptoRow : OpenClaim := { program := "ytfcpnjoiloahcaa", sum := "037e8a625865a19aa5cd4edc9eab6490392fcefb485bcb7dc36982539aeaf566", func := "outworker/outworkerlaw21.BookNil", spec := "bookNil", inPlace := ["slices.overlaps[int]", "slices.overlaps[[]byte]"], apart := false, narrowed := true }
def BookNilUptoSaid : Prop := bookNilUptoRow.holds Try.pinned (OpenSpec.upto bookNilSpec)

/-- 'outworkerlaw21.BookRow', WHERE WHAT IT READS IS OF BULK AT MOST 1048576: true; the input reads as it did. -/
def bookRowUptoRow : OpenClaim := { program := "ytfcpnjoiloahcaa", sum := "037e8a625865a19aa5cd4edc9eab6490392fcefb485bcb7dc36982539aeaf566", func := "outworker/outworkerlaw21.BookRow", spec := "bookRow", inPlace := ["slices.overlaps[int]", "slices.overlaps[[]byte]"], apart := false, narrowed := true }
def BookRowUptoSaid : Prop := bookRowUptoRow.holds Try.pinned (OpenSpec.upto bookRowSpec)

end Rows
end Go.Proofs.Ytfcpnjoiloahcaa
