/-
  No cell of these rows narrows 'for every input' (looked for: loops, veiled, ifaces, maps, wideKeys, modest, calm, conditions, laid).
  DERIVED. THE GIVEN ROWS OF THIS SEAT. 11 by the template 'for every input the law returns true; each argument reads behind the call as it read before'; 0 by the template 'total and deterministic' (their statements: YtmklopaleiennaaTotals.lean).
  GIVEN WITH THE SEED: the statements are not yours to turn. If you find one false, say at which input.
  Laid BY PROGRAM, IN A SANDBOX (cutbox-rows.mjs): the forced cells as the released guide's own fill.sh prints them over the translation 57d735fba0a27c2b… (all of the seat's roots in one cut). By AI agents, Wed Nov 11 2026. No macro, syntax, notation, axiom, sorry.
-/
import Derived.Test.YtmklopaleiennaaChecked
import GoSem.Claim
import GoSem.ClaimJoined
import GoSem.ClaimMapViews
import Derived.JoinedTies
import Derived.KernelRfl
namespace Go.Proofs.Ytmklopaleiennaa
/- THE CELL 'sum', in the pinned program and in every row, IS THE sha256 OF THE DUMP (.gsa) THAT YtmklopaleiennaaProg.lean LOADS. Nothing in Lean hashes anything: it is a label: what it is worth is what the hold of that sum in a sandbox is worth. -/
noncomputable def Try.pinned : Pinned := { name := "ytmklopaleiennaa", sum := "57d735fba0a27c2b3e21990484b8e4d67609d7f205f97b69da23de3bef27fff9", checked := Try.checked }
namespace Rows
def none {H : Type} : Left H := { results := [], args := [] }

/-- 'outworkerlaw20.FileSure': WHATEVER THE INPUT: true; the input reads as it did. -/
def fileSureSpec : ChangeSpec := { name := "fileSure", fn := fun _ => fun
  | [d1, d2, d3] => { results := [.lit (.bool true)], args := [d1, d2, d3] }
  | _ => none }
def fileSureRow : OpenClaim := { program := "ytmklopaleiennaa", sum := "57d735fba0a27c2b3e21990484b8e4d67609d7f205f97b69da23de3bef27fff9", func := "outworker/outworkerlaw20.FileSure", spec := "fileSure", apart := false }
def FileSureSaid : Prop := fileSureRow.holds Try.pinned (OpenSpec.ofChange fileSureSpec)

/-- ITS FALSE NEIGHBOUR: 'it returns false'. Refute it at one input. -/
def fileSureWrong : ChangeSpec := { name := "fileSure", fn := fun _ => fun
  | [d1, d2, d3] => { results := [.lit (.bool false)], args := [d1, d2, d3] }
  | _ => none }
def FileSureWrongFalsely : Prop := fileSureRow.holds Try.pinned (OpenSpec.ofChange fileSureWrong)

/-- 'outworkerlaw20.FileTwice': WHATEVER THE INPUT: true; the input reads as it did. -/
def fileTwiceSpec : ChangeSpec := { name := "fileTwice", fn := fun _ => fun
  | [d1, d2, d3] => { results := [.lit (.bool true)], args := [d1, d2, d3] }
  | _ => none }
def fileTwiceRow : OpenClaim := { program := "ytmklopaleiennaa", sum := "57d735fba0a27c2b3e21990484b8e4d67609d7f205f97b69da23de3bef27fff9", func := "outworker/outworkerlaw20.FileTwice", spec := "fileTwice", apart := false }
def FileTwiceSaid : Prop := fileTwiceRow.holds Try.pinned (OpenSpec.ofChange fileTwiceSpec)

/-- ITS FALSE NEIGHBOUR: 'it returns false'. Refute it at one input. -/
def fileTwiceWrong : ChangeSpec := { name := "fileTwice", fn := fun _ => fun
  | [d1, d2, d3] => { results := [.lit (.bool false)], args := [d1, d2, d3] }
  | _ => none }
def FileTwiceWrongFalsely : Prop := fileTwiceRow.holds Try.pinned (OpenSpec.ofChange fileTwiceWrong)

/-- 'outworkerlaw20.FileOver': WHATEVER THE INPUT: true; the input reads as it did. -/
def fileOverSpec : ChangeSpec := { name := "fileOver", fn := fun _ => fun
  | [d1, d2, d3, d4] => { results := [.lit (.bool true)], args := [d1, d2, d3, d4] }
  | _ => none }
def fileOverRow : OpenClaim := { program := "ytmklopaleiennaa", sum := "57d735fba0a27c2b3e21990484b8e4d67609d7f205f97b69da23de3bef27fff9", func := "outworker/outworkerlaw20.FileOver", spec := "fileOver", apart := false }
def FileOverSaid : Prop := fileOverRow.holds Try.pinned (OpenSpec.ofChange fileOverSpec)

/-- ITS FALSE NEIGHBOUR: 'it returns false'. Refute it at one input. -/
def fileOverWrong : ChangeSpec := { name := "fileOver", fn := fun _ => fun
  | [d1, d2, d3, d4] => { results := [.lit (.bool false)], args := [d1, d2, d3, d4] }
  | _ => none }
def FileOverWrongFalsely : Prop := fileOverRow.holds Try.pinned (OpenSpec.ofChange fileOverWrong)

/-- 'outworkerlaw20.FilePlays': WHATEVER THE INPUT: true; the input reads as it did. -/
def filePlaysSpec : ChangeSpec := { name := "filePlays", fn := fun _ => fun
  | [d1, d2] => { results := [.lit (.bool true)], args := [d1, d2] }
  | _ => none }
def filePlaysRow : OpenClaim := { program := "ytmklopaleiennaa", sum := "57d735fba0a27c2b3e21990484b8e4d67609d7f205f97b69da23de3bef27fff9", func := "outworker/outworkerlaw20.FilePlays", spec := "filePlays", apart := false }
def FilePlaysSaid : Prop := filePlaysRow.holds Try.pinned (OpenSpec.ofChange filePlaysSpec)

/-- ITS FALSE NEIGHBOUR: 'it returns false'. Refute it at one input. -/
def filePlaysWrong : ChangeSpec := { name := "filePlays", fn := fun _ => fun
  | [d1, d2] => { results := [.lit (.bool false)], args := [d1, d2] }
  | _ => none }
def FilePlaysWrongFalsely : Prop := filePlaysRow.holds Try.pinned (OpenSpec.ofChange filePlaysWrong)

/-- 'outworkerlaw20.FileNil': WHATEVER THE INPUT: true; the input reads as it did. -/
def fileNilSpec : ChangeSpec := { name := "fileNil", fn := fun _ => fun
  | [d] => { results := [.lit (.bool true)], args := [d] }
  | _ => none }
def fileNilRow : OpenClaim := { program := "ytmklopaleiennaa", sum := "57d735fba0a27c2b3e21990484b8e4d67609d7f205f97b69da23de3bef27fff9", func := "outworker/outworkerlaw20.FileNil", spec := "fileNil", apart := false }
def FileNilSaid : Prop := fileNilRow.holds Try.pinned (OpenSpec.ofChange fileNilSpec)

/-- ITS FALSE NEIGHBOUR: 'it returns false'. Refute it at one input. -/
def fileNilWrong : ChangeSpec := { name := "fileNil", fn := fun _ => fun
  | [d] => { results := [.lit (.bool false)], args := [d] }
  | _ => none }
def FileNilWrongFalsely : Prop := fileNilRow.holds Try.pinned (OpenSpec.ofChange fileNilWrong)

/-- 'outworkerlaw03.FrameLays': WHATEVER THE INPUT: true; the input reads as it did. -/
def frameLaysSpec : ChangeSpec := { name := "frameLays", fn := fun _ => fun
  | [d1, d2] => { results := [.lit (.bool true)], args := [d1, d2] }
  | _ => none }
def frameLaysRow : OpenClaim := { program := "ytmklopaleiennaa", sum := "57d735fba0a27c2b3e21990484b8e4d67609d7f205f97b69da23de3bef27fff9", func := "outworker/outworkerlaw03.FrameLays", spec := "frameLays", apart := false }
def FrameLaysSaid : Prop := frameLaysRow.holds Try.pinned (OpenSpec.ofChange frameLaysSpec)

/-- ITS FALSE NEIGHBOUR: 'it returns false'. Refute it at one input. -/
def frameLaysWrong : ChangeSpec := { name := "frameLays", fn := fun _ => fun
  | [d1, d2] => { results := [.lit (.bool false)], args := [d1, d2] }
  | _ => none }
def FrameLaysWrongFalsely : Prop := frameLaysRow.holds Try.pinned (OpenSpec.ofChange frameLaysWrong)

/-- 'outworkerlaw03.FrameTakes': WHATEVER THE INPUT: true; the input reads as it did. -/
def frameTakesSpec : ChangeSpec := { name := "frameTakes", fn := fun _ => fun
  | [d1, d2] => { results := [.lit (.bool true)], args := [d1, d2] }
  | _ => none }
def frameTakesRow : OpenClaim := { program := "ytmklopaleiennaa", sum := "57d735fba0a27c2b3e21990484b8e4d67609d7f205f97b69da23de3bef27fff9", func := "outworker/outworkerlaw03.FrameTakes", spec := "frameTakes", apart := false }
def FrameTakesSaid : Prop := frameTakesRow.holds Try.pinned (OpenSpec.ofChange frameTakesSpec)

/-- ITS FALSE NEIGHBOUR: 'it returns false'. Refute it at one input. -/
def frameTakesWrong : ChangeSpec := { name := "frameTakes", fn := fun _ => fun
  | [d1, d2] => { results := [.lit (.bool false)], args := [d1, d2] }
  | _ => none }
def FrameTakesWrongFalsely : Prop := frameTakesRow.holds Try.pinned (OpenSpec.ofChange frameTakesWrong)

/-- 'outworkerlaw03.FrameBack': WHATEVER THE INPUT: true; the input reads as it did. -/
def frameBackSpec : ChangeSpec := { name := "frameBack", fn := fun _ => fun
  | [d1, d2, d3, d4, d5] => { results := [.lit (.bool true)], args := [d1, d2, d3, d4, d5] }
  | _ => none }
def frameBackRow : OpenClaim := { program := "ytmklopaleiennaa", sum := "57d735fba0a27c2b3e21990484b8e4d67609d7f205f97b69da23de3bef27fff9", func := "outworker/outworkerlaw03.FrameBack", spec := "frameBack", apart := false }
def FrameBackSaid : Prop := frameBackRow.holds Try.pinned (OpenSpec.ofChange frameBackSpec)

/-- ITS FALSE NEIGHBOUR: 'it returns false'. Refute it at one input. -/
def frameBackWrong : ChangeSpec := { name := "frameBack", fn := fun _ => fun
  | [d1, d2, d3, d4, d5] => { results := [.lit (.bool false)], args := [d1, d2, d3, d4, d5] }
  | _ => none }
def FrameBackWrongFalsely : Prop := frameBackRow.holds Try.pinned (OpenSpec.ofChange frameBackWrong)

/-- 'outworkerlaw03.FrameApart': WHATEVER THE INPUT: true; the input reads as it did. -/
def frameApartSpec : ChangeSpec := { name := "frameApart", fn := fun _ => fun
  | [d1, d2] => { results := [.lit (.bool true)], args := [d1, d2] }
  | _ => none }
def frameApartRow : OpenClaim := { program := "ytmklopaleiennaa", sum := "57d735fba0a27c2b3e21990484b8e4d67609d7f205f97b69da23de3bef27fff9", func := "outworker/outworkerlaw03.FrameApart", spec := "frameApart", apart := false }
def FrameApartSaid : Prop := frameApartRow.holds Try.pinned (OpenSpec.ofChange frameApartSpec)

/-- ITS FALSE NEIGHBOUR: 'it returns false'. Refute it at one input. -/
def frameApartWrong : ChangeSpec := { name := "frameApart", fn := fun _ => fun
  | [d1, d2] => { results := [.lit (.bool false)], args := [d1, d2] }
  | _ => none }
def FrameApartWrongFalsely : Prop := frameApartRow.holds Try.pinned (OpenSpec.ofChange frameApartWrong)

/-- 'outworkerlaw03.FrameRows': WHATEVER THE INPUT: true; the input reads as it did. -/
def frameRowsSpec : ChangeSpec := { name := "frameRows", fn := fun _ => fun
  | [d1, d2, d3, d4] => { results := [.lit (.bool true)], args := [d1, d2, d3, d4] }
  | _ => none }
def frameRowsRow : OpenClaim := { program := "ytmklopaleiennaa", sum := "57d735fba0a27c2b3e21990484b8e4d67609d7f205f97b69da23de3bef27fff9", func := "outworker/outworkerlaw03.FrameRows", spec := "frameRows", apart := false }
def FrameRowsSaid : Prop := frameRowsRow.holds Try.pinned (OpenSpec.ofChange frameRowsSpec)

/-- ITS FALSE NEIGHBOUR: 'it returns false'. Refute it at one input. -/
def frameRowsWrong : ChangeSpec := { name := "frameRows", fn := fun _ => fun
  | [d1, d2, d3, d4] => { results := [.lit (.bool false)], args := [d1, d2, d3, d4] }
  | _ => none }
def FrameRowsWrongFalsely : Prop := frameRowsRow.holds Try.pinned (OpenSpec.ofChange frameRowsWrong)

/-- 'outworkerlaw03.FrameAll': WHATEVER THE INPUT: true; the input reads as it did. -/
def frameAllSpec : ChangeSpec := { name := "frameAll", fn := fun _ => fun
  | [d1, d2] => { results := [.lit (.bool true)], args := [d1, d2] }
  | _ => none }
def frameAllRow : OpenClaim := { program := "ytmklopaleiennaa", sum := "57d735fba0a27c2b3e21990484b8e4d67609d7f205f97b69da23de3bef27fff9", func := "outworker/outworkerlaw03.FrameAll", spec := "frameAll", apart := false }
def FrameAllSaid : Prop := frameAllRow.holds Try.pinned (OpenSpec.ofChange frameAllSpec)

/-- ITS FALSE NEIGHBOUR: 'it returns false'. Refute it at one input. -/
def frameAllWrong : ChangeSpec := { name := "frameAll", fn := fun _ => fun
  | [d1, d2] => { results := [.lit (.bool false)], args := [d1, d2] }
  | _ => none }
def FrameAllWrongFalsely : Prop := frameAllRow.holds Try.pinned (OpenSpec.ofChange frameAllWrong)

/- THE SECOND FORM. 'bulk': how many values and letters a reading holds, each counted each time it is reached (what is shared counts as often as it is met; a slice's spare places count too). A statement '..UptoSaid' is the law's where the arguments, and the package variables that the reading takes, are together of bulk at most 1048576: NARROWER than '..Said'. Prove '..Said' where nothing that the law and all that it calls make is longer than what came in: it says more and counts as full. Else prove '..UptoSaid'. A law counts once. -/
mutual
def uptoBulk {H : Type} : DataW H → Nat
  | .lit (.string bytes) => bytes.length + 1
  | .lit _ => 1
  | .nil => 1
  | .ptr d => uptoBulk d + 1
  | .slice elems spare => uptoBulkAll elems + uptoBulkAll spare + 1
  | .agg parts => uptoBulkAll parts + 1
  | .iface _ d => uptoBulk d + 1
  | .map entries => uptoBulkEntries entries + 1
  | .held _ => 1
def uptoBulkAll {H : Type} : List (DataW H) → Nat
  | [] => 0
  | d :: r => uptoBulk d + uptoBulkAll r
def uptoBulkEntries {H : Type} : List (Lit × DataW H) → Nat
  | [] => 0
  | x :: r => uptoBulkEntry x + uptoBulkEntries r
def uptoBulkEntry {H : Type} : Lit × DataW H → Nat
  | (.string bytes, d) => bytes.length + uptoBulk d + 1
  | (_, d) => uptoBulk d + 1
 end
def uptoSmall : (H : Type) → List (DataW H) → Bool := fun _ ds => decide (uptoBulkAll ds ≤ 1048576)
def OpenSpec.upto (s : _root_.Go.ChangeSpec) : _root_.Go.OpenSpec := { _root_.Go.OpenSpec.ofChange s with cond := some uptoSmall }

/-- 'outworkerlaw20.FileSure', WHERE WHAT IT READS IS OF BULK AT MOST 1048576: true; the input reads as it did. -/
def fileSureUptoRow : OpenClaim := { program := "ytmklopaleiennaa", sum := "57d735fba0a27c2b3e21990484b8e4d67609d7f205f97b69da23de3bef27fff9", func := "outworker/outworkerlaw20.FileSure", spec := "fileSure", apart := false, narrowed := true }
def FileSureUptoSaid : Prop := fileSureUptoRow.holds Try.pinned (OpenSpec.upto fileSureSpec)

/-- 'outworkerlaw20.FileTwice', WHERE WHAT IT READS IS OF BULK AT MOST 1048576: true; the input reads as it did. -/
def fileTwiceUptoRow : OpenClaim := { program := "ytmklopaleiennaa", sum := "57d735fba0a27c2b3e21990484b8e4d67609d7f205f97b69da23de3bef27fff9", func := "outworker/outworkerlaw20.FileTwice", spec := "fileTwice", apart := false, narrowed := true }
def FileTwiceUptoSaid : Prop := fileTwiceUptoRow.holds Try.pinned (OpenSpec.upto fileTwiceSpec)

/-- 'outworkerlaw20.FileOver', WHERE WHAT IT READS IS OF BULK AT MOST 1048576: true; the input reads as it did. -/
def fileOverUptoRow : OpenClaim := { program := "ytmklopaleiennaa", sum := "57d735fba0a27c2b3e21990484b8e4d67609d7f205f97b69da23de3bef27fff9", func := "outworker/outworkerlaw20.FileOver", spec := "fileOver", apart := false, narrowed := true }
def FileOverUptoSaid : Prop := fileOverUptoRow.holds Try.pinned (OpenSpec.upto fileOverSpec)

/-- 'outworkerlaw20.FilePlays', WHERE WHAT IT READS IS OF BULK AT MOST 1048576: true; the input reads as it did. -/
def filePlaysUptoRow : OpenClaim := { program := "ytmklopaleiennaa", sum := "57d735fba0a27c2b3e21990484b8e4d67609d7f205f97b69da23de3bef27fff9", func := "outworker/outworkerlaw20.FilePlays", spec := "filePlays", apart := false, narrowed := true }
def FilePlaysUptoSaid : Prop := filePlaysUptoRow.holds Try.pinned (OpenSpec.upto filePlaysSpec)

/-- 'outworkerlaw20.FileNil', WHERE WHAT IT READS IS OF BULK AT MOST 1048576: true; the input reads as it did. -/
def fileNilUptoRow : OpenClaim := { program := "ytmklopaleiennaa", sum := "57d735fba0a27c2b3e21990484b8e4d67609d7f205f97b69da23de3bef27fff9", func := "outworker/outworkerlaw20.FileNil", spec := "fileNil", apart := false, narrowed := true }
def FileNilUptoSaid : Prop := fileNilUptoRow.holds Try.pinned (OpenSpec.upto fileNilSpec)

/-- 'outworkerlaw03.FrameLays', WHERE WHAT IT READS IS OF BULK AT MOST 1048576: true; the input reads as it did. -/
def frameLaysUptoRow : OpenClaim := { program := "ytmklopaleiennaa", sum := "57d735fba0a27c2b3e21990484b8e4d67609d7f205f97b69da23de3bef27fff9", func := "outworker/outworkerlaw03.FrameLays", spec := "frameLays", apart := false, narrowed := true }
def FrameLaysUptoSaid : Prop := frameLaysUptoRow.holds Try.pinned (OpenSpec.upto frameLaysSpec)

/-- 'outworkerlaw03.FrameTakes', WHERE WHAT IT READS IS OF BULK AT MOST 1048576: true; the input reads as it did. -/
def frameTakesUptoRow : OpenClaim := { program := "ytmklopaleiennaa", sum := "57d735fba0a27c2b3e21990484b8e4d67609d7f205f97b69da23de3bef27fff9", func := "outworker/outworkerlaw03.FrameTakes", spec := "frameTakes", apart := false, narrowed := true }
def FrameTakesUptoSaid : Prop := frameTakesUptoRow.holds Try.pinned (OpenSpec.upto frameTakesSpec)

/-- 'outworkerlaw03.FrameBack', WHERE WHAT IT READS IS OF BULK AT MOST 1048576: true; the input reads as it did. -/
def frameBackUptoRow : OpenClaim := { program := "ytmklopaleiennaa", sum := "57d735fba0a27c2b3e21990484b8e4d67609d7f205f97b69da23de3bef27fff9", func := "outworker/outworkerlaw03.FrameBack", spec := "frameBack", apart := false, narrowed := true }
def FrameBackUptoSaid : Prop := frameBackUptoRow.holds Try.pinned (OpenSpec.upto frameBackSpec)

/-- 'outworkerlaw03.FrameApart', WHERE WHAT IT READS IS OF BULK AT MOST 1048576: true; the input reads as it did. -/
def frameApartUptoRow : OpenClaim := { program := "ytmklopaleiennaa", sum := "57d735fba0a27c2b3e21990484b8e4d67609d7f205f97b69da23de3bef27fff9", func := "outworker/outworkerlaw03.FrameApart", spec := "frameApart", apart := false, narrowed := true }
def FrameApartUptoSaid : Prop := frameApartUptoRow.holds Try.pinned (OpenSpec.upto frameApartSpec)

/-- 'outworkerlaw03.FrameRows', WHERE WHAT IT READS IS OF BULK AT MOST 1048576: true; the input reads as it did. -/
def frameRowsUptoRow : OpenClaim := { program := "ytmklopaleiennaa", sum := "57d735fba0a27c2b3e21990484b8e4d67609d7f205f97b69da23de3bef27fff9", func := "outworker/outworkerlaw03.FrameRows", spec := "frameRows", apart := false, narrowed := true }
def FrameRowsUptoSaid : Prop := frameRowsUptoRow.holds Try.pinned (OpenSpec.upto frameRowsSpec)

/-- 'outworkerlaw03.FrameAll', WHERE WHAT IT READS IS OF BULK AT MOST 1048576: true; the input reads as it did. -/
def frameAllUptoRow : OpenClaim := { program := "ytmklopaleiennaa", sum := "57d735fba0a27c2b3e21990484b8e4d67609d7f205f97b69da23de3bef27fff9", func := "outworker/outworkerlaw03.FrameAll", spec := "frameAll", apart := false, narrowed := true }
def FrameAllUptoSaid : Prop := frameAllUptoRow.holds Try.pinned (OpenSpec.upto frameAllSpec)

end Rows
end Go.Proofs.Ytmklopaleiennaa
